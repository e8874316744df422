/-
  B64Streams: bytes that come one part behind the other have, together, the letters of all; none is told ahead of its time; bytes aren't kept: for every list of rows of bytes.
  The frame was turned from one that the kit's program (proof-skeleton) wrote.
-/
import Derived.Test.YtkfhbahgoemnpaaRows
import Derived.Test.YtkfhbahgoemnpaaRow
import Derived.Test.YtkfhbahgoemnpaaSts
import Derived.WalkKit
import Derived.ProofKit
import Derived.OpenShut
import Derived.Deep.Slices
namespace Go.Proofs.Ytkfhbahgoemnpaa.b64Streams
open Go.ChangeShapes Go.WideShapes Go.ChangeAt Go.RowKit
set_option linter.unusedVariables false

theorem own : ownKnob Try.prog.godebug = none := by kernel_rfl

theorem laidOut : laidOutB Try.prog = true := by kernel_rfl
theorem walk (a0 : Option Addr) (len0 cap0 : Nat) (w : World) (w0 : IsRows w a0 len0) (hnil : a0 = none → cap0 = 0) (hcap : len0 ≤ cap0) (hmax : cap0 ≤ maxLen) :
    Calls Try.prog 4 #[.slice a0 len0 cap0] w fun e w' => e = .returned (.bool true) ∧ Below w.heap.size w w' :=
  streams_any a0 len0 cap0 w w0 hnil hcap hmax

set_option maxRecDepth 100000 in
theorem lifted (os : Os) (started : os.Started) (H : Type) (enc : TypeId × Value → H) :
    ReturnsInHanded {} Try.checked os 4 .any (Rows.b64StreamsSpec.pre6 enc Try.prog Try.f4 Rows.b64StreamsRow.domain false) (Rows.b64StreamsSpec.post enc Try.prog Try.f4 false true false false) := by
  refine returnsInHanded_of_change (C := Try.checked) own started (by kernel_rfl) Try.func4
    (ChangeSpec.witness6 (enc := enc) (C := Try.checked) false ⟨#[], #[.slice none 0 0], []⟩ 8 (by kernel_rfl) (by kernel_rfl) (by kernel_rfl) (by kernel_rfl)) ?_
  intro W base args ds gs before hval0 hW hcnd _
  have hval : ∀ (j : Nat) t v, Try.f4.params[j]? = some t → args[j]? = some v → Value.okWide Try.prog W .any base t v := hval0
  have hW' := hW
  obtain ⟨p, q, hA0, hV, rfl, hfz, hnd⟩ := hW
  have hA : DataW.TrodAll enc Try.prog W 0 (fun _ => true) true Try.f4.params.toList args.toList ds p := hA0
  rw [Try.params4] at hA hval
  obtain ⟨v0, vs0, d0, ds0, p0, q0, hargs, rfl, rfl, h0, r0⟩ := trodAll_cons hA
  obtain ⟨rfl, rfl, rfl⟩ := trodAll_nil r0
  obtain rfl : args = #[v0] := by cases args; simp_all
  obtain ⟨rfl, rfl⟩ := trodVars_none hV
  obtain ⟨a0, len0, cap0, rfl⟩ := okWide_slice Try.underlying28 (hval 0 28 v0 rfl rfl)
  have k0 := h0
  have lt0 : ∀ x ∈ p0, x.block < W.heap.size := by obtain ⟨m, hm⟩ := k0; exact DataW.trod_lt m _ _ _ hm
  obtain ⟨w0, hnil, hcap, hmax⟩ : IsRows W a0 len0 ∧ (a0 = none → cap0 = 0) ∧ len0 ≤ cap0 ∧ cap0 ≤ maxLen := by
    obtain ⟨fuel, hf⟩ := h0
    rcases Go.Deep.open_slice1 Try.underlying28 (by kernel_rfl) hf with ⟨hcs, _⟩ | ⟨x, l, c, m, n, V, D, Pl, hcs, _, hl, hm, hmm, _, hx⟩
    · simp [Value.cells] at hcs
      obtain ⟨rfl, rfl, rfl⟩ := hcs
      exact ⟨fun i hi => by omega, fun _ => rfl, Nat.le_refl _, by simp [maxLen]⟩
    · simp [Value.cells] at hcs
      obtain ⟨rfl, rfl, rfl⟩ := hcs
      refine ⟨fun i hi => ?_, (fun h => by cases h), hl, hm⟩
      have hi2 : i < m := by simp at hmm; omega
      obtain ⟨hc, ht⟩ := hx i hi2
      rcases open_ints Try.underlying22 Try.underlying5 (by kernel_rfl) ht with ⟨hcs, _⟩ | ⟨y, ly, cy, zs, hcs, _, hly, hmy, hz, _, hcell, hwz⟩
      · have hv : V i = .slice none 0 0 := by simpa using hcs
        exact ⟨V i, [], hc, by rw [hv]; exact sl_nil W⟩
      · have hv : V i = .slice (some y) ly cy := by simpa using hcs
        obtain ⟨lb, hlb⟩ := isRow_sl (w := W) (a := some y) (len := ly) (cap := cy) (zs := zs) (.inr ⟨y, rfl, hly, hmy, by simpa using hz, hcell, hwz⟩)
        exact ⟨V i, lb, hc, by rw [hv]; exact hlb⟩
  clear hA0 hval0
  refine (walk a0 len0 cap0 W w0 hnil hcap hmax).mono fun e W' ⟨he, bel⟩ => ?_
  subst he
  exact ⟨_, rfl, _, _, _, [], _, [], hW', trodAll_mk1 (shut_bool Try.underlying4 _), (trodAll_cons_mk (Below.trod laidOut (by kernel_rfl) (of_decide_eq_true (by kernel_rfl)) k0 bel lt0) trodAll_mk0), rfl, bel.frame _, fun h => by cases h⟩

theorem over : Rows.b64StreamsRow.holds Try.pinned (OpenSpec.ofChange Rows.b64StreamsSpec) :=
  OpenClaim.holds_of_wide 4 Try.f4 rfl rfl rfl rfl rfl rfl rfl ⟨rfl, rfl, rfl, rfl, rfl⟩ rfl rfl rfl rfl rfl (by kernel_rfl) Try.func4 (by kernel_rfl)
    (of_decide_eq_true (by kernel_rfl)) (by unfold Func.isWrapper; first | (rw [if_pos (by decide +kernel)]; kernel_rfl) | (rw [if_neg (by decide +kernel)]; exact ⟨rfl, rfl⟩))
    (fun os started H enc _ => lifted os started H enc)

theorem proved : Rows.B64StreamsSaid := over
end Go.Proofs.Ytkfhbahgoemnpaa.b64Streams
