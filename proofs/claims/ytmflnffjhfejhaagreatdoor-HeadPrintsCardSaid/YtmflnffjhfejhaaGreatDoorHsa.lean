/-
  ref09.Same of two equal heads.
-/
import Derived.BigGuardPart
import Derived.BigQuiet
import Derived.Deep.DrawnRows
import Derived.Test.YtmflnffjhfejhaaGreatDoorRows
import Derived.Test.YtmflnffjhfejhaaGreatDoorHhd
import Derived.Test.YtmflnffjhfejhaaGreatDoorFge
namespace Go.Proofs.YtmflnffjhfejhaaGreatDoor
open Go.RowKit
set_option maxRecDepth 100000
attribute [local go_sem ↓] Go.wp_at_zero Go.wp_at_succ
set_option linter.unusedVariables false
set_option linter.unusedSimpArgs false

theorem neq_pair (x y : List UInt8) (W : World) : (binOp .neq 53 (.agg #[Str x, Str y]) (.agg #[Str x, Str y])).run Tryz.prog W = .ok (.bool false) W := by
  have hu : Tryz.prog.underlying 53 = some (.struct (Tryz.prog.fieldsOf 53)) := by kernel_rfl
  have hp : Tryz.prog.stoodInHeld 53 = false := by kernel_rfl
  have hB : (match (Tryz.prog.fieldsOf 53).toList with | [f0, f1] => f0.type == 9 && f1.type == 9 && f0.offset == 0 && f1.offset == 1 && f0.name != "_" && f1.name != "_" | _ => false) = true := by kernel_rfl
  obtain ⟨f0, f1, hf⟩ : ∃ f0 f1, (Tryz.prog.fieldsOf 53).toList = [f0, f1] := by
    revert hB
    generalize (Tryz.prog.fieldsOf 53).toList = L
    intro hB
    match L, hB with
    | [a, b], _ => exact ⟨a, b, rfl⟩
  rw [hf] at hB
  simp only [Bool.and_eq_true, beq_iff_eq, bne_iff_ne, ne_eq] at hB
  obtain ⟨⟨⟨⟨⟨h0, h1⟩, o0⟩, o1⟩, n0⟩, n1⟩ := hB
  rw [run_neq_struct, show (10000 : Nat) = 9999 + 1 from rfl, run_equalIn_agg _ _ _ _ _ hu hp, hf]
  simp only [Op.eqFields, Sem.run_bind, h0, h1, o0, o1, n0, n1]
  simp [part, Tryz.isAgg9, Result.andThen, Sem.run_bind, run_equalIn_string (P := Tryz.prog) (w := W) 9998 9 _ _ Tryz.underlying9]
theorem eqGuard_pair (x y : Operand) (a b : List UInt8) (c d : List UInt8) (W : World) : (eqGuard .neq 53 x y (.agg #[Str a, Str b]) (.agg #[Str c, Str d])).run Tryz.prog W = .ok () W :=
  run_eqGuard_agg W .neq 53 x y _ _ (by kernel_rfl)
set_option maxHeartbeats 2000000 in
theorem refSame_any (a b : List UInt8) (st : Int) (v1 v2 : Value) (fs : List Pr) (hl : fs.length ≤ 100000) (w : World) (h1 : RowC 2 prC w v1 fs) (h2 : RowC 2 prC w v2 fs) :
    Calls Tryz.prog 11 #[.agg #[Str a, Str b, .int .i64 st, v1], .agg #[Str a, Str b, .int .i64 st, v2]] w fun e w' => e = .returned (.bool true) ∧ Ext w w' := by
  obtain ⟨a1, c1, rfl, hc1, hm1, hcl1⟩ := rowP_shape h1
  obtain ⟨a2, c2, rfl, hc2, hm2, hcl2⟩ := rowP_shape h2
  have HI := Lib.hid (fun g o n cap j h W => index_pair g o n cap j h W)
  have hnil : fs = [] → fs.length = 0 := fun h => by rw [h]; rfl
  obtain ⟨n, hn⟩ : ∃ n, fs.length = n := ⟨_, rfl⟩
  rw [hn] at hc1 hc2 hcl1 hcl2 hl hnil ⊢
  have HC1 := Lib.hid hcl1; have HC2 := Lib.hid hcl2
  have HNIL := Lib.hid hnil
  clear hcl1 hcl2 h1 h2 hn hnil
  have hss : ∀ l : List UInt8, (l == l) = true := fun l => by simp
  go_enter Tryz.func11, Tryz.ntmps11
  go_wp2
  obtain ⟨W2, hW2⟩ : ∃ W2, (w.alloc (.cells #[Str a, Str b, .int .i64 st, .slice a1 n c1] 29)).alloc (.cells #[Str a, Str b, .int .i64 st, .slice a2 n c2] 29) = W2 := ⟨_, rfl⟩
  have hx2 : Ext w W2 := by rw [← hW2]; exact ext_trans (Below.alloc (Below.refl _ _) (Nat.le_refl _) _) (Below.alloc (Below.refl _ _) (Nat.le_refl _) _)
  have hb1 : W2.heap[w.heap.size]? = some (.cells #[Str a, Str b, .int .i64 st, .slice a1 n c1] 29 (0, 0)) := by
    rw [← hW2]
    exact ext_at (Below.alloc (Below.refl _ _) (Nat.le_refl _) _) (Array.getElem?_push_size)
  have hb2 : W2.heap[w.heap.size + 1]? = some (.cells #[Str a, Str b, .int .i64 st, .slice a2 n c2] 29 (0, 0)) := by
    rw [← hW2]
    have := allocs_at w [.cells #[Str a, Str b, .int .i64 st, .slice a1 n c1] 29, .cells #[Str a, Str b, .int .i64 st, .slice a2 n c2] 29] 1 _ rfl
    exact this
  rw [hW2]
  have HX2 := Lib.hid hx2; have HB1 := Lib.hid hb1; have HB2 := Lib.hid hb2
  clear hW2 hx2 hb1 hb2 hss
  generalize w.heap.size = g0 at *
  go_loopw [37] (fun i wr => ∃ k : Nat, k ≤ n ∧ i = .int .i64 k ∧ Hid (Ext W2 wr)) (fun i _ => n - (intOf i).toNat)
  case atStart => exact ⟨0, by omega, rfl, Lib.hid (Below.refl _ _)⟩
  case round =>
    obtain ⟨k, hk, rfl, HXR⟩ := hrel
    by_cases h3 : k < n
    · obtain ⟨p0, p1, p2, p3⟩ := cells4 (ext_at HXR.out HB1.out)
      obtain ⟨q0, q1, q2, q3⟩ := cells4 (ext_at HXR.out HB2.out)
      rcases HC1.out with h | ⟨g, o, rfl, hcc⟩
      · have := HNIL.out h; omega
      rcases HC2.out with h | ⟨g', o', rfl, hcc'⟩
      · have := HNIL.out h; omega
      have hx := ext_trans HX2.out HXR.out
      obtain ⟨a0, a1⟩ := hcc k h3
      obtain ⟨b0, b1⟩ := hcc' k h3
      replace a0 := ext_cell hx a0; replace a1 := ext_cell hx a1; replace b0 := ext_cell hx b0; replace b1 := ext_cell hx b1
      have i1 := HI.out g o n c1 k h3
      have i2 := HI.out g' o' n c2 k h3
      clear hcc hcc' hx
      generalize fs.getD k prD = p at *
      generalize o + 2 * k = q at *
      generalize o' + 2 * k = q' at *
      obtain ⟨pn, pv⟩ := p
      simp only at a0 a1 b0 b1
      have hneq := neq_pair pn pv
      have hguard := fun x y => eqGuard_pair x y pn pv pn pv
      go_wp2
      refine wp_region_quiet_lit (by kernel_rfl) (by kernel_rfl) ?_
      repeat (first
        | go_big_quiet_skip
        | (go_big_quiet_want; go_big_quiet_op; (try go_bits); first | go_big_quiet_on | go_big_quiet_call (fail)))
      refine wpQuiet_nil ?_
      intro _ hw'
      obtain ⟨nq, hw''⟩ := hw'
      subst hw''
      go_wp2
      go_roundw
      case rel => exact ⟨k + 1, by omega, by go_num, Lib.hid (Below.drewN HXR.out _)⟩
      case measure => simp [intOf] <;> omega
    · go_wp2
      go_ret
      exact ⟨rfl, ext_trans HX2.out HXR.out⟩
end Go.Proofs.YtmflnffjhfejhaaGreatDoor
