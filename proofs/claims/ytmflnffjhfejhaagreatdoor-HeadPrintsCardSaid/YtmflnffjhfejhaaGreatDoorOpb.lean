/-
  A slice of bytes as a card's parameter: opened to its bytes.
-/
import Derived.WalkKit
import Derived.ProofKit
import Derived.OpenShut
import Derived.ShutString
import Derived.ChangeOld
import Derived.Below
import Derived.Test.YtmflnffjhfejhaaGreatDoorRows
import Derived.Test.YtmflnffjhfejhaaGreatDoorRow
namespace Go.Proofs.YtmflnffjhfejhaaGreatDoor
open Go.ChangeShapes Go.WideShapes Go.ChangeAt Go.RowKit
set_option maxRecDepth 100000
set_option linter.unusedVariables false
set_option linter.unusedSimpArgs false

theorem sl_of_ints {w : World} {x : Addr} {len cap : Nat} {zs : List Int} (h1 : len ≤ cap) (h2 : cap ≤ maxLen) (h3 : len ≤ zs.length) (h4 : ∀ i, i < zs.length → w.cell? (x.add i) = some (.int .u8 (zs.getD i 0))) (h5 : ∀ n ∈ zs, (Lit.int .u8 n).wf = true) : ∃ l, SlB w (.slice (some x) len cap) l := by
  refine ⟨(zs.take len).map fun n => UInt8.ofNat n.toNat, some x, cap, by simp; omega, by simp; omega, h2, (fun h => by cases h), fun j u hu => ?_⟩
  have hj : j < len ∧ j < zs.length := by
    have := (List.getElem?_eq_some_iff.1 hu).1
    simp at this; omega
  have hc := h4 j hj.2
  have hm : zs.getD j 0 ∈ zs := by simp [List.getD, hj.2]
  have hw := wf_byt (h5 _ hm)
  rw [hw] at hc
  show w.cell? (x.add j) = some u
  rw [hc]
  simp [List.getElem?_take_of_lt hj.1, List.getElem?_eq_getElem hj.2] at hu
  rw [← hu]
  simp [List.getD, hj.2]
def TrueW (x : UInt8) : Prop := True
section
variable {H : Type} {enc : TypeId × Value → H} {w : World} {base : Nat} {spare : Nat → Bool} {held : Bool}
theorem open_u8 {r : Reach} {b0 : Nat} {v : Value} {d : DataW H} {p : List MemPlace} (hv : Value.okWide Tryz.prog w r b0 22 v) (h : DataW.Trod enc Tryz.prog w base spare held 22 v d p) :
    ∃ ls : List UInt8, SlB w v ls ∧ ∀ x ∈ ls, TrueW x := by
  obtain ⟨a0, len0, cap0, rfl⟩ := okWide_slice Tryz.underlying22 hv
  obtain ⟨l, hl⟩ : ∃ l, SlB w (.slice a0 len0 cap0) l := by
    obtain ⟨fuel, hf⟩ := h
    rcases open_ints Tryz.underlying22 Tryz.underlying5 (by kernel_rfl) hf with ⟨hcs, _⟩ | ⟨x, l, c, zs, hcs, _, hl, hm, hz, _, hcell, hwz⟩
    · simp [Value.cells] at hcs
      obtain ⟨rfl, rfl, rfl⟩ := hcs
      exact ⟨[], sl_nil w⟩
    · simp [Value.cells] at hcs
      obtain ⟨rfl, rfl, rfl⟩ := hcs
      exact sl_of_ints hl hm (by rw [hz]; split <;> omega) hcell hwz
  exact ⟨l, hl, fun _ _ => trivial⟩
end
end Go.Proofs.YtmflnffjhfejhaaGreatDoor
