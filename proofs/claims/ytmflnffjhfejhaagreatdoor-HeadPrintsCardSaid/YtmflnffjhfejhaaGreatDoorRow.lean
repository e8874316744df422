/-
  What a slice of bytes that came in is, as bytes; a string that came in, as bytes.
-/
import Derived.Test.YtmflnffjhfejhaaGreatDoorKit
namespace Go.Proofs.YtmflnffjhfejhaaGreatDoor

/-- The numbers of a slice of integers that came in. -/
def IsRow (k : IntKind) (w : World) (a : Option Addr) (len cap : Nat) (zs : List Int) : Prop :=
  (a = none ∧ len = 0 ∧ cap = 0 ∧ zs = []) ∨
  ∃ x, a = some x ∧ len ≤ cap ∧ cap ≤ maxLen ∧ zs.length = cap ∧ (∀ i, i < zs.length → w.cell? (x.add i) = some (.int k (zs.getD i 0))) ∧ ∀ n ∈ zs, (Lit.int k n).wf = true
theorem wf_byt {n : Int} (h : (Lit.int .u8 n).wf = true) : Value.int .u8 n = Byt (UInt8.ofNat n.toNat) := by
  simp [Lit.wf] at h
  have e1 : IntKind.u8.min = 0 := rfl
  have e2 : IntKind.u8.max = 255 := rfl
  simp only [Byt, UInt8.toNat_ofNat']
  congr 1
  omega
theorem isRow_sl {w : World} {a : Option Addr} {len cap : Nat} {zs : List Int} (h : IsRow .u8 w a len cap zs) : ∃ l, SlB w (.slice a len cap) l := by
  rcases h with ⟨rfl, rfl, rfl, rfl⟩ | ⟨x, rfl, h1, h2, h3, h4, h5⟩
  · exact ⟨[], sl_nil w⟩
  · refine ⟨(zs.take len).map fun n => UInt8.ofNat n.toNat, some x, cap, by simp; omega, by simp; omega, h2, (fun h => by cases h), fun j u hu => ?_⟩
    have hj : j < len ∧ j < zs.length := by
      have := (List.getElem?_eq_some_iff.1 hu).1
      simp at this; omega
    have hc := h4 j hj.2
    have hm : zs.getD j 0 ∈ zs := by simp [List.getD, hj.2]
    have hw := wf_byt (h5 _ hm)
    rw [hw] at hc
    show w.cell? (x.add j) = some u
    rw [hc]
    simp [List.getElem?_take_of_lt hj.1, List.getElem?_eq_getElem hj.2] at hu
    rw [← hu]
    simp [List.getD, hj.2]
end Go.Proofs.YtmflnffjhfejhaaGreatDoor
