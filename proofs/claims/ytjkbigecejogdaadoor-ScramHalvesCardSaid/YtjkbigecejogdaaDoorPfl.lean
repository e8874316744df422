/-
  Pieces and attributes: lengths and members.
-/
import Derived.Test.YtjkbigecejogdaaDoorRows
import Derived.Test.YtjkbigecejogdaaDoorScd
import Derived.Test.YtjkbigecejogdaaDoorAtr
namespace Go.Proofs.YtjkbigecejogdaaDoor
open Go.RowKit
set_option linter.unusedVariables false
set_option linter.unusedSimpArgs false
theorem nxR_mem (nm : List UInt8) (ps : List (List UInt8)) : ∀ p ∈ nxR nm ps, p ∈ ps := by
  intro p hp
  unfold nxR at hp
  split at hp
  · exact List.mem_of_mem_tail hp
  · exact hp
theorem nxR_len (nm : List UInt8) (ps : List (List UInt8)) : (nxR nm ps).length ≤ ps.length := by
  unfold nxR; split <;> simp
theorem nxT_len (nm : List UInt8) (ps : List (List UInt8)) (m : Nat) (h : ∀ p ∈ ps, p.length ≤ m) : (nxT nm ps).length ≤ m := by
  unfold nxT
  split
  · cases ps with
    | nil => simp
    | cons p r => have := h p (by simp); simp; omega
  · simp
theorem spl_mem_len : ∀ (l p : List UInt8), p ∈ spl l → p.length ≤ l.length
  | [], p, h => by simp [spl] at h; subst h; simp
  | c :: r, p, h => by
    simp only [spl] at h
    split at h
    · rcases List.mem_cons.1 h with rfl | h
      · simp
      · have := spl_mem_len r p h; simp; omega
    · rcases List.mem_cons.1 h with rfl | h
      · have hne : (spl r).headD [] ∈ spl r ∨ (spl r).headD [] = [] := by
          cases spl r with
          | nil => right; rfl
          | cons a b => left; simp
        rcases hne with h | h
        · have := spl_mem_len r _ h; rw [List.length_cons, List.length_cons]; omega
        · rw [h]; simp
      · have := spl_mem_len r p (List.mem_of_mem_tail h); simp; omega
theorem atts_mem {l p : List UInt8} (h : p ∈ attsP l) : p ∈ spl l ∧ isAt p = true := by
  unfold attsP at h
  have h1 : ∀ (ps : List (List UInt8)), p ∈ ps.takeWhile isAt → p ∈ ps ∧ isAt p = true := by
    intro ps
    induction ps with
    | nil => simp
    | cons q r ih =>
      intro h
      rw [List.takeWhile_cons] at h
      split at h
      · rename_i hq
        rcases List.mem_cons.1 h with rfl | h
        · exact ⟨by simp, hq⟩
        · exact ⟨List.mem_cons_of_mem _ (ih h).1, (ih h).2⟩
      · simp at h
  exact h1 _ h
theorem isAt_len {p : List UInt8} (h : isAt p = true) : 2 ≤ p.length := by
  unfold isAt at h
  simp at h
  omega
end Go.Proofs.YtjkbigecejogdaaDoor
