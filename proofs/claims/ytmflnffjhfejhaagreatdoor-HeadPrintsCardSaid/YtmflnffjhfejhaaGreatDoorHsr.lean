/-
  ref09.Split.
-/
import Derived.BigGuardPart
import Derived.Test.YtmflnffjhfejhaaGreatDoorRows
import Derived.Test.YtmflnffjhfejhaaGreatDoorHsp
namespace Go.Proofs.YtmflnffjhfejhaaGreatDoor
open Go.RowKit
set_option maxRecDepth 100000
set_option linter.unusedVariables false
set_option linter.unusedSimpArgs false

theorem at_split (p q : List UInt8) (b : UInt8) (hp : b ∉ p) : atI (p ++ b :: q) b = (p.length : Int) := by
  unfold atI
  rcases index_one_cases (p ++ b :: q) b with ⟨_, h2⟩ | ⟨i, h1, h2, h4, h5⟩
  · exact absurd (by simp) h2
  · rw [h1]
    have hi : ¬ i < p.length := fun hik => by
      have h7 : (p ++ b :: q)[i]? = some b := by
        have h8 : ((p ++ b :: q).take i ++ b :: (p ++ b :: q).drop (i + 1))[i]? = some b := by
          rw [List.getElem?_append_right (by rw [List.length_take]; omega), List.length_take, Nat.min_eq_left (Nat.le_of_lt h2), Nat.sub_self]; rfl
        rwa [← h4] at h8
      rw [List.getElem?_append_left hik] at h7
      exact hp (List.mem_of_getElem? h7)
    have hi2 : ¬ p.length < i := fun hki => h5 (by
      rw [List.mem_take_iff_getElem]
      exact ⟨p.length, by simp; omega, by simp⟩)
    omega
theorem at_none (l : List UInt8) (b : UInt8) (h : b ∉ l) : atI l b = -1 := by
  unfold atI
  rcases index_one_cases l b with ⟨h1, _⟩ | ⟨i, h1, h2, h4, h5⟩
  · exact h1
  · exact absurd (by rw [h4]; simp) h
end Go.Proofs.YtmflnffjhfejhaaGreatDoor
