/-
  A pattern that fits wherever another one does, told by its form: the program's words are the document's.
-/
import Derived.Test.YtjbobblnicnhnaaDoorSpb
namespace Go.Proofs.YtjbobblnicnhnaaDoor
set_option linter.unusedVariables false
set_option linter.unusedSimpArgs false

/-- Behind a pattern's first star, if it has one alone, at an end. -/
def overJ (b p q : List UInt8) : Bool := !(Lib.contains q [42]) && (!(p != [] && q != []) && (if q = [] then Lib.hasPrefix b p else Lib.hasSuffix b q))
/-- Does a pattern fit wherever another one does (told by its form)? -/
def overB (a b : List UInt8) : Bool := (a == [42]) || ((a == b) || ((Lib.cut a [42]).2.2 && overJ b (Lib.cut a [42]).1 (Lib.cut a [42]).2.1))
/-- The document's words. -/
def overD (a b : List UInt8) : Bool :=
  (a == [42]) || ((a == b) || (decide (a.count 42 = 1) && (decide (a.length - 1 ≤ b.length) && ((a.getD (a.length - 1) 0 == 42 && b.take (a.length - 1) == a.take (a.length - 1)) || (a.getD 0 0 == 42 && b.drop (b.length - (a.length - 1)) == a.drop 1)))))
theorem contains_star (q : List UInt8) : Lib.contains q [42] = decide ((42 : UInt8) ∈ q) := by
  unfold Lib.contains
  rcases index_one_cases q 42 with ⟨h, hn⟩ | ⟨i, h, hlt, hs, hn⟩
  · rw [h]; simp [hn]
  · rw [h]
    have : (42 : UInt8) ∈ q := by rw [hs]; simp
    simp [this]
theorem prefix_take (b p : List UInt8) : Lib.hasPrefix b p = (decide (p.length ≤ b.length) && b.take p.length == p) := by
  unfold Lib.hasPrefix
  rw [Bool.eq_iff_iff, List.isPrefixOf_iff_prefix, Bool.and_eq_true, decide_eq_true_eq, beq_iff_eq]
  constructor
  · rintro ⟨t, rfl⟩; exact ⟨by simp, by simp⟩
  · rintro ⟨_, h⟩; exact ⟨b.drop p.length, by have := List.take_append_drop p.length b; rw [h] at this; exact this⟩
theorem suffix_drop (b q : List UInt8) : Lib.hasSuffix b q = (decide (q.length ≤ b.length) && b.drop (b.length - q.length) == q) := by
  unfold Lib.hasSuffix
  rw [Bool.eq_iff_iff, List.isSuffixOf_iff_suffix, Bool.and_eq_true, decide_eq_true_eq, beq_iff_eq]
  constructor
  · rintro ⟨t, rfl⟩; exact ⟨by simp, by simp⟩
  · rintro ⟨_, h⟩; exact ⟨b.take (b.length - q.length), by have := List.take_append_drop (b.length - q.length) b; rw [h] at this; exact this⟩
theorem over_eq (a b : List UInt8) : overB a b = overD a b := by
  unfold overB overD
  cases h1 : (a == [42]) with
  | true => rfl
  | false =>
    cases h2 : (a == b) with
    | true => rfl
    | false =>
      simp only [Bool.false_or]
      have h1' : a ≠ [42] := by simpa using h1
      rcases cut_byte a 42 with ⟨p, q, hc, hs, hp⟩ | ⟨hc, hn⟩
      · rw [hc]
        simp only [Bool.true_and, overJ, contains_star]
        have hcnt : a.count 42 = 1 + q.count 42 := by
          rw [hs, List.count_append, List.count_cons_self, List.count_eq_zero.2 hp]; omega
        by_cases hq : (42 : UInt8) ∈ q
        · have : 0 < q.count 42 := List.count_pos_iff.2 hq
          have : a.count 42 ≠ 1 := by omega
          simp [hq, this]
        · have hq0 : q.count 42 = 0 := List.count_eq_zero.2 hq
          have hc1 : a.count 42 = 1 := by omega
          have hlen : a.length - 1 = p.length + q.length := by rw [hs]; simp
          rw [hlen, hc1]
          simp only [hq, decide_false, decide_true, Bool.not_false, Bool.true_and]
          by_cases hqe : q = []
          · subst hqe
            have hpe : p ≠ [] := fun h => h1' (by rw [hs, h]; rfl)
            have g1 : a.getD (p.length + ([] : List UInt8).length) 0 = 42 := by rw [hs]; simp [List.getD]
            have g0 : (a.getD 0 0 == 42) = false := by
              rw [hs]
              match p, hpe with
              | x :: t, _ =>
                simp [List.getD]
                exact fun e => hp (by simp [e])
            rw [g1, g0]
            have ht : a.take (p.length + ([] : List UInt8).length) = p := by rw [hs]; simp
            rw [ht]
            simp [prefix_take]
          · have g1 : (a.getD (p.length + q.length) 0 == 42) = false := by
              have hl : p.length + q.length = (p ++ [42]).length + (q.length - 1) := by
                have := List.length_pos_iff.2 hqe; simp; omega
              rw [hs, show p ++ 42 :: q = (p ++ [42]) ++ q by simp, hl]
              have hlt : q.length - 1 < q.length := by have := List.length_pos_iff.2 hqe; omega
              rw [List.getD, List.getElem?_append_right (by omega), Nat.add_sub_cancel_left, List.getElem?_eq_getElem hlt]
              simp
              exact fun e => hq (by rw [← e]; exact List.getElem_mem _)
            rw [g1]
            by_cases hpe : p = []
            · subst hpe
              have g0 : a.getD 0 0 = 42 := by rw [hs]; rfl
              have hd : a.drop 1 = q := by rw [hs]; rfl
              rw [g0, hd]
              simp [hqe, suffix_drop]
            · have g0 : (a.getD 0 0 == 42) = false := by
                rw [hs]
                match p, hpe with
                | x :: t, _ =>
                  simp [List.getD]
                  exact fun e => hp (by simp [e])
              rw [g0]
              simp [hpe, hqe]
      · rw [hc]
        have : a.count 42 = 0 := List.count_eq_zero.2 hn
        simp [this]
end Go.Proofs.YtjbobblnicnhnaaDoor
