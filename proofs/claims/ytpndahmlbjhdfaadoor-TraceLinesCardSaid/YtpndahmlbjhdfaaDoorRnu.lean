/-
  ref23.num: a number of digits.
-/
import Derived.Test.YtpndahmlbjhdfaaDoorRows
import Derived.Test.YtpndahmlbjhdfaaDoorEvp
import Derived.Test.YtpndahmlbjhdfaaDoorLbk
namespace Go.Proofs.YtpndahmlbjhdfaaDoor
open Go.RowKit
set_option maxRecDepth 100000
attribute [local go_sem] Oper.semAt_some
set_option linter.unusedVariables false
set_option linter.unusedSimpArgs false
theorem digB_iff (c : UInt8) : digB c = true ↔ 48 ≤ c.toNat ∧ c.toNat ≤ 57 := by simp [digB]
theorem num_len {l : List UInt8} (h : num16 l = true) : l.length ≤ 16 ∧ l.all digB = true ∧ (l.length = 1 ∨ l.head? ≠ some 48) := by
  simp only [num16, canB, Bool.and_eq_true, Bool.or_eq_true, decide_eq_true_eq] at h
  exact ⟨h.2, h.1.1, h.1.2.imp id (·.2)⟩
theorem num_step (l : List UInt8) (k : Nat) (h : k < l.length) (hall : (l.take k).all digB = true) (h0 : 2 ≤ k → bt l 0 ≠ 48) :
    (48 ≤ (bt l k).toNat → (bt l k).toNat ≤ 57 → (k = 1 → bt l 0 ≠ 48) → (l.take (k + 1)).all digB = true ∧ valD 0 (l.take (k + 1)) = 10 * valD 0 (l.take k) + ((bt l k).toNat - 48) ∧ (2 ≤ k + 1 → bt l 0 ≠ 48)) ∧
    ((¬ (48 ≤ (bt l k).toNat ∧ (bt l k).toNat ≤ 57) ∨ 15 < k ∨ (k = 1 ∧ bt l 0 = 48)) → num16 l = false) := by
  constructor
  · intro h1 h2 h3
    rw [take_snoc l k h, List.all_append, hall, valD_snoc]
    refine ⟨by simp [digB_iff, h1, h2], rfl, fun h4 => ?_⟩
    by_cases h5 : k = 1
    · exact h3 h5
    · exact h0 (by omega)
  · intro hb
    cases hnn : num16 l with
    | false => rfl
    | true =>
    exfalso
    have hn := num_len hnn
    rcases hb with hb | hb | ⟨hb, hb2⟩
    · have := List.all_eq_true.1 hn.2.1 (bt l k) (by rw [bt_get l k h]; exact List.getElem_mem _)
      exact hb ((digB_iff _).1 this)
    · omega
    · rcases hn.2.2 with h1 | h1
      · omega
      · apply h1
        rw [List.head?_eq_getElem?, bt_some l 0 (by omega), hb2]
theorem num_end (l : List UInt8) (hall : l.all digB = true) (hk : l.length ≤ 16) (h0 : 2 ≤ l.length → bt l 0 ≠ 48) : num16 l = decide (0 < l.length) := by
  rw [Bool.eq_iff_iff, decide_eq_true_eq]
  constructor
  · intro h
    simp only [num16, canB, Bool.and_eq_true, Bool.or_eq_true, decide_eq_true_eq] at h
    omega
  · intro h
    simp only [num16, canB, Bool.and_eq_true, Bool.or_eq_true, decide_eq_true_eq]
    refine ⟨⟨hall, ?_⟩, hk⟩
    by_cases h1 : l.length = 1
    · exact .inl h1
    · refine .inr ⟨h, fun h2 => h0 (by omega) ?_⟩
      rw [List.head?_eq_getElem?, bt_some l 0 h] at h2
      exact Option.some.inj h2
set_option maxHeartbeats 1000000 in
theorem rnum_any (l : List UInt8) (hl : l.length ≤ 100000) (w : World) :
    Calls Tryd.prog 59 #[Str l] w fun e w' => ∃ (n : Nat), e = .returned (.tuple #[.int .u64 (n : Int), .bool (num16 l)]) ∧ n < 18446744073709551616 ∧ (num16 l = true → n = valD 0 l) ∧ w' = w := by
  have hixl : ∀ i, i < l.length → ∀ W, (Instr.index 9 (Str l) (.int .i64 (i : Int))).run Tryd.prog W = .ok (Byt (bt l i)) W := fun i hi W => run_index_str Tryd.underlying9 l i _ rfl hi W
  have HI := Lib.hid hixl; clear hixl
  go_enter Tryd.func59, Tryd.ntmps59
  go_wp2
  go_loop [4, 5] (fun n i => ∃ k : Nat, k ≤ l.length ∧ k ≤ 16 ∧ i = .int .i64 k ∧ n = .int .u64 ((valD 0 (l.take k) : Nat) : Int) ∧ (l.take k).all digB = true ∧ (2 ≤ k → bt l 0 ≠ 48)) (fun _ i => l.length - (intOf i).toNat)
  case atStart => exact ⟨0, by omega, by omega, rfl, rfl, by simp, by omega⟩
  case round =>
    obtain ⟨k, hk, hk16, rfl, rfl, hall, h0⟩ := hrel
    have hv := valD_lt (l.take k) 0 hall
    have hp : (10 : Nat) ^ (l.take k).length ≤ 10 ^ 16 := Nat.pow_le_pow_right (by omega) (by rw [List.length_take]; omega)
    have hv2 : valD 0 (l.take k) < 10000000000000000 := by omega
    clear hv hp
    by_cases h3 : k < l.length
    · have hix := HI.out k h3
      have HB := Lib.hid (num_step l k h3 hall h0)
      have HN := Lib.hid (show ∀ n : Nat, num16 l = false → Ending.returned (Value.tuple #[.int .u64 0, .bool false]) = Ending.returned (.tuple #[.int .u64 ((0 : Nat) : Int), .bool (num16 l)]) ∧ (0 : Nat) < 18446744073709551616 ∧ (num16 l = true → 0 = valD 0 l) from fun n hn => ⟨by rw [hn]; rfl, by omega, fun h => by rw [hn] at h; cases h⟩)
      clear hall h0
      by_cases h1 : k = 1
      · subst h1
        have hix0 := HI.out 0 (by omega)
        generalize valD 0 (l.take 1) = nv at *
        have hcb := (bt l 1).toNat_lt
        have hdb := (bt l 0).toNat_lt
        have HD := Lib.hid (show bt l 0 = 48 ↔ (bt l 0).toNat = 48 from ⟨fun h => by rw [h]; rfl, fun h => UInt8.toNat_inj.1 h⟩)
        go_wp2
        all_goals first
          | (go_round
             case rel =>
               obtain ⟨a1, a2, a3⟩ := HB.out.1 (by first | omega | (simp at *; omega)) (by first | omega | (simp at *; omega)) (fun _ => fun h => absurd (HD.out.1 h) (by first | omega | (simp at *; omega)))
               exact ⟨2, by omega, by omega, by go_num, by rw [a2]; go_num, a1, a3⟩
             case measure => simp [intOf] <;> omega)
          | (go_ret2
             exact ⟨0, (HN.out 0 (HB.out.2 (by first | (left; omega) | (right; left; omega) | (right; right; exact ⟨by first | trivial | rfl, HD.out.2 (by first | omega | (simp at *; omega))⟩)))).1, (HN.out 0 (HB.out.2 (by first | (left; omega) | (right; left; omega) | (right; right; exact ⟨by first | trivial | rfl, HD.out.2 (by first | omega | (simp at *; omega))⟩)))).2.1, (HN.out 0 (HB.out.2 (by first | (left; omega) | (right; left; omega) | (right; right; exact ⟨by first | trivial | rfl, HD.out.2 (by first | omega | (simp at *; omega))⟩)))).2.2, rfl⟩)
      · have t1 : ((k : Int) == 1) = false := by simp; omega
        generalize valD 0 (l.take k) = nv at *
        generalize bt l k = c at *
        have hcb := c.toNat_lt
        go_wp2
        all_goals first
          | (go_round
             case rel =>
               obtain ⟨a1, a2, a3⟩ := HB.out.1 (by omega) (by omega) (fun h => absurd h h1)
               exact ⟨k + 1, by omega, by omega, by go_num, by rw [a2]; go_num, a1, a3⟩
             case measure => simp [intOf] <;> omega)
          | (go_ret2
             exact ⟨0, (HN.out 0 (HB.out.2 (by omega))).1, (HN.out 0 (HB.out.2 (by omega))).2.1, (HN.out 0 (HB.out.2 (by omega))).2.2, rfl⟩)
    · have hkl : k = l.length := by omega
      subst hkl
      rw [List.take_length] at hall hv2 ⊢
      have HE := Lib.hid (num_end l hall hk16 h0)
      go_wp2
      go_ret2
      exact ⟨valD 0 l, by rw [HE.out]; first | rfl | (congr 3; simp) , by omega, fun _ => rfl, rfl⟩
end Go.Proofs.YtpndahmlbjhdfaaDoor
