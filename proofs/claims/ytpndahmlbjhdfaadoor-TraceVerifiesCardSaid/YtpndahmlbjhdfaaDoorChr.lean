/-
  Words: name.Plain, ref04.Plain, rule.pattern, rule.word, ref16.word.
-/
import Derived.BigGuardPart
import Derived.Test.YtpndahmlbjhdfaaDoorRows
import Derived.Test.YtpndahmlbjhdfaaDoorLow
namespace Go.Proofs.YtpndahmlbjhdfaaDoor
open Go.RowKit
set_option maxRecDepth 100000
set_option linter.unusedVariables false
set_option linter.unusedSimpArgs false

def plnC (c : UInt8) : Bool := decide ((97 ≤ c.toNat ∧ c.toNat ≤ 122) ∨ (48 ≤ c.toNat ∧ c.toNat ≤ 57) ∨ c.toNat = 45 ∨ c.toNat = 95)
def patC (c : UInt8) : Bool := decide ((97 ≤ c.toNat ∧ c.toNat ≤ 122) ∨ (48 ≤ c.toNat ∧ c.toNat ≤ 57) ∨ c.toNat = 46 ∨ c.toNat = 45 ∨ c.toNat = 95 ∨ c.toNat = 42)
/-- Is a text a plain name? -/
def plnB (l : List UInt8) : Bool := l.all plnC && (decide (0 < l.length) && decide (l.length ≤ 32))
/-- Is a text a pattern? -/
def patB (l : List UInt8) : Bool := l.all patC && (decide (0 < l.length) && decide (l.length ≤ 32))
theorem all_snocC (f : UInt8 → Bool) (l : List UInt8) (k : Nat) (h : k < l.length) : (l.take (k + 1)).all f = ((l.take k).all f && f (bt l k)) := by rw [take_snoc l k h]; simp
theorem all_takeC (f : UInt8 → Bool) (l : List UInt8) (k : Nat) (h : (l.take k).all f = false) : l.all f = false := by
  cases hg : l.all f with
  | false => rfl
  | true =>
    rw [← h]; simp only [List.all_eq_true] at hg ⊢
    exact (List.all_eq_true.2 fun x hx => hg x (List.mem_of_mem_take hx)).symm
theorem all_step (f : UInt8 → Bool) (l : List UInt8) (k : Nat) (h : k < l.length) (ha : (l.take k).all f = true) : (f (bt l k) = true → (l.take (k + 1)).all f = true) ∧ (f (bt l k) = false → l.all f = false) := by
  have h1 := all_snocC f l k h
  rw [ha, Bool.true_and] at h1
  exact ⟨fun h2 => h1.trans h2, fun h2 => all_takeC f l (k + 1) (h1.trans h2)⟩

theorem ret_bool {a b : Bool} (h : a = b) : Ending.returned (Value.bool a) = .returned (.bool b) := by rw [h]
set_option maxHeartbeats 1000000 in
theorem plainR_any (l : List UInt8) (hl : l.length ≤ 100000) (w : World) :
    Calls Tryd.prog 47 #[Str l] w fun e w' => e = .returned (.bool (plnB l)) ∧ w' = w := by
  have hixl : ∀ i, i < l.length → ∀ W, (Instr.index 9 (Str l) (.int .i64 (i : Int))).run Tryd.prog W = .ok (Byt (bt l i)) W := fun i hi W => run_index_str Tryd.underlying9 l i _ rfl hi W
  have HI := Lib.hid hixl; clear hixl
  have hnf := Lib.hid (show plnB l = (l.all plnC && (decide (0 < l.length) && decide (l.length ≤ 32))) from rfl)
  go_enter Tryd.func47, Tryd.ntmps47
  go_wp2
  go_loop [3] (fun i => ∃ k : Nat, k ≤ l.length ∧ i = .int .i64 k ∧ (l.take k).all plnC = true) (fun i => l.length - (intOf i).toNat)
  case atStart => exact ⟨0, by omega, rfl, by simp⟩
  case round =>
    obtain ⟨k, hk, rfl, hall⟩ := hrel
    by_cases h3 : k < l.length
    · have hix := HI.out k h3
      have HB := Lib.hid (all_step plnC l k h3 hall)
      clear hall
      generalize bt l k = c at *
      have hcb := c.toNat_lt
      go_wp2
      all_goals first
        | (go_round
           case rel => exact ⟨k + 1, by omega, by go_num, HB.out.1 (decide_eq_true (by first | omega | (simp at *; omega)))⟩
           case measure => simp [intOf] <;> omega)
        | (go_ret
           exact ⟨by rw [hnf.out, HB.out.2 (decide_eq_false (by first | omega | (simp at *; omega)))]; rfl, rfl⟩)
    · have hkl : k = l.length := by omega
      subst hkl
      rw [List.take_length] at hall
      rw [hall, Bool.true_and] at hnf
      clear hall
      go_wp2
      all_goals
        go_ret
        exact ⟨ret_bool (by rw [hnf.out, Bool.eq_iff_iff]; simp; try omega), rfl⟩
set_option maxHeartbeats 1000000 in
theorem plain_any (l : List UInt8) (hl : l.length ≤ 100000) (w : World) :
    Calls Tryd.prog 69 #[Str l] w fun e w' => e = .returned (.bool (plnB l)) ∧ Ext w w' := by
  obtain ⟨cap, W1, hconv, hext, hc1, hc2, hcell, hfroz⟩ := bytes_own (P := Tryd.prog) w 9 45 5 l (by unfold maxLen; omega) Tryd.underlying9 Tryd.underlying45 Tryd.underlying5
  have hix := run_index_adr (P := Tryd.prog) Tryd.underlying45 Tryd.sizeOf5 (ao := some ⟨w.heap.size, 0, none⟩) (n := l.length) (cap := cap) (by simp) hc1
  simp only [adr_some, Nat.zero_add] at hix
  have HC := Lib.hid hcell; have HX := Lib.hid hext
  have hnf := Lib.hid (show plnB l = (l.all plnC && (decide (0 < l.length) && decide (l.length ≤ 32))) from rfl)
  clear hcell hfroz hext
  go_enter Tryd.func69, Tryd.ntmps69
  go_wp2
  go_loop [8] (fun i => ∃ k : Nat, k ≤ l.length ∧ i = .int .i64 k ∧ (l.take k).all plnC = true) (fun i => l.length - (intOf i).toNat)
  case atStart => exact ⟨0, by omega, rfl, by simp⟩
  case round =>
    obtain ⟨k, hk, rfl, hall⟩ := hrel
    by_cases h3 : k < l.length
    · have hck := HC.out k h3
      have HB := Lib.hid (all_step plnC l k h3 hall)
      clear hall
      generalize bt l k = c at *
      have hcb := c.toNat_lt
      go_wp2
      all_goals first
        | (go_round
           case rel => exact ⟨k + 1, by omega, by go_num, HB.out.1 (decide_eq_true (by first | omega | (simp at *; omega)))⟩
           case measure => simp [intOf] <;> omega)
        | (go_ret
           exact ⟨by rw [hnf.out, HB.out.2 (decide_eq_false (by first | omega | (simp at *; omega)))]; rfl, HX.out⟩)
    · have hkl : k = l.length := by omega
      subst hkl
      rw [List.take_length] at hall
      rw [hall, Bool.true_and] at hnf
      clear hall
      have hne : (l == []) = !decide (0 < l.length) := by cases l <;> simp
      by_cases e1 : 0 < l.length
      · have u1 : (l == []) = false := by rw [hne]; simp [e1]
        clear hne
        go_wp2
        all_goals
          go_ret
          exact ⟨ret_bool (by rw [hnf.out, Bool.eq_iff_iff]; simp; try omega), HX.out⟩
      · have u1 : (l == []) = true := by rw [hne]; simp [e1]
        clear hne
        go_wp2
        go_ret
        exact ⟨ret_bool (by rw [hnf.out, Bool.eq_iff_iff]; simp; try omega), HX.out⟩
end Go.Proofs.YtpndahmlbjhdfaaDoor
