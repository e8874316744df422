/-
  ref03.number.
-/
import Derived.Deep.RegionLaw
import Derived.Test.YtkfhbahgoemnpaaDoorRows
import Derived.Test.YtkfhbahgoemnpaaDoorRfe
import Derived.Test.YtkfhbahgoemnpaaDoorReg
namespace Go.Proofs.YtkfhbahgoemnpaaDoor
open Go.RowKit
set_option linter.unusedVariables false
set_option linter.unusedSimpArgs false

theorem val_alph (url : Bool) : ∀ v, v < 64 → valL (alph url) (bt (alph url) v) = (v : Int) := by cases url <;> decide +kernel
theorem val_hits (url : Bool) : ∀ n, n < 256 → valL (alph url) (UInt8.ofNat n) = -1 ∨ (bt (alph url) (valL (alph url) (UInt8.ofNat n)).toNat = UInt8.ofNat n) := by cases url <;> decide +kernel
theorem val_hit (url : Bool) (c : UInt8) : valL (alph url) c = -1 ∨ bt (alph url) (valL (alph url) c).toNat = c := by
  have h := val_hits url c.toNat c.toNat_lt
  rwa [UInt8.ofNat_toNat] at h
theorem val_none (url : Bool) (c : UInt8) (h : ∀ m, m < 64 → bt (alph url) m ≠ c) : valL (alph url) c = -1 := by
  rcases val_hit url c with h1 | h1
  · exact h1
  · have := valL_range (alph url) c
    by_cases hneg : valL (alph url) c = -1
    · exact hneg
    · exact absurd h1 (h _ (by omega))
set_option maxHeartbeats 400000 in
theorem number_any (url : Bool) (c : UInt8) (w : World) :
    Calls Tryd.prog 14 #[.int .u8 (c.toNat : Int), .bool url] w fun e w' => e = .returned (.int .i64 (valL (alph url) c)) ∧ w' = w := by
  have hc := c.toNat_lt
  go_enter Tryd.func14, Tryd.ntmps14
  go_wp2
  go_loop [5] (fun i => ∃ k : Nat, k ≤ 64 ∧ i = .int .i64 k ∧ Hid (∀ m, m < k → bt (alph url) m ≠ c)) (fun i => 64 - (intOf i).toNat)
  case atStart => exact ⟨0, by omega, rfl, Lib.hid (fun m h => by omega)⟩
  case round =>
    obtain ⟨k, hk, rfl, hno⟩ := hrel
    by_cases h3 : k < 64
    · have Hl := Lib.hid (fun W => letter_any url k h3 W)
      have hb := (bt (alph url) k).toNat_lt
      have Hv := Lib.hid (val_alph url k h3)
      by_cases he : bt (alph url) k = c
      · rw [he] at Hl Hv
        clear hb he
        go_wp2_with (go_at_call 22; refine (Hl.out _).mono ?_; rintro e W3 ⟨rfl, rfl⟩)
        go_ret
        exact ⟨by rw [Hv.out]; rfl, rfl⟩
      · have hne : (((bt (alph url) k).toNat : Int) == (c.toNat : Int)) = false := by
          rw [beq_eq_false_iff_ne]
          intro e
          exact he (UInt8.toNat_inj.1 (by omega))
        have Hno : Hid (∀ m, m < k + 1 → bt (alph url) m ≠ c) := Lib.hid (fun m hm => by
          by_cases e : m = k
          · subst e; exact he
          · exact hno.out m (by omega))
        generalize bt (alph url) k = d at *
        clear he Hv
        go_wp2_with (go_at_call 22; refine (Hl.out _).mono ?_; rintro e W3 ⟨rfl, rfl⟩)
        go_round
        case rel => exact ⟨k + 1, by omega, by go_num, Hno⟩
        case measure => simp [intOf] <;> omega
    · obtain rfl : k = 64 := by omega
      have Hv := Lib.hid (val_none url c hno.out)
      go_wp2
      go_ret
      exact ⟨by rw [Hv.out]; rfl, rfl⟩

end Go.Proofs.YtkfhbahgoemnpaaDoor
