/-
  ref15.Dec: a number's digits.
-/
import Derived.Test.YtpndahmlbjhdfaaDoorRows
import Derived.Test.YtpndahmlbjhdfaaDoorBkt
import Derived.Test.YtpndahmlbjhdfaaDoorEvl
namespace Go.Proofs.YtpndahmlbjhdfaaDoor
open Go.RowKit
set_option linter.unusedVariables false
set_option linter.unusedSimpArgs false
def digs : List UInt8 := [48, 49, 50, 51, 52, 53, 54, 55, 56, 57]
theorem digs_lit : (⟨#[48, 49, 50, 51, 52, 53, 54, 55, 56, 57]⟩ : ByteArray) = ⟨digs.toArray⟩ := rfl
theorem digs_len : digs.length = 10 := rfl
theorem digs_bt : ∀ d, d < 10 → bt digs d = UInt8.ofNat (48 + d) := by decide +kernel
theorem decDigits_step (m : Nat) (h : ¬ m < 10) : Lib.decDigits m = Lib.decDigits (m / 10) ++ [bt digs (m % 10)] := by
  rw [Lib.decDigits, dif_neg h, digs_bt _ (by omega)]
theorem decDigits_base (m : Nat) (h : m < 10) : Lib.decDigits m = [bt digs (m % 10)] := by
  rw [Lib.decDigits, dif_pos h, digs_bt _ (by omega), Nat.mod_eq_of_lt h]
set_option maxHeartbeats 400000 in
theorem rdec_any (u : Nat) (hu : u < 18446744073709551616) (w : World) :
    Calls Tryd.prog 48 #[.int .u64 (u : Int)] w fun e w' => e = .returned (Str (Lib.decDigits u)) ∧ Ext w w' := by
  have hl := digs_lit; have hll := digs_len
  go_enter Tryd.func48, Tryd.ntmps48
  have HD := Lib.hid (dec_len u hu)
  go_wp2
  go_loopw [3, 0] (fun s n wr => ∃ (m : Nat) (t : List UInt8), m ≤ u ∧ n = .int .u64 (m : Int) ∧ s = Str t ∧ Lib.decDigits u = Lib.decDigits m ++ t ∧ Ext w wr) (fun _ n _ => (intOf n).toNat)
  case atStart => exact ⟨u, [], Nat.le_refl _, rfl, rfl, by simp, ext_refl _⟩
  case round =>
    obtain ⟨m, t, hm, rfl, rfl, hb, hx⟩ := hrel
    have hlen : t.length ≤ 20 := by have h1 := congrArg List.length hb; have h2 := HD.out; rw [List.length_append] at h1; omega
    have h10 : m % 10 < 10 := Nat.mod_lt _ (by omega)
    have HC := Lib.hid (cut_one digs (m % 10) (by rw [digs_len]; omega))
    have HB := Lib.hid hb; have HX := Lib.hid hx
    clear hb hx
    by_cases h3 : m < 10
    · have q : ((m : Int) / 10 == 0) = true := by simp; omega
      go_wp2
      go_ret
      exact ⟨by rw [HB.out, HC.out, decDigits_base m h3]; rfl, HX.out⟩
    · have q : ((m : Int) / 10 == 0) = false := by simp; omega
      go_wp2
      go_roundw
      case rel => exact ⟨m / 10, bt digs (m % 10) :: t, by omega, by go_num, by rw [HC.out]; rfl, by rw [HB.out, decDigits_step m h3]; simp, HX.out⟩
      case measure => simp [intOf]; omega
end Go.Proofs.YtpndahmlbjhdfaaDoor
