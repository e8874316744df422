/-
  b64.value; a text's bytes as a slice.
-/
import Derived.Test.YteickmohloglhaaGreatDoorRows
import Derived.Test.YteickmohloglhaaGreatDoorKit
namespace Go.Proofs.YteickmohloglhaaGreatDoor
open Go.RowKit

def valN (x y c : Nat) : Int :=
  if 65 ≤ c ∧ c ≤ 90 then (c : Int) - 65 else if 97 ≤ c ∧ c ≤ 122 then (c : Int) - 97 + 26 else if 48 ≤ c ∧ c ≤ 57 then (c : Int) - 48 + 52
  else if c = x then 62 else if c = y then 63 else -1
/-- A letter's value; -1: it is none. -/
def valL (A : List UInt8) (c : UInt8) : Int := valN (bt A 62).toNat (bt A 63).toNat c.toNat

set_option maxHeartbeats 400000 in
theorem value_any (A : List UInt8) (hA : A.length = 64) (c : UInt8) (w : World) :
    Calls Tryz.prog 71 #[Str A, .int .u8 (c.toNat : Int)] w fun e w' => e = .returned (.int .i64 (valL A c)) ∧ w' = w := by
  have hfin := Lib.hid (show valL A c = valN (bt A 62).toNat (bt A 63).toNat c.toNat from rfl)
  have hc := c.toNat_lt
  have hx := (bt A 62).toNat_lt
  have hy := (bt A 63).toNat_lt
  have e62 : ∀ W, (Instr.index 9 (Str A) (.int .i64 62)).run Tryz.prog W = .ok (Byt (bt A 62)) W := fun W => run_index_str Tryz.underlying9 A 62 62 rfl (by omega) W
  have e63 : ∀ W, (Instr.index 9 (Str A) (.int .i64 63)).run Tryz.prog W = .ok (Byt (bt A 63)) W := fun W => run_index_str Tryz.underlying9 A 63 63 rfl (by omega) W
  generalize bt A 62 = x at *
  generalize bt A 63 = y at *
  generalize c.toNat = n at *
  simp only [Byt] at e62 e63
  have end1 : ∀ (v : Int), valN x.toNat y.toNat n = v → Ending.returned (.int .i64 v) = Ending.returned (.int .i64 (valL A c)) := fun v h => by rw [hfin.out, h]
  generalize x.toNat = x at *
  generalize y.toNat = y at *
  have Hend := Lib.hid end1; clear end1
  rcases (show (65 ≤ n ∧ n ≤ 90) ∨ (97 ≤ n ∧ n ≤ 122) ∨ (48 ≤ n ∧ n ≤ 57) ∨ n < 48 ∨ (57 < n ∧ n < 65) ∨ (90 < n ∧ n < 97) ∨ 122 < n by omega) with h | h | h | h | h | h | h
  · obtain ⟨h1, h2⟩ := h
    go_enter Tryz.func71, Tryz.ntmps71
    go_wp2
    go_ret
    refine ⟨Hend.out _ ?_, rfl⟩
    simp only [valN]
    split <;> (try split) <;> (try split) <;> omega
  · obtain ⟨h1, h2⟩ := h
    go_enter Tryz.func71, Tryz.ntmps71
    go_wp2
    go_ret
    refine ⟨Hend.out _ ?_, rfl⟩
    simp only [valN]
    split <;> (try split) <;> (try split) <;> omega
  · obtain ⟨h1, h2⟩ := h
    go_enter Tryz.func71, Tryz.ntmps71
    go_wp2
    go_ret
    refine ⟨Hend.out _ ?_, rfl⟩
    simp only [valN]
    split <;> (try split) <;> (try split) <;> omega
  · by_cases hx1 : n = x
    · have b1 : ((n : Int) == (x : Int)) = true := by simp [hx1]
      have Hx1 := Lib.hid hx1; clear hx1
      go_enter Tryz.func71, Tryz.ntmps71
      go_wp2
      go_ret
      refine ⟨Hend.out _ ?_, rfl⟩
      have := Hx1.out
      simp only [valN]
      rw [if_neg (by omega), if_neg (by omega), if_neg (by omega), if_pos this]
    · have b1 : ((n : Int) == (x : Int)) = false := by simp; omega
      by_cases hy1 : n = y
      · have b2 : ((n : Int) == (y : Int)) = true := by simp [hy1]
        have Hy1 := Lib.hid hy1; clear hy1
        go_enter Tryz.func71, Tryz.ntmps71
        go_wp2
        go_ret
        refine ⟨Hend.out _ ?_, rfl⟩
        have := Hy1.out
        simp only [valN]
        rw [if_neg (by omega), if_neg (by omega), if_neg (by omega), if_neg hx1, if_pos this]
      · have b2 : ((n : Int) == (y : Int)) = false := by simp; omega
        go_enter Tryz.func71, Tryz.ntmps71
        go_wp2
        go_ret
        refine ⟨Hend.out _ ?_, rfl⟩
        simp only [valN]
        rw [if_neg (by omega), if_neg (by omega), if_neg (by omega), if_neg hx1, if_neg hy1]
  · by_cases hx1 : n = x
    · have b1 : ((n : Int) == (x : Int)) = true := by simp [hx1]
      have Hx1 := Lib.hid hx1; clear hx1
      go_enter Tryz.func71, Tryz.ntmps71
      go_wp2
      go_ret
      refine ⟨Hend.out _ ?_, rfl⟩
      have := Hx1.out
      simp only [valN]
      rw [if_neg (by omega), if_neg (by omega), if_neg (by omega), if_pos this]
    · have b1 : ((n : Int) == (x : Int)) = false := by simp; omega
      by_cases hy1 : n = y
      · have b2 : ((n : Int) == (y : Int)) = true := by simp [hy1]
        have Hy1 := Lib.hid hy1; clear hy1
        go_enter Tryz.func71, Tryz.ntmps71
        go_wp2
        go_ret
        refine ⟨Hend.out _ ?_, rfl⟩
        have := Hy1.out
        simp only [valN]
        rw [if_neg (by omega), if_neg (by omega), if_neg (by omega), if_neg hx1, if_pos this]
      · have b2 : ((n : Int) == (y : Int)) = false := by simp; omega
        go_enter Tryz.func71, Tryz.ntmps71
        go_wp2
        go_ret
        refine ⟨Hend.out _ ?_, rfl⟩
        simp only [valN]
        rw [if_neg (by omega), if_neg (by omega), if_neg (by omega), if_neg hx1, if_neg hy1]
  · by_cases hx1 : n = x
    · have b1 : ((n : Int) == (x : Int)) = true := by simp [hx1]
      have Hx1 := Lib.hid hx1; clear hx1
      go_enter Tryz.func71, Tryz.ntmps71
      go_wp2
      go_ret
      refine ⟨Hend.out _ ?_, rfl⟩
      have := Hx1.out
      simp only [valN]
      rw [if_neg (by omega), if_neg (by omega), if_neg (by omega), if_pos this]
    · have b1 : ((n : Int) == (x : Int)) = false := by simp; omega
      by_cases hy1 : n = y
      · have b2 : ((n : Int) == (y : Int)) = true := by simp [hy1]
        have Hy1 := Lib.hid hy1; clear hy1
        go_enter Tryz.func71, Tryz.ntmps71
        go_wp2
        go_ret
        refine ⟨Hend.out _ ?_, rfl⟩
        have := Hy1.out
        simp only [valN]
        rw [if_neg (by omega), if_neg (by omega), if_neg (by omega), if_neg hx1, if_pos this]
      · have b2 : ((n : Int) == (y : Int)) = false := by simp; omega
        go_enter Tryz.func71, Tryz.ntmps71
        go_wp2
        go_ret
        refine ⟨Hend.out _ ?_, rfl⟩
        simp only [valN]
        rw [if_neg (by omega), if_neg (by omega), if_neg (by omega), if_neg hx1, if_neg hy1]
  · by_cases hx1 : n = x
    · have b1 : ((n : Int) == (x : Int)) = true := by simp [hx1]
      have Hx1 := Lib.hid hx1; clear hx1
      go_enter Tryz.func71, Tryz.ntmps71
      go_wp2
      go_ret
      refine ⟨Hend.out _ ?_, rfl⟩
      have := Hx1.out
      simp only [valN]
      rw [if_neg (by omega), if_neg (by omega), if_neg (by omega), if_pos this]
    · have b1 : ((n : Int) == (x : Int)) = false := by simp; omega
      by_cases hy1 : n = y
      · have b2 : ((n : Int) == (y : Int)) = true := by simp [hy1]
        have Hy1 := Lib.hid hy1; clear hy1
        go_enter Tryz.func71, Tryz.ntmps71
        go_wp2
        go_ret
        refine ⟨Hend.out _ ?_, rfl⟩
        have := Hy1.out
        simp only [valN]
        rw [if_neg (by omega), if_neg (by omega), if_neg (by omega), if_neg hx1, if_pos this]
      · have b2 : ((n : Int) == (y : Int)) = false := by simp; omega
        go_enter Tryz.func71, Tryz.ntmps71
        go_wp2
        go_ret
        refine ⟨Hend.out _ ?_, rfl⟩
        simp only [valN]
        rw [if_neg (by omega), if_neg (by omega), if_neg (by omega), if_neg hx1, if_neg hy1]
end Go.Proofs.YteickmohloglhaaGreatDoor
