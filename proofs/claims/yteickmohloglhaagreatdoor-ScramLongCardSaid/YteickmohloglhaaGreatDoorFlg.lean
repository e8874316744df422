/-
  scram.letter, scram.flag at the two texts of the law's example.
-/
import Derived.Test.YteickmohloglhaaGreatDoorRows
import Derived.Test.YteickmohloglhaaGreatDoorFrs
namespace Go.Proofs.YteickmohloglhaaGreatDoor
open Go.RowKit Go.Shelf
set_option maxRecDepth 100000
set_option linter.unusedVariables false
set_option linter.unusedSimpArgs false

def alphas : List UInt8 := [97, 98, 99, 100, 101, 102, 103, 104, 105, 106, 107, 108, 109, 110, 111, 112, 113, 114, 115, 116, 117, 118, 119, 120, 121, 122, 65, 66, 67, 68, 69, 70, 71, 72, 73, 74, 75, 76, 77, 78, 79, 80, 81, 82, 83, 84, 85, 86, 87, 88, 89, 90]
def letB (c : UInt8) : Bool := decide (0 ≤ Lib.indexByte alphas c)
theorem sletter_any (c : UInt8) (w : World) : Calls Tryz.prog 36 #[.int .u8 (c.toNat : Int)] w fun e w' => e = .returned (.bool (letB c)) ∧ w' = w := by
  have hI := Tryz.strings_IndexByte ⟨alphas.toArray⟩ (c.toNat : Int) w
  rw [show ((c.toNat : Int).toNat.toUInt8) = c by simp, show (⟨alphas.toArray⟩ : ByteArray).data.toList = alphas from rfl] at hI
  have HI := Lib.hid hI
  have hb : letB c = decide (0 ≤ Lib.indexByte alphas c) := rfl
  have HB := Lib.hid hb
  clear hI hb
  generalize Lib.indexByte alphas c = v at *
  go_enter Tryz.func36, Tryz.ntmps36
  go_wp2_with fail
  refine HI.out.mono ?_
  rintro e W1 ⟨he, hw⟩
  subst he; subst hw
  go_wp2_with fail
  go_ret
  exact ⟨by rw [HB.out]; rfl, rfl⟩
theorem flag_n (w : World) : Calls Tryz.prog 17 #[Str [110]] w fun e w' => e = .returned (.tuple #[Str [110], .bool true]) ∧ w' = w := by
  go_enter Tryz.func17, Tryz.ntmps17
  go_wp2
  go_ret2
  exact ⟨rfl, rfl⟩
set_option maxHeartbeats 1000000 in
theorem flag_p (l : List UInt8) (hl : l.length ≤ 1000) (h0 : l ≠ []) (hal : ∀ c ∈ l, letB c = true) (w : World) :
    Calls Tryz.prog 17 #[Str (112 :: 61 :: l)] w fun e w' => e = .returned (.tuple #[Str [112], .bool true]) ∧ w' = w := by
  have hixl : ∀ i, i < l.length → ∀ W, (Instr.index 9 (Str l) (.int .i64 (i : Int))).run Tryz.prog W = .ok (Byt (bt l i)) W := fun i hi W => run_index_str Tryz.underlying9 l i _ rfl hi W
  have HI := Lib.hid hixl; clear hixl
  have hC := fun W => Tryz.strings_CutPrefix ⟨(112 :: 61 :: l).toArray⟩ ⟨#[112, 61]⟩ W
  have e1 : Lib.trimPrefix (⟨(112 :: 61 :: l).toArray⟩ : ByteArray).data.toList (⟨#[112, 61]⟩ : ByteArray).data.toList = l := by
    simp [Lib.trimPrefix, Lib.hasPrefix]
  have e2 : Lib.hasPrefix (⟨(112 :: 61 :: l).toArray⟩ : ByteArray).data.toList (⟨#[112, 61]⟩ : ByteArray).data.toList = true := by
    simp [Lib.hasPrefix]
  rw [e1, e2] at hC
  have HC := Lib.hid hC
  have hne : (l == []) = false := by simpa using h0
  have n1 : ((112 :: 61 :: l) == [110]) = false := by simp
  have n2 : ((112 :: 61 :: l) == [121]) = false := by simp
  clear hC e1 e2 h0
  generalize hs : (112 :: 61 :: l) = s at *
  clear hs
  go_enter Tryz.func17, Tryz.ntmps17
  go_wp2_with fail
  refine (HC.out _).mono ?_
  rintro e W1 ⟨he, hw⟩
  subst he; subst hw
  go_wp2_with fail
  go_loop [5, 22] (fun b i => ∃ k : Nat, k ≤ l.length ∧ i = .int .i64 k ∧ b = .bool true) (fun _ i => l.length - (intOf i).toNat)
  case atStart => exact ⟨0, by omega, rfl, rfl⟩
  case round =>
    obtain ⟨k, hk, rfl, rfl⟩ := hrel
    by_cases h3 : k < l.length
    · have hix := HI.out k h3
      have hL := fun W => sletter_any (bt l k) W
      rw [hal _ (by rw [bt_get l k h3]; exact List.getElem_mem _)] at hL
      have HL := Lib.hid hL
      clear hL
      generalize bt l k = c at *
      go_wp2_with (go_at_call 36; refine (HL.out _).mono ?_; rintro e W3 ⟨rfl, rfl⟩)
      go_round
      case rel => exact ⟨k + 1, by omega, by go_num, rfl⟩
      case measure => simp [intOf] <;> omega
    · have hkl : k = l.length := by omega
      subst hkl
      go_wp2
      go_ret2
      exact ⟨rfl, rfl⟩
end Go.Proofs.YteickmohloglhaaGreatDoor
