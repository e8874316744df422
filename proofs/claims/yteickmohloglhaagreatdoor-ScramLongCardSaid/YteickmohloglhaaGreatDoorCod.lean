/-
  Encode, EncodeURL, Hex; Decode, DecodeURL; awake.
-/
import Derived.Test.YteickmohloglhaaGreatDoorRows
import Derived.Test.YteickmohloglhaaGreatDoorKit
import Derived.Test.YteickmohloglhaaGreatDoorHexr
import Derived.Test.YteickmohloglhaaGreatDoorDec
namespace Go.Proofs.YteickmohloglhaaGreatDoor
open Go.RowKit

def plain : List UInt8 := [65, 66, 67, 68, 69, 70, 71, 72, 73, 74, 75, 76, 77, 78, 79, 80, 81, 82, 83, 84, 85, 86, 87, 88, 89, 90, 97, 98, 99, 100, 101, 102, 103, 104, 105, 106, 107, 108, 109, 110, 111, 112, 113, 114, 115, 116, 117, 118, 119, 120, 121, 122, 48, 49, 50, 51, 52, 53, 54, 55, 56, 57, 43, 47]
def other : List UInt8 := [65, 66, 67, 68, 69, 70, 71, 72, 73, 74, 75, 76, 77, 78, 79, 80, 81, 82, 83, 84, 85, 86, 87, 88, 89, 90, 97, 98, 99, 100, 101, 102, 103, 104, 105, 106, 107, 108, 109, 110, 111, 112, 113, 114, 115, 116, 117, 118, 119, 120, 121, 122, 48, 49, 50, 51, 52, 53, 54, 55, 56, 57, 45, 95]

/-- One '=' off the end. -/
def trim (l : List UInt8) : List UInt8 := if 0 < l.length ∧ bt l (l.length - 1) = 61 then l.take (l.length - 1) else l
def trimN (l : List UInt8) : Nat → List UInt8
  | 0 => l
  | k + 1 => trim (trimN l k)
theorem trim_len (l : List UInt8) : (trim l).length ≤ l.length := by unfold trim; split <;> simp
theorem trimN_len (l : List UInt8) : ∀ k, (trimN l k).length ≤ l.length
  | 0 => Nat.le_refl _
  | k + 1 => Nat.le_trans (trim_len _) (trimN_len l k)
/-- What Decode answers. -/
def decF (l : List UInt8) : List UInt8 × Nat :=
  if l.length % 4 = 0 then (if (trimN l 2).length % 4 = 1 then ([], 5) else decR plain (trimN l 2)) else ([], 2)
def decU (l : List UInt8) : List UInt8 × Nat := if l.length % 4 = 1 then ([], 2) else decR other l

set_option maxHeartbeats 1000000 in
theorem Decode_any (l : List UInt8) (w : World) (hl : l.length ≤ 10000) :
    Calls Tryz.prog 47 #[Str l] w fun e w' => ∃ v, e = .returned (.tuple #[v, .int .i64 ((decF l).2 : Int)]) ∧ w'.ownsRow w.heap.size 5 1 v (decF l).1.length ((decF l).1.map Byt) ∧ Ext w w' := by
  have hA : plain.length = 64 := rfl
  have hf := Lib.hid (show decF l = if l.length % 4 = 0 then (if (trimN l 2).length % 4 = 1 then ([], 5) else decR plain (trimN l 2)) else ([], 2) from rfl)
  by_cases h : l.length % 4 = 0
  · rw [if_pos h] at hf
    go_enter Tryz.func47, Tryz.ntmps47
    go_wp2
    go_loop [0, 9] (fun s i => ∃ k : Nat, k ≤ 2 ∧ i = .int .i64 k ∧ s = Str (trimN l k)) (fun _ i => 2 - (intOf i).toNat)
    case atStart => exact ⟨0, by omega, rfl, rfl⟩
    case round =>
      obtain ⟨k, hk, rfl, rfl⟩ := hrel
      by_cases h3 : k < 2
      · have hn := Lib.hid (show trimN l (k + 1) = trim (trimN l k) from rfl)
        have htl := trimN_len l k
        generalize trimN l k = t at *
        by_cases h0 : 0 < t.length
        · have hix : ∀ W, (Instr.index 9 (Str t) (.int .i64 ((t.length : Int) - 1))).run Tryz.prog W = .ok (Byt (bt t (t.length - 1))) W := fun W => run_index_str Tryz.underlying9 t (t.length - 1) _ (by omega) (by omega) W
          by_cases hb : bt t (t.length - 1) = 61
          · have htr : trim t = t.take (t.length - 1) := if_pos ⟨h0, hb⟩
            rw [htr] at hn
            rw [hb] at hix
            clear hb htr
            go_wp2
            go_round
            case rel => exact ⟨k + 1, by omega, by go_num, by rw [hn.out]⟩
            case measure => simp [intOf] <;> omega
          · have htr : trim t = t := if_neg (fun h => hb h.2)
            rw [htr] at hn
            have hbn : ((bt t (t.length - 1)).toNat : Int) ≠ 61 := fun e => hb (UInt8.toNat_inj.1 (by rw [show (61 : UInt8).toNat = 61 from rfl]; omega))
            clear hb htr
            generalize bt t (t.length - 1) = c at *
            go_wp2
            go_round
            case rel => exact ⟨k + 1, by omega, by go_num, by rw [hn.out]⟩
            case measure => simp [intOf] <;> omega
        · have htr : trim t = t := if_neg (fun h => h0 h.1)
          rw [htr] at hn
          clear htr
          go_wp2
          go_round
          case rel => exact ⟨k + 1, by omega, by go_num, by rw [hn.out]⟩
          case measure => simp [intOf] <;> omega
      · obtain rfl : k = 2 := by omega
        have htl := trimN_len l 2
        clear h3 hk
        generalize trimN l 2 = t at *
        by_cases h1 : t.length % 4 = 1
        · rw [if_pos h1] at hf
          go_wp2
          go_ret2
          exact ⟨.slice none 0 0, by rw [hf.out]; rfl, by rw [hf.out]; exact World.ownsRow_nil _ _ _ _, Below.refl _ _⟩
        · rw [if_neg h1] at hf
          have Hd := Lib.hid (decode_any plain t hA w (by omega) h1)
          rw [← hf.out] at Hd
          go_wp2_with (go_at_call 59; refine Hd.out.mono ?_; rintro e w' ⟨v, rfl, hown, hext⟩; have Ho := Lib.hid hown; clear hown)
          go_ret2
          exact ⟨v, rfl, Ho.out, hext⟩
  · rw [if_neg h] at hf
    go_enter Tryz.func47, Tryz.ntmps47
    go_wp2
    go_ret2
    exact ⟨.slice none 0 0, by rw [hf.out]; rfl, by rw [hf.out]; exact World.ownsRow_nil _ _ _ _, Below.refl _ _⟩
end Go.Proofs.YteickmohloglhaaGreatDoor
