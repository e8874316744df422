/-
  HeadLong's heads.
-/
import Derived.Test.YtmflnffjhfejhaaDoorRows
import Derived.Test.YtmflnffjhfejhaaDoorHaw
namespace Go.Proofs.YtmflnffjhfejhaaDoor
open Go.RowKit
set_option maxRecDepth 100000
set_option linter.unusedVariables false
set_option linter.unusedSimpArgs false
def lhd : List UInt8 := [71, 69, 84, 32, 47, 32, 72, 84, 84, 80, 47, 49, 46, 49, 13, 10, 88, 58, 32]
def lngL (size : Nat) : List UInt8 := lhd ++ List.replicate (size - 23) 121 ++ [13, 10, 13, 10]
def lngOk (size : Nat) : Bool := decide (tkN (lngL size) = ((size - 4 : Nat) : Int)) && ((tkL (lngL size) (size - 4)).tail.all tkA && (rightB ((tkL (lngL size) (size - 4)).getD 0 ([], false)).1 && (decide (spb 32 ((tkL (lngL size) (size - 4)).getD 0 ([], false)).1 = [[71, 69, 84], [47], verL]) && decide ((tkL (lngL size) (size - 4)).length = 2))))
theorem lng_ok : ∀ j, j < 4 → lngOk (4093 + j) = true := by
  intro j hj
  match j, hj with
  | 0, _ => decide +kernel
  | 1, _ => decide +kernel
  | 2, _ => decide +kernel
  | 3, _ => decide +kernel
theorem lng_bad : ∀ j, 4 ≤ j → j < 7 → tkN (lngL (4093 + j)) = -1 := by
  intro j h1 hj
  match j, h1, hj with
  | 4, _, _ => decide +kernel
  | 5, _, _ => decide +kernel
  | 6, _, _ => decide +kernel
theorem lngL_len (size : Nat) (h : 23 ≤ size) : (lngL size).length = size := by
  simp only [lngL, lhd, List.length_append, List.length_replicate, List.length_cons, List.length_nil]; omega
def lngS (k : Nat) : List UInt8 := lhd ++ List.replicate k 121
theorem lngS_len (k : Nat) : (lngS k).length = 19 + k := by simp only [lngS, lhd, List.length_append, List.length_replicate, List.length_cons, List.length_nil]
theorem lngS_succ (k : Nat) : lngS (k + 1) = lngS k ++ [121] := by
  simp only [lngS]; rw [List.replicate_succ', List.append_assoc]
def strLenW : Value → Nat
  | .string s => s.size
  | _ => 0
set_option maxHeartbeats 1000000 in
theorem long_any (a0 : Int) (ha : 0 ≤ a0) (hb : a0 ≤ 255) (w : World) (hL : Lb w) : Calls Tryd.prog 4 #[.int .u8 a0] w fun e w' => e = .returned (.bool true) ∧ Ext w w' := by
  have HL := Lib.hid hL
  have HAW := Lib.hid (awake_law w hL)
  obtain ⟨j, hj, hj7⟩ : ∃ j : Nat, a0.tmod 7 = (j : Int) ∧ j < 7 := by
    refine ⟨(a0 % 7).toNat, ?_, ?_⟩
    · rw [Int.tmod_eq_emod_of_nonneg ha]; omega
    · omega
  have hj' : a0 % 7 = (j : Int) := by rw [← Int.tmod_eq_emod_of_nonneg ha]; exact hj
  have HJ := Lib.hid (And.intro hj hj')
  go_enter Tryd.func4, Tryd.ntmps4
  go_wp2_with (go_at_call 7; refine HAW.out.mono ?_; rintro e W1 ⟨he, hx⟩; subst he; have HX := Lib.hid hx; clear hx; refine Hid.out ?_)
  refine Lib.hid ?_
  have hL1 := HL.out.ext HX.out
  go_wp2
  go_loop [4] (fun s => ∃ k : Nat, k ≤ 4070 + j ∧ s = Str (lngS k)) (fun s => 5000 - strLenW s)
  case atStart => exact ⟨0, by omega, rfl⟩
  case round =>
    obtain ⟨k, hk, rfl⟩ := hrel
    have hlen := lngS_len k
    by_cases h3 : k < 4070 + j
    · have HS := Lib.hid (lngS_succ k)
      generalize lngS k = t at *
      have t1 : decide ((t.length : Int) + 4 < 4093 + (j : Int)) = true := by simp; omega
      go_wp2
      go_round
      case rel => exact ⟨k + 1, by omega, by rw [HS.out]⟩
      case measure => simp [strLenW, size_list]; omega
    · obtain rfl : k = 4070 + j := by omega
      have hP : lngS (4070 + j) ++ [13, 10, 13, 10] = lngL (4093 + j) := by
        unfold lngL lngS; rw [show 4093 + j - 23 = 4070 + j by omega]
      have hll := lngL_len (4093 + j) (by omega)
      have t1 : decide (((lngS (4070 + j)).length : Int) + 4 < 4093 + (j : Int)) = false := by rw [lngS_len]; simp; omega
      obtain ⟨cap, W2, hconv, hx2, hsl⟩ := bytes_of_str (P := Tryd.prog) W1 9 27 5 (lngS (4070 + j) ++ [13, 10, 13, 10]) (by rw [hP, hll]; unfold maxLen; omega) Tryd.underlying9 Tryd.underlying27 Tryd.underlying5
      have hsl2 := hsl
      have hconv2 := hconv
      rw [hP] at hsl2
      have HP := Lib.hid (preq_any ⟨W1.heap.size, 0, none⟩ cap (lngL (4093 + j)) (by rw [hll]; omega) W2 (hL1.ext hx2) (by rw [hP] at hsl; exact hsl))
      have hpl : (lngS (4070 + j) ++ [13, 10, 13, 10]).length = 4093 + j := by rw [hP, hll]
      have hll' := Lib.hid hll
      rw [hpl] at hconv
      rw [hll] at HP
      have HX2 := Lib.hid (ext_trans HX.out hx2)
      have HOK := Lib.hid (fun h => lng_ok j h)
      have HBD := Lib.hid (fun h => lng_bad j h hj7)
      generalize lngS (4070 + j) = t at *
      clear hsl hsl2 hconv2 hpl hP hll hx2
      go_wp2_with fail
      refine HP.out.mono ?_
      rintro e W3 ⟨hq, hx3⟩
      have HX3 := Lib.hid (ext_trans HX2.out hx3)
      by_cases h4 : j < 4
      · have hk := HOK.out h4
        unfold lngOk at hk
        simp only [Bool.and_eq_true, decide_eq_true_eq] at hk
        obtain ⟨k1, k2, k3, k4, k5⟩ := hk
        obtain ⟨ao, cp, he, _⟩ := prq_ok hq k1 k2 k3 k4 (by rw [List.length_map, List.length_tail]; omega)
        obtain ⟨kv, hkv⟩ : ∃ kv : Int, ((4093 + j - 4 : Nat) : Int) + 4 = kv := ⟨_, rfl⟩
        rw [hkv] at he
        have q1 : (kv == 4093 + (j : Int)) = true := by rw [← hkv]; simp; omega
        have q2 : decide ((4096 : Int) < 4093 + (j : Int)) = false := by simp; omega
        have q3 : decide (4093 + (j : Int) ≤ 4096) = true := by simp; omega
        generalize ((tkL (lngL (4093 + j)) (4093 + j - 4)).tail.map tkF).length = ml at *
        subst he
        clear k1 k2 k3 k4 k5 hq hx3 hkv h4 HOK HBD hlen t1 h3 hconv HP
        go_wp2
        go_ret
        exact ⟨rfl, (HX3.out.alloc HX3.out.size _)⟩
      · have he := prq_none hq (HBD.out (by omega))
        rw [if_neg (by rw [hll'.out]; omega)] at he
        have q2 : decide ((4096 : Int) < 4093 + (j : Int)) = true := by simp; omega
        subst he
        clear hq hx3 h4 HOK HBD hlen t1 h3 hconv HP
        go_wp2
        go_ret
        exact ⟨rfl, (HX3.out.alloc HX3.out.size _)⟩
end Go.Proofs.YtmflnffjhfejhaaDoor
