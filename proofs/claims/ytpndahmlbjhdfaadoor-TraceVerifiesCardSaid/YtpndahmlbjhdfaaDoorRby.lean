/-
  ref01.Bytes, ref01.Tail, ref01.Out.
-/
import Derived.Test.YtpndahmlbjhdfaaDoorRows
import Derived.Test.YtpndahmlbjhdfaaDoorBlk
import Derived.Test.YtpndahmlbjhdfaaDoorRst
namespace Go.Proofs.YtpndahmlbjhdfaaDoor
open Go.RowKit
set_option maxRecDepth 100000
set_option linter.unusedVariables false
set_option linter.unusedSimpArgs false
/-- A number's bytes, the highest first. -/
def beL (z n : Nat) : List UInt8 := (List.range z).map fun i => UInt8.ofNat (n / 256 ^ (z - 1 - i))
def beC (z n k : Nat) : Array Value := ((List.range z).map fun i => if z - 1 - i < k then Byt (UInt8.ofNat (n / 256 ^ (z - 1 - i))) else .int .u8 0).toArray
theorem beC_get (z n k j : Nat) (h : j < z) : ∃ v, (beC z n k)[j]? = some v := by simp [beC, h]
theorem beC_size (z n k : Nat) : (beC z n k).size = z := by simp [beC]
theorem beC_set (z n k : Nat) (h : k < z) : (beC z n k).setIfInBounds (z - 1 - k) (Byt (UInt8.ofNat (n / 256 ^ k))) = beC z n (k + 1) := by
  apply Array.ext
  · simp [beC]
  · intro i h1 h2
    have hi : i < z := by simpa [beC] using h2
    rw [Array.getElem_setIfInBounds]
    split
    · rename_i he
      have e : z - 1 - i = k := by omega
      simp [beC, e]
    · rename_i he
      simp only [beC, List.getElem_toArray, List.getElem_map, List.getElem_range]
      by_cases h3 : z - 1 - i < k
      · rw [if_pos h3, if_pos (by omega)]
      · rw [if_neg h3, if_neg (by omega)]
    · simpa [beC] using hi
theorem beC_all (z n : Nat) : beC z n z = ((beL z n).map Byt).toArray := by
  apply Array.ext
  · simp [beC, beL]
  · intro i h1 h2
    have hi : i < z := by simpa [beC] using h1
    simp only [beC, beL, List.getElem_toArray, List.getElem_map, List.getElem_range]
    rw [if_pos (by omega)]
theorem beL_len (z n : Nat) : (beL z n).length = z := by simp [beL]
theorem beL8 (n : Nat) : beL 8 n = shLong n := rfl
theorem beL4 (x : UInt32) : beL 4 x.toNat = shBe x := by simp [beL, shBe, List.range_succ]
theorem run_make8 : ∀ w, (Instr.makeSlice 45 (.int .i64 8) (.int .i64 8)).run Tryd.prog w = .ok (.slice (some ⟨w.heap.size, 0, none⟩) 8 8) (w.alloc (.cells #[.int .u8 0, .int .u8 0, .int .u8 0, .int .u8 0, .int .u8 0, .int .u8 0, .int .u8 0, .int .u8 0] 5)) := fun _ => by kernel_rfl
theorem run_make4 : ∀ w, (Instr.makeSlice 45 (.int .i64 4) (.int .i64 4)).run Tryd.prog w = .ok (.slice (some ⟨w.heap.size, 0, none⟩) 4 4) (w.alloc (.cells #[.int .u8 0, .int .u8 0, .int .u8 0, .int .u8 0] 5)) := fun _ => by kernel_rfl
set_option maxHeartbeats 400000 in
theorem bytes8_any (n : Nat) (w : World) (hn : n < 18446744073709551616) :
    Calls Tryd.prog 81 #[.int .u64 (n : Int), .int .i64 8] w fun e w' => ∃ v', e = .returned v' ∧ OwnB w.heap.size v' (beL 8 n) w' ∧ Ext w w' := by
  have hmk := run_make8
  go_enter Tryd.func81, Tryd.ntmps81
  go_wp2
  clear hmk
  have h0 : Arr (w.alloc (.cells (beC 8 n 0) 5)) w.heap.size 5 (beC 8 n 0) := heap_alloc_last w _
  have hx0 : Ext w (w.alloc (.cells (beC 8 n 0) 5)) := Below.alloc (Below.refl _ w) (Nat.le_refl _) _
  have e0 : beC 8 n 0 = Array.replicate 8 (.int .u8 0) := rfl
  simp only [e0, Array.replicate, List.replicate] at h0 hx0
  have H0 := Lib.hid (show Arr _ w.heap.size 5 (beC 8 n 0) from h0)
  clear h0 e0
  generalize w.alloc _ = W1 at *
  have HX := Lib.hid hx0; clear hx0
  go_loopw [0, 6] (fun m i wr => ∃ k : Nat, k ≤ 8 ∧ i = .int .i64 (8 - 1 - (k : Int)) ∧ m = .int .u64 ((n / 256 ^ k : Nat) : Int) ∧ Arr wr w.heap.size 5 (beC 8 n k) ∧ Ext w wr) (fun _ i _ => (intOf i + 1).toNat)
  case atStart => exact ⟨0, by omega, rfl, by simp, H0.out, HX.out⟩
  case round =>
    obtain ⟨k, hk, rfl, rfl, hA, hext⟩ := hrel
    have hm : n / 256 ^ k < 18446744073709551616 := Nat.lt_of_le_of_lt (Nat.div_le_self _ _) hn
    by_cases h3 : k < 8
    · have hf := arr_frozen (j := 8 - 1 - k) hA
      obtain ⟨v0, hv0⟩ := beC_get 8 n k (8 - 1 - k) (by omega)
      have hc := arr_cell hA hv0
      have ho : n / 256 ^ (k + 1) = n / 256 ^ k / 256 := by rw [Nat.pow_succ, Nat.div_div_eq_div_mul]
      have hset := Lib.hid (show Arr (World.setCell _ ⟨w.heap.size, 8 - 1 - k, none⟩ (Byt (UInt8.ofNat (n / 256 ^ k)))) w.heap.size 5 (beC 8 n (k + 1)) by rw [← beC_set 8 n k h3]; exact arr_set hA _)
      have HE := Lib.hid hext
      have HO := Lib.hid ho
      have HB := Lib.hid (byt_ofNat (n / 256 ^ k))
      have ix : ∀ W, (Instr.indexAt 45 (.slice (some ⟨w.heap.size, 0, none⟩) 8 8) (.int .i64 (8 - 1 - (k : Int)))).run Tryd.prog W = .ok (.pointer (some ⟨w.heap.size, 8 - 1 - k, none⟩)) W := fun W => by
        have := run_index_adr (P := Tryd.prog) Tryd.underlying45 Tryd.sizeOf5 (ao := some ⟨w.heap.size, 0, none⟩) (n := 8) (cap := 8) (fun h => by cases h) (Nat.le_refl _) W (8 - 1 - k) (by omega)
        rw [adr_some, Nat.zero_add] at this
        rwa [show ((8 - 1 - k : Nat) : Int) = 8 - 1 - (k : Int) by omega] at this
      clear hA hext ho hv0
      generalize n / 256 ^ k = m at *
      go_wp2
      refine ⟨⟨k + 1, by omega, by first | (congr 1; omega) | go_num, ?_, ?_, ?_⟩, by simp [intOf]; omega⟩
      · rw [HO.out]; exact congrArg (Value.int .u64) (by omega)
      · rw [HB.out] at hset; exact hset.out
      · exact ext_set HE.out (Nat.le_refl _) _
    · obtain rfl : k = 8 := by omega
      have HA := Lib.hid hA
      have HE := Lib.hid hext
      clear hA hext
      go_wp2
      go_ret
      refine ⟨_, rfl, ?_, HE.out⟩
      have hA := HA.out
      rw [beC_all] at hA
      show OwnB w.heap.size (.slice (some ⟨w.heap.size, 0, none⟩) 8 8) (beL 8 n) _
      unfold OwnB
      rw [beL_len]
      exact ⟨by simp [beL_len], .inr ⟨w.heap.size, 8, _, rfl, Nat.le_refl _, hA, Nat.le_refl _, by unfold maxLen; omega, by simp [beL_len], List.take_of_length_le (by simp [beL_len])⟩⟩
set_option maxHeartbeats 400000 in
theorem bytes4_any (n : Nat) (w : World) (hn : n < 18446744073709551616) :
    Calls Tryd.prog 81 #[.int .u64 (n : Int), .int .i64 4] w fun e w' => ∃ v', e = .returned v' ∧ OwnB w.heap.size v' (beL 4 n) w' ∧ Ext w w' := by
  have hmk := run_make4
  go_enter Tryd.func81, Tryd.ntmps81
  go_wp2
  clear hmk
  have h0 : Arr (w.alloc (.cells (beC 4 n 0) 5)) w.heap.size 5 (beC 4 n 0) := heap_alloc_last w _
  have hx0 : Ext w (w.alloc (.cells (beC 4 n 0) 5)) := Below.alloc (Below.refl _ w) (Nat.le_refl _) _
  have e0 : beC 4 n 0 = Array.replicate 4 (.int .u8 0) := rfl
  simp only [e0, Array.replicate, List.replicate] at h0 hx0
  have H0 := Lib.hid (show Arr _ w.heap.size 5 (beC 4 n 0) from h0)
  clear h0 e0
  generalize w.alloc _ = W1 at *
  have HX := Lib.hid hx0; clear hx0
  go_loopw [0, 6] (fun m i wr => ∃ k : Nat, k ≤ 4 ∧ i = .int .i64 (4 - 1 - (k : Int)) ∧ m = .int .u64 ((n / 256 ^ k : Nat) : Int) ∧ Arr wr w.heap.size 5 (beC 4 n k) ∧ Ext w wr) (fun _ i _ => (intOf i + 1).toNat)
  case atStart => exact ⟨0, by omega, rfl, by simp, H0.out, HX.out⟩
  case round =>
    obtain ⟨k, hk, rfl, rfl, hA, hext⟩ := hrel
    have hm : n / 256 ^ k < 18446744073709551616 := Nat.lt_of_le_of_lt (Nat.div_le_self _ _) hn
    by_cases h3 : k < 4
    · have hf := arr_frozen (j := 4 - 1 - k) hA
      obtain ⟨v0, hv0⟩ := beC_get 4 n k (4 - 1 - k) (by omega)
      have hc := arr_cell hA hv0
      have ho : n / 256 ^ (k + 1) = n / 256 ^ k / 256 := by rw [Nat.pow_succ, Nat.div_div_eq_div_mul]
      have hset := Lib.hid (show Arr (World.setCell _ ⟨w.heap.size, 4 - 1 - k, none⟩ (Byt (UInt8.ofNat (n / 256 ^ k)))) w.heap.size 5 (beC 4 n (k + 1)) by rw [← beC_set 4 n k h3]; exact arr_set hA _)
      have HE := Lib.hid hext
      have HO := Lib.hid ho
      have HB := Lib.hid (byt_ofNat (n / 256 ^ k))
      have ix : ∀ W, (Instr.indexAt 45 (.slice (some ⟨w.heap.size, 0, none⟩) 4 4) (.int .i64 (4 - 1 - (k : Int)))).run Tryd.prog W = .ok (.pointer (some ⟨w.heap.size, 4 - 1 - k, none⟩)) W := fun W => by
        have := run_index_adr (P := Tryd.prog) Tryd.underlying45 Tryd.sizeOf5 (ao := some ⟨w.heap.size, 0, none⟩) (n := 4) (cap := 4) (fun h => by cases h) (Nat.le_refl _) W (4 - 1 - k) (by omega)
        rw [adr_some, Nat.zero_add] at this
        rwa [show ((4 - 1 - k : Nat) : Int) = 4 - 1 - (k : Int) by omega] at this
      clear hA hext ho hv0
      generalize n / 256 ^ k = m at *
      go_wp2
      refine ⟨⟨k + 1, by omega, by first | (congr 1; omega) | go_num, ?_, ?_, ?_⟩, by simp [intOf]; omega⟩
      · rw [HO.out]; exact congrArg (Value.int .u64) (by omega)
      · rw [HB.out] at hset; exact hset.out
      · exact ext_set HE.out (Nat.le_refl _) _
    · obtain rfl : k = 4 := by omega
      have HA := Lib.hid hA
      have HE := Lib.hid hext
      clear hA hext
      go_wp2
      go_ret
      refine ⟨_, rfl, ?_, HE.out⟩
      have hA := HA.out
      rw [beC_all] at hA
      show OwnB w.heap.size (.slice (some ⟨w.heap.size, 0, none⟩) 4 4) (beL 4 n) _
      unfold OwnB
      rw [beL_len]
      exact ⟨by simp [beL_len], .inr ⟨w.heap.size, 4, _, rfl, Nat.le_refl _, hA, Nat.le_refl _, by unfold maxLen; omega, by simp [beL_len], List.take_of_length_le (by simp [beL_len])⟩⟩
set_option maxHeartbeats 400000 in
theorem tail_any (n : Nat) (w : World) (hn : n < 1000000) :
    Calls Tryd.prog 64 #[.int .u64 (n : Int)] w fun e w' => ∃ v', e = .returned v' ∧ OwnB w.heap.size v' (shTail n) w' ∧ Ext w w' := by
  go_enter Tryd.func64, Tryd.ntmps64
  go_wp2
  obtain ⟨W1, hW1⟩ : ∃ W1, w.alloc (.cells #[.int .u8 128] 5) = W1 := ⟨_, rfl⟩
  have ho1 : W1.ownsRow w.heap.size 5 1 (.slice (some ⟨w.heap.size, 0, none⟩) 1 1) 1 [.int .u8 128] := by rw [← hW1]; exact own_built w w.heap.size 5 [.int .u8 128] (Nat.le_refl _) (by simp)
  have hx1 : Ext w W1 := by rw [← hW1]; exact Below.alloc (Below.refl _ w) (Nat.le_refl _) _
  rw [hW1]
  clear hW1
  go_loopw [3, 4] (fun v i wr => ∃ k : Nat, k ≤ padN n ∧ i = .int .u64 ((n : Int) % 64 + 1 + (k : Int)) ∧ wr.ownsRow w.heap.size 5 1 v (k + 1) ((128 :: List.replicate k 0).map Byt) ∧ Ext w wr) (fun v _ _ => padN n + 1 - slLen v)
  case atStart => exact ⟨0, by omega, by simp, ho1, hx1⟩
  case round =>
    obtain ⟨k, hk, rfl, hown, hext⟩ := hrel
    have hsh := own_shape hown (by omega)
    obtain ⟨g, cap, rfl, hg⟩ := hsh
    have hpad : padN n < 64 := Nat.mod_lt _ (by omega)
    by_cases h3 : k < padN n
    · have hmod : ((n : Int) % 64 + 1 + (k : Int)) % 64 ≠ 56 := by unfold padN at h3 hk; omega
      go_wp2_with (at_builtin; refine wpList_push w.heap.size rfl _ _ 45 5 rfl Tryd.underlying45 infoByte rfl (by omega) hown (Byt 0) rfl (by omega) hext.size rfl rfl ?_; rintro _ w1 ⟨g1, cap1, rfl⟩ hown1 hgr1)
      go_roundw
      case rel => exact ⟨k + 1, by omega, congrArg (Value.int .u64) (by omega), by rw [List.replicate_succ', ← List.cons_append, List.map_append]; exact hown1, ext_push hext hown hgr1⟩
      case measure => simp [slLen]; omega
    · obtain rfl : k = padN n := by omega
      have hmod : ((n : Int) % 64 + 1 + (padN n : Int)) % 64 = 56 := by unfold padN; omega
      have hL := Lib.hid (bytes8_any (n * 8) wr (by omega))
      have HE := Lib.hid (shTail_eq n)
      have hsz := hext.size
      generalize padN n = p at *
      have H1 := Lib.hid (byt_one (shLong (8 * n)))
      have e8 : ((n * 8 : Nat) : Int) = (n : Int) * 8 := by omega
      rw [e8, beL8, Nat.mul_comm n 8] at hL
      clear e8
      go_wp2_with (first | (go_at_call 81; refine (hL.out).mono ?_; rintro e w2 ⟨v2, rfl, ho2, hx2⟩) | (at_builtin; refine wpList_more w.heap.size rfl _ _ 45 5 rfl Tryd.underlying45 infoByte rfl (by omega) (own_ext hown hx2) ho2.sl H1.out (by simp [shLong]; omega) (by have := hx2.size; omega) rfl rfl ?_; rintro v' w3 hown3 hgr3))
      go_ret
      refine ⟨_, rfl, ?_, ext_push (ext_trans hext hx2) (own_ext hown hx2) hgr3⟩
      rw [HE.out]
      unfold OwnB
      have e1 : ((128 :: List.replicate p (0 : UInt8)) ++ shLong (8 * n)).length = p + 1 + ((shLong (8 * n)).map Byt).length := by simp; omega
      rw [e1, List.map_append]
      exact hown3
theorem run_index8S (v : St) : ∀ k : Nat, k < 8 → ∀ W, (Instr.index 104 (.agg (cells8 v)) (.int .i64 (k : Int))).run Tryd.prog W = .ok (W32 (wd v k)) W := by
  apply eight <;> exact fun W => by kernel_rfl
set_option maxHeartbeats 400000 in
theorem out_any (s : St) (w : World) :
    Calls Tryd.prog 65 #[.agg (cells8 s)] w fun e w' => ∃ v', e = .returned v' ∧ OwnB w.heap.size v' (shOut s) w' ∧ Ext w w' := by
  go_enter Tryd.func65, Tryd.ntmps65
  go_wp2_with (refine wpList_load_row rfl 104 _ rfl w.heap.size rfl 104 _ (0, 0) _ (heap_alloc_last w _) Tryd.underlying104 rfl infoS ?_)
  have hx1 : Ext w (w.alloc (.cells (cells8 s) 104)) := Below.alloc (Below.refl _ w) (Nat.le_refl _) _
  have HX := Lib.hid hx1; clear hx1
  generalize w.alloc (.cells (cells8 s) 104) = W1 at *
  go_loopw [3, 7] (fun v i wr => ∃ k : Nat, k ≤ 8 ∧ i = .int .i64 k ∧ wr.ownsRow w.heap.size 5 1 v (4 * k) (((s.words.take k).flatMap shBe).map Byt) ∧ Ext w wr) (fun _ i _ => 8 - (intOf i).toNat)
  case atStart => exact ⟨0, by omega, rfl, World.ownsRow_nil _ _ _ _, HX.out⟩
  case round =>
    obtain ⟨k, hk, rfl, hown, hext⟩ := hrel
    by_cases h3 : k < 8
    · have ik := run_index8S s k h3
      have hnx := Lib.hid (words_take s k h3)
      have hx := w_lt (wd s k)
      have hB := Lib.hid (bytes4_any (wd s k).toNat wr (by omega))
      rw [beL4] at hB
      have hsz := hext.size
      generalize wd s k = x at *
      have H1 := Lib.hid (byt_one (shBe x))
      have h4 : (shBe x).length = 4 := rfl
      have H4 := Lib.hid h4; clear h4
      go_wp2_with (first | (go_at_call 81; refine (hB.out).mono ?_; rintro e w2 ⟨v2, rfl, ho2, hx2⟩) | (at_builtin; refine wpList_more w.heap.size rfl _ _ 45 5 rfl Tryd.underlying45 infoByte rfl (by omega) (own_ext hown hx2) ho2.sl H1.out (by rw [List.length_map, H4.out]; omega) (by have := hx2.size; omega) rfl rfl ?_; rintro v' w3 hown3 hgr3))
      go_roundw
      case rel => exact ⟨k + 1, by omega, by go_num, by rw [hnx.out, List.map_append]; rw [List.length_map, H4.out] at hown3; exact hown3, ext_push (ext_trans hext hx2) (own_ext hown hx2) hgr3⟩
      case measure => simp [intOf]; omega
    · obtain rfl : k = 8 := by omega
      go_wp2
      go_ret
      exact ⟨_, rfl, by unfold OwnB; rw [shOut_len]; exact hown, hext⟩
end Go.Proofs.YtpndahmlbjhdfaaDoor
