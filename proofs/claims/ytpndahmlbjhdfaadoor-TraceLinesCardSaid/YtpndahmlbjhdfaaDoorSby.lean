/-
  sha.state's bytes, sha.long.
-/
import Derived.Test.YtpndahmlbjhdfaaDoorRows
import Derived.Test.YtpndahmlbjhdfaaDoorStp
namespace Go.Proofs.YtpndahmlbjhdfaaDoor
open Go.RowKit
set_option maxRecDepth 100000
set_option linter.unusedVariables false
set_option linter.unusedSimpArgs false
theorem byt_ofNat (n : Nat) : Byt (UInt8.ofNat n) = .int .u8 ((n : Int) % 256) := by
  simp only [Byt, UInt8.toNat_ofNat']; congr 1
theorem words_len (s : St) : s.words.length = 8 := rfl
theorem words_take (s : St) (k : Nat) (h : k < 8) : (s.words.take (k + 1)).flatMap shBe = (s.words.take k).flatMap shBe ++ shBe (wd s k) := by
  rw [List.take_succ_eq_append_getElem (by rw [words_len]; exact h), List.flatMap_append, List.flatMap_singleton]
  congr 2
  simp [wd, List.getElem?_eq_getElem (show k < s.words.length from h)]
theorem words_out_len (s : St) (k : Nat) (h : k ≤ 8) : ((s.words.take k).flatMap shBe).length = 4 * k := by
  induction k with
  | zero => simp
  | succ k ih => rw [words_take s k (by omega), List.length_append, ih (by omega)]; rfl
theorem shBe_cells (x : UInt32) : (shBe x).map Byt = [.int .u8 ((x.toNat : Int) / 16777216), .int .u8 ((x.toNat : Int) / 65536 % 256), .int .u8 ((x.toNat : Int) / 256 % 256), .int .u8 ((x.toNat : Int) % 256)] := by
  have hx := w_lt x
  simp only [shBe, List.map_cons, List.map_nil, byt_ofNat]
  rw [show ((x.toNat / 16777216 : Nat) : Int) % 256 = (x.toNat : Int) / 16777216 by omega]
  rfl
theorem own_last {W : World} {base e n : Nat} {v : Value} {xs : List Value} {a b : Int} (h : W.ownsRow base e 1 v n (xs ++ [.int .u8 a])) (hab : a = b) : W.ownsRow base e 1 v n (xs ++ [.int .u8 b]) := hab ▸ h
theorem sl_new (W : World) (us : List Value) (e : TypeId) (h : us.length ≤ 1000) : Sl (W.alloc (.cells us.toArray e)) (.slice (some ⟨W.heap.size, 0, none⟩) us.length us.length) us := by
  refine ⟨_, _, rfl, Nat.le_refl _, by unfold maxLen; omega, (fun h => by cases h), fun j u hu => ?_⟩
  exact new_cells W us e j u hu
set_option maxHeartbeats 400000 in
theorem bytes_any (g : Nat) (s : St) (w : World) (hs : Arr w g 133 (cells8 s)) :
    Calls Tryd.prog 85 #[.pointer (some ⟨g, 0, none⟩)] w fun e w' => ∃ v', e = .returned v' ∧ w'.ownsRow w.heap.size 5 1 v' 32 ((shOut s).map Byt) ∧ Ext w w' := by
  have hi8 := Lib.hid (run_index_arr (P := Tryd.prog) Tryd.underlying133 Tryd.sizeOf102 g)
  go_enter Tryd.func85, Tryd.ntmps85
  have HS := Lib.hid hs; clear hs
  go_wp2
  go_loopw [3, 7] (fun v i wr => ∃ k : Nat, k ≤ 8 ∧ i = .int .i64 k ∧ wr.ownsRow w.heap.size 5 1 v (4 * k) (((s.words.take k).flatMap shBe).map Byt) ∧ Ext w wr) (fun _ i _ => 8 - (intOf i).toNat)
  case atStart => exact ⟨0, by omega, rfl, World.ownsRow_nil _ _ _ _, Below.refl _ _⟩
  case round =>
    obtain ⟨k, hk, rfl, hown, hext⟩ := hrel
    by_cases h3 : k < 8
    · have hc : wr.cell? ⟨g, k, none⟩ = some (W32 (wd s k)) := ext_cell hext (arr_cell HS.out (cells8_get s k h3))
      have ik := fun W => hi8.out W k h3
      have hnx := Lib.hid (words_take s k h3)
      have hbe := Lib.hid (shBe_cells (wd s k))
      have hx := w_lt (wd s k)
      generalize wd s k = x at *
      obtain ⟨ys, hys⟩ : ∃ ys : List Value, ys = [.int .u8 ((x.toNat : Int) / 16777216), .int .u8 ((x.toNat : Int) / 65536 % 256), .int .u8 ((x.toNat : Int) / 256 % 256), .int .u8 ((x.toNat : Int) % 256)] := ⟨_, rfl⟩
      have HN := Lib.hid (sl_new wr [.int .u8 ((x.toNat : Int) / 16777216), .int .u8 ((x.toNat : Int) / 65536 % 256), .int .u8 ((x.toNat : Int) / 256 % 256), .int .u8 ((x.toNat : Int) % 256)] 5 (by simp))
      have HO := Lib.hid (hown.alloc (.cells #[.int .u8 ((x.toNat : Int) / 16777216), .int .u8 ((x.toNat : Int) / 65536 % 256), .int .u8 ((x.toNat : Int) / 256 % 256), .int .u8 ((x.toNat : Int) % 256)] 5))
      have H1 := Lib.hid (show ∀ y ∈ ([.int .u8 ((x.toNat : Int) / 16777216), .int .u8 ((x.toNat : Int) / 65536 % 256), .int .u8 ((x.toNat : Int) / 256 % 256), .int .u8 ((x.toNat : Int) % 256)] : List Value), y.oneCell' = true by simp [Value.oneCell'])
      have hsz := hext.size
      go_wp2_with (at_builtin; refine wpList_more w.heap.size rfl _ _ 45 5 rfl Tryd.underlying45 infoByte rfl (by omega) HO.out HN.out H1.out (by simp; omega) (by simp; omega) rfl rfl ?_; rintro v' w1 hown1 hgr1)
      go_roundw
      case rel => exact ⟨k + 1, by omega, by go_num, by rw [hnx.out, List.map_append, hbe.out]; exact hown1, ext_push hext hown (grownBy_from hgr1)⟩
      case measure => simp [intOf]; omega
    · obtain rfl : k = 8 := by omega
      go_wp2
      go_ret
      exact ⟨_, rfl, hown, hext⟩
/-- A number's eight bytes. -/
theorem shLong_take (n k : Nat) (h : k < 8) : (shLong n).take (k + 1) = (shLong n).take k ++ [UInt8.ofNat (n / 256 ^ (7 - k))] := by
  rw [List.take_succ_eq_append_getElem (by simpa [shLong] using h)]
  simp [shLong]
theorem shLong_len (n : Nat) : (shLong n).length = 8 := by simp [shLong]
set_option maxHeartbeats 400000 in
theorem long_any (n : Nat) (w : World) (hn : n < 1000000000) :
    Calls Tryd.prog 125 #[.int .u64 (n : Int)] w fun e w' => ∃ v', e = .returned v' ∧ w'.ownsRow w.heap.size 5 1 v' 8 ((shLong n).map Byt) ∧ Ext w w' := by
  go_enter Tryd.func125, Tryd.ntmps125
  go_wp2
  go_loopw [3, 5] (fun v i wr => ∃ k : Nat, k ≤ 8 ∧ i = .int .i64 k ∧ wr.ownsRow w.heap.size 5 1 v k (((shLong n).take k).map Byt) ∧ Ext w wr) (fun _ i _ => 8 - (intOf i).toNat)
  case atStart => exact ⟨0, by omega, rfl, World.ownsRow_nil _ _ _ _, Below.refl _ _⟩
  case round =>
    obtain ⟨k, hk, rfl, hown, hext⟩ := hrel
    by_cases h3 : k < 8
    · have hnx := Lib.hid (shLong_take n k h3)
      obtain rfl | rfl | rfl | rfl | rfl | rfl | rfl | rfl : k = 0 ∨ k = 1 ∨ k = 2 ∨ k = 3 ∨ k = 4 ∨ k = 5 ∨ k = 6 ∨ k = 7 := by omega
      · have hb := Lib.hid (byt_ofNat (n / 256 ^ (7 - 0)))
        go_wp2_with (at_builtin; refine wpList_push w.heap.size rfl _ _ 45 5 rfl Tryd.underlying45 infoByte rfl (by omega) hown _ rfl (by omega) hext.size rfl rfl ?_; rintro _ w1 ⟨g1, cap1, rfl⟩ hown1 hgr1)
        go_roundw
        case rel => exact ⟨0 + 1, by omega, rfl, by rw [hnx.out, List.map_append, List.map_singleton, hb.out, show 256 ^ (7 - 0) = 72057594037927936 from rfl]; exact own_last hown1 (by omega), ext_push hext hown hgr1⟩
        case measure => simp [intOf] <;> omega
      · have hb := Lib.hid (byt_ofNat (n / 256 ^ (7 - 1)))
        go_wp2_with (at_builtin; refine wpList_push w.heap.size rfl _ _ 45 5 rfl Tryd.underlying45 infoByte rfl (by omega) hown _ rfl (by omega) hext.size rfl rfl ?_; rintro _ w1 ⟨g1, cap1, rfl⟩ hown1 hgr1)
        go_roundw
        case rel => exact ⟨1 + 1, by omega, rfl, by rw [hnx.out, List.map_append, List.map_singleton, hb.out, show 256 ^ (7 - 1) = 281474976710656 from rfl]; exact own_last hown1 (by omega), ext_push hext hown hgr1⟩
        case measure => simp [intOf] <;> omega
      · have hb := Lib.hid (byt_ofNat (n / 256 ^ (7 - 2)))
        go_wp2_with (at_builtin; refine wpList_push w.heap.size rfl _ _ 45 5 rfl Tryd.underlying45 infoByte rfl (by omega) hown _ rfl (by omega) hext.size rfl rfl ?_; rintro _ w1 ⟨g1, cap1, rfl⟩ hown1 hgr1)
        go_roundw
        case rel => exact ⟨2 + 1, by omega, rfl, by rw [hnx.out, List.map_append, List.map_singleton, hb.out, show 256 ^ (7 - 2) = 1099511627776 from rfl]; exact own_last hown1 (by omega), ext_push hext hown hgr1⟩
        case measure => simp [intOf] <;> omega
      · have hb := Lib.hid (byt_ofNat (n / 256 ^ (7 - 3)))
        go_wp2_with (at_builtin; refine wpList_push w.heap.size rfl _ _ 45 5 rfl Tryd.underlying45 infoByte rfl (by omega) hown _ rfl (by omega) hext.size rfl rfl ?_; rintro _ w1 ⟨g1, cap1, rfl⟩ hown1 hgr1)
        go_roundw
        case rel => exact ⟨3 + 1, by omega, rfl, by rw [hnx.out, List.map_append, List.map_singleton, hb.out, show 256 ^ (7 - 3) = 4294967296 from rfl]; exact own_last hown1 (by omega), ext_push hext hown hgr1⟩
        case measure => simp [intOf] <;> omega
      · have hb := Lib.hid (byt_ofNat (n / 256 ^ (7 - 4)))
        go_wp2_with (at_builtin; refine wpList_push w.heap.size rfl _ _ 45 5 rfl Tryd.underlying45 infoByte rfl (by omega) hown _ rfl (by omega) hext.size rfl rfl ?_; rintro _ w1 ⟨g1, cap1, rfl⟩ hown1 hgr1)
        go_roundw
        case rel => exact ⟨4 + 1, by omega, rfl, by rw [hnx.out, List.map_append, List.map_singleton, hb.out, show 256 ^ (7 - 4) = 16777216 from rfl]; exact own_last hown1 (by omega), ext_push hext hown hgr1⟩
        case measure => simp [intOf] <;> omega
      · have hb := Lib.hid (byt_ofNat (n / 256 ^ (7 - 5)))
        go_wp2_with (at_builtin; refine wpList_push w.heap.size rfl _ _ 45 5 rfl Tryd.underlying45 infoByte rfl (by omega) hown _ rfl (by omega) hext.size rfl rfl ?_; rintro _ w1 ⟨g1, cap1, rfl⟩ hown1 hgr1)
        go_roundw
        case rel => exact ⟨5 + 1, by omega, rfl, by rw [hnx.out, List.map_append, List.map_singleton, hb.out, show 256 ^ (7 - 5) = 65536 from rfl]; exact own_last hown1 (by omega), ext_push hext hown hgr1⟩
        case measure => simp [intOf] <;> omega
      · have hb := Lib.hid (byt_ofNat (n / 256 ^ (7 - 6)))
        go_wp2_with (at_builtin; refine wpList_push w.heap.size rfl _ _ 45 5 rfl Tryd.underlying45 infoByte rfl (by omega) hown _ rfl (by omega) hext.size rfl rfl ?_; rintro _ w1 ⟨g1, cap1, rfl⟩ hown1 hgr1)
        go_roundw
        case rel => exact ⟨6 + 1, by omega, rfl, by rw [hnx.out, List.map_append, List.map_singleton, hb.out, show 256 ^ (7 - 6) = 256 from rfl]; exact own_last hown1 (by omega), ext_push hext hown hgr1⟩
        case measure => simp [intOf] <;> omega
      · have hb := Lib.hid (byt_ofNat (n / 256 ^ (7 - 7)))
        go_wp2_with (at_builtin; refine wpList_push w.heap.size rfl _ _ 45 5 rfl Tryd.underlying45 infoByte rfl (by omega) hown _ rfl (by omega) hext.size rfl rfl ?_; rintro _ w1 ⟨g1, cap1, rfl⟩ hown1 hgr1)
        go_roundw
        case rel => exact ⟨7 + 1, by omega, rfl, by rw [hnx.out, List.map_append, List.map_singleton, hb.out, show 256 ^ (7 - 7) = 1 from rfl]; exact own_last hown1 (by omega), ext_push hext hown hgr1⟩
        case measure => simp [intOf] <;> omega
    · obtain rfl : k = 8 := by omega
      go_wp2
      go_ret
      exact ⟨_, rfl, by rw [List.take_of_length_le (by rw [shLong_len]; omega)] at hown; exact hown, hext⟩
end Go.Proofs.YtpndahmlbjhdfaaDoor
