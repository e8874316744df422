/-
  b64.encode.
-/
import Derived.Test.YtiellfhdfifbhaaDoorRows
import Derived.Test.YtiellfhdfifbhaaDoorBld
namespace Go.Proofs.YtiellfhdfifbhaaDoor
open Go.RowKit

/-- The number of the first k of three bytes, noughts where there are none. -/
def pack (l : List UInt8) : Nat → Nat
  | 0 => 0
  | i + 1 => pack l i * 256 + (bt l i).toNat
def encL (A l : List UInt8) : List UInt8 := (List.range (l.length + 1)).map fun i => bt A (pack l 3 / 2 ^ (6 * (3 - i)) % 64)

theorem pack_lt (l : List UInt8) : ∀ k, pack l k < 256 ^ k
  | 0 => by simp [pack]
  | k + 1 => by
    have := pack_lt l k
    have h := (bt l k).toNat_lt
    simp only [pack]
    rw [Nat.pow_succ]
    have h2 : (bt l k).toNat < 256 := h
    omega
theorem encL_take (A l : List UInt8) : ∀ k, k < l.length + 1 → ∀ y, y = bt A (pack l 3 / 2 ^ (6 * (3 - k)) % 64) → (encL A l).take (k + 1) = (encL A l).take k ++ [y] := by
  intro k hk y hy
  have hlen : k < (encL A l).length := by simpa [encL] using hk
  rw [List.take_succ_eq_append_getElem hlen, hy]
  simp [encL]

set_option maxHeartbeats 400000 in
theorem encode_any (A l : List UInt8) (hA : A.length = 64) (v : Value) (hn : l.length ≤ 3) (w : World) (hv : SlB w v l) :
    Calls Tryd.prog 73 #[Str A, v] w fun e w' => ∃ v', e = .returned v' ∧ w'.ownsRow w.heap.size 5 1 v' (l.length + 1) ((encL A l).map Byt) ∧ Ext w w' := by
  obtain ⟨ao, cap, rfl, hcap, hmax, hnil, hcell⟩ := hv
  simp only [List.length_map] at hcap ⊢
  have HC := Lib.hid hcell; clear hcell
  have hix := run_index_adr (P := Tryd.prog) Tryd.underlying33 Tryd.sizeOf5 hnil hcap
  go_enter Tryd.func73, Tryd.ntmps73
  go_wp2
  go_loop [5, 9] (fun v i => ∃ k : Nat, k ≤ 3 ∧ i = .int .i64 k ∧ v = .int .i64 (pack l k : Nat)) (fun _ i => 3 - (intOf i).toNat)
  case atStart => exact ⟨0, by omega, rfl, rfl⟩
  case round =>
    obtain ⟨k, hk, rfl, rfl⟩ := hrel
    by_cases h3 : k < 3
    · have hp : pack l k < 65536 := Nat.lt_of_lt_of_le (pack_lt l k) (Nat.pow_le_pow_right (n := 256) (by omega) (show k ≤ 2 by omega))
      have Hpk := Lib.hid (show pack l (k + 1) = pack l k * 256 + (bt l k).toNat from rfl)
      by_cases hkn : k < l.length
      · have hck : w.cell? (adr ao k) = some (Byt (bt l k)) := HC.out k _ (byt_map l k hkn)
        have hb := (bt l k).toNat_lt
        have hor := or_num 8 256 256 (pack l k) (bt l k).toNat rfl rfl (by omega) hb
        generalize bt l k = c at *
        generalize pack l k = pk at *
        go_wp2
        go_round
        case rel => exact ⟨k + 1, by omega, by go_num, by rw [Hpk.out]; go_num⟩
        case measure => simp [intOf] <;> omega
      · have h0 : (bt l k).toNat = 0 := by rw [bt_out l k (by omega)]; rfl
        go_wp2
        go_round
        case rel => exact ⟨k + 1, by omega, by go_num, by rw [Hpk.out, h0, Nat.add_zero]; go_num⟩
        case measure => simp [intOf] <;> omega
    · obtain rfl : k = 3 := by omega
      have hp : pack l 3 < 16777216 := pack_lt l 3
      clear h3 hk
      have HP := Lib.hid (encL_take A l)
      generalize pack l 3 = pk at *
      go_wp2
      go_loopw [7, 29] (fun v i wr => ∃ k : Nat, k ≤ l.length + 1 ∧ i = .int .i64 k ∧ wr.ownsRow w.heap.size 5 1 v k (((encL A l).take k).map Byt) ∧ Ext w wr) (fun _ i _ => l.length + 1 - (intOf i).toNat)
      case atStart => exact ⟨0, by omega, rfl, World.ownsRow_nil _ _ _ _, Below.refl _ _⟩
      case round =>
        obtain ⟨k, hk, rfl, hown, hext⟩ := hrel
        by_cases hkn : k < l.length + 1
        · have hx : wr.heap.size = wr.heap.size := rfl
          obtain rfl | rfl | rfl | rfl : k = 0 ∨ k = 1 ∨ k = 2 ∨ k = 3 := by omega
          · obtain ⟨x, hx⟩ : ∃ x, x = pk / 262144 % 64 := ⟨_, rfl⟩
            have hand : bits BinOp.and .i64 ((pk : Int) / 262144) 63 = (x : Int) := by
              have := and_num 6 63 63 (pk / 262144) (by omega) rfl rfl (by omega)
              rw [show (2 : Nat) ^ 6 = 64 from rfl, ← hx] at this
              simpa using this
            have hx64 : x < 64 := by omega
            have Hx := Lib.hid hx; clear hx
            have hnx : (encL A l).take (0 + 1) = (encL A l).take 0 ++ [bt A x] := HP.out 0 (by omega) _ (by rw [Hx.out])
            go_wp2_with (at_builtin; refine wpList_push w.heap.size rfl _ _ 33 5 rfl Tryd.underlying33 infoByte rfl (by omega) hown (Byt (bt A x)) rfl (by omega) hext.size rfl rfl ?_; rintro _ w1 ⟨g1, cap1, rfl⟩ hown1 hgr1)
            go_roundw
            case rel => exact ⟨0 + 1, by omega, rfl, by rw [hnx, List.map_append]; exact hown1, ext_push hext hown hgr1⟩
            case measure => simp [intOf] <;> omega
          · obtain ⟨x, hx⟩ : ∃ x, x = pk / 4096 % 64 := ⟨_, rfl⟩
            have hand : bits BinOp.and .i64 ((pk : Int) / 4096) 63 = (x : Int) := by
              have := and_num 6 63 63 (pk / 4096) (by omega) rfl rfl (by omega)
              rw [show (2 : Nat) ^ 6 = 64 from rfl, ← hx] at this
              simpa using this
            have hx64 : x < 64 := by omega
            have Hx := Lib.hid hx; clear hx
            have hnx : (encL A l).take (1 + 1) = (encL A l).take 1 ++ [bt A x] := HP.out 1 (by omega) _ (by rw [Hx.out])
            go_wp2_with (at_builtin; refine wpList_push w.heap.size rfl _ _ 33 5 rfl Tryd.underlying33 infoByte rfl (by omega) hown (Byt (bt A x)) rfl (by omega) hext.size rfl rfl ?_; rintro _ w1 ⟨g1, cap1, rfl⟩ hown1 hgr1)
            go_roundw
            case rel => exact ⟨1 + 1, by omega, rfl, by rw [hnx, List.map_append]; exact hown1, ext_push hext hown hgr1⟩
            case measure => simp [intOf] <;> omega
          · obtain ⟨x, hx⟩ : ∃ x, x = pk / 64 % 64 := ⟨_, rfl⟩
            have hand : bits BinOp.and .i64 ((pk : Int) / 64) 63 = (x : Int) := by
              have := and_num 6 63 63 (pk / 64) (by omega) rfl rfl (by omega)
              rw [show (2 : Nat) ^ 6 = 64 from rfl, ← hx] at this
              simpa using this
            have hx64 : x < 64 := by omega
            have Hx := Lib.hid hx; clear hx
            have hnx : (encL A l).take (2 + 1) = (encL A l).take 2 ++ [bt A x] := HP.out 2 (by omega) _ (by rw [Hx.out])
            go_wp2_with (at_builtin; refine wpList_push w.heap.size rfl _ _ 33 5 rfl Tryd.underlying33 infoByte rfl (by omega) hown (Byt (bt A x)) rfl (by omega) hext.size rfl rfl ?_; rintro _ w1 ⟨g1, cap1, rfl⟩ hown1 hgr1)
            go_roundw
            case rel => exact ⟨2 + 1, by omega, rfl, by rw [hnx, List.map_append]; exact hown1, ext_push hext hown hgr1⟩
            case measure => simp [intOf] <;> omega
          · obtain ⟨x, hx⟩ : ∃ x, x = pk / 1 % 64 := ⟨_, rfl⟩
            have hand : bits BinOp.and .i64 ((pk : Int) ) 63 = (x : Int) := by
              have := and_num 6 63 63 (pk / 1) (by omega) rfl rfl (by omega)
              rw [show (2 : Nat) ^ 6 = 64 from rfl, ← hx] at this
              simpa using this
            have hx64 : x < 64 := by omega
            have Hx := Lib.hid hx; clear hx
            have hnx : (encL A l).take (3 + 1) = (encL A l).take 3 ++ [bt A x] := HP.out 3 (by omega) _ (by rw [Hx.out])
            go_wp2_with (at_builtin; refine wpList_push w.heap.size rfl _ _ 33 5 rfl Tryd.underlying33 infoByte rfl (by omega) hown (Byt (bt A x)) rfl (by omega) hext.size rfl rfl ?_; rintro _ w1 ⟨g1, cap1, rfl⟩ hown1 hgr1)
            go_roundw
            case rel => exact ⟨3 + 1, by omega, rfl, by rw [hnx, List.map_append]; exact hown1, ext_push hext hown hgr1⟩
            case measure => simp [intOf] <;> omega
        · go_wp2
          go_ret
          obtain rfl : k = l.length + 1 := by omega
          exact ⟨_, rfl, by rw [List.take_of_length_le (by simp [encL])] at hown; exact hown, hext⟩

end Go.Proofs.YtiellfhdfifbhaaDoor
