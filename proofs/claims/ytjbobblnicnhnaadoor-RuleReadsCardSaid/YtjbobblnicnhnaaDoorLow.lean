/-
  Small letters: rule.small, ref08.Low.
-/
import Derived.Test.YtjbobblnicnhnaaDoorRows
import Derived.Test.YtjbobblnicnhnaaDoorKit
namespace Go.Proofs.YtjbobblnicnhnaaDoor
open Go.RowKit
set_option maxRecDepth 100000
set_option linter.unusedVariables false
set_option linter.unusedSimpArgs false

def lowB (c : UInt8) : UInt8 := if 65 ≤ c.toNat ∧ c.toNat ≤ 90 then UInt8.ofNat (c.toNat + 32) else c
/-- A text with small letters. -/
def lowL (l : List UInt8) : List UInt8 := l.map lowB
theorem lowL_len (l : List UInt8) : (lowL l).length = l.length := by simp [lowL]
theorem lowL_snoc (l : List UInt8) (k : Nat) (h : k < l.length) : lowL (l.take (k + 1)) = lowL (l.take k) ++ [lowB (bt l k)] := by rw [take_snoc l k h]; simp [lowL]
def azL : List UInt8 := [97, 98, 99, 100, 101, 102, 103, 104, 105, 106, 107, 108, 109, 110, 111, 112, 113, 114, 115, 116, 117, 118, 119, 120, 121, 122]
theorem azL_lit : (⟨#[97, 98, 99, 100, 101, 102, 103, 104, 105, 106, 107, 108, 109, 110, 111, 112, 113, 114, 115, 116, 117, 118, 119, 120, 121, 122]⟩ : ByteArray) = ⟨azL.toArray⟩ := rfl
theorem azL_at : ∀ n, n < 26 → bt azL n = lowB (UInt8.ofNat (65 + n)) := by decide +kernel
theorem azL_low (c : UInt8) (h : 65 ≤ c.toNat ∧ c.toNat ≤ 90) : bt azL (c.toNat - 65) = lowB c := by
  rw [azL_at _ (by omega), show 65 + (c.toNat - 65) = c.toNat by omega, UInt8.ofNat_toNat]
theorem azL_len : azL.length = 26 := rfl

set_option maxHeartbeats 1000000 in
theorem low_any (l : List UInt8) (hl : l.length ≤ 100000) (w : World) :
    Calls Tryd.prog 40 #[Str l] w fun e w' => e = .returned (Str (lowL l)) ∧ ∃ m, w' = w.drewN m := by
  have hixl : ∀ i, i < l.length → ∀ W, (Instr.index 9 (Str l) (.int .i64 (i : Int))).run Tryd.prog W = .ok (Byt (bt l i)) W := fun i hi W => run_index_str Tryd.underlying9 l i _ rfl hi W
  have HI := Lib.hid hixl; clear hixl
  have hz := azL_lit; have hzl := azL_len
  go_enter Tryd.func40, Tryd.ntmps40
  go_wp2
  go_loopw [3, 4] (fun v i wr => ∃ k : Nat, k ≤ l.length ∧ i = .int .i64 k ∧ v = Str (lowL (l.take k)) ∧ (∃ m, wr = w.drewN m)) (fun _ i _ => l.length - (intOf i).toNat)
  case atStart => exact ⟨0, by omega, rfl, rfl, 0, rfl⟩
  case round =>
    obtain ⟨k, hk, rfl, rfl, m, rfl⟩ := hrel
    by_cases h3 : k < l.length
    · have hix := HI.out k h3
      have Hs := Lib.hid (lowL_snoc l k h3)
      have hlen : (lowL (l.take k)).length ≤ 100000 := by rw [lowL_len]; simp; omega
      have hc1 := Lib.hid (cut_one l k h3)
      have hb := (bt l k).toNat_lt
      generalize bt l k = c at *
      by_cases h1 : 65 ≤ c.toNat
      · have t1 : decide ((65 : Int) ≤ (c.toNat : Int)) = true := by simp; omega
        by_cases h2 : c.toNat ≤ 90
        · have t2 : decide ((c.toNat : Int) ≤ 90) = true := by simp; omega
          have Ha := Lib.hid (azL_low c ⟨h1, h2⟩)
          have Hc := Lib.hid (cut_one azL (c.toNat - 65) (by rw [hzl]; omega))
          go_wp2
          refine wp_region_quiet_lit (by kernel_rfl) (by kernel_rfl) ?_
          repeat (first
            | go_big_quiet_skip
            | (go_big_quiet_want; go_big_quiet_op; (try go_bits); first | go_big_quiet_on | go_big_quiet_call (fail)))
          refine wpQuiet_nil ?_
          intro _ hw'
          obtain ⟨nq, hw''⟩ := hw'
          subst hw''
          go_wp2
          go_roundw
          case rel => exact ⟨k + 1, by omega, by go_num, by rw [Hs.out, ← Ha.out, ← Hc.out], _, rfl⟩
          case measure => simp [intOf] <;> omega
        · have t2 : decide ((c.toNat : Int) ≤ 90) = false := by simp; omega
          have Ha := Lib.hid (show lowB c = c by unfold lowB; rw [if_neg (by omega)])
          go_wp2
          go_roundw
          case rel => exact ⟨k + 1, by omega, by go_num, by rw [Hs.out, Ha.out, ← hc1.out], _, rfl⟩
          case measure => simp [intOf] <;> omega
      · have t1 : decide ((65 : Int) ≤ (c.toNat : Int)) = false := by simp; omega
        have Ha := Lib.hid (show lowB c = c by unfold lowB; rw [if_neg (by omega)])
        go_wp2
        go_roundw
        case rel => exact ⟨k + 1, by omega, by go_num, by rw [Hs.out, Ha.out, ← hc1.out], _, rfl⟩
        case measure => simp [intOf] <;> omega
    · go_wp2
      go_ret
      exact ⟨by rw [List.take_of_length_le (by omega)]; rfl, _, rfl⟩
/-- '[]byte(s)': a row of the call's own that may be written. -/
theorem bytes_own {P : Program} (w : World) (src dst e : TypeId) (l : List UInt8) (hl : l.length ≤ maxLen) (hs : P.underlying src = some .string) (hd : P.underlying dst = some (.slice e)) (he : P.underlying e = some (.int .u8)) :
    ∃ cap w', (convert src dst (Str l)).run P w = .ok (.slice (some ⟨w.heap.size, 0, none⟩) l.length cap) w' ∧ Ext w w' ∧ l.length ≤ cap ∧ cap ≤ maxLen ∧ (∀ j, j < l.length → w'.cell? ⟨w.heap.size, j, none⟩ = some (Byt (bt l j))) ∧ (∀ j, j < l.length → w'.frozen? ⟨w.heap.size, j, none⟩ = false) := by
  have h := run_bytes_of_string (P := P) w src dst e ⟨l.toArray⟩ hs hd he
  rw [size_list] at h
  have hblk : (w.drew.alloc (.cells (bytesRow ⟨l.toArray⟩ (grownCap w l.length 0 e)) e ((bytesRow ⟨l.toArray⟩ (grownCap w l.length 0 e)).size, (bytesRow ⟨l.toArray⟩ (grownCap w l.length 0 e)).size + 1))).heap[w.heap.size]? = _ := heap_alloc_new w.drew _
  have hsz : l.length ≤ (bytesRow ⟨l.toArray⟩ (grownCap w l.length 0 e)).size := by
    simp only [bytesRow]
    rw [Array.size_append, Array.size_map]
    simp
  refine ⟨_, _, h, (Below.drew (Below.refl _ w)).alloc (Nat.le_refl _) _, grownCap_ge _ _ _ _, grownCap_le_maxLen _ _ _ _ hl, fun j hj => ?_, fun j hj => ?_⟩
  · rw [cell_of_row _ _ j _ _ _ hblk]
    simp only [bytesRow]
    rw [Array.getElem?_append_left (by simpa using hj)]
    simp only [Array.getElem?_map, List.getElem?_toArray]
    rw [bt_some l j hj]; rfl
  · simp only [World.frozen?, hblk]
    simp; omega
theorem sl_cells {w : World} {g n cap : Nat} {l : List Value} (hn : l.length = n) (h1 : n ≤ cap) (h2 : cap ≤ maxLen) (hc : ∀ (j : Nat) u, l[j]? = some u → w.cell? ⟨g, j, none⟩ = some u) : Sl w (.slice (some ⟨g, 0, none⟩) n cap) l := by
  subst hn
  exact ⟨_, cap, rfl, h1, h2, (fun h => by cases h), fun j u hu => by rw [adr_some, Nat.zero_add]; exact hc j u hu⟩

set_option maxHeartbeats 1000000 in
theorem small_any (l : List UInt8) (hl : l.length ≤ 100000) (w : World) :
    Calls Tryd.prog 35 #[Str l] w fun e w' => e = .returned (Str (lowL l)) ∧ Ext w w' := by
  obtain ⟨cap, W1, hconv, hext, hc1, hc2, hcell, hfroz⟩ := bytes_own (P := Tryd.prog) w 9 89 5 l (by unfold maxLen; omega) Tryd.underlying9 Tryd.underlying89 Tryd.underlying5
  have hix := run_index_adr (P := Tryd.prog) Tryd.underlying89 Tryd.sizeOf5 (ao := some ⟨w.heap.size, 0, none⟩) (n := l.length) (cap := cap) (by simp) hc1
  simp only [adr_some, Nat.zero_add] at hix
  have HC := Lib.hid hcell; have HF := Lib.hid hfroz; have HX := Lib.hid hext
  clear hcell hfroz hext
  go_enter Tryd.func35, Tryd.ntmps35
  go_wp2
  go_loopw [10] (fun i wr => ∃ k : Nat, k ≤ l.length ∧ i = .int .i64 k ∧ (∀ j, j < k → wr.cell? ⟨w.heap.size, j, none⟩ = some (Byt (lowB (bt l j)))) ∧ (∀ j, k ≤ j → j < l.length → wr.cell? ⟨w.heap.size, j, none⟩ = some (Byt (bt l j))) ∧ (∀ j, j < l.length → wr.frozen? ⟨w.heap.size, j, none⟩ = false) ∧ Ext w wr) (fun i _ => l.length - (intOf i).toNat)
  case atStart => exact ⟨0, by omega, rfl, fun j hj => by omega, fun j _ hj => HC.out j hj, HF.out, HX.out⟩
  case round =>
    obtain ⟨k, hk, rfl, hlo, hhi, hfr, hx⟩ := hrel
    by_cases h3 : k < l.length
    · have hck := hhi k (Nat.le_refl _) h3
      have hfk := hfr k h3
      have hb := (bt l k).toNat_lt
      have HLO := Lib.hid hlo; have HHI := Lib.hid hhi; have HFR := Lib.hid hfr
      clear hlo hhi hfr
      obtain ⟨c, hc⟩ : ∃ c, bt l k = c := ⟨_, rfl⟩
      rw [hc] at hck hb
      have HCC := Lib.hid hc; clear hc
      by_cases h1 : 65 ≤ c.toNat
      · have t1 : decide ((65 : Int) ≤ (c.toNat : Int)) = true := by simp; omega
        by_cases h2 : c.toNat ≤ 90
        · have t2 : decide ((c.toNat : Int) ≤ 90) = true := by simp; omega
          go_wp2
          refine ⟨⟨k + 1, by omega, by first | go_num | omega, fun j hj => ?_, fun j h hj => ?_, fun j hj => ?_, hx.setCell (by simp) _⟩, by simp [intOf] <;> omega⟩
          · by_cases e : j = k
            · subst e
              rw [World.cell?_setCell_same _ _ _ hck, HCC.out]
              congr 2
              unfold lowB; rw [if_pos ⟨h1, h2⟩, UInt8.toNat_ofNat']; omega
            · rw [World.cell?_setCell_other _ _ _ _ (fun h => by injection h with _ h2; omega)]; exact HLO.out j (by omega)
          · rw [World.cell?_setCell_other _ _ _ _ (fun h => by injection h with _ h2; omega)]; exact HHI.out j (by omega) hj
          · rw [World.frozen?_setCell]; exact HFR.out j hj
        · have t2 : decide ((c.toNat : Int) ≤ 90) = false := by simp; omega
          have Ha := Lib.hid (show lowB c = c by unfold lowB; rw [if_neg (by omega)])
          go_wp2
          go_roundw
          case rel => exact ⟨k + 1, by omega, by go_num, fun j hj => by
            by_cases e : j = k
            · subst e; rw [HCC.out, Ha.out]; exact hck
            · exact HLO.out j (by omega), fun j h hj => HHI.out j (by omega) hj, HFR.out, hx⟩
          case measure => simp [intOf] <;> omega
      · have t1 : decide ((65 : Int) ≤ (c.toNat : Int)) = false := by simp; omega
        have Ha := Lib.hid (show lowB c = c by unfold lowB; rw [if_neg (by omega)])
        go_wp2
        go_roundw
        case rel => exact ⟨k + 1, by omega, by go_num, fun j hj => by
            by_cases e : j = k
            · subst e; rw [HCC.out, Ha.out]; exact hck
            · exact HLO.out j (by omega), fun j h hj => HHI.out j (by omega) hj, HFR.out, hx⟩
        case measure => simp [intOf] <;> omega
    · have hkl : k = l.length := by omega
      have hsl : SlB wr (.slice (some ⟨w.heap.size, 0, none⟩) l.length cap) (lowL l) := sl_cells (by simp [lowL]) hc1 hc2 fun j u hu => by
        have hj : j < l.length := by have := (List.getElem?_eq_some_iff.1 hu).1; simpa [lowL] using this
        rw [byt_map (lowL l) j (by simpa [lowL] using hj)] at hu
        injection hu with hu
        subst hu
        rw [hlo j (by omega), show bt (lowL l) j = lowB (bt l j) by rw [bt_get _ _ (by simpa [lowL] using hj), bt_get _ _ hj]; simp [lowL]]
      have c1 := run_str (P := Tryd.prog) Tryd.underlying89 Tryd.underlying5 Tryd.underlying9 hsl
      clear hsl hlo hhi hfr
      subst hkl
      go_wp2
      go_ret
      exact ⟨rfl, hx⟩
end Go.Proofs.YtjbobblnicnhnaaDoor
