/-
  ref03.letter, ref03.Encode.
-/
import Derived.Test.YteickmohloglhaaGreatDoorRows
import Derived.Test.YteickmohloglhaaGreatDoorKit
import Derived.Test.YteickmohloglhaaGreatDoorCod
namespace Go.Proofs.YteickmohloglhaaGreatDoor
open Go.RowKit
set_option maxRecDepth 100000
set_option linter.unusedVariables false
set_option linter.unusedSimpArgs false

def alph (url : Bool) : List UInt8 := if url then other else plain
theorem alph_at (url : Bool) : ∀ n, n < 64 → ((bt (alph url) n).toNat : Int) = if n < 26 then 65 + (n : Int) else if n < 52 then 97 + (n : Int) - 26 else if n < 62 then 48 + (n : Int) - 52 else if n = 62 then (if url then 45 else 43) else (if url then 95 else 47) := by
  cases url <;> decide +kernel
set_option maxHeartbeats 400000 in
theorem letter_any (url : Bool) (n : Nat) (hn : n < 64) (w : World) :
    Calls Tryz.prog 10 #[.int .i64 (n : Int), .bool url] w fun e w' => e = .returned (Byt (bt (alph url) n)) ∧ w' = w := by
  have ha := alph_at url n hn
  have hfin : ∀ z : Int, ((bt (alph url) n).toNat : Int) = z → Ending.returned (.int .u8 z) = Ending.returned (Byt (bt (alph url) n)) := fun z h => by simp only [Byt, h]
  rcases (show n < 26 ∨ (26 ≤ n ∧ n < 52) ∨ (52 ≤ n ∧ n < 62) ∨ n = 62 ∨ n = 63 by omega) with h | h | h | h | h
  · have H := Lib.hid hfin; have HA := Lib.hid ha; clear hfin ha
    go_enter Tryz.func10, Tryz.ntmps10
    go_wp2
    go_ret
    refine ⟨H.out _ ?_, rfl⟩
    rw [HA.out]
    repeat' split
    all_goals omega
  · have H := Lib.hid hfin; have HA := Lib.hid ha; clear hfin ha
    go_enter Tryz.func10, Tryz.ntmps10
    go_wp2
    go_ret
    refine ⟨H.out _ ?_, rfl⟩
    rw [HA.out]
    repeat' split
    all_goals omega
  · have H := Lib.hid hfin; have HA := Lib.hid ha; clear hfin ha
    go_enter Tryz.func10, Tryz.ntmps10
    go_wp2
    go_ret
    refine ⟨H.out _ ?_, rfl⟩
    rw [HA.out]
    repeat' split
    all_goals omega
  · subst h
    cases url
    · have H := Lib.hid hfin; have HA := Lib.hid ha; clear hfin ha
      go_enter Tryz.func10, Tryz.ntmps10
      go_wp2
      go_ret
      refine ⟨H.out _ ?_, rfl⟩
      rw [HA.out]
      rfl
    · have H := Lib.hid hfin; have HA := Lib.hid ha; clear hfin ha
      go_enter Tryz.func10, Tryz.ntmps10
      go_wp2
      go_ret
      refine ⟨H.out _ ?_, rfl⟩
      rw [HA.out]
      rfl
  · subst h
    cases url
    · have H := Lib.hid hfin; have HA := Lib.hid ha; clear hfin ha
      go_enter Tryz.func10, Tryz.ntmps10
      go_wp2
      go_ret
      refine ⟨H.out _ ?_, rfl⟩
      rw [HA.out]
      rfl
    · have H := Lib.hid hfin; have HA := Lib.hid ha; clear hfin ha
      go_enter Tryz.func10, Tryz.ntmps10
      go_wp2
      go_ret
      refine ⟨H.out _ ?_, rfl⟩
      rw [HA.out]
      rfl

def bitAt (l : List UInt8) (i : Nat) : Nat := (bt l (i / 8)).toNat / 2 ^ (7 - i % 8) % 2
def sixN (l : List UInt8) (a : Nat) : Nat → Nat
  | 0 => 0
  | k + 1 => 2 * sixN l a k + bitAt l (a + k)
def refN (A l : List UInt8) (n : Nat) : List UInt8 := (List.range n).map fun j => bt A (sixN l (6 * j) 6)
def refEnc (A : List UInt8) (f : Bool) (l : List UInt8) : List UInt8 :=
  let o := refN A l ((8 * l.length + 5) / 6)
  o ++ List.replicate (if f then (4 - o.length % 4) % 4 else 0) 61
theorem sixN_lt (l : List UInt8) (a : Nat) : ∀ k, sixN l a k < 2 ^ k
  | 0 => by simp [sixN]
  | k + 1 => by
    have := sixN_lt l a k
    have hb : bitAt l (a + k) < 2 := Nat.mod_lt _ (by omega)
    simp only [sixN, Nat.pow_succ]; omega
theorem refN_succ (A l : List UInt8) (n : Nat) : refN A l (n + 1) = refN A l n ++ [bt A (sixN l (6 * n) 6)] := by simp [refN, List.range_succ]
theorem refN_len (A l : List UInt8) (n : Nat) : (refN A l n).length = n := by simp [refN]

theorem u8_and1 : ∀ x : Nat, x < 256 → bits .and .u8 (x : Int) 1 = ((x % 2 : Nat) : Int) := by decide +kernel
theorem own_form' {w : World} {base e : Nat} {v : Value} {n : Nat} {l : List UInt8} (h : w.ownsRow base e 1 v n (l.map Byt)) : ∃ ao cap, v = .slice ao l.length cap ∧ l.length ≤ cap ∧ (ao = none → cap = 0) := by
  obtain ⟨ao, cap, hv, h1, _, h3, _⟩ := sl_of_own h
  rw [List.length_map] at hv h1
  exact ⟨ao, cap, hv, h1, h3⟩
def sliceLen : Value → Nat
  | .slice _ n _ => n
  | _ => 0
set_option maxHeartbeats 2000000 in
theorem refEncode_any (url : Bool) (v : Value) (l : List UInt8) (w : World) (hv : SlB w v l) (hl : l.length ≤ 10000) :
    Calls Tryz.prog 5 #[v, .bool url] w fun e w' => e = .returned (Str (refEnc (alph url) (!url) l)) ∧ Ext w w' := by
  obtain ⟨ao, cap, rfl, hcap, hmax, hnil, hcell⟩ := hv
  simp only [List.length_map] at hcap ⊢
  have HC := Lib.hid hcell; clear hcell
  have hix := run_index_adr (P := Tryz.prog) Tryz.underlying25 Tryz.sizeOf5 hnil hcap
  go_enter Tryz.func5, Tryz.ntmps5
  go_wp2
  go_loopw [5, 7] (fun o t wr => ∃ a j : Nat, t = .int .i64 (a : Int) ∧ a = 6 * j ∧ j ≤ (8 * l.length + 5) / 6 ∧ wr.ownsRow w.heap.size 5 1 o j ((refN (alph url) l j).map Byt) ∧ Ext w wr) (fun _ t _ => 8 * l.length + 6 - (intOf t).toNat)
  case atStart => exact ⟨0, 0, rfl, rfl, by omega, World.ownsRow_nil _ _ _ _, Below.refl _ _⟩
  case round =>
    obtain ⟨a, j, rfl, ha, hj, hown, hext⟩ := hrel
    have HA := Lib.hid ha; clear ha
    have Hown := Lib.hid hown; have Hext := Lib.hid hext; clear hown hext
    have ha4 : a ≤ 80006 := by have := HA.out; omega
    by_cases hab : a < 8 * l.length
    · go_wp2
      go_loop [8, 9] (fun n i => ∃ i' k : Nat, i = .int .i64 (i' : Int) ∧ i' = a + k ∧ k ≤ 6 ∧ n = .int .i64 (sixN l a k : Nat)) (fun _ i => a + 6 - (intOf i).toNat)
      case atStart => exact ⟨a, 0, rfl, rfl, by omega, rfl⟩
      case round =>
        obtain ⟨i, k, rfl, hi, hk, rfl⟩ := hrel
        have hs := sixN_lt l a k
        have hs64 : sixN l a k < 64 := Nat.lt_of_lt_of_le hs (Nat.pow_le_pow_right (by omega) hk)
        have Hs := Lib.hid (show sixN l a (k + 1) = 2 * sixN l a k + bitAt l (a + k) from rfl)
        rw [← hi] at Hs
        clear hs
        obtain ⟨s, hsk⟩ : ∃ s, sixN l a k = s := ⟨_, rfl⟩
        rw [hsk] at hs64 Hs ⊢
        have HI := Lib.hid hi
        by_cases hia : i < a + 6
        · clear hi
          by_cases hib : i < 8 * l.length
          · have hck : wr.cell? (adr ao (i / 8)) = some (Byt (bt l (i / 8))) := ext_cell Hext.out (HC.out (i / 8) _ (byt_map l (i / 8) (by omega)))
            have hixi : ∀ W, (Instr.indexAt 25 (.slice ao l.length cap) (.int .i64 ((i : Int) / 8))).run Tryz.prog W = .ok (.pointer (some (adr ao (i / 8)))) W := fun W => by
              have := hix W (i / 8) (by omega)
              rwa [show ((i / 8 : Nat) : Int) = (i : Int) / 8 by omega] at this
            have hbi : bitAt l i = (bt l (i / 8)).toNat / 2 ^ (7 - i % 8) % 2 := rfl
            have hc := (bt l (i / 8)).toNat_lt
            rw [hbi] at Hs
            clear hbi
            generalize bt l (i / 8) = c at *
            have hx : c.toNat / 2 ^ (7 - i % 8) < 256 := Nat.lt_of_le_of_lt (Nat.div_le_self _ _) hc
            have hand := u8_and1 _ hx
            rw [Int.natCast_ediv, Int.natCast_pow, show ((2 : Nat) : Int) = 2 from rfl] at hand
            rcases Nat.mod_two_eq_zero_or_one (c.toNat / 2 ^ (7 - i % 8)) with hb | hb
            · rw [hb] at hand Hs
              simp only [Int.natCast_zero, Int.natCast_one] at hand
              clear hb hx
              go_wp2
              exact ⟨⟨i + 1, by omega, k + 1, by have := HI.out; omega, by have := HI.out; omega, by rw [Hs.out]; omega⟩, by simp [intOf]; omega⟩
            · rw [hb] at hand Hs
              simp only [Int.natCast_zero, Int.natCast_one] at hand
              clear hb hx
              go_wp2
              exact ⟨⟨i + 1, by omega, k + 1, by have := HI.out; omega, by have := HI.out; omega, by rw [Hs.out]; omega⟩, by simp [intOf]; omega⟩
          · have h0 : bitAt l i = 0 := by
              unfold bitAt
              rw [bt_out l (i / 8) (by omega)]
              simp
            rw [h0] at Hs
            clear h0
            go_wp2
            exact ⟨⟨i + 1, by omega, k + 1, by have := HI.out; omega, by have := HI.out; omega, by rw [Hs.out]; omega⟩, by simp [intOf]; omega⟩
        · obtain rfl : k = 6 := by omega
          clear hia
          have hs6 := hsk
          have hnx := Lib.hid (refN_succ (alph url) l j)
          rw [← HA.out] at hnx
          have hs2 : s < 64 := hs64
          rw [show sixN l a 6 = s from hs6] at hnx
          go_wp2_with (first
            | (go_at_call 10; refine (letter_any url s hs2 _).mono ?_; rintro e W3 ⟨rfl, rfl⟩)
            | (at_builtin; refine wpList_push w.heap.size rfl _ _ 25 5 rfl Tryz.underlying25 infoByte rfl (by omega) Hown.out (Byt (bt (alph url) s)) rfl (by omega) Hext.out.size rfl rfl ?_; rintro _ w1 ⟨g1, cap1, rfl⟩ hown1 hgr1; have hex1 := Lib.hid (ext_push Hext.out Hown.out hgr1); have Hown1 := Lib.hid hown1; clear hown1 hgr1))
          refine ⟨⟨a + 6, j + 1, by go_num, by have := HA.out; omega, by have := HA.out; omega, ?_, hex1.out⟩, by simp [intOf]; omega⟩
          rw [hnx.out, List.map_append]; exact Hown1.out
    · have hj2 : j = (8 * l.length + 5) / 6 := by have := HA.out; omega
      rw [hj2] at Hown
      have hml := refN_len (alph url) l ((8 * l.length + 5) / 6)
      have hfin := Lib.hid (show refEnc (alph url) (!url) l = refN (alph url) l ((8 * l.length + 5) / 6) ++ List.replicate (if (!url) = true then (4 - (refN (alph url) l ((8 * l.length + 5) / 6)).length % 4) % 4 else 0) 61 from rfl)
      rw [hml] at hfin
      generalize refN (alph url) l ((8 * l.length + 5) / 6) = o at *
      have hm : (8 * l.length + 5) / 6 ≤ 13334 := by omega
      clear hj2 hj HA
      generalize (8 * l.length + 5) / 6 = m at *
      go_wp2
      go_loopw [5] (fun v wr => ∃ k : Nat, k ≤ (if (!url) = true then (4 - m % 4) % 4 else 0) ∧ wr.ownsRow w.heap.size 5 1 v (m + k) ((o ++ List.replicate k 61).map Byt) ∧ Ext w wr) (fun v _ => m + 4 - sliceLen v)
      case atStart => exact ⟨0, by omega, by simpa using Hown.out, Hext.out⟩
      case round =>
        obtain ⟨k, hk, hown, hext⟩ := hrel
        obtain ⟨av, cv, rfl, hcv, hnv⟩ := own_form' hown
        have hlen : (o ++ List.replicate k 61).length = m + k := by simp; omega
        rw [hlen] at hcv hown ⊢
        have Hown := Lib.hid hown; clear hown
        cases url
        · simp only [Bool.not_false, if_true] at hk hfin
          by_cases hmk : (m + k) % 4 = 0
          · have hcs := run_str (P := Tryz.prog) Tryz.underlying25 Tryz.underlying5 Tryz.underlying9 (sl_of_own Hown.out)
            have hk2 := Lib.hid (show k = (4 - m % 4) % 4 by omega)
            go_wp2
            go_ret
            exact ⟨by show _ = Ending.returned (Str (refEnc (alph false) true l)); rw [hfin.out, ← hk2.out]; rfl, hext⟩
          · have hk3 : k < 4 := by omega
            have Hm := Lib.hid hmk
            have hm2 : (((m : Int) + k) % 4 != 0) = true := by simp; omega
            have Hk := Lib.hid (show k + 1 ≤ (4 - m % 4) % 4 by omega)
            clear hmk hk
            go_wp2_with (at_builtin; refine wpList_push w.heap.size rfl _ _ 25 5 rfl Tryz.underlying25 infoByte rfl (by omega) Hown.out (Byt 61) rfl (by omega) hext.size rfl rfl ?_; rintro _ w1 ⟨g1, cap1, rfl⟩ hown1 hgr1; have hex1 := Lib.hid (ext_push hext Hown.out hgr1); have Hown1 := Lib.hid hown1; clear hown1 hgr1)
            go_roundw
            case rel => exact ⟨k + 1, Hk.out, by rw [List.replicate_succ', ← List.append_assoc, List.map_append]; exact Hown1.out, hex1.out⟩
            case measure => simp [sliceLen]; omega
        · simp only [Bool.not_true, Bool.false_eq_true, if_false] at hk hfin
          obtain rfl : k = 0 := by omega
          have hcs := run_str (P := Tryz.prog) Tryz.underlying25 Tryz.underlying5 Tryz.underlying9 (sl_of_own Hown.out)
          simp only [Nat.add_zero, List.replicate_zero, List.append_nil] at hcs hfin ⊢
          clear Hown hlen hk
          go_wp2
          go_ret
          exact ⟨by show _ = Ending.returned (Str (refEnc (alph true) false l)); rw [hfin.out]; rfl, hext⟩
end Go.Proofs.YteickmohloglhaaGreatDoor
