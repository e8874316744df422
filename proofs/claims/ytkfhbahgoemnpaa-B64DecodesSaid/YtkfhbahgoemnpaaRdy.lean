/-
  The walk of ref03.Decode: the plain form, one pad.
-/
import Derived.Deep.RegionLaw
import Derived.Test.YtkfhbahgoemnpaaRows
import Derived.Test.YtkfhbahgoemnpaaRdh
namespace Go.Proofs.Ytkfhbahgoemnpaa
open Go.RowKit
set_option linter.unusedVariables false
set_option linter.unusedSimpArgs false

set_option maxHeartbeats 4000000 in
theorem refDecode_p1 (l : List UInt8) (w : World) (hl : l.length ≤ 1000) (h1 : l.length % 4 = 0) (e0 : 4 ≤ l.length) (e1 : bt l (l.length - 1) = 61) (e2 : bt l (l.length - 2) ≠ 61) :
    Calls Try.prog 24 #[Str l, .bool false] w fun e w' => ∃ v, e = .returned (.tuple #[v, .int .i64 ((refDF false l).2 : Int)]) ∧ w'.ownsRow w.heap.size 5 1 v (refDF false l).1.length ((refDF false l).1.map Byt) ∧ Ext w w' := by
  have hf := Lib.hid (show refDF false l = if l.length % 4 = 0 then refD plain (trimN l 2) else ([], 2) from rfl)
  rw [if_pos h1] at hf
  have t2 : trimN l 2 = trim (trim l) := rfl
  have hixl : ∀ i, i < l.length → ∀ W, (Instr.index 9 (Str l) (.int .i64 (i : Int))).run Try.prog W = .ok (Byt (bt l i)) W := fun i hi W => run_index_str Try.underlying9 l i _ rfl hi W
  obtain ⟨t, ht⟩ : ∃ t, t = l.take (l.length - 1) := ⟨_, rfl⟩
  have htL : t.length = l.length - 1 := by rw [ht]; simp
  have htb : ∀ i, i < t.length → bt t i = bt l i := fun i hi => by
    rw [bt_get t i hi, bt_get l i (by omega)]
    subst ht; simp
  have htr : trimN l 2 = t := by
    have h2 : trim l = t := by rw [ht]; exact if_pos ⟨by omega, e1⟩
    have h3 : trim t = t := if_neg (fun h => e2 (by rw [← h.2, htb _ (by omega), htL]; congr 1))
    rw [t2, h2, h3]
  have htl : ∀ i, i < t.length → ∀ W, (Instr.index 9 (Str l) (.int .i64 (i : Int))).run Try.prog W = .ok (Byt (bt t i)) W := fun i hi W => by rw [htb i hi]; exact hixl i (by omega) W
  have ht6 : (l.length : Int) - 1 = (t.length : Int) := by omega
  have ht3 : t.length ≤ 1000 := by omega
  have hx1 : ∀ W, (Instr.index 9 (Str l) (.int .i64 ((l.length : Int) - 1))).run Try.prog W = .ok (.int .u8 61) W := fun W => by
    have := hixl (l.length - 1) (by omega) W
    rw [e1] at this
    rwa [show ((l.length - 1 : Nat) : Int) = (l.length : Int) - 1 by omega] at this
  have hx2 : ∀ W, (Instr.index 9 (Str l) (.int .i64 ((l.length : Int) - 1 - 1))).run Try.prog W = .ok (Byt (bt l (l.length - 2))) W := fun W => by
    have := hixl (l.length - 2) (by omega) W
    rwa [show ((l.length - 2 : Nat) : Int) = (l.length : Int) - 1 - 1 by omega] at this
  have hb2 : ((bt l (l.length - 2)).toNat : Int) ≠ 61 := fun e => e2 (UInt8.toNat_inj.1 (by rw [show (61 : UInt8).toNat = 61 from rfl]; omega))
  generalize bt l (l.length - 2) = c2 at *
  have hb0 : (((l.length : Int) % 4) != 0) = false := by simp; omega
  have hbp : decide (0 < (l.length : Int)) = true := by simp; omega
  have hbq : ((((l.length : Int) - 1) % 4) == 1) = false := by simp; omega
  have hbc : ((c2.toNat : Int) == 61) = false := by simpa using hb2
  rw [htr] at hf
  have hr := hf
  clear hf htr hixl t2 e1 e2 htb ht htL
  obtain ⟨A, hA⟩ : ∃ A, A = plain := ⟨_, rfl⟩
  rw [← hA] at hr
  have Hnum := Lib.hid (fun c W => number_any false c W)
  rw [show alph false = A from hA.symm] at Hnum
  have HT := Lib.hid htl
  have h6 := Lib.hid ht6
  clear htl ht6 hA
  go_enter Try.func24, Try.ntmps24
  go_wp2
  rw [h6.out]
  go_loopw [7, 8] (fun b i wr => ∃ k : Nat, k ≤ t.length ∧ i = .int .i64 k ∧ wr.ownsRow w.heap.size 5 1 b (6 * k) ((bitsL A (t.take k)).map Byt) ∧ okL A (t.take k) = true ∧ Ext w wr) (fun _ i _ => t.length - (intOf i).toNat)
  case atStart => exact ⟨0, by omega, rfl, World.ownsRow_nil _ _ _ _, rfl, Below.refl _ _⟩
  case round =>
    obtain ⟨k, hk, rfl, hown, hok, hext⟩ := hrel
    have Hown := Lib.hid hown; have Hok := Lib.hid hok; clear hown hok
    by_cases h3 : k < t.length
    · have hix := HT.out k h3
      have hok2 := okL_snoc A (t.take k) (bt t k)
      have hb2 := bitsL_snoc A (t.take k) (bt t k)
      rw [← take_snoc t k h3, Hok.out, Bool.true_and] at hok2
      rw [← take_snoc t k h3] at hb2
      have Hok2 := Lib.hid hok2; have Hb2 := Lib.hid hb2; clear hok2 hb2
      have hnum := Lib.hid (Hnum.out (bt t k))
      have hv := valL_range A (bt t k)
      have hc := (bt t k).toNat_lt
      generalize bt t k = c at *
      generalize valL A c = v at *
      rcases (show v = -1 ∨ 0 ≤ v by omega) with hneg | hpos
      · subst hneg
        have hbad := Lib.hid (show refD A t = ([], 5) from if_neg (by rw [okL_take A t (k + 1) Hok2.out]; simp))
        go_wp2_with (go_at_call 40; refine (hnum.out _).mono ?_; rintro e W3 ⟨rfl, rfl⟩)
        go_ret2
        exact ⟨.slice none 0 0, by rw [hr.out, hbad.out]; rfl, by rw [hr.out, hbad.out]; exact World.ownsRow_nil _ _ _ _, hext⟩
      · obtain ⟨x, rfl⟩ := Int.eq_ofNat_of_zero_le hpos
        rw [Int.toNat_natCast] at Hb2
        go_wp2_with (go_at_call 40; refine (hnum.out _).mono ?_; rintro e W3 ⟨rfl, rfl⟩)
        go_loopw [7, 10] (fun b j wr => ∃ m : Nat, m ≤ 6 ∧ j = .int .i64 (5 - (m : Int)) ∧ wr.ownsRow w.heap.size 5 1 b (6 * k + m) ((bitsL A (t.take k) ++ (six x).take m).map Byt) ∧ Ext w wr) (fun _ j _ => ((intOf j) + 1).toNat)
        case atStart => exact ⟨0, by omega, rfl, by simpa using Hown.out, hext⟩
        case round =>
          obtain ⟨m, hm, rfl, hown, hext⟩ := hrel
          have Hown2 := Lib.hid hown; clear hown
          by_cases hm6 : m < 6
          · obtain ⟨r, hr5⟩ : ∃ r : Nat, r = 5 - m := ⟨_, rfl⟩
            rw [show (5 - (m : Int)) = (r : Int) by omega]
            have hst := Lib.hid (six_take x m hm6)
            rw [← hr5] at hst
            have hm5 := Lib.hid (show m = 5 - r ∧ r ≤ 5 by omega)
            have hr6 : r ≤ 5 := by omega
            have hkm : 6 * k + m ≤ 7000 := by omega
            have hx : x / 2 ^ r < 1000000000000 := Nat.lt_of_le_of_lt (Nat.div_le_self _ _) (by omega)
            have hand := and_num 1 1 1 (x / 2 ^ r) hx rfl rfl (by omega)
            rw [Int.natCast_ediv, Int.natCast_pow, show ((2 : Nat) : Int) = 2 from rfl, Nat.pow_one] at hand
            have hy : x / 2 ^ r % 2 < 2 := Nat.mod_lt _ (by omega)
            have hyb := Lib.hid (bit_nat (x / 2 ^ r))
            generalize x / 2 ^ r % 2 = y at *
            have hu := Lib.hid (show Value.int .u8 (y : Int) = Byt (UInt8.ofNat y) by simp only [Byt, hyb.out])
            clear hx hr5 hm6 hm
            go_wp2_with (at_builtin; refine wpList_push w.heap.size rfl _ _ 22 5 rfl Try.underlying22 infoByte rfl (by omega) Hown2.out _ rfl (by omega) hext.size rfl rfl ?_; rintro _ w1 ⟨g1, cap1, rfl⟩ hown1 hgr1; have hex1 := Lib.hid (ext_push hext Hown2.out hgr1); rw [hu.out] at hown1; have Hown1 := Lib.hid hown1; clear hown1 hgr1)
            refine ⟨⟨m + 1, by have := hm5.out; omega, by have := hm5.out; first | go_num | (congr 1; omega), ?_, hex1.out⟩, by simp [intOf] <;> omega⟩
            rw [hst.out, ← List.append_assoc, List.map_append]
            exact Hown1.out
          · obtain rfl : m = 6 := by omega
            rw [List.take_of_length_le (show (six x).length ≤ 6 by rw [six_len]; omega), ← Hb2.out] at Hown2
            go_wp2
            first
              | exact ⟨⟨k + 1, by omega, by first | go_num | omega, Hown2.out, Hok2.out, hext⟩, by simp [intOf] <;> omega⟩
              | (go_roundw
                 case rel => exact ⟨k + 1, by omega, by first | go_num | omega, Hown2.out, Hok2.out, hext⟩
                 case measure => simp [intOf] <;> omega)
    · have hkt : k = t.length := by omega
      rw [hkt, List.take_length] at Hown Hok
      clear hk hkt
      have hBl := bitsL_len A t
      have hbit := Lib.hid (bitsL_bit A t)
      have hR := Lib.hid (show refD A t = if ((bitsL A t).drop (8 * ((bitsL A t).length / 8))).all (· == 0) then (outsN (bitsL A t) ((bitsL A t).length / 8), 0) else ([], 4) from if_pos Hok.out)
      rw [← hBl] at Hown
      have hB2 : (bitsL A t).length ≤ 6000 := by omega
      clear hBl
      generalize bitsL A t = B at *
      have hsB := Lib.hid (sl_of_own Hown.out)
      generalize wr = W1 at *
      go_wp2
      go_loopw [7, 11] (fun b o W => ∃ k : Nat, 8 * k ≤ B.length ∧ SlB W1 b (B.drop (8 * k)) ∧ W.ownsRow W1.heap.size 5 1 o k ((outsN B k).map Byt) ∧ Ext W1 W) (fun b _ _ => sliceLen b)
      case atStart => exact ⟨0, by omega, by simpa using hsB.out, World.ownsRow_nil _ _ _ _, Below.refl _ _⟩
      case round =>
        obtain ⟨k, hk, hsl, hown, hex⟩ := hrel
        have Hsl := Lib.hid hsl; have Hown3 := Lib.hid hown; clear hown
        obtain ⟨ao, cap, rfl, hcap, hmax, hnil, hcell⟩ := hsl
        have hnl : ((B.drop (8 * k)).map Byt).length = B.length - 8 * k := by simp
        rw [hnl] at hcap Hsl ⊢
        have Hcell := Lib.hid hcell; clear hcell
        by_cases h8 : 8 ≤ B.length - 8 * k
        · have hs8 := Hsl.out.headm (k := 8) (by rw [hnl]; exact h8)
          rw [← List.map_take] at hs8
          have hrun : ∀ W, (Instr.slice 22 (.slice ao (B.length - 8 * k) cap) none (some (.int .i64 8)) none).run Try.prog W = .ok (headm (.slice ao (B.length - 8 * k) cap) 8) W := fun W => run_headm (P := Try.prog) Try.underlying22 Try.sizeOf5 (ao := ao) hcap W 8 h8
          have hrun2 : ∀ W, (Instr.slice 22 (.slice ao (B.length - 8 * k) cap) (some (.int .i64 8)) none none).run Try.prog W = .ok (resl (.slice ao (B.length - 8 * k) cap) 8) W := fun W => run_resl (P := Try.prog) Try.underlying22 Try.sizeOf5 W 8 h8
          have hos := Lib.hid (outsN_succ B k)
          have hg8 : ((B.drop (8 * k)).take 8).length = 8 := by simp; omega
          have hgb : ∀ x ∈ (B.drop (8 * k)).take 8, x.toNat ≤ 1 := fun x hx => hbit.out x (List.mem_of_mem_drop (List.mem_of_mem_take hx))
          have hs9 := Hsl.out.resl (k := 8) (by rw [hnl]; exact h8)
          rw [← List.map_drop, List.drop_drop, show 8 * k + 8 = 8 * (k + 1) by omega] at hs9
          have Hs9 := Lib.hid hs9; clear hs9
          obtain ⟨ah, hah⟩ : ∃ ah, headm (.slice ao (B.length - 8 * k) cap) 8 = .slice ah 8 cap := ⟨_, rfl⟩
          rw [hah] at hs8 hrun
          obtain ⟨ah', cap', hve, hcap', _, hnil', hcell'⟩ := hs8
          rw [List.length_map, hg8] at hve hcap'
          cases hve
          have hix := run_index_adr (P := Try.prog) Try.underlying22 Try.sizeOf5 hnil' hcap'
          have HC := Lib.hid hcell'; clear hcell' hah
          obtain ⟨g, hg⟩ : ∃ g, (B.drop (8 * k)).take 8 = g := ⟨_, rfl⟩
          rw [hg] at hos hg8 hgb HC
          clear hg
          have Hgb := Lib.hid hgb; clear hgb
          have hB3 : B.length ≤ 6000 := hB2
          go_wp2
          go_loop [12, 91] (fun b i => ∃ j : Nat, j ≤ 8 ∧ i = .int .i64 j ∧ b = .int .u8 (byteN (g.take j) : Nat)) (fun _ i => 8 - (intOf i).toNat)
          case atStart => exact ⟨0, by omega, rfl, rfl⟩
          case round =>
            obtain ⟨j, hj, rfl, rfl⟩ := hrel
            by_cases hj8 : j < 8
            · have hck : wr.cell? (adr ah j) = some (Byt (bt g j)) := ext_cell hex (HC.out j _ (byt_map g j (by omega)))
              have hlt : byteN (g.take j) < 128 := Nat.lt_of_lt_of_le (byteN_lt _ (fun x hx => Hgb.out x (List.mem_of_mem_take hx))) (Nat.pow_le_pow_right (n := 2) (by omega) (show (g.take j).length ≤ 7 by simp; omega))
              have hs := Lib.hid (byteN_snoc (g.take j) (bt g j)); rw [← take_snoc g j (by omega)] at hs
              have hx1 : (bt g j).toNat ≤ 1 := Hgb.out _ (by rw [bt_get g j (by omega)]; exact List.getElem_mem _)
              generalize byteN (g.take j) = y at *
              generalize bt g j = c at *
              go_wp2
              first
                | exact ⟨⟨j + 1, by omega, by first | go_num | omega, by rw [hs.out]; go_num⟩, by simp [intOf] <;> omega⟩
                | (go_roundw
                   case rel => exact ⟨j + 1, by omega, by first | go_num | omega, by rw [hs.out]; go_num⟩
                   case measure => simp [intOf] <;> omega)
            · obtain rfl : j = 8 := by omega
              rw [List.take_of_length_le (by omega)]
              have hlt : byteN g < 256 := by have := byteN_lt g Hgb.out; rw [hg8] at this; exact this
              have hu := Lib.hid (show Value.int .u8 (byteN g : Int) = Byt (UInt8.ofNat (byteN g)) by simp only [Byt, UInt8.toNat_ofNat']; congr 1; omega)
              generalize byteN g = y at *
              clear hcap' hnil' hix hrun HC
              have hk6 : k ≤ 6000 := by omega
              go_wp2
              go_region_law (try rw [drew_alloc]; refine step_push W1.heap.size rfl _ _ 22 5 rfl Try.underlying22 infoByte rfl (by omega) (own_ext Hown3.out (Below.drew (Below.refl _ _))) _ rfl (by omega) hex.size rfl rfl ?_; rintro _ w1 ⟨g1, cap1, rfl⟩ hown1 hgr1; rw [hu.out] at hown1; have Hown1 := Lib.hid hown1; have Hgr1 := Lib.hid hgr1; clear hown1 hgr1)
              have hex1 := Lib.hid (ext_push (Below.drew hex) (own_ext Hown3.out (Below.drew (Below.refl _ _))) Hgr1.out)
              have hsh : ∃ ao' n' cap', resl (.slice ao (B.length - 8 * k) cap) 8 = .slice ao' n' cap' ∧ n' < B.length - 8 * k := ⟨_, _, _, rfl, by omega⟩
              have Hm := Lib.hid (show sliceLen (resl (.slice ao (B.length - 8 * k) cap) 8) < sliceLen (.slice ao (B.length - 8 * k) cap) by show B.length - 8 * k - 8 < B.length - 8 * k; omega)
              clear hsh
              go_simp
              go_wp2
              go_roundw
              case rel => exact ⟨k + 1, by omega, Hs9.out, by rw [hos.out, List.map_append]; exact Hown1.out, hex1.out⟩
              case measure => exact Hm.out
        · have hkN := Lib.hid (show k = B.length / 8 by omega)
          have hrl : B.length - 8 * k < 8 := by omega
          have hix := run_index_adr (P := Try.prog) Try.underlying22 Try.sizeOf5 hnil hcap
          rw [← hkN.out] at hR
          have hne8 : (((B.length - 8 * k : Nat) : Int) ≥ 8) = False := by simp; omega
          have hgl : (B.drop (8 * k)).length = B.length - 8 * k := by simp
          obtain ⟨g, hg⟩ : ∃ g, B.drop (8 * k) = g := ⟨_, rfl⟩
          rw [hg] at hR Hcell hgl
          obtain ⟨n, hn⟩ : ∃ n, B.length - 8 * k = n := ⟨_, rfl⟩
          rw [hn] at hix hrl hgl ⊢
          clear hg hne8
          have Hx := Lib.hid hex
          go_wp2
          go_loop [108] (fun i => ∃ j : Nat, j ≤ n ∧ i = .int .i64 j ∧ Hid (∀ m, m < j → bt g m = 0)) (fun i => n - (intOf i).toNat)
          case atStart => exact ⟨0, by omega, rfl, Lib.hid (fun m h => by omega)⟩
          case round =>
            obtain ⟨j, hj, rfl, hz⟩ := hrel
            by_cases hjn : j < n
            · have hck : wr.cell? (adr ao j) = some (Byt (bt g j)) := ext_cell hex (Hcell.out j _ (byt_map g j (by omega)))
              by_cases hb : bt g j = 0
              · have Hz : Hid (∀ m, m < j + 1 → bt g m = 0) := Lib.hid (fun m hm => by
                  by_cases e : m = j
                  · subst e; exact hb
                  · exact hz.out m (by omega))
                rw [hb] at hck
                clear hb
                go_wp2
                first
                  | exact ⟨⟨j + 1, by omega, by first | go_num | omega, Hz⟩, by simp [intOf] <;> omega⟩
                  | (go_roundw
                     case rel => exact ⟨j + 1, by omega, by first | go_num | omega, Hz⟩
                     case measure => simp [intOf] <;> omega)
              · have hbn : ((((bt g j).toNat : Int)) != 0) = true := by
                  rw [bne_iff_ne]
                  intro e
                  exact hb (UInt8.toNat_inj.1 (by rw [show (0 : UInt8).toNat = 0 from rfl]; omega))
                have hR4 := Lib.hid (show refD A t = ([], 4) by
                  rw [hR.out, if_neg]
                  intro ha
                  have := List.all_eq_true.1 ha (bt g j) (by rw [bt_get g j (by omega)]; exact List.getElem_mem _)
                  exact hb (by simpa using this))
                generalize bt g j = c at *
                clear hb
                go_wp2
                go_ret2
                exact ⟨.slice none 0 0, by rw [hr.out, hR4.out]; rfl, by rw [hr.out, hR4.out]; exact World.ownsRow_nil _ _ _ _, hext.trans (hex.mono hext.size)⟩
            · obtain rfl : j = n := by omega
              have hR4 := Lib.hid (show refD A t = (outsN B k, 0) by
                rw [hR.out, if_pos]
                refine List.all_eq_true.2 fun x hx => ?_
                obtain ⟨m, hm, rfl⟩ := List.mem_iff_getElem.1 hx
                have := hz.out m (by omega)
                rw [bt_get g m hm] at this
                simp [this])
              go_wp2
              go_ret2
              refine ⟨_, by rw [hr.out, hR4.out]; rfl, ?_, hext.trans (hex.mono hext.size)⟩
              rw [hr.out, hR4.out, show (outsN B k).length = k by simp [outsN]]
              exact own_base Hown3.out hext.size
end Go.Proofs.Ytkfhbahgoemnpaa
