/-
  ref03.Unhex: one cell of an owned row is set; the digits' places.
-/
import Derived.Test.YtpndahmlbjhdfaaDoorRows
import Derived.Test.YtpndahmlbjhdfaaDoorUnh
namespace Go.Proofs.YtpndahmlbjhdfaaDoor
open Go.RowKit
set_option maxRecDepth 100000
set_option linter.unusedVariables false
set_option linter.unusedSimpArgs false

theorem ownsRow_set {w : World} {base e : Nat} {g n cap : Nat} {xs : List Value} (h : w.ownsRow base e 1 (.slice (some ⟨g, 0, none⟩) n cap) n xs) {j : Nat} (hj : j < n) (u : Value) :
    (w.setCell ⟨g, j, none⟩ u).ownsRow base e 1 (.slice (some ⟨g, 0, none⟩) n cap) n (xs.set j u) := by
  obtain ⟨hl, h⟩ := h
  rcases h with ⟨hn, _⟩ | ⟨g', cap', cur, hv, hb, hg, hn, hm, hs, ht⟩
  · cases hn
  · cases hv
    refine ⟨by simpa using hl, .inr ⟨g, cap, cur.setIfInBounds j u, rfl, hb, ?_, hn, hm, by simpa using hs, ?_⟩⟩
    · simp only [World.setCell, Array.getElem?_modify, hg, if_true, Option.map_some]
      simp
    · rw [← ht]
      simp [List.take_set]
theorem hex_at : ∀ k, k < 16 → ∀ n, n < 256 → (bt hexd k = UInt8.ofNat n ↔ Lib.indexByte hexd (UInt8.ofNat n) = (k : Int)) := by decide +kernel
theorem hexI_at (k : Nat) (hk : k < 16) (c : UInt8) : bt hexd k = c ↔ hexI c = (k : Int) := by
  have h := hex_at k hk c.toNat c.toNat_lt
  rwa [UInt8.ofNat_toNat] at h
/-- The place that the loop over the digits has found when it has looked at k of them. -/
def seen (c : UInt8) (k : Nat) : Int := if 0 ≤ hexI c ∧ hexI c < (k : Int) then hexI c else -1
theorem seen_zero (c : UInt8) : seen c 0 = -1 := by unfold seen; rw [if_neg]; omega
theorem seen_hit (c : UInt8) (k : Nat) (h : hexI c = (k : Int)) : seen c (k + 1) = (k : Int) := by unfold seen; rw [if_pos (by omega), h]
theorem seen_miss (c : UInt8) (k : Nat) (h : hexI c ≠ (k : Int)) : seen c (k + 1) = seen c k := by
  unfold seen
  by_cases h1 : 0 ≤ hexI c ∧ hexI c < (k : Int)
  · rw [if_pos h1, if_pos (by omega)]
  · rw [if_neg h1, if_neg (by omega)]
theorem seen_all (c : UInt8) : seen c 16 = hexI c := by
  have := hexI_range c
  unfold seen
  split <;> omega

def outP (l : List UInt8) (k : Nat) : List UInt8 := if k % 2 = 0 then unhN l (k / 2) else unhN l (k / 2) ++ [UInt8.ofNat (16 * (hexI (bt l (k - 1))).toNat)]
theorem outP_even (l : List UInt8) (k : Nat) (h : k % 2 = 0) : outP l (k + 1) = outP l k ++ [UInt8.ofNat (16 * (hexI (bt l k)).toNat)] := by
  unfold outP
  rw [if_pos h, if_neg (by omega), show (k + 1) / 2 = k / 2 by omega, Nat.add_sub_cancel]
theorem pc_two (l : List UInt8) (q : Nat) (h : 2 * q + 1 < l.length) : pc l q = [bt l (2 * q), bt l (2 * q + 1)] := by
  unfold pc
  rw [List.drop_eq_getElem_cons (by omega), List.drop_eq_getElem_cons (by omega), bt_get l _ (by omega), bt_get l _ h]
  rfl
theorem outP_odd (l : List UInt8) (k : Nat) (h : k % 2 = 1) (hk : k < l.length) : outP l (k + 1) = (outP l k).set (k / 2) (UInt8.ofNat (16 * (hexI (bt l (k - 1))).toNat + (hexI (bt l k)).toNat)) := by
  obtain ⟨q, rfl⟩ : ∃ q, k = 2 * q + 1 := ⟨k / 2, by omega⟩
  unfold outP
  rw [if_pos (by omega), if_neg (by omega), show (2 * q + 1 + 1) / 2 = q + 1 by omega, show (2 * q + 1) / 2 = q by omega, unhN_succ, pc_two l q hk, Nat.add_sub_cancel]
  have hl : (unhN l q).length = q := by simp [unhN]
  rw [List.set_append_right _ _ (by omega), hl, Nat.sub_self, List.set_cons_zero]
  simp [numH, Nat.mul_comm]
theorem outP_len (l : List UInt8) (k : Nat) : (outP l k).length = (k + 1) / 2 := by
  unfold outP
  split
  · simp [unhN]; omega
  · simp [unhN]; omega

set_option maxHeartbeats 1000000 in
theorem refUnhex_any (l : List UInt8) (w : World) (hl : l.length ≤ 1000) :
    Calls Tryd.prog 60 #[Str l] w fun e w' => ∃ v, e = .returned (.tuple #[v, .int .i64 ((unhR l).2 : Int)]) ∧ w'.ownsRow w.heap.size 5 1 v (unhR l).1.length ((unhR l).1.map Byt) ∧ Ext w w' := by
  have hf := Lib.hid (show unhR l = if l.length % 2 = 0 then (if okH l ((l.length + 1) / 2) then (unhN l ((l.length + 1) / 2), 0) else ([], 5)) else ([], 2) from rfl)
  by_cases hev : l.length % 2 = 0
  · rw [if_pos hev] at hf
    have hlit := hexd_lit; have hll := hexd_len
    go_enter Tryd.func60, Tryd.ntmps60
    have hb0 : (((l.length : Int) % 2) != 0) = false := by simp; omega
    go_wp2
    go_loopw [4, 5] (fun o i wr => ∃ k : Nat, k ≤ l.length ∧ i = .int .i64 k ∧ wr.ownsRow w.heap.size 5 1 o ((k + 1) / 2) ((outP l k).map Byt) ∧ Hid (∀ m, m < k → hexI (bt l m) ≠ -1) ∧ Ext w wr) (fun _ i _ => l.length - (intOf i).toNat)
    case atStart => exact ⟨0, by omega, rfl, World.ownsRow_nil _ _ _ _, Lib.hid (fun m h => by omega), Below.refl _ _⟩
    case round =>
      obtain ⟨k, hk, rfl, hown, hno, hext⟩ := hrel
      have Hown := Lib.hid hown; clear hown
      by_cases h3 : k < l.length
      · have hix : ∀ W, (Instr.index 9 (Str l) (.int .i64 (k : Int))).run Tryd.prog W = .ok (Byt (bt l k)) W := fun W => run_index_str Tryd.underlying9 l k _ rfl h3 W
        have hpe := Lib.hid (outP_even l k)
        have hpo := Lib.hid (fun h => outP_odd l k h h3)
        have hpl := Lib.hid (outP_len l k)
        have hvr := hexI_range (bt l k)
        have hc := (bt l k).toNat_lt
        obtain ⟨c, hck⟩ : ∃ c, bt l k = c := ⟨_, rfl⟩
        rw [hck] at hix hpe hpo hvr hc
        have Hck := Lib.hid hck; clear hck
        generalize wr = W1 at *
        go_wp2
        go_loopw [6, 7] (fun v n W => ∃ m : Nat, m ≤ 16 ∧ n = .int .i64 m ∧ v = .int .i64 (seen c m) ∧ ∃ d, W = W1.drewN d) (fun _ n _ => 16 - (intOf n).toNat)
        case atStart => exact ⟨0, by omega, rfl, by rw [seen_zero], 0, rfl⟩
        case round =>
          obtain ⟨m, hm, rfl, rfl, d, rfl⟩ := hrel
          by_cases hm16 : m < 16
          · have hat := hexI_at m hm16 c
            have hcm := (bt hexd m).toNat_lt
            by_cases he : bt hexd m = c
            · have hs := Lib.hid (seen_hit c m (hat.1 he))
              clear hat
              go_wp2
              refine wp_region_quiet_lit (by kernel_rfl) (by kernel_rfl) ?_
              repeat (first
                | go_big_quiet_skip
                | (go_big_quiet_want; go_big_quiet_op; (try go_bits); first | go_big_quiet_on | go_big_quiet_call (fail)))
              refine wpQuiet_nil ?_
              intro _ hw'
              obtain ⟨nq, hw''⟩ := hw'
              subst hw''
              go_wp2
              exact ⟨⟨m + 1, by omega, by first | go_num | omega, by rw [hs.out], _, rfl⟩, by simp [intOf] <;> omega⟩
            · have hs := Lib.hid (seen_miss c m (fun h => he (hat.2 h)))
              have hne : (((bt hexd m).toNat : Int) == (c.toNat : Int)) = false := by
                rw [beq_eq_false_iff_ne]
                intro e
                exact he (UInt8.toNat_inj.1 (by omega))
              have hneP : ((bt hexd m).toNat : Int) ≠ (c.toNat : Int) := by simpa using hne
              clear hat he
              go_wp2
              refine wp_region_quiet_lit (by kernel_rfl) (by kernel_rfl) ?_
              repeat (first
                | go_big_quiet_skip
                | (go_big_quiet_want; go_big_quiet_op; (try go_bits); first | go_big_quiet_on | go_big_quiet_call (fail)))
              refine wpQuiet_nil ?_
              intro _ hw'
              obtain ⟨nq, hw''⟩ := hw'
              subst hw''
              go_wp2
              all_goals first
                | exact ⟨⟨m + 1, by omega, by first | go_num | omega, by rw [hs.out], _, rfl⟩, by simp [intOf] <;> omega⟩
                | (exfalso; omega)
                | (exfalso; simp_all)
                | (exfalso; rename_i hq _; revert hq; simp [hne, hneP])
          · obtain rfl : m = 16 := by omega
            rw [seen_all]
            have Hno : Hid (hexI c ≠ -1 → ∀ m, m < k + 1 → hexI (bt l m) ≠ -1) := Lib.hid (fun h m hm => by
              by_cases e : m = k
              · subst e; rw [Hck.out]; exact h
              · exact hno.out m (by omega))
            have Hbad : Hid (hexI c = -1 → unhR l = ([], 5)) := Lib.hid (fun h => by
              rw [hf.out, if_neg]
              intro ho
              have := List.all_eq_true.1 ho (k / 2) (List.mem_range.2 (by omega))
              have hp := pc_two l (k / 2) (by omega)
              rw [hp] at this
              simp only [grpH, List.all_cons, List.all_nil, Bool.and_true, Bool.and_eq_true] at this
              rcases (show k = 2 * (k / 2) ∨ k = 2 * (k / 2) + 1 by omega) with e | e
              · rw [← e, Hck.out, h] at this; simp at this
              · rw [← e, Hck.out, h] at this; simp at this)
            generalize hexI c = v at *
            rcases (show v = -1 ∨ 0 ≤ v by omega) with hneg | hpos
            · subst hneg
              have hb := Lib.hid (Hbad.out rfl)
              go_wp2
              go_ret2
              exact ⟨.slice none 0 0, by rw [hb.out]; rfl, by rw [hb.out]; exact World.ownsRow_nil _ _ _ _, hext.drewN d⟩
            · obtain ⟨x, rfl⟩ := Int.eq_ofNat_of_zero_le hpos
              have hno1 := Lib.hid (Hno.out (by simp))
              rw [Int.toNat_natCast] at hpe hpo
              have hextd := Lib.hid (hext.drewN d)
              have Hownd := Lib.hid (own_ext Hown.out (Below.drewN (Below.refl _ _) d))
              generalize W1.drewN d = W2 at *
              by_cases hpar : k % 2 = 0
              · have hu := Lib.hid (show Value.int .u8 (16 * (x : Int)) = Byt (UInt8.ofNat (16 * x)) by simp only [Byt, UInt8.toNat_ofNat']; congr 1; omega)
                have hpe2 := Lib.hid (hpe.out hpar)
                have hkk := Lib.hid (show (k + 1 + 1) / 2 = (k + 1) / 2 + 1 by omega)
                have hq : (k + 1) / 2 ≤ 1000 := by omega
                generalize (k + 1) / 2 = q at *
                go_wp2_with (at_builtin; refine wpList_push w.heap.size rfl _ _ 45 5 rfl Tryd.underlying45 infoByte rfl (by omega) Hownd.out _ rfl (by omega) hextd.out.size rfl rfl ?_; rintro _ w1 ⟨g1, cap1, rfl⟩ hown1 hgr1; have hex1 := Lib.hid (ext_push hextd.out Hownd.out hgr1); rw [hu.out] at hown1; have Hown1 := Lib.hid hown1; clear hown1 hgr1)
                have hrow : w1.ownsRow w.heap.size 5 1 (.slice (some ⟨g1, 0, none⟩) (q + 1) cap1) ((k + 1 + 1) / 2) ((outP l (k + 1)).map Byt) := by rw [hkk.out, hpe2.out, List.map_append]; exact Hown1.out
                exact ⟨⟨k + 1, by omega, by first | go_num | omega, hrow, hno1, hex1.out⟩, by simp [intOf] <;> omega⟩
              · have hpar1 : k % 2 = 1 := by omega
                have hpo2 := Lib.hid (hpo.out hpar1)
                obtain ⟨p, hp⟩ : ∃ p, p = k / 2 := ⟨_, rfl⟩
                have hh := hexI_range (bt l (k - 1))
                have hh1 := hno.out (k - 1) (by omega)
                obtain ⟨h0, hh0⟩ := Int.eq_ofNat_of_zero_le (show 0 ≤ hexI (bt l (k - 1)) by omega)
                have hk1 : (k + 1) / 2 = p + 1 := by omega
                have hlast : ((outP l k).map Byt)[p]? = some (.int .u8 (16 * (h0 : Int))) := by
                  have hl : (unhN l (k / 2)).length = p := by simp [unhN, hp]
                  rw [outP, if_neg (by omega), hh0, Int.toNat_natCast, List.map_append, List.getElem?_append_right (by simp; omega)]
                  simp only [List.length_map, hl, Nat.sub_self, List.map_cons, List.map_nil, List.getElem?_cons_zero, Byt, UInt8.toNat_ofNat']
                  congr 2; omega
                rw [hh0, Int.toNat_natCast, ← hp] at hpo2
                have hown4 := Hownd.out
                rw [hk1] at hown4
                obtain ⟨g, cap, hv4, hbg⟩ := own_shape hown4 (by omega)
                subst hv4
                have hrow := Lib.hid (ownsRow_set hown4 (show p < p + 1 by omega) (Byt (UInt8.ofNat (16 * h0 + x))))
                have hset := Lib.hid (show ((outP l k).map Byt).set p (Byt (UInt8.ofNat (16 * h0 + x))) = (outP l (k + 1)).map Byt by rw [hpo2.out, List.map_set])
                have hcf : W2.cell? ⟨g, p, none⟩ = some (.int .u8 (16 * (h0 : Int))) ∧ W2.frozen? ⟨g, p, none⟩ = false := by
                  obtain ⟨ao, cp, hve, _, _, _, hcell⟩ := sl_of_own hown4
                  have hln : ((outP l k).map Byt).length = p + 1 := by rw [List.length_map, hpl.out]; omega
                  rw [hln] at hve
                  cases hve
                  have := hcell p _ hlast
                  rw [adr_some, Nat.zero_add] at this
                  refine ⟨this, ?_⟩
                  rcases hown4.2 with ⟨hn, _⟩ | ⟨g', cp', cur, hv, _, hgg, _⟩
                  · cases hn
                  · cases hv; simp [World.frozen?, hgg]
                obtain ⟨hc4, hf4⟩ := hcf
                have hu := Lib.hid (show Value.int .u8 (16 * (h0 : Int) + (x : Int)) = Byt (UInt8.ofNat (16 * h0 + x)) by simp only [Byt, UInt8.toNat_ofNat']; congr 1; omega)
                have hexs := Lib.hid (show ∀ u, Ext w (W2.setCell ⟨g, p, none⟩ u) from fun u => below_chg hextd.out (Chg.setCell W2 _ u) (fun k hk => by simp at hk; omega) (Nat.le_refl _))
                have hkk := Lib.hid (show (k + 1 + 1) / 2 = p + 1 by omega)
                have hh15 : h0 ≤ 15 := by omega
                have hp1 : p ≤ 1000 := by omega
                have hpar2 : ((k : Int) % 2 == 0) = false := by simp; omega
                rw [hk1] at Hownd
                clear hlast hown4 hh hh1 hh0 hp hk1
                go_wp2
                refine ⟨⟨k + 1, by omega, by first | go_num | omega, ?_, hno1, hexs.out _⟩, by simp [intOf] <;> omega⟩
                rw [hkk.out, ← hset.out, hu.out]
                exact hrow.out
      · have hkl : k = l.length := by omega
        rw [hkl] at Hown hno
        have hR := Lib.hid (show unhR l = (outP l l.length, 0) by
          rw [hf.out, if_pos, outP, if_pos hev, show (l.length + 1) / 2 = l.length / 2 by omega]
          refine List.all_eq_true.2 fun q hq => ?_
          have hq2 := List.mem_range.1 hq
          rw [pc_two l q (by omega)]
          simp only [grpH, List.all_cons, List.all_nil, Bool.and_true, Bool.and_eq_true, bne_iff_ne]
          exact ⟨hno.out _ (by omega), hno.out _ (by omega)⟩)
        have hlo := Lib.hid (outP_len l l.length)
        clear hkl
        go_wp2
        go_ret2
        refine ⟨_, by rw [hR.out]; rfl, ?_, hext⟩
        rw [hR.out, hlo.out]
        exact Hown.out
  · rw [if_neg hev] at hf
    go_enter Tryd.func60, Tryd.ntmps60
    go_wp2
    go_ret2
    exact ⟨.slice none 0 0, by rw [hf.out]; rfl, by rw [hf.out]; exact World.ownsRow_nil _ _ _ _, Below.refl _ _⟩
end Go.Proofs.YtpndahmlbjhdfaaDoor
