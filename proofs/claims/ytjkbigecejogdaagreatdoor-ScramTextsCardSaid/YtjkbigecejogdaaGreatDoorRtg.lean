/-
 ref07.Text at every message that isn't too great; what readLong says of a long one is asked (RlP).
-/
import Derived.BigGuardPart
import Derived.BigQuiet
import Derived.RegionTactic
import Derived.Deep.DrawnRows
import Derived.Deep.CutBlock
import Derived.Deep.DeepCutAuto
import Derived.Test.YtjkbigecejogdaaGreatDoorRows
import Derived.Test.YtjkbigecejogdaaGreatDoorSfa
import Derived.Test.YtjkbigecejogdaaGreatDoorFbk
import Derived.Test.YtjkbigecejogdaaGreatDoorLpr
import Derived.Test.YtjkbigecejogdaaGreatDoorSmm
namespace Go.Proofs.YtjkbigecejogdaaGreatDoor
open Go.RowKit
set_option maxRecDepth 100000
attribute [local go_sem ↓] Go.wp_at_zero Go.wp_at_succ
set_option linter.unusedVariables false
set_option linter.unusedSimpArgs false
def RlP (m : Ms) (e s p : Value) (W : World) : Prop :=
 Calls Tryz.prog 36 #[.agg (msA m e s p)] W fun r w' => r = .returned (.tuple #[if rlB m then .agg (msA m e s p) else .agg zerM, .int .i64 (if rlB m then 0 else 4)]) ∧ Ext W w'
theorem slice_len {W : World} {a : Option Addr} {n k : Nat} {l : List UInt8} (h : SlB W (.slice a n k) l) : n = l.length := by
 obtain ⟨_, _, h1, _⟩ := h
 rw [List.length_map] at h1
 injection h1
set_option maxHeartbeats 8000000 in
theorem rtext_gen (m : Ms) (hf : MsF m) (B : Nat) (e s p : Value) (w : World) (hr : MsR B w e s p m) (hL : LwS w)
    (hlong : 4096 < (rtxL m).length → m.ext.all nmB = true → ∀ W, MsR B W e s p m → LwS W → RlP m e s p W) :
    Calls Tryz.prog 13 #[.agg (msA m e s p)] w fun r w' => r = .returned (.tuple #[Str (txtV m).1, .int .i64 (txtV m).2]) ∧ Ext w w' := by
 obtain ⟨a1, n1, k1, a2, n2, k2, a3, n3, k3, rfl, rfl, rfl⟩ := hr.shape
 have hkd := kind_of m hf
 have hlen := rtx_len2 m hf
 have hok := msF_ok m hf
 have HZB := Lib.hid (txtV_bad m)
 have HZS := Lib.hid (txtV_short m hf)
 have HZL := Lib.hid (txtV_long m hf)
 have HSLW := Lib.hid (show rtxL m = _ from rfl)
 have hfl := hf.fl; have hau := hf.au; have hus := hf.us; have hno := hf.no; have hsa := hf.sl; have hi1 := hf.i1; have hi2 := hf.i2; have hhd := hf.hd; have hpr := hf.pr; have hco := hf.co
 have HFR := Lib.hid (fun W => rfront_any m (by omega) (by omega) a1 a2 a3 n1 k1 n2 k2 n3 k3 W)
 have HB1 := Lib.hid (fun hk W hr => rback1_any m hk (by omega) (by omega) hok.ext a1 a2 a3 n1 k1 n2 k2 n3 k3 W hr)
 have HB3 := Lib.hid (fun hk W hr => rback3_any m hk (by omega) (by omega) hok.ext a1 a2 a3 n1 k1 n2 k2 n3 k3 W hr)
 have HRX := Lib.hid hr
 have hxe := hok.ext
 obtain ⟨kind, flag, authz, user, nonce, ls, salt, iter, head, proof, code⟩ := m
 simp only at hkd hfl hau hus hno hsa hi1 hi2 hhd hpr hco hxe HFR HB1 HB3 HZB HZS HZL hlong
 have HLG := Lib.hid hlong
 have HTL := Lib.hid (fun W hr => rtail_any (.slice a1 n1 k1) ls hxe W hr)
 have HNU := Lib.hid (fun W => rnumber_any iter hi2 W)
 have HEN := Lib.hid (fun l (hl : l.length ≤ 10000) v W (h : SlB W v l) => (refEncode_any false v l W h hl).mono fun e w' (h : e = .returned (Str (refEnc plain true l)) ∧ Ext W w') => (⟨by rw [h.1, refEnc_all plain true l.length l (Nat.le_refl _)], h.2⟩ : e = .returned (Str (allL plain true l)) ∧ Ext W w'))
 have hxl := extL_len2 ls hxe
 have hnl := numL_len iter hi2
 have hes := allL_small salt (by omega); have hep := allL_small proof (by omega)
 have hfh : (fhdL flag authz).length ≤ 1000 := by
  have := escF_len authz
  unfold fhdL; split <;> simp <;> omega
 have hfb : (fbaL user nonce ls).length ≤ 60000000 := by
  have := escF_len user
  unfold fbaL; simp; omega
 have hff := finL_len head nonce ls (by omega) (by omega) hxe
 have HRD := Lib.hid (fun W => rRead_any kind (rtxL ⟨kind, flag, authz, user, nonce, ls, salt, iter, head, proof, code⟩) (by omega) W)
 obtain ⟨sl, hsl⟩ : ∃ x, rtxL ⟨kind, flag, authz, user, nonce, ls, salt, iter, head, proof, code⟩ = x := ⟨_, rfl⟩
 rw [hsl] at HZS HZL HRD hlen HLG
 have HSL := Lib.hid hsl
 clear hsl HSLW hok hf hlong hr
 obtain ⟨z, hz⟩ : ∃ z, txtV ⟨kind, flag, authz, user, nonce, ls, salt, iter, head, proof, code⟩ = z := ⟨_, rfl⟩
 rw [hz] at HZB HZS HZL ⊢
 clear hz
 obtain ⟨z1, z2⟩ := z
 simp only at HZB ⊢
 obtain ⟨W1, hW1⟩ : ∃ W1, w.alloc (.cells #[.int .i64 kind, Str flag, Str authz, Str user, Str nonce, .slice a1 n1 k1, .slice a2 n2 k2, .int .i64 iter, Str head, .slice a3 n3 k3, Str code] 27) = W1 := ⟨_, rfl⟩
 have hx : Ext w W1 := by rw [← hW1]; exact Below.alloc (Below.refl _ _) (Nat.le_refl _) _
 have hc : W1.heap[w.heap.size]? = some (.cells #[.int .i64 kind, Str flag, Str authz, Str user, Str nonce, .slice a1 n1 k1, .slice a2 n2 k2, .int .i64 iter, Str head, .slice a3 n3 k3, Str code] 27 (0, 0)) := by rw [← hW1]; exact Array.getElem?_push_size
 have HX1 := Lib.hid hx; have HC1 := Lib.hid hc
 have HL1 := Lib.hid (hL.ext hx)
 have HR1 := Lib.hid (HRX.out.grow hx)
 have hrow := HR1.out.ext
 obtain ⟨ao, cap, hv, hcap, hmax, hcl⟩ := rowP_shape hrow
 simp only at hv hcap hcl
 injection hv with hv1 hv2 hv3
 subst hv1 hv2 hv3
 have HCL := Lib.hid hcl
 have HIX := Lib.hid (fun g o j h W => index_pair g o ls.length k1 j h W)
 clear hx hc hrow hcl hL HRX
 unfold maxLen at hmax
 obtain ⟨c0, c1, c2, c3, c4, c5, c6, c7, c8, c9, c10⟩ := cells11 HC1.out
 go_enter Tryz.func13, Tryz.ntmps13
 go_wp2
 try rw [hW1]
 clear hW1 c0 c1 c2 c3 c4 c5 c6 c7 c8 c9 c10
 go_loopw [13] (fun i wr => ∃ k : Nat, k ≤ ls.length ∧ i = .int .i64 k ∧ Hid ((ls.take k).all nmB = true) ∧ Hid (Ext W1 wr)) (fun i _ => ls.length - (intOf i).toNat)
 case atStart => exact ⟨0, by omega, rfl, Lib.hid rfl, Lib.hid (Below.refl _ _)⟩
 case round =>
  obtain ⟨k, hk, rfl, HAL, HXW⟩ := hrel
  by_cases h3 : k < ls.length
  ·rcases HCL.out with h | ⟨g, o, rfl, hcc⟩
   ·subst h; simp at h3
   obtain ⟨v0, v1⟩ := hcc k h3
   replace v0 := ext_cell HXW.out v0; replace v1 := ext_cell HXW.out v1
   have i1 := HIX.out g o k h3
   have hpm : ls.getD k prD ∈ ls := by
    rw [show ls.getD k prD = ls[k] by simp [List.getD, h3]]; exact List.getElem_mem h3
   have HSN := Lib.hid (show (ls.take (k + 1)).all nmB = ((ls.take k).all nmB && nmB (ls.getD k prD)) by
    rw [List.take_succ_eq_append_getElem h3, List.all_append, show ls.getD k prD = ls[k] by simp [List.getD, h3]]; simp)
   have HBD := Lib.hid (show nmB (ls.getD k prD) = false → ls.all nmB = false from fun h => by
    rw [Bool.eq_false_iff]; intro h2
    rw [List.all_eq_true.1 h2 _ hpm] at h; cases h)
   clear hpm
   generalize ls.getD k prD = p at *
   generalize o + 2 * k = q at *
   obtain ⟨pn, pv⟩ := p
   simp only at v0 v1
   clear hcc
   have hx5 : Ext wr (wr.alloc (.cells #[Str pn, Str pv] 64)) := Below.alloc (Below.refl _ _) (Nat.le_refl _) _
   have HX5 := Lib.hid hx5
   clear hx5
   by_cases q1 : pn.length = 1
   ·have g1 : ((pn.length : Int) != 1) = false := by rw [q1]; rfl
    have g2 : ((pn.length : Int) == 1) = true := by rw [q1]; rfl
    by_cases q2 : pn = [109]
    ·have HB := Lib.hid (HBD.out (by unfold nmB; simp [q2]))
     have e1 : (pn == [109]) = true := by simp [q2]
     clear q1 q2 HSN
     have hz := HZB.out HB.out
     injection hz with h1 h2
     subst h1 h2
     clear HZB
     go_wp2
     go_ret2
     exact ⟨rfl, ext_trans HX1.out (ext_trans HXW.out HX5.out)⟩
    ·have HN := Lib.hid (show (ls.take (k + 1)).all nmB = true by rw [HSN.out, HAL.out]; unfold nmB; simp [q1, q2])
     have e1 : (pn == [109]) = false := by simp [q2]
     clear q1 q2 HSN HBD
     go_wp2
     go_roundw
     case rel => exact ⟨k + 1, by omega, by go_num, HN, Lib.hid (ext_trans HXW.out HX5.out)⟩
     case measure => simp [intOf] <;> omega
   ·have g1 : ((pn.length : Int) != 1) = true := by simp only [bne_iff_ne, ne_eq]; omega
    have g2 : ((pn.length : Int) == 1) = false := by simp only [beq_eq_false_iff_ne, ne_eq]; omega
    have g3 : ¬ (pn.length : Int) = 1 := by omega
    have HB := Lib.hid (HBD.out (by unfold nmB; simp [q1]))
    clear q1 HSN
    have hz := HZB.out HB.out
    injection hz with h1 h2
    subst h1 h2
    clear HZB
    go_wp2
    go_ret2
    exact ⟨rfl, ext_trans HX1.out (ext_trans HXW.out HX5.out)⟩
  ·have hkl : k = ls.length := by omega
   subst hkl
   have HNM := Lib.hid (show ls.all nmB = true by have := HAL.out; rwa [List.take_length] at this)
   clear HCL HIX hk h3 HAL HZB
   have HXR := Lib.hid (ext_trans HX1.out HXW.out)
   have HQR := Lib.hid (ext_at HXW.out HC1.out)
   have HRR := Lib.hid (HR1.out.grow HXW.out)
   have HLR := Lib.hid (HL1.out.ext HXW.out)
   clear HX1 HC1 HR1 HL1
   obtain ⟨c0, c1, c2, c3, c4, c5, c6, c7, c8, c9, c10⟩ := cells11 HQR.out
   go_upto_block 2 with fail
   go_cut [4] from 5 (fun s4 wx => s4 = Str sl ∧ Hid (Ext wr wx))
   case first =>
    rcases hkd with rfl | rfl | rfl | rfl
    ·have hsl : sl = fhdL flag authz ++ fbaL user nonce ls := by rw [← HSL.out]; rfl
     have HB := Lib.hid (fun W hr => HB1.out rfl W hr)
     clear HSL HZS HZL HRD HLG hlen HB1 HB3
     generalize fhdL flag authz = l1 at *
     generalize fbaL user nonce ls = l2 at *
     subst hsl
     go_upto_region 13 with fail
     have d0 := ExtW.cell c0; have d1 := ExtW.cell c1; have d2 := ExtW.cell c2; have d3 := ExtW.cell c3; have d4 := ExtW.cell c4; have d5 := ExtW.cell c5; have d6 := ExtW.cell c6; have d7 := ExtW.cell c7; have d8 := ExtW.cell c8; have d9 := ExtW.cell c9; have d10 := ExtW.cell c10
     clear c0 c1 c2 c3 c4 c5 c6 c7 c8 c9 c10
     refine wp_region_ext (by kernel_rfl) (by kernel_rfl) ?_
     repeat (first
      | go_big_quiet_skip
      | (go_big_quiet_want; go_big_quiet_op; (try go_bits); first | go_big_quiet_on | go_big_quiet_call (first | exact Calls.ext_of _ (HFR.out _) | exact Calls.ext_of (W := wr) _ (HB.out _ (HRR.out.ext.ext (ExtW.h _))))))
     refine wpQuiet_nil ?_
     intro _ hw'
     obtain ⟨nq, hw''⟩ := hw'
     subst hw''
     go_wp2
     go_meet
     exact ⟨rfl, Lib.hid nq.h⟩
    ·have hsl : sl = 114 :: 61 :: (nonce ++ 44 :: 115 :: 61 :: (allL plain true salt ++ 44 :: 105 :: 61 :: (numL iter ++ extL ls))) := by rw [← HSL.out]; rfl
     have HE := Lib.hid (fun v W h => HEN.out salt (by omega) v W h)
     clear HSL HZS HZL HRD HLG hlen HB1 HB3 HEN
     generalize allL plain true salt = es at *
     generalize numL iter = nu at *
     generalize extL ls = ex at *
     subst hsl
     go_upto_region 15 with fail
     have d0 := ExtW.cell c0; have d4 := ExtW.cell c4; have d5 := ExtW.cell c5; have d6 := ExtW.cell c6; have d7 := ExtW.cell c7
     clear c0 c1 c2 c3 c4 c5 c6 c7 c8 c9 c10
     refine wp_region_ext (by kernel_rfl) (by kernel_rfl) ?_
     repeat (first
      | go_big_quiet_skip
      | (go_big_quiet_want; go_big_quiet_op; (try go_bits); first | go_big_quiet_on | go_big_quiet_call (first | exact Calls.ext_of (W := wr) _ (HE.out _ _ (HRR.out.salt.ext (ExtW.h _))) | exact Calls.ext_of _ ((HNU.out _).mono fun _ _ h => ⟨h.1, by rw [h.2]; exact ext_refl _⟩) | exact Calls.ext_of (W := wr) _ (HTL.out _ (HRR.out.ext.ext (ExtW.h _))))))
     refine wpQuiet_nil ?_
     intro _ hw'
     obtain ⟨nq, hw''⟩ := hw'
     subst hw''
     go_wp2
     go_meet
     exact ⟨rfl, Lib.hid nq.h⟩
    ·have hsl : sl = finL head nonce ls ++ 44 :: 112 :: 61 :: allL plain true proof := by rw [← HSL.out]; rfl
     have HE := Lib.hid (fun v W h => HEN.out proof (by omega) v W h)
     have HB := Lib.hid (fun W hr => HB3.out (by decide) W hr)
     clear HSL HZS HZL HRD HLG hlen HB1 HB3 HEN
     generalize allL plain true proof = es at *
     generalize finL head nonce ls = fl at *
     subst hsl
     go_upto_region 17 with fail
     have d0 := ExtW.cell c0; have d1 := ExtW.cell c1; have d2 := ExtW.cell c2; have d3 := ExtW.cell c3; have d4 := ExtW.cell c4; have d5 := ExtW.cell c5; have d6 := ExtW.cell c6; have d7 := ExtW.cell c7; have d8 := ExtW.cell c8; have d9 := ExtW.cell c9; have d10 := ExtW.cell c10
     clear c0 c1 c2 c3 c4 c5 c6 c7 c8 c9 c10
     refine wp_region_ext (by kernel_rfl) (by kernel_rfl) ?_
     repeat (first
      | go_big_quiet_skip
      | (go_big_quiet_want; go_big_quiet_op; (try go_bits); first | go_big_quiet_on | go_big_quiet_call (first | exact Calls.ext_of (W := wr) _ (HE.out _ _ (HRR.out.proof.ext (ExtW.h _))) | exact Calls.ext_of (W := wr) _ (HB.out _ (HRR.out.ext.ext (ExtW.h _))))))
     refine wpQuiet_nil ?_
     intro _ hw'
     obtain ⟨nq, hw''⟩ := hw'
     subst hw''
     go_wp2
     go_meet
     exact ⟨rfl, Lib.hid nq.h⟩
    ·have hsl : sl = if proof = [] then 101 :: 61 :: (code ++ extL ls) else 118 :: 61 :: (allL plain true proof ++ extL ls) := by rw [← HSL.out]; rfl
     have HE := Lib.hid (fun v W h => HEN.out proof (by omega) v W h)
     have HPS := Lib.hid HRR.out.proof
     have hps := slice_len HPS.out

     subst hps
     clear HSL HZS HZL HRD HLG hlen HB1 HB3 HEN
     generalize allL plain true proof = es at *
     generalize extL ls = ex at *
     have HSLH := Lib.hid hsl
     clear hsl
     go_upto_region 9 with fail
     have d0 := ExtW.cell c0; have d1 := ExtW.cell c1; have d2 := ExtW.cell c2; have d3 := ExtW.cell c3; have d4 := ExtW.cell c4; have d5 := ExtW.cell c5; have d6 := ExtW.cell c6; have d7 := ExtW.cell c7; have d8 := ExtW.cell c8; have d9 := ExtW.cell c9; have d10 := ExtW.cell c10
     refine wp_region_ext (by kernel_rfl) (by kernel_rfl) ?_
     repeat (first
      | go_big_quiet_skip
      | (go_big_quiet_want; go_big_quiet_op; (try go_bits); first | go_big_quiet_on | go_big_quiet_call (first | exact Calls.ext_of (W := wr) _ (HE.out _ _ (HPS.out.ext (ExtW.h _))) | exact Calls.ext_of (W := wr) _ (HTL.out _ (HRR.out.ext.ext (ExtW.h _))))))
     refine wpQuiet_nil ?_
     intro _ hw'
     obtain ⟨nq, hw''⟩ := hw'
     subst hw''
     by_cases hpp : proof = []
     ·have hsl := HSLH.out
      rw [if_pos hpp] at hsl
      have g1 : ((proof.length : Int) == 0) = true := by rw [hpp]; rfl
      have g2 : (proof.length : Int) = 0 := by rw [hpp]; rfl
      clear hpp HSLH
      subst hsl
      clear d0 d1 d2 d3 d4 d5 d6 d7 d8 d9 d10
      have HNQ := Lib.hid nq.h
      have hrq := HRR.out.ext.ext nq.h
      have HRQ := Lib.hid hrq
      clear hrq
      replace c9 := ext_cell HNQ.out c9; replace c10 := ext_cell HNQ.out c10; replace c5 := ext_cell HNQ.out c5
      clear c0 c1 c2 c3 c4 c6 c7 c8
      generalize nq.w = wq at *
      go_upto_region 11 with fail
      have d5 := ExtW.cell c5; have d10 := ExtW.cell c10
      refine wp_region_ext (by kernel_rfl) (by kernel_rfl) ?_
      repeat (first
       | go_big_quiet_skip
       | (go_big_quiet_want; go_big_quiet_op; (try go_bits); first | go_big_quiet_on | go_big_quiet_call (exact Calls.ext_of (W := wq) _ (HTL.out _ (HRQ.out.ext (ExtW.h _))))))
      refine wpQuiet_nil ?_
      intro _ hw'
      obtain ⟨nq, hw''⟩ := hw'
      subst hw''
      go_wp2
      go_meet
      exact ⟨rfl, Lib.hid (ext_trans HNQ.out nq.h)⟩
     ·have hsl := HSLH.out
      rw [if_neg hpp] at hsl
      have hpl : ¬ proof.length = 0 := fun e => hpp (List.eq_nil_of_length_eq_zero e)
      have g1 : ((proof.length : Int) == 0) = false := by simp only [beq_eq_false_iff_ne, ne_eq]; omega
      have g2 : ¬ (proof.length : Int) = 0 := by omega
      clear hpp HSLH hpl
      subst hsl
      clear c0 c1 c2 c3 c4 c5 c6 c7 c8 c9 c10
      go_wp2
      go_meet
      exact ⟨rfl, Lib.hid nq.h⟩
   case rest =>
    obtain ⟨rfl, HXC0⟩ := hcut
    have HXC := Lib.hid (ext_trans HXR.out HXC0.out)
    have HQC := Lib.hid (ext_at HXC0.out HQR.out)
    have HRC := Lib.hid (HRR.out.grow HXC0.out)
    have HLC := Lib.hid (HLR.out.ext HXC0.out)
    clear HXC0 HXR HQR HRR HLR HXW HB1 HB3 HFR HEN HNU HTL HSL c0 c1 c2 c3 c4 c5 c6 c7 c8 c9 c10
    obtain ⟨c0, -, -, -, -, -, -, -, -, -, -⟩ := cells11 HQC.out
    by_cases hlg : 4096 < sl.length
    ·have g1 : decide ((sl.length : Int) > 4096) = true := by simp; omega
     have g2 : (4096 : Int) < sl.length := by omega
     have HR := Lib.hid (show _ from HRD.out wc)
     rw [rRead_long kind sl hlg] at HR
     have HZ := Lib.hid (HZL.out HNM.out hlg)
     have HG := Lib.hid (fun W h1 h2 => HLG.out hlg HNM.out W h1 h2)
     clear HZL HZS HRD HLG hlg
     obtain ⟨xm, hxm⟩ : ∃ x, Ms0 = x := ⟨_, rfl⟩
     rw [hxm] at HR
     go_wp2_with fail
     refine HR.out.mono ?_
     rintro e W4 ⟨⟨v9, rfl, hm9⟩, hx⟩
     clear c0
     obtain ⟨e9, s9, p9, rfl, hmr⟩ := hm9
     obtain ⟨b1, y1, z1', b2, y2, z2', b3, y3, z3', rfl, rfl, rfl⟩ := hmr.shape
     obtain ⟨W5, hW2⟩ : ∃ WX, W4.alloc (.cells zerM 27) = WX := ⟨_, rfl⟩
     have hx2 : Ext W4 W5 := by rw [← hW2]; exact Below.alloc (Below.refl _ _) (Nat.le_refl _) _
     have hq2 : W5.heap[W4.heap.size]? = some (.cells zerM 27 (0, 0)) := by rw [← hW2]; exact Array.getElem?_push_size
     obtain ⟨Z5, hZ2, hp2, hb2⟩ := set11 hq2 (.int .i64 xm.kind) (Str xm.flag) (Str xm.authz) (Str xm.user) (Str xm.nonce) (.slice b1 y1 z1') (.slice b2 y2 z2') (.int .i64 xm.iter) (Str xm.head) (.slice b3 y3 z3') (Str xm.code)
     have hx2z : Ext W4 Z5 := hb2.below hx2 (Nat.le_refl _) (Nat.le_refl _)
     have HMX := Lib.hid (show MsIs 0 Z5 (.agg (msA xm (.slice b1 y1 z1') (.slice b2 y2 z2') (.slice b3 y3 z3'))) xm from ⟨_, _, _, rfl, (hmr.grow hx2z).mono (Nat.zero_le _)⟩)
     have HXD := Lib.hid (ext_trans hx hx2z)
     have HXA := Lib.hid (ext_trans HXC.out HXD.out)
     have HQA := Lib.hid hp2; have HZ2 := Lib.hid hZ2
     have HQB := Lib.hid (ext_at HXD.out HQC.out)
     have HMM := Lib.hid (HRC.out.grow HXD.out)
     have HSZ := Lib.hid hx.size
     obtain ⟨c0, c1, c2, c3, c4, c5, c6, c7, c8, c9, c10⟩ := cells11 hq2
     obtain ⟨f0, f1, f2, f3, f4, f5, f6, f7, f8, f9, f10⟩ := frozen11 hq2
     clear hx2 hq2 hb2 hx2z hZ2 hp2 hmr hx
     go_upto_region 20 with fail
     try rw [hW2]
     rw [HZ2.out]
     clear hW2 HZ2 c0 c1 c2 c3 c4 c5 c6 c7 c8 c9 c10 f0 f1 f2 f3 f4 f5 f6 f7 f8 f9 f10
     obtain ⟨c0, c1, c2, c3, c4, c5, c6, c7, c8, c9, c10⟩ := cells11 HQB.out
     obtain ⟨d0, d1, d2, d3, d4, d5, d6, d7, d8, d9, d10⟩ := cells11 HQA.out
     have hrl := HG.out Z5 HMM.out (HLC.out.ext HXD.out)
     unfold RlP at hrl
     have HRL := Lib.hid hrl
     clear hrl HG
     go_wp2_with fail
     refine HRL.out.mono ?_
     rintro e W6 ⟨rfl, hx6⟩
     have HM6 := Lib.hid (HMM.out.grow hx6)
     have HX6 := Lib.hid (ext_trans HXA.out hx6)
     have HQ6 := Lib.hid (ext_at hx6 HQB.out)
     have hq6 := ext_at hx6 HQA.out
     have HS6 := Lib.hid (show wc.heap.size ≤ W4.heap.size from HSZ.out)
     clear hx6 HRL HMX HXD HXA HQA HQB HMM HSZ c0 c1 c2 c3 c4 c5 c6 c7 c8 c9 c10 d0 d1 d2 d3 d4 d5 d6 d7 d8 d9 d10
     obtain ⟨f0, f1, f2, f3, f4, f5, f6, f7, f8, f9, f10⟩ := frozen11 hq6
     obtain ⟨d0, d1, d2, d3, d4, d5, d6, d7, d8, d9, d10⟩ := cells11 hq6
     cases hrb : rlB ⟨kind, flag, authz, user, nonce, ls, salt, iter, head, proof, code⟩ with
     | true =>
       have hz := HZ.out
       rw [if_pos hrb] at hz
       injection hz with h1 h2
       subst h1 h2
       clear HZ hrb
       simp only [if_true]
       obtain ⟨Z7, hZ7, hr7, hb7⟩ := set11 hq6 (.int .i64 kind) (Str flag) (Str authz) (Str user) (Str nonce) (.slice a1 ls.length k1) (.slice a2 n2 k2) (.int .i64 iter) (Str head) (.slice a3 n3 k3) (Str code)
       have HM7 := Lib.hid (HRC.out.later HM6.out HS6.out hb7)
       have HX7 := Lib.hid (hb7.below HX6.out (by have := HXC.out.size; have := HS6.out; omega) (Nat.le_refl _))
       have HSM := Lib.hid (sameM_any 0 0 _ _ _ _ Z7 ⟨_, _, _, rfl, HM7.out.mono (Nat.zero_le _)⟩ ⟨_, _, _, rfl, HM7.out.mono (Nat.zero_le _)⟩)
       have hq7 := (hb7.block w.heap.size (Array.getElem?_eq_some_iff.1 HQ6.out).1 (by have := (Array.getElem?_eq_some_iff.1 HQC.out).1; have := HS6.out; omega)).trans HQ6.out
       have HQ7 := Lib.hid hq7; have HR7 := Lib.hid hr7; have HZ7 := Lib.hid hZ7
       clear hq7 hr7 hZ7 hb7
       go_upto_region 22 with fail
       rw [HZ7.out]
       clear HZ7 d0 d1 d2 d3 d4 d5 d6 d7 d8 d9 d10 f0 f1 f2 f3 f4 f5 f6 f7 f8 f9 f10
       obtain ⟨c0, c1, c2, c3, c4, c5, c6, c7, c8, c9, c10⟩ := cells11 HQ7.out
       obtain ⟨d0, d1, d2, d3, d4, d5, d6, d7, d8, d9, d10⟩ := cells11 HR7.out
       go_wp2_with fail
       refine HSM.out.mono ?_
       rintro e W8 ⟨he, hx8⟩
       simp only [decide_true] at he
       subst he
       have HX8 := Lib.hid (ext_trans HX7.out hx8)
       clear hx8 HSM
       go_wp2
       go_ret2
       exact ⟨rfl, HX8.out⟩
     | false =>
       have hz := HZ.out
       rw [if_neg (by rw [hrb]; decide)] at hz
       injection hz with h1 h2
       subst h1 h2
       clear HZ hrb
       simp only [Bool.false_eq_true, if_false]
       obtain ⟨Z7, hZ7, hr7, hb7⟩ := set11 hq6 (.int .i64 0) (Str []) (Str []) (Str []) (Str []) (.slice none 0 0) (.slice none 0 0) (.int .i64 0) (Str []) (.slice none 0 0) (Str [])
       have HX7 := Lib.hid (hb7.below HX6.out (by have := HXC.out.size; have := HS6.out; omega) (Nat.le_refl _))
       have HZ7 := Lib.hid hZ7
       clear hr7 hZ7 hb7
       go_upto_region 22 with fail
       rw [HZ7.out]
       clear HZ7 d0 d1 d2 d3 d4 d5 d6 d7 d8 d9 d10 f0 f1 f2 f3 f4 f5 f6 f7 f8 f9 f10
       go_wp2
       go_ret2
       exact ⟨rfl, HX7.out⟩
    ·have g1 : decide ((sl.length : Int) > 4096) = false := by simp; omega
     have g2 : ¬ (4096 : Int) < sl.length := by omega
     have HR := Lib.hid (show _ from HRD.out wc)
     have HZ := Lib.hid (HZS.out hlg)
     clear HZL HZS HRD HLG hlg
     obtain ⟨mm, hmm⟩ : ∃ x, rRead kind sl = x := ⟨_, rfl⟩
     rw [hmm] at HR HZ
     clear hmm
     obtain ⟨xm, c⟩ := mm
     simp only at HR
     go_wp2_with fail
     refine HR.out.mono ?_
     rintro e W4 ⟨⟨v9, rfl, hm9⟩, hx⟩
     clear c0
     obtain ⟨e9, s9, p9, rfl, hmr⟩ := hm9
     obtain ⟨b1, y1, z1', b2, y2, z2', b3, y3, z3', rfl, rfl, rfl⟩ := hmr.shape
     obtain ⟨W5, hW2⟩ : ∃ WX, W4.alloc (.cells zerM 27) = WX := ⟨_, rfl⟩
     have hx2 : Ext W4 W5 := by rw [← hW2]; exact Below.alloc (Below.refl _ _) (Nat.le_refl _) _
     have hq2 : W5.heap[W4.heap.size]? = some (.cells zerM 27 (0, 0)) := by rw [← hW2]; exact Array.getElem?_push_size
     obtain ⟨Z5, hZ2, hp2, hb2⟩ := set11 hq2 (.int .i64 xm.kind) (Str xm.flag) (Str xm.authz) (Str xm.user) (Str xm.nonce) (.slice b1 y1 z1') (.slice b2 y2 z2') (.int .i64 xm.iter) (Str xm.head) (.slice b3 y3 z3') (Str xm.code)
     have hx2z : Ext W4 Z5 := hb2.below hx2 (Nat.le_refl _) (Nat.le_refl _)
     have HMX := Lib.hid (show MsIs 0 Z5 (.agg (msA xm (.slice b1 y1 z1') (.slice b2 y2 z2') (.slice b3 y3 z3'))) xm from ⟨_, _, _, rfl, (hmr.grow hx2z).mono (Nat.zero_le _)⟩)
     have HXD := Lib.hid (ext_trans hx hx2z)
     have HXA := Lib.hid (ext_trans HXC.out HXD.out)
     have HQA := Lib.hid hp2; have HZ2 := Lib.hid hZ2
     have HQB := Lib.hid (ext_at HXD.out HQC.out)
     have HMM := Lib.hid (HRC.out.grow HXD.out)
     have HSZ := Lib.hid hx.size
     obtain ⟨c0, c1, c2, c3, c4, c5, c6, c7, c8, c9, c10⟩ := cells11 hq2
     obtain ⟨f0, f1, f2, f3, f4, f5, f6, f7, f8, f9, f10⟩ := frozen11 hq2
     clear hx2 hq2 hb2 hx2z hZ2 hp2 hmr hx
     go_upto_region 20 with fail
     try rw [hW2]
     rw [HZ2.out]
     clear hW2 HZ2 c0 c1 c2 c3 c4 c5 c6 c7 c8 c9 c10 f0 f1 f2 f3 f4 f5 f6 f7 f8 f9 f10
     obtain ⟨c0, c1, c2, c3, c4, c5, c6, c7, c8, c9, c10⟩ := cells11 HQB.out
     obtain ⟨d0, d1, d2, d3, d4, d5, d6, d7, d8, d9, d10⟩ := cells11 HQA.out
     by_cases hc : c = 0
     ·subst hc
      have HSM := Lib.hid (sameM_any 0 0 _ _ xm ⟨kind, flag, authz, user, nonce, ls, salt, iter, head, proof, code⟩ Z5 HMX.out ⟨_, _, _, rfl, HMM.out.mono (Nat.zero_le _)⟩)
      go_wp2_with fail
      refine HSM.out.mono ?_
      rintro e W6 ⟨he, hx6⟩
      have HX6 := Lib.hid (ext_trans HXA.out hx6)
      clear hx6 HSM c0 c1 c2 c3 c4 c5 c6 c7 c8 c9 c10 d0 d1 d2 d3 d4 d5 d6 d7 d8 d9 d10
      by_cases hxm : xm = ⟨kind, flag, authz, user, nonce, ls, salt, iter, head, proof, code⟩
      ·rw [decide_eq_true hxm] at he
       subst he
       have hz := HZ.out
       rw [if_pos (by rw [hxm])] at hz
       injection hz with h1 h2
       subst h1 h2
       clear HZ hxm
       go_wp2
       go_ret2
       exact ⟨rfl, HX6.out⟩
      ·rw [decide_eq_false hxm] at he
       subst he
       have hz := HZ.out
       rw [if_neg (fun e => hxm (congrArg Prod.fst e))] at hz
       injection hz with h1 h2
       subst h1 h2
       clear HZ hxm
       go_wp2
       go_ret2
       exact ⟨rfl, HX6.out⟩
     ·have g3 : (c != 0) = true := by simp [hc]
      have g4 : (c == 0) = false := by simp [hc]
      have hz := HZ.out
      rw [if_neg (fun e => hc (congrArg Prod.snd e))] at hz
      injection hz with h1 h2
      subst h1 h2
      clear HZ
      go_wp2
      go_ret2
      exact ⟨rfl, HXA.out⟩
end Go.Proofs.YtjkbigecejogdaaGreatDoor
