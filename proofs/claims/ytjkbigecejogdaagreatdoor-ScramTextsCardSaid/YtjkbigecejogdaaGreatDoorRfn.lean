/-
 ref07.Final at every text.
-/
import Derived.BigGuardPart
import Derived.OwnWalk
import Derived.BigQuiet
import Derived.RegionTactic
import Derived.Deep.CutBlock
import Derived.Deep.DeepCutAuto
import Derived.Deep.DrawnRows
import Derived.Test.YtjkbigecejogdaaGreatDoorRows
import Derived.Test.YtjkbigecejogdaaGreatDoorRpl
import Derived.Test.YtjkbigecejogdaaGreatDoorScb
import Derived.Deep.LoopGhost
import Derived.Test.YtjkbigecejogdaaGreatDoorRch
import Derived.Test.YtjkbigecejogdaaGreatDoorMid
namespace Go.Proofs.YtjkbigecejogdaaGreatDoor
open Go.RowKit
set_option maxRecDepth 100000
attribute [local go_sem] Oper.semAt_some
set_option linter.unusedVariables false
set_option linter.unusedSimpArgs false
set_option maxHeartbeats 8000000 in
theorem rFinal_any (s : List UInt8) (hl : s.length ≤ 20000) (w : World) : RdP 22 s (rFinal s) w := by
 obtain ⟨W0, hW0⟩ : ∃ W0, w.alloc (.cells zerM 27) = W0 := ⟨_, rfl⟩
 have x0 : Ext w W0 := by rw [← hW0]; exact Below.alloc (Below.refl _ _) (Nat.le_refl _) _
 have r0 : W0.heap[w.heap.size]? = some (.cells zerM 27 (0, 0)) := by rw [← hW0]; exact Array.getElem?_push_size
 have HX := Lib.hid x0; have HR := Lib.hid r0
 clear x0 r0
 have HP := Lib.hid (show rFinal s = if 4096 < s.length then (Ms0, 3) else if (spl s).length < 3 then (Ms0, 4) else rN2 (spl s) from rfl)
 unfold RdP
 generalize rFinal s = r at *
 by_cases h4 : 4096 < s.length
 ·have hr := HP.out
  rw [if_pos h4] at hr
  subst hr
  have g1 : (4096 : Int) < (s.length : Int) := by omega
  clear h4 HP
  go_enter Tryz.func22, Tryz.ntmps22
  go_wp2_with fail
  try rw [hW0]
  refine (none_any 3 _).mono ?_
  rintro e W9 ⟨rfl, hx9⟩
  have HX9 := Lib.hid (ext_trans HX.out hx9)
  have HR9 := Lib.hid (ext_at hx9 HR.out)
  clear hx9
  obtain ⟨c0, c1, c2, c3, c4, c5, c6, c7, c8, c9, c10⟩ := cells11 HR9.out
  obtain ⟨f0, f1, f2, f3, f4, f5, f6, f7, f8, f9, f10⟩ := frozen11 HR9.out
  go_wp2_with fail
  obtain ⟨Z, hZ, hr, hb⟩ := set11 HR9.out (.int .i64 0) (Str []) (Str []) (Str []) (Str []) (.slice none 0 0) (.slice none 0 0) (.int .i64 0) (Str []) (.slice none 0 0) (Str [])
  rw [hZ]
  refine bodyPost_ret (v := .tuple #[.agg zerM, .int .i64 3]) ?_ rfl ⟨⟨_, rfl, msIs0 _ _⟩, hb.ext HX9.out⟩
  obtain ⟨d0, d1, d2, d3, d4, d5, d6, d7, d8, d9, d10⟩ := cells11 hr
  clear c0 c1 c2 c3 c4 c5 c6 c7 c8 c9 c10 f0 f1 f2 f3 f4 f5 f6 f7 f8 f9 f10 hr hb hZ
  simp [results, loadVar, loadCells, Tryz.isAgg27, Tryz.sizeOf27, Tryz.results22, go_sem, d0, d1, d2, d3, d4, d5, d6, d7, d8, d9, d10]
 have g1 : ¬ (4096 : Int) < (s.length : Int) := by omega
 have hp := HP.out
 rw [if_neg h4] at hp
 have HP2 := Lib.hid hp
 have HS := Lib.hid (fun W => Split_any s (by omega) W)
 have HPL := Lib.hid (fun p (h : p ∈ spl s) => (show p.length ≤ 4096 by have := spl_mem_len s p h; omega))
 have hsl := spl_len s
 clear hp HP
 generalize spl s = l at *
 go_enter Tryz.func22, Tryz.ntmps22
 go_wp2_with fail
 try rw [hW0]
 clear hW0
 refine (HS.out _).mono ?_
 rintro e W1 ⟨v, rfl, hown, hx⟩
 have hslv := sl_of_own hown
 obtain ⟨a1, k1, rfl, hk1, hm1, hn1⟩ := sl_shape hslv
 rw [List.length_map] at hk1 hslv ⊢
 have i1 := run_index_adr (P := Tryz.prog) Tryz.underlying88 Tryz.sizeOf9 hn1 hk1
 have HI1 := Lib.hid i1
 have HSL := Lib.hid hslv
 have HX1 := Lib.hid (ext_trans HX.out hx)
 have HR1 := Lib.hid (ext_at hx HR.out)
 clear hown hx HX HR i1 hslv
 by_cases h3 : l.length < 3
 ·have hr := HP2.out
  rw [if_pos h3] at hr
  subst hr
  have g2 : (l.length : Int) < 3 := by omega
  clear HP2
  go_wp2_with fail
  refine (none_any 4 _).mono ?_
  rintro e W9 ⟨rfl, hx9⟩
  have HX9 := Lib.hid (ext_trans HX1.out hx9)
  have HR9 := Lib.hid (ext_at hx9 HR1.out)
  clear hx9
  obtain ⟨c0, c1, c2, c3, c4, c5, c6, c7, c8, c9, c10⟩ := cells11 HR9.out
  obtain ⟨f0, f1, f2, f3, f4, f5, f6, f7, f8, f9, f10⟩ := frozen11 HR9.out
  go_wp2_with fail
  obtain ⟨Z, hZ, hr, hb⟩ := set11 HR9.out (.int .i64 0) (Str []) (Str []) (Str []) (Str []) (.slice none 0 0) (.slice none 0 0) (.int .i64 0) (Str []) (.slice none 0 0) (Str [])
  rw [hZ]
  refine bodyPost_ret (v := .tuple #[.agg zerM, .int .i64 4]) ?_ rfl ⟨⟨_, rfl, msIs0 _ _⟩, hb.ext HX9.out⟩
  obtain ⟨d0, d1, d2, d3, d4, d5, d6, d7, d8, d9, d10⟩ := cells11 hr
  clear c0 c1 c2 c3 c4 c5 c6 c7 c8 c9 c10 f0 f1 f2 f3 f4 f5 f6 f7 f8 f9 f10 hr hb hZ
  simp [results, loadVar, loadCells, Tryz.isAgg27, Tryz.sizeOf27, Tryz.results22, go_sem, d0, d1, d2, d3, d4, d5, d6, d7, d8, d9, d10]
 have g2 : ¬ (l.length : Int) < 3 := by omega
 have hp := HP2.out
 rw [if_neg h3] at hp
 have HP3 := Lib.hid hp
 clear hp HP2 h4
 have j0 := fun W => HI1.out W 0 (by omega)
 have j1 := fun W => HI1.out W 1 (by omega)
 have j9 := fun W => HI1.out W (l.length - 1) (by omega)
 have e9 : (l.length : Int) - 1 = ((l.length - 1 : Nat) : Int) := by omega
 simp only [Int.cast_ofNat_Int] at j0 j1
 have hb0 := HPL.out _ (lat_mem l 0 (by omega))
 have hb1 := HPL.out _ (lat_mem l 1 (by omega))
 have hb9 := HPL.out _ (lat_mem l (l.length - 1) (by omega))
 have HB0 := Lib.hid (fun W => behind_any (lat l 0) 99 61 W)
 have HB1 := Lib.hid (fun W => behind_any (lat l 1) 114 61 W)
 have HB9 := Lib.hid (fun W => behind_any (lat l (l.length - 1)) 112 61 W)
 have hl0 := beh_len (lat l 0) 99 61
 have hl1 := beh_len (lat l 1) 114 61
 have hl9 := beh_len (lat l (l.length - 1)) 112 61
 have HBY := Lib.hid (fun W => rbytes_any (beh (lat l 0) 99 61).1 (by omega) 0 4096 (by omega) (by omega) W)
 have HBP := Lib.hid (fun W => rbytes_any (beh (lat l (l.length - 1)) 112 61).1 (by omega) 32 32 (by omega) (by omega) W)
 have HNO := Lib.hid (fun W => nonce_ref07 (beh (lat l 1) 114 61).1 (by omega) W)
 have HEX := Lib.hid (fun W v (h : Sl W v ((midL l).map Str)) => exts_any v (midL l) (by unfold midL; rw [List.length_drop, List.length_take]; omega) (fun p hp => by have := HPL.out p (List.mem_of_mem_take (List.mem_of_mem_drop hp)); omega) W h)
 have c0 := HSL.out.cell 0 _ (lat_get l 0 (by omega))
 have c1 := HSL.out.cell 1 _ (lat_get l 1 (by omega))
 have c9 := HSL.out.cell (l.length - 1) _ (lat_get l (l.length - 1) (by omega))
 have HCD := Lib.hid (rN2_def l)
 generalize rN2 l = r2 at *
 have hrr := HP3.out
 subst hrr
 generalize lat l 0 = t0 at *
 generalize lat l 1 = t1 at *
 generalize lat l (l.length - 1) = t9 at *
 generalize beh t0 99 61 = q0 at *
 generalize beh t1 114 61 = q1 at *
 generalize beh t9 112 61 = q9 at *
 obtain ⟨n0, b0⟩ := q0
 obtain ⟨n1, b1⟩ := q1
 obtain ⟨n9, b9⟩ := q9
 simp only at HB0 HB1 HB9 hl0 hl1 hl9 HBY HBP HNO HCD
 have hdl := decF_len n0
 have hdl9 := decF_len n9
 generalize byB n0 0 4096 = by0 at *
 generalize byB n9 32 32 = by9 at *
 generalize nonF n1 = nb at *
 generalize decF n0 = dd at *
 generalize decF n9 = dd9 at *
 obtain ⟨hs, hc⟩ := dd
 obtain ⟨ps, pc⟩ := dd9
 simp only at HBY HBP HCD hdl hdl9
 have HHD := Lib.hid (fun W => rHead_any hs (by omega) W)
 generalize rHdF hs = hh at *
 obtain ⟨ok0, no⟩ := hh
 simp only at HHD HCD
 generalize extsV (midL l) = ex at *
 obtain ⟨xs, xb, xm⟩ := ex
 simp only at HEX HCD
 clear HP3 HS
 have hs1z : w.heap.size + 1 ≤ W1.heap.size := (Array.getElem?_eq_some_iff.1 HR1.out).1
 have hs3 := HSL.out.midm (i := 2) (j := l.length - 1) (by omega) (by rw [List.length_map]; omega)
 rw [← List.map_take, ← List.map_drop] at hs3
 have hrs := fun W => run_midm (P := Tryz.prog) Tryz.underlying88 Tryz.sizeOf9 (ao := a1) (n := l.length) (cap := k1) hk1 hm1 W 2 (l.length - 1) (by omega) (by omega)
 obtain ⟨ra, rk, hrv, hrk, -⟩ := sl_shape hs3
 rw [hrv] at hs3 hrs
 simp only [Int.cast_ofNat_Int] at hrs
 have hml : ((midL l).map Str).length = l.length - 1 - 2 := by unfold midL; rw [List.length_map, List.length_drop, List.length_take]; omega
 have HS3 := Lib.hid (show Sl W1 (.slice ra ((midL l).map Str).length rk) ((midL l).map Str) from hs3)
 have hrs' : ∀ W, (Instr.slice 88 (.slice a1 l.length k1) (some (.int .i64 2)) (some (.int .i64 ((l.length - 1 : Nat) : Int))) none).run Tryz.prog W = .ok (.slice ra ((midL l).map Str).length rk) W := hrs
 rw [hml] at hrs' HS3
 clear hs3 hrv hrs hml
 generalize l.length - 1 - 2 = nm at *
 go_wp2_with fail
 refine (HB0.out _).mono ?_
 rintro e V ⟨rfl, hw⟩
 subst V
 go_wp2_with fail
 refine (HB1.out _).mono ?_
 rintro e V ⟨rfl, hw⟩
 subst V
 go_wp2_with fail
 refine (HB9.out _).mono ?_
 rintro e V ⟨rfl, hw⟩
 subst V
 go_wp2_with fail
 refine (HBY.out _).mono ?_
 rintro e W2 ⟨hv, rfl, hown, hx⟩
 obtain ⟨ha, hk, rfl, hhk, hhm, hhn⟩ := sl_shape (sl_of_own hown)
 rw [List.length_map] at hown hhk ⊢
 have HHB := Lib.hid (show SlB W2 (.slice ha hs.length hk) hs from sl_of_own hown)
 have HX2 := Lib.hid (ext_trans HX1.out hx)
 have HXS2 := Lib.hid hx
 have HR2 := Lib.hid (ext_at hx HR1.out)
 have hs2z : w.heap.size + 1 ≤ W2.heap.size := Nat.le_trans hs1z hx.size
 clear hown hx HX1 HR1 c0 c1 c9
 go_wp2_with fail
 refine (HBP.out _).mono ?_
 rintro e W3 ⟨pv, rfl, hown, hx⟩
 obtain ⟨pa, pk, rfl, hpk, -⟩ := sl_shape (sl_of_own hown)
 rw [List.length_map] at hown hpk ⊢
 have HPB := Lib.hid (show SlB W3 (.slice pa ps.length pk) ps from sl_of_own hown)
 have HPS := Lib.hid (own_sblk hown hs2z (ps.map Byt).length)
 have HHB3 := Lib.hid (HHB.out.ext hx)
 have HX3 := Lib.hid (ext_trans HX2.out hx)
 have HS33 := Lib.hid ((HS3.out.ext HXS2.out).ext hx)
 have HR3 := Lib.hid (ext_at hx HR2.out)
 have hs3z : w.heap.size + 1 ≤ W3.heap.size := Nat.le_trans hs2z hx.size
 clear hown hx HX2 HR2 HXS2 HS3 HHB
 go_wp2_with fail
 refine (HEX.out _ _ HS33.out).mono ?_
 rintro e W4 ⟨ev, rfl, hrow, hx⟩
 obtain ⟨ea, ek, rfl, hek⟩ := ownz_shape hrow
 have HMR := Lib.hid (show MsR (w.heap.size + 1) W4 (.slice ea xs.length ek) (.slice none 0 0) (.slice pa ps.length pk) ⟨3, [], [], [], n1, xs, [], 0, hs, ps, []⟩ from
  ⟨rowC_of_own prC_len hrow, sl_nil _, HPB.out.ext hx, own_rblk hrow hs3z, nil_sblk, HPS.out⟩)
 have HX4 := Lib.hid (ext_trans HX3.out hx)
 have HR4 := Lib.hid (ext_at hx HR3.out)
 have HHB4 := Lib.hid (HHB3.out.ext hx)
 clear hrow hx HX3 HR3 HS33 HHB3 hrs'
 have hcv := run_str (P := Tryz.prog) Tryz.underlying25 Tryz.underlying5 Tryz.underlying9 HHB4.out
 go_wp2_with fail
 refine (HHD.out _).mono ?_
 rintro e W5 ⟨rfl, hx⟩
 obtain ⟨ao9, cap9, hv9, hcap9, hmax9, hcl9⟩ := rowP_shape (HMR.out.ext.ext hx)
 simp only [Value.slice.injEq] at hv9
 obtain ⟨rfl, -, rfl⟩ := hv9
 have HCL := Lib.hid hcl9
 have HIX := Lib.hid (fun g o j h W => index_pair g o xs.length ek j h W)
 have HM5 := Lib.hid (HMR.out.grow hx)
 have HX5 := Lib.hid (ext_trans HX4.out hx)
 have HR5 := Lib.hid (ext_at hx HR4.out)
 have HHB5 := Lib.hid (HHB4.out.ext hx)
 clear hx HX4 HR4 HHB4 hcv hcl9 hcap9 HMR
 unfold maxLen at hmax9
 go_wp2_with fail
 go_loopg [18, 88] xs.length (fun gh s18 s88 wx => ∃ k : Nat, k ≤ xs.length ∧ s88 = .int .i64 (k : Int) ∧ gh = xs.length - k ∧ s18 = .bool (ok0 && (xs.take k).all (fun p => p.n != [112])) ∧ Hid (Ext W5 wx))
 case atStart => exact ⟨0, by omega, rfl, by omega, by simp, Lib.hid (ext_refl _)⟩
 case round =>
  obtain ⟨k, hk, rfl, rfl, rfl, HXR⟩ := hrel
  by_cases h3 : k < xs.length
  ·rcases HCL.out with h | ⟨g, o, rfl, hcc⟩
   ·subst h; simp at h3
   obtain ⟨a0, a1⟩ := hcc k h3
   replace a0 := ext_cell HXR.out a0; replace a1 := ext_cell HXR.out a1
   have i1 := HIX.out g o k h3
   have HTS := Lib.hid (show (xs.take (k + 1)).all (fun p => p.n != [112]) = ((xs.take k).all (fun p => p.n != [112]) && ((xs.getD k prD).n != [112])) by rw [List.take_succ_eq_append_getElem h3, List.all_append, show xs.getD k prD = xs[k] by simp [List.getD, h3]]; simp)
   clear hcc
   generalize xs.getD k prD = p at *
   generalize o + 2 * k = q at *
   obtain ⟨pn, pv⟩ := p
   simp only at a0 a1 HTS
   have HT2 := Lib.hid (show (ok0 && (xs.take (k + 1)).all (fun p => p.n != [112])) = ((ok0 && (xs.take k).all (fun p => p.n != [112])) && (pn != [112])) by rw [HTS.out, Bool.and_assoc])
   generalize (ok0 && (xs.take k).all (fun p => p.n != [112])) = bk at *
   obtain ⟨W6, hW6⟩ : ∃ W6, wr.alloc (.cells #[Str pn, Str pv] 64) = W6 := ⟨_, rfl⟩
   have hx6 : Ext wr W6 := by rw [← hW6]; exact Below.alloc (Below.refl _ _) (Nat.le_refl _) _
   have n1 : W6.heap[wr.heap.size]? = some (.cells #[Str pn, Str pv] 64 (0, 0)) := by rw [← hW6]; exact Array.getElem?_push_size
   obtain ⟨k0, k1⟩ := cells2 n1
   have HX6 := Lib.hid (ext_trans HXR.out hx6)
   clear hx6 n1 HTS
   cases bk with
   | false =>
     go_wp2_with fail
     try rw [hW6]
     clear hW6
     go_roundg (xs.length - (k + 1))
     case measure => omega
     case rel => exact ⟨k + 1, by omega, by go_num, rfl, by rw [HT2.out]; rfl, HX6⟩
   | true =>
     go_wp2_with fail
     try rw [hW6]
     clear hW6
     all_goals (go_roundg (xs.length - (k + 1)); exact ⟨k + 1, by omega, by go_num, rfl, by rw [HT2.out]; rfl, HX6⟩; omega)
  ·have hkl : k = xs.length := by omega
   subst hkl
   rw [List.take_length]
   obtain ⟨ok, hok⟩ : ∃ ok, (ok0 && xs.all (fun p => p.n != [112])) = ok := ⟨_, rfl⟩
   rw [hok] at HCD ⊢
   have HX6 := Lib.hid (ext_trans HX5.out HXR.out)
   have HR6 := Lib.hid (ext_at HXR.out HR5.out)
   have HM6 := Lib.hid (HM5.out.grow HXR.out)
   have HHB6 := Lib.hid (HHB5.out.ext HXR.out)
   have hcv := run_str (P := Tryz.prog) Tryz.underlying25 Tryz.underlying5 Tryz.underlying9 HHB6.out
   clear hok HX5 HR5 HM5 HHB5 HXR HCL HIX h3
   obtain ⟨okk, hok⟩ : ∃ okk, (b0 && (b1 && (b9 && (by0 && (by9 && (xb && (ok && nb))))))) = okk := ⟨_, rfl⟩
   rw [hok] at HCD
   have HOK := Lib.hid hok
   clear hok
   go_upto_region 18 with fail
   go_cut [129] from 99 (fun s129 wx => wx = wr ∧ s129 = .bool (!okk))
   case first =>
    cases b0
    ·have ho : okk = false := by rw [← HOK.out]; rfl
     subst ho
     clear HOK
     go_wp2
     go_meet
     exact ⟨rfl, rfl⟩
    cases b1
    ·have ho : okk = false := by rw [← HOK.out]; rfl
     subst ho
     clear HOK
     go_wp2
     go_meet
     exact ⟨rfl, rfl⟩
    cases b9
    ·have ho : okk = false := by rw [← HOK.out]; rfl
     subst ho
     clear HOK
     go_wp2
     go_meet
     exact ⟨rfl, rfl⟩
    cases by0
    ·have ho : okk = false := by rw [← HOK.out]; rfl
     subst ho
     clear HOK
     go_wp2
     go_meet
     exact ⟨rfl, rfl⟩
    cases by9
    ·have ho : okk = false := by rw [← HOK.out]; rfl
     subst ho
     clear HOK
     go_wp2
     go_meet
     exact ⟨rfl, rfl⟩
    cases xb
    ·have ho : okk = false := by rw [← HOK.out]; rfl
     subst ho
     clear HOK
     go_wp2
     go_meet
     exact ⟨rfl, rfl⟩
    cases ok
    ·have ho : okk = false := by rw [← HOK.out]; rfl
     subst ho
     clear HOK
     go_wp2
     go_meet
     exact ⟨rfl, rfl⟩
    have ho : okk = nb := by rw [← HOK.out]; simp
    subst ho
    clear HOK
    go_wp2_with fail
    refine (HNO.out _).mono ?_
    rintro e V ⟨rfl, hw⟩
    subst V
    cases okk <;> (go_wp2; go_meet; exact ⟨rfl, rfl⟩)
   case rest =>
    obtain ⟨hwc, rfl⟩ := hcut
    subst wc
    cases okk with
    | false =>
      have hr := HCD.out
      rw [if_pos rfl] at hr
      subst hr
      clear HCD
      go_wp2_with fail
      refine (none_any 4 _).mono ?_
      rintro e W9 ⟨rfl, hx9⟩
      have HX9 := Lib.hid (ext_trans HX6.out hx9)
      have HR9 := Lib.hid (ext_at hx9 HR6.out)
      clear hx9
      obtain ⟨c0, c1, c2, c3, c4, c5, c6, c7, c8, c9, c10⟩ := cells11 HR9.out
      obtain ⟨f0, f1, f2, f3, f4, f5, f6, f7, f8, f9, f10⟩ := frozen11 HR9.out
      go_wp2_with fail
      obtain ⟨Z, hZ, hr, hb⟩ := set11 HR9.out (.int .i64 0) (Str []) (Str []) (Str []) (Str []) (.slice none 0 0) (.slice none 0 0) (.int .i64 0) (Str []) (.slice none 0 0) (Str [])
      rw [hZ]
      refine bodyPost_ret (v := .tuple #[.agg zerM, .int .i64 4]) ?_ rfl ⟨⟨_, rfl, msIs0 _ _⟩, hb.ext HX9.out⟩
      obtain ⟨d0, d1, d2, d3, d4, d5, d6, d7, d8, d9, d10⟩ := cells11 hr
      clear c0 c1 c2 c3 c4 c5 c6 c7 c8 c9 c10 f0 f1 f2 f3 f4 f5 f6 f7 f8 f9 f10 hr hb hZ
      simp [results, loadVar, loadCells, Tryz.isAgg27, Tryz.sizeOf27, Tryz.results22, go_sem, d0, d1, d2, d3, d4, d5, d6, d7, d8, d9, d10]
    | true =>
      have hr := HCD.out
      rw [if_neg (by simp)] at hr
      clear HCD HOK
      obtain ⟨dn, hdn⟩ : ∃ dn, (no || xm) = dn := ⟨_, rfl⟩
      rw [hdn] at hr
      have HD := Lib.hid hr
      have HDN := Lib.hid hdn
      clear hr hdn
      have HDD := Lib.hid (fun W => done_any ⟨3, [], [], [], n1, xs, [], 0, hs, ps, []⟩ ea none pa xs.length 0 ps.length ek 0 pk dn W)
      cases no with
      | true =>
        have hd : dn = true := by rw [← HDN.out]; rfl
        clear HDN
        subst hd
        go_wp2_with fail
        refine (HDD.out _).mono ?_
        rintro e W9 ⟨rfl, hx9⟩
        have HX9 := Lib.hid (ext_trans HX6.out hx9)
        have HR9 := Lib.hid (ext_at hx9 HR6.out)
        have HM9 := Lib.hid (MsR.grow HM6.out hx9)
        clear hx9
        obtain ⟨c0, c1, c2, c3, c4, c5, c6, c7, c8, c9, c10⟩ := cells11 HR9.out
        obtain ⟨f0, f1, f2, f3, f4, f5, f6, f7, f8, f9, f10⟩ := frozen11 HR9.out
        have hs9 := (Array.getElem?_eq_some_iff.1 HR9.out).1
        have hd9 := HD.out
        first | rw [if_pos rfl] at hd9 | rw [if_pos trivial] at hd9
        subst hd9
        go_wp2_with fail
        obtain ⟨Z, hZ, hr, hb⟩ := set11 HR9.out (.int .i64 0) (Str []) (Str []) (Str []) (Str []) (.slice none 0 0) (.slice none 0 0) (.int .i64 0) (Str []) (.slice none 0 0) (Str [])
        rw [hZ]
        refine bodyPost_ret (v := .tuple #[.agg zerM, .int .i64 12]) ?_ rfl ⟨⟨_, rfl, msIs0 _ _⟩, hb.ext HX9.out⟩
        obtain ⟨d0, d1, d2, d3, d4, d5, d6, d7, d8, d9, d10⟩ := cells11 hr
        clear c0 c1 c2 c3 c4 c5 c6 c7 c8 c9 c10 f0 f1 f2 f3 f4 f5 f6 f7 f8 f9 f10 hr hb hZ
        simp [results, loadVar, loadCells, Tryz.isAgg27, Tryz.sizeOf27, Tryz.results22, go_sem, d0, d1, d2, d3, d4, d5, d6, d7, d8, d9, d10]
      | false =>
        have hd : dn = xm := by rw [← HDN.out]; rfl
        clear HDN
        subst hd
        go_wp2_with fail
        refine (HDD.out _).mono ?_
        rintro e W9 ⟨rfl, hx9⟩
        have HX9 := Lib.hid (ext_trans HX6.out hx9)
        have HR9 := Lib.hid (ext_at hx9 HR6.out)
        have HM9 := Lib.hid (MsR.grow HM6.out hx9)
        clear hx9
        obtain ⟨c0, c1, c2, c3, c4, c5, c6, c7, c8, c9, c10⟩ := cells11 HR9.out
        obtain ⟨f0, f1, f2, f3, f4, f5, f6, f7, f8, f9, f10⟩ := frozen11 HR9.out
        have hs9 := (Array.getElem?_eq_some_iff.1 HR9.out).1
        cases dn with
        | true =>
          have hd9 := HD.out
          rw [if_pos rfl] at hd9
          subst hd9
          go_wp2_with fail
          obtain ⟨Z, hZ, hr, hb⟩ := set11 HR9.out (.int .i64 0) (Str []) (Str []) (Str []) (Str []) (.slice none 0 0) (.slice none 0 0) (.int .i64 0) (Str []) (.slice none 0 0) (Str [])
          rw [hZ]
          refine bodyPost_ret (v := .tuple #[.agg zerM, .int .i64 12]) ?_ rfl ⟨⟨_, rfl, msIs0 _ _⟩, hb.ext HX9.out⟩
          obtain ⟨d0, d1, d2, d3, d4, d5, d6, d7, d8, d9, d10⟩ := cells11 hr
          clear c0 c1 c2 c3 c4 c5 c6 c7 c8 c9 c10 f0 f1 f2 f3 f4 f5 f6 f7 f8 f9 f10 hr hb hZ
          simp [results, loadVar, loadCells, Tryz.isAgg27, Tryz.sizeOf27, Tryz.results22, go_sem, d0, d1, d2, d3, d4, d5, d6, d7, d8, d9, d10]
        | false =>
          have hd9 := HD.out
          rw [if_neg (by simp)] at hd9
          subst hd9
          go_wp2_with fail
          obtain ⟨Z, hZ, hr, hb⟩ := set11 HR9.out (.int .i64 3) (Str []) (Str []) (Str []) (Str n1) (.slice ea xs.length ek) (.slice none 0 0) (.int .i64 0) (Str hs) (.slice pa ps.length pk) (Str [])
          try rw [hZ]
          refine bodyPost_ret (v := .tuple #[.agg (msA ⟨3, [], [], [], n1, xs, [], 0, hs, ps, []⟩ (.slice ea xs.length ek) (.slice none 0 0) (.slice pa ps.length pk)), .int .i64 0]) ?_ rfl ⟨⟨_, rfl, _, _, _, rfl, (HM9.out.bz hb (Nat.lt_succ_self _)).mono (Nat.le_succ _)⟩, hb.ext HX9.out⟩
          obtain ⟨d0, d1, d2, d3, d4, d5, d6, d7, d8, d9, d10⟩ := cells11 hr
          clear c0 c1 c2 c3 c4 c5 c6 c7 c8 c9 c10 f0 f1 f2 f3 f4 f5 f6 f7 f8 f9 f10 hr hb hZ
          simp [results, loadVar, loadCells, Tryz.isAgg27, Tryz.sizeOf27, Tryz.results22, go_sem, d0, d1, d2, d3, d4, d5, d6, d7, d8, d9, d10]
end Go.Proofs.YtjkbigecejogdaaGreatDoor
