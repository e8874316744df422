/-
 ref07.Verdict at every text.
-/
import Derived.BigGuardPart
import Derived.OwnWalk
import Derived.BigQuiet
import Derived.RegionTactic
import Derived.Deep.CutBlock
import Derived.Deep.DeepCutAuto
import Derived.Deep.DrawnRows
import Derived.Test.YtjkbigecejogdaaGreatDoorRows
import Derived.Test.YtjkbigecejogdaaGreatDoorRpl
import Derived.Test.YtjkbigecejogdaaGreatDoorScb
import Derived.Test.YtjkbigecejogdaaGreatDoorRch
namespace Go.Proofs.YtjkbigecejogdaaGreatDoor
open Go.RowKit
set_option maxRecDepth 100000
attribute [local go_sem] Oper.semAt_some
set_option linter.unusedVariables false
set_option linter.unusedSimpArgs false
set_option maxHeartbeats 8000000 in
theorem rVerd_any (s : List UInt8) (hl : s.length ≤ 20000) (w : World) : RdP 23 s (rVerd s) w := by
 obtain ⟨W0, hW0⟩ : ∃ W0, w.alloc (.cells zerM 27) = W0 := ⟨_, rfl⟩
 have x0 : Ext w W0 := by rw [← hW0]; exact Below.alloc (Below.refl _ _) (Nat.le_refl _) _
 have r0 : W0.heap[w.heap.size]? = some (.cells zerM 27 (0, 0)) := by rw [← hW0]; exact Array.getElem?_push_size
 have HX := Lib.hid x0; have HR := Lib.hid r0
 clear x0 r0
 have HP := Lib.hid (show rVerd s = if 4096 < s.length then (Ms0, 3) else rV2 (spl s) from rfl)
 unfold RdP
 generalize rVerd s = r at *
 by_cases h4 : 4096 < s.length
 ·have hr := HP.out
  rw [if_pos h4] at hr
  subst hr
  have g1 : (4096 : Int) < (s.length : Int) := by omega
  clear h4 HP
  go_enter Tryz.func23, Tryz.ntmps23
  go_wp2_with fail
  try rw [hW0]
  refine (none_any 3 _).mono ?_
  rintro e W9 ⟨rfl, hx9⟩
  have HX9 := Lib.hid (ext_trans HX.out hx9)
  have HR9 := Lib.hid (ext_at hx9 HR.out)
  clear hx9
  obtain ⟨c0, c1, c2, c3, c4, c5, c6, c7, c8, c9, c10⟩ := cells11 HR9.out
  obtain ⟨f0, f1, f2, f3, f4, f5, f6, f7, f8, f9, f10⟩ := frozen11 HR9.out
  go_wp2_with fail
  obtain ⟨Z, hZ, hr, hb⟩ := set11 HR9.out (.int .i64 0) (Str []) (Str []) (Str []) (Str []) (.slice none 0 0) (.slice none 0 0) (.int .i64 0) (Str []) (.slice none 0 0) (Str [])
  rw [hZ]
  refine bodyPost_ret (v := .tuple #[.agg zerM, .int .i64 3]) ?_ rfl ⟨⟨_, rfl, msIs0 _ _⟩, hb.ext HX9.out⟩
  obtain ⟨d0, d1, d2, d3, d4, d5, d6, d7, d8, d9, d10⟩ := cells11 hr
  clear c0 c1 c2 c3 c4 c5 c6 c7 c8 c9 c10 f0 f1 f2 f3 f4 f5 f6 f7 f8 f9 f10 hr hb hZ
  simp [results, loadVar, loadCells, Tryz.isAgg27, Tryz.sizeOf27, Tryz.results23, go_sem, d0, d1, d2, d3, d4, d5, d6, d7, d8, d9, d10]
 have g1 : ¬ (4096 : Int) < (s.length : Int) := by omega
 have hp := HP.out
 rw [if_neg h4] at hp
 have HP2 := Lib.hid hp
 have HS := Lib.hid (fun W => Split_any s (by omega) W)
 have HPL := Lib.hid (fun p (h : p ∈ spl s) => (show p.length ≤ 4096 by have := spl_mem_len s p h; omega))
 have hsl := spl_len s
 clear hp HP
 have HLP := Lib.hid (show 0 < (spl s).length from List.length_pos_iff.2 (spl_ne s))
 generalize spl s = l at *
 go_enter Tryz.func23, Tryz.ntmps23
 go_wp2_with fail
 try rw [hW0]
 clear hW0
 refine (HS.out _).mono ?_
 rintro e W1 ⟨v, rfl, hown, hx⟩
 have hslv := sl_of_own hown
 obtain ⟨a1, k1, rfl, hk1, hm1, hn1⟩ := sl_shape hslv
 rw [List.length_map] at hk1 hslv ⊢
 have i1 := run_index_adr (P := Tryz.prog) Tryz.underlying88 Tryz.sizeOf9 hn1 hk1
 have HI1 := Lib.hid i1
 have HSL := Lib.hid hslv
 have HX1 := Lib.hid (ext_trans HX.out hx)
 have HR1 := Lib.hid (ext_at hx HR.out)
 clear hown hx HX HR i1 hslv
 have hlp := HLP.out
 have HP3 := HP2
 clear HP2 h4
 have j0 := fun W => HI1.out W 0 (by omega)
 simp only [Int.cast_ofNat_Int] at j0
 have hb0 := HPL.out _ (lat_mem l 0 (by omega))
 have HBE := Lib.hid (fun W => behind_any (lat l 0) 101 61 W)
 have HBV := Lib.hid (fun W => behind_any (lat l 0) 118 61 W)
 have hle := beh_len (lat l 0) 101 61
 have hlv := beh_len (lat l 0) 118 61
 have HBY := Lib.hid (fun W => rbytes_any (beh (lat l 0) 118 61).1 (by omega) 32 32 (by omega) (by omega) W)
 have HVA := Lib.hid (fun W => rValue_any (beh (lat l 0) 101 61).1 (by omega) W)
 have HEX := Lib.hid (fun W v (h : Sl W v ((l.drop 1).map Str)) => exts_any v (l.drop 1) (by rw [List.length_drop]; omega) (fun p hp => by have := HPL.out p (List.mem_of_mem_drop hp); omega) W h)
 have HC0 := Lib.hid (fun W (h : Ext W1 W) => ext_cell h (HSL.out.cell 0 _ (lat_get l 0 (by omega))))
 have HCD := Lib.hid (rV2_def l)
 generalize rV2 l = r2 at *
 have hrr := HP3.out
 subst hrr
 generalize lat l 0 = t0 at *
 generalize beh t0 101 61 = q0 at *
 generalize beh t0 118 61 = q1 at *
 obtain ⟨n0, b0⟩ := q0
 obtain ⟨n1, b1⟩ := q1
 simp only at HBE HBV hle hlv HBY HVA HCD
 have hdl := decF_len n1
 generalize byB n1 32 32 = by1 at *
 generalize valB n0 = vb at *
 generalize decF n1 = dd at *
 obtain ⟨ds, dc⟩ := dd
 simp only at HBY HCD hdl
 generalize extsV (l.drop 1) = ex at *
 obtain ⟨xs, xb, xm⟩ := ex
 simp only at HEX HCD
 clear HP3 HS
 have hs3 := HSL.out.resl (k := 1) (by rw [List.length_map]; omega)
 rw [← List.map_drop] at hs3
 have hrs := fun W => run_resl (P := Tryz.prog) Tryz.underlying88 Tryz.sizeOf9 (ao := a1) (n := l.length) (cap := k1) W 1 (by omega)
 obtain ⟨ra, rk, hrv, hrk, -⟩ := sl_shape hs3
 rw [hrv] at hs3 hrs
 simp only [Int.cast_ofNat_Int] at hrs
 have HS3 := Lib.hid hs3
 clear hs3 hrv
 rw [List.length_map, List.length_drop] at hrs HS3
 have hs1z : w.heap.size + 1 ≤ W1.heap.size := (Array.getElem?_eq_some_iff.1 HR1.out).1
 go_wp2_with fail
 refine (HEX.out _ _ HS3.out).mono ?_
 rintro e W3 ⟨ev, rfl, hrow, hx⟩
 obtain ⟨ea, ek, rfl, hek⟩ := ownz_shape hrow
 have HRW := Lib.hid (rowC_of_own prC_len hrow)
 have HBR := Lib.hid (own_rblk hrow (show w.heap.size + 1 ≤ W1.heap.size from hs1z))
 have c0 := HC0.out W3 hx
 have HX3 := Lib.hid (ext_trans HX1.out hx)
 have HR3 := Lib.hid (ext_at hx HR1.out)
 have hsz3 : w.heap.size + 1 ≤ W3.heap.size := Nat.le_trans hs1z hx.size
 clear hrow hx HX1 HR1 HS3 hrs HC0
 cases xb with
 | false =>
   have hr := HCD.out
   rw [if_pos rfl] at hr
   subst hr
   clear HCD
   go_wp2_with fail
   refine (none_any 4 _).mono ?_
   rintro e W9 ⟨rfl, hx9⟩
   have HX9 := Lib.hid (ext_trans HX3.out hx9)
   have HR9 := Lib.hid (ext_at hx9 HR3.out)
   clear hx9
   obtain ⟨c0, c1, c2, c3, c4, c5, c6, c7, c8, c9, c10⟩ := cells11 HR9.out
   obtain ⟨f0, f1, f2, f3, f4, f5, f6, f7, f8, f9, f10⟩ := frozen11 HR9.out
   go_wp2_with fail
   obtain ⟨Z, hZ, hr, hb⟩ := set11 HR9.out (.int .i64 0) (Str []) (Str []) (Str []) (Str []) (.slice none 0 0) (.slice none 0 0) (.int .i64 0) (Str []) (.slice none 0 0) (Str [])
   rw [hZ]
   refine bodyPost_ret (v := .tuple #[.agg zerM, .int .i64 4]) ?_ rfl ⟨⟨_, rfl, msIs0 _ _⟩, hb.ext HX9.out⟩
   obtain ⟨d0, d1, d2, d3, d4, d5, d6, d7, d8, d9, d10⟩ := cells11 hr
   clear c0 c1 c2 c3 c4 c5 c6 c7 c8 c9 c10 f0 f1 f2 f3 f4 f5 f6 f7 f8 f9 f10 hr hb hZ
   simp [results, loadVar, loadCells, Tryz.isAgg27, Tryz.sizeOf27, Tryz.results23, go_sem, d0, d1, d2, d3, d4, d5, d6, d7, d8, d9, d10]
 | true =>
   have hr := HCD.out
   rw [if_neg (by simp)] at hr
   have HC2 := Lib.hid hr
   clear hr HCD
   go_wp2_with fail
   refine (HBE.out _).mono ?_
   rintro e V ⟨rfl, hw⟩
   subst V
   cases b0 with
   | true =>
     have hr := HC2.out
     rw [if_pos rfl] at hr
     have HC3 := Lib.hid hr
     clear hr HC2
     go_wp2_with fail
     refine (HVA.out _).mono ?_
     rintro e W4 ⟨rfl, hx⟩
     have HMR := Lib.hid (show MsR (w.heap.size + 1) W4 (.slice ea xs.length ek) (.slice none 0 0) (.slice none 0 0) ⟨4, [], [], [], [], xs, [], 0, [], [], n0⟩ from
      ⟨HRW.out.ext hx, sl_nil _, sl_nil _, HBR.out, nil_sblk, nil_sblk⟩)
     have HX4 := Lib.hid (ext_trans HX3.out hx)
     have HR4 := Lib.hid (ext_at hx HR3.out)
     clear hx HX3 HR3 c0
     cases vb with
     | false =>
       have hr := HC3.out
       rw [if_pos rfl] at hr
       subst hr
       clear HC3
       go_wp2_with fail
       refine (none_any 4 _).mono ?_
       rintro e W9 ⟨rfl, hx9⟩
       have HX9 := Lib.hid (ext_trans HX4.out hx9)
       have HR9 := Lib.hid (ext_at hx9 HR4.out)
       clear hx9
       obtain ⟨c0, c1, c2, c3, c4, c5, c6, c7, c8, c9, c10⟩ := cells11 HR9.out
       obtain ⟨f0, f1, f2, f3, f4, f5, f6, f7, f8, f9, f10⟩ := frozen11 HR9.out
       go_wp2_with fail
       obtain ⟨Z, hZ, hr, hb⟩ := set11 HR9.out (.int .i64 0) (Str []) (Str []) (Str []) (Str []) (.slice none 0 0) (.slice none 0 0) (.int .i64 0) (Str []) (.slice none 0 0) (Str [])
       rw [hZ]
       refine bodyPost_ret (v := .tuple #[.agg zerM, .int .i64 4]) ?_ rfl ⟨⟨_, rfl, msIs0 _ _⟩, hb.ext HX9.out⟩
       obtain ⟨d0, d1, d2, d3, d4, d5, d6, d7, d8, d9, d10⟩ := cells11 hr
       clear c0 c1 c2 c3 c4 c5 c6 c7 c8 c9 c10 f0 f1 f2 f3 f4 f5 f6 f7 f8 f9 f10 hr hb hZ
       simp [results, loadVar, loadCells, Tryz.isAgg27, Tryz.sizeOf27, Tryz.results23, go_sem, d0, d1, d2, d3, d4, d5, d6, d7, d8, d9, d10]
     | true =>
       have hr := HC3.out
       rw [if_neg (by simp)] at hr
       have HD := Lib.hid hr
       clear hr HC3
       go_wp2_with fail
       refine (done_any ⟨4, [], [], [], [], xs, [], 0, [], [], n0⟩ ea none none xs.length 0 0 ek 0 0 xm _).mono ?_
       rintro e W9 ⟨rfl, hx9⟩
       have HX9 := Lib.hid (ext_trans HX4.out hx9)
       have HR9 := Lib.hid (ext_at hx9 HR4.out)
       have HM9 := Lib.hid (MsR.grow HMR.out hx9)
       clear hx9
       obtain ⟨c0, c1, c2, c3, c4, c5, c6, c7, c8, c9, c10⟩ := cells11 HR9.out
       obtain ⟨f0, f1, f2, f3, f4, f5, f6, f7, f8, f9, f10⟩ := frozen11 HR9.out
       have hs9 := (Array.getElem?_eq_some_iff.1 HR9.out).1
       cases xm with
       | true =>
         have hd9 := HD.out
         rw [if_pos rfl] at hd9
         subst hd9
         go_wp2_with fail
         obtain ⟨Z, hZ, hr, hb⟩ := set11 HR9.out (.int .i64 0) (Str []) (Str []) (Str []) (Str []) (.slice none 0 0) (.slice none 0 0) (.int .i64 0) (Str []) (.slice none 0 0) (Str [])
         rw [hZ]
         refine bodyPost_ret (v := .tuple #[.agg zerM, .int .i64 12]) ?_ rfl ⟨⟨_, rfl, msIs0 _ _⟩, hb.ext HX9.out⟩
         obtain ⟨d0, d1, d2, d3, d4, d5, d6, d7, d8, d9, d10⟩ := cells11 hr
         clear c0 c1 c2 c3 c4 c5 c6 c7 c8 c9 c10 f0 f1 f2 f3 f4 f5 f6 f7 f8 f9 f10 hr hb hZ
         simp [results, loadVar, loadCells, Tryz.isAgg27, Tryz.sizeOf27, Tryz.results23, go_sem, d0, d1, d2, d3, d4, d5, d6, d7, d8, d9, d10]
       | false =>
         have hd9 := HD.out
         rw [if_neg (by simp)] at hd9
         subst hd9
         go_wp2_with fail
         obtain ⟨Z, hZ, hr, hb⟩ := set11 HR9.out (.int .i64 4) (Str []) (Str []) (Str []) (Str []) (.slice ea xs.length ek) (.slice none 0 0) (.int .i64 0) (Str []) (.slice none 0 0) (Str n0)
         try rw [hZ]
         refine bodyPost_ret (v := .tuple #[.agg (msA ⟨4, [], [], [], [], xs, [], 0, [], [], n0⟩ (.slice ea xs.length ek) (.slice none 0 0) (.slice none 0 0)), .int .i64 0]) ?_ rfl ⟨⟨_, rfl, _, _, _, rfl, (HM9.out.bz hb (Nat.lt_succ_self _)).mono (Nat.le_succ _)⟩, hb.ext HX9.out⟩
         obtain ⟨d0, d1, d2, d3, d4, d5, d6, d7, d8, d9, d10⟩ := cells11 hr
         clear c0 c1 c2 c3 c4 c5 c6 c7 c8 c9 c10 f0 f1 f2 f3 f4 f5 f6 f7 f8 f9 f10 hr hb hZ
         simp [results, loadVar, loadCells, Tryz.isAgg27, Tryz.sizeOf27, Tryz.results23, go_sem, d0, d1, d2, d3, d4, d5, d6, d7, d8, d9, d10]
   | false =>
     have hr := HC2.out
     rw [if_neg (by simp)] at hr
     have HC3 := Lib.hid hr
     clear hr HC2
     go_wp2_with fail
     refine (HBV.out _).mono ?_
     rintro e V ⟨rfl, hw⟩
     subst V
     go_wp2_with fail
     refine (HBY.out _).mono ?_
     rintro e W4 ⟨sv, rfl, hown, hx⟩
     obtain ⟨sa, sk, rfl, hsk, -⟩ := sl_shape (sl_of_own hown)
     rw [List.length_map] at hown hsk ⊢
     have HMR := Lib.hid (show MsR (w.heap.size + 1) W4 (.slice ea xs.length ek) (.slice none 0 0) (.slice sa ds.length sk) ⟨4, [], [], [], [], xs, [], 0, [], ds, []⟩ from
      ⟨HRW.out.ext hx, sl_nil _, sl_of_own hown, HBR.out, nil_sblk, own_sblk hown hsz3 _⟩)
     have HX4 := Lib.hid (ext_trans HX3.out hx)
     have HR4 := Lib.hid (ext_at hx HR3.out)
     clear hx hown HX3 HR3 c0
     cases b1 with
     | false =>
       have hr := HC3.out
       rw [if_pos (show (false && by1) = false from rfl)] at hr
       subst hr
       clear HC3
       go_wp2_with fail
       refine (none_any 4 _).mono ?_
       rintro e W9 ⟨rfl, hx9⟩
       have HX9 := Lib.hid (ext_trans HX4.out hx9)
       have HR9 := Lib.hid (ext_at hx9 HR4.out)
       clear hx9
       obtain ⟨c0, c1, c2, c3, c4, c5, c6, c7, c8, c9, c10⟩ := cells11 HR9.out
       obtain ⟨f0, f1, f2, f3, f4, f5, f6, f7, f8, f9, f10⟩ := frozen11 HR9.out
       go_wp2_with fail
       obtain ⟨Z, hZ, hr, hb⟩ := set11 HR9.out (.int .i64 0) (Str []) (Str []) (Str []) (Str []) (.slice none 0 0) (.slice none 0 0) (.int .i64 0) (Str []) (.slice none 0 0) (Str [])
       rw [hZ]
       refine bodyPost_ret (v := .tuple #[.agg zerM, .int .i64 4]) ?_ rfl ⟨⟨_, rfl, msIs0 _ _⟩, hb.ext HX9.out⟩
       obtain ⟨d0, d1, d2, d3, d4, d5, d6, d7, d8, d9, d10⟩ := cells11 hr
       clear c0 c1 c2 c3 c4 c5 c6 c7 c8 c9 c10 f0 f1 f2 f3 f4 f5 f6 f7 f8 f9 f10 hr hb hZ
       simp [results, loadVar, loadCells, Tryz.isAgg27, Tryz.sizeOf27, Tryz.results23, go_sem, d0, d1, d2, d3, d4, d5, d6, d7, d8, d9, d10]
     | true =>
       cases by1 with
       | false =>
         have hr := HC3.out
         rw [if_pos (show (true && false) = false from rfl)] at hr
         subst hr
         clear HC3
         go_wp2_with fail
         refine (none_any 4 _).mono ?_
         rintro e W9 ⟨rfl, hx9⟩
         have HX9 := Lib.hid (ext_trans HX4.out hx9)
         have HR9 := Lib.hid (ext_at hx9 HR4.out)
         clear hx9
         obtain ⟨c0, c1, c2, c3, c4, c5, c6, c7, c8, c9, c10⟩ := cells11 HR9.out
         obtain ⟨f0, f1, f2, f3, f4, f5, f6, f7, f8, f9, f10⟩ := frozen11 HR9.out
         go_wp2_with fail
         obtain ⟨Z, hZ, hr, hb⟩ := set11 HR9.out (.int .i64 0) (Str []) (Str []) (Str []) (Str []) (.slice none 0 0) (.slice none 0 0) (.int .i64 0) (Str []) (.slice none 0 0) (Str [])
         rw [hZ]
         refine bodyPost_ret (v := .tuple #[.agg zerM, .int .i64 4]) ?_ rfl ⟨⟨_, rfl, msIs0 _ _⟩, hb.ext HX9.out⟩
         obtain ⟨d0, d1, d2, d3, d4, d5, d6, d7, d8, d9, d10⟩ := cells11 hr
         clear c0 c1 c2 c3 c4 c5 c6 c7 c8 c9 c10 f0 f1 f2 f3 f4 f5 f6 f7 f8 f9 f10 hr hb hZ
         simp [results, loadVar, loadCells, Tryz.isAgg27, Tryz.sizeOf27, Tryz.results23, go_sem, d0, d1, d2, d3, d4, d5, d6, d7, d8, d9, d10]
       | true =>
         have hr := HC3.out
         rw [if_neg (by simp)] at hr
         have HD := Lib.hid hr
         clear hr HC3
         go_wp2_with fail
         refine (done_any ⟨4, [], [], [], [], xs, [], 0, [], ds, []⟩ ea none sa xs.length 0 ds.length ek 0 sk xm _).mono ?_
         rintro e W9 ⟨rfl, hx9⟩
         have HX9 := Lib.hid (ext_trans HX4.out hx9)
         have HR9 := Lib.hid (ext_at hx9 HR4.out)
         have HM9 := Lib.hid (MsR.grow HMR.out hx9)
         clear hx9
         obtain ⟨c0, c1, c2, c3, c4, c5, c6, c7, c8, c9, c10⟩ := cells11 HR9.out
         obtain ⟨f0, f1, f2, f3, f4, f5, f6, f7, f8, f9, f10⟩ := frozen11 HR9.out
         have hs9 := (Array.getElem?_eq_some_iff.1 HR9.out).1
         cases xm with
         | true =>
           have hd9 := HD.out
           rw [if_pos rfl] at hd9
           subst hd9
           go_wp2_with fail
           obtain ⟨Z, hZ, hr, hb⟩ := set11 HR9.out (.int .i64 0) (Str []) (Str []) (Str []) (Str []) (.slice none 0 0) (.slice none 0 0) (.int .i64 0) (Str []) (.slice none 0 0) (Str [])
           rw [hZ]
           refine bodyPost_ret (v := .tuple #[.agg zerM, .int .i64 12]) ?_ rfl ⟨⟨_, rfl, msIs0 _ _⟩, hb.ext HX9.out⟩
           obtain ⟨d0, d1, d2, d3, d4, d5, d6, d7, d8, d9, d10⟩ := cells11 hr
           clear c0 c1 c2 c3 c4 c5 c6 c7 c8 c9 c10 f0 f1 f2 f3 f4 f5 f6 f7 f8 f9 f10 hr hb hZ
           simp [results, loadVar, loadCells, Tryz.isAgg27, Tryz.sizeOf27, Tryz.results23, go_sem, d0, d1, d2, d3, d4, d5, d6, d7, d8, d9, d10]
         | false =>
           have hd9 := HD.out
           rw [if_neg (by simp)] at hd9
           subst hd9
           go_wp2_with fail
           obtain ⟨Z, hZ, hr, hb⟩ := set11 HR9.out (.int .i64 4) (Str []) (Str []) (Str []) (Str []) (.slice ea xs.length ek) (.slice none 0 0) (.int .i64 0) (Str []) (.slice sa ds.length sk) (Str [])
           try rw [hZ]
           refine bodyPost_ret (v := .tuple #[.agg (msA ⟨4, [], [], [], [], xs, [], 0, [], ds, []⟩ (.slice ea xs.length ek) (.slice none 0 0) (.slice sa ds.length sk)), .int .i64 0]) ?_ rfl ⟨⟨_, rfl, _, _, _, rfl, (HM9.out.bz hb (Nat.lt_succ_self _)).mono (Nat.le_succ _)⟩, hb.ext HX9.out⟩
           obtain ⟨d0, d1, d2, d3, d4, d5, d6, d7, d8, d9, d10⟩ := cells11 hr
           clear c0 c1 c2 c3 c4 c5 c6 c7 c8 c9 c10 f0 f1 f2 f3 f4 f5 f6 f7 f8 f9 f10 hr hb hZ
           simp [results, loadVar, loadCells, Tryz.isAgg27, Tryz.sizeOf27, Tryz.results23, go_sem, d0, d1, d2, d3, d4, d5, d6, d7, d8, d9, d10]
end Go.Proofs.YtjkbigecejogdaaGreatDoor
