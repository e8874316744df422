/-
 ref07.Challenge at every text.
-/
import Derived.BigGuardPart
import Derived.OwnWalk
import Derived.BigQuiet
import Derived.RegionTactic
import Derived.Deep.CutBlock
import Derived.Deep.DeepCutAuto
import Derived.Deep.DrawnRows
import Derived.Test.YtjkbigecejogdaaGreatDoorRows
import Derived.Test.YtjkbigecejogdaaGreatDoorRpl
import Derived.Test.YtjkbigecejogdaaGreatDoorScb
namespace Go.Proofs.YtjkbigecejogdaaGreatDoor
open Go.RowKit
set_option maxRecDepth 100000
attribute [local go_sem] Oper.semAt_some
set_option linter.unusedVariables false
set_option linter.unusedSimpArgs false
theorem sl_shape {w : World} {v : Value} {l : List Value} (h : Sl w v l) : ∃ ao cap, v = .slice ao l.length cap ∧ l.length ≤ cap ∧ cap ≤ maxLen ∧ (ao = none → cap = 0) := by
 obtain ⟨ao, cap, hv, h1, h2, h3, _⟩ := h
 exact ⟨ao, cap, hv, h1, h2, h3⟩
theorem Sl.cell {w : World} {ao : Option Addr} {n cap : Nat} {l : List Value} (h : Sl w (.slice ao n cap) l) (j : Nat) (u : Value) (hj : l[j]? = some u) : w.cell? (adr ao j) = some u := by
 obtain ⟨a2, c2, hv, _, _, _, hc⟩ := h
 simp only [Value.slice.injEq] at hv
 rw [hv.1]
 exact hc j u hj
theorem lat_get (l : List (List UInt8)) (k : Nat) (h : k < l.length) : (l.map Str)[k]? = some (Str (lat l k)) := by simp [lat, List.getD, h]
theorem lat_mem (l : List (List UInt8)) (k : Nat) (h : k < l.length) : lat l k ∈ l := by simp [lat, List.getD, h]
abbrev RdP (f : Nat) (s : List UInt8) (r : Ms × Int) (w : World) : Prop := Calls Tryz.prog f #[Str s] w fun e w' => (∃ v, e = .returned (.tuple #[v, .int .i64 r.2]) ∧ MsIs w.heap.size w' v r.1) ∧ Ext w w'
set_option maxHeartbeats 8000000 in
theorem rChal_any (s : List UInt8) (hl : s.length ≤ 20000) (w : World) : RdP 21 s (rChal s) w := by
 obtain ⟨W0, hW0⟩ : ∃ W0, w.alloc (.cells zerM 27) = W0 := ⟨_, rfl⟩
 have x0 : Ext w W0 := by rw [← hW0]; exact Below.alloc (Below.refl _ _) (Nat.le_refl _) _
 have r0 : W0.heap[w.heap.size]? = some (.cells zerM 27 (0, 0)) := by rw [← hW0]; exact Array.getElem?_push_size
 have HX := Lib.hid x0; have HR := Lib.hid r0
 clear x0 r0
 have HP := Lib.hid (show rChal s = if 4096 < s.length then (Ms0, 3) else if (spl s).length < 3 then (Ms0, 4) else rC2 (spl s) from rfl)
 unfold RdP
 generalize rChal s = r at *
 by_cases h4 : 4096 < s.length
 ·have hr := HP.out
  rw [if_pos h4] at hr
  subst hr
  have g1 : (4096 : Int) < (s.length : Int) := by omega
  clear h4 HP
  go_enter Tryz.func21, Tryz.ntmps21
  go_wp2_with fail
  try rw [hW0]
  refine (none_any 3 _).mono ?_
  rintro e W9 ⟨rfl, hx9⟩
  have HX9 := Lib.hid (ext_trans HX.out hx9)
  have HR9 := Lib.hid (ext_at hx9 HR.out)
  clear hx9
  obtain ⟨c0, c1, c2, c3, c4, c5, c6, c7, c8, c9, c10⟩ := cells11 HR9.out
  obtain ⟨f0, f1, f2, f3, f4, f5, f6, f7, f8, f9, f10⟩ := frozen11 HR9.out
  go_wp2_with fail
  obtain ⟨Z, hZ, hr, hb⟩ := set11 HR9.out (.int .i64 0) (Str []) (Str []) (Str []) (Str []) (.slice none 0 0) (.slice none 0 0) (.int .i64 0) (Str []) (.slice none 0 0) (Str [])
  rw [hZ]
  refine bodyPost_ret (v := .tuple #[.agg zerM, .int .i64 3]) ?_ rfl ⟨⟨_, rfl, msIs0 _ _⟩, hb.ext HX9.out⟩
  obtain ⟨d0, d1, d2, d3, d4, d5, d6, d7, d8, d9, d10⟩ := cells11 hr
  clear c0 c1 c2 c3 c4 c5 c6 c7 c8 c9 c10 f0 f1 f2 f3 f4 f5 f6 f7 f8 f9 f10 hr hb hZ
  simp [results, loadVar, loadCells, Tryz.isAgg27, Tryz.sizeOf27, Tryz.results21, go_sem, d0, d1, d2, d3, d4, d5, d6, d7, d8, d9, d10]
 have g1 : ¬ (4096 : Int) < (s.length : Int) := by omega
 have hp := HP.out
 rw [if_neg h4] at hp
 have HP2 := Lib.hid hp
 have HS := Lib.hid (fun W => Split_any s (by omega) W)
 have HPL := Lib.hid (fun p (h : p ∈ spl s) => (show p.length ≤ 4096 by have := spl_mem_len s p h; omega))
 have hsl := spl_len s
 clear hp HP
 generalize spl s = l at *
 go_enter Tryz.func21, Tryz.ntmps21
 go_wp2_with fail
 try rw [hW0]
 clear hW0
 refine (HS.out _).mono ?_
 rintro e W1 ⟨v, rfl, hown, hx⟩
 have hslv := sl_of_own hown
 obtain ⟨a1, k1, rfl, hk1, hm1, hn1⟩ := sl_shape hslv
 rw [List.length_map] at hk1 hslv ⊢
 have i1 := run_index_adr (P := Tryz.prog) Tryz.underlying88 Tryz.sizeOf9 hn1 hk1
 have HI1 := Lib.hid i1
 have HSL := Lib.hid hslv
 have HX1 := Lib.hid (ext_trans HX.out hx)
 have HR1 := Lib.hid (ext_at hx HR.out)
 clear hown hx HX HR i1 hslv
 by_cases h3 : l.length < 3
 ·have hr := HP2.out
  rw [if_pos h3] at hr
  subst hr
  have g2 : (l.length : Int) < 3 := by omega
  clear HP2
  go_wp2_with fail
  refine (none_any 4 _).mono ?_
  rintro e W9 ⟨rfl, hx9⟩
  have HX9 := Lib.hid (ext_trans HX1.out hx9)
  have HR9 := Lib.hid (ext_at hx9 HR1.out)
  clear hx9
  obtain ⟨c0, c1, c2, c3, c4, c5, c6, c7, c8, c9, c10⟩ := cells11 HR9.out
  obtain ⟨f0, f1, f2, f3, f4, f5, f6, f7, f8, f9, f10⟩ := frozen11 HR9.out
  go_wp2_with fail
  obtain ⟨Z, hZ, hr, hb⟩ := set11 HR9.out (.int .i64 0) (Str []) (Str []) (Str []) (Str []) (.slice none 0 0) (.slice none 0 0) (.int .i64 0) (Str []) (.slice none 0 0) (Str [])
  rw [hZ]
  refine bodyPost_ret (v := .tuple #[.agg zerM, .int .i64 4]) ?_ rfl ⟨⟨_, rfl, msIs0 _ _⟩, hb.ext HX9.out⟩
  obtain ⟨d0, d1, d2, d3, d4, d5, d6, d7, d8, d9, d10⟩ := cells11 hr
  clear c0 c1 c2 c3 c4 c5 c6 c7 c8 c9 c10 f0 f1 f2 f3 f4 f5 f6 f7 f8 f9 f10 hr hb hZ
  simp [results, loadVar, loadCells, Tryz.isAgg27, Tryz.sizeOf27, Tryz.results21, go_sem, d0, d1, d2, d3, d4, d5, d6, d7, d8, d9, d10]
 have g2 : ¬ (l.length : Int) < 3 := by omega
 have hp := HP2.out
 rw [if_neg h3] at hp
 have HP3 := Lib.hid hp
 clear hp HP2 h4
 have j0 := fun W => HI1.out W 0 (by omega)
 have j1 := fun W => HI1.out W 1 (by omega)
 have j2 := fun W => HI1.out W 2 (by omega)
 simp only [Int.cast_ofNat_Int] at j0 j1 j2
 have c0 := HSL.out.cell 0 _ (lat_get l 0 (by omega))
 have c1 := HSL.out.cell 1 _ (lat_get l 1 (by omega))
 have c2 := HSL.out.cell 2 _ (lat_get l 2 (by omega))
 have hb0 := HPL.out _ (lat_mem l 0 (by omega))
 have hb1 := HPL.out _ (lat_mem l 1 (by omega))
 have hb2 := HPL.out _ (lat_mem l 2 (by omega))
 have HB0 := Lib.hid (fun W => behind_any (lat l 0) 114 61 W)
 have HB1 := Lib.hid (fun W => behind_any (lat l 1) 115 61 W)
 have HB2 := Lib.hid (fun W => behind_any (lat l 2) 105 61 W)
 have hl0 := beh_len (lat l 0) 114 61
 have hl1 := beh_len (lat l 1) 115 61
 have hl2 := beh_len (lat l 2) 105 61
 have HBY := Lib.hid (fun W => rbytes_any (beh (lat l 1) 115 61).1 (by omega) 1 32 (by omega) (by omega) W)
 have HNO := Lib.hid (fun W => nonce_ref07 (beh (lat l 0) 114 61).1 (by omega) W)
 have HWH := Lib.hid (fun W => whole_any (beh (lat l 2) 105 61).1 (by omega) W)
 have HEX := Lib.hid (fun W v (h : Sl W v ((l.drop 3).map Str)) => exts_any v (l.drop 3) (by rw [List.length_drop]; omega) (fun p hp => by have := HPL.out p (List.mem_of_mem_drop hp); omega) W h)
 have HCD := Lib.hid (rC2_def l)
 generalize rC2 l = r2 at *
 have hrr := HP3.out
 subst hrr
 generalize lat l 0 = t0 at *
 generalize lat l 1 = t1 at *
 generalize lat l 2 = t2 at *
 generalize beh t0 114 61 = q0 at *
 generalize beh t1 115 61 = q1 at *
 generalize beh t2 105 61 = q2 at *
 obtain ⟨n0, b0⟩ := q0
 obtain ⟨n1, b1⟩ := q1
 obtain ⟨n2, b2⟩ := q2
 simp only at HB0 HB1 HB2 hl0 hl1 hl2 HBY HNO HWH HCD
 have hdl := decF_len n1
 generalize byB n1 1 32 = by1 at *
 generalize nonF n0 = nb at *
 generalize rndN n2 = rn at *
 generalize decF n1 = dd at *
 obtain ⟨ds, dc⟩ := dd
 simp only at HBY HCD hdl
 generalize extsV (l.drop 3) = ex at *
 obtain ⟨xs, xb, xm⟩ := ex
 simp only at HEX HCD
 clear HP3 HS
 go_wp2_with fail
 refine (HB0.out _).mono ?_
 rintro e V ⟨rfl, hw⟩
 subst V
 go_wp2_with fail
 refine (HB1.out _).mono ?_
 rintro e V ⟨rfl, hw⟩
 subst V
 go_wp2_with fail
 refine (HB2.out _).mono ?_
 rintro e V ⟨rfl, hw⟩
 subst V
 go_wp2_with fail
 refine (HBY.out _).mono ?_
 rintro e W2 ⟨sv, rfl, hown, hx⟩
 obtain ⟨sa, sk, rfl, hsk, -⟩ := sl_shape (sl_of_own hown)
 rw [List.length_map] at hown hsk ⊢
 have hs1z : w.heap.size + 1 ≤ W1.heap.size := (Array.getElem?_eq_some_iff.1 HR1.out).1
 have hs2z : w.heap.size + 1 ≤ W2.heap.size := Nat.le_trans hs1z hx.size
 have HBS := Lib.hid (own_sblk hown hs1z (ds.map Byt).length)
 have HSB := Lib.hid (show SlB W2 (.slice sa ds.length sk) ds from sl_of_own hown)
 have HX2 := Lib.hid (ext_trans HX1.out hx)
 have HR2 := Lib.hid (ext_at hx HR1.out)
 have hs2 := HSL.out.ext hx
 have hs3 := hs2.resl (k := 3) (by rw [List.length_map]; omega)
 rw [← List.map_drop] at hs3
 have hrs := fun W => run_resl (P := Tryz.prog) Tryz.underlying88 Tryz.sizeOf9 (ao := a1) (n := l.length) (cap := k1) W 3 (by omega)
 obtain ⟨ra, rk, hrv, hrk, -⟩ := sl_shape hs3
 rw [hrv] at hs3 hrs
 simp only [Int.cast_ofNat_Int] at hrs
 have HS3 := Lib.hid hs3
 clear hown hx hs2 hs3 hrv HSL HX1 HR1 c0 c1 c2
 rw [List.length_map, List.length_drop] at hrs HS3
 go_wp2_with fail
 refine (HEX.out _ _ HS3.out).mono ?_
 rintro e W3 ⟨ev, rfl, hrow, hx⟩
 obtain ⟨ea, ek, rfl, hek⟩ := ownz_shape hrow
 have HMR := Lib.hid (show MsR (w.heap.size + 1) W3 (.slice ea xs.length ek) (.slice sa ds.length sk) (.slice none 0 0) ⟨2, [], [], [], n0, xs, ds, rn, [], [], []⟩ from
  ⟨rowC_of_own prC_len hrow, HSB.out.ext hx, sl_nil _, own_rblk hrow (by have := HX2.out.size; have := hs2z; omega), fun k hk => HBS.out k hk, nil_sblk⟩)
 have HX3 := Lib.hid (ext_trans HX2.out hx)
 have HR3 := Lib.hid (ext_at hx HR2.out)
 clear hrow hx HX2 HR2 HSB HS3 hrs
 obtain ⟨okk, hok⟩ : ∃ okk, (b0 && (b1 && (b2 && (by1 && (xb && (nb && decide (rn ≠ 0))))))) = okk := ⟨_, rfl⟩
 rw [hok] at HCD
 have HOK := Lib.hid hok
 clear hok
 go_upto_region 11 with fail
 go_cut [90] from 63 (fun s90 wx => wx = W3 ∧ s90 = .bool (!okk))
 case first =>
  cases b0
  ·have ho : okk = false := by rw [← HOK.out]; rfl
   subst ho
   clear HOK
   go_wp2
   go_meet
   exact ⟨rfl, rfl⟩
  cases b1
  ·have ho : okk = false := by rw [← HOK.out]; rfl
   subst ho
   clear HOK
   go_wp2
   go_meet
   exact ⟨rfl, rfl⟩
  cases b2
  ·have ho : okk = false := by rw [← HOK.out]; rfl
   subst ho
   clear HOK
   go_wp2
   go_meet
   exact ⟨rfl, rfl⟩
  cases by1
  ·have ho : okk = false := by rw [← HOK.out]; rfl
   subst ho
   clear HOK
   go_wp2
   go_meet
   exact ⟨rfl, rfl⟩
  cases xb
  ·have ho : okk = false := by rw [← HOK.out]; rfl
   subst ho
   clear HOK
   go_wp2
   go_meet
   exact ⟨rfl, rfl⟩
  go_wp2_with fail
  refine (HNO.out _).mono ?_
  rintro e V ⟨rfl, hw⟩
  subst V
  cases nb with
  | false =>
    have ho : okk = false := by rw [← HOK.out]; rfl
    subst ho
    clear HOK
    go_wp2
    go_meet
    exact ⟨rfl, rfl⟩
  | true =>
    go_wp2_with fail
    refine (HWH.out _).mono ?_
    rintro e V ⟨rfl, hw⟩
    subst V
    by_cases h0 : rn = 0
    ·have ho : okk = false := by rw [← HOK.out, h0]; rfl
     subst ho
     have g3 : ((rn : Int) == 0) = true := by simp [h0]
     clear HOK h0
     go_wp2
     go_meet
     exact ⟨rfl, rfl⟩
    ·have ho : okk = true := by rw [← HOK.out]; simp [h0]
     subst ho
     have g3 : ((rn : Int) == 0) = false := by simp; omega
     clear HOK h0
     go_wp2
     go_meet
     exact ⟨rfl, rfl⟩
 case rest =>
  obtain ⟨hwc, rfl⟩ := hcut
  subst wc
  cases okk with
  | false =>
    have hr := HCD.out
    rw [if_pos rfl] at hr
    subst hr
    clear HCD
    go_wp2_with fail
    refine (none_any 4 _).mono ?_
    rintro e W9 ⟨rfl, hx9⟩
    have HX9 := Lib.hid (ext_trans HX3.out hx9)
    have HR9 := Lib.hid (ext_at hx9 HR3.out)
    clear hx9
    obtain ⟨c0, c1, c2, c3, c4, c5, c6, c7, c8, c9, c10⟩ := cells11 HR9.out
    obtain ⟨f0, f1, f2, f3, f4, f5, f6, f7, f8, f9, f10⟩ := frozen11 HR9.out
    go_wp2_with fail
    obtain ⟨Z, hZ, hr, hb⟩ := set11 HR9.out (.int .i64 0) (Str []) (Str []) (Str []) (Str []) (.slice none 0 0) (.slice none 0 0) (.int .i64 0) (Str []) (.slice none 0 0) (Str [])
    rw [hZ]
    refine bodyPost_ret (v := .tuple #[.agg zerM, .int .i64 4]) ?_ rfl ⟨⟨_, rfl, msIs0 _ _⟩, hb.ext HX9.out⟩
    obtain ⟨d0, d1, d2, d3, d4, d5, d6, d7, d8, d9, d10⟩ := cells11 hr
    clear c0 c1 c2 c3 c4 c5 c6 c7 c8 c9 c10 f0 f1 f2 f3 f4 f5 f6 f7 f8 f9 f10 hr hb hZ
    simp [results, loadVar, loadCells, Tryz.isAgg27, Tryz.sizeOf27, Tryz.results21, go_sem, d0, d1, d2, d3, d4, d5, d6, d7, d8, d9, d10]
  | true =>
    have hr := HCD.out
    rw [if_neg (by simp)] at hr
    have HD := Lib.hid hr
    clear hr HCD HOK
    go_wp2_with fail
    refine (HWH.out _).mono ?_
    rintro e V ⟨rfl, hw⟩
    subst V
    go_wp2_with fail
    refine (done_any ⟨2, [], [], [], n0, xs, ds, rn, [], [], []⟩ ea sa none xs.length ds.length 0 ek sk 0 xm _).mono ?_
    rintro e W9 ⟨rfl, hx9⟩
    have HX9 := Lib.hid (ext_trans HX3.out hx9)
    have HR9 := Lib.hid (ext_at hx9 HR3.out)
    have HM9 := Lib.hid (MsR.grow HMR.out hx9)
    clear hx9
    obtain ⟨c0, c1, c2, c3, c4, c5, c6, c7, c8, c9, c10⟩ := cells11 HR9.out
    obtain ⟨f0, f1, f2, f3, f4, f5, f6, f7, f8, f9, f10⟩ := frozen11 HR9.out
    have hs9 := (Array.getElem?_eq_some_iff.1 HR9.out).1
    cases xm with
    | true =>
      have hd9 := HD.out
      rw [if_pos rfl] at hd9
      subst hd9
      go_wp2_with fail
      obtain ⟨Z, hZ, hr, hb⟩ := set11 HR9.out (.int .i64 0) (Str []) (Str []) (Str []) (Str []) (.slice none 0 0) (.slice none 0 0) (.int .i64 0) (Str []) (.slice none 0 0) (Str [])
      rw [hZ]
      refine bodyPost_ret (v := .tuple #[.agg zerM, .int .i64 12]) ?_ rfl ⟨⟨_, rfl, msIs0 _ _⟩, hb.ext HX9.out⟩
      obtain ⟨d0, d1, d2, d3, d4, d5, d6, d7, d8, d9, d10⟩ := cells11 hr
      clear c0 c1 c2 c3 c4 c5 c6 c7 c8 c9 c10 f0 f1 f2 f3 f4 f5 f6 f7 f8 f9 f10 hr hb hZ
      simp [results, loadVar, loadCells, Tryz.isAgg27, Tryz.sizeOf27, Tryz.results21, go_sem, d0, d1, d2, d3, d4, d5, d6, d7, d8, d9, d10]
    | false =>
      have hd9 := HD.out
      rw [if_neg (by simp)] at hd9
      subst hd9
      go_wp2_with fail
      obtain ⟨Z, hZ, hr, hb⟩ := set11 HR9.out (.int .i64 2) (Str []) (Str []) (Str []) (Str n0) (.slice ea xs.length ek) (.slice sa ds.length sk) (.int .i64 rn) (Str []) (.slice none 0 0) (Str [])
      try rw [hZ]
      refine bodyPost_ret (v := .tuple #[.agg (msA ⟨2, [], [], [], n0, xs, ds, rn, [], [], []⟩ (.slice ea xs.length ek) (.slice sa ds.length sk) (.slice none 0 0)), .int .i64 0]) ?_ rfl ⟨⟨_, rfl, _, _, _, rfl, (HM9.out.bz hb (Nat.lt_succ_self _)).mono (Nat.le_succ _)⟩, hb.ext HX9.out⟩
      obtain ⟨d0, d1, d2, d3, d4, d5, d6, d7, d8, d9, d10⟩ := cells11 hr
      clear c0 c1 c2 c3 c4 c5 c6 c7 c8 c9 c10 f0 f1 f2 f3 f4 f5 f6 f7 f8 f9 f10 hr hb hZ
      simp [results, loadVar, loadCells, Tryz.isAgg27, Tryz.sizeOf27, Tryz.results21, go_sem, d0, d1, d2, d3, d4, d5, d6, d7, d8, d9, d10]
end Go.Proofs.YtjkbigecejogdaaGreatDoor
