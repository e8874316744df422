/-
  scram.head at n,, and scram.ParseFinal where it is right, of that head.
-/
import Derived.Test.YteickmohloglhaaGreatDoorRows
import Derived.Test.YteickmohloglhaaGreatDoorPch
namespace Go.Proofs.YteickmohloglhaaGreatDoor
open Go.RowKit
set_option maxRecDepth 100000
attribute [local go_sem] Oper.semAt_some
set_option linter.unusedVariables false
set_option linter.unusedSimpArgs false
set_option maxHeartbeats 1000000 in
theorem head_n (w : World) (hM : MaxAt w) : Calls Tryz.prog 32 #[Str [110, 44, 44]] w fun e w' => e = .returned (.tuple #[.bool true, .bool false]) ∧ Ext w w' := by
  obtain ⟨m, hm⟩ := hM
  have Hm := Lib.hid hm
  clear hm
  go_enter Tryz.func32, Tryz.ntmps32
  go_wp2_with fail
  refine (cut_of [110, 44, 44] m [110] [44] (by decide +kernel) (by decide) w Hm.out).mono ?_
  rintro e W1 ⟨rfl, hx⟩
  have HX1 := Lib.hid hx
  clear hx
  go_wp2_with fail
  refine (cut_of [44] m [] [] (by decide +kernel) (by decide) W1 (ext_cell HX1.out Hm.out)).mono ?_
  rintro e W2 ⟨rfl, hx⟩
  have HX2 := Lib.hid (ext_trans HX1.out hx)
  clear hx
  go_wp2_with fail
  refine (flag_n _).mono ?_
  rintro e W3 ⟨rfl, hw⟩
  subst W3
  have hbp : (([110] : List UInt8) == [112]) = false := by decide
  go_wp2
  go_ret2
  exact ⟨rfl, HX2.out⟩
theorem OwnP.base {B B' : Nat} {v : Value} {ps : List (List UInt8)} {W : World} (h : OwnP B v ps W) (hb : B' ≤ B) : OwnP B' v ps W := by
  refine ⟨h.1, ?_⟩
  rcases h.2 with hn | ⟨g, cap, cur, hv, hbg, r⟩
  · exact .inl hn
  · exact .inr ⟨g, cap, cur, hv, Nat.le_trans hb hbg, r⟩
set_option maxHeartbeats 4000000 in
theorem ParseFinal_ok (vB : List UInt8 → Bool) (s he no pr : List UInt8) (xs : List (List UInt8)) (hs : s.length ≤ 4096) (hA : attsP s = (99 :: 61 :: he) :: (114 :: 61 :: no) :: (xs ++ [112 :: 61 :: pr])) (hS : (spl s).length = 3 + xs.length)
    (hhl : he.length ≤ 1000) (hhe : byB he 0 4096 = true) (hhd : (decF he).1 = [110, 44, 44]) (hnl : no.length ≤ 1000) (hno : nonF no = true) (hpl : pr.length ≤ 1000) (hpr : byB pr 32 32 = true)
    (hx2 : ∀ p ∈ xs, 1 ≤ p.length) (hok : xs.all (okA vB) = true) (hden : denB xs = false) (hnp : ∀ p ∈ xs, (p.take 1 == [112]) = false)
    (hv : ∀ p ∈ xs, ∀ W, FormsAt W → Calls Tryz.prog 21 #[Str (p.drop 2)] W fun e w' => e = .returned (.bool (vB p)) ∧ Ext W w') (w : World) (hM : MaxAt w) (hF : FormsAt w) :
    Calls Tryz.prog 12 #[Str s] w fun e w' => (∃ a b c a2 b2 c2, e = .returned (.tuple #[.agg #[Str [110, 44, 44], Str no, .slice a b c, .slice a2 b2 c2], .int .i64 0])) ∧ Ext w w' := by
  have hlen : decide ((4096 : Int) < (s.length : Int)) = false := by simp; omega
  have hxl : xs.length ≤ 90000 := by have := spl_len s; omega
  have HA := Lib.hid hA; have HS := Lib.hid hS; have HM := Lib.hid hM; have HF := Lib.hid hF; have HNO := Lib.hid hno; have HHE := Lib.hid hhe; have HHD := Lib.hid hhd; have HPR := Lib.hid hpr; have HX2 := Lib.hid hx2; have HOK := Lib.hid hok; have HDEN := Lib.hid hden; have HNP := Lib.hid hnp; have HV := Lib.hid hv
  have hfg : 1 < w.heap.size := by obtain ⟨fr, hf⟩ := hF; exact (Array.getElem?_eq_some_iff.1 hf).1
  clear hA hS hM hF hno hhe hhd hpr hx2 hok hden hnp hv
  go_enter Tryz.func12, Tryz.ntmps12
  obtain ⟨W0, hW0⟩ : ∃ W0, w.alloc (.cells #[Str [], Str [], .slice none 0 0, .slice none 0 0] 46) = W0 := ⟨_, rfl⟩
  have x0 : Ext w W0 := by rw [← hW0]; exact Below.alloc (Below.refl _ _) (Nat.le_refl _) _
  have r0 : W0.heap[w.heap.size]? = some (.cells #[Str [], Str [], .slice none 0 0, .slice none 0 0] 46 (0, 0)) := by rw [← hW0]; exact Array.getElem?_push_size
  have HX0 := Lib.hid x0; have HR0 := Lib.hid r0
  clear x0 r0
  go_wp2_with fail
  clear hW0
  refine (read_any s (by omega) W0 (HM.out.ext HX0.out)).mono ?_
  rintro e W3 ⟨bm, v, rfl, hbm, hmsg, hown, hx⟩
  rw [HA.out, HS.out] at hmsg
  rw [HA.out] at hown
  rw [show decide ((((99 :: 61 :: he) :: (114 :: 61 :: no) :: (xs ++ [112 :: 61 :: pr]) : List (List UInt8))).length < 3 + xs.length) = false by simp; omega] at hmsg
  have hsb : w.heap.size < bm := Nat.lt_of_lt_of_le (Array.getElem?_eq_some_iff.1 HR0.out).1 hbm
  have HMS := Lib.hid (show Msg bm W3.heap.size false _ W3 from ⟨v, hmsg, row2_of_own hown (by omega) (Nat.le_refl _)⟩)
  have HX3 := Lib.hid (ext_trans HX0.out hx)
  have HR3 := Lib.hid (ext_at hx HR0.out)
  have hbq : bm < W3.heap.size := HMS.out.lt
  clear hx hmsg hown HX0 HR0 hbm
  obtain ⟨W4, hW4⟩ : ∃ W4, W3.alloc (.cells #[Str [], Str [], .slice none 0 0, .slice none 0 0] 46) = W4 := ⟨_, rfl⟩
  have hx4 : Ext W3 W4 := by rw [← hW4]; exact Below.alloc (Below.refl _ _) (Nat.le_refl _) _
  have HP := Lib.hid (show PB w w.heap.size bm W3.heap.size 46 [Str [], Str [], .slice none 0 0, .slice none 0 0] [Str [], Str [], .slice none 0 0, .slice none 0 0] false _ W4 from
    ⟨ext_trans HX3.out hx4, HMS.out.ext hx4, by rw [← hW4]; exact Array.getElem?_push_size, ext_at hx4 HR3.out, rfl, hsb, hbq⟩)
  clear hx4 HMS HX3 HR3
  go_wp2_with fail
  clear hW4
  obtain ⟨q, hq⟩ : ∃ q, W3.heap.size = q := ⟨_, rfl⟩
  rw [hq] at HP hbq ⊢
  clear hq
  have hqf : 1 < q := by omega
  refine (next_at bm q false 99 he _ W4 HP.out.msg).mono ?_
  rintro e V1 ⟨rfl, hm, hz⟩
  have HP1 := Lib.hid (HP.out.bz hz hm)
  clear hm hz HP
  go_wp2_with fail
  refine (bytesOf_any bm q false _ he (by omega) 0 4096 (by omega) (by omega) _ HP1.out.msg (Nat.le_of_lt HP1.out.lt)).mono ?_
  rintro e V2 ⟨sv, rfl, hown, hm, hz⟩
  rw [HHE.out, show (false || !true) = false from rfl] at hm
  rw [HHD.out] at hown
  have hcv := run_str (P := Tryz.prog) Tryz.underlying25 Tryz.underlying5 Tryz.underlying9 (sl_of_own hown : SlB V2 sv [110, 44, 44])
  have HP2 := Lib.hid (HP1.out.bz hz hm)
  clear hm hz HP1 hown
  obtain ⟨c0, f0⟩ := HP2.out.cell 0 _ rfl
  go_wp2_with fail
  have HP3 := Lib.hid (HP2.out.store 0 (Str [110, 44, 44]) (cs' := [Str [110, 44, 44], Str [], .slice none 0 0, .slice none 0 0]) rfl)
  clear c0 f0 HP2 hcv
  refine (head_n _ (HM.out.ext HP3.out.bel)).mono ?_
  rintro e V4 ⟨rfl, hx⟩
  have HP4 := Lib.hid (HP3.out.ext hx)
  clear hx HP3
  go_wp2_with fail
  refine (fine_ok bm q false _ _ HP4.out.msg).mono ?_
  rintro e V5 ⟨rfl, hm, hz⟩
  have HP5 := Lib.hid (HP4.out.bz hz hm)
  clear hm hz HP4
  go_wp2_with fail
  refine (next_at bm q false 114 no _ _ HP5.out.msg).mono ?_
  rintro e V6 ⟨rfl, hm, hz⟩
  have HP6 := Lib.hid (HP5.out.bz hz hm)
  clear hm hz HP5
  go_wp2_with fail
  refine (nonceM_ok bm q false _ no (by omega) HNO.out _ HP6.out.msg).mono ?_
  rintro e V7 ⟨rfl, hm, hz⟩
  have HP7 := Lib.hid (HP6.out.bz hz hm)
  clear hm hz HP6
  obtain ⟨c0, f0⟩ := HP7.out.cell 1 _ rfl
  go_wp2_with fail
  have HP8 := Lib.hid (HP7.out.store 1 (Str no) (cs' := [Str [110, 44, 44], Str no, .slice none 0 0, .slice none 0 0]) rfl)
  clear c0 f0 HP7
  have hrs := rest_any vB bm q false xs [112 :: 61 :: pr] (by simp; omega) _ HP8.out.msg (Nat.le_of_lt HP8.out.lt) HX2.out (HF.out.ext HP8.out.bel) hqf (by omega) HV.out
  rw [HOK.out, show (false || !true) = false from rfl] at hrs
  refine hrs.mono ?_
  rintro e V9 ⟨xv, rfl, hown, hm, hz⟩
  clear hrs
  have hxv : ∃ a c, xv = .slice a xs.length c := by
    rcases hown.2 with ⟨hv, h0⟩ | ⟨g, cap, _, hv, _⟩
    · exact ⟨_, _, by rw [hv, h0]⟩
    · exact ⟨_, _, hv⟩
  obtain ⟨xa1, xa3, rfl⟩ := hxv
  have HP9 := Lib.hid (HP8.out.bz hz hm)
  have HO := Lib.hid ((hown.set q 2 (.slice xa1 xs.length xa3) HP8.out.lt).base (show q + 1 ≤ _ from HP8.out.lt))
  clear hm hz HP8 hown
  obtain ⟨c0, f0⟩ := HP9.out.cell 2 _ rfl
  go_wp2_with fail
  have HP10 := Lib.hid (HP9.out.store 2 (.slice xa1 xs.length xa3) (cs' := [Str [110, 44, 44], Str no, .slice xa1 xs.length xa3, .slice none 0 0]) rfl)
  clear c0 f0 HP9
  go_loopw [43] (fun i wr => ∃ k : Nat, k ≤ xs.length ∧ i = .int .i64 k ∧ Hid (PB w w.heap.size bm q 46 [Str [], Str [], .slice none 0 0, .slice none 0 0] [Str [110, 44, 44], Str no, .slice xa1 xs.length xa3, .slice none 0 0] false [112 :: 61 :: pr] wr) ∧ Hid (OwnP (q + 1) (.slice xa1 xs.length xa3) xs wr)) (fun i _ => xs.length - (intOf i).toNat)
  case atStart => exact ⟨0, by omega, rfl, HP10, HO⟩
  case round =>
    obtain ⟨k, hk, rfl, HP11, HO11⟩ := hrel
    by_cases hlt : k < xs.length
    · obtain ⟨p, hp⟩ : ∃ p, xs[k] = p := ⟨_, rfl⟩
      have hmem : p ∈ xs := by rw [← hp]; exact List.getElem_mem _
      obtain ⟨g, cap, hv, hgl, hc⟩ := ownP_at HO11.out (fun h => by rw [h] at hlt; simp at hlt)
      cases hv
      obtain ⟨d0, d1⟩ := hc k p (by rw [← hp]; exact List.getElem?_eq_getElem hlt)
      have hix := index_pr g xs.length xa3 k hlt
      have hpn := HNP.out p hmem
      obtain ⟨Wb, hWb⟩ : ∃ Wb, wr.alloc (.cells #[Str (p.take 1), Str (p.drop 2)] 71) = Wb := ⟨_, rfl⟩
      have hxb : Ext wr Wb := by rw [← hWb]; exact Below.alloc (Below.refl _ _) (Nat.le_refl _) _
      have hbb : Wb.heap[wr.heap.size]? = some (.cells #[Str (p.take 1), Str (p.drop 2)] 71 (0, 0)) := by rw [← hWb]; exact Array.getElem?_push_size
      obtain ⟨e0, e1, -⟩ := cells2m hbb
      have HPb := Lib.hid (HP11.out.ext hxb); have HOb := Lib.hid (HO11.out.ext hxb)
      clear hc hxb hbb hp hmem
      generalize p.take 1 = q1 at *
      generalize p.drop 2 = q2 at *
      go_wp2_with fail
      refine (fine_ok bm q false _ Wb HPb.out.msg).mono ?_
      rintro e W12 ⟨rfl, hm, hz⟩
      have HP12 := Lib.hid (HPb.out.bz hz hm)
      have HO12 := Lib.hid (show OwnP (q + 1) _ xs W12 from ownz_keep HOb.out fun g hg _ hkk => hz.block g (kind_lt hkk) (by omega))
      clear hm hz
      go_wp2
      go_roundw
      case rel => exact ⟨k + 1, by omega, by go_num, HP12, HO12⟩
      case measure => simp [intOf]; omega
    · obtain rfl : k = xs.length := by omega
      go_wp2_with fail
      refine (next_at bm q false 112 pr _ _ HP11.out.msg).mono ?_
      rintro e V12 ⟨rfl, hm, hz⟩
      have HP12 := Lib.hid (HP11.out.bz hz hm)
      have HO12 := Lib.hid (show OwnP (q + 1) _ xs V12 from ownz_keep HO11.out fun g hg _ hkk => hz.block g (kind_lt hkk) (by omega))
      clear hm hz HP11 HO11
      go_wp2_with fail
      refine (bytesOf_any bm q false _ pr (by omega) 32 32 (by omega) (by omega) _ HP12.out.msg (Nat.le_of_lt HP12.out.lt)).mono ?_
      rintro e V13 ⟨sv2, rfl, hown, hm, hz⟩
      rw [HPR.out, show (false || !true) = false from rfl] at hm
      have hsv : ∃ a n c, sv2 = .slice a n c := by
        rcases hown.2 with ⟨hv, h0⟩ | ⟨g, cap, _, hv, _⟩
        · exact ⟨_, _, _, hv⟩
        · exact ⟨_, _, _, hv⟩
      obtain ⟨sa1, sa2, sa3, rfl⟩ := hsv
      have HP13 := Lib.hid (HP12.out.bz hz hm)
      have HO13 := Lib.hid ((show OwnP (q + 1) _ xs V13 from ownz_keep HO12.out fun g hg _ hkk => hz.block g (kind_lt hkk) (by omega)).set q 3 (.slice sa1 sa2 sa3) (Nat.lt_succ_self q))
      clear hm hz HP12 HO12 hown
      obtain ⟨c0, f0⟩ := HP13.out.cell 3 _ rfl
      obtain ⟨c1, -⟩ := HP13.out.cell 2 _ rfl
      go_wp2_with fail
      have HP14 := Lib.hid (HP13.out.store 3 (.slice sa1 sa2 sa3) (cs' := [Str [110, 44, 44], Str no, .slice xa1 xs.length xa3, .slice sa1 sa2 sa3]) rfl)
      clear c0 f0 c1 HP13
      refine (denied_any _ _ xs (by omega) _ HO13.out).mono ?_
      rintro e V15 ⟨he, hx⟩
      rw [HDEN.out] at he
      subst he
      have HP15 := Lib.hid (HP14.out.ext hx)
      clear hx HP14 HO13
      go_wp2_with fail
      refine (ended_ok bm q _ HP15.out.msg).mono ?_
      rintro e V16 ⟨rfl, hw⟩
      subst V16
      obtain ⟨c0, -⟩ := HP15.out.cell 0 _ rfl
      obtain ⟨c1, -⟩ := HP15.out.cell 1 _ rfl
      obtain ⟨c2, -⟩ := HP15.out.cell 2 _ rfl
      obtain ⟨c3, -⟩ := HP15.out.cell 3 _ rfl
      have hr := HP15.out.res
      obtain ⟨z0, z1, z2, z3⟩ := cells4s hr
      have zf : ∀ j, V15.frozen? ⟨w.heap.size, j, none⟩ = false := fun j => by simp [World.frozen?, hr]
      have z4 := zf 0; have z5 := zf 1; have z6 := zf 2; have z7 := zf 3
      have hbel := HP15.out.bel
      have HR := Lib.hid hr; have HB := Lib.hid hbel
      clear hr hbel zf HP15
      go_wp2_with fail
      obtain ⟨Z, hZ, d0, d1, d2, d3, hX⟩ := set4 HR.out HB.out (Str [110, 44, 44]) (Str no) (.slice xa1 xs.length xa3) (.slice sa1 sa2 sa3)
      rw [hZ]
      refine bodyPost_ret (v := .tuple #[.agg #[Str [110, 44, 44], Str no, .slice xa1 xs.length xa3, .slice sa1 sa2 sa3], .int .i64 0]) ?_ rfl ⟨⟨_, _, _, _, _, _, rfl⟩, hX⟩
      clear c0 c1 c2 c3 z0 z1 z2 z3 z4 z5 z6 z7
      simp [results, loadVar, loadCells, Tryz.isAgg46, Tryz.sizeOf46, Tryz.results12, go_sem, d0, d1, d2, d3]
end Go.Proofs.YteickmohloglhaaGreatDoor
