/-
  The texts that every chapter uses, in one: Fsg, Ctx, Ftx, Vtx.
-/
import Derived.BigGuardPart
import Derived.BigQuiet
import Derived.RegionTactic
import Derived.Deep.DrawnRows
import Derived.Deep.CutBlock
import Derived.Deep.DeepCutAuto
import Derived.Test.YtjkbigecejogdaaDoorRows
import Derived.Test.YtjkbigecejogdaaDoorExd
import Derived.Test.YtjkbigecejogdaaDoorScd
import Derived.Test.YtjkbigecejogdaaDoorScb
import Derived.Lib.ItoaLen
import Derived.Test.YtjkbigecejogdaaDoorRnd
import Derived.Test.YtjkbigecejogdaaDoorPst
import Derived.Test.YtjkbigecejogdaaDoorBkb
import Derived.Test.YtjkbigecejogdaaDoorPng
import Derived.Test.YtjkbigecejogdaaDoorKit
namespace Go.Proofs.YtjkbigecejogdaaDoor
open Go.RowKit
set_option maxRecDepth 100000
attribute [local go_sem ↓] Go.wp_at_zero Go.wp_at_succ
set_option linter.unusedVariables false
set_option linter.unusedSimpArgs false

/-- A first's head. -/
def fhdL (fl au : List UInt8) : List UInt8 := fl ++ 44 :: ((if au = [] then [] else 97 :: 61 :: escF au) ++ [44])
/-- A first's bare. -/
def fbaL (us no : List UInt8) (fs : List Pr) : List UInt8 := 110 :: 61 :: (escF us ++ 44 :: 114 :: 61 :: (no ++ extL fs))
def frtB (fl au us no : List UInt8) (fs : List Pr) : Bool :=
  ((fl == [110]) || (fl == [121])) && (valB (escF us) && ((decide (au = []) || valB (escF au)) && (nonF no && fs.all (rightE []))))
set_option maxHeartbeats 1000000 in
theorem fhead_any (fl au us no : List UInt8) (ao : Option Addr) (n cap : Nat) (h1 : fl.length ≤ 10000) (h2 : au.length ≤ 3000) (w : World) :
    Calls Tryd.prog 8 #[.agg #[Str fl, Str au, Str us, Str no, .slice ao n cap]] w fun e w' => e = .returned (Str (fhdL fl au)) ∧ Ext w w' := by
  obtain ⟨W1, hW1⟩ : ∃ W1, w.alloc (.cells #[Str fl, Str au, Str us, Str no, .slice ao n cap] 32) = W1 := ⟨_, rfl⟩
  have hx : Ext w W1 := by rw [← hW1]; exact Below.alloc (Below.refl _ _) (Nat.le_refl _) _
  have hc : W1.heap[w.heap.size]? = some (.cells #[Str fl, Str au, Str us, Str no, .slice ao n cap] 32 (0, 0)) := by rw [← hW1]; exact Array.getElem?_push_size
  obtain ⟨c0, c1, c2, c3, c4⟩ := cells5 hc
  have HX := Lib.hid hx
  clear hc hx
  by_cases hau : au = []
  · have e1 : (au == []) = true := by simp [hau]
    have e2 : (au != []) = false := by simp [hau]
    have HR := Lib.hid (show fhdL fl au = fl ++ [44, 44] by unfold fhdL; rw [if_pos hau]; rfl)
    rw [HR.out]
    clear hau
    go_enter Tryd.func8, Tryd.ntmps8
    go_wp2
    try rw [hW1]
    go_ret
    exact ⟨by simp, HX.out⟩
  · have e1 : (au == []) = false := by simp [hau]
    have e2 : (au != []) = true := by simp [hau]
    have HR := Lib.hid (show fhdL fl au = fl ++ 44 :: ((97 :: 61 :: escF au) ++ [44]) by unfold fhdL; rw [if_neg hau])
    have HE := Lib.hid (fun W => Escape_any au (by omega) W)
    have hel := escF_len au
    rw [HR.out]
    clear hau
    generalize escF au = ea at *
    go_enter Tryd.func8, Tryd.ntmps8
    go_wp2_with fail
    try rw [hW1]
    clear hW1
    refine (HE.out _).mono ?_
    rintro e W2 ⟨rfl, hx2⟩
    have HX2 := Lib.hid (ext_trans HX.out hx2)
    have d0 := ext_cell hx2 c0
    clear hx2 c0 c1 c2 c3 c4
    go_wp2
    go_ret
    exact ⟨by simp, HX2.out⟩
set_option maxHeartbeats 1000000 in
theorem fbare_any (fl au us no : List UInt8) (v : Value) (fs : List Pr) (h3 : us.length ≤ 3000) (h4 : no.length ≤ 10000) (hb : PrOk fs) (w : World) (hr : RowC 2 prC w v fs) :
    Calls Tryd.prog 19 #[.agg #[Str fl, Str au, Str us, Str no, v]] w fun e w' => e = .returned (Str (fbaL us no fs)) ∧ Ext w w' := by
  have HE := Lib.hid (fun W => Escape_any us (by omega) W)
  have HX := Lib.hid (fun W hr => extensions_any v fs hb W hr)
  have hel := escF_len us
  have hxl := extL_len2 fs hb
  have HBA := Lib.hid (show fbaL us no fs = 110 :: 61 :: (escF us ++ 44 :: 114 :: 61 :: (no ++ extL fs)) from rfl)
  rw [HBA.out]
  have HRW := Lib.hid hr
  obtain ⟨ao, cap, hv, hcap, hmax, hcl⟩ := rowP_shape hr
  subst hv
  clear hcl hmax hb hr HBA
  generalize escF us = eu at *
  generalize extL fs = ex at *
  obtain ⟨W1, hW1⟩ : ∃ W1, w.alloc (.cells #[Str fl, Str au, Str us, Str no, .slice ao fs.length cap] 32) = W1 := ⟨_, rfl⟩
  have hx : Ext w W1 := by rw [← hW1]; exact Below.alloc (Below.refl _ _) (Nat.le_refl _) _
  have hc : W1.heap[w.heap.size]? = some (.cells #[Str fl, Str au, Str us, Str no, .slice ao fs.length cap] 32 (0, 0)) := by rw [← hW1]; exact Array.getElem?_push_size
  obtain ⟨c0, c1, c2, c3, c4⟩ := cells5 hc
  have HX1 := Lib.hid hx
  have HR1 := Lib.hid (HRW.out.ext hx)
  clear hc hx HRW
  go_enter Tryd.func19, Tryd.ntmps19
  go_wp2
  try rw [hW1]
  clear hW1
  have d2 := ExtW.cell c2; have d3 := ExtW.cell c3; have d4 := ExtW.cell c4
  clear c0 c1 c2 c3 c4
  refine wp_region_ext (by kernel_rfl) (by kernel_rfl) ?_
  repeat (first
    | go_big_quiet_skip
    | (go_big_quiet_want; go_big_quiet_op; (try go_bits); first | go_big_quiet_on | go_big_quiet_call (first | exact Calls.ext_of _ (HE.out _) | exact Calls.ext_of (W := W1) _ (HX.out _ (HR1.out.ext (ExtW.h _))))))
  refine wpQuiet_nil ?_
  intro _ hw'
  obtain ⟨nq, hw''⟩ := hw'
  subst hw''
  go_wp2
  go_ret
  exact ⟨by simp, ext_trans HX1.out nq.h⟩
set_option maxHeartbeats 2000000 in
theorem fright_any (fl au us no : List UInt8) (v : Value) (fs : List Pr) (h2 : au.length ≤ 3000) (h3 : us.length ≤ 3000) (h4 : no.length ≤ 10000) (hb : PrOk fs) (w : World) (hr : RowC 2 prC w v fs) (hF : FormsAt w) :
    Calls Tryd.prog 39 #[.agg #[Str fl, Str au, Str us, Str no, v]] w fun e w' => e = .returned (.bool (frtB fl au us no fs)) ∧ Ext w w' := by
  have HEU := Lib.hid (fun W => Escape_any us (by omega) W)
  have HEA := Lib.hid (fun W => Escape_any au (by omega) W)
  have hlu := escF_len us
  have hla := escF_len au
  have HVU := Lib.hid (fun W hF => svalue_any (escF us) (by omega) W hF)
  have HVA := Lib.hid (fun W hF => svalue_any (escF au) (by omega) W hF)
  have HED := Lib.hid (fun W hr hF => extended_any v fs [] hb W hr hF)
  have HNO := Lib.hid (fun W => nonce_scram no (by omega) W)
  have HRT := Lib.hid (show frtB fl au us no fs = (((fl == [110]) || (fl == [121])) && (valB (escF us) && ((decide (au = []) || valB (escF au)) && (nonF no && fs.all (rightE []))))) from rfl)
  generalize frtB fl au us no fs = rt at *
  have HRW := Lib.hid hr; have HF := Lib.hid hF
  obtain ⟨ao, cap, hv, hcap, hmax, hcl⟩ := rowP_shape hr
  subst hv
  clear hcl hmax hb hr hF
  generalize valB (escF us) = vu at *
  generalize valB (escF au) = va at *
  generalize escF us = eu at *
  generalize escF au = ea at *
  generalize nonF no = nb at *
  generalize fs.all (rightE []) = xb at *
  obtain ⟨W1, hW1⟩ : ∃ W1, w.alloc (.cells #[Str fl, Str au, Str us, Str no, .slice ao fs.length cap] 32) = W1 := ⟨_, rfl⟩
  have hx : Ext w W1 := by rw [← hW1]; exact Below.alloc (Below.refl _ _) (Nat.le_refl _) _
  have hc : W1.heap[w.heap.size]? = some (.cells #[Str fl, Str au, Str us, Str no, .slice ao fs.length cap] 32 (0, 0)) := by rw [← hW1]; exact Array.getElem?_push_size
  obtain ⟨c0, c1, c2, c3, c4⟩ := cells5 hc
  have HX1 := Lib.hid hx
  have HR1 := Lib.hid (HRW.out.ext hx)
  have HF1 := Lib.hid (HF.out.ext hx)
  clear hc hx HRW HF
  go_enter Tryd.func39, Tryd.ntmps39
  go_wp2_with fail
  try rw [hW1]
  clear hW1
  refine (HEU.out _).mono ?_
  rintro e W2 ⟨rfl, hx2⟩
  go_wp2_with fail
  refine (HVU.out _ (HF1.out.ext hx2)).mono ?_
  rintro e W3 ⟨rfl, hx3⟩
  have hx13 := ext_trans hx2 hx3
  have HX3 := Lib.hid (ext_trans HX1.out hx13)
  have HR3 := Lib.hid (HR1.out.ext hx13)
  have HF3 := Lib.hid (HF1.out.ext hx13)
  have d0 := ext_cell hx13 c0; have d1 := ext_cell hx13 c1; have d3 := ext_cell hx13 c3; have d4 := ext_cell hx13 c4
  clear hx2 hx3 hx13 c0 c1 c2 c3 c4 HX1 HR1 HF1
  go_upto_region 2 with fail
  go_cut [4] from 18 (fun s4 wx => s4 = .bool (decide (au = []) || va) ∧ Hid (Ext W3 wx))
  case first =>
    by_cases hau : au = []
    · have e1 : (au == []) = true := by simp [hau]
      have HD := Lib.hid (decide_eq_true hau)
      clear hau
      go_wp2
      go_meet
      exact ⟨by rw [HD.out]; rfl, Lib.hid (Below.refl _ _)⟩
    · have e1 : (au == []) = false := by simp [hau]
      have HD := Lib.hid (decide_eq_false hau)
      clear hau
      go_wp2_with fail
      refine (HEA.out _).mono ?_
      rintro e W4 ⟨rfl, hx4⟩
      go_wp2_with fail
      refine (HVA.out _ (HF3.out.ext hx4)).mono ?_
      rintro e W5 ⟨rfl, hx5⟩
      have HX5 := Lib.hid (ext_trans hx4 hx5)
      clear hx4 hx5 d0 d1 d3 d4
      go_wp2
      go_meet
      exact ⟨by rw [HD.out]; rfl, HX5⟩
  case rest =>
    obtain ⟨rfl, HXC⟩ := hcut
    have HX4 := Lib.hid (ext_trans HX3.out HXC.out)
    have HR4 := Lib.hid (HR3.out.ext HXC.out)
    have HF4 := Lib.hid (HF3.out.ext HXC.out)
    replace d0 := ext_cell HXC.out d0; replace d1 := ext_cell HXC.out d1; replace d3 := ext_cell HXC.out d3; replace d4 := ext_cell HXC.out d4
    clear HXC HX3 HR3 HF3
    generalize (decide (au = []) || va) = au2 at *
    obtain ⟨b1, hb1⟩ : ∃ b, (fl == [110]) = b := ⟨_, rfl⟩
    obtain ⟨b2, hb2⟩ : ∃ b, (fl == [121]) = b := ⟨_, rfl⟩
    rw [hb1, hb2] at HRT
    have HRR := Lib.hid HRT.out
    clear HRT
    by_cases hall : ((b1 || b2) && (vu && au2)) = true
    · have hrt : rt = (nb && xb) := by
        rw [HRR.out]
        cases b1 <;> cases b2 <;> cases vu <;> cases au2 <;> simp_all
      clear HRR
      have HRT2 := Lib.hid hrt
      clear hrt
      cases nb with
      | false =>
        have h9 : rt = false := by rw [HRT2.out]; rfl
        subst h9
        clear HRT2
        cases b1 <;> cases b2 <;> cases vu <;> cases au2 <;> first | (simp at hall; done) | (clear hall; go_wp2_with fail; refine (HNO.out _).mono ?_; rintro e W5 ⟨rfl, hw⟩; subst W5; go_wp2; go_ret; exact ⟨rfl, HX4.out⟩)
      | true =>
        have h9 : rt = xb := by rw [HRT2.out]; rfl
        subst h9
        clear HRT2
        cases b1 <;> cases b2 <;> cases vu <;> cases au2 <;> first | (simp at hall; done) | (clear hall; go_wp2_with fail; refine (HNO.out _).mono ?_; rintro e W5 ⟨rfl, hw⟩; subst W5; go_wp2_with fail; refine (HED.out _ HR4.out HF4.out).mono ?_; rintro e W6 ⟨rfl, hx6⟩; have HX6 := Lib.hid (ext_trans HX4.out hx6); clear hx6; go_wp2; go_ret; exact ⟨rfl, HX6.out⟩)
    · have hrt : rt = false := by
        rw [HRR.out]
        cases b1 <;> cases b2 <;> cases vu <;> cases au2 <;> simp_all
      clear HRR
      subst hrt
      cases b1 <;> cases b2 <;> cases vu <;> cases au2 <;> first | (exfalso; apply hall; rfl) | (clear hall; go_wp2; go_ret; exact ⟨rfl, HX4.out⟩)
set_option maxHeartbeats 1000000 in
theorem ftext_any (fl au us no : List UInt8) (v : Value) (fs : List Pr) (h1 : fl.length ≤ 10000) (h2 : au.length ≤ 3000) (h3 : us.length ≤ 3000) (h4 : no.length ≤ 10000) (hb : PrOk fs) (w : World) (hr : RowC 2 prC w v fs) (hF : FormsAt w) :
    Calls Tryd.prog 15 #[.agg #[Str fl, Str au, Str us, Str no, v]] w fun e w' => e = .returned (.tuple #[Str (sizedV (fhdL fl au ++ fbaL us no fs) (frtB fl au us no fs)).1, .int .i64 (sizedV (fhdL fl au ++ fbaL us no fs) (frtB fl au us no fs)).2]) ∧ Ext w w' := by
  have HRW := Lib.hid hr; have HF := Lib.hid hF
  obtain ⟨ao, cap, hv, hcap, hmax, hcl⟩ := rowP_shape hr
  subst hv
  have HH := Lib.hid (fun W => fhead_any fl au us no ao fs.length cap h1 h2 W)
  have HB := Lib.hid (fun W hr => fbare_any fl au us no (.slice ao fs.length cap) fs h3 h4 hb W hr)
  have HR := Lib.hid (fun W hr hF => fright_any fl au us no (.slice ao fs.length cap) fs h2 h3 h4 hb W hr hF)
  have HS := Lib.hid (fun W => sized_any (fhdL fl au ++ fbaL us no fs) (frtB fl au us no fs) W)
  have hl1 : (fhdL fl au).length ≤ 20010 := by
    have := escF_len au
    unfold fhdL; split <;> simp <;> omega
  have hl2 : (fbaL us no fs).length ≤ 60000000 := by
    have := escF_len us; have := extL_len2 fs hb
    unfold fbaL; simp; omega
  clear hcl hmax hb hr hF
  generalize fhdL fl au = hd at *
  generalize fbaL us no fs = ba at *
  generalize frtB fl au us no fs = rt at *
  generalize sizedV (hd ++ ba) rt = z at *
  obtain ⟨z1, z2⟩ := z
  simp only at HS ⊢
  obtain ⟨W1, hW1⟩ : ∃ W1, w.alloc (.cells #[Str fl, Str au, Str us, Str no, .slice ao fs.length cap] 32) = W1 := ⟨_, rfl⟩
  have hx : Ext w W1 := by rw [← hW1]; exact Below.alloc (Below.refl _ _) (Nat.le_refl _) _
  have hc : W1.heap[w.heap.size]? = some (.cells #[Str fl, Str au, Str us, Str no, .slice ao fs.length cap] 32 (0, 0)) := by rw [← hW1]; exact Array.getElem?_push_size
  obtain ⟨c0, c1, c2, c3, c4⟩ := cells5 hc
  have HX1 := Lib.hid hx
  have HR1 := Lib.hid (HRW.out.ext hx)
  have HF1 := Lib.hid (HF.out.ext hx)
  clear hc hx HRW HF
  go_enter Tryd.func15, Tryd.ntmps15
  go_wp2
  try rw [hW1]
  clear hW1
  have d0 := ExtW.cell c0; have d1 := ExtW.cell c1; have d2 := ExtW.cell c2; have d3 := ExtW.cell c3; have d4 := ExtW.cell c4
  clear c0 c1 c2 c3 c4
  refine wp_region_ext (by kernel_rfl) (by kernel_rfl) ?_
  repeat (first
    | go_big_quiet_skip
    | (go_big_quiet_want; go_big_quiet_op; (try go_bits); first | go_big_quiet_on | go_big_quiet_call (first | exact Calls.ext_of _ (HH.out _) | exact Calls.ext_of (W := W1) _ (HB.out _ (HR1.out.ext (ExtW.h _))) | exact Calls.ext_of _ (HS.out _) | exact Calls.ext_of (W := W1) _ (HR.out _ (HR1.out.ext (ExtW.h _)) (HF1.out.ext (ExtW.h _))))))
  refine wpQuiet_nil ?_
  intro _ hw'
  obtain ⟨nq, hw''⟩ := hw'
  subst hw''
  go_wp2
  go_ret2
  exact ⟨rfl, ext_trans HX1.out nq.h⟩
/-- What (First).Bare answers. -/
def fbvV (fl au us no : List UInt8) (fs : List Pr) : List UInt8 × Int :=
  if (sizedV (fhdL fl au ++ fbaL us no fs) (frtB fl au us no fs)).2 = 0 then (fbaL us no fs, 0) else ([], (sizedV (fhdL fl au ++ fbaL us no fs) (frtB fl au us no fs)).2)
set_option maxHeartbeats 1000000 in
theorem fbare2_any (fl au us no : List UInt8) (v : Value) (fs : List Pr) (h1 : fl.length ≤ 10000) (h2 : au.length ≤ 3000) (h3 : us.length ≤ 3000) (h4 : no.length ≤ 10000) (hb : PrOk fs) (w : World) (hr : RowC 2 prC w v fs) (hF : FormsAt w) :
    Calls Tryd.prog 7 #[.agg #[Str fl, Str au, Str us, Str no, v]] w fun e w' => e = .returned (.tuple #[Str (fbvV fl au us no fs).1, .int .i64 (fbvV fl au us no fs).2]) ∧ Ext w w' := by
  have HRW := Lib.hid hr; have HF := Lib.hid hF
  obtain ⟨ao, cap, hv, hcap, hmax, hcl⟩ := rowP_shape hr
  subst hv
  have HT := Lib.hid (fun W hr hF => ftext_any fl au us no (.slice ao fs.length cap) fs h1 h2 h3 h4 hb W hr hF)
  have HB := Lib.hid (fun W hr => fbare_any fl au us no (.slice ao fs.length cap) fs h3 h4 hb W hr)
  have HZ := Lib.hid (show fbvV fl au us no fs = if (sizedV (fhdL fl au ++ fbaL us no fs) (frtB fl au us no fs)).2 = 0 then (fbaL us no fs, 0) else ([], (sizedV (fhdL fl au ++ fbaL us no fs) (frtB fl au us no fs)).2) from rfl)
  clear hcl hmax hb hr hF
  obtain ⟨z, hz⟩ : ∃ z, sizedV (fhdL fl au ++ fbaL us no fs) (frtB fl au us no fs) = z := ⟨_, rfl⟩
  rw [hz] at HT HZ
  clear hz
  generalize fbvV fl au us no fs = bv at *
  generalize fbaL us no fs = ba at *
  obtain ⟨z1, z2⟩ := z
  obtain ⟨b1, b2⟩ := bv
  simp only at HT HZ ⊢
  obtain ⟨W1, hW1⟩ : ∃ W1, w.alloc (.cells #[Str fl, Str au, Str us, Str no, .slice ao fs.length cap] 32) = W1 := ⟨_, rfl⟩
  have hx : Ext w W1 := by rw [← hW1]; exact Below.alloc (Below.refl _ _) (Nat.le_refl _) _
  have hc : W1.heap[w.heap.size]? = some (.cells #[Str fl, Str au, Str us, Str no, .slice ao fs.length cap] 32 (0, 0)) := by rw [← hW1]; exact Array.getElem?_push_size
  obtain ⟨c0, c1, c2, c3, c4⟩ := cells5 hc
  have HX1 := Lib.hid hx
  have HR1 := Lib.hid (HRW.out.ext hx)
  have HF1 := Lib.hid (HF.out.ext hx)
  clear hc hx HRW HF
  go_enter Tryd.func7, Tryd.ntmps7
  go_wp2_with fail
  try rw [hW1]
  clear hW1
  refine (HT.out _ HR1.out HF1.out).mono ?_
  rintro e W2 ⟨rfl, hx2⟩
  have d0 := ext_cell hx2 c0; have d1 := ext_cell hx2 c1; have d2 := ext_cell hx2 c2; have d3 := ext_cell hx2 c3; have d4 := ext_cell hx2 c4
  have HX2 := Lib.hid (ext_trans HX1.out hx2)
  have HR2 := Lib.hid (HR1.out.ext hx2)
  clear c0 c1 c2 c3 c4 hx2 HX1 HR1
  by_cases hz : z2 = 0
  · have h := HZ.out
    rw [if_pos hz] at h
    injection h with h1 h2
    subst h1 h2 hz
    go_wp2_with fail
    refine (HB.out _ HR2.out).mono ?_
    rintro e W3 ⟨rfl, hx3⟩
    have HX3 := Lib.hid (ext_trans HX2.out hx3)
    clear hx3
    go_wp2
    go_ret2
    exact ⟨rfl, HX3.out⟩
  · have h := HZ.out
    rw [if_neg hz] at h
    have hz2 : (z2 != 0) = true := by simp [hz]
    have hz3 : (z2 == 0) = false := by simp [hz]
    injection h with h1 h2
    subst h1 h2
    clear hz
    go_wp2
    go_ret2
    exact ⟨rfl, HX2.out⟩
end Go.Proofs.YtjkbigecejogdaaDoor

namespace Go.Proofs.YtjkbigecejogdaaDoor
open Go.RowKit
set_option maxRecDepth 100000
attribute [local go_sem ↓] Go.wp_at_zero Go.wp_at_succ
set_option linter.unusedVariables false
set_option linter.unusedSimpArgs false
theorem allL_len (l : List UInt8) (h : l.length ≤ 10000) : (allL plain true l).length ≤ 20000 := by
  rw [allL_true, List.length_append, List.length_replicate]
  rw [refN_len]
  omega
/-- A challenge's text. -/
def chtL (no sl : List UInt8) (it : Int) (fs : List Pr) : List UInt8 := [114, 61] ++ no ++ [44, 115, 61] ++ allL plain true sl ++ [44, 105, 61] ++ Lib.itoa it ++ extL fs
def chtB (no sl : List UInt8) (it : Int) (fs : List Pr) : Bool := nonF no && (decide (1 ≤ sl.length) && (decide (sl.length ≤ 32) && (decide (1 ≤ it) && (decide (it ≤ 64) && fs.all (rightE [])))))
set_option maxHeartbeats 4000000 in
theorem ctext_any (no sl : List UInt8) (it : Int) (sv v : Value) (fs : List Pr) (h1 : no.length ≤ 10000) (h2 : sl.length ≤ 10000) (hi1 : -9223372036854775808 ≤ it) (hi2 : it ≤ 9223372036854775807) (hb : PrOk fs) (w : World) (hs : SlB w sv sl) (hr : RowC 2 prC w v fs) (hF : FormsAt w) (hT : TabW w) :
    Calls Tryd.prog 16 #[.agg #[Str no, sv, .int .i64 it, v]] w fun e w' => e = .returned (.tuple #[Str (sizedV (chtL no sl it fs) (chtB no sl it fs)).1, .int .i64 (sizedV (chtL no sl it fs) (chtB no sl it fs)).2]) ∧ Ext w w' := by
  have HEN := Lib.hid (fun W (h : SlB W sv sl) => Encode_any sv sl W h h2)
  have HRW := Lib.hid hr; have HF := Lib.hid hF; have HSL := Lib.hid hs; have HT := Lib.hid hT
  obtain ⟨ao, cap, hv, hcap, hmax, hcl⟩ := rowP_shape hr
  subst hv
  obtain ⟨so, scap, hsv, hsc, -⟩ : ∃ ao cap, sv = .slice ao sl.length cap ∧ sl.length ≤ cap ∧ True := by
    obtain ⟨a, c, h, h', _⟩ := hs
    rw [List.length_map] at h h'
    exact ⟨a, c, h, h', trivial⟩
  subst hsv
  have HX := Lib.hid (fun W hr => extensions_any (.slice ao fs.length cap) fs hb W hr)
  have HED := Lib.hid (fun W hr hF => extended_any (.slice ao fs.length cap) fs [] hb W hr hF)
  have HNO := Lib.hid (fun W => nonce_scram no (by omega) W)
  have HIT := Lib.hid (fun W hT => itoa_any it hi1 hi2 W hT)
  have HS := Lib.hid (fun W => sized_any (chtL no sl it fs) (chtB no sl it fs) W)
  have HTL := Lib.hid (show chtL no sl it fs = [114, 61] ++ no ++ [44, 115, 61] ++ allL plain true sl ++ [44, 105, 61] ++ Lib.itoa it ++ extL fs from rfl)
  have HTB := Lib.hid (show chtB no sl it fs = (nonF no && (decide (1 ≤ sl.length) && (decide (sl.length ≤ 32) && (decide (1 ≤ it) && (decide (it ≤ 64) && fs.all (rightE [])))))) from rfl)
  have hl1 := allL_len sl h2
  have hl2 := extL_len2 fs hb
  have hl3 : (Lib.itoa it).length ≤ 100 := by have := Lib.itoa_length_le it hi1 hi2; omega
  clear hcl hmax hb hr hF hs hT
  generalize chtB no sl it fs = tb at *
  generalize sizedV (chtL no sl it fs) tb = z at *
  obtain ⟨z1, z2⟩ := z
  simp only at HS ⊢
  generalize chtL no sl it fs = tl at *
  generalize allL plain true sl = es at *
  generalize Lib.itoa it = ti at *
  generalize extL fs = ex at *
  generalize nonF no = nb at *
  generalize fs.all (rightE []) = xb at *
  obtain ⟨W1, hW1⟩ : ∃ W1, w.alloc (.cells #[Str no, .slice so sl.length scap, .int .i64 it, .slice ao fs.length cap] 46) = W1 := ⟨_, rfl⟩
  have hx : Ext w W1 := by rw [← hW1]; exact Below.alloc (Below.refl _ _) (Nat.le_refl _) _
  have hc : W1.heap[w.heap.size]? = some (.cells #[Str no, .slice so sl.length scap, .int .i64 it, .slice ao fs.length cap] 46 (0, 0)) := by rw [← hW1]; exact Array.getElem?_push_size
  obtain ⟨c0, c1, c2, c3⟩ := cells4s hc
  have HX1 := Lib.hid hx
  have HR1 := Lib.hid (HRW.out.ext hx)
  have HF1 := Lib.hid (HF.out.ext hx)
  have HS1 := Lib.hid (HSL.out.ext hx)
  have HT1 := Lib.hid (HT.out.ext hx)
  clear hc hx HRW HF HSL HT
  go_enter Tryd.func16, Tryd.ntmps16
  go_upto_region 1 with fail
  try rw [hW1]
  clear hW1
  go_cut [4] from 5 (fun s4 wx => s4 = .bool tb ∧ Hid (Ext W1 wx))
  case first =>
    go_wp2_with fail
    refine (HNO.out _).mono ?_
    rintro e V ⟨rfl, hw⟩
    subst V
    cases nb with
    | false =>
      have hd : tb = false := by rw [HTB.out]; rfl
      subst hd
      clear HTB
      go_wp2
      go_meet
      exact ⟨rfl, Lib.hid (ext_refl _)⟩
    | true =>
      by_cases q1 : 1 ≤ sl.length ∧ sl.length ≤ 32 ∧ 1 ≤ it ∧ it ≤ 64
      · have g1 : (1 : Int) ≤ (sl.length : Int) := by omega
        have g2 : (sl.length : Int) ≤ 32 := by omega
        have g3 : (1 : Int) ≤ it := q1.2.2.1
        have g4 : it ≤ 64 := q1.2.2.2
        have hd : tb = xb := by rw [HTB.out]; simp [q1.1, q1.2.1, q1.2.2.1, q1.2.2.2]
        subst hd
        clear HTB q1
        go_wp2_with fail
        refine (HED.out _ HR1.out HF1.out).mono ?_
        rintro e W5 ⟨rfl, hx5⟩
        have HX5 := Lib.hid hx5
        clear hx5 c0 c1 c2 c3
        go_wp2
        go_meet
        exact ⟨rfl, HX5⟩
      · have hd : tb = false := by
          rw [HTB.out]
          rw [Bool.eq_false_iff]
          intro h
          simp only [Bool.and_eq_true, decide_eq_true_eq] at h
          exact q1 ⟨h.2.1, h.2.2.1, h.2.2.2.1, h.2.2.2.2.1⟩
        subst hd
        clear HTB
        by_cases g1 : (1 : Int) ≤ (sl.length : Int)
        · by_cases g2 : (sl.length : Int) ≤ 32
          · by_cases g3 : (1 : Int) ≤ it
            · have g4 : ¬ it ≤ 64 := fun h => q1 ⟨by omega, by omega, g3, h⟩
              clear q1
              go_wp2
              all_goals (go_meet; exact ⟨rfl, Lib.hid (ext_refl _)⟩)
            · clear q1
              go_wp2
              all_goals (go_meet; exact ⟨rfl, Lib.hid (ext_refl _)⟩)
          · clear q1
            go_wp2
            all_goals (go_meet; exact ⟨rfl, Lib.hid (ext_refl _)⟩)
        · clear q1
          go_wp2
          all_goals (go_meet; exact ⟨rfl, Lib.hid (ext_refl _)⟩)
  case rest =>
    obtain ⟨rfl, HXC⟩ := hcut
    have HX4 := Lib.hid (ext_trans HX1.out HXC.out)
    have HR4 := Lib.hid (HR1.out.ext HXC.out)
    have HS4 := Lib.hid (HS1.out.ext HXC.out)
    have HT4 := Lib.hid (HT1.out.ext HXC.out)
    replace c0 := ext_cell HXC.out c0; replace c1 := ext_cell HXC.out c1; replace c2 := ext_cell HXC.out c2; replace c3 := ext_cell HXC.out c3
    have htl := HTL.out
    simp only [List.append_assoc, List.cons_append, List.nil_append] at htl
    have HTL2 := Lib.hid htl
    clear HXC HX1 HR1 HS1 HT1 HTL htl HTB
    have d0 := ExtW.cell c0; have d1 := ExtW.cell c1; have d2 := ExtW.cell c2; have d3 := ExtW.cell c3
    clear c0 c1 c2 c3
    have hte := HTL2.out
    subst hte
    go_upto_region 2 with fail
    refine wp_region_ext (by kernel_rfl) (by kernel_rfl) ?_
    repeat (first
      | go_big_quiet_skip
      | (go_big_quiet_want; go_big_quiet_op; (try go_bits); first | go_big_quiet_on | go_big_quiet_call (first | exact Calls.ext_of (W := wc) _ (HEN.out _ (HS4.out.ext (ExtW.h _))) | exact Calls.ext_of (W := wc) _ (HIT.out _ (HT4.out.ext (ExtW.h _))) | exact Calls.ext_of (W := wc) _ (HX.out _ (HR4.out.ext (ExtW.h _))) | exact Calls.ext_of _ (HS.out _))))
    refine wpQuiet_nil ?_
    intro _ hw'
    obtain ⟨nq, hw''⟩ := hw'
    subst hw''
    go_wp2
    go_ret2
    exact ⟨rfl, ext_trans HX4.out nq.h⟩
end Go.Proofs.YtjkbigecejogdaaDoor

namespace Go.Proofs.YtjkbigecejogdaaDoor
open Go.RowKit
set_option maxRecDepth 100000
attribute [local go_sem ↓] Go.wp_at_zero Go.wp_at_succ
set_option linter.unusedVariables false
set_option linter.unusedSimpArgs false
/-- A final's text without its proof. -/
def finL (hd no : List UInt8) (fs : List Pr) : List UInt8 := 99 :: 61 :: (allL plain true hd ++ 44 :: 114 :: 61 :: (no ++ extL fs))
set_option maxHeartbeats 4000000 in
theorem without_any (hd no : List UInt8) (pv v : Value) (fs : List Pr) (h1 : hd.length ≤ 10000) (h2 : no.length ≤ 10000) (pn : Nat) (po : Option Addr) (pc : Nat) (hpv : pv = .slice po pn pc) (hb : PrOk fs) (w : World) (hr : RowC 2 prC w v fs) :
    Calls Tryd.prog 24 #[.agg #[Str hd, Str no, v, pv]] w fun e w' => e = .returned (Str (finL hd no fs)) ∧ Ext w w' := by
  subst hpv
  have HRW := Lib.hid hr
  obtain ⟨ao, cap, hv, hcap, hmax, hcl⟩ := rowP_shape hr
  subst hv
  have HEN := Lib.hid (fun v W (h : SlB W v hd) => Encode_any v hd W h h1)
  have HX := Lib.hid (fun W hr => extensions_any (.slice ao fs.length cap) fs hb W hr)
  have HTL := Lib.hid (show finL hd no fs = 99 :: 61 :: (allL plain true hd ++ 44 :: 114 :: 61 :: (no ++ extL fs)) from rfl)
  have hl1 := allL_len hd h1
  have hl2 := extL_len2 fs hb
  clear hcl hmax hb hr
  generalize finL hd no fs = tl at *
  generalize allL plain true hd = es at *
  generalize extL fs = ex at *
  obtain ⟨W1, hW1⟩ : ∃ W1, w.alloc (.cells #[Str hd, Str no, .slice ao fs.length cap, .slice po pn pc] 37) = W1 := ⟨_, rfl⟩
  have hx : Ext w W1 := by rw [← hW1]; exact Below.alloc (Below.refl _ _) (Nat.le_refl _) _
  have hc : W1.heap[w.heap.size]? = some (.cells #[Str hd, Str no, .slice ao fs.length cap, .slice po pn pc] 37 (0, 0)) := by rw [← hW1]; exact Array.getElem?_push_size
  have HX1 := Lib.hid hx
  have HR1 := Lib.hid (HRW.out.ext hx)
  have HC1 := Lib.hid hc
  generalize hq : w.heap.size = q at *
  clear hc hx HRW
  go_enter Tryd.func24, Tryd.ntmps24
  go_upto_region 1 with fail
  try rw [hW1]
  clear hW1
  have hte := HTL.out
  subst hte
  -- inv {'ops': [('fa',3,1,'.pointer (some ⟨q, 0, none⟩)','.pointer (some ⟨q, 0, none⟩)'),('lf',4,0,'Str hd','have d0 := (cells4s HQ).1'),('callx',5,[1],"RAW:obtain ⟨cb, w1, hcv, hx1, hr1⟩ := bytes_of_str (P := Tryd.prog) w' 9 23 5 hd (by unfold maxLen; omega) Tryd.underlying9 Tryd.underlying23 Tryd.underlying5;; go_simp","SlB w' (u 5) hd",3),('raw',6,[],"have c2 := C2 (hp.of 2 (by kernel_rfl)) hL;; have e2 := hT 5;; go_simp;; refine (HEN.out _ w' c2).mono ?_;; rintro e w1 ⟨he, hx1⟩;; subst he",'Str es'),('op',7,[3],'Str (99 :: 61 :: es)'),('op',8,[4],'Str (99 :: 61 :: (es ++ [44, 114, 61]))'),('fa',9,1,'.pointer (some ⟨q, 0, none⟩)','.pointer (some ⟨q, 1, none⟩)'),('lf',10,6,'Str no','have d0 := (cells4s HQ).2.1'),('op',11,[5,7],'Str (99 :: 61 :: (es ++ 44 :: 114 :: 61 :: no))'),('fa',12,1,'.pointer (some ⟨q, 0, none⟩)','.pointer (some ⟨q, 2, none⟩)'),('lf',13,9,'.slice ao fs.length cap','have d0 := (cells4s HQ).2.2.1'),('call',14,[10],"HX.out w' R0",'Str ex'),('op',15,[8,11],'Str (99 :: 61 :: (es ++ 44 :: 114 :: 61 :: (no ++ ex)))'),('mw',2,12,'Str (99 :: 61 :: (es ++ 44 :: 114 :: 61 :: (no ++ ex)))')], 'W': [('E0',"Ext W1 w'",'Below.drew (Below.refl _ _)'),('R0',"RowC 2 prC w' (.slice ao fs.length cap) fs",'HR1.out.ext (Below.drew (Below.refl _ _))'),('HQ',"w'.heap[q]? = some (.cells [Str hd, Str no, .slice ao fs.length cap, .slice po pn pc].toArray 37 (0, 0))",'ext_at (Below.drew (Below.refl _ _)) HC1.out')], 'over':{3:{'E0':'ext_trans E0 hx1','R0':'R0.ext hx1','HQ':'ext_at hx1 HQ'}}, 'keephall':1}
  refine wp_region_any (by kernel_rfl) ?_
  change wpAny _ _ _ _ _ _ _ (World.drew _)
  refine wpAny_inv (n := 14) [3, 4, 5, 6, 7, 8, 9, 10, 11, 12, 13, 14, 15, 2] (fun u L w' =>
      (L 0 = true → u 3 = .pointer (some ⟨q, 0, none⟩)) ∧
      (L 1 = true → u 4 = Str hd) ∧
      (L 2 = true → L 3 = false → SlB w' (u 5) hd) ∧
      (L 3 = true → u 6 = Str es) ∧
      (L 4 = true → u 7 = Str (99 :: 61 :: es)) ∧
      (L 5 = true → u 8 = Str (99 :: 61 :: (es ++ [44, 114, 61]))) ∧
      (L 6 = true → u 9 = .pointer (some ⟨q, 1, none⟩)) ∧
      (L 7 = true → u 10 = Str no) ∧
      (L 8 = true → u 11 = Str (99 :: 61 :: (es ++ 44 :: 114 :: 61 :: no))) ∧
      (L 9 = true → u 12 = .pointer (some ⟨q, 2, none⟩)) ∧
      (L 10 = true → u 13 = .slice ao fs.length cap) ∧
      (L 11 = true → u 14 = Str ex) ∧
      (L 12 = true → u 15 = Str (99 :: 61 :: (es ++ 44 :: 114 :: 61 :: (no ++ ex)))) ∧
      (L 13 = true → u 2 = Str (99 :: 61 :: (es ++ 44 :: 114 :: 61 :: (no ++ ex)))) ∧
      (Ext W1 w') ∧
      (RowC 2 prC w' (.slice ao fs.length cap) fs) ∧
      (w'.heap[q]? = some (.cells [Str hd, Str no, .slice ao fs.length cap, .slice po pn pc].toArray 37 (0, 0))))
    (by rfl) (by kernel_rfl) (by kernel_rfl) (by rfl) ?_ ?_ ?_
  · exact ⟨(fun h => by cases h), (fun h => by cases h), (fun h => by cases h), (fun h => by cases h), (fun h => by cases h), (fun h => by cases h), (fun h => by cases h), (fun h => by cases h), (fun h => by cases h), (fun h => by cases h), (fun h => by cases h), (fun h => by cases h), (fun h => by cases h), (fun h => by cases h), Below.drew (Below.refl _ _), HR1.out.ext (Below.drew (Below.refl _ _)), ext_at (Below.drew (Below.refl _ _)) HC1.out⟩
  · refine ⟨⟨⟨⟨⟨⟨⟨⟨⟨⟨⟨⟨⟨⟨trivial, ?_⟩, ?_⟩, ?_⟩, ?_⟩, ?_⟩, ?_⟩, ?_⟩, ?_⟩, ?_⟩, ?_⟩, ?_⟩, ?_⟩, ?_⟩, ?_⟩
    · refine stepOk_some (i := 0) (by rfl) (by rfl) ?_
      rintro u L T w' hT hu hL hp hcl ⟨C0, C1, C2, C3, C4, C5, C6, C7, C8, C9, C10, C11, C12, C13, E0, R0, HQ⟩ K hK
      have e1 : u 1 = .pointer (some ⟨q, 0, none⟩) := hu 1 (by decide)
      go_simp
      refine hK _ _ ?_
      exact ⟨fun _ => rfl, fun h => C1 (by simpa using h), fun h h2 => C2 (by simpa using h) (by simpa using h2), fun h => C3 (by simpa using h), fun h => C4 (by simpa using h), fun h => C5 (by simpa using h), fun h => C6 (by simpa using h), fun h => C7 (by simpa using h), fun h => C8 (by simpa using h), fun h => C9 (by simpa using h), fun h => C10 (by simpa using h), fun h => C11 (by simpa using h), fun h => C12 (by simpa using h), fun h => C13 (by simpa using h), E0, R0, HQ⟩
    · refine stepOk_some (i := 1) (by rfl) (by rfl) ?_
      rintro u L T w' hT hu hL hp hcl ⟨C0, C1, C2, C3, C4, C5, C6, C7, C8, C9, C10, C11, C12, C13, E0, R0, HQ⟩ K hK
      have e0 := C0 (hp.of 0 (by kernel_rfl))
      have d0 := (cells4s HQ).1
      go_simp
      refine hK _ _ ?_
      exact ⟨fun h => C0 (by simpa using h), fun _ => rfl, fun h h2 => C2 (by simpa using h) (by simpa using h2), fun h => C3 (by simpa using h), fun h => C4 (by simpa using h), fun h => C5 (by simpa using h), fun h => C6 (by simpa using h), fun h => C7 (by simpa using h), fun h => C8 (by simpa using h), fun h => C9 (by simpa using h), fun h => C10 (by simpa using h), fun h => C11 (by simpa using h), fun h => C12 (by simpa using h), fun h => C13 (by simpa using h), E0, R0, HQ⟩
    · refine stepOk_some (i := 2) (by rfl) (by rfl) ?_
      rintro u L T w' hT hu hL hp hcl ⟨C0, C1, C2, C3, C4, C5, C6, C7, C8, C9, C10, C11, C12, C13, E0, R0, HQ⟩ K hK
      have e1 := C1 (hp.of 1 (by kernel_rfl))
      obtain ⟨cb, w1, hcv, hx1, hr1⟩ := bytes_of_str (P := Tryd.prog) w' 9 23 5 hd (by unfold maxLen; omega) Tryd.underlying9 Tryd.underlying23 Tryd.underlying5
      go_simp
      refine hK _ _ ?_
      exact ⟨fun h => C0 (by simpa using h), fun h => C1 (by simpa using h), fun _ _ => hr1, fun h => C3 (by simpa using h), fun h => C4 (by simpa using h), fun h => C5 (by simpa using h), fun h => C6 (by simpa using h), fun h => C7 (by simpa using h), fun h => C8 (by simpa using h), fun h => C9 (by simpa using h), fun h => C10 (by simpa using h), fun h => C11 (by simpa using h), fun h => C12 (by simpa using h), fun h => C13 (by simpa using h), ext_trans (E0) hx1, (R0).ext hx1, ext_at hx1 (HQ)⟩
    · refine stepOk_some (i := 3) (by rfl) (by rfl) ?_
      rintro u L T w' hT hu hL hp hcl ⟨C0, C1, C2, C3, C4, C5, C6, C7, C8, C9, C10, C11, C12, C13, E0, R0, HQ⟩ K hK
      have c2 := C2 (hp.of 2 (by kernel_rfl)) hL
      have e2 := hT 5
      go_simp
      refine (HEN.out _ w' c2).mono ?_
      rintro e w1 ⟨he, hx1⟩
      subst he
      refine hK _ _ ?_
      exact ⟨fun h => C0 (by simpa using h), fun h => C1 (by simpa using h), fun h h2 => absurd h2 (by simp), fun _ => rfl, fun h => C4 (by simpa using h), fun h => C5 (by simpa using h), fun h => C6 (by simpa using h), fun h => C7 (by simpa using h), fun h => C8 (by simpa using h), fun h => C9 (by simpa using h), fun h => C10 (by simpa using h), fun h => C11 (by simpa using h), fun h => C12 (by simpa using h), fun h => C13 (by simpa using h), ext_trans E0 hx1, R0.ext hx1, ext_at hx1 HQ⟩
    · refine stepOk_some (i := 4) (by rfl) (by rfl) ?_
      rintro u L T w' hT hu hL hp hcl ⟨C0, C1, C2, C3, C4, C5, C6, C7, C8, C9, C10, C11, C12, C13, E0, R0, HQ⟩ K hK
      have e3 := C3 (hp.of 3 (by kernel_rfl))
      go_simp
      try go_bits
      try (rw [if_neg (by omega)]; go_simp)
      try (rw [if_pos (by omega)]; go_simp)
      refine hK _ _ ?_
      exact ⟨fun h => C0 (by simpa using h), fun h => C1 (by simpa using h), fun h h2 => C2 (by simpa using h) (by simpa using h2), fun h => C3 (by simpa using h), fun _ => rfl, fun h => C5 (by simpa using h), fun h => C6 (by simpa using h), fun h => C7 (by simpa using h), fun h => C8 (by simpa using h), fun h => C9 (by simpa using h), fun h => C10 (by simpa using h), fun h => C11 (by simpa using h), fun h => C12 (by simpa using h), fun h => C13 (by simpa using h), E0, R0, HQ⟩
    · refine stepOk_some (i := 5) (by rfl) (by rfl) ?_
      rintro u L T w' hT hu hL hp hcl ⟨C0, C1, C2, C3, C4, C5, C6, C7, C8, C9, C10, C11, C12, C13, E0, R0, HQ⟩ K hK
      have e4 := C4 (hp.of 4 (by kernel_rfl))
      go_simp
      try go_bits
      try (rw [if_neg (by omega)]; go_simp)
      try (rw [if_pos (by omega)]; go_simp)
      refine hK _ _ ?_
      exact ⟨fun h => C0 (by simpa using h), fun h => C1 (by simpa using h), fun h h2 => C2 (by simpa using h) (by simpa using h2), fun h => C3 (by simpa using h), fun h => C4 (by simpa using h), fun _ => rfl, fun h => C6 (by simpa using h), fun h => C7 (by simpa using h), fun h => C8 (by simpa using h), fun h => C9 (by simpa using h), fun h => C10 (by simpa using h), fun h => C11 (by simpa using h), fun h => C12 (by simpa using h), fun h => C13 (by simpa using h), E0, R0, HQ⟩
    · refine stepOk_some (i := 6) (by rfl) (by rfl) ?_
      rintro u L T w' hT hu hL hp hcl ⟨C0, C1, C2, C3, C4, C5, C6, C7, C8, C9, C10, C11, C12, C13, E0, R0, HQ⟩ K hK
      have e1 : u 1 = .pointer (some ⟨q, 0, none⟩) := hu 1 (by decide)
      go_simp
      refine hK _ _ ?_
      exact ⟨fun h => C0 (by simpa using h), fun h => C1 (by simpa using h), fun h h2 => C2 (by simpa using h) (by simpa using h2), fun h => C3 (by simpa using h), fun h => C4 (by simpa using h), fun h => C5 (by simpa using h), fun _ => rfl, fun h => C7 (by simpa using h), fun h => C8 (by simpa using h), fun h => C9 (by simpa using h), fun h => C10 (by simpa using h), fun h => C11 (by simpa using h), fun h => C12 (by simpa using h), fun h => C13 (by simpa using h), E0, R0, HQ⟩
    · refine stepOk_some (i := 7) (by rfl) (by rfl) ?_
      rintro u L T w' hT hu hL hp hcl ⟨C0, C1, C2, C3, C4, C5, C6, C7, C8, C9, C10, C11, C12, C13, E0, R0, HQ⟩ K hK
      have e6 := C6 (hp.of 6 (by kernel_rfl))
      have d0 := (cells4s HQ).2.1
      go_simp
      refine hK _ _ ?_
      exact ⟨fun h => C0 (by simpa using h), fun h => C1 (by simpa using h), fun h h2 => C2 (by simpa using h) (by simpa using h2), fun h => C3 (by simpa using h), fun h => C4 (by simpa using h), fun h => C5 (by simpa using h), fun h => C6 (by simpa using h), fun _ => rfl, fun h => C8 (by simpa using h), fun h => C9 (by simpa using h), fun h => C10 (by simpa using h), fun h => C11 (by simpa using h), fun h => C12 (by simpa using h), fun h => C13 (by simpa using h), E0, R0, HQ⟩
    · refine stepOk_some (i := 8) (by rfl) (by rfl) ?_
      rintro u L T w' hT hu hL hp hcl ⟨C0, C1, C2, C3, C4, C5, C6, C7, C8, C9, C10, C11, C12, C13, E0, R0, HQ⟩ K hK
      have e5 := C5 (hp.of 5 (by kernel_rfl))
      have e7 := C7 (hp.of 7 (by kernel_rfl))
      go_simp
      try go_bits
      try (rw [if_neg (by omega)]; go_simp)
      try (rw [if_pos (by omega)]; go_simp)
      refine hK _ _ ?_
      exact ⟨fun h => C0 (by simpa using h), fun h => C1 (by simpa using h), fun h h2 => C2 (by simpa using h) (by simpa using h2), fun h => C3 (by simpa using h), fun h => C4 (by simpa using h), fun h => C5 (by simpa using h), fun h => C6 (by simpa using h), fun h => C7 (by simpa using h), fun _ => rfl, fun h => C9 (by simpa using h), fun h => C10 (by simpa using h), fun h => C11 (by simpa using h), fun h => C12 (by simpa using h), fun h => C13 (by simpa using h), E0, R0, HQ⟩
    · refine stepOk_some (i := 9) (by rfl) (by rfl) ?_
      rintro u L T w' hT hu hL hp hcl ⟨C0, C1, C2, C3, C4, C5, C6, C7, C8, C9, C10, C11, C12, C13, E0, R0, HQ⟩ K hK
      have e1 : u 1 = .pointer (some ⟨q, 0, none⟩) := hu 1 (by decide)
      go_simp
      refine hK _ _ ?_
      exact ⟨fun h => C0 (by simpa using h), fun h => C1 (by simpa using h), fun h h2 => C2 (by simpa using h) (by simpa using h2), fun h => C3 (by simpa using h), fun h => C4 (by simpa using h), fun h => C5 (by simpa using h), fun h => C6 (by simpa using h), fun h => C7 (by simpa using h), fun h => C8 (by simpa using h), fun _ => rfl, fun h => C10 (by simpa using h), fun h => C11 (by simpa using h), fun h => C12 (by simpa using h), fun h => C13 (by simpa using h), E0, R0, HQ⟩
    · refine stepOk_some (i := 10) (by rfl) (by rfl) ?_
      rintro u L T w' hT hu hL hp hcl ⟨C0, C1, C2, C3, C4, C5, C6, C7, C8, C9, C10, C11, C12, C13, E0, R0, HQ⟩ K hK
      have e9 := C9 (hp.of 9 (by kernel_rfl))
      have d0 := (cells4s HQ).2.2.1
      go_simp
      refine hK _ _ ?_
      exact ⟨fun h => C0 (by simpa using h), fun h => C1 (by simpa using h), fun h h2 => C2 (by simpa using h) (by simpa using h2), fun h => C3 (by simpa using h), fun h => C4 (by simpa using h), fun h => C5 (by simpa using h), fun h => C6 (by simpa using h), fun h => C7 (by simpa using h), fun h => C8 (by simpa using h), fun h => C9 (by simpa using h), fun _ => rfl, fun h => C11 (by simpa using h), fun h => C12 (by simpa using h), fun h => C13 (by simpa using h), E0, R0, HQ⟩
    · refine stepOk_some (i := 11) (by rfl) (by rfl) ?_
      rintro u L T w' hT hu hL hp hcl ⟨C0, C1, C2, C3, C4, C5, C6, C7, C8, C9, C10, C11, C12, C13, E0, R0, HQ⟩ K hK
      have e10 := C10 (hp.of 10 (by kernel_rfl))
      go_simp
      refine (HX.out w' R0).mono ?_
      rintro e w1 ⟨he, hx1⟩
      subst he
      refine hK _ _ ?_
      exact ⟨fun h => C0 (by simpa using h), fun h => C1 (by simpa using h), fun h h2 => (C2 (by simpa using h) (by simpa using h2)).ext hx1, fun h => C3 (by simpa using h), fun h => C4 (by simpa using h), fun h => C5 (by simpa using h), fun h => C6 (by simpa using h), fun h => C7 (by simpa using h), fun h => C8 (by simpa using h), fun h => C9 (by simpa using h), fun h => C10 (by simpa using h), fun _ => rfl, fun h => C12 (by simpa using h), fun h => C13 (by simpa using h), ext_trans (E0) hx1, (R0).ext hx1, ext_at hx1 (HQ)⟩
    · refine stepOk_some (i := 12) (by rfl) (by rfl) ?_
      rintro u L T w' hT hu hL hp hcl ⟨C0, C1, C2, C3, C4, C5, C6, C7, C8, C9, C10, C11, C12, C13, E0, R0, HQ⟩ K hK
      have e8 := C8 (hp.of 8 (by kernel_rfl))
      have e11 := C11 (hp.of 11 (by kernel_rfl))
      go_simp
      try go_bits
      try (rw [if_neg (by omega)]; go_simp)
      try (rw [if_pos (by omega)]; go_simp)
      refine hK _ _ ?_
      exact ⟨fun h => C0 (by simpa using h), fun h => C1 (by simpa using h), fun h h2 => C2 (by simpa using h) (by simpa using h2), fun h => C3 (by simpa using h), fun h => C4 (by simpa using h), fun h => C5 (by simpa using h), fun h => C6 (by simpa using h), fun h => C7 (by simpa using h), fun h => C8 (by simpa using h), fun h => C9 (by simpa using h), fun h => C10 (by simpa using h), fun h => C11 (by simpa using h), fun _ => rfl, fun h => C13 (by simpa using h), E0, R0, HQ⟩
    · refine stepOk_some (i := 13) (by rfl) (by rfl) ?_
      rintro u L T w' hT hu hL hp hcl ⟨C0, C1, C2, C3, C4, C5, C6, C7, C8, C9, C10, C11, C12, C13, E0, R0, HQ⟩ K hK
      have e12 := C12 (hp.of 12 (by kernel_rfl))
      go_simp
      refine hK _ _ ?_
      exact ⟨fun h => C0 (by simpa using h), fun h => C1 (by simpa using h), fun h h2 => C2 (by simpa using h) (by simpa using h2), fun h => C3 (by simpa using h), fun h => C4 (by simpa using h), fun h => C5 (by simpa using h), fun h => C6 (by simpa using h), fun h => C7 (by simpa using h), fun h => C8 (by simpa using h), fun h => C9 (by simpa using h), fun h => C10 (by simpa using h), fun h => C11 (by simpa using h), fun h => C12 (by simpa using h), fun _ => rfl, E0, R0, HQ⟩
  · rintro u L w' hall hu ⟨C0, C1, C2, C3, C4, C5, C6, C7, C8, C9, C10, C11, C12, C13, E0, R0, HQ⟩
    replace C0 := C0 (hall 0 (by omega))
    replace C1 := C1 (hall 1 (by omega))
    replace C3 := C3 (hall 3 (by omega))
    replace C4 := C4 (hall 4 (by omega))
    replace C5 := C5 (hall 5 (by omega))
    replace C6 := C6 (hall 6 (by omega))
    replace C7 := C7 (hall 7 (by omega))
    replace C8 := C8 (hall 8 (by omega))
    replace C9 := C9 (hall 9 (by omega))
    replace C10 := C10 (hall 10 (by omega))
    replace C11 := C11 (hall 11 (by omega))
    replace C12 := C12 (hall 12 (by omega))
    replace C13 := C13 (hall 13 (by omega))
    simp only [fill, List.setIfInBounds_toArray, List.set_cons_succ, List.set_cons_zero, C0, C1, C3, C4, C5, C6, C7, C8, C9, C10, C11, C12, C13]
    generalize u 5 = s0 at *
    clear C0 C1 C2 C3 C4 C5 C6 C7 C8 C9 C10 C11 C12 C13 hu
  -- end inv
    go_wp2
    go_ret
    exact ⟨rfl, ext_trans HX1.out E0⟩
theorem finL_len (hd no : List UInt8) (fs : List Pr) (h1 : hd.length ≤ 10000) (h2 : no.length ≤ 10000) (hb : PrOk fs) : (finL hd no fs).length ≤ 60000000 := by
  have := allL_len hd h1; have := extL_len2 fs hb
  unfold finL; simp; omega
/-- May a final be told? -/
def fitB (hd no pr : List UInt8) (fs : List Pr) : Bool := (headF hd).1 && (!(headF hd).2 && (nonF no && (fs.all (rightE [112]) && decide (pr.length = 32))))
set_option maxHeartbeats 4000000 in
theorem fitext_any (hd no pr : List UInt8) (pv v : Value) (fs : List Pr) (h1 : hd.length ≤ 10000) (h2 : no.length ≤ 10000) (h3 : pr.length ≤ 10000) (hb : PrOk fs) (w : World) (hs : SlB w pv pr) (hr : RowC 2 prC w v fs) (hF : FormsAt w) (hM : MaxAt w) :
    Calls Tryd.prog 17 #[.agg #[Str hd, Str no, v, pv]] w fun e w' => e = .returned (.tuple #[Str (sizedV (finL hd no fs ++ 44 :: 112 :: 61 :: allL plain true pr) (fitB hd no pr fs)).1, .int .i64 (sizedV (finL hd no fs ++ 44 :: 112 :: 61 :: allL plain true pr) (fitB hd no pr fs)).2]) ∧ Ext w w' := by
  have HRW := Lib.hid hr; have HF := Lib.hid hF; have HSL := Lib.hid hs; have HM := Lib.hid hM
  obtain ⟨ao, cap, hv, hcap, hmax, hcl⟩ := rowP_shape hr
  subst hv
  obtain ⟨so, scap, hsv, hsc, -⟩ : ∃ ao cap, pv = .slice ao pr.length cap ∧ pr.length ≤ cap ∧ True := by
    obtain ⟨a, c, h, h', _⟩ := hs
    rw [List.length_map] at h h'
    exact ⟨a, c, h, h', trivial⟩
  subst hsv
  have HEN := Lib.hid (fun W (h : SlB W (.slice so pr.length scap) pr) => Encode_any _ pr W h h3)
  have HW := Lib.hid (fun W hr => without_any hd no (.slice so pr.length scap) (.slice ao fs.length cap) fs h1 h2 pr.length so scap rfl hb W hr)
  have HED := Lib.hid (fun W hr hF => extended_any (.slice ao fs.length cap) fs [112] hb W hr hF)
  have HNO := Lib.hid (fun W => nonce_scram no (by omega) W)
  have HHD := Lib.hid (fun W hM hF => head_any hd (by omega) W hM hF)
  have HS := Lib.hid (fun W => sized_any (finL hd no fs ++ 44 :: 112 :: 61 :: allL plain true pr) (fitB hd no pr fs) W)
  have HTB := Lib.hid (show fitB hd no pr fs = ((headF hd).1 && (!(headF hd).2 && (nonF no && (fs.all (rightE [112]) && decide (pr.length = 32))))) from rfl)
  have hl1 := allL_len pr h3
  have hl2 := finL_len hd no fs h1 h2 hb
  clear hcl hmax hb hr hF hs hM
  generalize fitB hd no pr fs = tb at *
  generalize sizedV (finL hd no fs ++ 44 :: 112 :: 61 :: allL plain true pr) tb = z at *
  obtain ⟨z1, z2⟩ := z
  simp only at HS ⊢
  generalize finL hd no fs = fl at *
  generalize allL plain true pr = es at *
  generalize nonF no = nb at *
  generalize fs.all (rightE [112]) = xb at *
  generalize (headF hd).1 = rt at *
  generalize (headF hd).2 = nm at *
  obtain ⟨W1, hW1⟩ : ∃ W1, w.alloc (.cells #[Str hd, Str no, .slice ao fs.length cap, .slice so pr.length scap] 37) = W1 := ⟨_, rfl⟩
  have hx : Ext w W1 := by rw [← hW1]; exact Below.alloc (Below.refl _ _) (Nat.le_refl _) _
  have hc : W1.heap[w.heap.size]? = some (.cells #[Str hd, Str no, .slice ao fs.length cap, .slice so pr.length scap] 37 (0, 0)) := by rw [← hW1]; exact Array.getElem?_push_size
  obtain ⟨c0, c1, c2, c3⟩ := cells4s hc
  have HX1 := Lib.hid hx
  have HR1 := Lib.hid (HRW.out.ext hx)
  have HF1 := Lib.hid (HF.out.ext hx)
  have HS1 := Lib.hid (HSL.out.ext hx)
  have HM1 := Lib.hid (HM.out.ext hx)
  clear hc hx HRW HF HSL HM
  go_enter Tryd.func17, Tryd.ntmps17
  go_wp2_with fail
  try rw [hW1]
  clear hW1
  refine (HHD.out _ HM1.out HF1.out).mono ?_
  rintro e W3 ⟨rfl, hx3⟩
  have HX3 := Lib.hid (ext_trans HX1.out hx3)
  have HR3 := Lib.hid (HR1.out.ext hx3)
  have HF3 := Lib.hid (HF1.out.ext hx3)
  have HS3 := Lib.hid (HS1.out.ext hx3)
  replace c0 := ext_cell hx3 c0; replace c1 := ext_cell hx3 c1; replace c2 := ext_cell hx3 c2; replace c3 := ext_cell hx3 c3
  clear hx3 HX1 HR1 HF1 HS1 HM1 HHD
  go_upto_region 2 with fail
  go_cut [6] from 7 (fun s6 wx => s6 = .bool tb ∧ Hid (Ext W3 wx))
  case first =>
    cases rt with
    | false =>
      have hd : tb = false := by rw [HTB.out]; rfl
      subst hd
      clear HTB
      go_wp2
      all_goals (go_meet; exact ⟨rfl, Lib.hid (ext_refl _)⟩)
    | true =>
      cases nm with
      | true =>
        have hd : tb = false := by rw [HTB.out]; rfl
        subst hd
        clear HTB
        go_wp2
        all_goals (go_meet; exact ⟨rfl, Lib.hid (ext_refl _)⟩)
      | false =>
        go_wp2_with fail
        refine (HNO.out _).mono ?_
        rintro e V ⟨rfl, hw⟩
        subst V
        cases nb with
        | false =>
          have hd : tb = false := by rw [HTB.out]; rfl
          subst hd
          clear HTB
          go_wp2
          all_goals (go_meet; exact ⟨rfl, Lib.hid (ext_refl _)⟩)
        | true =>
          go_wp2_with fail
          refine (HED.out _ HR3.out HF3.out).mono ?_
          rintro e W5 ⟨rfl, hx5⟩
          have HX5 := Lib.hid hx5
          replace c3 := ext_cell hx5 c3
          clear hx5 c0 c1 c2
          cases xb with
          | false =>
            have hd : tb = false := by rw [HTB.out]; rfl
            subst hd
            clear HTB
            go_wp2
            all_goals (go_meet; exact ⟨rfl, HX5⟩)
          | true =>
            by_cases q : pr.length = 32
            · have hd : tb = true := by rw [HTB.out]; simp [q]
              subst hd
              clear HTB
              have g1 : ((pr.length : Int) == 32) = true := by simp; omega
              have g2 : (pr.length : Int) = 32 := by omega
              clear q
              go_wp2
              all_goals (go_meet; exact ⟨rfl, HX5⟩)
            · have hd : tb = false := by rw [HTB.out]; simp [q]
              subst hd
              clear HTB
              have g1 : ((pr.length : Int) == 32) = false := by simp; omega
              have g2 : ¬ (pr.length : Int) = 32 := by omega
              clear q
              go_wp2
              all_goals (go_meet; exact ⟨rfl, HX5⟩)
  case rest =>
    obtain ⟨rfl, HXC⟩ := hcut
    have HX4 := Lib.hid (ext_trans HX3.out HXC.out)
    have HR4 := Lib.hid (HR3.out.ext HXC.out)
    have HS4 := Lib.hid (HS3.out.ext HXC.out)
    replace c0 := ext_cell HXC.out c0; replace c1 := ext_cell HXC.out c1; replace c2 := ext_cell HXC.out c2; replace c3 := ext_cell HXC.out c3
    clear HXC HX3 HR3 HS3 HTB
    have d0 := ExtW.cell c0; have d1 := ExtW.cell c1; have d2 := ExtW.cell c2; have d3 := ExtW.cell c3
    clear c0 c1 c2 c3
    go_upto_region 3 with fail
    refine wp_region_ext (by kernel_rfl) (by kernel_rfl) ?_
    repeat (first
      | go_big_quiet_skip
      | (go_big_quiet_want; go_big_quiet_op; (try go_bits); first | go_big_quiet_on | go_big_quiet_call (first | exact Calls.ext_of (W := wc) _ (HW.out _ (HR4.out.ext (ExtW.h _))) | exact Calls.ext_of (W := wc) _ (HEN.out _ (HS4.out.ext (ExtW.h _))) | exact Calls.ext_of _ (HS.out _))))
    refine wpQuiet_nil ?_
    intro _ hw'
    obtain ⟨nq, hw''⟩ := hw'
    subst hw''
    go_wp2
    go_ret2
    exact ⟨rfl, ext_trans HX4.out nq.h⟩
/-- What (Final).Without answers. -/
def fiwV (hd no pr : List UInt8) (fs : List Pr) : List UInt8 × Int :=
  if (sizedV (finL hd no fs ++ 44 :: 112 :: 61 :: allL plain true pr) (fitB hd no pr fs)).2 = 0 then (finL hd no fs, 0) else ([], (sizedV (finL hd no fs ++ 44 :: 112 :: 61 :: allL plain true pr) (fitB hd no pr fs)).2)
end Go.Proofs.YtjkbigecejogdaaDoor

namespace Go.Proofs.YtjkbigecejogdaaDoor
open Go.RowKit
set_option maxRecDepth 100000
attribute [local go_sem ↓] Go.wp_at_zero Go.wp_at_succ
set_option linter.unusedVariables false
set_option linter.unusedSimpArgs false
def vbadB (su co : List UInt8) : Bool := decide (su.length = 0) && valB co
/-- A verdict's text, and whether it may be told. -/
def vetL (su co : List UInt8) (fs : List Pr) : List UInt8 := (if vbadB su co then 101 :: 61 :: co else 118 :: 61 :: allL plain true su) ++ extL fs
def vetB (su co : List UInt8) (fs : List Pr) : Bool := ((decide (su.length = 32) && decide (co = [])) || vbadB su co) && fs.all (rightE [])
theorem cells3v {Z : World} {s t : Nat} {a0 a1 a2 : Value} (h : Z.heap[s]? = some (.cells [a0, a1, a2].toArray t (0, 0))) : Z.cell? ⟨s, 0, none⟩ = some a0 ∧ Z.cell? ⟨s, 1, none⟩ = some a1 ∧ Z.cell? ⟨s, 2, none⟩ = some a2 := by
  refine ⟨?_, ?_, ?_⟩ <;> simp [World.cell?, h]
set_option maxHeartbeats 4000000 in
theorem vtext_any (su co : List UInt8) (sv v : Value) (fs : List Pr) (h1 : su.length ≤ 10000) (h2 : co.length ≤ 10000) (hb : PrOk fs) (w : World) (hs : SlB w sv su) (hr : RowC 2 prC w v fs) (hF : FormsAt w) :
    Calls Tryd.prog 18 #[.agg #[sv, Str co, v]] w fun e w' => e = .returned (.tuple #[Str (sizedV (vetL su co fs) (vetB su co fs)).1, .int .i64 (sizedV (vetL su co fs) (vetB su co fs)).2]) ∧ Ext w w' := by
  have HRW := Lib.hid hr; have HF := Lib.hid hF; have HSL := Lib.hid hs
  obtain ⟨ao, cap, hv, hcap, hmax, hcl⟩ := rowP_shape hr
  subst hv
  obtain ⟨so, scap, hsv, hsc, -⟩ : ∃ ao cap, sv = .slice ao su.length cap ∧ su.length ≤ cap ∧ True := by
    obtain ⟨a, c, h, h', _⟩ := hs
    rw [List.length_map] at h h'
    exact ⟨a, c, h, h', trivial⟩
  subst hsv
  have HEN := Lib.hid (fun W (h : SlB W (.slice so su.length scap) su) => Encode_any _ su W h h1)
  have HX := Lib.hid (fun W hr => extensions_any (.slice ao fs.length cap) fs hb W hr)
  have HED := Lib.hid (fun W hr hF => extended_any (.slice ao fs.length cap) fs [] hb W hr hF)
  have HVC := Lib.hid (fun W hF => svalue_any co (by omega) W hF)
  have HS := Lib.hid (fun W => sized_any (vetL su co fs) (vetB su co fs) W)
  have HTL := Lib.hid (show vetL su co fs = (if vbadB su co then 101 :: 61 :: co else 118 :: 61 :: allL plain true su) ++ extL fs from rfl)
  have HTB := Lib.hid (show vetB su co fs = (((decide (su.length = 32) && decide (co = [])) || vbadB su co) && fs.all (rightE [])) from rfl)
  have HVB := Lib.hid (show vbadB su co = (decide (su.length = 0) && valB co) from rfl)
  have hl1 := allL_len su h1
  have hl2 := extL_len2 fs hb
  clear hcl hmax hb hr hF hs
  generalize vetB su co fs = tb at *
  generalize sizedV (vetL su co fs) tb = z at *
  obtain ⟨z1, z2⟩ := z
  simp only at HS ⊢
  generalize vetL su co fs = tl at *
  generalize vbadB su co = bad at *
  generalize allL plain true su = es at *
  generalize extL fs = ex at *
  generalize valB co = vc at *
  generalize fs.all (rightE []) = xb at *
  obtain ⟨W1, hW1⟩ : ∃ W1, w.alloc (.cells #[.slice so su.length scap, Str co, .slice ao fs.length cap] 48) = W1 := ⟨_, rfl⟩
  have hx : Ext w W1 := by rw [← hW1]; exact Below.alloc (Below.refl _ _) (Nat.le_refl _) _
  have hc : W1.heap[w.heap.size]? = some (.cells #[.slice so su.length scap, Str co, .slice ao fs.length cap] 48 (0, 0)) := by rw [← hW1]; exact Array.getElem?_push_size
  obtain ⟨c0, c1, c2⟩ := cells3v hc
  have HX1 := Lib.hid hx
  have HR1 := Lib.hid (HRW.out.ext hx)
  have HF1 := Lib.hid (HF.out.ext hx)
  have HS1 := Lib.hid (HSL.out.ext hx)
  clear hc hx HRW HF HSL
  go_enter Tryd.func18, Tryd.ntmps18
  go_upto_region 1 with fail
  try rw [hW1]
  clear hW1
  go_cut [4] from 5 (fun s4 wx => s4 = .bool (decide (su.length = 32) && decide (co = [])) ∧ wx = W1)
  case first =>
    by_cases q : su.length = 32
    · have g1 : ((su.length : Int) == 32) = true := by simp; omega
      have g2 : (su.length : Int) = 32 := by omega
      by_cases hau : co = []
      · have e1 : (co == []) = true := by simp [hau]
        have HD := Lib.hid (show (decide (su.length = 32) && decide (co = [])) = true by simp [q, hau])
        clear hau q
        go_wp2
        all_goals (go_meet; exact ⟨by rw [HD.out], rfl⟩)
      · have e1 : (co == []) = false := by simp [hau]
        have HD := Lib.hid (show (decide (su.length = 32) && decide (co = [])) = false by simp [q, hau])
        clear hau q
        go_wp2
        all_goals (go_meet; exact ⟨by rw [HD.out], rfl⟩)
    · have g1 : ((su.length : Int) == 32) = false := by simp; omega
      have g2 : ¬ (su.length : Int) = 32 := by omega
      have HD := Lib.hid (show (decide (su.length = 32) && decide (co = [])) = false by simp [q])
      clear q
      go_wp2
      all_goals (go_meet; exact ⟨by rw [HD.out], rfl⟩)
  case rest =>
  obtain ⟨rfl, hwc⟩ := hcut
  subst wc
  generalize (decide (su.length = 32) && decide (co = [])) = good at *
  go_upto_region 2 with fail
  go_cut [5] from 7 (fun s5 wx => s5 = .bool bad ∧ Hid (Ext W1 wx))
  case first =>
    by_cases q : su.length = 0
    · have g1 : ((su.length : Int) == 0) = true := by rw [q]; rfl
      have g2 : (su.length : Int) = 0 := by omega
      have hd : bad = vc := by rw [HVB.out]; simp [q]
      subst hd
      clear q HVB
      go_wp2_with fail
      refine (HVC.out _ HF1.out).mono ?_
      rintro e W5 ⟨rfl, hx5⟩
      have HX5 := Lib.hid hx5
      clear hx5 c0 c1 c2
      go_wp2
      all_goals (go_meet; exact ⟨rfl, HX5⟩)
    · have g1 : ((su.length : Int) == 0) = false := by simp only [beq_eq_false_iff_ne, ne_eq]; omega
      have g2 : ¬ (su.length : Int) = 0 := by omega
      have hd : bad = false := by rw [HVB.out]; simp [q]
      subst hd
      clear q HVB
      go_wp2
      all_goals (go_meet; exact ⟨rfl, Lib.hid (ext_refl _)⟩)
  case rest =>
  obtain ⟨rfl, HXC⟩ := hcut
  have HX4 := Lib.hid (ext_trans HX1.out HXC.out)
  have HR4 := Lib.hid (HR1.out.ext HXC.out)
  have HF4 := Lib.hid (HF1.out.ext HXC.out)
  have HS4 := Lib.hid (HS1.out.ext HXC.out)
  replace c0 := ext_cell HXC.out c0; replace c1 := ext_cell HXC.out c1; replace c2 := ext_cell HXC.out c2
  clear HXC HX1 HR1 HF1 HS1 HVB HVC
  go_wp2_with fail
  refine (HEN.out _ HS4.out).mono ?_
  rintro e W6 ⟨rfl, hx6⟩
  have HX6 := Lib.hid (ext_trans HX4.out hx6)
  have HR6 := Lib.hid (HR4.out.ext hx6)
  have HF6 := Lib.hid (HF4.out.ext hx6)
  replace c0 := ext_cell hx6 c0; replace c1 := ext_cell hx6 c1; replace c2 := ext_cell hx6 c2
  clear hx6 HX4 HR4 HF4 HS4 HEN
  cases bad with
  | true =>
    have htl : tl = 101 :: 61 :: (co ++ ex) := by rw [HTL.out]; simp
    have htb : tb = xb := by rw [HTB.out]; simp
    subst htl htb
    clear HTL HTB
    cases good with
    | true =>
      go_wp2_with fail
      refine (HX.out _ HR6.out).mono ?_
      rintro e W7 ⟨rfl, hx7⟩
      have HX7 := Lib.hid (ext_trans HX6.out hx7)
      have HR7 := Lib.hid (HR6.out.ext hx7)
      have HF7 := Lib.hid (HF6.out.ext hx7)
      replace c2 := ext_cell hx7 c2
      clear hx7 c0 c1 HX6 HR6 HF6
      go_wp2_with fail
      refine (HED.out _ HR7.out HF7.out).mono ?_
      rintro e W8 ⟨rfl, hx8⟩
      have HX8 := Lib.hid (ext_trans HX7.out hx8)
      clear hx8 c2 HX7 HR7 HF7
      go_wp2_with fail
      refine (HS.out _).mono ?_
      rintro e W9 ⟨rfl, hx9⟩
      have HX9 := Lib.hid (ext_trans HX8.out hx9)
      clear hx9
      go_wp2
      go_ret2
      exact ⟨rfl, HX9.out⟩
    | false =>
      go_wp2_with fail
      refine (HX.out _ HR6.out).mono ?_
      rintro e W7 ⟨rfl, hx7⟩
      have HX7 := Lib.hid (ext_trans HX6.out hx7)
      have HR7 := Lib.hid (HR6.out.ext hx7)
      have HF7 := Lib.hid (HF6.out.ext hx7)
      replace c2 := ext_cell hx7 c2
      clear hx7 c0 c1 HX6 HR6 HF6
      go_wp2_with fail
      refine (HED.out _ HR7.out HF7.out).mono ?_
      rintro e W8 ⟨rfl, hx8⟩
      have HX8 := Lib.hid (ext_trans HX7.out hx8)
      clear hx8 c2 HX7 HR7 HF7
      go_wp2_with fail
      refine (HS.out _).mono ?_
      rintro e W9 ⟨rfl, hx9⟩
      have HX9 := Lib.hid (ext_trans HX8.out hx9)
      clear hx9
      go_wp2
      go_ret2
      exact ⟨rfl, HX9.out⟩
  | false =>
    have htl : tl = 118 :: 61 :: (es ++ ex) := by rw [HTL.out]; simp
    cases good with
    | true =>
      have htb : tb = xb := by rw [HTB.out]; simp
      subst htl htb
      clear HTL HTB
      go_wp2_with fail
      refine (HX.out _ HR6.out).mono ?_
      rintro e W7 ⟨rfl, hx7⟩
      have HX7 := Lib.hid (ext_trans HX6.out hx7)
      have HR7 := Lib.hid (HR6.out.ext hx7)
      have HF7 := Lib.hid (HF6.out.ext hx7)
      replace c2 := ext_cell hx7 c2
      clear hx7 c0 c1 HX6 HR6 HF6
      go_wp2_with fail
      refine (HED.out _ HR7.out HF7.out).mono ?_
      rintro e W8 ⟨rfl, hx8⟩
      have HX8 := Lib.hid (ext_trans HX7.out hx8)
      clear hx8 c2 HX7 HR7 HF7
      go_wp2_with fail
      refine (HS.out _).mono ?_
      rintro e W9 ⟨rfl, hx9⟩
      have HX9 := Lib.hid (ext_trans HX8.out hx9)
      clear hx9
      go_wp2
      go_ret2
      exact ⟨rfl, HX9.out⟩
    | false =>
      have htb : tb = false := by rw [HTB.out]; simp
      subst htl htb
      clear HTL HTB HED
      go_wp2_with fail
      refine (HX.out _ HR6.out).mono ?_
      rintro e W7 ⟨rfl, hx7⟩
      have HX7 := Lib.hid (ext_trans HX6.out hx7)
      clear hx7 c0 c1 HX6 HR6 HF6
      go_wp2_with fail
      refine (HS.out _).mono ?_
      rintro e W9 ⟨rfl, hx9⟩
      have HX9 := Lib.hid (ext_trans HX7.out hx9)
      clear hx9
      go_wp2
      go_ret2
      exact ⟨rfl, HX9.out⟩
end Go.Proofs.YtjkbigecejogdaaDoor
