/-
  scram.First's texts at every message.
-/
import Derived.BigGuardPart
import Derived.BigQuiet
import Derived.RegionTactic
import Derived.Deep.DrawnRows
import Derived.Deep.CutBlock
import Derived.Deep.DeepCutAuto
import Derived.Test.YtjkbigecejogdaaGreatDoorRows
import Derived.Test.YtjkbigecejogdaaGreatDoorExd
import Derived.Test.YtjkbigecejogdaaGreatDoorScd
import Derived.Test.YtjkbigecejogdaaGreatDoorScb
namespace Go.Proofs.YtjkbigecejogdaaGreatDoor
open Go.RowKit
set_option maxRecDepth 100000
attribute [local go_sem ↓] Go.wp_at_zero Go.wp_at_succ
set_option linter.unusedVariables false
set_option linter.unusedSimpArgs false

/-- A first's head. -/
def fhdL (fl au : List UInt8) : List UInt8 := fl ++ 44 :: ((if au = [] then [] else 97 :: 61 :: escF au) ++ [44])
/-- A first's bare. -/
def fbaL (us no : List UInt8) (fs : List Pr) : List UInt8 := 110 :: 61 :: (escF us ++ 44 :: 114 :: 61 :: (no ++ extL fs))
def frtB (fl au us no : List UInt8) (fs : List Pr) : Bool :=
  ((fl == [110]) || (fl == [121])) && (valB (escF us) && ((decide (au = []) || valB (escF au)) && (nonF no && fs.all (rightE []))))
set_option maxHeartbeats 1000000 in
theorem fhead_any (fl au us no : List UInt8) (ao : Option Addr) (n cap : Nat) (h1 : fl.length ≤ 10000) (h2 : au.length ≤ 3000) (w : World) :
    Calls Tryz.prog 16 #[.agg #[Str fl, Str au, Str us, Str no, .slice ao n cap]] w fun e w' => e = .returned (Str (fhdL fl au)) ∧ Ext w w' := by
  obtain ⟨W1, hW1⟩ : ∃ W1, w.alloc (.cells #[Str fl, Str au, Str us, Str no, .slice ao n cap] 43) = W1 := ⟨_, rfl⟩
  have hx : Ext w W1 := by rw [← hW1]; exact Below.alloc (Below.refl _ _) (Nat.le_refl _) _
  have hc : W1.heap[w.heap.size]? = some (.cells #[Str fl, Str au, Str us, Str no, .slice ao n cap] 43 (0, 0)) := by rw [← hW1]; exact Array.getElem?_push_size
  obtain ⟨c0, c1, c2, c3, c4⟩ := cells5 hc
  have HX := Lib.hid hx
  clear hc hx
  by_cases hau : au = []
  · have e1 : (au == []) = true := by simp [hau]
    have e2 : (au != []) = false := by simp [hau]
    have HR := Lib.hid (show fhdL fl au = fl ++ [44, 44] by unfold fhdL; rw [if_pos hau]; rfl)
    rw [HR.out]
    clear hau
    go_enter Tryz.func16, Tryz.ntmps16
    go_wp2
    try rw [hW1]
    go_ret
    exact ⟨by simp, HX.out⟩
  · have e1 : (au == []) = false := by simp [hau]
    have e2 : (au != []) = true := by simp [hau]
    have HR := Lib.hid (show fhdL fl au = fl ++ 44 :: ((97 :: 61 :: escF au) ++ [44]) by unfold fhdL; rw [if_neg hau])
    have HE := Lib.hid (fun W => Escape_any au (by omega) W)
    have hel := escF_len au
    rw [HR.out]
    clear hau
    generalize escF au = ea at *
    go_enter Tryz.func16, Tryz.ntmps16
    go_wp2_with fail
    try rw [hW1]
    clear hW1
    refine (HE.out _).mono ?_
    rintro e W2 ⟨rfl, hx2⟩
    have HX2 := Lib.hid (ext_trans HX.out hx2)
    have d0 := ext_cell hx2 c0
    clear hx2 c0 c1 c2 c3 c4
    go_wp2
    go_ret
    exact ⟨by simp, HX2.out⟩
set_option maxHeartbeats 1000000 in
theorem fbare_any (fl au us no : List UInt8) (v : Value) (fs : List Pr) (h3 : us.length ≤ 3000) (h4 : no.length ≤ 10000) (hb : PrOk fs) (w : World) (hr : RowC 2 prC w v fs) :
    Calls Tryz.prog 50 #[.agg #[Str fl, Str au, Str us, Str no, v]] w fun e w' => e = .returned (Str (fbaL us no fs)) ∧ Ext w w' := by
  have HE := Lib.hid (fun W => Escape_any us (by omega) W)
  have HX := Lib.hid (fun W hr => extensions_any v fs hb W hr)
  have hel := escF_len us
  have hxl := extL_len2 fs hb
  have HBA := Lib.hid (show fbaL us no fs = 110 :: 61 :: (escF us ++ 44 :: 114 :: 61 :: (no ++ extL fs)) from rfl)
  rw [HBA.out]
  have HRW := Lib.hid hr
  obtain ⟨ao, cap, hv, hcap, hmax, hcl⟩ := rowP_shape hr
  subst hv
  clear hcl hmax hb hr HBA
  generalize escF us = eu at *
  generalize extL fs = ex at *
  obtain ⟨W1, hW1⟩ : ∃ W1, w.alloc (.cells #[Str fl, Str au, Str us, Str no, .slice ao fs.length cap] 43) = W1 := ⟨_, rfl⟩
  have hx : Ext w W1 := by rw [← hW1]; exact Below.alloc (Below.refl _ _) (Nat.le_refl _) _
  have hc : W1.heap[w.heap.size]? = some (.cells #[Str fl, Str au, Str us, Str no, .slice ao fs.length cap] 43 (0, 0)) := by rw [← hW1]; exact Array.getElem?_push_size
  obtain ⟨c0, c1, c2, c3, c4⟩ := cells5 hc
  have HX1 := Lib.hid hx
  have HR1 := Lib.hid (HRW.out.ext hx)
  clear hc hx HRW
  go_enter Tryz.func50, Tryz.ntmps50
  go_wp2
  try rw [hW1]
  clear hW1
  have d2 := ExtW.cell c2; have d3 := ExtW.cell c3; have d4 := ExtW.cell c4
  clear c0 c1 c2 c3 c4
  refine wp_region_ext (by kernel_rfl) (by kernel_rfl) ?_
  repeat (first
    | go_big_quiet_skip
    | (go_big_quiet_want; go_big_quiet_op; (try go_bits); first | go_big_quiet_on | go_big_quiet_call (first | exact Calls.ext_of _ (HE.out _) | exact Calls.ext_of (W := W1) _ (HX.out _ (HR1.out.ext (ExtW.h _))))))
  refine wpQuiet_nil ?_
  intro _ hw'
  obtain ⟨nq, hw''⟩ := hw'
  subst hw''
  go_wp2
  go_ret
  exact ⟨by simp, ext_trans HX1.out nq.h⟩
set_option maxHeartbeats 2000000 in
theorem fright_any (fl au us no : List UInt8) (v : Value) (fs : List Pr) (h2 : au.length ≤ 3000) (h3 : us.length ≤ 3000) (h4 : no.length ≤ 10000) (hb : PrOk fs) (w : World) (hr : RowC 2 prC w v fs) (hF : FormsAt w) :
    Calls Tryz.prog 68 #[.agg #[Str fl, Str au, Str us, Str no, v]] w fun e w' => e = .returned (.bool (frtB fl au us no fs)) ∧ Ext w w' := by
  have HEU := Lib.hid (fun W => Escape_any us (by omega) W)
  have HEA := Lib.hid (fun W => Escape_any au (by omega) W)
  have hlu := escF_len us
  have hla := escF_len au
  have HVU := Lib.hid (fun W hF => svalue_any (escF us) (by omega) W hF)
  have HVA := Lib.hid (fun W hF => svalue_any (escF au) (by omega) W hF)
  have HED := Lib.hid (fun W hr hF => extended_any v fs [] hb W hr hF)
  have HNO := Lib.hid (fun W => nonce_scram no (by omega) W)
  have HRT := Lib.hid (show frtB fl au us no fs = (((fl == [110]) || (fl == [121])) && (valB (escF us) && ((decide (au = []) || valB (escF au)) && (nonF no && fs.all (rightE []))))) from rfl)
  generalize frtB fl au us no fs = rt at *
  have HRW := Lib.hid hr; have HF := Lib.hid hF
  obtain ⟨ao, cap, hv, hcap, hmax, hcl⟩ := rowP_shape hr
  subst hv
  clear hcl hmax hb hr hF
  generalize valB (escF us) = vu at *
  generalize valB (escF au) = va at *
  generalize escF us = eu at *
  generalize escF au = ea at *
  generalize nonF no = nb at *
  generalize fs.all (rightE []) = xb at *
  obtain ⟨W1, hW1⟩ : ∃ W1, w.alloc (.cells #[Str fl, Str au, Str us, Str no, .slice ao fs.length cap] 43) = W1 := ⟨_, rfl⟩
  have hx : Ext w W1 := by rw [← hW1]; exact Below.alloc (Below.refl _ _) (Nat.le_refl _) _
  have hc : W1.heap[w.heap.size]? = some (.cells #[Str fl, Str au, Str us, Str no, .slice ao fs.length cap] 43 (0, 0)) := by rw [← hW1]; exact Array.getElem?_push_size
  obtain ⟨c0, c1, c2, c3, c4⟩ := cells5 hc
  have HX1 := Lib.hid hx
  have HR1 := Lib.hid (HRW.out.ext hx)
  have HF1 := Lib.hid (HF.out.ext hx)
  clear hc hx HRW HF
  go_enter Tryz.func68, Tryz.ntmps68
  go_wp2_with fail
  try rw [hW1]
  clear hW1
  refine (HEU.out _).mono ?_
  rintro e W2 ⟨rfl, hx2⟩
  go_wp2_with fail
  refine (HVU.out _ (HF1.out.ext hx2)).mono ?_
  rintro e W3 ⟨rfl, hx3⟩
  have hx13 := ext_trans hx2 hx3
  have HX3 := Lib.hid (ext_trans HX1.out hx13)
  have HR3 := Lib.hid (HR1.out.ext hx13)
  have HF3 := Lib.hid (HF1.out.ext hx13)
  have d0 := ext_cell hx13 c0; have d1 := ext_cell hx13 c1; have d3 := ext_cell hx13 c3; have d4 := ext_cell hx13 c4
  clear hx2 hx3 hx13 c0 c1 c2 c3 c4 HX1 HR1 HF1
  go_upto_region 2 with fail
  go_cut [4] from 18 (fun s4 wx => s4 = .bool (decide (au = []) || va) ∧ Hid (Ext W3 wx))
  case first =>
    by_cases hau : au = []
    · have e1 : (au == []) = true := by simp [hau]
      have HD := Lib.hid (decide_eq_true hau)
      clear hau
      go_wp2
      go_meet
      exact ⟨by rw [HD.out]; rfl, Lib.hid (Below.refl _ _)⟩
    · have e1 : (au == []) = false := by simp [hau]
      have HD := Lib.hid (decide_eq_false hau)
      clear hau
      go_wp2_with fail
      refine (HEA.out _).mono ?_
      rintro e W4 ⟨rfl, hx4⟩
      go_wp2_with fail
      refine (HVA.out _ (HF3.out.ext hx4)).mono ?_
      rintro e W5 ⟨rfl, hx5⟩
      have HX5 := Lib.hid (ext_trans hx4 hx5)
      clear hx4 hx5 d0 d1 d3 d4
      go_wp2
      go_meet
      exact ⟨by rw [HD.out]; rfl, HX5⟩
  case rest =>
    obtain ⟨rfl, HXC⟩ := hcut
    have HX4 := Lib.hid (ext_trans HX3.out HXC.out)
    have HR4 := Lib.hid (HR3.out.ext HXC.out)
    have HF4 := Lib.hid (HF3.out.ext HXC.out)
    replace d0 := ext_cell HXC.out d0; replace d1 := ext_cell HXC.out d1; replace d3 := ext_cell HXC.out d3; replace d4 := ext_cell HXC.out d4
    clear HXC HX3 HR3 HF3
    generalize (decide (au = []) || va) = au2 at *
    obtain ⟨b1, hb1⟩ : ∃ b, (fl == [110]) = b := ⟨_, rfl⟩
    obtain ⟨b2, hb2⟩ : ∃ b, (fl == [121]) = b := ⟨_, rfl⟩
    rw [hb1, hb2] at HRT
    have HRR := Lib.hid HRT.out
    clear HRT
    by_cases hall : ((b1 || b2) && (vu && au2)) = true
    · have hrt : rt = (nb && xb) := by
        rw [HRR.out]
        cases b1 <;> cases b2 <;> cases vu <;> cases au2 <;> simp_all
      clear HRR
      have HRT2 := Lib.hid hrt
      clear hrt
      cases nb with
      | false =>
        have h9 : rt = false := by rw [HRT2.out]; rfl
        subst h9
        clear HRT2
        cases b1 <;> cases b2 <;> cases vu <;> cases au2 <;> first | (simp at hall; done) | (clear hall; go_wp2_with fail; refine (HNO.out _).mono ?_; rintro e W5 ⟨rfl, hw⟩; subst W5; go_wp2; go_ret; exact ⟨rfl, HX4.out⟩)
      | true =>
        have h9 : rt = xb := by rw [HRT2.out]; rfl
        subst h9
        clear HRT2
        cases b1 <;> cases b2 <;> cases vu <;> cases au2 <;> first | (simp at hall; done) | (clear hall; go_wp2_with fail; refine (HNO.out _).mono ?_; rintro e W5 ⟨rfl, hw⟩; subst W5; go_wp2_with fail; refine (HED.out _ HR4.out HF4.out).mono ?_; rintro e W6 ⟨rfl, hx6⟩; have HX6 := Lib.hid (ext_trans HX4.out hx6); clear hx6; go_wp2; go_ret; exact ⟨rfl, HX6.out⟩)
    · have hrt : rt = false := by
        rw [HRR.out]
        cases b1 <;> cases b2 <;> cases vu <;> cases au2 <;> simp_all
      clear HRR
      subst hrt
      cases b1 <;> cases b2 <;> cases vu <;> cases au2 <;> first | (exfalso; apply hall; rfl) | (clear hall; go_wp2; go_ret; exact ⟨rfl, HX4.out⟩)
set_option maxHeartbeats 1000000 in
theorem ftext_any (fl au us no : List UInt8) (v : Value) (fs : List Pr) (h1 : fl.length ≤ 10000) (h2 : au.length ≤ 3000) (h3 : us.length ≤ 3000) (h4 : no.length ≤ 10000) (hb : PrOk fs) (w : World) (hr : RowC 2 prC w v fs) (hF : FormsAt w) :
    Calls Tryz.prog 27 #[.agg #[Str fl, Str au, Str us, Str no, v]] w fun e w' => e = .returned (.tuple #[Str (sizedV (fhdL fl au ++ fbaL us no fs) (frtB fl au us no fs)).1, .int .i64 (sizedV (fhdL fl au ++ fbaL us no fs) (frtB fl au us no fs)).2]) ∧ Ext w w' := by
  have HRW := Lib.hid hr; have HF := Lib.hid hF
  obtain ⟨ao, cap, hv, hcap, hmax, hcl⟩ := rowP_shape hr
  subst hv
  have HH := Lib.hid (fun W => fhead_any fl au us no ao fs.length cap h1 h2 W)
  have HB := Lib.hid (fun W hr => fbare_any fl au us no (.slice ao fs.length cap) fs h3 h4 hb W hr)
  have HR := Lib.hid (fun W hr hF => fright_any fl au us no (.slice ao fs.length cap) fs h2 h3 h4 hb W hr hF)
  have HS := Lib.hid (fun W => sized_any (fhdL fl au ++ fbaL us no fs) (frtB fl au us no fs) W)
  have hl1 : (fhdL fl au).length ≤ 20010 := by
    have := escF_len au
    unfold fhdL; split <;> simp <;> omega
  have hl2 : (fbaL us no fs).length ≤ 60000000 := by
    have := escF_len us; have := extL_len2 fs hb
    unfold fbaL; simp; omega
  clear hcl hmax hb hr hF
  generalize fhdL fl au = hd at *
  generalize fbaL us no fs = ba at *
  generalize frtB fl au us no fs = rt at *
  generalize sizedV (hd ++ ba) rt = z at *
  obtain ⟨z1, z2⟩ := z
  simp only at HS ⊢
  obtain ⟨W1, hW1⟩ : ∃ W1, w.alloc (.cells #[Str fl, Str au, Str us, Str no, .slice ao fs.length cap] 43) = W1 := ⟨_, rfl⟩
  have hx : Ext w W1 := by rw [← hW1]; exact Below.alloc (Below.refl _ _) (Nat.le_refl _) _
  have hc : W1.heap[w.heap.size]? = some (.cells #[Str fl, Str au, Str us, Str no, .slice ao fs.length cap] 43 (0, 0)) := by rw [← hW1]; exact Array.getElem?_push_size
  obtain ⟨c0, c1, c2, c3, c4⟩ := cells5 hc
  have HX1 := Lib.hid hx
  have HR1 := Lib.hid (HRW.out.ext hx)
  have HF1 := Lib.hid (HF.out.ext hx)
  clear hc hx HRW HF
  go_enter Tryz.func27, Tryz.ntmps27
  go_wp2
  try rw [hW1]
  clear hW1
  have d0 := ExtW.cell c0; have d1 := ExtW.cell c1; have d2 := ExtW.cell c2; have d3 := ExtW.cell c3; have d4 := ExtW.cell c4
  clear c0 c1 c2 c3 c4
  refine wp_region_ext (by kernel_rfl) (by kernel_rfl) ?_
  repeat (first
    | go_big_quiet_skip
    | (go_big_quiet_want; go_big_quiet_op; (try go_bits); first | go_big_quiet_on | go_big_quiet_call (first | exact Calls.ext_of _ (HH.out _) | exact Calls.ext_of (W := W1) _ (HB.out _ (HR1.out.ext (ExtW.h _))) | exact Calls.ext_of _ (HS.out _) | exact Calls.ext_of (W := W1) _ (HR.out _ (HR1.out.ext (ExtW.h _)) (HF1.out.ext (ExtW.h _))))))
  refine wpQuiet_nil ?_
  intro _ hw'
  obtain ⟨nq, hw''⟩ := hw'
  subst hw''
  go_wp2
  go_ret2
  exact ⟨rfl, ext_trans HX1.out nq.h⟩
/-- What (First).Bare answers. -/
def fbvV (fl au us no : List UInt8) (fs : List Pr) : List UInt8 × Int :=
  if (sizedV (fhdL fl au ++ fbaL us no fs) (frtB fl au us no fs)).2 = 0 then (fbaL us no fs, 0) else ([], (sizedV (fhdL fl au ++ fbaL us no fs) (frtB fl au us no fs)).2)
set_option maxHeartbeats 1000000 in
theorem fbare2_any (fl au us no : List UInt8) (v : Value) (fs : List Pr) (h1 : fl.length ≤ 10000) (h2 : au.length ≤ 3000) (h3 : us.length ≤ 3000) (h4 : no.length ≤ 10000) (hb : PrOk fs) (w : World) (hr : RowC 2 prC w v fs) (hF : FormsAt w) :
    Calls Tryz.prog 15 #[.agg #[Str fl, Str au, Str us, Str no, v]] w fun e w' => e = .returned (.tuple #[Str (fbvV fl au us no fs).1, .int .i64 (fbvV fl au us no fs).2]) ∧ Ext w w' := by
  have HRW := Lib.hid hr; have HF := Lib.hid hF
  obtain ⟨ao, cap, hv, hcap, hmax, hcl⟩ := rowP_shape hr
  subst hv
  have HT := Lib.hid (fun W hr hF => ftext_any fl au us no (.slice ao fs.length cap) fs h1 h2 h3 h4 hb W hr hF)
  have HB := Lib.hid (fun W hr => fbare_any fl au us no (.slice ao fs.length cap) fs h3 h4 hb W hr)
  have HZ := Lib.hid (show fbvV fl au us no fs = if (sizedV (fhdL fl au ++ fbaL us no fs) (frtB fl au us no fs)).2 = 0 then (fbaL us no fs, 0) else ([], (sizedV (fhdL fl au ++ fbaL us no fs) (frtB fl au us no fs)).2) from rfl)
  clear hcl hmax hb hr hF
  obtain ⟨z, hz⟩ : ∃ z, sizedV (fhdL fl au ++ fbaL us no fs) (frtB fl au us no fs) = z := ⟨_, rfl⟩
  rw [hz] at HT HZ
  clear hz
  generalize fbvV fl au us no fs = bv at *
  generalize fbaL us no fs = ba at *
  obtain ⟨z1, z2⟩ := z
  obtain ⟨b1, b2⟩ := bv
  simp only at HT HZ ⊢
  obtain ⟨W1, hW1⟩ : ∃ W1, w.alloc (.cells #[Str fl, Str au, Str us, Str no, .slice ao fs.length cap] 43) = W1 := ⟨_, rfl⟩
  have hx : Ext w W1 := by rw [← hW1]; exact Below.alloc (Below.refl _ _) (Nat.le_refl _) _
  have hc : W1.heap[w.heap.size]? = some (.cells #[Str fl, Str au, Str us, Str no, .slice ao fs.length cap] 43 (0, 0)) := by rw [← hW1]; exact Array.getElem?_push_size
  obtain ⟨c0, c1, c2, c3, c4⟩ := cells5 hc
  have HX1 := Lib.hid hx
  have HR1 := Lib.hid (HRW.out.ext hx)
  have HF1 := Lib.hid (HF.out.ext hx)
  clear hc hx HRW HF
  go_enter Tryz.func15, Tryz.ntmps15
  go_wp2_with fail
  try rw [hW1]
  clear hW1
  refine (HT.out _ HR1.out HF1.out).mono ?_
  rintro e W2 ⟨rfl, hx2⟩
  have d0 := ext_cell hx2 c0; have d1 := ext_cell hx2 c1; have d2 := ext_cell hx2 c2; have d3 := ext_cell hx2 c3; have d4 := ext_cell hx2 c4
  have HX2 := Lib.hid (ext_trans HX1.out hx2)
  have HR2 := Lib.hid (HR1.out.ext hx2)
  clear c0 c1 c2 c3 c4 hx2 HX1 HR1
  by_cases hz : z2 = 0
  · have h := HZ.out
    rw [if_pos hz] at h
    injection h with h1 h2
    subst h1 h2 hz
    go_wp2_with fail
    refine (HB.out _ HR2.out).mono ?_
    rintro e W3 ⟨rfl, hx3⟩
    have HX3 := Lib.hid (ext_trans HX2.out hx3)
    clear hx3
    go_wp2
    go_ret2
    exact ⟨rfl, HX3.out⟩
  · have h := HZ.out
    rw [if_neg hz] at h
    have hz2 : (z2 != 0) = true := by simp [hz]
    have hz3 : (z2 == 0) = false := by simp [hz]
    injection h with h1 h2
    subst h1 h2
    clear hz
    go_wp2
    go_ret2
    exact ⟨rfl, HX2.out⟩
end Go.Proofs.YtjkbigecejogdaaGreatDoor
