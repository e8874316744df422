/-
  (scram.Verdict).Text at every message.
-/
import Derived.BigGuardPart
import Derived.BigQuiet
import Derived.RegionTactic
import Derived.Deep.DrawnRows
import Derived.Deep.CutBlock
import Derived.Deep.DeepCutAuto
import Derived.Test.YtjkbigecejogdaaGreatDoorRows
import Derived.Test.YtjkbigecejogdaaGreatDoorCtx
namespace Go.Proofs.YtjkbigecejogdaaGreatDoor
open Go.RowKit
set_option maxRecDepth 100000
attribute [local go_sem ↓] Go.wp_at_zero Go.wp_at_succ
set_option linter.unusedVariables false
set_option linter.unusedSimpArgs false
def vbadB (su co : List UInt8) : Bool := decide (su.length = 0) && valB co
/-- A verdict's text, and whether it may be told. -/
def vetL (su co : List UInt8) (fs : List Pr) : List UInt8 := (if vbadB su co then 101 :: 61 :: co else 118 :: 61 :: allL plain true su) ++ extL fs
def vetB (su co : List UInt8) (fs : List Pr) : Bool := ((decide (su.length = 32) && decide (co = [])) || vbadB su co) && fs.all (rightE [])
theorem cells3v {Z : World} {s t : Nat} {a0 a1 a2 : Value} (h : Z.heap[s]? = some (.cells [a0, a1, a2].toArray t (0, 0))) : Z.cell? ⟨s, 0, none⟩ = some a0 ∧ Z.cell? ⟨s, 1, none⟩ = some a1 ∧ Z.cell? ⟨s, 2, none⟩ = some a2 := by
  refine ⟨?_, ?_, ?_⟩ <;> simp [World.cell?, h]
set_option maxHeartbeats 4000000 in
theorem vtext_any (su co : List UInt8) (sv v : Value) (fs : List Pr) (h1 : su.length ≤ 10000) (h2 : co.length ≤ 10000) (hb : PrOk fs) (w : World) (hs : SlB w sv su) (hr : RowC 2 prC w v fs) (hF : FormsAt w) :
    Calls Tryz.prog 30 #[.agg #[sv, Str co, v]] w fun e w' => e = .returned (.tuple #[Str (sizedV (vetL su co fs) (vetB su co fs)).1, .int .i64 (sizedV (vetL su co fs) (vetB su co fs)).2]) ∧ Ext w w' := by
  have HRW := Lib.hid hr; have HF := Lib.hid hF; have HSL := Lib.hid hs
  obtain ⟨ao, cap, hv, hcap, hmax, hcl⟩ := rowP_shape hr
  subst hv
  obtain ⟨so, scap, hsv, hsc, -⟩ : ∃ ao cap, sv = .slice ao su.length cap ∧ su.length ≤ cap ∧ True := by
    obtain ⟨a, c, h, h', _⟩ := hs
    rw [List.length_map] at h h'
    exact ⟨a, c, h, h', trivial⟩
  subst hsv
  have HEN := Lib.hid (fun W (h : SlB W (.slice so su.length scap) su) => Encode_any _ su W h h1)
  have HX := Lib.hid (fun W hr => extensions_any (.slice ao fs.length cap) fs hb W hr)
  have HED := Lib.hid (fun W hr hF => extended_any (.slice ao fs.length cap) fs [] hb W hr hF)
  have HVC := Lib.hid (fun W hF => svalue_any co (by omega) W hF)
  have HS := Lib.hid (fun W => sized_any (vetL su co fs) (vetB su co fs) W)
  have HTL := Lib.hid (show vetL su co fs = (if vbadB su co then 101 :: 61 :: co else 118 :: 61 :: allL plain true su) ++ extL fs from rfl)
  have HTB := Lib.hid (show vetB su co fs = (((decide (su.length = 32) && decide (co = [])) || vbadB su co) && fs.all (rightE [])) from rfl)
  have HVB := Lib.hid (show vbadB su co = (decide (su.length = 0) && valB co) from rfl)
  have hl1 := allL_len su h1
  have hl2 := extL_len2 fs hb
  clear hcl hmax hb hr hF hs
  generalize vetB su co fs = tb at *
  generalize sizedV (vetL su co fs) tb = z at *
  obtain ⟨z1, z2⟩ := z
  simp only at HS ⊢
  generalize vetL su co fs = tl at *
  generalize vbadB su co = bad at *
  generalize allL plain true su = es at *
  generalize extL fs = ex at *
  generalize valB co = vc at *
  generalize fs.all (rightE []) = xb at *
  obtain ⟨W1, hW1⟩ : ∃ W1, w.alloc (.cells #[.slice so su.length scap, Str co, .slice ao fs.length cap] 57) = W1 := ⟨_, rfl⟩
  have hx : Ext w W1 := by rw [← hW1]; exact Below.alloc (Below.refl _ _) (Nat.le_refl _) _
  have hc : W1.heap[w.heap.size]? = some (.cells #[.slice so su.length scap, Str co, .slice ao fs.length cap] 57 (0, 0)) := by rw [← hW1]; exact Array.getElem?_push_size
  obtain ⟨c0, c1, c2⟩ := cells3v hc
  have HX1 := Lib.hid hx
  have HR1 := Lib.hid (HRW.out.ext hx)
  have HF1 := Lib.hid (HF.out.ext hx)
  have HS1 := Lib.hid (HSL.out.ext hx)
  clear hc hx HRW HF HSL
  go_enter Tryz.func30, Tryz.ntmps30
  go_upto_region 1 with fail
  try rw [hW1]
  clear hW1
  go_cut [4] from 5 (fun s4 wx => s4 = .bool (decide (su.length = 32) && decide (co = [])) ∧ wx = W1)
  case first =>
    by_cases q : su.length = 32
    · have g1 : ((su.length : Int) == 32) = true := by simp; omega
      have g2 : (su.length : Int) = 32 := by omega
      by_cases hau : co = []
      · have e1 : (co == []) = true := by simp [hau]
        have HD := Lib.hid (show (decide (su.length = 32) && decide (co = [])) = true by simp [q, hau])
        clear hau q
        go_wp2
        all_goals (go_meet; exact ⟨by rw [HD.out], rfl⟩)
      · have e1 : (co == []) = false := by simp [hau]
        have HD := Lib.hid (show (decide (su.length = 32) && decide (co = [])) = false by simp [q, hau])
        clear hau q
        go_wp2
        all_goals (go_meet; exact ⟨by rw [HD.out], rfl⟩)
    · have g1 : ((su.length : Int) == 32) = false := by simp; omega
      have g2 : ¬ (su.length : Int) = 32 := by omega
      have HD := Lib.hid (show (decide (su.length = 32) && decide (co = [])) = false by simp [q])
      clear q
      go_wp2
      all_goals (go_meet; exact ⟨by rw [HD.out], rfl⟩)
  case rest =>
  obtain ⟨rfl, hwc⟩ := hcut
  subst wc
  generalize (decide (su.length = 32) && decide (co = [])) = good at *
  go_upto_region 2 with fail
  go_cut [5] from 7 (fun s5 wx => s5 = .bool bad ∧ Hid (Ext W1 wx))
  case first =>
    by_cases q : su.length = 0
    · have g1 : ((su.length : Int) == 0) = true := by rw [q]; rfl
      have g2 : (su.length : Int) = 0 := by omega
      have hd : bad = vc := by rw [HVB.out]; simp [q]
      subst hd
      clear q HVB
      go_wp2_with fail
      refine (HVC.out _ HF1.out).mono ?_
      rintro e W5 ⟨rfl, hx5⟩
      have HX5 := Lib.hid hx5
      clear hx5 c0 c1 c2
      go_wp2
      all_goals (go_meet; exact ⟨rfl, HX5⟩)
    · have g1 : ((su.length : Int) == 0) = false := by simp only [beq_eq_false_iff_ne, ne_eq]; omega
      have g2 : ¬ (su.length : Int) = 0 := by omega
      have hd : bad = false := by rw [HVB.out]; simp [q]
      subst hd
      clear q HVB
      go_wp2
      all_goals (go_meet; exact ⟨rfl, Lib.hid (ext_refl _)⟩)
  case rest =>
  obtain ⟨rfl, HXC⟩ := hcut
  have HX4 := Lib.hid (ext_trans HX1.out HXC.out)
  have HR4 := Lib.hid (HR1.out.ext HXC.out)
  have HF4 := Lib.hid (HF1.out.ext HXC.out)
  have HS4 := Lib.hid (HS1.out.ext HXC.out)
  replace c0 := ext_cell HXC.out c0; replace c1 := ext_cell HXC.out c1; replace c2 := ext_cell HXC.out c2
  clear HXC HX1 HR1 HF1 HS1 HVB HVC
  go_wp2_with fail
  refine (HEN.out _ HS4.out).mono ?_
  rintro e W6 ⟨rfl, hx6⟩
  have HX6 := Lib.hid (ext_trans HX4.out hx6)
  have HR6 := Lib.hid (HR4.out.ext hx6)
  have HF6 := Lib.hid (HF4.out.ext hx6)
  replace c0 := ext_cell hx6 c0; replace c1 := ext_cell hx6 c1; replace c2 := ext_cell hx6 c2
  clear hx6 HX4 HR4 HF4 HS4 HEN
  cases bad with
  | true =>
    have htl : tl = 101 :: 61 :: (co ++ ex) := by rw [HTL.out]; simp
    have htb : tb = xb := by rw [HTB.out]; simp
    subst htl htb
    clear HTL HTB
    cases good with
    | true =>
      go_wp2_with fail
      refine (HX.out _ HR6.out).mono ?_
      rintro e W7 ⟨rfl, hx7⟩
      have HX7 := Lib.hid (ext_trans HX6.out hx7)
      have HR7 := Lib.hid (HR6.out.ext hx7)
      have HF7 := Lib.hid (HF6.out.ext hx7)
      replace c2 := ext_cell hx7 c2
      clear hx7 c0 c1 HX6 HR6 HF6
      go_wp2_with fail
      refine (HED.out _ HR7.out HF7.out).mono ?_
      rintro e W8 ⟨rfl, hx8⟩
      have HX8 := Lib.hid (ext_trans HX7.out hx8)
      clear hx8 c2 HX7 HR7 HF7
      go_wp2_with fail
      refine (HS.out _).mono ?_
      rintro e W9 ⟨rfl, hx9⟩
      have HX9 := Lib.hid (ext_trans HX8.out hx9)
      clear hx9
      go_wp2
      go_ret2
      exact ⟨rfl, HX9.out⟩
    | false =>
      go_wp2_with fail
      refine (HX.out _ HR6.out).mono ?_
      rintro e W7 ⟨rfl, hx7⟩
      have HX7 := Lib.hid (ext_trans HX6.out hx7)
      have HR7 := Lib.hid (HR6.out.ext hx7)
      have HF7 := Lib.hid (HF6.out.ext hx7)
      replace c2 := ext_cell hx7 c2
      clear hx7 c0 c1 HX6 HR6 HF6
      go_wp2_with fail
      refine (HED.out _ HR7.out HF7.out).mono ?_
      rintro e W8 ⟨rfl, hx8⟩
      have HX8 := Lib.hid (ext_trans HX7.out hx8)
      clear hx8 c2 HX7 HR7 HF7
      go_wp2_with fail
      refine (HS.out _).mono ?_
      rintro e W9 ⟨rfl, hx9⟩
      have HX9 := Lib.hid (ext_trans HX8.out hx9)
      clear hx9
      go_wp2
      go_ret2
      exact ⟨rfl, HX9.out⟩
  | false =>
    have htl : tl = 118 :: 61 :: (es ++ ex) := by rw [HTL.out]; simp
    cases good with
    | true =>
      have htb : tb = xb := by rw [HTB.out]; simp
      subst htl htb
      clear HTL HTB
      go_wp2_with fail
      refine (HX.out _ HR6.out).mono ?_
      rintro e W7 ⟨rfl, hx7⟩
      have HX7 := Lib.hid (ext_trans HX6.out hx7)
      have HR7 := Lib.hid (HR6.out.ext hx7)
      have HF7 := Lib.hid (HF6.out.ext hx7)
      replace c2 := ext_cell hx7 c2
      clear hx7 c0 c1 HX6 HR6 HF6
      go_wp2_with fail
      refine (HED.out _ HR7.out HF7.out).mono ?_
      rintro e W8 ⟨rfl, hx8⟩
      have HX8 := Lib.hid (ext_trans HX7.out hx8)
      clear hx8 c2 HX7 HR7 HF7
      go_wp2_with fail
      refine (HS.out _).mono ?_
      rintro e W9 ⟨rfl, hx9⟩
      have HX9 := Lib.hid (ext_trans HX8.out hx9)
      clear hx9
      go_wp2
      go_ret2
      exact ⟨rfl, HX9.out⟩
    | false =>
      have htb : tb = false := by rw [HTB.out]; simp
      subst htl htb
      clear HTL HTB HED
      go_wp2_with fail
      refine (HX.out _ HR6.out).mono ?_
      rintro e W7 ⟨rfl, hx7⟩
      have HX7 := Lib.hid (ext_trans HX6.out hx7)
      clear hx7 c0 c1 HX6 HR6 HF6
      go_wp2_with fail
      refine (HS.out _).mono ?_
      rintro e W9 ⟨rfl, hx9⟩
      have HX9 := Lib.hid (ext_trans HX7.out hx9)
      clear hx9
      go_wp2
      go_ret2
      exact ⟨rfl, HX9.out⟩
end Go.Proofs.YtjkbigecejogdaaGreatDoor
