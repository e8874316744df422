/-
  (scram.Challenge).Text, (scram.Final).without, Text, Without, (scram.Verdict).Text at every message.
-/
import Derived.BigGuardPart
import Derived.BigQuiet
import Derived.RegionTactic
import Derived.Deep.DrawnRows
import Derived.Deep.CutBlock
import Derived.Deep.DeepCutAuto
import Derived.Test.YtjkbigecejogdaaGreatDoorRows
import Derived.Test.YtjkbigecejogdaaGreatDoorFsg
import Derived.Lib.ItoaLen
import Derived.Test.YtjkbigecejogdaaGreatDoorRnd
import Derived.Test.YtjkbigecejogdaaGreatDoorPst
import Derived.Test.YtjkbigecejogdaaGreatDoorBkb
namespace Go.Proofs.YtjkbigecejogdaaGreatDoor
open Go.RowKit
set_option maxRecDepth 100000
attribute [local go_sem ↓] Go.wp_at_zero Go.wp_at_succ
set_option linter.unusedVariables false
set_option linter.unusedSimpArgs false
theorem allL_len (l : List UInt8) (h : l.length ≤ 10000) : (allL plain true l).length ≤ 20000 := by
  rw [allL_true, List.length_append, List.length_replicate]
  rw [refN_len]
  omega
/-- A challenge's text. -/
def chtL (no sl : List UInt8) (it : Int) (fs : List Pr) : List UInt8 := [114, 61] ++ no ++ [44, 115, 61] ++ allL plain true sl ++ [44, 105, 61] ++ Lib.itoa it ++ extL fs
def chtB (no sl : List UInt8) (it : Int) (fs : List Pr) : Bool := nonF no && (decide (1 ≤ sl.length) && (decide (sl.length ≤ 32) && (decide (1 ≤ it) && (decide (it ≤ 64) && fs.all (rightE [])))))
set_option maxHeartbeats 4000000 in
theorem ctext_any (no sl : List UInt8) (it : Int) (sv v : Value) (fs : List Pr) (h1 : no.length ≤ 10000) (h2 : sl.length ≤ 10000) (hi1 : -9223372036854775808 ≤ it) (hi2 : it ≤ 9223372036854775807) (hb : PrOk fs) (w : World) (hs : SlB w sv sl) (hr : RowC 2 prC w v fs) (hF : FormsAt w) (hT : TabW w) :
    Calls Tryz.prog 28 #[.agg #[Str no, sv, .int .i64 it, v]] w fun e w' => e = .returned (.tuple #[Str (sizedV (chtL no sl it fs) (chtB no sl it fs)).1, .int .i64 (sizedV (chtL no sl it fs) (chtB no sl it fs)).2]) ∧ Ext w w' := by
  have HEN := Lib.hid (fun W (h : SlB W sv sl) => Encode_any sv sl W h h2)
  have HRW := Lib.hid hr; have HF := Lib.hid hF; have HSL := Lib.hid hs; have HT := Lib.hid hT
  obtain ⟨ao, cap, hv, hcap, hmax, hcl⟩ := rowP_shape hr
  subst hv
  obtain ⟨so, scap, hsv, hsc, -⟩ : ∃ ao cap, sv = .slice ao sl.length cap ∧ sl.length ≤ cap ∧ True := by
    obtain ⟨a, c, h, h', _⟩ := hs
    rw [List.length_map] at h h'
    exact ⟨a, c, h, h', trivial⟩
  subst hsv
  have HX := Lib.hid (fun W hr => extensions_any (.slice ao fs.length cap) fs hb W hr)
  have HED := Lib.hid (fun W hr hF => extended_any (.slice ao fs.length cap) fs [] hb W hr hF)
  have HNO := Lib.hid (fun W => nonce_scram no (by omega) W)
  have HIT := Lib.hid (fun W hT => itoa_any it hi1 hi2 W hT)
  have HS := Lib.hid (fun W => sized_any (chtL no sl it fs) (chtB no sl it fs) W)
  have HTL := Lib.hid (show chtL no sl it fs = [114, 61] ++ no ++ [44, 115, 61] ++ allL plain true sl ++ [44, 105, 61] ++ Lib.itoa it ++ extL fs from rfl)
  have HTB := Lib.hid (show chtB no sl it fs = (nonF no && (decide (1 ≤ sl.length) && (decide (sl.length ≤ 32) && (decide (1 ≤ it) && (decide (it ≤ 64) && fs.all (rightE [])))))) from rfl)
  have hl1 := allL_len sl h2
  have hl2 := extL_len2 fs hb
  have hl3 : (Lib.itoa it).length ≤ 100 := by have := Lib.itoa_length_le it hi1 hi2; omega
  clear hcl hmax hb hr hF hs hT
  generalize chtB no sl it fs = tb at *
  generalize sizedV (chtL no sl it fs) tb = z at *
  obtain ⟨z1, z2⟩ := z
  simp only at HS ⊢
  generalize chtL no sl it fs = tl at *
  generalize allL plain true sl = es at *
  generalize Lib.itoa it = ti at *
  generalize extL fs = ex at *
  generalize nonF no = nb at *
  generalize fs.all (rightE []) = xb at *
  obtain ⟨W1, hW1⟩ : ∃ W1, w.alloc (.cells #[Str no, .slice so sl.length scap, .int .i64 it, .slice ao fs.length cap] 49) = W1 := ⟨_, rfl⟩
  have hx : Ext w W1 := by rw [← hW1]; exact Below.alloc (Below.refl _ _) (Nat.le_refl _) _
  have hc : W1.heap[w.heap.size]? = some (.cells #[Str no, .slice so sl.length scap, .int .i64 it, .slice ao fs.length cap] 49 (0, 0)) := by rw [← hW1]; exact Array.getElem?_push_size
  obtain ⟨c0, c1, c2, c3⟩ := cells4s hc
  have HX1 := Lib.hid hx
  have HR1 := Lib.hid (HRW.out.ext hx)
  have HF1 := Lib.hid (HF.out.ext hx)
  have HS1 := Lib.hid (HSL.out.ext hx)
  have HT1 := Lib.hid (HT.out.ext hx)
  clear hc hx HRW HF HSL HT
  go_enter Tryz.func28, Tryz.ntmps28
  go_upto_region 1 with fail
  try rw [hW1]
  clear hW1
  go_cut [4] from 5 (fun s4 wx => s4 = .bool tb ∧ Hid (Ext W1 wx))
  case first =>
    go_wp2_with fail
    refine (HNO.out _).mono ?_
    rintro e V ⟨rfl, hw⟩
    subst V
    cases nb with
    | false =>
      have hd : tb = false := by rw [HTB.out]; rfl
      subst hd
      clear HTB
      go_wp2
      go_meet
      exact ⟨rfl, Lib.hid (ext_refl _)⟩
    | true =>
      by_cases q1 : 1 ≤ sl.length ∧ sl.length ≤ 32 ∧ 1 ≤ it ∧ it ≤ 64
      · have g1 : (1 : Int) ≤ (sl.length : Int) := by omega
        have g2 : (sl.length : Int) ≤ 32 := by omega
        have g3 : (1 : Int) ≤ it := q1.2.2.1
        have g4 : it ≤ 64 := q1.2.2.2
        have hd : tb = xb := by rw [HTB.out]; simp [q1.1, q1.2.1, q1.2.2.1, q1.2.2.2]
        subst hd
        clear HTB q1
        go_wp2_with fail
        refine (HED.out _ HR1.out HF1.out).mono ?_
        rintro e W5 ⟨rfl, hx5⟩
        have HX5 := Lib.hid hx5
        clear hx5 c0 c1 c2 c3
        go_wp2
        go_meet
        exact ⟨rfl, HX5⟩
      · have hd : tb = false := by
          rw [HTB.out]
          rw [Bool.eq_false_iff]
          intro h
          simp only [Bool.and_eq_true, decide_eq_true_eq] at h
          exact q1 ⟨h.2.1, h.2.2.1, h.2.2.2.1, h.2.2.2.2.1⟩
        subst hd
        clear HTB
        by_cases g1 : (1 : Int) ≤ (sl.length : Int)
        · by_cases g2 : (sl.length : Int) ≤ 32
          · by_cases g3 : (1 : Int) ≤ it
            · have g4 : ¬ it ≤ 64 := fun h => q1 ⟨by omega, by omega, g3, h⟩
              clear q1
              go_wp2
              all_goals (go_meet; exact ⟨rfl, Lib.hid (ext_refl _)⟩)
            · clear q1
              go_wp2
              all_goals (go_meet; exact ⟨rfl, Lib.hid (ext_refl _)⟩)
          · clear q1
            go_wp2
            all_goals (go_meet; exact ⟨rfl, Lib.hid (ext_refl _)⟩)
        · clear q1
          go_wp2
          all_goals (go_meet; exact ⟨rfl, Lib.hid (ext_refl _)⟩)
  case rest =>
    obtain ⟨rfl, HXC⟩ := hcut
    have HX4 := Lib.hid (ext_trans HX1.out HXC.out)
    have HR4 := Lib.hid (HR1.out.ext HXC.out)
    have HS4 := Lib.hid (HS1.out.ext HXC.out)
    have HT4 := Lib.hid (HT1.out.ext HXC.out)
    replace c0 := ext_cell HXC.out c0; replace c1 := ext_cell HXC.out c1; replace c2 := ext_cell HXC.out c2; replace c3 := ext_cell HXC.out c3
    have htl := HTL.out
    simp only [List.append_assoc, List.cons_append, List.nil_append] at htl
    have HTL2 := Lib.hid htl
    clear HXC HX1 HR1 HS1 HT1 HTL htl HTB
    have d0 := ExtW.cell c0; have d1 := ExtW.cell c1; have d2 := ExtW.cell c2; have d3 := ExtW.cell c3
    clear c0 c1 c2 c3
    have hte := HTL2.out
    subst hte
    go_upto_region 2 with fail
    refine wp_region_ext (by kernel_rfl) (by kernel_rfl) ?_
    repeat (first
      | go_big_quiet_skip
      | (go_big_quiet_want; go_big_quiet_op; (try go_bits); first | go_big_quiet_on | go_big_quiet_call (first | exact Calls.ext_of (W := wc) _ (HEN.out _ (HS4.out.ext (ExtW.h _))) | exact Calls.ext_of (W := wc) _ (HIT.out _ (HT4.out.ext (ExtW.h _))) | exact Calls.ext_of (W := wc) _ (HX.out _ (HR4.out.ext (ExtW.h _))) | exact Calls.ext_of _ (HS.out _))))
    refine wpQuiet_nil ?_
    intro _ hw'
    obtain ⟨nq, hw''⟩ := hw'
    subst hw''
    go_wp2
    go_ret2
    exact ⟨rfl, ext_trans HX4.out nq.h⟩
end Go.Proofs.YtjkbigecejogdaaGreatDoor
