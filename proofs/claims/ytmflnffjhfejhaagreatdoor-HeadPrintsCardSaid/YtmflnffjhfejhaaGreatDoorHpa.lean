/-
  head.ParseAnswer.
-/
import Derived.BigGuardPart
import Derived.RegionTactic
import Derived.Deep.RegionHeld3
import Derived.Deep.DrawnRows
import Derived.Test.YtmflnffjhfejhaaGreatDoorRows
import Derived.Test.YtmflnffjhfejhaaGreatDoorHpr
import Derived.Test.YtmflnffjhfejhaaGreatDoorHst
import Derived.Test.YtmflnffjhfejhaaGreatDoorKit
namespace Go.Proofs.YtmflnffjhfejhaaGreatDoor
open Go.RowKit
set_option maxRecDepth 100000
attribute [local go_sem ↓] Go.wp_at_zero Go.wp_at_succ
set_option linter.unusedVariables false
set_option linter.unusedSimpArgs false

/-- A first line's three words: version, status, reason; and whether there are so many. -/
def ansP (f : List UInt8) : List UInt8 × List UInt8 × List UInt8 × Bool :=
  ((Lib.cut f [32]).1, (Lib.cut (Lib.cut f [32]).2.1 [32]).1, (Lib.cut (Lib.cut f [32]).2.1 [32]).2.1, (Lib.cut f [32]).2.2 && (Lib.cut (Lib.cut f [32]).2.1 [32]).2.2)
def rightA (f : List UInt8) : Bool := (ansP f).2.2.2 && (((ansP f).1 == verL) && (decide (0 < statO (ansP f).2.1) && textB (ansP f).2.2.1))
def PanQ (f0 : List UInt8) (ao : Option Addr) (m cap : Nat) (k e0 : Int) (e : Ending) : Prop :=
  (cnt e0 (rightA f0) m ≠ 0 ∧ e = .returned (.tuple #[.agg #[.int .i64 0, Str [], .slice none 0 0], .int .i64 0, .int .i64 (cnt e0 (rightA f0) m)])) ∨
  (cnt e0 (rightA f0) m = 0 ∧ e = .returned (.tuple #[.agg #[.int .i64 (statO (ansP f0).2.1), Str (ansP f0).2.2.1, .slice ao m cap], .int .i64 k, .int .i64 0]))
def PanR (l : List UInt8) (w w' : World) (e : Ending) : Prop :=
  ∃ W1 w2 f0 ao m cap k e0, Ext w W1 ∧ w.heap.size < W1.heap.size ∧ TakeR l W1 w2 (.returned (.tuple #[Str f0, .slice ao m cap, .int .i64 k, .int .i64 e0])) ∧ Chg (fun q => q = w.heap.size) w2 w' ∧ PanQ f0 ao m cap k e0 e
theorem cut_len (l : List UInt8) (b : UInt8) : (Lib.cut l [b]).1.length ≤ l.length ∧ (Lib.cut l [b]).2.1.length ≤ l.length := by
  rcases cut_byte l b with ⟨p, q, hc, hl2, _⟩ | ⟨hc, _⟩
  · rw [hc]; subst hl2; simp; omega
  · rw [hc]; simp
set_option maxHeartbeats 2000000 in
theorem pans_any (a : Addr) (cap : Nat) (l : List UInt8) (hl : l.length ≤ 10000) (w : World) (hL : Lb w) (hv : SlB w (.slice (some a) l.length cap) l) :
    Calls Tryz.prog 18 #[.slice (some a) l.length cap] w fun e w' => PanR l w w' e ∧ Ext w w' := by
  have HL := Lib.hid hL; have HV := Lib.hid hv
  have HTK := Lib.hid (fun W (hx : Ext w W) => take_any a cap l hl W (hL.ext hx) (hv.ext hx))
  clear hL hv
  go_enter Tryz.func18, Tryz.ntmps18
  go_wp2_with fail
  obtain ⟨W1, hW1⟩ : ∃ W1, w.alloc (.cells #[.int .i64 0, Str [], .slice none 0 0] 55) = W1 := ⟨_, rfl⟩
  have hx1 : Ext w W1 := by rw [← hW1]; exact Below.alloc (Below.refl _ _) (Nat.le_refl _) _
  have hc1 : W1.heap[w.heap.size]? = some (.cells #[.int .i64 0, Str [], .slice none 0 0] 55 (0, 0)) := by rw [← hW1]; exact Array.getElem?_push_size
  have hb1 := (Array.getElem?_eq_some_iff.1 hc1).1
  rw [hW1]
  clear hW1
  refine (HTK.out W1 hx1).mono ?_
  rintro e W2 ⟨htk, hx2⟩
  obtain ⟨f0, ao, m, cp, k, e0, he, he0, hfl⟩ := takeR_shape htk
  subst he
  have HQ := Lib.hid htk
  clear htk
  have hq1 := cut_len f0 32
  have hq2 := cut_len (Lib.cut f0 [32]).2.1 32
  have HC1 := Lib.hid (fun W hW => scut_any f0 [32] (by omega) W hW)
  have HC2 := Lib.hid (fun W hW => scut_any (Lib.cut f0 [32]).2.1 [32] (by omega) W hW)
  have HCT := Lib.hid (fun r W => counted_any e0 r ao m cp he0 W)
  have HCC := Lib.hid (fun r => cnt_cases r m he0)
  have hrb : rightA f0 = (((Lib.cut f0 [32]).2.2 && (Lib.cut (Lib.cut f0 [32]).2.1 [32]).2.2) && (((Lib.cut f0 [32]).1 == verL) && (decide (0 < statO (Lib.cut (Lib.cut f0 [32]).2.1 [32]).1) && textB (Lib.cut (Lib.cut f0 [32]).2.1 [32]).2.1))) := rfl
  have hap : ansP f0 = ((Lib.cut f0 [32]).1, (Lib.cut (Lib.cut f0 [32]).2.1 [32]).1, (Lib.cut (Lib.cut f0 [32]).2.1 [32]).2.1, (Lib.cut f0 [32]).2.2 && (Lib.cut (Lib.cut f0 [32]).2.1 [32]).2.2) := rfl
  generalize Lib.cut f0 [32] = c1 at *
  obtain ⟨one, rest, b1⟩ := c1
  simp only at HC2 hq1 hq2 hrb hap
  generalize Lib.cut rest [32] = c2 at *
  obtain ⟨two, rsn, b2⟩ := c2
  simp only at hq1 hq2 hrb hap
  have HST := Lib.hid (fun W hW => status_any two (by omega) W hW)
  have HTX := Lib.hid (fun W => text_any rsn (by omega) W)
  have HAP := Lib.hid hap
  have HRB := Lib.hid hrb
  clear hap hrb
  generalize textB rsn = b5 at *
  have hst := statO_bounds two
  obtain ⟨so, hso⟩ : ∃ so, statO two = so := ⟨_, rfl⟩
  rw [hso] at HST HRB hst
  have HSO := Lib.hid hso
  clear hso
  have hc2 := ext_at hx2 hc1
  have HX1 := Lib.hid hx1; have HX2 := Lib.hid hx2
  clear hc1 hx1 hx2 HTK
  have hL2 := HL.out.ext (ext_trans HX1.out HX2.out)
  go_wp2_with fail
  refine (HC1.out W2 hL2).mono ?_
  rintro e W3 ⟨he, hx3⟩
  subst he
  have hc3 := ext_at hx3 hc2
  have hL3 := hL2.ext hx3
  have HX3 := Lib.hid hx3
  clear hc2 hx3 hL2
  go_wp2_with fail
  refine (HC2.out W3 hL3).mono ?_
  rintro e W4 ⟨he, hx4⟩
  subst he
  have hc4 := ext_at hx4 hc3
  have hL4 := hL3.ext hx4
  have HX4 := Lib.hid (ext_trans HX3.out hx4)
  have HL4 := Lib.hid hL4
  have HC4 := Lib.hid hc4
  have HS1 := Lib.hid (show w.heap.size < W1.heap.size from hb1)
  have HXW := Lib.hid (show Ext w W4 from ext_trans HX1.out (ext_trans HX2.out HX4.out))
  clear hc3 hc4 hx4 hL3 hL4 HX3 HC1 HC2
  have hcase : (rightA f0 = false ∧ (b1 = false ∨ (b1 = true ∧ b2 = false) ∨ (b1 = true ∧ b2 = true ∧ (one == [72, 84, 84, 80, 47, 49, 46, 49]) = false) ∨ (b1 = true ∧ b2 = true ∧ one = verL ∧ so = 0) ∨ (b1 = true ∧ b2 = true ∧ one = verL ∧ 100 ≤ so ∧ b5 = false))) ∨ (rightA f0 = true ∧ b1 = true ∧ b2 = true ∧ one = verL ∧ 100 ≤ so ∧ b5 = true) := by
    rw [HRB.out]
    cases b1 with
    | false => exact .inl ⟨rfl, .inl rfl⟩
    | true =>
      cases b2 with
      | false => exact .inl ⟨rfl, .inr (.inl ⟨rfl, rfl⟩)⟩
      | true =>
        cases hone : (one == verL) with
        | false => exact .inl ⟨rfl, .inr (.inr (.inl ⟨rfl, rfl, hone⟩))⟩
        | true =>
          obtain rfl : one = verL := by simpa using hone
          rcases hst with h0 | ⟨h0, _⟩
          · subst h0; exact .inl ⟨rfl, .inr (.inr (.inr (.inl ⟨rfl, rfl, rfl, rfl⟩)))⟩
          · have hp : decide (0 < so) = true := by simp; omega
            rw [hp]
            cases b5 with
            | false => exact .inl ⟨rfl, .inr (.inr (.inr (.inr ⟨rfl, rfl, rfl, h0, rfl⟩)))⟩
            | true => exact .inr ⟨rfl, rfl, rfl, rfl, h0, rfl⟩
  clear HRB hst
  have hv1 : (verL == [72, 84, 84, 80, 47, 49, 46, 49]) = true := rfl
  rcases hcase with ⟨hr, h⟩ | ⟨hr, rfl, rfl, rfl, h100, rfl⟩
  · obtain ⟨cv, hcv⟩ : ∃ cv, cnt e0 false m = cv := ⟨_, rfl⟩
    have hnz : (cv != 0) = true := by rw [← hcv, HCC.out]; rfl
    have HCF : Hid (∀ W, Calls Tryz.prog 34 #[.int .i64 e0, .bool false, .slice ao m cp] W fun e w' => e = .returned (.int .i64 cv) ∧ w' = W) := Lib.hid (fun W => by rw [← hcv]; exact HCT.out false W)
    have HCV := Lib.hid (show cnt e0 (rightA f0) m = cv by rw [hr, hcv])
    clear HCC HCT hr hcv
    rcases h with rfl | ⟨rfl, rfl⟩ | ⟨rfl, rfl, hone⟩ | ⟨rfl, rfl, rfl, rfl⟩ | ⟨rfl, rfl, rfl, h100, rfl⟩
    rotate_left 3
    all_goals try (have t100 : decide ((0 : Int) < so) = true := by simp; omega)
    all_goals try clear h100
    · go_wp2_with (first | (go_at_call 39; refine (HST.out _ HL4.out).mono ?_; rintro e W5 ⟨he, hx5⟩; subst he; have hc5 := ext_at hx5 HC4.out; have hf5 := frozen_row hc5; have hb5 := (Array.getElem?_eq_some_iff.1 hc5).1; obtain ⟨c0, c1, c2⟩ := cells3 hc5; have HC5 := Lib.hid hc5; have HX5 := Lib.hid hx5; clear hc5 hx5 HST) | (go_at_call 40; refine (HTX.out _).mono ?_; rintro e w' ⟨he, hw⟩; subst he; subst w') | (go_at_call 34; refine (HCF.out _).mono ?_; rintro e w' ⟨he, hw⟩; subst he; subst w'))
      have HXA := Lib.hid (ext_trans HX4.out HX5.out)
      have HXB := Lib.hid (ext_trans HXW.out HX5.out)
      have hst := setCell_row (setCell_row (setCell_row HC5.out 0 (.int .i64 0)) 1 (Str [])) 2 (.slice none 0 0)
      have hch : Chg (fun q => q = w.heap.size) W5 (((W5.setCell ⟨w.heap.size, 0, none⟩ (.int .i64 0)).setCell ⟨w.heap.size, 1, none⟩ (Str [])).setCell ⟨w.heap.size, 2, none⟩ (.slice none 0 0)) := ((Chg.setCell W5 ⟨w.heap.size, 0, none⟩ (.int .i64 0)).trans (Chg.setCell _ ⟨w.heap.size, 1, none⟩ (Str []))).trans (Chg.setCell _ ⟨w.heap.size, 2, none⟩ (.slice none 0 0))
      simp only [Str] at hst hch
      generalize (World.setCell (World.setCell (World.setCell _ _ _) _ _) _ _) = W9 at *
      obtain ⟨e0', e1', e2'⟩ := cells3 hst
      refine bodyPost_ret (v := .tuple #[.agg #[.int .i64 0, Str [], .slice none 0 0], .int .i64 0, .int .i64 cv]) (by simp [results, Tryz.results18, go_sem, e0', e1', e2']) rfl ⟨⟨W1, W2, f0, ao, m, cp, k, e0, HX1.out, HS1.out, HQ.out, (Chg.of_ext _ HXA.out).trans hch, .inl ⟨by rw [HCV.out]; simpa using hnz, by rw [HCV.out]⟩⟩, below_chg HXB.out hch (fun k hk => by have hk' : k = w.heap.size := hk; omega) (Nat.le_refl _)⟩
    · go_wp2_with (first | (go_at_call 39; refine (HST.out _ HL4.out).mono ?_; rintro e W5 ⟨he, hx5⟩; subst he; have hc5 := ext_at hx5 HC4.out; have hf5 := frozen_row hc5; have hb5 := (Array.getElem?_eq_some_iff.1 hc5).1; obtain ⟨c0, c1, c2⟩ := cells3 hc5; have HC5 := Lib.hid hc5; have HX5 := Lib.hid hx5; clear hc5 hx5 HST) | (go_at_call 40; refine (HTX.out _).mono ?_; rintro e w' ⟨he, hw⟩; subst he; subst w') | (go_at_call 34; refine (HCF.out _).mono ?_; rintro e w' ⟨he, hw⟩; subst he; subst w'))
      have HXA := Lib.hid (ext_trans HX4.out HX5.out)
      have HXB := Lib.hid (ext_trans HXW.out HX5.out)
      have hst := setCell_row (setCell_row (setCell_row HC5.out 0 (.int .i64 0)) 1 (Str [])) 2 (.slice none 0 0)
      have hch : Chg (fun q => q = w.heap.size) W5 (((W5.setCell ⟨w.heap.size, 0, none⟩ (.int .i64 0)).setCell ⟨w.heap.size, 1, none⟩ (Str [])).setCell ⟨w.heap.size, 2, none⟩ (.slice none 0 0)) := ((Chg.setCell W5 ⟨w.heap.size, 0, none⟩ (.int .i64 0)).trans (Chg.setCell _ ⟨w.heap.size, 1, none⟩ (Str []))).trans (Chg.setCell _ ⟨w.heap.size, 2, none⟩ (.slice none 0 0))
      simp only [Str] at hst hch
      generalize (World.setCell (World.setCell (World.setCell _ _ _) _ _) _ _) = W9 at *
      obtain ⟨e0', e1', e2'⟩ := cells3 hst
      refine bodyPost_ret (v := .tuple #[.agg #[.int .i64 0, Str [], .slice none 0 0], .int .i64 0, .int .i64 cv]) (by simp [results, Tryz.results18, go_sem, e0', e1', e2']) rfl ⟨⟨W1, W2, f0, ao, m, cp, k, e0, HX1.out, HS1.out, HQ.out, (Chg.of_ext _ HXA.out).trans hch, .inl ⟨by rw [HCV.out]; simpa using hnz, by rw [HCV.out]⟩⟩, below_chg HXB.out hch (fun k hk => by have hk' : k = w.heap.size := hk; omega) (Nat.le_refl _)⟩
    · have hf4 := frozen_row HC4.out
      have hb4 := (Array.getElem?_eq_some_iff.1 HC4.out).1
      obtain ⟨c0, c1, c2⟩ := cells3 HC4.out
      go_wp2_with (first | (go_at_call 39; refine (HST.out _ HL4.out).mono ?_; rintro e W5 ⟨he, hx5⟩; subst he; have hc5 := ext_at hx5 HC4.out; have hf5 := frozen_row hc5; have hb5 := (Array.getElem?_eq_some_iff.1 hc5).1; obtain ⟨c0, c1, c2⟩ := cells3 hc5; have HC5 := Lib.hid hc5; have HX5 := Lib.hid hx5; clear hc5 hx5 HST) | (go_at_call 40; refine (HTX.out _).mono ?_; rintro e w' ⟨he, hw⟩; subst he; subst w') | (go_at_call 34; refine (HCF.out _).mono ?_; rintro e w' ⟨he, hw⟩; subst he; subst w'))
      have hst := setCell_row (setCell_row (setCell_row HC4.out 0 (.int .i64 0)) 1 (Str [])) 2 (.slice none 0 0)
      have hch : Chg (fun q => q = w.heap.size) W4 (((W4.setCell ⟨w.heap.size, 0, none⟩ (.int .i64 0)).setCell ⟨w.heap.size, 1, none⟩ (Str [])).setCell ⟨w.heap.size, 2, none⟩ (.slice none 0 0)) := ((Chg.setCell W4 ⟨w.heap.size, 0, none⟩ (.int .i64 0)).trans (Chg.setCell _ ⟨w.heap.size, 1, none⟩ (Str []))).trans (Chg.setCell _ ⟨w.heap.size, 2, none⟩ (.slice none 0 0))
      simp only [Str] at hst hch
      generalize (World.setCell (World.setCell (World.setCell _ _ _) _ _) _ _) = W9 at *
      obtain ⟨e0', e1', e2'⟩ := cells3 hst
      refine bodyPost_ret (v := .tuple #[.agg #[.int .i64 0, Str [], .slice none 0 0], .int .i64 0, .int .i64 cv]) (by simp [results, Tryz.results18, go_sem, e0', e1', e2']) rfl ⟨⟨W1, W2, f0, ao, m, cp, k, e0, HX1.out, HS1.out, HQ.out, (Chg.of_ext _ HX4.out).trans hch, .inl ⟨by rw [HCV.out]; simpa using hnz, by rw [HCV.out]⟩⟩, below_chg HXW.out hch (fun k hk => by have hk' : k = w.heap.size := hk; omega) (Nat.le_refl _)⟩
    · have hf4 := frozen_row HC4.out
      have hb4 := (Array.getElem?_eq_some_iff.1 HC4.out).1
      obtain ⟨c0, c1, c2⟩ := cells3 HC4.out
      go_wp2_with (first | (go_at_call 39; refine (HST.out _ HL4.out).mono ?_; rintro e W5 ⟨he, hx5⟩; subst he; have hc5 := ext_at hx5 HC4.out; have hf5 := frozen_row hc5; have hb5 := (Array.getElem?_eq_some_iff.1 hc5).1; obtain ⟨c0, c1, c2⟩ := cells3 hc5; have HC5 := Lib.hid hc5; have HX5 := Lib.hid hx5; clear hc5 hx5 HST) | (go_at_call 40; refine (HTX.out _).mono ?_; rintro e w' ⟨he, hw⟩; subst he; subst w') | (go_at_call 34; refine (HCF.out _).mono ?_; rintro e w' ⟨he, hw⟩; subst he; subst w'))
      have hst := setCell_row (setCell_row (setCell_row HC4.out 0 (.int .i64 0)) 1 (Str [])) 2 (.slice none 0 0)
      have hch : Chg (fun q => q = w.heap.size) W4 (((W4.setCell ⟨w.heap.size, 0, none⟩ (.int .i64 0)).setCell ⟨w.heap.size, 1, none⟩ (Str [])).setCell ⟨w.heap.size, 2, none⟩ (.slice none 0 0)) := ((Chg.setCell W4 ⟨w.heap.size, 0, none⟩ (.int .i64 0)).trans (Chg.setCell _ ⟨w.heap.size, 1, none⟩ (Str []))).trans (Chg.setCell _ ⟨w.heap.size, 2, none⟩ (.slice none 0 0))
      simp only [Str] at hst hch
      generalize (World.setCell (World.setCell (World.setCell _ _ _) _ _) _ _) = W9 at *
      obtain ⟨e0', e1', e2'⟩ := cells3 hst
      refine bodyPost_ret (v := .tuple #[.agg #[.int .i64 0, Str [], .slice none 0 0], .int .i64 0, .int .i64 cv]) (by simp [results, Tryz.results18, go_sem, e0', e1', e2']) rfl ⟨⟨W1, W2, f0, ao, m, cp, k, e0, HX1.out, HS1.out, HQ.out, (Chg.of_ext _ HX4.out).trans hch, .inl ⟨by rw [HCV.out]; simpa using hnz, by rw [HCV.out]⟩⟩, below_chg HXW.out hch (fun k hk => by have hk' : k = w.heap.size := hk; omega) (Nat.le_refl _)⟩
    · have hf4 := frozen_row HC4.out
      have hb4 := (Array.getElem?_eq_some_iff.1 HC4.out).1
      obtain ⟨c0, c1, c2⟩ := cells3 HC4.out
      go_wp2_with (first | (go_at_call 39; refine (HST.out _ HL4.out).mono ?_; rintro e W5 ⟨he, hx5⟩; subst he; have hc5 := ext_at hx5 HC4.out; have hf5 := frozen_row hc5; have hb5 := (Array.getElem?_eq_some_iff.1 hc5).1; obtain ⟨c0, c1, c2⟩ := cells3 hc5; have HC5 := Lib.hid hc5; have HX5 := Lib.hid hx5; clear hc5 hx5 HST) | (go_at_call 40; refine (HTX.out _).mono ?_; rintro e w' ⟨he, hw⟩; subst he; subst w') | (go_at_call 34; refine (HCF.out _).mono ?_; rintro e w' ⟨he, hw⟩; subst he; subst w'))
      have hst := setCell_row (setCell_row (setCell_row HC4.out 0 (.int .i64 0)) 1 (Str [])) 2 (.slice none 0 0)
      have hch : Chg (fun q => q = w.heap.size) W4 (((W4.setCell ⟨w.heap.size, 0, none⟩ (.int .i64 0)).setCell ⟨w.heap.size, 1, none⟩ (Str [])).setCell ⟨w.heap.size, 2, none⟩ (.slice none 0 0)) := ((Chg.setCell W4 ⟨w.heap.size, 0, none⟩ (.int .i64 0)).trans (Chg.setCell _ ⟨w.heap.size, 1, none⟩ (Str []))).trans (Chg.setCell _ ⟨w.heap.size, 2, none⟩ (.slice none 0 0))
      simp only [Str] at hst hch
      generalize (World.setCell (World.setCell (World.setCell _ _ _) _ _) _ _) = W9 at *
      obtain ⟨e0', e1', e2'⟩ := cells3 hst
      refine bodyPost_ret (v := .tuple #[.agg #[.int .i64 0, Str [], .slice none 0 0], .int .i64 0, .int .i64 cv]) (by simp [results, Tryz.results18, go_sem, e0', e1', e2']) rfl ⟨⟨W1, W2, f0, ao, m, cp, k, e0, HX1.out, HS1.out, HQ.out, (Chg.of_ext _ HX4.out).trans hch, .inl ⟨by rw [HCV.out]; simpa using hnz, by rw [HCV.out]⟩⟩, below_chg HXW.out hch (fun k hk => by have hk' : k = w.heap.size := hk; omega) (Nat.le_refl _)⟩
  · obtain ⟨cv, hcv⟩ : ∃ cv, cnt e0 true m = cv := ⟨_, rfl⟩
    have HCF : Hid (∀ W, Calls Tryz.prog 34 #[.int .i64 e0, .bool true, .slice ao m cp] W fun e w' => e = .returned (.int .i64 cv) ∧ w' = W) := Lib.hid (fun W => by rw [← hcv]; exact HCT.out true W)
    have HCV := Lib.hid (show cnt e0 (rightA f0) m = cv by rw [hr, hcv])
    have t100 : decide ((0 : Int) < so) = true := by simp; omega
    clear HCC HCT hr hcv h100
    cases hnz : (cv != 0) with
    | true =>
      go_wp2_with (first | (go_at_call 39; refine (HST.out _ HL4.out).mono ?_; rintro e W5 ⟨he, hx5⟩; subst he; have hc5 := ext_at hx5 HC4.out; have hf5 := frozen_row hc5; have hb5 := (Array.getElem?_eq_some_iff.1 hc5).1; obtain ⟨c0, c1, c2⟩ := cells3 hc5; have HC5 := Lib.hid hc5; have HX5 := Lib.hid hx5; clear hc5 hx5 HST) | (go_at_call 40; refine (HTX.out _).mono ?_; rintro e w' ⟨he, hw⟩; subst he; subst w') | (go_at_call 34; refine (HCF.out _).mono ?_; rintro e w' ⟨he, hw⟩; subst he; subst w'))
      have HXA := Lib.hid (ext_trans HX4.out HX5.out)
      have HXB := Lib.hid (ext_trans HXW.out HX5.out)
      have hst := setCell_row (setCell_row (setCell_row HC5.out 0 (.int .i64 0)) 1 (Str [])) 2 (.slice none 0 0)
      have hch : Chg (fun q => q = w.heap.size) W5 (((W5.setCell ⟨w.heap.size, 0, none⟩ (.int .i64 0)).setCell ⟨w.heap.size, 1, none⟩ (Str [])).setCell ⟨w.heap.size, 2, none⟩ (.slice none 0 0)) := ((Chg.setCell W5 ⟨w.heap.size, 0, none⟩ (.int .i64 0)).trans (Chg.setCell _ ⟨w.heap.size, 1, none⟩ (Str []))).trans (Chg.setCell _ ⟨w.heap.size, 2, none⟩ (.slice none 0 0))
      simp only [Str] at hst hch
      generalize (World.setCell (World.setCell (World.setCell _ _ _) _ _) _ _) = W9 at *
      obtain ⟨e0', e1', e2'⟩ := cells3 hst
      refine bodyPost_ret (v := .tuple #[.agg #[.int .i64 0, Str [], .slice none 0 0], .int .i64 0, .int .i64 cv]) (by simp [results, Tryz.results18, go_sem, e0', e1', e2']) rfl ⟨⟨W1, W2, f0, ao, m, cp, k, e0, HX1.out, HS1.out, HQ.out, (Chg.of_ext _ HXA.out).trans hch, .inl ⟨by rw [HCV.out]; simpa using hnz, by rw [HCV.out]⟩⟩, below_chg HXB.out hch (fun k hk => by have hk' : k = w.heap.size := hk; omega) (Nat.le_refl _)⟩
    | false =>
      have hcv0 : cv = 0 := by simpa using hnz
      subst hcv0
      go_wp2_with (first | (go_at_call 39; refine (HST.out _ HL5.out).mono ?_; rintro e W6 ⟨he, hx6⟩; subst he; have hc6 := ext_at hx6 HC5.out; have hf6 := frozen_row hc6; have hb6 := (Array.getElem?_eq_some_iff.1 hc6).1; obtain ⟨c0, c1, c2⟩ := cells3 hc6; have HC6 := Lib.hid hc6; have HX6 := Lib.hid (ext_trans HX5.out hx6); clear hc6 hx6 HST) | (go_at_call 39; refine (HST.out _ HL4.out).mono ?_; rintro e W5 ⟨he, hx5⟩; subst he; have HL5 := Lib.hid (HL4.out.ext hx5); have hc5 := ext_at hx5 HC4.out; have hf5 := frozen_row hc5; have hb5 := (Array.getElem?_eq_some_iff.1 hc5).1; obtain ⟨c0, c1, c2⟩ := cells3 hc5; have HC5 := Lib.hid hc5; have HX5 := Lib.hid hx5; clear hc5 hx5 hf5 hb5 c0 c1 c2 HL4) | (go_at_call 40; refine (HTX.out _).mono ?_; rintro e w' ⟨he, hw⟩; subst he; subst w') | (go_at_call 34; refine (HCF.out _).mono ?_; rintro e w' ⟨he, hw⟩; subst he; subst w'))
      have HXA := Lib.hid (ext_trans HX4.out HX6.out)
      have HXB := Lib.hid (ext_trans HXW.out HX6.out)
      have hst := setCell_row (setCell_row (setCell_row HC6.out 0 (.int .i64 so)) 1 (Str rsn)) 2 (.slice ao m cp)
      have hch : Chg (fun q => q = w.heap.size) W6 (((W6.setCell ⟨w.heap.size, 0, none⟩ (.int .i64 so)).setCell ⟨w.heap.size, 1, none⟩ (Str rsn)).setCell ⟨w.heap.size, 2, none⟩ (.slice ao m cp)) := ((Chg.setCell W6 ⟨w.heap.size, 0, none⟩ (.int .i64 so)).trans (Chg.setCell _ ⟨w.heap.size, 1, none⟩ (Str rsn))).trans (Chg.setCell _ ⟨w.heap.size, 2, none⟩ (.slice ao m cp))
      simp only [Str] at hst hch
      generalize (World.setCell (World.setCell (World.setCell _ _ _) _ _) _ _) = W9 at *
      obtain ⟨e0', e1', e2'⟩ := cells3 hst
      refine bodyPost_ret (v := .tuple #[.agg #[.int .i64 so, Str rsn, .slice ao m cp], .int .i64 k, .int .i64 0]) (by simp [results, Tryz.results18, go_sem, e0', e1', e2']) rfl ⟨⟨W1, W2, f0, ao, m, cp, k, e0, HX1.out, HS1.out, HQ.out, (Chg.of_ext _ HXA.out).trans hch, .inr ⟨HCV.out, by rw [HAP.out, ← HSO.out]⟩⟩, below_chg HXB.out hch (fun k hk => by have hk' : k = w.heap.size := hk; omega) (Nat.le_refl _)⟩
end Go.Proofs.YtmflnffjhfejhaaGreatDoor
