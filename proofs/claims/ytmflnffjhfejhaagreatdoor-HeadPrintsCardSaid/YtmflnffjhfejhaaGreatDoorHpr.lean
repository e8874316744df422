/-
  head.ParseRequest.
-/
import Derived.BigGuardPart
import Derived.RegionTactic
import Derived.Deep.RegionHeld3
import Derived.Deep.DrawnRows
import Derived.Test.YtmflnffjhfejhaaGreatDoorRows
import Derived.Test.YtmflnffjhfejhaaGreatDoorHtk
import Derived.Test.YtmflnffjhfejhaaGreatDoorHch
import Derived.Test.YtmflnffjhfejhaaGreatDoorKit
namespace Go.Proofs.YtmflnffjhfejhaaGreatDoor
open Go.RowKit
set_option maxRecDepth 100000
attribute [local go_sem ↓] Go.wp_at_zero Go.wp_at_succ
set_option linter.unusedVariables false
set_option linter.unusedSimpArgs false

def verL : List UInt8 := [72, 84, 84, 80, 47, 49, 46, 49]
def rightB (f : List UInt8) : Bool := match spb 32 f with
  | [a, b, c] => tokenB a && (targetB b && c == verL)
  | _ => false
def cnt (e0 : Int) (r : Bool) (m : Nat) : Int := if e0 = 0 then (if r then (if 24 < m then 3 else 0) else 4) else e0
/-- What ParseRequest answers, by what take answered. -/
def PrqQ (f0 : List UInt8) (ao : Option Addr) (m cap : Nat) (k e0 : Int) (e : Ending) : Prop :=
  (cnt e0 (rightB f0) m ≠ 0 ∧ e = .returned (.tuple #[.agg #[Str [], Str [], .slice none 0 0], .int .i64 0, .int .i64 (cnt e0 (rightB f0) m)])) ∨
  (cnt e0 (rightB f0) m = 0 ∧ ∃ a b, spb 32 f0 = [a, b, verL] ∧ e = .returned (.tuple #[.agg #[Str a, Str b, .slice ao m cap], .int .i64 k, .int .i64 0]))
theorem takeR_shape {l : List UInt8} {w w' : World} {e : Ending} (h : TakeR l w w' e) : ∃ f0 ao m cap k e0, e = .returned (.tuple #[Str f0, .slice ao m cap, .int .i64 k, .int .i64 e0]) ∧ (e0 = 0 ∨ e0 = 2 ∨ e0 = 3 ∨ e0 = 4) ∧ f0.length ≤ l.length := by
  rcases h with ⟨_, he⟩ | ⟨n, hn, hn4, ao, m, cap, h⟩
  · exact ⟨[], none, 0, 0, 0, _, he, by split <;> simp, Nat.zero_le _⟩
  · have hpos := tkL_pos l n hn4
    have hmem : (tkL l n).getD 0 ([], false) ∈ tkL l n := by simp [List.getD, hpos]
    have hlen : ((tkL l n).getD 0 ([], false)).1.length ≤ l.length := Nat.le_trans (hlines_part _ _ (Nat.le_refl _) _ hmem) (by rw [List.length_take]; omega)
    rcases h with ⟨_, _, _, he⟩ | ⟨_, he⟩
    · exact ⟨_, _, _, _, _, _, he, .inl rfl, hlen⟩
    · exact ⟨_, _, _, _, _, _, he, .inr (.inr (.inr rfl)), hlen⟩
def PrqR (l : List UInt8) (w w' : World) (e : Ending) : Prop :=
  ∃ W1 w2 f0 ao m cap k e0, Ext w W1 ∧ w.heap.size < W1.heap.size ∧ TakeR l W1 w2 (.returned (.tuple #[Str f0, .slice ao m cap, .int .i64 k, .int .i64 e0])) ∧ Chg (fun q => q = w.heap.size) w2 w' ∧ PrqQ f0 ao m cap k e0 e
theorem cnt_cases {e0 : Int} (r : Bool) (m : Nat) (he : e0 = 0 ∨ e0 = 2 ∨ e0 = 3 ∨ e0 = 4) : (cnt e0 r m != 0) = !(r && (decide (m ≤ 24) && (e0 == 0))) := by
  unfold cnt
  rcases he with rfl | rfl | rfl | rfl <;> cases r <;> by_cases h : 24 < m <;> simp [h, Nat.not_le.2, Nat.not_lt.1] <;> omega
theorem infoReq : (Tryz.prog.info? 47).map (fun i => (i.zero, i.size)) = some (some (.agg #[.string ⟨#[]⟩, .string ⟨#[]⟩, .slice none 0 0]), 3) := by kernel_rfl
theorem cells3 {W : World} {b : Nat} {v0 v1 v2 : Value} {t : TypeId} (h : W.heap[b]? = some (.cells #[v0, v1, v2] t (0, 0))) : W.cell? ⟨b, 0, none⟩ = some v0 ∧ W.cell? ⟨b, 1, none⟩ = some v1 ∧ W.cell? ⟨b, 2, none⟩ = some v2 := by
  refine ⟨?_, ?_, ?_⟩ <;> simp [World.cell?, h]
set_option maxHeartbeats 2000000 in
theorem preq_any (a : Addr) (cap : Nat) (l : List UInt8) (hl : l.length ≤ 10000) (w : World) (hL : Lb w) (hv : SlB w (.slice (some a) l.length cap) l) :
    Calls Tryz.prog 16 #[.slice (some a) l.length cap] w fun e w' => PrqR l w w' e ∧ Ext w w' := by
  have HL := Lib.hid hL; have HV := Lib.hid hv
  have HTK := Lib.hid (fun W (hx : Ext w W) => take_any a cap l hl W (hL.ext hx) (hv.ext hx))
  clear hL hv
  go_enter Tryz.func16, Tryz.ntmps16
  go_wp2_with fail
  obtain ⟨W1, hW1⟩ : ∃ W1, w.alloc (.cells #[Str [], Str [], .slice none 0 0] 47) = W1 := ⟨_, rfl⟩
  have hx1 : Ext w W1 := by rw [← hW1]; exact Below.alloc (Below.refl _ _) (Nat.le_refl _) _
  have hc1 : W1.heap[w.heap.size]? = some (.cells #[Str [], Str [], .slice none 0 0] 47 (0, 0)) := by rw [← hW1]; exact Array.getElem?_push_size
  have hb1 := (Array.getElem?_eq_some_iff.1 hc1).1
  rw [hW1]
  clear hW1
  refine (HTK.out W1 hx1).mono ?_
  rintro e W2 ⟨htk, hx2⟩
  obtain ⟨f0, ao, m, cp, k, e0, he, he0, hfl⟩ := takeR_shape htk
  subst he
  have HQ := Lib.hid htk
  clear htk
  have HSP := Lib.hid (fun W hW => split_any f0 32 (by omega) W hW)
  have HCT := Lib.hid (fun r W => counted_any e0 r ao m cp he0 W)
  have HCC := Lib.hid (fun r => cnt_cases r m he0)
  have HRB := Lib.hid (show rightB f0 = match spb 32 f0 with | [a, b, c] => tokenB a && (targetB b && c == verL) | _ => false from rfl)
  have HPT := Lib.hid (spb_part 32 f0)
  obtain ⟨sp, hsp⟩ : ∃ sp, spb 32 f0 = sp := ⟨_, rfl⟩
  rw [hsp] at HSP HRB HPT
  have HSPE := Lib.hid hsp
  have hc2 := ext_at hx2 hc1
  have HX1 := Lib.hid hx1; have HX2 := Lib.hid hx2
  clear hsp hc1 hx1 hx2 HTK
  have hL2 := HL.out.ext (ext_trans HX1.out HX2.out)
  go_wp2_with fail
  refine (HSP.out W2 hL2).mono ?_
  rintro e W3 ⟨he, hw3⟩
  subst he
  have hx3 : Ext W2 W3 := by rw [hw3]; exact Below.alloc (Below.refl _ _) (Nat.le_refl _) _
  have hr3 : W3.heap[W2.heap.size]? = some (.cells (sp.map Str).toArray 9 (0, 0)) := by rw [hw3]; exact Array.getElem?_push_size
  have hc3 := ext_at hx3 hc2
  have HX3 := Lib.hid hx3
  clear hw3 hc2 hx3 HSP
  by_cases h3 : sp.length = 3
  · obtain ⟨x, y, z, rfl⟩ : ∃ x y z, sp = [x, y, z] := by
      match sp, h3 with
      | [x, y, z], _ => exact ⟨x, y, z, rfl⟩
    have HR3 := Lib.hid hr3; have HC3 := Lib.hid hc3
    have hf3 := frozen_row hc3
    have hb3 := (Array.getElem?_eq_some_iff.1 hc3).1
    have hb2 := (Array.getElem?_eq_some_iff.1 hr3).1
    obtain ⟨d0, d1, d2⟩ := cells3 hr3
    clear h3 hr3 hc3
    simp only [List.length_cons, List.length_nil, Nat.reduceAdd]
    go_wp2_with fail
    have HXW := Lib.hid (show Ext w W3 from ext_trans HX1.out (ext_trans HX2.out HX3.out))
    have HS1 := Lib.hid (show w.heap.size < W1.heap.size from hb1)
    have HTOK := Lib.hid (fun W => token_any x (by have := HPT.out x (by simp); omega) W)
    have HTGT := Lib.hid (fun W => target_any y (by have := HPT.out y (by simp); omega) W)
    cases hta : tokenB x with
    | false =>
      rw [hta] at HTOK
      have HRF := Lib.hid (show rightB f0 = false by rw [HRB.out]; simp [hta])
      obtain ⟨cv, hcv⟩ : ∃ cv, cnt e0 false m = cv := ⟨_, rfl⟩
      have hnz : (cv != 0) = true := by rw [← hcv, HCC.out]; rfl
      have HCF : Hid (∀ W, Calls Tryz.prog 34 #[.int .i64 e0, .bool false, .slice ao m cp] W fun e w' => e = .returned (.int .i64 cv) ∧ w' = W) := Lib.hid (fun W => by rw [← hcv]; exact HCT.out false W)
      have HCV := Lib.hid (show cnt e0 (rightB f0) m = cv by rw [HRF.out, hcv])
      obtain ⟨c0, c1, c2⟩ := cells3 HC3.out
      clear HCC HCT HRF HRB
      go_wp2_with (first | (go_at_call 32; refine (HTOK.out _).mono ?_; rintro e w' ⟨he, hw⟩; subst he; subst w') | (go_at_call 33; refine (HTGT.out _).mono ?_; rintro e w' ⟨he, hw⟩; subst he; subst w') | (go_at_call 34; refine (HCF.out _).mono ?_; rintro e w' ⟨he, hw⟩; subst he; subst w'))
      have hst := setCell_row (setCell_row (setCell_row HC3.out 0 (Str [])) 1 (Str [])) 2 (.slice none 0 0)
      have hch : Chg (fun q => q = w.heap.size) W3 (((W3.setCell ⟨w.heap.size, 0, none⟩ (Str [])).setCell ⟨w.heap.size, 1, none⟩ (Str [])).setCell ⟨w.heap.size, 2, none⟩ (.slice none 0 0)) := ((Chg.setCell W3 ⟨w.heap.size, 0, none⟩ (Str [])).trans (Chg.setCell _ ⟨w.heap.size, 1, none⟩ (Str []))).trans (Chg.setCell _ ⟨w.heap.size, 2, none⟩ (.slice none 0 0))
      simp only [Str] at hst hch
      generalize (World.setCell (World.setCell (World.setCell _ _ _) _ _) _ _) = W5 at *
      obtain ⟨e0', e1', e2'⟩ := cells3 hst
      refine bodyPost_ret (v := .tuple #[.agg #[Str [], Str [], .slice none 0 0], .int .i64 0, .int .i64 cv]) (by simp [results, Tryz.results16, go_sem, e0', e1', e2']) rfl ⟨⟨W1, W2, f0, ao, m, cp, k, e0, HX1.out, HS1.out, HQ.out, (Chg.of_ext _ HX3.out).trans hch, .inl ⟨by rw [HCV.out]; simpa using hnz, by rw [HCV.out]⟩⟩, below_chg HXW.out hch (fun k hk => by have hk' : k = w.heap.size := hk; omega) (Nat.le_refl _)⟩
    | true =>
      rw [hta] at HTOK
      cases htb : targetB y with
      | false =>
        rw [htb] at HTGT
        have HRF := Lib.hid (show rightB f0 = false by rw [HRB.out]; simp [hta, htb])
        obtain ⟨cv, hcv⟩ : ∃ cv, cnt e0 false m = cv := ⟨_, rfl⟩
        have hnz : (cv != 0) = true := by rw [← hcv, HCC.out]; rfl
        have HCF : Hid (∀ W, Calls Tryz.prog 34 #[.int .i64 e0, .bool false, .slice ao m cp] W fun e w' => e = .returned (.int .i64 cv) ∧ w' = W) := Lib.hid (fun W => by rw [← hcv]; exact HCT.out false W)
        have HCV := Lib.hid (show cnt e0 (rightB f0) m = cv by rw [HRF.out, hcv])
        obtain ⟨c0, c1, c2⟩ := cells3 HC3.out
        clear HCC HCT HRF HRB
        go_wp2_with (first | (go_at_call 32; refine (HTOK.out _).mono ?_; rintro e w' ⟨he, hw⟩; subst he; subst w') | (go_at_call 33; refine (HTGT.out _).mono ?_; rintro e w' ⟨he, hw⟩; subst he; subst w') | (go_at_call 34; refine (HCF.out _).mono ?_; rintro e w' ⟨he, hw⟩; subst he; subst w'))
        have hst := setCell_row (setCell_row (setCell_row HC3.out 0 (Str [])) 1 (Str [])) 2 (.slice none 0 0)
        have hch : Chg (fun q => q = w.heap.size) W3 (((W3.setCell ⟨w.heap.size, 0, none⟩ (Str [])).setCell ⟨w.heap.size, 1, none⟩ (Str [])).setCell ⟨w.heap.size, 2, none⟩ (.slice none 0 0)) := ((Chg.setCell W3 ⟨w.heap.size, 0, none⟩ (Str [])).trans (Chg.setCell _ ⟨w.heap.size, 1, none⟩ (Str []))).trans (Chg.setCell _ ⟨w.heap.size, 2, none⟩ (.slice none 0 0))
        simp only [Str] at hst hch
        generalize (World.setCell (World.setCell (World.setCell _ _ _) _ _) _ _) = W5 at *
        obtain ⟨e0', e1', e2'⟩ := cells3 hst
        refine bodyPost_ret (v := .tuple #[.agg #[Str [], Str [], .slice none 0 0], .int .i64 0, .int .i64 cv]) (by simp [results, Tryz.results16, go_sem, e0', e1', e2']) rfl ⟨⟨W1, W2, f0, ao, m, cp, k, e0, HX1.out, HS1.out, HQ.out, (Chg.of_ext _ HX3.out).trans hch, .inl ⟨by rw [HCV.out]; simpa using hnz, by rw [HCV.out]⟩⟩, below_chg HXW.out hch (fun k hk => by have hk' : k = w.heap.size := hk; omega) (Nat.le_refl _)⟩
      | true =>
        rw [htb] at HTGT
        cases htc : (z == verL) with
        | false =>
          have htc' : (z == [72, 84, 84, 80, 47, 49, 46, 49]) = false := htc
          have HRF := Lib.hid (show rightB f0 = false by rw [HRB.out]; simp [hta, htb, htc])
          obtain ⟨cv, hcv⟩ : ∃ cv, cnt e0 false m = cv := ⟨_, rfl⟩
          have hnz : (cv != 0) = true := by rw [← hcv, HCC.out]; rfl
          have HCF : Hid (∀ W, Calls Tryz.prog 34 #[.int .i64 e0, .bool false, .slice ao m cp] W fun e w' => e = .returned (.int .i64 cv) ∧ w' = W) := Lib.hid (fun W => by rw [← hcv]; exact HCT.out false W)
          have HCV := Lib.hid (show cnt e0 (rightB f0) m = cv by rw [HRF.out, hcv])
          obtain ⟨c0, c1, c2⟩ := cells3 HC3.out
          clear HCC HCT HRF HRB
          go_wp2_with (first | (go_at_call 32; refine (HTOK.out _).mono ?_; rintro e w' ⟨he, hw⟩; subst he; subst w') | (go_at_call 33; refine (HTGT.out _).mono ?_; rintro e w' ⟨he, hw⟩; subst he; subst w') | (go_at_call 34; refine (HCF.out _).mono ?_; rintro e w' ⟨he, hw⟩; subst he; subst w'))
          have hst := setCell_row (setCell_row (setCell_row HC3.out 0 (Str [])) 1 (Str [])) 2 (.slice none 0 0)
          have hch : Chg (fun q => q = w.heap.size) W3 (((W3.setCell ⟨w.heap.size, 0, none⟩ (Str [])).setCell ⟨w.heap.size, 1, none⟩ (Str [])).setCell ⟨w.heap.size, 2, none⟩ (.slice none 0 0)) := ((Chg.setCell W3 ⟨w.heap.size, 0, none⟩ (Str [])).trans (Chg.setCell _ ⟨w.heap.size, 1, none⟩ (Str []))).trans (Chg.setCell _ ⟨w.heap.size, 2, none⟩ (.slice none 0 0))
          simp only [Str] at hst hch
          generalize (World.setCell (World.setCell (World.setCell _ _ _) _ _) _ _) = W5 at *
          obtain ⟨e0', e1', e2'⟩ := cells3 hst
          refine bodyPost_ret (v := .tuple #[.agg #[Str [], Str [], .slice none 0 0], .int .i64 0, .int .i64 cv]) (by simp [results, Tryz.results16, go_sem, e0', e1', e2']) rfl ⟨⟨W1, W2, f0, ao, m, cp, k, e0, HX1.out, HS1.out, HQ.out, (Chg.of_ext _ HX3.out).trans hch, .inl ⟨by rw [HCV.out]; simpa using hnz, by rw [HCV.out]⟩⟩, below_chg HXW.out hch (fun k hk => by have hk' : k = w.heap.size := hk; omega) (Nat.le_refl _)⟩
        | true =>
          obtain rfl : z = verL := by simpa using htc
          have hv1 : (verL == [72, 84, 84, 80, 47, 49, 46, 49]) = true := rfl
          have HRT := Lib.hid (show rightB f0 = true by rw [HRB.out]; simp [hta, htb])
          obtain ⟨cv, hcv⟩ : ∃ cv, cnt e0 true m = cv := ⟨_, rfl⟩
          have HCF : Hid (∀ W, Calls Tryz.prog 34 #[.int .i64 e0, .bool true, .slice ao m cp] W fun e w' => e = .returned (.int .i64 cv) ∧ w' = W) := Lib.hid (fun W => by rw [← hcv]; exact HCT.out true W)
          have HCV := Lib.hid (show cnt e0 (rightB f0) m = cv by rw [HRT.out, hcv])
          obtain ⟨c0, c1, c2⟩ := cells3 HC3.out
          clear HCC HCT HRB hcv htc
          cases hnz : (cv != 0) with
          | true =>
            go_wp2_with (first | (go_at_call 32; refine (HTOK.out _).mono ?_; rintro e w' ⟨he, hw⟩; subst he; subst w') | (go_at_call 33; refine (HTGT.out _).mono ?_; rintro e w' ⟨he, hw⟩; subst he; subst w') | (go_at_call 34; refine (HCF.out _).mono ?_; rintro e w' ⟨he, hw⟩; subst he; subst w'))
            have hst := setCell_row (setCell_row (setCell_row HC3.out 0 (Str [])) 1 (Str [])) 2 (.slice none 0 0)
            have hch : Chg (fun q => q = w.heap.size) W3 (((W3.setCell ⟨w.heap.size, 0, none⟩ (Str [])).setCell ⟨w.heap.size, 1, none⟩ (Str [])).setCell ⟨w.heap.size, 2, none⟩ (.slice none 0 0)) := ((Chg.setCell W3 ⟨w.heap.size, 0, none⟩ (Str [])).trans (Chg.setCell _ ⟨w.heap.size, 1, none⟩ (Str []))).trans (Chg.setCell _ ⟨w.heap.size, 2, none⟩ (.slice none 0 0))
            simp only [Str] at hst hch
            generalize (World.setCell (World.setCell (World.setCell _ _ _) _ _) _ _) = W5 at *
            obtain ⟨e0', e1', e2'⟩ := cells3 hst
            refine bodyPost_ret (v := .tuple #[.agg #[Str [], Str [], .slice none 0 0], .int .i64 0, .int .i64 cv]) (by simp [results, Tryz.results16, go_sem, e0', e1', e2']) rfl ⟨⟨W1, W2, f0, ao, m, cp, k, e0, HX1.out, HS1.out, HQ.out, (Chg.of_ext _ HX3.out).trans hch, .inl ⟨by rw [HCV.out]; simpa using hnz, by rw [HCV.out]⟩⟩, below_chg HXW.out hch (fun k hk => by have hk' : k = w.heap.size := hk; omega) (Nat.le_refl _)⟩
          | false =>
            have hcv0 : cv = 0 := by simpa using hnz
            subst hcv0
            go_wp2_with (first | (go_at_call 32; refine (HTOK.out _).mono ?_; rintro e w' ⟨he, hw⟩; subst he; subst w') | (go_at_call 33; refine (HTGT.out _).mono ?_; rintro e w' ⟨he, hw⟩; subst he; subst w') | (go_at_call 34; refine (HCF.out _).mono ?_; rintro e w' ⟨he, hw⟩; subst he; subst w'))
            have hr3' := HR3.out; have hf3' := frozen_row HC3.out
            have hst := setCell_row (setCell_row (setCell_row HC3.out 0 (Str x)) 1 (Str y)) 2 (.slice ao m cp)
            have hch : Chg (fun q => q = w.heap.size) W3 (((W3.setCell ⟨w.heap.size, 0, none⟩ (Str x)).setCell ⟨w.heap.size, 1, none⟩ (Str y)).setCell ⟨w.heap.size, 2, none⟩ (.slice ao m cp)) := ((Chg.setCell W3 ⟨w.heap.size, 0, none⟩ (Str x)).trans (Chg.setCell _ ⟨w.heap.size, 1, none⟩ (Str y))).trans (Chg.setCell _ ⟨w.heap.size, 2, none⟩ (.slice ao m cp))
            have HST := Lib.hid hst; have HCH := Lib.hid hch
            clear hst hch hr3'
            have HSP2 := Lib.hid (show spb 32 f0 = [x, y, verL] from HSPE.out)
            go_region
            have hst := HST.out; have hch := HCH.out
            simp only [Str] at hst hch
            go_simp
            generalize (World.setCell (World.setCell (World.setCell _ _ _) _ _) _ _) = W5 at *
            obtain ⟨e0', e1', e2'⟩ := cells3 (show W5.drew.heap[w.heap.size]? = _ from hst)
            go_wp2_with fail
            refine bodyPost_ret (v := .tuple #[.agg #[Str x, Str y, .slice ao m cp], .int .i64 k, .int .i64 0]) (by simp [results, Tryz.results16, go_sem, e0', e1', e2']) rfl ⟨⟨W1, W2, f0, ao, m, cp, k, e0, HX1.out, HS1.out, HQ.out, (Chg.of_ext _ HX3.out).trans (hch.trans (Chg.of_ext _ (Below.drew (Below.refl _ W5)))), .inr ⟨HCV.out, _, _, HSP2.out, rfl⟩⟩, (below_chg HXW.out hch (fun k hk => by have hk' : k = w.heap.size := hk; omega) (Nat.le_refl _)).trans (Below.drew (Below.refl _ W5))⟩
  · have t3 : (((sp.length : Int)) == 3) = false := by simp; omega
    have HRF := Lib.hid (show rightB f0 = false by
      rw [HRB.out]
      split
      · simp at h3
      · rfl)
    have HXW := Lib.hid (show Ext w W3 from ext_trans HX1.out (ext_trans HX2.out HX3.out))
    have HS1 := Lib.hid (show w.heap.size < W1.heap.size from hb1)
    obtain ⟨cv, hcv⟩ : ∃ cv, cnt e0 false m = cv := ⟨_, rfl⟩
    have hnz : (cv != 0) = true := by rw [← hcv, HCC.out]; rfl
    have HCF : Hid (∀ W, Calls Tryz.prog 34 #[.int .i64 e0, .bool false, .slice ao m cp] W fun e w' => e = .returned (.int .i64 cv) ∧ w' = W) := Lib.hid (fun W => by rw [← hcv]; exact HCT.out false W)
    have HCV := Lib.hid (show cnt e0 (rightB f0) m = cv by rw [HRF.out, hcv])
    have HC3 := Lib.hid hc3
    have hf3 := frozen_row hc3
    have hb3 := (Array.getElem?_eq_some_iff.1 hc3).1
    obtain ⟨c0, c1, c2⟩ := cells3 hc3
    clear h3 hr3 hc3 hcv HCC HCT HRF HRB
    go_wp2_with (go_at_call 34; refine (HCF.out _).mono ?_; rintro e w' ⟨he, hw⟩; subst he; subst w')
    have hst := setCell_row (setCell_row (setCell_row HC3.out 0 (Str [])) 1 (Str [])) 2 (.slice none 0 0)
    have hch : Chg (fun q => q = w.heap.size) W3 (((W3.setCell ⟨w.heap.size, 0, none⟩ (Str [])).setCell ⟨w.heap.size, 1, none⟩ (Str [])).setCell ⟨w.heap.size, 2, none⟩ (.slice none 0 0)) := ((Chg.setCell W3 ⟨w.heap.size, 0, none⟩ (Str [])).trans (Chg.setCell _ ⟨w.heap.size, 1, none⟩ (Str []))).trans (Chg.setCell _ ⟨w.heap.size, 2, none⟩ (.slice none 0 0))
    simp only [Str] at hst hch
    generalize (World.setCell (World.setCell (World.setCell _ _ _) _ _) _ _) = W5 at *
    obtain ⟨e0', e1', e2'⟩ := cells3 hst
    refine bodyPost_ret (v := .tuple #[.agg #[Str [], Str [], .slice none 0 0], .int .i64 0, .int .i64 cv]) (by simp [results, Tryz.results16, go_sem, e0', e1', e2']) rfl ⟨⟨W1, W2, f0, ao, m, cp, k, e0, HX1.out, HS1.out, HQ.out, (Chg.of_ext _ HX3.out).trans hch, .inl ⟨by rw [HCV.out]; simpa using hnz, by rw [HCV.out]⟩⟩, below_chg HXW.out hch (fun k hk => by have hk' : k = w.heap.size := hk; omega) (Nat.le_refl _)⟩
end Go.Proofs.YtmflnffjhfejhaaGreatDoor
