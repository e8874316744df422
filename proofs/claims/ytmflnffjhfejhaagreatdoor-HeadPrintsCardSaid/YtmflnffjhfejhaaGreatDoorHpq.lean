/-
  HeadPrints: the law.
-/
import Derived.BigGuardPart
import Derived.RegionTactic
import Derived.Deep.DrawnRows
import Derived.Deep.CutBlock
import Derived.Deep.DeepCutAuto
import Derived.Test.YtmflnffjhfejhaaGreatDoorRows
import Derived.Test.YtmflnffjhfejhaaGreatDoorHpn
import Derived.Test.YtmflnffjhfejhaaGreatDoorOpb
import Derived.Test.YtmflnffjhfejhaaGreatDoorOph
namespace Go.Proofs.YtmflnffjhfejhaaGreatDoor
open Go.RowKit
set_option maxRecDepth 100000
attribute [local go_sem ↓] Go.wp_at_zero Go.wp_at_succ
set_option linter.unusedVariables false
set_option linter.unusedSimpArgs false

theorem prints_read {asks : Bool} {one two : List UInt8} {st : Int} {fs : List Pr} {l : List UInt8} (h : bytesO asks one two st fs = .inr l) (h2 : asks = false → two = []) (h3 : asks = true → st = 0) (b : List UInt8) :
    headO asks (l ++ b) = .inr (⟨one, two, st, fs⟩, (l.length : Int)) ∧ l.length ≤ 4096 ∧ 0 < l.length ∧ fs.length ≤ 24 := by
  obtain ⟨rfl, q1, q2, q3, q4⟩ := bytes_ok h
  refine ⟨?_, q3, bytesL_pos _ _, q4⟩
  rw [head_read q1 q2 q3 q4 b]
  cases asks with
  | true => rw [h3 rfl]; rfl
  | false => rw [h2 rfl]; rfl
set_option maxHeartbeats 4000000 in
theorem prints_card (w : World) (one two : List UInt8) (st : Int) (v : Value) (ls : List Pr) (hr : RowC 2 prC w v ls) (hs0 : -9223372036854775808 ≤ st) (hs1 : st ≤ 9223372036854775807) (asks : Bool) (bv : Value) (bs : List UInt8) (hbv : SlB w bv bs) (hL : Lb w) :
    Calls Tryz.prog 5 #[.agg #[Str one, Str two, .int .i64 st, v], .bool asks, bv] w fun e w' => e = .returned (.bool true) ∧ Ext w w' := by
  obtain ⟨ao, cap, hv, hcap, hmax, _⟩ := rowP_shape hr
  subst hv
  obtain ⟨W0, hW0⟩ : ∃ W0, w.alloc (.cells #[Str one, Str two, .int .i64 st, .slice ao ls.length cap] 29) = W0 := ⟨_, rfl⟩
  have hx0 : Ext w W0 := by rw [← hW0]; exact Below.alloc (Below.refl _ _) (Nat.le_refl _) _
  have hc0 : W0.heap[w.heap.size]? = some (.cells #[Str one, Str two, .int .i64 st, .slice ao ls.length cap] 29 (0, 0)) := by rw [← hW0]; exact Array.getElem?_push_size
  have HC0 := Lib.hid hc0; have HX0 := Lib.hid hx0
  have hs0w : w.heap.size < W0.heap.size := (Array.getElem?_eq_some_iff.1 hc0).1
  have HAW := Lib.hid (awake_law W0 (hL.ext hx0))
  have HL := Lib.hid hL; have HR := Lib.hid hr; have HBV := Lib.hid hbv
  clear hx0 hc0 hL hr
  have HFW := Lib.hid (fun W (hx : Ext w W) => few_any one two st (.slice ao ls.length cap) ls asks W (HR.out.ext hx))
  have HCU := Lib.hid (fun W (hx : Ext w W) => cut_any bv bs 50 W (HBV.out.ext hx) (by omega))
  obtain ⟨bo, bcap, hbvs, _⟩ := id hbv
  rw [List.length_map] at hbvs
  subst hbvs
  clear hbv
  go_enter Tryz.func5, Tryz.ntmps5
  go_wp2_with fail
  refine HAW.out.mono ?_
  rintro e W1 ⟨he, hx1⟩
  subst he
  have HX1 := Lib.hid (ext_trans HX0.out hx1)
  have hs1w : w.heap.size < W1.heap.size := by have := hx1.size; omega
  have HC1 := Lib.hid (ext_at hx1 HC0.out)
  obtain ⟨d0, d1, d2, d3⟩ := cells4 HC1.out
  clear hW0 hx1 HAW HC0 HX0
  go_wp2_with fail
  refine Calls.mono (HFW.out _ HX1.out) ?_
  rintro e W2 ⟨fv, he, hown, hx2⟩
  subst he
  have hfl := fewK_len 27 12 2000 ls
  have hfb := fewK_b 27 12 2000 ls
  have ho1 : (one.take 100).length ≤ 100 := by rw [List.length_take]; omega
  have ho2 : (if asks then two.take 2500 else []).length ≤ 2500 := by split <;> simp; omega
  have ho3 : -9223372036854775808 ≤ (if asks then (0 : Int) else st) ∧ (if asks then (0 : Int) else st) ≤ 9223372036854775807 := by split <;> omega
  have hk2 : asks = false → (if asks then two.take 2500 else []) = [] := fun h => by rw [h]; rfl
  have hk3 : asks = true → (if asks then (0 : Int) else st) = 0 := fun h => by rw [h]; rfl
  have HX2 := Lib.hid (ext_trans HX1.out hx2)
  have hs2w : w.heap.size < W2.heap.size := by have := hx2.size; omega
  have HC2 := Lib.hid (ext_at hx2 HC1.out)
  generalize fewK 27 12 2000 ls = fs at *
  generalize one.take 100 = one2 at *
  generalize (if asks then two.take 2500 else []) = two2 at *
  generalize (if asks then (0 : Int) else st) = st2 at *
  obtain ⟨fa, fcap, hfv, _⟩ := ownz_shape hown
  subst hfv
  have HRW := Lib.hid (rowC_of_own prC_len hown)
  have HLT := Lib.hid (fun k hk => hown.lt k hk)
  clear hown hx2 HFW d0 d1 d2 d3 HC1
  go_wp2_with fail
  refine Calls.mono (HCU.out _ HX2.out) ?_
  rintro e W3 ⟨cv, he, hown, hx3⟩
  subst he
  have hbl : (bs.take 50).length ≤ 50 := by rw [List.length_take]; omega
  have hc3 := ext_at hx3 HC2.out
  have HSB := Lib.hid (sl_of_own hown)
  have HR3 := Lib.hid (HRW.out.ext hx3)
  have HX3 := Lib.hid (ext_trans HX2.out hx3)
  generalize bs.take 50 = bh at *
  obtain ⟨ca, ccap, hcv, _⟩ := ownz_shape hown
  subst hcv
  have hf3 := frozen_row hc3
  have hb3 := (Array.getElem?_eq_some_iff.1 hc3).1
  obtain ⟨d0, d1, d2, d3⟩ := cells4 hc3
  obtain ⟨W4, hW4, hst4, hch4⟩ := set4 hc3 (Str one2) (Str two2) (.int .i64 st2) (.slice fa fs.length fcap)
  have HX4 := Lib.hid (below_chg HX3.out hch4 (fun k hk => by have hk' : k = w.heap.size := hk; omega) (Nat.le_refl _))
  have HBX := Lib.hid hst4
  have HROW4 := Lib.hid (HR3.out.keep (C := W4) (fun k hk => hch4.block k (rowC_lt HR3.out (fun x => by simp [prC]) hk) (by
    have := (HLT.out k hk.2).1
    show ¬ k = w.heap.size; omega)))
  have HLB4 := Lib.hid (HL.out.ext HX4.out)
  have hsb4 := (ownz_keep hown fun g _ hg hk => hch4.block g (kind_lt hk) (by show ¬ g = w.heap.size; omega))
  have HSB4 := Lib.hid (sl_of_own hsb4)
  have HLP := Lib.hid (lprint_any one2 two2 st2 _ fs asks (by omega) (by omega) ho3.1 ho3.2 (by omega) (fun p hp => by have := hfb p hp; omega) W4 HLB4.out HROW4.out)
  have HRB := Lib.hid (fun W (hx : Ext W4 W) => refBytes_any one2 two2 st2 _ fs asks (by omega) (by omega) ho3.1 ho3.2 (by omega) (fun p hp => by have := hfb p hp; omega) W (HROW4.out.ext hx))
  have hbo := fun c => bytes_inl (asks := asks) (one := one2) (two := two2) (st := st2) (fs := fs) (c := c)
  have hrd := fun l b h => prints_read (asks := asks) (one := one2) (two := two2) (st := st2) (fs := fs) (l := l) h hk2 hk3 b
  have HHO := Lib.hid (show ∀ o, headO asks o = headO asks o from fun _ => rfl)
  clear hown hx3 hc3 hst4 hch4 hsb4 HR3 HSB HRW HLT hfb hk2 hk3 HCU HC2 HX3 hs0w hs1w hs2w
  generalize bytesO asks one2 two2 st2 fs = o at *
  go_upto_region 4 with fail
  try simp only [hW4]
  clear hW4 hf3 hb3 d0 d1 d2 d3
  obtain ⟨c0, c1, c2, c3⟩ := cells4 HBX.out
  go_wp2_with fail
  refine HLP.out.mono ?_
  rintro e W5 ⟨hv5, hx5⟩
  have HX5 := Lib.hid (ext_trans HX4.out hx5)
  have H45 := Lib.hid hx5
  obtain ⟨e0, e1, e2, e3⟩ := cells4 (ext_at hx5 HBX.out)
  clear hx5 HLP c0 c1 c2 c3
  have hnilS : ∀ W, SlB W (.slice none 0 0) [] := fun W => sl_nil W
  rcases o with c | l
  · have he : e = _ := hv5
    subst he
    have hc := hbo c rfl
    have hc0 : (c != 0) = true := by rcases hc with rfl | rfl <;> rfl
    have hcc : (c != c) = false := by simp
    clear hv5 hbo hrd
    go_wp2_with fail
    refine (HRB.out _ H45.out).mono ?_
    rintro e W6 ⟨hv6, hx6⟩
    have he : e = _ := hv6
    subst he
    have HX6 := Lib.hid (ext_trans HX5.out hx6)
    have HSM := Lib.hid (fun W => same_any (.slice none 0 0) (.slice none 0 0) [] [] W (hnilS W) (hnilS W))
    clear hv6 hx6 HRB hnilS e0 e1 e2 e3
    rcases hc with rfl | rfl
    · go_wp2_with (go_at_call 12; refine (HSM.out _).mono ?_; rintro e w' ⟨he, hw⟩; subst he; subst w')
      go_ret
      exact ⟨rfl, HX6.out⟩
    · go_wp2_with (go_at_call 12; refine (HSM.out _).mono ?_; rintro e w' ⟨he, hw⟩; subst he; subst w')
      go_ret
      exact ⟨rfl, HX6.out⟩
  · obtain ⟨a5, cp5, he, hs5⟩ := hv5
    subst he
    have hrd2 := hrd l bh rfl
    have HS5 := Lib.hid hs5
    clear hbo hrd hs5 hnilS
    go_wp2_with fail
    refine (HRB.out _ H45.out).mono ?_
    rintro e W6 ⟨hv6, hx6⟩
    obtain ⟨a6, cp6, he, hs6⟩ := hv6
    subst he
    have HX6 := Lib.hid (ext_trans HX5.out hx6)
    have HS56 := Lib.hid (HS5.out.ext hx6)
    have HSM := Lib.hid (same_any _ _ l l W6 HS56.out hs6)
    have HLL := Lib.hid (show (l == l) = true by simp)
    obtain ⟨hHO, hl40, hl0, hf24⟩ := hrd2
    have HHO2 := Lib.hid hHO
    have HCP := Lib.hid (copy_any _ l W6 HS56.out (by omega))
    have HB6 := Lib.hid ((HSB4.out.ext H45.out).ext hx6)
    have HBX6 := Lib.hid (ext_at hx6 (ext_at H45.out HBX.out))
    have HRO6 := Lib.hid ((HROW4.out.ext H45.out).ext hx6)
    have HLB6 := Lib.hid ((HLB4.out.ext H45.out).ext hx6)
    clear hx6 hs6 HRB e0 e1 e2 e3 hHO HS56 HS5 HSB4 HBX HROW4 HLB4 H45
    go_wp2_with (go_at_call 12; refine HSM.out.mono ?_; rintro e w' ⟨he, hw⟩; subst he; subst w'; rw [HLL.out])
    refine Calls.mono HCP.out ?_
    rintro e W7 ⟨qv, he, hown, hx7⟩
    subst he
    obtain ⟨qa, qcap, hqv, hqc⟩ := ownz_shape hown
    subst hqv
    have HO7 := Lib.hid hown
    have HX7 := Lib.hid hx7
    have hsz7 := hx7.size
    have HB7 := Lib.hid (HB6.out.ext hx7)
    clear hown hx7 HCP HSM HB6
    go_wp2_with (at_builtin; refine wpList_more W6.heap.size rfl _ _ 22 5 rfl Tryz.underlying22 infoByte rfl (by omega) HO7.out HB7.out (byt_one _) (by simp; omega) hsz7 rfl rfl ?_; rintro v8 W8 hown8 hgr8; obtain ⟨qa8, qcap8, hqv8, _⟩ := ownz_shape hown8; subst hqv8; have HO8 := Lib.hid hown8; have HX8 := Lib.hid (ext_push HX7.out HO7.out hgr8); clear hown8 hgr8)
    have hs8 : SlB W8 (.slice qa8 (l.length + bh.length) qcap8) (l ++ bh) := by
      have h := sl_of_own HO8.out
      rw [← List.map_append, List.length_map] at h
      exact h
    obtain ⟨a8, rfl⟩ : ∃ a, qa8 = some a := by
      obtain ⟨x, y, h1, h2, _, h3, _⟩ := id hs8
      simp only [Value.slice.injEq] at h1
      cases qa8 with
      | some a => exact ⟨a, rfl⟩
      | none =>
        have := h3 h1.1.symm
        rw [List.length_map, List.length_append] at h2
        omega
    have hll : (l ++ bh).length = l.length + bh.length := List.length_append
    have HLP := Lib.hid (lparse_any a8 qcap8 (l ++ bh) (by rw [hll]; omega) asks W8 (HLB6.out.ext HX8.out) (by rw [hll]; exact hs8))
    rw [hll, HHO2.out] at HLP
    clear hs8 hll HO8 HX7 hsz7 HB7
    refine HLP.out.mono ?_
    rintro e W9 ⟨hv9, hx9⟩
    obtain ⟨v9, hr9, he⟩ := hv9
    subst he
    simp only at hr9 ⊢
    obtain ⟨ao9, cap9, hv9s, _⟩ := ownz_shape hr9
    subst hv9s
    have h69 := ext_trans HX8.out hx9
    have HRW9 := Lib.hid (rowC_of_own prC_len hr9)
    have HX9 := Lib.hid (ext_trans HX6.out h69)
    have HBX9 := Lib.hid (ext_at h69 HBX6.out)
    have HRO9 := Lib.hid (HRO6.out.ext h69)
    clear hr9 hx9 h69 HLP HX8 HBX6 HRO6 HLB6 HX6
    obtain ⟨W10, hW10⟩ : ∃ W10, W9.alloc (.cells #[.string ⟨one2.toArray⟩, .string ⟨two2.toArray⟩, .int .i64 st2, .slice ao9 fs.length cap9] 29) = W10 := ⟨_, rfl⟩
    have hx10 : Ext W9 W10 := by rw [← hW10]; exact Below.alloc (Below.refl _ _) (Nat.le_refl _) _
    have hc10 : W10.heap[W9.heap.size]? = some (.cells #[.string ⟨one2.toArray⟩, .string ⟨two2.toArray⟩, .int .i64 st2, .slice ao9 fs.length cap9] 29 (0, 0)) := by rw [← hW10]; exact Array.getElem?_push_size
    obtain ⟨p0, p1, p2, p3⟩ := cells4 hc10
    obtain ⟨q0, q1, q2, q3⟩ := cells4 (ext_at hx10 HBX9.out)
    have HSA := Lib.hid (refSame_any one2 two2 st2 _ _ fs (by omega) W10 (HRW9.out.ext hx10) (HRO9.out.ext hx10))
    have HX10 := Lib.hid (ext_trans HX9.out hx10)
    have hll2 : ((l.length : Int) == (l.length : Int)) = true := by simp
    clear hc10 hx10 HRW9 HBX9 HRO9 HX9
    go_wp2_with (go_at_call 11; refine HSA.out.mono ?_; rintro e W11 ⟨he, hx11⟩; subst he; have HX11 := Lib.hid (ext_trans HX10.out hx11); clear hx11)
    go_ret
    exact ⟨rfl, HX11.out⟩
theorem prints_card2 (w : World) (a0 : Value) (one two : List UInt8) (st : Int) (fv : Value) (ls : List Pr) (h : HeadIs w a0 one two st fv ls) (asks : Bool) (a2 : Value) (l2 : List UInt8) (h2 : SlB w a2 l2) (hb : ∀ x ∈ l2, TrueW x) (hL : Lb w) :
    Calls Tryz.prog 5 #[a0, .bool asks, a2] w fun e w' => e = .returned (.bool true) ∧ Ext w w' := by
  obtain ⟨rfl, hr, h0, h1⟩ := h
  exact prints_card w one two st fv ls hr h0 h1 asks a2 l2 h2 hL
end Go.Proofs.YtmflnffjhfejhaaGreatDoor
