/-
  HeadShort.
-/
import Derived.BigGuardPart
import Derived.RegionTactic
import Derived.Deep.DrawnRows
import Derived.Test.YtmflnffjhfejhaaGreatDoorRows
import Derived.Test.YtmflnffjhfejhaaGreatDoorHaw
import Derived.Test.YtmflnffjhfejhaaGreatDoorHrb
import Derived.Test.YtmflnffjhfejhaaGreatDoorHrd
import Derived.Test.YtmflnffjhfejhaaGreatDoorOph
namespace Go.Proofs.YtmflnffjhfejhaaGreatDoor
open Go.RowKit
set_option maxRecDepth 100000
attribute [local go_sem ↓] Go.wp_at_zero Go.wp_at_succ
set_option linter.unusedVariables false
set_option linter.unusedSimpArgs false

theorem bytes_inl {asks : Bool} {one two : List UInt8} {st : Int} {fs : List Pr} {c : Int} (h : bytesO asks one two st fs = .inl c) : c = 3 ∨ c = 4 := by
  unfold bytesO at h
  split at h
  · split at h
    · injection h with h; exact .inl h.symm
    · cases h
  · injection h with h; exact .inr h.symm
theorem bytesL_pos (f : List UInt8) (fs : List Pr) : 0 < (bytesL f fs).length := by rw [bytesL_body]; simp; omega
theorem short_head {asks : Bool} {one two : List UInt8} {st : Int} {fs : List Pr} {l : List UInt8} (h : bytesO asks one two st fs = .inr l) (k : Nat) (hk : k < l.length) : headO asks (l.take k) = .inl 2 := by
  obtain ⟨rfl, h1, h2, h3, _⟩ := bytes_ok h
  unfold headO
  have hN : tkN ((bytesL (firstL asks one two st) fs).take k) = -1 := tkN_short _ (lines_ok h1 h2) k hk
  rw [if_pos hN, if_pos (by rw [List.length_take]; omega)]
set_option maxHeartbeats 4000000 in
theorem short_card (w : World) (one two : List UInt8) (st : Int) (v : Value) (ls : List Pr) (hr : RowC 2 prC w v ls) (hs0 : -9223372036854775808 ≤ st) (hs1 : st ≤ 9223372036854775807) (asks : Bool) (n : Int) (hn0 : 0 ≤ n) (hn1 : n ≤ 65535) (hL : Lb w) :
    Calls Tryz.prog 4 #[.agg #[Str one, Str two, .int .i64 st, v], .bool asks, .int .u16 n] w fun e w' => e = .returned (.bool true) ∧ Ext w w' := by
  obtain ⟨ao, cap, hv, hcap, hmax, _⟩ := rowP_shape hr
  subst hv
  obtain ⟨W0, hW0⟩ : ∃ W0, w.alloc (.cells #[Str one, Str two, .int .i64 st, .slice ao ls.length cap] 29) = W0 := ⟨_, rfl⟩
  have hx0 : Ext w W0 := by rw [← hW0]; exact Below.alloc (Below.refl _ _) (Nat.le_refl _) _
  have hc0 : W0.heap[w.heap.size]? = some (.cells #[Str one, Str two, .int .i64 st, .slice ao ls.length cap] 29 (0, 0)) := by rw [← hW0]; exact Array.getElem?_push_size
  have HC0 := Lib.hid hc0; have HX0 := Lib.hid hx0
  have HAW := Lib.hid (awake_law W0 (hL.ext hx0))
  have HL := Lib.hid hL; have HR := Lib.hid hr
  clear hx0 hc0 hL hr
  have HFW := Lib.hid (fun W (hx : Ext w W) => few_any one two st (.slice ao ls.length cap) ls asks W (HR.out.ext hx))
  go_enter Tryz.func4, Tryz.ntmps4
  go_wp2_with fail
  refine HAW.out.mono ?_
  rintro e W1 ⟨he, hx1⟩
  subst he
  have HX1 := Lib.hid (ext_trans HX0.out hx1)
  obtain ⟨d0, d1, d2, d3⟩ := cells4 (ext_at hx1 HC0.out)
  clear hW0 hx1 HAW HC0 HX0
  go_wp2_with fail
  refine Calls.mono (HFW.out _ HX1.out) ?_
  rintro e W2 ⟨fv, he, hown, hx2⟩
  subst he
  have hfl := fewK_len 27 12 2000 ls
  have hfb := fewK_b 27 12 2000 ls
  have ho1 : (one.take 100).length ≤ 100 := by rw [List.length_take]; omega
  have ho2 : (if asks then two.take 2500 else []).length ≤ 2500 := by split <;> simp; omega
  have ho3 : -9223372036854775808 ≤ (if asks then (0 : Int) else st) ∧ (if asks then (0 : Int) else st) ≤ 9223372036854775807 := by split <;> omega
  have HX2 := Lib.hid (ext_trans HX1.out hx2)
  generalize fewK 27 12 2000 ls = fs at *
  generalize one.take 100 = one2 at *
  generalize (if asks then two.take 2500 else []) = two2 at *
  generalize (if asks then (0 : Int) else st) = st2 at *
  obtain ⟨fa, fcap, hfv, _⟩ := ownz_shape hown
  subst hfv
  have HRB := Lib.hid (refBytes_any one2 two2 st2 _ fs asks (by omega) (by omega) ho3.1 ho3.2 (by omega) (fun p hp => by have := hfb p hp; omega) W2 (rowC_of_own prC_len hown))
  clear hown hx2 HFW hfb d0 d1 d2 d3 HX1
  have hbo := fun c => bytes_inl (asks := asks) (one := one2) (two := two2) (st := st2) (fs := fs) (c := c)
  have hpos := fun l (h : bytesO asks one2 two2 st2 fs = .inr l) => bytes_ok h
  have hsh := fun l k => short_head (asks := asks) (one := one2) (two := two2) (st := st2) (fs := fs) (l := l) (k := k)
  generalize bytesO asks one2 two2 st2 fs = o at *
  go_wp2_with fail
  refine HRB.out.mono ?_
  rintro e W3 ⟨hv3, hx3⟩
  have HX3 := Lib.hid (ext_trans HX2.out hx3)
  clear hx3 HX2 HRB
  rcases o with c | l
  · have he : e = _ := hv3
    subst he
    have hc := hbo c rfl
    clear hv3 hbo hpos hsh
    rcases hc with rfl | rfl
    · go_wp2
      go_ret
      exact ⟨rfl, HX3.out⟩
    · go_wp2
      go_ret
      exact ⟨rfl, HX3.out⟩
  · obtain ⟨a, cp, he, hsl⟩ := hv3
    subst he
    obtain ⟨hl, _, _, hl40, _⟩ := hpos l rfl
    have hl0 : 0 < l.length := by rw [hl]; exact bytesL_pos _ _
    obtain ⟨k, hk, hkl⟩ : ∃ k : Nat, n % (l.length : Int) = (k : Int) ∧ k < l.length := by
      have h1 := Int.emod_nonneg n (show (l.length : Int) ≠ 0 by omega)
      have h2 := Int.emod_lt_of_pos n (show (0 : Int) < (l.length : Int) by omega)
      exact ⟨(n % (l.length : Int)).toNat, by omega, by omega⟩
    have HHO := Lib.hid (hsh l k rfl hkl)
    obtain ⟨ao9, cp9, hv9, hcc, hmx, _⟩ := id hsl
    rw [List.length_map] at hcc hv9
    obtain ⟨rfl, rfl⟩ : some a = ao9 ∧ cp = cp9 := by simpa using hv9
    have hh := fun W => run_headc (P := Tryz.prog) Tryz.underlying22 Tryz.sizeOf5 (a := a) (n := l.length) hmx W k (by omega)
    have hs2 := hsl.headm (k := k) (by rw [List.length_map]; omega)
    rw [headm_some, ← List.map_take] at hs2
    have hlk : (l.take k).length = k := by rw [List.length_take]; omega
    have hne : ((l.length : Int) == 0) = false := beq_eq_false_iff_ne.2 (by omega)
    have hs2' : SlB W3 (.slice (some a) (l.take k).length cp) (l.take k) := by rw [hlk]; exact hs2
    have HLP := Lib.hid (lparse_any a cp (l.take k) (by rw [hlk]; omega) asks W3 (HL.out.ext HX3.out) hs2')
    rw [hlk, HHO.out] at HLP
    clear hbo hpos hsh hl hsl hs2 hs2' hlk hv9 HHO
    go_wp2_with fail
    refine HLP.out.mono ?_
    rintro e W4 ⟨hv4, hx4⟩
    have he : e = _ := hv4
    subst he
    have HX4 := Lib.hid (ext_trans HX3.out hx4)
    clear hv4 hx4 HLP
    have hxa : Ext W4 (W4.alloc (.cells #[.string ⟨#[]⟩, .string ⟨#[]⟩, .int .i64 0, .slice none 0 0] 29)) := Below.alloc (Below.refl _ _) (Nat.le_refl _) _
    have hnil : ∀ W, RowC 2 prC W (.slice none 0 0) ([] : List Pr) := fun W => ⟨none, 0, rfl, .inl ⟨rfl, rfl⟩, Nat.le_refl _, by simp [maxLen], fun h => absurd rfl h⟩
    have HSA := Lib.hid (fun W => refSame_any [] [] 0 (.slice none 0 0) (.slice none 0 0) [] (by simp) W (hnil W) (hnil W))
    clear hnil
    go_wp2_with (go_at_call 11; refine (HSA.out _).mono ?_; rintro e W5 ⟨he, hx5⟩; subst he; have HX5 := Lib.hid (ext_trans HX4.out (ext_trans hxa hx5)); clear hx5 hxa)
    go_ret
    exact ⟨rfl, HX5.out⟩
theorem short_card2 (w : World) (a0 : Value) (one two : List UInt8) (st : Int) (fv : Value) (ls : List Pr) (h : HeadIs w a0 one two st fv ls) (asks : Bool) (n : Int) (hn0 : 0 ≤ n) (hn1 : n ≤ 65535) (hL : Lb w) :
    Calls Tryz.prog 4 #[a0, .bool asks, .int .u16 n] w fun e w' => e = .returned (.bool true) ∧ Ext w w' := by
  obtain ⟨rfl, hr, h0, h1⟩ := h
  exact short_card w one two st fv ls hr h0 h1 asks n hn0 hn1 hL
end Go.Proofs.YtmflnffjhfejhaaGreatDoor
