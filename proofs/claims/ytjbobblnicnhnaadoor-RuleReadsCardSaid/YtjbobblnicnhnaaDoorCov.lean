/-
  rule.over, (Rule).Covers; ref16.over, Covers; ref16.Few.
-/
import Derived.BigGuardPart
import Derived.RegionTactic
import Derived.Deep.RegionHeld3
import Derived.Deep.DrawnRows
import Derived.Test.YtjbobblnicnhnaaDoorRows
import Derived.Test.YtjbobblnicnhnaaDoorLin
import Derived.Test.YtjbobblnicnhnaaDoorMat
import Derived.Test.YtjbobblnicnhnaaDoorKit
import Derived.Test.YtjbobblnicnhnaaDoorOvr
namespace Go.Proofs.YtjbobblnicnhnaaDoor
open Go.RowKit
set_option maxRecDepth 100000
set_option linter.unusedVariables false
set_option linter.unusedSimpArgs false

set_option maxHeartbeats 2000000 in
theorem over_any (a b : List UInt8) (ha : a.length ≤ 10000) (hb : b.length ≤ 10000) (w : World) (hL : Lb w) :
    Calls Tryd.prog 42 #[Str a, Str b] w fun e w' => e = .returned (.bool (overB a b)) ∧ Ext w w' := by
  have HL := Lib.hid hL
  have HC := Lib.hid (scut_any a [42] (by omega) w hL)
  have hlen : (Lib.cut a [42]).1.length ≤ 10000 ∧ (Lib.cut a [42]).2.1.length ≤ 10000 := by
    unfold Lib.cut
    split
    · simp; omega
    · simp; omega
  have hov := Lib.hid (show overB a b = ((a == [42]) || ((a == b) || ((Lib.cut a [42]).2.2 && overJ b (Lib.cut a [42]).1 (Lib.cut a [42]).2.1))) from rfl)
  obtain ⟨p, q, f, hcut⟩ : ∃ p q f, Lib.cut a [42] = (p, q, f) := ⟨_, _, _, rfl⟩
  rw [hcut] at HC hlen hov
  simp only at HC hlen hov
  have hj := Lib.hid (show overJ b p q = (!(Lib.contains q [42]) && (!(p != [] && q != []) && (if q = [] then Lib.hasPrefix b p else Lib.hasSuffix b q))) from rfl)
  have hcn := Lib.hid (fun W hW => contains_any q [42] (by omega) W hW)
  have hpr := Lib.hid (fun W => hasPrefix_any b p W)
  have hsf := Lib.hid (fun W => hasSuffix_any b q (by omega) W)
  have hbe := str_beq a b
  clear hcut hL
  obtain ⟨cn, hcne⟩ : ∃ c, Lib.contains q [42] = c := ⟨_, rfl⟩
  rw [hcne] at hj hcn
  clear hcne
  generalize overJ b p q = jj at *
  cases h1 : (a == [42]) with
  | true =>
    go_enter Tryd.func42, Tryd.ntmps42
    go_wp2_with fail
    refine HC.out.mono ?_
    rintro e W1 ⟨he, hx1⟩
    subst he
    go_wp2
    go_ret
    exact ⟨by rw [hov.out, h1]; rfl, hx1⟩
  | false =>
    cases h2 : (a == b) with
    | true =>
      go_enter Tryd.func42, Tryd.ntmps42
      go_wp2_with fail
      refine HC.out.mono ?_
      rintro e W1 ⟨he, hx1⟩
      subst he
      go_wp2
      go_ret
      exact ⟨by rw [hov.out, h1, h2]; rfl, hx1⟩
    | false =>
      have HO := Lib.hid (show overB a b = (f && jj) by rw [hov.out, h1, h2]; rfl)
      clear hov
      cases f with
      | false =>
        go_enter Tryd.func42, Tryd.ntmps42
        go_wp2_with fail
        refine HC.out.mono ?_
        rintro e W1 ⟨he, hx1⟩
        subst he
        go_wp2
        go_ret
        exact ⟨by rw [HO.out]; rfl, hx1⟩
      | true =>
        cases cn with
        | true =>
          go_enter Tryd.func42, Tryd.ntmps42
          go_wp2_with fail
          refine HC.out.mono ?_
          rintro e W1 ⟨he, hx1⟩
          subst he
          go_wp2_with fail
          refine (hcn.out _ (HL.out.ext hx1)).mono ?_
          rintro e W2 ⟨he, hw⟩
          subst he; subst W2
          go_wp2
          go_ret
          exact ⟨by rw [HO.out, hj.out]; rfl, hx1⟩
        | false =>
          by_cases hp0 : p = []
          · have e1 : (p == []) = true := by rw [hp0]; rfl
            by_cases hq0 : q = []
            · have e2 : (q == []) = true := by rw [hq0]; rfl
              have HR := Lib.hid (show overB a b = Lib.hasPrefix b p by rw [HO.out, hj.out, if_pos hq0, hp0]; simp)
              clear hj HO hp0 hq0
              go_enter Tryd.func42, Tryd.ntmps42
              go_wp2_with fail
              refine HC.out.mono ?_
              rintro e W1 ⟨he, hx1⟩
              subst he
              go_wp2_with fail
              refine (hcn.out _ (HL.out.ext hx1)).mono ?_
              rintro e W2 ⟨he, hw⟩
              subst he; subst W2
              go_wp2_with fail
              refine (hpr.out _).mono ?_
              rintro e W2 ⟨he, hw⟩
              subst he; subst W2
              go_wp2
              go_ret
              exact ⟨by rw [HR.out]; rfl, hx1⟩
            · have e2 : (q == []) = false := by simpa using hq0
              have HR := Lib.hid (show overB a b = Lib.hasSuffix b q by rw [HO.out, hj.out, if_neg hq0, hp0]; simp)
              clear hj HO hp0 hq0
              go_enter Tryd.func42, Tryd.ntmps42
              go_wp2_with fail
              refine HC.out.mono ?_
              rintro e W1 ⟨he, hx1⟩
              subst he
              go_wp2_with fail
              refine (hcn.out _ (HL.out.ext hx1)).mono ?_
              rintro e W2 ⟨he, hw⟩
              subst he; subst W2
              go_wp2_with fail
              refine (hsf.out _).mono ?_
              rintro e W2 ⟨he, hw⟩
              subst he; subst W2
              go_wp2
              go_ret
              exact ⟨by rw [HR.out]; rfl, hx1⟩
          · have e1 : (p == []) = false := by simpa using hp0
            by_cases hq0 : q = []
            · have e2 : (q == []) = true := by rw [hq0]; rfl
              have HR := Lib.hid (show overB a b = Lib.hasPrefix b p by rw [HO.out, hj.out, if_pos hq0, hq0]; simp)
              clear hj HO hp0 hq0
              go_enter Tryd.func42, Tryd.ntmps42
              go_wp2_with fail
              refine HC.out.mono ?_
              rintro e W1 ⟨he, hx1⟩
              subst he
              go_wp2_with fail
              refine (hcn.out _ (HL.out.ext hx1)).mono ?_
              rintro e W2 ⟨he, hw⟩
              subst he; subst W2
              go_wp2_with fail
              refine (hpr.out _).mono ?_
              rintro e W2 ⟨he, hw⟩
              subst he; subst W2
              go_wp2
              go_ret
              exact ⟨by rw [HR.out]; rfl, hx1⟩
            · have e2 : (q == []) = false := by simpa using hq0
              have HR := Lib.hid (show overB a b = false by rw [HO.out, hj.out, if_neg hq0]; simp [hp0, hq0])
              clear hj HO hp0 hq0
              go_enter Tryd.func42, Tryd.ntmps42
              go_wp2_with fail
              refine HC.out.mono ?_
              rintro e W1 ⟨he, hx1⟩
              subst he
              go_wp2_with fail
              refine (hcn.out _ (HL.out.ext hx1)).mono ?_
              rintro e W2 ⟨he, hw⟩
              subst he; subst W2
              go_wp2
              go_ret
              exact ⟨by rw [HR.out]; rfl, hx1⟩

/-! ### Covers -/
def coverB (a b : Ru) : Bool := fitsB a.ro b.ro && (fitsB a.te b.te && (overB a.ho b.ho && decide (a.fr ≤ b.fr ∧ b.to ≤ a.to)))
set_option maxHeartbeats 2000000 in
theorem covers_any (r s : Ru) (hr : RuB r) (hs : RuB s) (w : World) (hL : Lb w) :
    Calls Tryd.prog 14 #[ruV r, ruV s] w fun e w' => e = .returned (.bool (coverB r s)) ∧ Ext w w' := by
  have HR := Lib.hid (fun W => fits_any r.ro s.ro W)
  have HT := Lib.hid (fun W => fits_any r.te s.te W)
  have HP := Lib.hid (fun W hW => over_any r.ho s.ho hr.ho hs.ho W hW)
  have hok := Lib.hid (show coverB r s = (fitsB r.ro s.ro && (fitsB r.te s.te && (overB r.ho s.ho && decide (r.fr ≤ s.fr ∧ s.to ≤ r.to)))) from rfl)
  have HL := Lib.hid hL; clear hL
  obtain ⟨al, ro, te, ho, fr, to⟩ := r
  obtain ⟨al', ro', te', ho', fr', to'⟩ := s
  simp only at HR HT HP hok ⊢
  generalize fitsB ro ro' = b1 at *
  generalize fitsB te te' = b2 at *
  generalize overB ho ho' = b3 at *
  go_enter Tryd.func14, Tryd.ntmps14
  go_wp2_with fail
  obtain ⟨W1, hW1⟩ : ∃ W1, (w.alloc (.cells #[.bool al, Str ro, Str te, Str ho, .int .i64 fr, .int .i64 to] 28)).alloc (.cells #[.bool al', Str ro', Str te', Str ho', .int .i64 fr', .int .i64 to'] 28) = W1 := ⟨_, rfl⟩
  have hx : Ext w W1 := by rw [← hW1]; exact allocs_ext w [.cells #[.bool al, Str ro, Str te, Str ho, .int .i64 fr, .int .i64 to] 28, .cells #[.bool al', Str ro', Str te', Str ho', .int .i64 fr', .int .i64 to'] 28]
  have hc : W1.heap[w.heap.size]? = some (.cells #[.bool al, Str ro, Str te, Str ho, .int .i64 fr, .int .i64 to] 28 (0, 0)) := by rw [← hW1]; exact allocs_at w [.cells #[.bool al, Str ro, Str te, Str ho, .int .i64 fr, .int .i64 to] 28, .cells #[.bool al', Str ro', Str te', Str ho', .int .i64 fr', .int .i64 to'] 28] 0 _ rfl
  have hd : W1.heap[w.heap.size + 1]? = some (.cells #[.bool al', Str ro', Str te', Str ho', .int .i64 fr', .int .i64 to'] 28 (0, 0)) := by rw [← hW1]; exact allocs_at w [.cells #[.bool al, Str ro, Str te, Str ho, .int .i64 fr, .int .i64 to] 28, .cells #[.bool al', Str ro', Str te', Str ho', .int .i64 fr', .int .i64 to'] 28] 1 _ rfl
  rw [hW1]
  obtain ⟨c0, c1, c2, c3, c4, c5⟩ := cells6 hc
  obtain ⟨d0, d1, d2, d3, d4, d5⟩ := cells6 hd
  have HX := Lib.hid hx
  clear hW1 hc hd hx c0 d0
  refine (HR.out _).mono ?_
  rintro e W2 ⟨he, hw⟩
  subst he; subst W2
  cases b1 with
  | false =>
    go_wp2
    go_ret
    exact ⟨ret_bool (by rw [hok.out]; rfl), HX.out⟩
  | true =>
    go_wp2_with fail
    refine (HT.out _).mono ?_
    rintro e W3 ⟨he, hw⟩
    subst he; subst W3
    cases b2 with
    | false =>
      go_wp2
      go_ret
      exact ⟨ret_bool (by rw [hok.out]; rfl), HX.out⟩
    | true =>
      go_wp2_with fail
      refine (HP.out _ (HL.out.ext HX.out)).mono ?_
      rintro e W4 ⟨he, hx4⟩
      subst he
      have HX4 := Lib.hid (ext_trans HX.out hx4)
      replace c4 := ext_cell hx4 c4; replace c5 := ext_cell hx4 c5; replace d4 := ext_cell hx4 d4; replace d5 := ext_cell hx4 d5
      clear hx4 HX c1 c2 c3 d1 d2 d3
      cases b3 with
      | false =>
        go_wp2
        go_ret
        exact ⟨ret_bool (by rw [hok.out]; rfl), HX4.out⟩
      | true =>
        go_wp2
        all_goals
          go_ret
          exact ⟨ret_bool (by rw [hok.out, Bool.eq_iff_iff]; simp; try omega), HX4.out⟩
end Go.Proofs.YtjbobblnicnhnaaDoor
