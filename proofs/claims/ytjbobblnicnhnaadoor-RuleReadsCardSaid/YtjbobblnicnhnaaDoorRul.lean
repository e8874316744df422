/-
  A rule: rule.word, fits, (Rule).right; ref16.word, Right.
-/
import Derived.BigGuardPart
import Derived.Test.YtjbobblnicnhnaaDoorRows
import Derived.Test.YtjbobblnicnhnaaDoorChr
namespace Go.Proofs.YtjbobblnicnhnaaDoor
open Go.RowKit
set_option maxRecDepth 100000
set_option linter.unusedVariables false
set_option linter.unusedSimpArgs false

structure Ru where
  al : Bool
  ro : List UInt8
  te : List UInt8
  ho : List UInt8
  fr : Int
  to : Int
  deriving DecidableEq
/-- Its cells. -/
@[reducible] def ruC (r : Ru) : List Value := [.bool r.al, Str r.ro, Str r.te, Str r.ho, .int .i64 r.fr, .int .i64 r.to]
@[reducible] def ruV (r : Ru) : Value := .agg #[.bool r.al, Str r.ro, Str r.te, Str r.ho, .int .i64 r.fr, .int .i64 r.to]
def wordB (l : List UInt8) : Bool := (l == [42]) || plnB l
def fitsB (w s : List UInt8) : Bool := (w == [42]) || (w == s)
/-- Has a rule a text? -/
def ruOk (r : Ru) : Bool := wordB r.ro && (wordB r.te && (patB r.ho && decide (1 ≤ r.fr ∧ r.fr ≤ r.to ∧ r.to ≤ 65535)))
/-- Its texts aren't too long. -/
structure RuB (r : Ru) : Prop where
  ro : r.ro.length ≤ 10000
  te : r.te.length ≤ 10000
  ho : r.ho.length ≤ 10000
  f0 : -9223372036854775808 ≤ r.fr
  f1 : r.fr ≤ 9223372036854775807
  t0 : -9223372036854775808 ≤ r.to
  t1 : r.to ≤ 9223372036854775807

theorem word_any (l : List UInt8) (hl : l.length ≤ 100000) (w : World) :
    Calls Tryd.prog 65 #[Str l] w fun e w' => e = .returned (.bool (wordB l)) ∧ Ext w w' := by
  have HP := Lib.hid (fun W => plain_any l hl W)
  have hw := Lib.hid (show wordB l = ((l == [42]) || plnB l) from rfl)
  cases h : (l == [42]) with
  | true =>
    go_enter Tryd.func65, Tryd.ntmps65
    go_wp2
    go_ret
    exact ⟨by rw [hw.out, h]; rfl, ext_refl w⟩
  | false =>
    go_enter Tryd.func65, Tryd.ntmps65
    go_wp2_with fail
    refine (HP.out _).mono ?_
    rintro e W1 ⟨he, hx⟩
    subst he
    go_wp2
    go_ret
    exact ⟨by rw [hw.out, h]; rfl, by first | exact hx | exact ext_refl w⟩
theorem wordR_any (l : List UInt8) (hl : l.length ≤ 100000) (w : World) :
    Calls Tryd.prog 44 #[Str l] w fun e w' => e = .returned (.bool (wordB l)) ∧ Ext w w' := by
  have HP := Lib.hid (fun W => plainR_any l hl W)
  have hw := Lib.hid (show wordB l = ((l == [42]) || plnB l) from rfl)
  cases h : (l == [42]) with
  | true =>
    go_enter Tryd.func44, Tryd.ntmps44
    go_wp2
    go_ret
    exact ⟨by rw [hw.out, h]; rfl, ext_refl w⟩
  | false =>
    go_enter Tryd.func44, Tryd.ntmps44
    go_wp2_with fail
    refine (HP.out _).mono ?_
    rintro e W1 ⟨he, hx⟩
    subst he
    go_wp2
    go_ret
    exact ⟨by rw [hw.out, h]; rfl, by first | exact hx | exact ext_refl w⟩
theorem fits_any (a b : List UInt8) (w : World) :
    Calls Tryd.prog 41 #[Str a, Str b] w fun e w' => e = .returned (.bool (fitsB a b)) ∧ w' = w := by
  have hw := Lib.hid (show fitsB a b = ((a == [42]) || (a == b)) from rfl)
  have hb := str_beq a b
  cases h : (a == [42]) with
  | true =>
    go_enter Tryd.func41, Tryd.ntmps41
    go_wp2
    go_ret
    exact ⟨by rw [hw.out, h]; rfl, rfl⟩
  | false =>
    go_enter Tryd.func41, Tryd.ntmps41
    go_wp2
    go_ret
    exact ⟨by rw [hw.out, h]; rfl, rfl⟩

theorem cells6 {W : World} {b : Nat} {v0 v1 v2 v3 v4 v5 : Value} {t : TypeId} (h : W.heap[b]? = some (.cells #[v0, v1, v2, v3, v4, v5] t (0, 0))) :
    W.cell? ⟨b, 0, none⟩ = some v0 ∧ W.cell? ⟨b, 1, none⟩ = some v1 ∧ W.cell? ⟨b, 2, none⟩ = some v2 ∧ W.cell? ⟨b, 3, none⟩ = some v3 ∧ W.cell? ⟨b, 4, none⟩ = some v4 ∧ W.cell? ⟨b, 5, none⟩ = some v5 := by
  refine ⟨?_, ?_, ?_, ?_, ?_, ?_⟩ <;> simp [World.cell?, h]

set_option maxHeartbeats 2000000 in
theorem right_any (r : Ru) (hb : RuB r) (w : World) :
    Calls Tryd.prog 45 #[ruV r] w fun e w' => e = .returned (.bool (ruOk r)) ∧ Ext w w' := by
  have HR := Lib.hid (fun W => word_any r.ro (by have := hb.ro; omega) W)
  have HT := Lib.hid (fun W => word_any r.te (by have := hb.te; omega) W)
  have HP := Lib.hid (fun W => pattern_any r.ho (by have := hb.ho; omega) W)
  have hok := Lib.hid (show ruOk r = (wordB r.ro && (wordB r.te && (patB r.ho && decide (1 ≤ r.fr ∧ r.fr ≤ r.to ∧ r.to ≤ 65535)))) from rfl)
  obtain ⟨al, ro, te, ho, fr, to⟩ := r
  simp only at HR HT HP hok ⊢
  generalize wordB ro = b1 at *
  generalize wordB te = b2 at *
  generalize patB ho = b3 at *
  go_enter Tryd.func45, Tryd.ntmps45
  go_wp2_with fail
  obtain ⟨W1, hW1⟩ : ∃ W1, w.alloc (.cells #[.bool al, Str ro, Str te, Str ho, .int .i64 fr, .int .i64 to] 28) = W1 := ⟨_, rfl⟩
  have hx : Ext w W1 := by rw [← hW1]; exact Below.alloc (Below.refl _ _) (Nat.le_refl _) _
  have hc : W1.heap[w.heap.size]? = some (.cells #[.bool al, Str ro, Str te, Str ho, .int .i64 fr, .int .i64 to] 28 (0, 0)) := by rw [← hW1]; exact Array.getElem?_push_size
  rw [hW1]
  obtain ⟨c0, c1, c2, c3, c4, c5⟩ := cells6 hc
  have HX := Lib.hid hx
  clear hW1 hc hx c0
  refine (HR.out _).mono ?_
  rintro e W2 ⟨he, hx2⟩
  subst he
  have HX2 := Lib.hid (ext_trans HX.out hx2)
  replace c1 := ext_cell hx2 c1; replace c2 := ext_cell hx2 c2; replace c3 := ext_cell hx2 c3; replace c4 := ext_cell hx2 c4; replace c5 := ext_cell hx2 c5
  clear hx2 HX
  cases b1 with
  | false =>
    go_wp2
    go_ret
    exact ⟨ret_bool (by rw [hok.out]; rfl), HX2.out⟩
  | true =>
    go_wp2_with fail
    refine (HT.out _).mono ?_
    rintro e W3 ⟨he, hx3⟩
    subst he
    have HX3 := Lib.hid (ext_trans HX2.out hx3)
    replace c1 := ext_cell hx3 c1; replace c2 := ext_cell hx3 c2; replace c3 := ext_cell hx3 c3; replace c4 := ext_cell hx3 c4; replace c5 := ext_cell hx3 c5
    clear hx3 HX2
    cases b2 with
    | false =>
      go_wp2
      go_ret
      exact ⟨ret_bool (by rw [hok.out]; rfl), HX3.out⟩
    | true =>
      go_wp2_with fail
      refine (HP.out _).mono ?_
      rintro e W4 ⟨he, hx4⟩
      subst he
      have HX4 := Lib.hid (ext_trans HX3.out hx4)
      replace c1 := ext_cell hx4 c1; replace c2 := ext_cell hx4 c2; replace c3 := ext_cell hx4 c3; replace c4 := ext_cell hx4 c4; replace c5 := ext_cell hx4 c5
      clear hx4 HX3
      cases b3 with
      | false =>
        go_wp2
        go_ret
        exact ⟨ret_bool (by rw [hok.out]; rfl), HX4.out⟩
      | true =>
        go_wp2
        all_goals
          go_ret
          exact ⟨ret_bool (by rw [hok.out, Bool.eq_iff_iff]; simp; try omega), HX4.out⟩
theorem ruOk_alt (r : Ru) : ruOk r = (r.ho.all patC && (wordB r.ro && (wordB r.te && (decide (0 < r.ho.length) && (decide (r.ho.length ≤ 32) && decide (1 ≤ r.fr ∧ r.fr ≤ r.to ∧ r.to ≤ 65535)))))) := by
  unfold ruOk patB
  generalize wordB r.ro = a; generalize wordB r.te = b; generalize r.ho.all patC = c; generalize decide (0 < r.ho.length) = d; generalize decide (r.ho.length ≤ 32) = e; generalize decide (1 ≤ r.fr ∧ r.fr ≤ r.to ∧ r.to ≤ 65535) = f
  cases a <;> cases b <;> cases c <;> cases d <;> cases e <;> cases f <;> rfl
set_option maxHeartbeats 2000000 in
theorem rightR_any (r : Ru) (hb : RuB r) (w : World) :
    Calls Tryd.prog 17 #[ruV r] w fun e w' => e = .returned (.bool (ruOk r)) ∧ Ext w w' := by
  have HR := Lib.hid (fun W => wordR_any r.ro (by have := hb.ro; omega) W)
  have HT := Lib.hid (fun W => wordR_any r.te (by have := hb.te; omega) W)
  have hok := Lib.hid (ruOk_alt r)
  have hl := hb.ho
  obtain ⟨al, ro, te, l, fr, to⟩ := r
  simp only at HR HT hok hl ⊢
  have hixl : ∀ i, i < l.length → ∀ W, (Instr.index 9 (Str l) (.int .i64 (i : Int))).run Tryd.prog W = .ok (Byt (bt l i)) W := fun i hi W => run_index_str Tryd.underlying9 l i _ rfl hi W
  have HI := Lib.hid hixl; clear hixl
  generalize wordB ro = b1 at *
  generalize wordB te = b2 at *
  go_enter Tryd.func17, Tryd.ntmps17
  go_wp2
  obtain ⟨W1, hW1⟩ : ∃ W1, w.alloc (.cells #[.bool al, Str ro, Str te, Str l, .int .i64 fr, .int .i64 to] 26) = W1 := ⟨_, rfl⟩
  have hx : Ext w W1 := by rw [← hW1]; exact Below.alloc (Below.refl _ _) (Nat.le_refl _) _
  have hc : W1.heap[w.heap.size]? = some (.cells #[.bool al, Str ro, Str te, Str l, .int .i64 fr, .int .i64 to] 26 (0, 0)) := by rw [← hW1]; exact Array.getElem?_push_size
  rw [hW1]
  obtain ⟨c0, c1, c2, c3, c4, c5⟩ := cells6 hc
  have HX := Lib.hid hx
  clear hW1 hc hx c0
  go_loop [3] (fun i => ∃ k : Nat, k ≤ l.length ∧ i = .int .i64 k ∧ (l.take k).all patC = true) (fun i => l.length - (intOf i).toNat)
  case atStart => exact ⟨0, by omega, rfl, by simp⟩
  case round =>
    obtain ⟨k, hk, rfl, hall⟩ := hrel
    by_cases h3 : k < l.length
    · have hix := HI.out k h3
      have HB := Lib.hid (all_step patC l k h3 hall)
      clear hall
      generalize bt l k = c at *
      have hcb := c.toNat_lt
      go_wp2
      all_goals first
        | (go_round
           case rel => exact ⟨k + 1, by omega, by go_num, HB.out.1 (decide_eq_true (by first | omega | (simp at *; omega)))⟩
           case measure => simp [intOf] <;> omega)
        | (go_ret
           exact ⟨by rw [hok.out, HB.out.2 (decide_eq_false (by first | omega | (simp at *; omega)))]; rfl, HX.out⟩)
    · have hkl : k = l.length := by omega
      subst hkl
      rw [List.take_length] at hall
      rw [hall, Bool.true_and] at hok
      clear hall
      go_wp2_with fail
      refine (HR.out _).mono ?_
      rintro e W2 ⟨he, hx2⟩
      subst he
      have HX2 := Lib.hid (ext_trans HX.out hx2)
      replace c1 := ext_cell hx2 c1; replace c2 := ext_cell hx2 c2; replace c3 := ext_cell hx2 c3; replace c4 := ext_cell hx2 c4; replace c5 := ext_cell hx2 c5
      clear hx2 HX
      cases b1 with
      | false =>
        go_wp2
        go_ret
        exact ⟨ret_bool (by rw [hok.out]; rfl), HX2.out⟩
      | true =>
        go_wp2_with fail
        refine (HT.out _).mono ?_
        rintro e W3 ⟨he, hx3⟩
        subst he
        have HX3 := Lib.hid (ext_trans HX2.out hx3)
        replace c1 := ext_cell hx3 c1; replace c2 := ext_cell hx3 c2; replace c3 := ext_cell hx3 c3; replace c4 := ext_cell hx3 c4; replace c5 := ext_cell hx3 c5
        clear hx3 HX2
        cases b2 with
        | false =>
          go_wp2
          go_ret
          exact ⟨ret_bool (by rw [hok.out]; rfl), HX3.out⟩
        | true =>
          go_wp2
          all_goals
            go_ret
            exact ⟨ret_bool (by rw [hok.out, Bool.eq_iff_iff]; simp; try omega), HX3.out⟩
end Go.Proofs.YtjbobblnicnhnaaDoor
