/-
  (rule.Rule).Holds.
-/
import Derived.BigGuardPart
import Derived.Test.YtjbobblnicnhnaaDoorRows
import Derived.Test.YtjbobblnicnhnaaDoorMat
import Derived.Test.YtjbobblnicnhnaaDoorRul
namespace Go.Proofs.YtjbobblnicnhnaaDoor
open Go.RowKit
set_option maxRecDepth 100000
set_option linter.unusedVariables false
set_option linter.unusedSimpArgs false

/-- Does a rule hold? -/
def holdB (r : Ru) (ro te ho : List UInt8) (p : Int) : Bool := fitsB r.ro ro && (fitsB r.te te && (fit r.ho (lowL ho) && decide (r.fr ≤ p ∧ p ≤ r.to)))
set_option maxHeartbeats 2000000 in
theorem holds_any (r : Ru) (hb : RuB r) (role ten host : List UInt8) (p : Int) (hh : host.length ≤ 10000) (w : World) (hL : Lb w) :
    Calls Tryd.prog 16 #[ruV r, Str role, Str ten, Str host, .int .i64 p] w fun e w' => e = .returned (.bool (holdB r role ten host p)) ∧ Ext w w' := by
  have HR := Lib.hid (fun W => fits_any r.ro role W)
  have HT := Lib.hid (fun W => fits_any r.te ten W)
  have HP := Lib.hid (fun W hW => match_any r.ho host hb.ho hh W hW)
  have hok := Lib.hid (show holdB r role ten host p = (fitsB r.ro role && (fitsB r.te ten && (fit r.ho (lowL host) && decide (r.fr ≤ p ∧ p ≤ r.to)))) from rfl)
  have HL := Lib.hid hL; clear hL
  obtain ⟨al, ro, te, ho, fr, to⟩ := r
  simp only at HR HT HP hok ⊢
  generalize fitsB ro role = b1 at *
  generalize fitsB te ten = b2 at *
  generalize fit ho (lowL host) = b3 at *
  go_enter Tryd.func16, Tryd.ntmps16
  go_wp2_with fail
  obtain ⟨W1, hW1⟩ : ∃ W1, w.alloc (.cells #[.bool al, Str ro, Str te, Str ho, .int .i64 fr, .int .i64 to] 28) = W1 := ⟨_, rfl⟩
  have hx : Ext w W1 := by rw [← hW1]; exact Below.alloc (Below.refl _ _) (Nat.le_refl _) _
  have hc : W1.heap[w.heap.size]? = some (.cells #[.bool al, Str ro, Str te, Str ho, .int .i64 fr, .int .i64 to] 28 (0, 0)) := by rw [← hW1]; exact Array.getElem?_push_size
  rw [hW1]
  obtain ⟨c0, c1, c2, c3, c4, c5⟩ := cells6 hc
  have HX := Lib.hid hx
  clear hW1 hc hx c0
  refine (HR.out _).mono ?_
  rintro e W2 ⟨he, hw⟩
  subst he; subst W2
  cases b1 with
  | false =>
    go_wp2
    go_ret
    exact ⟨ret_bool (by rw [hok.out]; rfl), HX.out⟩
  | true =>
    go_wp2_with fail
    refine (HT.out _).mono ?_
    rintro e W3 ⟨he, hw⟩
    subst he; subst W3
    cases b2 with
    | false =>
      go_wp2
      go_ret
      exact ⟨ret_bool (by rw [hok.out]; rfl), HX.out⟩
    | true =>
      go_wp2_with fail
      refine (HP.out _ (HL.out.ext HX.out)).mono ?_
      rintro e W4 ⟨he, hx4⟩
      subst he
      have HX4 := Lib.hid (ext_trans HX.out hx4)
      replace c4 := ext_cell hx4 c4; replace c5 := ext_cell hx4 c5
      clear hx4 HX c1 c2 c3
      cases b3 with
      | false =>
        go_wp2
        go_ret
        exact ⟨ret_bool (by rw [hok.out]; rfl), HX4.out⟩
      | true =>
        go_wp2
        all_goals
          go_ret
          exact ⟨ret_bool (by rw [hok.out, Bool.eq_iff_iff]; simp; try omega), HX4.out⟩
end Go.Proofs.YtjbobblnicnhnaaDoor
