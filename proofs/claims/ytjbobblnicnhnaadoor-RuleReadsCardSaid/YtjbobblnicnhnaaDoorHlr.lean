/-
  ref16.Holds.
-/
import Derived.BigGuardPart
import Derived.RegionTactic
import Derived.Test.YtjbobblnicnhnaaDoorRows
import Derived.Test.YtjbobblnicnhnaaDoorHol
import Derived.Test.YtjbobblnicnhnaaDoorMtr
import Derived.Test.YtjbobblnicnhnaaDoorKit
import Derived.Test.YtjbobblnicnhnaaDoorLin
namespace Go.Proofs.YtjbobblnicnhnaaDoor
open Go.RowKit
set_option maxRecDepth 100000
set_option linter.unusedVariables false
set_option linter.unusedSimpArgs false

set_option maxHeartbeats 4000000 in
theorem holdsR_any (r : Ru) (hb : RuB r) (role ten host : List UInt8) (p : Int) (hh : host.length ≤ 10000) (w : World) :
    Calls Tryd.prog 21 #[ruV r, Str role, Str ten, Str host, .int .i64 p] w fun e w' => e = .returned (.bool (holdB r role ten host p)) ∧ Ext w w' := by
  have HP := Lib.hid (fun W => matchR_any r.ho host hb.ho hh W)
  have hok := Lib.hid (show holdB r role ten host p = (((r.ro == [42]) || (r.ro == role)) && (((r.te == [42]) || (r.te == ten)) && (fit r.ho (lowL host) && decide (r.fr ≤ p ∧ p ≤ r.to)))) from rfl)
  obtain ⟨al, ro, te, ho, fr, to⟩ := r
  simp only at HP hok ⊢
  have e1 := str_beq ro role
  have e2 := str_beq te ten
  generalize fit ho (lowL host) = b3 at *
  cases v1 : (ro == [42]) <;> cases v2 : (ro == role) <;> cases v3 : (te == [42]) <;> cases v4 : (te == ten)
  all_goals
    rw [v1, v2, v3, v4] at hok
    go_enter Tryd.func21, Tryd.ntmps21
    go_wp2_with fail
    obtain ⟨W1, hW1⟩ : ∃ W1, w.alloc (.cells #[.bool al, Str ro, Str te, Str ho, .int .i64 fr, .int .i64 to] 26) = W1 := ⟨_, rfl⟩
    have hx : Ext w W1 := by rw [← hW1]; exact Below.alloc (Below.refl _ _) (Nat.le_refl _) _
    have hc : W1.heap[w.heap.size]? = some (.cells #[.bool al, Str ro, Str te, Str ho, .int .i64 fr, .int .i64 to] 26 (0, 0)) := by rw [← hW1]; exact Array.getElem?_push_size
    try rw [hW1]
    obtain ⟨c0, c1, c2, c3, c4, c5⟩ := cells6 hc
    have HX := Lib.hid hx
    clear hc hx c0
    first
      | (refine (HP.out _).mono ?_
         rintro e W4 ⟨he, hx4⟩
         subst he
         have HX4 := Lib.hid (ext_trans HX.out hx4)
         replace c4 := ext_cell hx4 c4; replace c5 := ext_cell hx4 c5
         clear hx4 HX c1 c2 c3
         cases b3
         all_goals
           go_wp2
           all_goals
             go_ret
             exact ⟨ret_bool (by rw [hok.out, Bool.eq_iff_iff]; simp; try omega), HX4.out⟩)
      | (go_ret
         exact ⟨ret_bool (by rw [hok.out]; rfl), by rw [hW1]; exact HX.out⟩)
      | (go_ret
         exact ⟨ret_bool (by rw [hok.out]; rfl), HX.out⟩)
end Go.Proofs.YtjbobblnicnhnaaDoor
