/-
  The law's awake: the document's two examples.
-/
import Derived.Test.YteickmohloglhaaGreatDoorRows
import Derived.Test.YteickmohloglhaaGreatDoorHds
namespace Go.Proofs.YteickmohloglhaaGreatDoor
open Go.RowKit Go.Shelf
set_option maxRecDepth 100000
set_option linter.unusedVariables false
set_option linter.unusedSimpArgs false

theorem first_one (w : World) (hM : MaxAt w) (hF : FormsAt w) :
    Calls Tryz.prog 7 #[Str [110, 44, 44, 110, 61, 117, 115, 101, 114, 44, 114, 61, 97, 98, 99]] w fun e w' => e = .returned (.tuple #[firA [110] [117, 115, 101, 114] [97, 98, 99], .int .i64 0]) ∧ Ext w w' :=
  ParseFirst_plain _ [110] [44, 110, 61, 117, 115, 101, 114, 44, 114, 61, 97, 98, 99] [110, 61, 117, 115, 101, 114, 44, 114, 61, 97, 98, 99] [110] [117, 115, 101, 114] [97, 98, 99] false (by decide) (by decide) (by decide) (by decide) (by decide)
    (fun W => flag_n W) (by decide) (by decide) (by decide) (by decide) (by decide) (by unfold pln; decide) (by decide) (by decide) w hM hF
theorem first_two (w : World) (hM : MaxAt w) (hF : FormsAt w) :
    Calls Tryz.prog 7 #[Str [112, 61, 116, 108, 115, 44, 44, 110, 61, 117, 44, 114, 61, 97]] w fun e w' => e = .returned (.tuple #[firA [] [] [], .int .i64 12]) ∧ Ext w w' :=
  ParseFirst_plain _ [112, 61, 116, 108, 115] [44, 110, 61, 117, 44, 114, 61, 97] [110, 61, 117, 44, 114, 61, 97] [112] [117] [97] true (by decide) (by decide) (by decide) (by decide) (by decide)
    (fun W => flag_p [116, 108, 115] (by decide) (by decide) (by decide) W) (by decide) (by decide) (by decide) (by decide) (by decide) (by unfold pln; decide) (by decide) (by decide) w hM hF
set_option maxHeartbeats 1000000 in
theorem awake_law (w : World) (hM : MaxAt w) (hF : FormsAt w) :
    Calls Tryz.prog 4 #[] w fun e w' => e = .returned (.bool true) ∧ Ext w w' := by
  have HM := Lib.hid hM; have HF := Lib.hid hF
  have H1 := Lib.hid (first_one w hM hF)
  clear hM hF
  have H2 := Lib.hid (fun W hM hF => first_two W hM hF)
  have H3 := Lib.hid (fun W hF => BareF_plain [117, 115, 101, 114] [97, 98, 99] (by decide) (by decide) (by unfold pln; decide) (by decide) (by decide) W hF)
  have H4 := Lib.hid (fun W => Head_plain [110] [117, 115, 101, 114] [97, 98, 99] (by decide) W)
  unfold firA at H1 H2 H3 H4
  go_enter Tryz.func4, Tryz.ntmps4
  go_wp2_with fail
  refine H1.out.mono ?_
  rintro e W1 ⟨he, hx1⟩
  subst he
  go_wp2_with fail
  obtain ⟨W2, hW2⟩ : ∃ W2, W1.alloc (.cells #[Str [110], Str [], Str [117, 115, 101, 114], Str [97, 98, 99], .slice none 0 0] 34) = W2 := ⟨_, rfl⟩
  have hx2 : Ext W1 W2 := by rw [← hW2]; exact Below.alloc (Below.refl _ _) (Nat.le_refl _) _
  have hc : W2.heap[W1.heap.size]? = some (.cells #[Str [110], Str [], Str [117, 115, 101, 114], Str [97, 98, 99], .slice none 0 0] 34 (0, 0)) := by rw [← hW2]; exact Array.getElem?_push_size
  have hX2 := Lib.hid (ext_trans hx1 hx2)
  rw [show (W1.alloc (Obj.cells #[Value.string { data := #[110] }, Value.string { data := #[] }, Value.string { data := #[117, 115, 101, 114] }, Value.string { data := #[97, 98, 99] }, Value.slice none 0 0] 34)) = W2 from hW2]
  obtain ⟨c0, c1, c2, c3, c4⟩ := cells5 hc
  clear hW2 hx1 hx2 hc
  refine (H3.out _ (HF.out.ext hX2.out)).mono ?_
  rintro e W3 ⟨he, hx3⟩
  subst he
  have hX3 := Lib.hid (ext_trans hX2.out hx3)
  replace c0 := ext_cell hx3 c0; replace c1 := ext_cell hx3 c1; replace c2 := ext_cell hx3 c2; replace c3 := ext_cell hx3 c3; replace c4 := ext_cell hx3 c4
  clear hx3
  go_wp2_with fail
  refine (H2.out _ (HM.out.ext hX3.out) (HF.out.ext hX3.out)).mono ?_
  rintro e W4 ⟨he, hx4⟩
  subst he
  have hX4 := Lib.hid (ext_trans hX3.out hx4)
  replace c0 := ext_cell hx4 c0; replace c1 := ext_cell hx4 c1; replace c2 := ext_cell hx4 c2; replace c3 := ext_cell hx4 c3; replace c4 := ext_cell hx4 c4
  clear hx4
  have al : ∀ {a : Addr} {v : Value}, W4.cell? a = some v → ∀ o, (W4.alloc o).cell? a = some v := fun h o => ext_cell (Below.alloc (Below.refl _ _) (Nat.le_refl _) o) h
  replace c0 := al c0; replace c1 := al c1; replace c2 := al c2; replace c3 := al c3; replace c4 := al c4
  clear al
  go_wp2_with fail
  refine (H4.out _).mono ?_
  rintro e W5 ⟨he, hx5⟩
  subst he
  go_wp2_with fail
  go_ret
  exact ⟨rfl, ext_trans hX4.out (ext_trans (Below.alloc (Below.refl _ _) (Nat.le_refl _) _) hx5)⟩
end Go.Proofs.YteickmohloglhaaGreatDoor
