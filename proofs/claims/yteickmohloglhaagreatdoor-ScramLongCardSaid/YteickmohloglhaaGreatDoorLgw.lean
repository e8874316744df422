/-
  ScramLong, as its card asks it.
-/
import Derived.Test.YteickmohloglhaaGreatDoorRows
import Derived.Test.YteickmohloglhaaGreatDoorLol
import Derived.Test.YteickmohloglhaaGreatDoorFms
import Derived.Stop.LaidErr
import Derived.Lib.LaidTab
import Derived.OpenShut
import Derived.LaidMore
import Derived.Lay
import Derived.MakeChecks
import Derived.Shelf.Vars
namespace Go.Proofs.YteickmohloglhaaGreatDoor
open Go.RowKit
set_option maxRecDepth 100000
set_option linter.unusedVariables false
set_option linter.unusedSimpArgs false
abbrev LgW (w : World) : Prop := MaxAt w ∧ FormsAt w ∧ TabW w
theorem tab_cellL {rest : List (String × DataW Unit)} {W : World} (h : laidMet Tryz.prog (("internal/strconv.uint64pow10", Lib.tabData .u64 Lib.pow10Tab) :: rest) W.memory) : Lib.TabIs Tryz.prog W "internal/strconv.uint64pow10" .u64 Lib.pow10Tab := by
  have h2 := Lib.tabIs_of_head (g := 4) (n := 20) (by kernel_rfl) (by kernel_rfl) Tryz.underlying146 Tryz.underlying130 (by kernel_rfl) (by kernel_rfl) h
  exact h2
theorem long_lb {w : World} (hsh : w.ShapedOpen Tryz.prog) (h : laidMet Tryz.prog Rows.scramLongRow.laid w.memory) : LgW w := by
  obtain ⟨m, hm⟩ := cell_of_shapedOpen_int (zero := #[.int .i64 0]) (t := 3) hsh (of_decide_eq_true (by kernel_rfl)) (by kernel_rfl) rfl (by kernel_rfl) (by kernel_rfl) Tryz.underlying3 (g := 0)
  exact ⟨⟨m, hm⟩, forms_at hsh h.tail.tail.tail.tail.tail, ⟨tab_cellL h.tail.tail⟩⟩
theorem long_card (a0 : Int) (h0a : 0 ≤ a0) (h0b : a0 ≤ 255) (a1 : Int) (h1a : 0 ≤ a1) (h1b : a1 ≤ 255) (w : World) (hL : LgW w) :
    Calls Tryz.prog 3 #[.int .u8 a0, .int .u8 a1] w fun e w' => e = .returned (.bool true) ∧ Ext w w' :=
  long_any a0 a1 h0a h0b h1a h1b w hL.1 hL.2.1 hL.2.2
end Go.Proofs.YteickmohloglhaaGreatDoor
