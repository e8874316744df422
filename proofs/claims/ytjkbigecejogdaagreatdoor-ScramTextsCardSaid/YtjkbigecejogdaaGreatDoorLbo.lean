/-
 The library's variables and name.forms out of the cards of ScramOne and ScramTexts: LwS.
-/
import Derived.Test.YtjkbigecejogdaaGreatDoorRows
import Derived.Test.YtjkbigecejogdaaGreatDoorRnd
import Derived.Test.YtjkbigecejogdaaGreatDoorFms
import Derived.Test.YtjkbigecejogdaaGreatDoorLbr
import Derived.Stop.LaidErr
import Derived.Lib.LaidTab
import Derived.OpenShut
import Derived.LaidMore
import Derived.Lay
import Derived.MakeChecks
import Derived.Shelf.Vars
namespace Go.Proofs.YtjkbigecejogdaaGreatDoor
open Go.RowKit
set_option maxRecDepth 100000
set_option linter.unusedVariables false
set_option linter.unusedSimpArgs false

theorem texts_lb {w : World} (hsh : w.ShapedOpen Tryz.prog) (h : laidMet Tryz.prog Rows.scramTextsRow.laid w.memory) : LwS w := by
 obtain ⟨m, hm⟩ := cell_of_shapedOpen_int (zero := #[.int .i64 0]) (t := 3) hsh (of_decide_eq_true (by kernel_rfl)) (by kernel_rfl) rfl (by kernel_rfl) (by kernel_rfl) Tryz.underlying3 (g := 0)
 exact ⟨⟨m, hm⟩, forms_at hsh h.tail.tail.tail.tail.tail, sentinel_cell h.tail.tail.tail.tail (by kernel_rfl) (by kernel_rfl), sentinel_cell h.tail.tail.tail (by kernel_rfl) (by kernel_rfl), ⟨tab_cell h.tail.tail⟩⟩
end Go.Proofs.YtjkbigecejogdaaGreatDoor
