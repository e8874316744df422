/-
  ScramHalves: what it reads of the library and of name, out of its card's condition.
-/
import Derived.Test.YtjkbigecejogdaaDoorRows
import Derived.Test.YtjkbigecejogdaaDoorLtd
import Derived.Test.YtjkbigecejogdaaDoorFms
import Derived.Stop.LaidErr
import Derived.Lib.LaidTab
import Derived.OpenShut
import Derived.LaidMore
import Derived.Lay
import Derived.MakeChecks
import Derived.Shelf.Vars
namespace Go.Proofs.YtjkbigecejogdaaDoor
open Go.RowKit
set_option maxRecDepth 100000
set_option linter.unusedVariables false
set_option linter.unusedSimpArgs false
theorem tab_cellH {rest : List (String × DataW Unit)} {W : World} (h : laidMet Tryd.prog (("internal/strconv.uint64pow10", Lib.tabData .u64 Lib.pow10Tab) :: rest) W.memory) : Lib.TabIs Tryd.prog W "internal/strconv.uint64pow10" .u64 Lib.pow10Tab := by
  have h2 := Lib.tabIs_of_head (g := 2) (n := 20) (by kernel_rfl) (by kernel_rfl) Tryd.underlying135 Tryd.underlying119 (by kernel_rfl) (by kernel_rfl) h
  exact h2
theorem halves_lb {w : World} (hsh : w.ShapedOpen Tryd.prog) (h : laidMet Tryd.prog Rows.scramHalvesRow.laid w.memory) : LdS w := by
  obtain ⟨m, hm⟩ := cell_of_shapedOpen_int (zero := #[.int .i64 0]) (t := 3) hsh (of_decide_eq_true (by kernel_rfl)) (by kernel_rfl) rfl (by kernel_rfl) (by kernel_rfl) Tryd.underlying3 (g := 0)
  exact ⟨⟨m, hm⟩, forms_at hsh h.tail.tail.tail, ⟨tab_cellH h.tail.tail⟩⟩
end Go.Proofs.YtjkbigecejogdaaDoor
