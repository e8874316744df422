/-
  The laid table ref01.words out of a card's condition.
-/
import Derived.Test.YtpndahmlbjhdfaaDoorRows
import Derived.Test.YtpndahmlbjhdfaaDoorRst
import Derived.Test.YtpndahmlbjhdfaaDoorLbt
import Derived.Stop.LaidErr
import Derived.Lib.LaidTab
import Derived.OpenShut
import Derived.LaidMore
import Derived.Lay
import Derived.MakeChecks
import Derived.Shelf.Vars
namespace Go.Proofs.YtpndahmlbjhdfaaDoor
open Go.RowKit
set_option maxRecDepth 100000
set_option linter.unusedVariables false
set_option linter.unusedSimpArgs false
theorem words_cell {rest : List (String × DataW Unit)} {W : World} (h : laidMet Tryd.prog (("ostiary/ostiaryref01.words", Lib.tabData .u32 wordsZ) :: rest) W.memory) : WordsAt W := by
  have h2 := Lib.tabIs_of_head (g := 1) (n := 64) (by kernel_rfl) (by kernel_rfl) Tryd.underlying150 Tryd.underlying102 (by kernel_rfl) (by kernel_rfl) h
  intro j hj
  have h3 := h2.cell (g := 1) (by kernel_rfl) j hj
  have h4 : wordsZ.getD j 0 = ((shK.getD j 0).toNat : Int) := by
    have hl : j < shK.length := hj
    simp [wordsZ, List.getD, hl]
  rw [h4] at h3
  exact h3
theorem keeps_tw {w : World} (hsh : w.ShapedOpen Tryd.prog) (h : laidMet Tryd.prog Rows.traceKeepsRow.laid w.memory) : Tw w ∧ WordsAt w :=
  ⟨⟨⟨tab_cell h.tail.tail⟩, first_cell hsh h.tail.tail.tail.tail, odd_cell h.tail.tail.tail.tail.tail⟩, words_cell h.tail.tail.tail⟩
end Go.Proofs.YtpndahmlbjhdfaaDoor
