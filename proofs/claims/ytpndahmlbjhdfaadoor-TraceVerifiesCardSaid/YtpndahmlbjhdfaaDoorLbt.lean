/-
  The laid tables out of a card's condition: Tw.
-/
import Derived.Test.YtpndahmlbjhdfaaDoorRows
import Derived.Test.YtpndahmlbjhdfaaDoorTra
import Derived.Stop.LaidErr
import Derived.Lib.LaidTab
import Derived.OpenShut
import Derived.LaidMore
import Derived.Lay
import Derived.MakeChecks
import Derived.Shelf.Vars
namespace Go.Proofs.YtpndahmlbjhdfaaDoor
open Go.RowKit
set_option maxRecDepth 100000
set_option linter.unusedVariables false
set_option linter.unusedSimpArgs false
theorem tab_cell {rest : List (String × DataW Unit)} {W : World} (h : laidMet Tryd.prog (("internal/strconv.uint64pow10", Lib.tabData .u64 Lib.pow10Tab) :: rest) W.memory) : Lib.TabIs Tryd.prog W "internal/strconv.uint64pow10" .u64 Lib.pow10Tab := by
  have h2 := Lib.tabIs_of_head (g := 3) (n := 20) (by kernel_rfl) (by kernel_rfl) Tryd.underlying162 Tryd.underlying23 (by kernel_rfl) (by kernel_rfl) h
  exact h2
def firstZ : List Int := [1779033703, 3144134277, 1013904242, 2773480762, 1359893119, 2600822924, 528734635, 1541459225]
def wordsZ : List Int := shK.map fun x => (x.toNat : Int)
theorem first_cell {rest : List (String × DataW Unit)} {W : World} (hsh : W.ShapedOpen Tryd.prog) (h : laidMet Tryd.prog (("ostiary/sha.first", Lib.tabData .u32 firstZ) :: rest) W.memory) : FirstAt W := by
  have h2 := Lib.tabIs_of_head (g := 0) (n := 8) (by kernel_rfl) (by kernel_rfl) Tryd.underlying103 Tryd.underlying102 (by kernel_rfl) (by kernel_rfl) h
  obtain ⟨cs, hh, _, _⟩ := hsh.1 0 #[.int .u32 0, .int .u32 0, .int .u32 0, .int .u32 0, .int .u32 0, .int .u32 0, .int .u32 0, .int .u32 0] 103 (of_decide_eq_true (by kernel_rfl)) (by kernel_rfl)
  have hg : Tryd.prog.globalNamed "ostiary/sha.first" = some 0 := by kernel_rfl
  unfold Lib.TabIs World.var? at h2
  rw [hg] at h2
  have hm : W.memory.heap = W.heap := rfl
  simp only [Option.bind_some, hm, hh, Option.some.injEq] at h2
  have h5 : (List.map (fun z => Value.int .u32 z) firstZ).toArray = cells8 shFirst := rfl
  rw [h2, h5] at hh
  exact ⟨_, hh⟩
theorem odd_cell {rest : List (String × DataW Unit)} {W : World} (h : laidMet Tryd.prog (("ostiary/sha.odd", Lib.tabData .u32 wordsZ) :: rest) W.memory) : OddAt W := by
  have h2 := Lib.tabIs_of_head (g := 2) (n := 64) (by kernel_rfl) (by kernel_rfl) Tryd.underlying150 Tryd.underlying102 (by kernel_rfl) (by kernel_rfl) h
  intro j hj
  have h3 := h2.cell (g := 2) (by kernel_rfl) j hj
  have h4 : wordsZ.getD j 0 = ((shK.getD j 0).toNat : Int) := by
    have hl : j < shK.length := hj
    simp [wordsZ, List.getD, hl]
  rw [h4] at h3
  exact h3
theorem nil_tw {w : World} (hsh : w.ShapedOpen Tryd.prog) (h : laidMet Tryd.prog Rows.traceNilRow.laid w.memory) : Tw w :=
  ⟨⟨tab_cell h.tail.tail⟩, first_cell hsh h.tail.tail.tail, odd_cell h.tail.tail.tail.tail⟩
end Go.Proofs.YtpndahmlbjhdfaaDoor
