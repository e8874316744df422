/-
  TraceLines' laid variables: Lb and Tw.
-/
import Derived.Test.YtpndahmlbjhdfaaDoorRows
import Derived.Test.YtpndahmlbjhdfaaDoorLbk
import Derived.Test.YtpndahmlbjhdfaaDoorLbt
import Derived.Stop.LaidErr
import Derived.Lib.LaidTab
import Derived.OpenShut
import Derived.LaidMore
import Derived.Lay
import Derived.MakeChecks
import Derived.Shelf.Vars
namespace Go.Proofs.YtpndahmlbjhdfaaDoor
open Go.RowKit
set_option maxRecDepth 100000
set_option linter.unusedVariables false
set_option linter.unusedSimpArgs false
theorem starE : "*errors.errorString" = "*" ++ "errors.errorString" := by decide
theorem rowE (u : TypeId) (h : Tryd.prog.typeName? 3 u = some "*errors.errorString") : u = 188 :=
  typeName_ptr_named (nm := "errors.errorString") (by rw [← starE]; kernel_rfl) (by kernel_rfl) (by decide) u (by rw [← starE]; exact h)
theorem sentinel_cell {n : String} {text : List UInt8} {r : List (String × DataW Unit)} {W : World} {g : Nat} (h : laidMet Tryd.prog ((n, .iface "*errors.errorString" (.ptr (.agg [.lit (.string text)]))) :: r) W.memory)
    (hg : Tryd.prog.globalNamed n = some g) (ht : (Tryd.prog.globals[g]?).map (·.type) = some 116) : ∃ te pe, W.cell? ⟨g, 0, none⟩ = some (.iface te pe) := by
  have hi : ∃ ms, Tryd.prog.underlying 116 = some (.interface ms) := ⟨_, Tryd.underlying116⟩
  obtain ⟨ms, hi⟩ := hi
  have hB : (match (Tryd.prog.fieldsOf 190).toList with | [f] => f.type == 9 && f.offset == 0 | _ => false) = true := by kernel_rfl
  have hu : Tryd.prog.underlying 190 = some (.struct (Tryd.prog.fieldsOf 190)) := by kernel_rfl
  have hcE : Tryd.prog.cellsOf 190 = 1 := by kernel_rfl
  have hcS : Tryd.prog.cellsOf 9 = 1 := by kernel_rfl
  revert hu hB
  generalize Tryd.prog.fieldsOf 190 = F
  intro hB hu
  match F, hB with
  | ⟨[f]⟩, hB =>
    simp only [Bool.and_eq_true, beq_iff_eq] at hB
    obtain ⟨a, s, hv, _⟩ := laid_sentinel h hg ht hi rowE Tryd.underlying188 hu hB.1 hB.2 Tryd.underlying9 hcE hcS
    have := World.var?_cell hg hv 0
    have h2 : W.memory.cell? ⟨g, 0, none⟩ = some (.iface 188 (.pointer (some a))) := by simpa using this
    exact ⟨_, _, (show W.cell? ⟨g, 0, none⟩ = W.memory.cell? ⟨g, 0, none⟩ from rfl).trans h2⟩
theorem lines_tw {w : World} (hsh : w.ShapedOpen Tryd.prog) (h : laidMet Tryd.prog Rows.traceLinesRow.laid w.memory) : Lb w ∧ Tw w := by
  obtain ⟨m, hm⟩ := cell_of_shapedOpen_int (zero := #[.int .i64 0]) (t := 3) hsh (of_decide_eq_true (by kernel_rfl)) (by kernel_rfl) rfl (by kernel_rfl) (by kernel_rfl) Tryd.underlying3 (g := 4)
  exact ⟨⟨⟨m, hm⟩, sentinel_cell h.tail.tail.tail.tail.tail (by kernel_rfl) (by kernel_rfl), sentinel_cell h.tail.tail.tail.tail (by kernel_rfl) (by kernel_rfl), tab_cell h.tail.tail⟩, ⟨tab_cell h.tail.tail⟩, first_cell hsh h.tail.tail.tail.tail.tail.tail, odd_cell h.tail.tail.tail.tail.tail.tail.tail⟩
end Go.Proofs.YtpndahmlbjhdfaaDoor
