/-
 The library's variables and name.forms out of a card's condition: LwS.
-/
import Derived.Test.YtjkbigecejogdaaGreatDoorRows
import Derived.Test.YtjkbigecejogdaaGreatDoorRnd
import Derived.Test.YtjkbigecejogdaaGreatDoorFms
import Derived.Stop.LaidErr
import Derived.Lib.LaidTab
import Derived.OpenShut
import Derived.LaidMore
import Derived.Lay
import Derived.MakeChecks
import Derived.Shelf.Vars
namespace Go.Proofs.YtjkbigecejogdaaGreatDoor
open Go.RowKit
set_option maxRecDepth 100000
set_option linter.unusedVariables false
set_option linter.unusedSimpArgs false

theorem starE : "*errors.errorString" = "*" ++ "errors.errorString" := by decide
theorem rowE (u : TypeId) (h : Tryz.prog.typeName? 3 u = some "*errors.errorString") : u = 194 :=
 typeName_ptr_named (nm := "errors.errorString") (by rw [← starE]; kernel_rfl) (by kernel_rfl) (by decide) u (by rw [← starE]; exact h)
theorem sentinel_cell {n : String} {text : List UInt8} {r : List (String × DataW Unit)} {W : World} {g : Nat} (h : laidMet Tryz.prog ((n, .iface "*errors.errorString" (.ptr (.agg [.lit (.string text)]))) :: r) W.memory)
    (hg : Tryz.prog.globalNamed n = some g) (ht : (Tryz.prog.globals[g]?).map (·.type) = some 116) : ∃ te pe, W.cell? ⟨g, 0, none⟩ = some (.iface te pe) := by
 have hi : ∃ ms, Tryz.prog.underlying 116 = some (.interface ms) := ⟨_, Tryz.underlying116⟩
 obtain ⟨ms, hi⟩ := hi
 have hB : (match (Tryz.prog.fieldsOf 196).toList with | [f] => f.type == 9 && f.offset == 0 | _ => false) = true := by kernel_rfl
 have hu : Tryz.prog.underlying 196 = some (.struct (Tryz.prog.fieldsOf 196)) := by kernel_rfl
 have hcE : Tryz.prog.cellsOf 196 = 1 := by kernel_rfl
 have hcS : Tryz.prog.cellsOf 9 = 1 := by kernel_rfl
 revert hu hB
 generalize Tryz.prog.fieldsOf 196 = F
 intro hB hu
 match F, hB with
 | ⟨[f]⟩, hB =>
   simp only [Bool.and_eq_true, beq_iff_eq] at hB
   obtain ⟨a, s, hv, _⟩ := laid_sentinel h hg ht hi rowE Tryz.underlying194 hu hB.1 hB.2 Tryz.underlying9 hcE hcS
   have := World.var?_cell hg hv 0
   have h2 : W.memory.cell? ⟨g, 0, none⟩ = some (.iface 194 (.pointer (some a))) := by simpa using this
   exact ⟨_, _, (show W.cell? ⟨g, 0, none⟩ = W.memory.cell? ⟨g, 0, none⟩ from rfl).trans h2⟩
theorem tab_cell {rest : List (String × DataW Unit)} {W : World} (h : laidMet Tryz.prog (("internal/strconv.uint64pow10", Lib.tabData .u64 Lib.pow10Tab) :: rest) W.memory) : Lib.TabIs Tryz.prog W "internal/strconv.uint64pow10" .u64 Lib.pow10Tab := by
 have h2 := Lib.tabIs_of_head (g := 4) (n := 20) (by kernel_rfl) (by kernel_rfl) Tryz.underlying189 Tryz.underlying168 (by kernel_rfl) (by kernel_rfl) h
 exact h2
end Go.Proofs.YtjkbigecejogdaaGreatDoor
