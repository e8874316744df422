/-
  Regions that draw their order and whose callees only lay new blocks: one walk of the text's order.
-/
import Derived.Test.YtiellfhdfifbhaaDoorRows
import Derived.Test.YtiellfhdfifbhaaDoorBld
import Derived.BigQuiet
namespace Go.Proofs.YtiellfhdfifbhaaDoor
open Go.RowKit
set_option linter.unusedVariables false

/-- A world in which all that lay is as it was in W. -/
structure ExtW (W : World) where
  w : World
  h : Ext W w
instance ExtW.nonempty (W : World) : Nonempty (ExtW W) := ⟨⟨W, ext_refl W⟩⟩
theorem wp_region_ext {P : Program} {id : Nat} {Q : Exit → Act → World → Prop} {a : Act} {W : World} {l : List Oper} (hm : P.follows .mixedOrders = true) (hB : Region.lexB .any l.toArray = true)
    (h : wpQuiet P l.toArray (fun w' => ∃ x : ExtW W, w' = x.w) (fun a' => ∀ w', (∃ x : ExtW W, w' = x.w) → Q .normal a' w') l a) : (Code.region id l.toArray true).wp P Q a W :=
  wp_region_quiet (C := fun w' => ∃ x : ExtW W, w' = x.w) hm hB ⟨⟨W.drew, Below.drew (Below.refl _ _)⟩, rfl⟩ (by simpa using h)
theorem Calls.ext_of {P : Program} {f : FuncId} {args : Array Value} {W : World} {v : Value} (x : ExtW W) (h : Calls P f args x.w fun e w' => e = .returned v ∧ Ext x.w w') :
    Calls P f args x.w fun e w'' => e = .returned v ∧ ∃ y : ExtW W, w'' = y.w :=
  h.mono fun _ w' ⟨he, hx⟩ => ⟨he, ⟨w', ext_trans x.h hx⟩, rfl⟩
theorem ExtW.cell {W : World} {a : Addr} {v : Value} (h : W.cell? a = some v) : ∀ x : ExtW W, x.w.cell? a = some v := fun x => ext_cell x.h h
end Go.Proofs.YtiellfhdfifbhaaDoor
