/-
  RuleSays, for its card.
-/
import Derived.Test.YtjbobblnicnhnaaDoorRows
import Derived.Test.YtjbobblnicnhnaaDoorSys
import Derived.Test.YtjbobblnicnhnaaDoorAgr
import Derived.WalkKit
import Derived.ProofKit
import Derived.OpenShut
namespace Go.Proofs.YtjbobblnicnhnaaDoor
open Go.RowKit
theorem says_card (w : World) (v0 : Value) (ls : List Ru) (hr : RowU w v0 ls) (hb : ∀ x ∈ ls, RuW x) (a1 a2 a3 : List UInt8) (p : Int) (_ : -9223372036854775808 ≤ p) (_ : p ≤ 9223372036854775807) (hL : Lb w) :
    Calls Tryd.prog 5 #[v0, Str a1, Str a2, Str a3, .int .i64 p] w fun e w' => e = .returned (.bool true) ∧ Ext w w' :=
  says_any v0 ls (fun x hx => ⟨bounds_i64 (hb x hx).fr, bounds_i64 (hb x hx).to⟩) a1 a2 a3 p w hL hr
end Go.Proofs.YtjbobblnicnhnaaDoor
