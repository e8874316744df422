/-
  RuleCovers, for its card.
-/
import Derived.Test.YtjbobblnicnhnaaDoorRows
import Derived.Test.YtjbobblnicnhnaaDoorRcv
import Derived.Test.YtjbobblnicnhnaaDoorAgg
import Derived.WalkKit
import Derived.ProofKit
import Derived.OpenShut
namespace Go.Proofs.YtjbobblnicnhnaaDoor
open Go.RowKit
theorem rcovers_card (r : Ru) (hr : RuW r) (s : Ru) (hs : RuW s) (a2 a3 a4 : List UInt8) (p : Int) (_ : -9223372036854775808 ≤ p) (_ : p ≤ 9223372036854775807) (w : World) (hL : Lb w) :
    Calls Tryd.prog 4 #[ruV r, ruV s, Str a2, Str a3, Str a4, .int .i64 p] w fun e w' => e = .returned (.bool true) ∧ Ext w w' :=
  rcovers_any r s (bounds_i64 hr.fr) (bounds_i64 hr.to) (bounds_i64 hs.fr) (bounds_i64 hs.to) a2 a3 a4 p w hL
end Go.Proofs.YtjbobblnicnhnaaDoor
