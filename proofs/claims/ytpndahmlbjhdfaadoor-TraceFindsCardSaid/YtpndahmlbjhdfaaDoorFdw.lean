/-
  TraceFinds, as its card asks it.
-/
import Derived.Test.YtpndahmlbjhdfaaDoorRows
import Derived.Test.YtpndahmlbjhdfaaDoorTfd
import Derived.Test.YtpndahmlbjhdfaaDoorOpo
import Derived.Test.YtpndahmlbjhdfaaDoorLbt
namespace Go.Proofs.YtpndahmlbjhdfaaDoor
open Go.RowKit
set_option linter.unusedVariables false
theorem finds_tw {w : World} (hsh : w.ShapedOpen Tryd.prog) (h : laidMet Tryd.prog Rows.traceFindsRow.laid w.memory) : Tw w :=
  ⟨⟨tab_cell h.tail.tail⟩, first_cell hsh h.tail.tail.tail, odd_cell h.tail.tail.tail.tail⟩
theorem finds_card (w : World) (a0 : Value) (ls : List OpE) (hw : RowO w a0 ls) (hb : ∀ x ∈ ls, OpE.ok x) (a1 a2 : List UInt8) (a3 : Int) (h3a : -9223372036854775808 ≤ a3) (h3b : a3 ≤ 9223372036854775807) (a4 : Int) (h4a : 0 ≤ a4) (h4b : a4 ≤ 255) (hL : Tw w) :
    Calls Tryd.prog 4 #[a0, Str a1, Str a2, .int .i64 a3, .int .u8 a4] w fun e w' => e = .returned (.bool true) ∧ Ext w w' :=
  finds_any a0 ls hb a1 a2 a3 h3a h3b a4 h4a h4b w hw hL
end Go.Proofs.YtpndahmlbjhdfaaDoor
