/-
  TraceKeeps, as its card asks it.
-/
import Derived.Test.YtpndahmlbjhdfaaDoorRows
import Derived.Test.YtpndahmlbjhdfaaDoorTkp
import Derived.Test.YtpndahmlbjhdfaaDoorOpo
import Derived.Test.YtpndahmlbjhdfaaDoorLbw
namespace Go.Proofs.YtpndahmlbjhdfaaDoor
open Go.RowKit
set_option linter.unusedVariables false
abbrev TwWo (w : World) : Prop := Tw w ∧ WordsAt w
theorem keeps_card (w : World) (a0 : Int) (h0a : 0 ≤ a0) (h0b : a0 ≤ 255) (a1 : Value) (ls : List OpE) (hw : RowO w a1 ls) (hb : ∀ x ∈ ls, OpE.ok x) (a2 : Int) (h2a : 0 ≤ a2) (h2b : a2 ≤ 18446744073709551615) (hL : TwWo w) :
    Calls Tryd.prog 3 #[.int .u8 a0, a1, .int .u64 a2] w fun e w' => e = .returned (.bool true) ∧ Ext w w' :=
  keeps_any a0 h0a h0b a1 ls hb a2 h2a h2b w hw hL.1 hL.2
end Go.Proofs.YtpndahmlbjhdfaaDoor
