/-
  TraceLines, as its card asks it.
-/
import Derived.Test.YtpndahmlbjhdfaaDoorRows
import Derived.Test.YtpndahmlbjhdfaaDoorTln
import Derived.Test.YtpndahmlbjhdfaaDoorEvg
import Derived.Test.YtpndahmlbjhdfaaDoorLbl
namespace Go.Proofs.YtpndahmlbjhdfaaDoor
open Go.ChangeShapes Go.WideShapes Go.RowKit
set_option linter.unusedVariables false
abbrev LbTw (w : World) : Prop := Lb w ∧ Tw w
theorem tlines_card (a : Ev) (h : EvP a) (l : List UInt8) (w : World) (hw : LbTw w) :
    Calls Tryd.prog 7 #[evV a, Str l] w fun e w' => e = .returned (.bool true) ∧ Ext w w' :=
  tlines_any a ⟨by have := (bounds_u64 h.n).2; omega, by have := (bounds_u64 h.tk).2; omega, (bounds_i64 h.conn).1, (bounds_i64 h.conn).2⟩ l w hw.1 hw.2
end Go.Proofs.YtpndahmlbjhdfaaDoor
