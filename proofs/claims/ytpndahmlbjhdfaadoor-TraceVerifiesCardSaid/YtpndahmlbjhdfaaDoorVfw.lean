/-
  TraceVerifies, as its card asks it.
-/
import Derived.Test.YtpndahmlbjhdfaaDoorRows
import Derived.Test.YtpndahmlbjhdfaaDoorTvf
import Derived.Test.YtpndahmlbjhdfaaDoorOpo
import Derived.Test.YtpndahmlbjhdfaaDoorLbw
namespace Go.Proofs.YtpndahmlbjhdfaaDoor
open Go.RowKit
set_option linter.unusedVariables false
abbrev TwWo (w : World) : Prop := Tw w ∧ WordsAt w
theorem verifies_tw {w : World} (hsh : w.ShapedOpen Tryd.prog) (h : laidMet Tryd.prog Rows.traceVerifiesRow.laid w.memory) : TwWo w := keeps_tw hsh h
theorem verifies_card (w : World) (a0 : Value) (ls : List OpE) (hw : RowO w a0 ls) (hb : ∀ x ∈ ls, OpE.ok x) (a1 : Int) (h1a : 0 ≤ a1) (h1b : a1 ≤ 255) (a2 : Int) (h2a : 0 ≤ a2) (h2b : a2 ≤ 255) (a3 : Int) (h3a : 0 ≤ a3) (h3b : a3 ≤ 255) (hL : TwWo w) :
    Calls Tryd.prog 6 #[a0, .int .u8 a1, .int .u8 a2, .int .u8 a3] w fun e w' => e = .returned (.bool true) ∧ Ext w w' := by
  obtain ⟨b8, rfl⟩ : ∃ b8 : UInt8, a3 = (b8.toNat : Int) := ⟨UInt8.ofNat a3.toNat, by simp; omega⟩
  exact verifies_any a0 ls hb a1 a2 b8 h1a h1b h2a h2b w hw hL.1 hL.2
end Go.Proofs.YtpndahmlbjhdfaaDoor
