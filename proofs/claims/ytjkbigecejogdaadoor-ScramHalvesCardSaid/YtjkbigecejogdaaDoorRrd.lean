/-
  ref07.Read at every text.
-/
import Derived.BigGuardPart
import Derived.OwnWalk
import Derived.Test.YtjkbigecejogdaaDoorRows
import Derived.Test.YtjkbigecejogdaaDoorRfs
import Derived.Test.YtjkbigecejogdaaDoorRch
import Derived.Test.YtjkbigecejogdaaDoorRfn
import Derived.Test.YtjkbigecejogdaaDoorRve
namespace Go.Proofs.YtjkbigecejogdaaDoor
open Go.RowKit
set_option maxRecDepth 100000
attribute [local go_sem] Oper.semAt_some
set_option linter.unusedVariables false
set_option linter.unusedSimpArgs false
theorem MsR.shape {B : Nat} {w : World} {e s p : Value} {m : Ms} (h : MsR B w e s p m) : ∃ a1 n1 k1 a2 n2 k2 a3 n3 k3, e = .slice a1 n1 k1 ∧ s = .slice a2 n2 k2 ∧ p = .slice a3 n3 k3 := by
  obtain ⟨a1, k1, h1, _⟩ := h.ext
  obtain ⟨a2, k2, h2, _⟩ := h.salt
  obtain ⟨a3, k3, h3, _⟩ := h.proof
  exact ⟨_, _, _, _, _, _, _, _, _, h1, h2, h3⟩
end Go.Proofs.YtjkbigecejogdaaDoor
