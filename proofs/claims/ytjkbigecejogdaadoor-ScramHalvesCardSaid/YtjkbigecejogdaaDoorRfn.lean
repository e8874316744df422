/-
  ref07.Final at every text.
-/
import Derived.BigGuardPart
import Derived.OwnWalk
import Derived.BigQuiet
import Derived.RegionTactic
import Derived.Deep.CutBlock
import Derived.Deep.DeepCutAuto
import Derived.Deep.DrawnRows
import Derived.Test.YtjkbigecejogdaaDoorRows
import Derived.Test.YtjkbigecejogdaaDoorRpl
import Derived.Test.YtjkbigecejogdaaDoorScb
import Derived.Deep.LoopGhost
import Derived.Test.YtjkbigecejogdaaDoorRch
import Derived.Test.YtjkbigecejogdaaDoorMid
namespace Go.Proofs.YtjkbigecejogdaaDoor
open Go.RowKit
set_option maxRecDepth 100000
attribute [local go_sem] Oper.semAt_some
set_option linter.unusedVariables false
set_option linter.unusedSimpArgs false
end Go.Proofs.YtjkbigecejogdaaDoor
