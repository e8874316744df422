/-
  scram.ParseVerdict at every text.
-/
import Derived.BigGuardPart
import Derived.Deep.CutBlock
import Derived.Deep.DeepCutAuto
import Derived.Test.YtjkbigecejogdaaDoorRows
import Derived.Test.YtjkbigecejogdaaDoorPst
namespace Go.Proofs.YtjkbigecejogdaaDoor
open Go.RowKit
set_option maxRecDepth 100000
attribute [local go_sem] Oper.semAt_some
set_option linter.unusedVariables false
set_option linter.unusedSimpArgs false
def vE (s : List UInt8) : Ms × Int :=
  if ((badR s || !valB (nxT [101] (attsP s))) || !(nxR [101] (attsP s)).all okX) = true then (Ms0, 4) else if denB (nxR [101] (attsP s)) = true then (Ms0, 12)
  else (⟨4, [], [], [], [], (nxR [101] (attsP s)).map atPr, [], 0, [], [], nxT [101] (attsP s)⟩, 0)
def vS (s : List UInt8) : Ms × Int :=
  if (((badR s || !hasF [118] (attsP s)) || !byB (nxT [118] (attsP s)) 32 32) || !(nxR [118] (attsP s)).all okX) = true then (Ms0, 4) else if denB (nxR [118] (attsP s)) = true then (Ms0, 12)
  else (⟨4, [], [], [], [], (nxR [118] (attsP s)).map atPr, [], 0, [], (decF (nxT [118] (attsP s))).1, []⟩, 0)
/-- What ParseVerdict reads. -/
def pVerd (s : List UInt8) : Ms × Int := if 4096 < s.length then (Ms0, 3) else if hasF [101] (attsP s) = true then vE s else vS s
def VerdR (B : Nat) (m : Ms) (c : Int) (w' : World) (e : Ending) : Prop :=
  ∃ pv ev, e = .returned (.tuple #[.agg #[pv, Str m.code, ev], .int .i64 c]) ∧ SlB w' pv m.proof ∧ RowC 2 prC w' ev m.ext ∧ (∀ k, sblk pv (m.proof.map Byt).length k → B ≤ k) ∧ ∀ k, rblk ev m.ext.length k → B ≤ k
theorem verdR0 (B : Nat) (c : Int) (w' : World) : VerdR B Ms0 c w' (.returned (.tuple #[.agg #[.slice none 0 0, Str [], .slice none 0 0], .int .i64 c])) := ⟨_, _, rfl, sl_nil _, rowP_nil _, nil_sblk, nil_rblk⟩
end Go.Proofs.YtjkbigecejogdaaDoor
