/-
  scram.ParseChallenge at every text.
-/
import Derived.BigGuardPart
import Derived.Deep.CutBlock
import Derived.Deep.DeepCutAuto
import Derived.Test.YtjkbigecejogdaaDoorRows
import Derived.Test.YtjkbigecejogdaaDoorPst
namespace Go.Proofs.YtjkbigecejogdaaDoor
open Go.RowKit
set_option maxRecDepth 100000
attribute [local go_sem] Oper.semAt_some
set_option linter.unusedVariables false
set_option linter.unusedSimpArgs false
structure C1 where
  p0 : List (List UInt8)
  no : List UInt8
  p1 : List (List UInt8)
  sa : List UInt8
  p2 : List (List UInt8)
  it : List UInt8
  xs : List (List UInt8)
def c1C (s : List UInt8) : C1 :=
  ⟨attsP s, nxT [114] (attsP s), nxR [114] (attsP s), nxT [115] (nxR [114] (attsP s)), nxR [115] (nxR [114] (attsP s)), nxT [105] (nxR [115] (nxR [114] (attsP s))), nxR [105] (nxR [115] (nxR [114] (attsP s)))⟩
def cBad (b0 : Bool) (c : C1) : Bool := ((((((b0 || !hasF [114] c.p0) || !nonF c.no) || !hasF [115] c.p1) || !byB c.sa 1 32) || !hasF [105] c.p2) || !decide (0 < rndN c.it)) || !c.xs.all okX
/-- What ParseChallenge reads. -/
def pChal (s : List UInt8) : Ms × Int :=
  if 4096 < s.length then (Ms0, 3) else if cBad (badR s) (c1C s) = true then (Ms0, 4) else if denB (c1C s).xs = true then (Ms0, 12)
  else (⟨2, [], [], [], (c1C s).no, (c1C s).xs.map atPr, (decF (c1C s).sa).1, rndN (c1C s).it, [], [], []⟩, 0)
def ChalR (B : Nat) (m : Ms) (c : Int) (w' : World) (e : Ending) : Prop :=
  ∃ sv ev, e = .returned (.tuple #[.agg #[Str m.nonce, sv, .int .i64 m.iter, ev], .int .i64 c]) ∧ SlB w' sv m.salt ∧ RowC 2 prC w' ev m.ext ∧ (∀ k, sblk sv (m.salt.map Byt).length k → B ≤ k) ∧ ∀ k, rblk ev m.ext.length k → B ≤ k
theorem chalR0 (B : Nat) (c : Int) (w' : World) : ChalR B Ms0 c w' (.returned (.tuple #[.agg #[Str [], .slice none 0 0, .int .i64 0, .slice none 0 0], .int .i64 c])) := ⟨_, _, rfl, sl_nil _, rowP_nil _, nil_sblk, nil_rblk⟩
end Go.Proofs.YtjkbigecejogdaaDoor
