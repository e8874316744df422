/-
  What the document reads of a text: the four messages, in plain words.
-/
import Derived.Test.YtjkbigecejogdaaDoorRows
import Derived.Test.YtjkbigecejogdaaDoorScc
import Derived.Test.YtjkbigecejogdaaDoorRby
import Derived.Test.YtjkbigecejogdaaDoorMsv
namespace Go.Proofs.YtjkbigecejogdaaDoor
set_option linter.unusedVariables false
set_option linter.unusedSimpArgs false
def lat (l : List (List UInt8)) (k : Nat) : List UInt8 := l.getD k []
def rF3 (fl au : List UInt8) (no : Bool) (l : List (List UInt8)) : Ms × Int :=
  if l.length < 2 then (Ms0, 4)
  else if ((beh (lat l 0) 110 61).2 && ((beh (lat l 1) 114 61).2 && (escB (beh (lat l 0) 110 61).1 && ((extsV (l.drop 2)).2.1 && nonF (beh (lat l 1) 114 61).1)))) = false then (Ms0, 4)
  else if (no || (extsV (l.drop 2)).2.2) = true then (Ms0, 12)
  else (⟨1, fl, au, (unV (beh (lat l 0) 110 61).1).1, (beh (lat l 1) 114 61).1, (extsV (l.drop 2)).1, [], 0, [], [], []⟩, 0)
theorem rF3_def (fl au : List UInt8) (no : Bool) (l : List (List UInt8)) : rF3 fl au no l =
  (if l.length < 2 then (Ms0, 4)
  else if ((beh (lat l 0) 110 61).2 && ((beh (lat l 1) 114 61).2 && (escB (beh (lat l 0) 110 61).1 && ((extsV (l.drop 2)).2.1 && nonF (beh (lat l 1) 114 61).1)))) = false then (Ms0, 4)
  else if (no || (extsV (l.drop 2)).2.2) = true then (Ms0, 12)
  else (⟨1, fl, au, (unV (beh (lat l 0) 110 61).1).1, (beh (lat l 1) 114 61).1, (extsV (l.drop 2)).1, [], 0, [], [], []⟩, 0)) := rfl
def rF2 (l : List (List UInt8)) : Ms × Int :=
  if (rhdF (lat l 0) (lat l 1)).2.2 = false then (Ms0, 4)
  else if (beh (lat l 2) 109 61).2 = true then
    (if valB (beh (lat l 2) 109 61).1 = false then (Ms0, 4) else rF3 (rhdF (lat l 0) (lat l 1)).1 (rhdF (lat l 0) (lat l 1)).2.1 true (l.drop 3))
  else rF3 (rhdF (lat l 0) (lat l 1)).1 (rhdF (lat l 0) (lat l 1)).2.1 ((rhdF (lat l 0) (lat l 1)).1 == [112]) (l.drop 2)
theorem rF2_def (l : List (List UInt8)) : rF2 l =
  (if (rhdF (lat l 0) (lat l 1)).2.2 = false then (Ms0, 4)
  else if (beh (lat l 2) 109 61).2 = true then
    (if valB (beh (lat l 2) 109 61).1 = false then (Ms0, 4) else rF3 (rhdF (lat l 0) (lat l 1)).1 (rhdF (lat l 0) (lat l 1)).2.1 true (l.drop 3))
  else rF3 (rhdF (lat l 0) (lat l 1)).1 (rhdF (lat l 0) (lat l 1)).2.1 ((rhdF (lat l 0) (lat l 1)).1 == [112]) (l.drop 2)) := rfl
/-- First. -/
def rFirst (s : List UInt8) : Ms × Int := if 4096 < s.length then (Ms0, 3) else if (spl s).length < 4 then (Ms0, 4) else rF2 (spl s)
def rC2 (l : List (List UInt8)) : Ms × Int :=
  if ((beh (lat l 0) 114 61).2 && ((beh (lat l 1) 115 61).2 && ((beh (lat l 2) 105 61).2 && (byB (beh (lat l 1) 115 61).1 1 32 && ((extsV (l.drop 3)).2.1 && (nonF (beh (lat l 0) 114 61).1 && decide (rndN (beh (lat l 2) 105 61).1 ≠ 0))))))) = false then (Ms0, 4)
  else if (extsV (l.drop 3)).2.2 = true then (Ms0, 12)
  else (⟨2, [], [], [], (beh (lat l 0) 114 61).1, (extsV (l.drop 3)).1, (decF (beh (lat l 1) 115 61).1).1, rndN (beh (lat l 2) 105 61).1, [], [], []⟩, 0)
theorem rC2_def (l : List (List UInt8)) : rC2 l =
  (if ((beh (lat l 0) 114 61).2 && ((beh (lat l 1) 115 61).2 && ((beh (lat l 2) 105 61).2 && (byB (beh (lat l 1) 115 61).1 1 32 && ((extsV (l.drop 3)).2.1 && (nonF (beh (lat l 0) 114 61).1 && decide (rndN (beh (lat l 2) 105 61).1 ≠ 0))))))) = false then (Ms0, 4)
  else if (extsV (l.drop 3)).2.2 = true then (Ms0, 12)
  else (⟨2, [], [], [], (beh (lat l 0) 114 61).1, (extsV (l.drop 3)).1, (decF (beh (lat l 1) 115 61).1).1, rndN (beh (lat l 2) 105 61).1, [], [], []⟩, 0)) := rfl
/-- Challenge. -/
def rChal (s : List UInt8) : Ms × Int := if 4096 < s.length then (Ms0, 3) else if (spl s).length < 3 then (Ms0, 4) else rC2 (spl s)
def midL (l : List (List UInt8)) : List (List UInt8) := (l.take (l.length - 1)).drop 2
def rN2 (l : List (List UInt8)) : Ms × Int :=
  if ((beh (lat l 0) 99 61).2 && ((beh (lat l 1) 114 61).2 && ((beh (lat l (l.length - 1)) 112 61).2 && (byB (beh (lat l 0) 99 61).1 0 4096 && (byB (beh (lat l (l.length - 1)) 112 61).1 32 32 && ((extsV (midL l)).2.1 && (((rHdF (decF (beh (lat l 0) 99 61).1).1).1 && (extsV (midL l)).1.all (fun p => p.n != [112])) && nonF (beh (lat l 1) 114 61).1))))))) = false then (Ms0, 4)
  else if ((rHdF (decF (beh (lat l 0) 99 61).1).1).2 || (extsV (midL l)).2.2) = true then (Ms0, 12)
  else (⟨3, [], [], [], (beh (lat l 1) 114 61).1, (extsV (midL l)).1, [], 0, (decF (beh (lat l 0) 99 61).1).1, (decF (beh (lat l (l.length - 1)) 112 61).1).1, []⟩, 0)
theorem rN2_def (l : List (List UInt8)) : rN2 l =
  (if ((beh (lat l 0) 99 61).2 && ((beh (lat l 1) 114 61).2 && ((beh (lat l (l.length - 1)) 112 61).2 && (byB (beh (lat l 0) 99 61).1 0 4096 && (byB (beh (lat l (l.length - 1)) 112 61).1 32 32 && ((extsV (midL l)).2.1 && (((rHdF (decF (beh (lat l 0) 99 61).1).1).1 && (extsV (midL l)).1.all (fun p => p.n != [112])) && nonF (beh (lat l 1) 114 61).1))))))) = false then (Ms0, 4)
  else if ((rHdF (decF (beh (lat l 0) 99 61).1).1).2 || (extsV (midL l)).2.2) = true then (Ms0, 12)
  else (⟨3, [], [], [], (beh (lat l 1) 114 61).1, (extsV (midL l)).1, [], 0, (decF (beh (lat l 0) 99 61).1).1, (decF (beh (lat l (l.length - 1)) 112 61).1).1, []⟩, 0)) := rfl
/-- Final. -/
def rFinal (s : List UInt8) : Ms × Int := if 4096 < s.length then (Ms0, 3) else if (spl s).length < 3 then (Ms0, 4) else rN2 (spl s)
def rV2 (l : List (List UInt8)) : Ms × Int :=
  if (extsV (l.drop 1)).2.1 = false then (Ms0, 4)
  else if (beh (lat l 0) 101 61).2 = true then
    (if valB (beh (lat l 0) 101 61).1 = false then (Ms0, 4) else if (extsV (l.drop 1)).2.2 = true then (Ms0, 12)
     else (⟨4, [], [], [], [], (extsV (l.drop 1)).1, [], 0, [], [], (beh (lat l 0) 101 61).1⟩, 0))
  else if ((beh (lat l 0) 118 61).2 && byB (beh (lat l 0) 118 61).1 32 32) = false then (Ms0, 4)
  else if (extsV (l.drop 1)).2.2 = true then (Ms0, 12)
  else (⟨4, [], [], [], [], (extsV (l.drop 1)).1, [], 0, [], (decF (beh (lat l 0) 118 61).1).1, []⟩, 0)
theorem rV2_def (l : List (List UInt8)) : rV2 l =
  (if (extsV (l.drop 1)).2.1 = false then (Ms0, 4)
  else if (beh (lat l 0) 101 61).2 = true then
    (if valB (beh (lat l 0) 101 61).1 = false then (Ms0, 4) else if (extsV (l.drop 1)).2.2 = true then (Ms0, 12)
     else (⟨4, [], [], [], [], (extsV (l.drop 1)).1, [], 0, [], [], (beh (lat l 0) 101 61).1⟩, 0))
  else if ((beh (lat l 0) 118 61).2 && byB (beh (lat l 0) 118 61).1 32 32) = false then (Ms0, 4)
  else if (extsV (l.drop 1)).2.2 = true then (Ms0, 12)
  else (⟨4, [], [], [], [], (extsV (l.drop 1)).1, [], 0, [], (decF (beh (lat l 0) 118 61).1).1, []⟩, 0)) := rfl
/-- Verdict. -/
def rVerd (s : List UInt8) : Ms × Int := if 4096 < s.length then (Ms0, 3) else rV2 (spl s)
/-- Read. -/
def rRead (k : Int) (s : List UInt8) : Ms × Int := if k = 1 then rFirst s else if k = 2 then rChal s else if k = 3 then rFinal s else rVerd s
end Go.Proofs.YtjkbigecejogdaaDoor
