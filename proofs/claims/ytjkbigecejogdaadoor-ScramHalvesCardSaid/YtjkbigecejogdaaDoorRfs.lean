/-
  ref07.First at every text.
-/
import Derived.BigGuardPart
import Derived.OwnWalk
import Derived.BigQuiet
import Derived.RegionTactic
import Derived.Deep.CutBlock
import Derived.Deep.DeepCutAuto
import Derived.Deep.DrawnRows
import Derived.Test.YtjkbigecejogdaaDoorRows
import Derived.Test.YtjkbigecejogdaaDoorRpl
import Derived.Test.YtjkbigecejogdaaDoorScb
import Derived.Test.YtjkbigecejogdaaDoorRch
import Derived.Test.YtjkbigecejogdaaDoorKit
namespace Go.Proofs.YtjkbigecejogdaaDoor
open Go.RowKit
set_option maxRecDepth 100000
attribute [local go_sem] Oper.semAt_some
set_option linter.unusedVariables false
set_option linter.unusedSimpArgs false
theorem sl_shape2 {w : World} {a : Option Addr} {n k : Nat} {l : List Value} (h : Sl w (.slice a n k) l) : n = l.length ∧ l.length ≤ k ∧ k ≤ maxLen ∧ (a = none → k = 0) := by
  obtain ⟨ao, cap, hv, h1, h2, h3⟩ := sl_shape h
  simp only [Value.slice.injEq] at hv
  obtain ⟨rfl, rfl, rfl⟩ := hv
  exact ⟨rfl, h1, h2, h3⟩
/-- The message while its head is being laid. -/
def qF (f u : List UInt8) (b1 b2 : Bool) : Array Value := #[.int .i64 1, if b1 then Str f else Str [], if b2 then Str u else Str [], Str [], Str [], .slice none 0 0, .slice none 0 0, .int .i64 0, Str [], .slice none 0 0, Str []]
theorem cell_at {Z : World} {s t : Nat} {c : Array Value} (h : Z.heap[s]? = some (.cells c t (0, 0))) (j : Nat) (v : Value) (hv : c[j]? = some v) : Z.cell? ⟨s, j, none⟩ = some v := by
  simp only [World.cell?, h]; simpa using hv
theorem ext_set {w w' : World} {b i : Nat} {x : Value} (h : Ext w w') (hb : w.heap.size ≤ b) : Ext w (w'.setCell ⟨b, i, none⟩ x) :=
  below_chg h (Chg.setCell w' ⟨b, i, none⟩ x) (fun k hk => by have hk' : k = b := hk; omega) (Nat.le_refl _)
theorem set3q {W : World} {q t : Nat} {c : Array Value} (h : W.heap[q]? = some (.cells c t (0, 0))) (u3 u4 u5 : Value) :
    ∃ Z, ((W.setCell ⟨q, 3, none⟩ u3).setCell ⟨q, 4, none⟩ u4).setCell ⟨q, 5, none⟩ u5 = Z ∧ Z.heap[q]? = some (.cells (((c.setIfInBounds 3 u3).setIfInBounds 4 u4).setIfInBounds 5 u5) t (0, 0)) ∧ Bz q W Z :=
  ⟨_, rfl, set_at (set_at (set_at h)), ((Bz.set W q 3 u3).trans (Bz.set _ q 4 u4)).trans (Bz.set _ q 5 u5)⟩
end Go.Proofs.YtjkbigecejogdaaDoor
