/-
  ref07.Challenge at every text.
-/
import Derived.BigGuardPart
import Derived.OwnWalk
import Derived.BigQuiet
import Derived.RegionTactic
import Derived.Deep.CutBlock
import Derived.Deep.DeepCutAuto
import Derived.Deep.DrawnRows
import Derived.Test.YtjkbigecejogdaaDoorRows
import Derived.Test.YtjkbigecejogdaaDoorRpl
import Derived.Test.YtjkbigecejogdaaDoorScb
namespace Go.Proofs.YtjkbigecejogdaaDoor
open Go.RowKit
set_option maxRecDepth 100000
attribute [local go_sem] Oper.semAt_some
set_option linter.unusedVariables false
set_option linter.unusedSimpArgs false
theorem sl_shape {w : World} {v : Value} {l : List Value} (h : Sl w v l) : ∃ ao cap, v = .slice ao l.length cap ∧ l.length ≤ cap ∧ cap ≤ maxLen ∧ (ao = none → cap = 0) := by
  obtain ⟨ao, cap, hv, h1, h2, h3, _⟩ := h
  exact ⟨ao, cap, hv, h1, h2, h3⟩
theorem Sl.cell {w : World} {ao : Option Addr} {n cap : Nat} {l : List Value} (h : Sl w (.slice ao n cap) l) (j : Nat) (u : Value) (hj : l[j]? = some u) : w.cell? (adr ao j) = some u := by
  obtain ⟨a2, c2, hv, _, _, _, hc⟩ := h
  simp only [Value.slice.injEq] at hv
  rw [hv.1]
  exact hc j u hj
theorem lat_get (l : List (List UInt8)) (k : Nat) (h : k < l.length) : (l.map Str)[k]? = some (Str (lat l k)) := by simp [lat, List.getD, h]
theorem lat_mem (l : List (List UInt8)) (k : Nat) (h : k < l.length) : lat l k ∈ l := by simp [lat, List.getD, h]
abbrev RdP (f : Nat) (s : List UInt8) (r : Ms × Int) (w : World) : Prop := Calls Tryd.prog f #[Str s] w fun e w' => (∃ v, e = .returned (.tuple #[v, .int .i64 r.2]) ∧ MsIs w.heap.size w' v r.1) ∧ Ext w w'
end Go.Proofs.YtjkbigecejogdaaDoor
