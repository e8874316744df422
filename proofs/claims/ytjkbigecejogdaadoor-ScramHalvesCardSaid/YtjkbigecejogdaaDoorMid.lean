/-
  v[a:b] of a slice of one-cell elements.
-/
import Derived.Test.YtjkbigecejogdaaDoorKit
namespace Go.Proofs.YtjkbigecejogdaaDoor
open Go.RowKit
set_option linter.unusedVariables false
set_option linter.unusedSimpArgs false
def midm : Value → Nat → Nat → Value
  | .slice a _ cap, i, j => .slice (if cap = i then a else a.map (·.add i)) (j - i) (cap - i)
  | v, _, _ => v
theorem midm_shape (ao : Option Addr) (n cap i j : Nat) : midm (.slice ao n cap) i j = .slice (if cap = i then ao else ao.map (·.add i)) (j - i) (cap - i) := rfl
theorem Sl.midm {w : World} {v : Value} {l : List Value} (h : Sl w v l) {i j : Nat} (hi : i ≤ j) (hj : j ≤ l.length) : Sl w (midm v i j) ((l.take j).drop i) := by
  obtain ⟨ao, cap, rfl, h1, h2, h3, hc⟩ := h
  have hlen : ((l.take j).drop i).length = j - i := by simp; omega
  refine ⟨_, _, by rw [midm_shape, hlen], by omega, by omega, fun h => ?_, fun k u hu => ?_⟩
  · split at h
    · have := h3 h; omega
    · cases ao with
      | none => have := h3 rfl; omega
      | some a => simp at h
  · have hk : i + k < j := by have := (List.getElem?_eq_some_iff.1 hu).1; omega
    have hu' : l[i + k]? = some u := by rw [List.getElem?_drop, List.getElem?_take_of_lt hk] at hu; exact hu
    have hlt : i + k < l.length := (List.getElem?_eq_some_iff.1 hu').1
    rw [if_neg (by omega)]
    have hne : ao ≠ none := fun e => by have := h3 e; omega
    rw [adr_map _ hne]
    exact hc _ _ hu'
theorem run_midm {P : Program} {t e : TypeId} (ht : P.underlying t = some (.slice e)) (hz : ∀ w, (Go.sizeOf e).run P w = .ok 1 w) {ao : Option Addr} {n cap : Nat} (hcap : n ≤ cap) (hm : cap ≤ maxLen) :
    ∀ (W : World) (i j : Nat), i ≤ j → j ≤ n → (Instr.slice t (.slice ao n cap) (some (.int .i64 (i : Int))) (some (.int .i64 (j : Int))) none).run P W = .ok (midm (.slice ao n cap) i j) W := by
  intro W i j hij hj
  have h1 := run_sliceBound (P := P) (w := W) .i64 (j : Int) cap .sliceAcap (by omega) (by omega)
  have h2 := run_sliceBound (P := P) (w := W) .i64 (i : Int) j .sliceB (by omega) (by omega)
  simp [Instr.slice, Instr.sliceBounds, run_underlying ht, h1, h2, hz, Result.andThen, midm]
end Go.Proofs.YtjkbigecejogdaaDoor
