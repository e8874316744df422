/-
  What Read answers; a result of five cells.
-/
import Derived.Shelf.Bytes.SlSmallAll
import Derived.Laws.IdiomStrings
import Derived.Test.YtpndahmlbjhdfaaDoorRows
import Derived.Test.YtpndahmlbjhdfaaDoorEvl
import Derived.Test.YtpndahmlbjhdfaaDoorSpb
namespace Go.Proofs.YtpndahmlbjhdfaaDoor
open Go.RowKit
set_option linter.unusedVariables false
set_option linter.unusedSimpArgs false
theorem frozen_row {W : World} {b : Nat} {cs : Array Value} {t : TypeId} (h : W.heap[b]? = some (.cells cs t (0, 0))) (o : Nat) : W.frozen? ⟨b, o, none⟩ = false := by simp [World.frozen?, h]
theorem setCell_row {W : World} {b : Nat} {cs : Array Value} {t : TypeId} {f : Nat × Nat} (h : W.heap[b]? = some (.cells cs t f)) (i : Nat) (v : Value) : (W.setCell ⟨b, i, none⟩ v).heap[b]? = some (.cells (cs.setIfInBounds i v) t f) := by
  simp [World.setCell, Array.getElem?_modify, h]
def evZ : Ev := ⟨0, 0, [], 0, []⟩
/-- What Read answers. -/
def rdV (s : List UInt8) : Value := match rdE s with | some x => .tuple #[.agg (evC x), .int .i64 0] | none => .tuple #[.agg (evC evZ), .int .i64 4]
theorem rdE_len (s : List UInt8) (h : (spb 32 s).length ≠ 5) : rdE s = none := by
  unfold rdE
  split
  · rename_i he; rw [he] at h; exact absurd rfl h
  · rfl
theorem five {α : Type} (l : List α) (h : l.length = 5) : ∃ a b c d e, l = [a, b, c, d, e] := by
  match l, h with
  | [a, b, c, d, e], _ => exact ⟨a, b, c, d, e, rfl⟩
theorem own_get {W : World} {B : Nat} {v : Value} {ps : List (List UInt8)} (h : W.ownsRow B 9 1 v ps.length (ps.map Str)) (hne : ps ≠ []) : ∃ g cap, v = .slice (some ⟨g, 0, none⟩) ps.length cap ∧ B ≤ g ∧ ps.length ≤ cap ∧ cap ≤ maxLen ∧ ∀ (j : Nat) p, ps[j]? = some p → W.cell? ⟨g, j, none⟩ = some (Str p) := by
  rcases h.2 with ⟨hn, h0⟩ | ⟨g, cap, cur, hv, hbg, hg, hn, hm, _, ht⟩
  · exact absurd (List.eq_nil_of_length_eq_zero h0) hne
  · refine ⟨g, cap, hv, hbg, hn, hm, fun j p hj => ?_⟩
    have hlt : j < ps.length := (List.getElem?_eq_some_iff.1 hj).1
    have a : (ps.map Str)[j]? = some (Str p) := by simp [hj]
    rw [← ht, List.getElem?_take, if_pos (by omega)] at a
    rw [cell_of_row W g _ cur 9 (0, 0) hg, ← Array.getElem?_toList]
    exact a
theorem set5 {W : World} {b : Nat} {v0 v1 v2 v3 v4 : Value} {t : TypeId} (h : W.heap[b]? = some (.cells #[v0, v1, v2, v3, v4] t (0, 0))) (a0 a1 a2 a3 a4 : Value) :
    ∃ W9, ((((W.setCell ⟨b, 0, none⟩ a0).setCell ⟨b, 1, none⟩ a1).setCell ⟨b, 2, none⟩ a2).setCell ⟨b, 3, none⟩ a3).setCell ⟨b, 4, none⟩ a4 = W9 ∧ W9.heap[b]? = some (.cells #[a0, a1, a2, a3, a4] t (0, 0)) ∧ Chg (fun q => q = b) W W9 := by
  refine ⟨_, rfl, ?_, ?_⟩
  · exact setCell_row (setCell_row (setCell_row (setCell_row (setCell_row h 0 a0) 1 a1) 2 a2) 3 a3) 4 a4
  · exact ((((Chg.setCell W ⟨b, 0, none⟩ a0).trans (Chg.setCell _ ⟨b, 1, none⟩ a1)).trans (Chg.setCell _ ⟨b, 2, none⟩ a2)).trans (Chg.setCell _ ⟨b, 3, none⟩ a3)).trans (Chg.setCell _ ⟨b, 4, none⟩ a4)
/-- string(b) -/
theorem str_of_sl {W : World} {v : Value} {l : List UInt8} (h : SlB W v l) : (convert 45 9 v).run Tryd.prog W = .ok (Str l) W := by
  obtain ⟨ao, cap, rfl, h1, h2, h3, hc⟩ := h
  rw [List.length_map] at h1 ⊢
  by_cases h0 : l = []
  · subst h0
    exact run_convert_bytes_zero W 45 5 Tryd.underlying45 Tryd.underlying5 ao cap 9 Tryd.underlying9
  · cases ao with
    | none =>
      have := h3 rfl
      exact absurd (List.eq_nil_of_length_eq_zero (by omega)) h0
    | some a =>
      refine run_convert_bytes_back W 45 9 5 a cap l Tryd.underlying45 Tryd.underlying5 Tryd.underlying9 (fun j hj => ?_)
      have := hc j (Byt (bt l j)) (byt_map l j hj)
      rw [bt_get l j hj] at this
      exact this
end Go.Proofs.YtpndahmlbjhdfaaDoor
