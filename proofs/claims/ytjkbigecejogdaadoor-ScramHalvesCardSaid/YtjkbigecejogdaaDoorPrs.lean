/-
  Pairs in a row: a message's extensions, as cells and as a list.
-/
import Derived.BigGuardPart
import Derived.Test.YtjkbigecejogdaaDoorRows
import Derived.Test.YtjkbigecejogdaaDoorKit
import Derived.Test.YtjkbigecejogdaaDoorDen
namespace Go.Proofs.YtjkbigecejogdaaDoor
open Go.RowKit
set_option maxRecDepth 100000
set_option linter.unusedVariables false
set_option linter.unusedSimpArgs false

/-- An extension: its name and its value. -/
structure Pr where
  n : List UInt8
  v : List UInt8
  deriving DecidableEq
@[reducible] def prC (p : Pr) : List Value := [Str p.n, Str p.v]
@[reducible] def prV (p : Pr) : Value := .agg #[Str p.n, Str p.v]
def prD : Pr := ⟨[], []⟩
theorem prC_len (p : Pr) : (prC p).length = 2 := rfl
theorem prC_one (p : Pr) : ∀ c ∈ prC p, c.oneCell' = true := by
  intro c hc
  simp only [prC, List.mem_cons, List.not_mem_nil, or_false] at hc
  rcases hc with rfl | rfl <;> rfl
theorem infoPair : (Tryd.prog.info? 42).map (fun i => (i.zero, i.size, i.bytes)) = some (some (.agg #[.string ⟨#[]⟩, .string ⟨#[]⟩]), 2, 32) := by kernel_rfl
theorem cells2 {W : World} {b : Nat} {v0 v1 : Value} {t : TypeId} (h : W.heap[b]? = some (.cells #[v0, v1] t (0, 0))) : W.cell? ⟨b, 0, none⟩ = some v0 ∧ W.cell? ⟨b, 1, none⟩ = some v1 := by
  refine ⟨?_, ?_⟩ <;> simp [World.cell?, h]
theorem frozen_row {W : World} {b : Nat} {cs : Array Value} {t : TypeId} (h : W.heap[b]? = some (.cells cs t (0, 0))) (o : Nat) : W.frozen? ⟨b, o, none⟩ = false := by simp [World.frozen?, h]
theorem setCell_row {W : World} {b : Nat} {cs : Array Value} {t : TypeId} {f : Nat × Nat} (h : W.heap[b]? = some (.cells cs t f)) (i : Nat) (v : Value) : (W.setCell ⟨b, i, none⟩ v).heap[b]? = some (.cells (cs.setIfInBounds i v) t f) := by
  simp [World.setCell, Array.getElem?_modify, h]
theorem elemPair : Tryd.prog.elem 22 = 42 := by kernel_rfl
theorem index_pair (g o n cap j : Nat) (hn : j < n) (W : World) : (Instr.indexAt 22 (.slice (some ⟨g, o, none⟩) n cap) (.int .i64 (j : Int))).run Tryd.prog W = .ok (.pointer (some ⟨g, o + 2 * j, none⟩)) W := by
  rw [run_indexAt_slice (h := by rw [elemPair]; exact Tryd.underlying22), if_pos (by omega), elemPair]
  simp [Tryd.sizeOf42, Result.andThen, Addr.add, Nat.mul_comm]
theorem rowP_shape {w : World} {v : Value} {xs : List Pr} (hr : RowC 2 prC w v xs) : ∃ ao cap, v = .slice ao xs.length cap ∧ xs.length ≤ cap ∧ cap ≤ maxLen ∧ (xs = [] ∨ ∃ g o, ao = some ⟨g, o, none⟩ ∧ ∀ j, j < xs.length → w.cell? ⟨g, o + 2 * j, none⟩ = some (Str (xs.getD j prD).n) ∧ w.cell? ⟨g, o + 2 * j + 1, none⟩ = some (Str (xs.getD j prD).v)) := by
  obtain ⟨ao, cap, hv, h0, h1, h2, h3⟩ := hr
  refine ⟨ao, cap, hv, h1, h2, ?_⟩
  by_cases hne : xs = []
  · exact .inl hne
  · obtain ⟨g, o, ha, hc⟩ := h3 hne
    refine .inr ⟨g, o, ha, fun j hj => ?_⟩
    have hx : xs[j]? = some (xs.getD j prD) := by simp [List.getD, hj]
    exact ⟨hc j _ hx 0 _ rfl, hc j _ hx 1 _ rfl⟩
theorem ownz_shape {w : World} {base e z : Nat} {v : Value} {n : Nat} {xs : List Value} (h : w.ownsRow base e z v n xs) : ∃ ao cap, v = .slice ao n cap ∧ n ≤ cap := by
  rcases h.2 with ⟨hn, h0⟩ | ⟨g, cap, cur, hv, _, _, hn, _⟩
  · exact ⟨none, 0, by rw [hn, h0], by omega⟩
  · exact ⟨_, cap, hv, hn⟩
theorem Calls.ext_same {P : Program} {f : FuncId} {args : Array Value} {W : World} {v : Value} (x : ExtW W) (h : Calls P f args x.w fun e w' => e = .returned v ∧ w' = x.w) :
    Calls P f args x.w fun e w'' => e = .returned v ∧ ∃ y : ExtW W, w'' = y.w :=
  h.mono fun _ w' ⟨he, hx⟩ => ⟨he, x, hx⟩
/-- The pairs that attributes are. -/
def atPr (p : List UInt8) : Pr := ⟨p.take 1, p.drop 2⟩
theorem attF_pr (ps : List (List UInt8)) : attF ps = (ps.map atPr).flatMap prC := by
  unfold attF
  rw [List.flatMap_map]
  rfl
theorem rowP_of_ownP {B : Nat} {v : Value} {ps : List (List UInt8)} {W : World} (h : OwnP B v ps W) : RowC 2 prC W v (ps.map atPr) := by
  refine rowC_of_own prC_len (B := B) (e := 42) ?_
  rw [List.length_map, ← attF_pr]
  exact h
end Go.Proofs.YtjkbigecejogdaaDoor
