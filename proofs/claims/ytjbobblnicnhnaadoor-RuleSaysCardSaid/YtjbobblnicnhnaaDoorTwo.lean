/-
  Rows of elements of more cells than one: what stays, appends, rows of pairs of texts.
-/
import Derived.Test.YtjbobblnicnhnaaDoorRtwo
import Derived.Test.YtjbobblnicnhnaaDoorReg
namespace Go.Proofs.YtjbobblnicnhnaaDoor
open Go.RowKit
set_option linter.unusedVariables false
set_option linter.unusedSimpArgs false

theorem ownz_base {w : World} {B B' e z : Nat} {v : Value} {n : Nat} {xs : List Value} (h : w.ownsRow B e z v n xs) (hb : B' ≤ B) : w.ownsRow B' e z v n xs := by
  refine ⟨h.1, ?_⟩
  rcases h.2 with hn | ⟨g, cap, cur, hv, hbg, r⟩
  · exact .inl hn
  · exact .inr ⟨g, cap, cur, hv, by omega, r⟩
theorem ownz_keep {w w' : World} {B e z : Nat} {v : Value} {n : Nat} {xs : List Value} (h : w.ownsRow B e z v n xs) (hk : ∀ g, v.ownBlock = some g → B ≤ g → kind? w g = some e → w'.heap[g]? = w.heap[g]?) : w'.ownsRow B e z v n xs := by
  refine ⟨h.1, ?_⟩
  rcases h.2 with hn | ⟨g, cap, cur, rfl, hbg, hg, r⟩
  · exact .inl hn
  · exact .inr ⟨g, cap, cur, rfl, hbg, (hk g rfl hbg (kind_of_cells hg)).trans hg, r⟩
theorem ownz_mv {B B0 e z : Nat} {mu : Nat → Prop} {A C : World} {v : Value} {n : Nat} {xs : List Value} (h : A.ownsRow B0 e z v n xs) (hm : Mv B mu A C) (h1 : ∀ k, mu k → k < B0) : C.ownsRow B0 e z v n xs :=
  ownz_keep h fun g _ hbg hk => hm.block g (kind_lt hk) (fun h' => by have := h1 g h'; omega) (.inr ⟨e, hk⟩)
theorem ownz_put {B0 e z : Nat} {A : World} {v : Value} {n : Nat} {xs : List Value} {D : Nat} {o o' : Obj} (h : A.ownsRow B0 e z v n xs) (hD : A.heap[D]? = some o) (ho : o.isCells = false := by rfl) : (A.putObj D o').ownsRow B0 e z v n xs :=
  ownz_keep h fun g _ _ hk => World.putObj_heap_other (fun e' => by subst e'; rw [kind_none hD ho] at hk; cases hk)
theorem ownz_ext {B0 e z : Nat} {A C : World} {v : Value} {n : Nat} {xs : List Value} (h : A.ownsRow B0 e z v n xs) (he : Ext A C) : C.ownsRow B0 e z v n xs :=
  ownz_keep h fun g _ _ hk => he.block g (kind_lt hk)

/-- A store into one cell of a block. -/
theorem set_at {W : World} {k j : Nat} {c : Array Value} {t : TypeId} {f : Nat × Nat} {u : Value} (h : W.heap[k]? = some (.cells c t f)) : (W.setCell ⟨k, j, none⟩ u).heap[k]? = some (.cells (c.setIfInBounds j u) t f) := by
  simp [World.setCell, Array.getElem?_modify, h]

/-- An append of one element of z cells to an owned row, as one step of a region. -/
theorem stepIn_push {fn : Nat} {P : Program} {w : World} {ops : Array Oper} {o : Oper} {a : Act} {K : Act → World → Prop} {Q : Exit → Act → World → Prop} {E : Prop} (base : Nat) (hgd : o.guard = none) (s x : Operand) (t e : TypeId)
    (ho : o.op = .call { callee := .builtin .append, args := #[s, x], argTypes := #[t, t] }) (ht : P.underlying t = some (.slice e))
    {z : Value} {sz bytes : Nat} (hinfo : (P.info? e).map (fun i => (i.zero, i.size, i.bytes)) = some (some z, sz, bytes)) (hz : z.cells.size = sz) (h0 : 0 < sz) (hb : bytes ≤ 1000)
    {v : Value} {n : Nat} {xs us : List Value} (hown : w.ownsRow base e sz v n xs) (hul : us.length = sz) (hu : ∀ u ∈ us, u.oneCell' = true) (hn : n + 1 ≤ 100000000) (hbase : base ≤ w.heap.size)
    (hs : a.eval s = v) (hx : a.eval x = .slice (some ⟨w.heap.size, 0, none⟩) 1 1)
    (h : ∀ v' w', (∃ g cap, v' = .slice (some ⟨g, 0, none⟩) (n + 1) cap) → w'.ownsRow base e sz v' (n + 1) (xs ++ us) → w.grownBy w' v.ownBlock → K (a.put o.dst v') w') :
    if Region.wanted o (yielded ops a.tmps) = true then Oper.wpIn Fence.wide fn P o a (w.alloc (.cells us.toArray e)) K Q else E := by
  have hw : Region.wanted o (yielded ops a.tmps) = true := by simp [Region.wanted, hgd]
  rw [if_pos hw]
  obtain ⟨i0, hi, hz0, hz1, hz2⟩ := info_parts hinfo
  obtain ⟨v', w', hrun, h1, h2, _⟩ := run_append_own (P := P) (w.alloc (.cells us.toArray e)) base t o.type e i0 z sz bytes ht hi hz0 hz1 hz2 hz h0 v n xs (hown.alloc _) ⟨w.heap.size, 0, none⟩ 1 1 us (by omega)
    (fun j y hj => by
      show (w.alloc (.cells us.toArray e)).cell? ((⟨w.heap.size, 0, none⟩ : Addr).add j) = some y
      have : ((⟨w.heap.size, 0, none⟩ : Addr).add j) = ⟨w.heap.size, j, none⟩ := by have := adr_some w.heap.size 0 j; rw [Nat.zero_add] at this; exact this
      rw [this]
      simp only [World.cell?]
      rw [show (w.alloc (.cells us.toArray e)).heap[w.heap.size]? = some (.cells us.toArray e) from heap_alloc_new w _]
      simpa using hj)
    hu (by unfold maxLen; omega)
    (by have : (n + 1) * bytes ≤ 100000000 * 1000 := Nat.mul_le_mul hn hb
        omega) (by simp; omega)
  unfold Oper.wpIn
  refine ⟨fun _ _ => trivial, ?_⟩
  rw [Oper.semAt_eq _ _ _ (by rw [ho]; intro c; simp)]
  simp [execOp, ho, resolve, invoke, builtin, hs, hx, hrun, Result.andThen]
  refine h v' w' ?_ h1 (grownBy_from h2)
  rcases h1.2 with ⟨_, h0⟩ | ⟨g, cap, cur, hv, _⟩
  · omega
  · exact ⟨g, cap, hv⟩
end Go.Proofs.YtjbobblnicnhnaaDoor
