/-
  An append of a row of structs to an owned row, as one step of a region outside every round.
-/
import Derived.Laws.OwnMore
import Derived.Test.YtpndahmlbjhdfaaDoorRows
import Derived.Test.YtpndahmlbjhdfaaDoorKit
namespace Go.Proofs.YtpndahmlbjhdfaaDoor
open Go.RowKit
set_option linter.unusedVariables false
set_option linter.unusedSimpArgs false
theorem step_moreC {α : Type} {P : Program} {w : World} {ops : Array Oper} {o : Oper} {a : Act} {K : Act → World → Prop} {Q : Exit → Act → World → Prop} {E : Prop} {T : Array Value} (base : Nat) (hgd : o.guard = none) (s x : Operand) (t e : TypeId)
    (ho : o.op = .call { callee := .builtin .append, args := #[s, x], argTypes := #[t, t] }) (ht : P.underlying t = some (.slice e))
    {z : Value} {sz bytes : Nat} (hinfo : (P.info? e).map (fun i => (i.zero, i.size, i.bytes)) = some (some z, sz, bytes)) (hz : z.cells.size = sz) (h0 : 0 < sz) (hb : bytes ≤ 1000)
    {v : Value} {n : Nat} {xs : List Value} (hown : w.ownsRow base e sz v n xs) {u : Value} {f : α → List Value} {ys : List α} (hf : ∀ x, (f x).length = sz) (hsl : RowC sz f w u ys) (h1c : ∀ y, ∀ c ∈ f y, c.oneCell' = true) (hn : n + ys.length ≤ 100000000) (hbase : base ≤ w.heap.size)
    (hs : a.eval s = v) (hx : a.eval x = u)
    (h : ∀ v' w', w'.ownsRow base e sz v' (n + ys.length) (xs ++ ys.flatMap f) → w.grownBy w' v.ownBlock → K (a.put o.dst v') w') :
    if Region.wanted o (yielded ops T) = true then Oper.wp P o a w K Q else E := by
  have hw : Region.wanted o (yielded ops T) = true := by simp [Region.wanted, hgd]
  rw [if_pos hw]
  obtain ⟨i0, hi, hz0, hz1, hz2⟩ := info_parts hinfo
  obtain ⟨ao, cap, rfl, h3, h1, h2, hc⟩ := hsl
  have hby : (n + ys.length) * bytes ≤ 140737488355328 := by
    have : (n + ys.length) * bytes ≤ 100000000 * 1000 := Nat.mul_le_mul hn hb
    omega
  by_cases hne : ys = []
  · subst hne
    rcases h3 with ⟨rfl, rfl⟩ | ⟨ad, rfl⟩
    · have h5 := h v w (by simpa using hown) ⟨rfl, rfl, rfl, Nat.le_refl _, fun _ _ _ => rfl⟩
      have hrun := run_append_owned_none (P := P) (w := w) base t o.type e i0 sz ht hi v n xs hown
      unfold Oper.wp execOp
      simp only [ho, resolve, invoke, builtin, Sem.run_bind, Sem.run_pure, Result.andThen_ok, List.map_toArray, List.map_cons, List.map_nil, hs, hx, List.length_nil, hrun]
      exact h5
    · refine wp_append_own w s x t ho base e i0 z sz bytes ht hi hz0 hz1 hz2 hz h0 v n xs hs hown ad 0 cap [] hx (by simp) (fun j y hj => by simp at hj) (fun y hy => by simp at hy) (by unfold maxLen; omega) hby hbase ?_
      intro v' w' q1 q2 _
      exact h v' w' q1 q2
  · obtain ⟨g, o', rfl, hcell⟩ := hc hne
    refine wp_append_own w s x t ho base e i0 z sz bytes ht hi hz0 hz1 hz2 hz h0 v n xs hs hown ⟨g, o', none⟩ ys.length cap (ys.flatMap f) hx (flat_len sz f hf ys) (fun j y hj => ?_) (fun y hy => by obtain ⟨q, _, hq⟩ := List.mem_flatMap.1 hy; exact h1c q y hq) (by unfold maxLen; omega) hby hbase ?_
    · obtain ⟨q, hq1, hq2⟩ := flat_at sz f hf h0 ys j y hj
      have := hcell _ q hq1 _ y hq2
      rw [Nat.div_add_mod] at this
      rw [show (⟨g, o', none⟩ : Addr).add j = ⟨g, o' + j, none⟩ from adr_some g o' j]; exact this
    · intro v' w' q1 q2 _
      exact h v' w' q1 q2
end Go.Proofs.YtpndahmlbjhdfaaDoor
