/-
  Rows of structs that read as lists; appends of them; one element of more cells as one step of a region outside every round.
-/
import Derived.Laws.AppendOwnNone
import Derived.Test.YtjbobblnicnhnaaDoorRows
import Derived.Test.YtjbobblnicnhnaaDoorTwo
namespace Go.Proofs.YtjbobblnicnhnaaDoor
open Go.RowKit
set_option linter.unusedVariables false
set_option linter.unusedSimpArgs false

/-! ### Rows of structs -/
section
variable {α : Type}
/-- A slice whose elements have z cells each: they read as a list. -/
def RowC (z : Nat) (f : α → List Value) (W : World) (v : Value) (xs : List α) : Prop :=
  ∃ ao cap, v = .slice ao xs.length cap ∧ ((ao = none ∧ cap = 0) ∨ ∃ a, ao = some a) ∧ xs.length ≤ cap ∧ cap ≤ maxLen ∧
    (xs ≠ [] → ∃ g o, ao = some ⟨g, o, none⟩ ∧ ∀ (j : Nat) x, xs[j]? = some x → ∀ (i : Nat) u, (f x)[i]? = some u → W.cell? ⟨g, o + (z * j + i), none⟩ = some u)
theorem flat_get (z : Nat) (f : α → List Value) (hf : ∀ x, (f x).length = z) : ∀ (xs : List α) (j : Nat) (x : α), xs[j]? = some x → ∀ (i : Nat) u, (f x)[i]? = some u → (xs.flatMap f)[z * j + i]? = some u
  | [], j, x, h, _, _, _ => by simp at h
  | y :: xs, 0, x, h, i, u, hu => by
    simp at h; subst h
    have : i < (f y).length := (List.getElem?_eq_some_iff.1 hu).1
    rw [List.flatMap_cons, Nat.mul_zero, Nat.zero_add, List.getElem?_append_left this]; exact hu
  | y :: xs, j + 1, x, h, i, u, hu => by
    have ih := flat_get z f hf xs j x (by simpa using h) i u hu
    rw [List.flatMap_cons, List.getElem?_append_right (by rw [hf, Nat.mul_succ]; omega), hf]
    rw [show z * (j + 1) + i - z = z * j + i by rw [Nat.mul_succ]; omega]
    exact ih
theorem rowC_of_own {z : Nat} {f : α → List Value} (hf : ∀ x, (f x).length = z) {W : World} {B e : Nat} {v : Value} {xs : List α} (h : W.ownsRow B e z v xs.length (xs.flatMap f)) : RowC z f W v xs := by
  rcases h.2 with ⟨hn, h0⟩ | ⟨g, cap, cur, hv, hbg, hg, hn, hm, _, ht⟩
  · exact ⟨none, 0, by rw [hn, h0], .inl ⟨rfl, rfl⟩, by omega, by simp [maxLen], fun h => absurd (List.eq_nil_of_length_eq_zero h0) h⟩
  · refine ⟨_, cap, hv, .inr ⟨_, rfl⟩, hn, hm, fun _ => ⟨g, 0, rfl, fun j x hj i u hu => ?_⟩⟩
    have a := flat_get z f hf xs j x hj i u hu
    rw [← ht, List.getElem?_take] at a
    split at a
    · rw [Nat.zero_add, cell_of_row W g _ cur e (0, 0) hg, ← Array.getElem?_toList]; exact a
    · cases a
theorem RowC.ext {z : Nat} {f : α → List Value} {W C : World} {v : Value} {xs : List α} (h : RowC z f W v xs) (he : Ext W C) : RowC z f C v xs := by
  obtain ⟨ao, cap, hv, h0, h1, h2, h3⟩ := h
  refine ⟨ao, cap, hv, h0, h1, h2, fun hne => ?_⟩
  obtain ⟨g, o, ha, hc⟩ := h3 hne
  exact ⟨g, o, ha, fun j x hj i u hu => ext_cell he (hc j x hj i u hu)⟩
/-- Where its cells lie. -/
def rblk (v : Value) (n k : Nat) : Prop := 0 < n ∧ v.ownBlock = some k
theorem RowC.keep {z : Nat} {f : α → List Value} {W C : World} {v : Value} {xs : List α} (h : RowC z f W v xs) (he : ∀ k, rblk v xs.length k → C.heap[k]? = W.heap[k]?) : RowC z f C v xs := by
  obtain ⟨ao, cap, hv, h0, h1, h2, h3⟩ := h
  refine ⟨ao, cap, hv, h0, h1, h2, fun hne => ?_⟩
  obtain ⟨g, o, ha, hc⟩ := h3 hne
  refine ⟨g, o, ha, fun j x hj i u hu => ?_⟩
  refine (World.cell?_of_block (w := W) (w' := C) ?_).trans (hc j x hj i u hu)
  exact he g ⟨List.length_pos_iff.2 hne, by rw [hv, ha]; rfl⟩
theorem rowC_lt {z : Nat} {f : α → List Value} {W : World} {v : Value} {xs : List α} (h : RowC z f W v xs) (hf : ∀ x, f x ≠ []) {k : Nat} (hk : rblk v xs.length k) : k < W.heap.size := by
  obtain ⟨ao, cap, hv, h0, h1, h2, h3⟩ := h
  have hne : xs ≠ [] := List.length_pos_iff.1 hk.1
  obtain ⟨g, o, ha, hc⟩ := h3 hne
  have hkg : k = g := by have := hk.2; rw [hv, ha] at this; simp [Value.ownBlock] at this; exact this.symm
  subst hkg
  match xs, hne with
  | x :: xs, _ =>
    match hx : f x, hf x with
    | u :: us, _ => exact World.block_lt_of_cell? W _ (hc 0 x rfl 0 u (by rw [hx]; rfl))
end
section
variable {α : Type}
theorem flat_len (z : Nat) (f : α → List Value) (hf : ∀ x, (f x).length = z) : ∀ xs : List α, (xs.flatMap f).length = xs.length * z
  | [] => by simp
  | x :: xs => by rw [List.flatMap_cons, List.length_append, hf, flat_len z f hf xs, List.length_cons, Nat.succ_mul]; omega
theorem flat_at (z : Nat) (f : α → List Value) (hf : ∀ x, (f x).length = z) (hz : 0 < z) (xs : List α) (k : Nat) (u : Value) (h : (xs.flatMap f)[k]? = some u) : ∃ x, xs[k / z]? = some x ∧ (f x)[k % z]? = some u := by
  have hk : k < xs.length * z := by rw [← flat_len z f hf]; exact (List.getElem?_eq_some_iff.1 h).1
  have hq : k / z < xs.length := (Nat.div_lt_iff_lt_mul hz).2 hk
  refine ⟨xs[k / z], List.getElem?_eq_getElem hq, ?_⟩
  have hm : k % z < (f xs[k / z]).length := by rw [hf]; exact Nat.mod_lt _ hz
  have a := flat_get z f hf xs (k / z) _ (List.getElem?_eq_getElem hq) (k % z) _ (List.getElem?_eq_getElem hm)
  rw [Nat.div_add_mod, h] at a
  rw [List.getElem?_eq_getElem hm]; exact a.symm
/-- 'append(s, x...)', s the call's own; elements of z cells. -/
theorem wpList_moreC {P : Program} {w : World} {ops : Array Oper} {rest : List Oper} {o : Oper} {a : Act} {Q : Exit → Act → World → Prop} (base : Nat) (hgd : o.guard = none) (s x : Operand) (t e : TypeId)
    (ho : o.op = .call { callee := .builtin .append, args := #[s, x], argTypes := #[t, t] }) (ht : P.underlying t = some (.slice e))
    {z : Value} {sz bytes : Nat} (hinfo : (P.info? e).map (fun i => (i.zero, i.size, i.bytes)) = some (some z, sz, bytes)) (hz : z.cells.size = sz) (h0 : 0 < sz) (hb : bytes ≤ 1000)
    {v : Value} {n : Nat} {xs : List Value} (hown : w.ownsRow base e sz v n xs) {u : Value} {f : α → List Value} {ys : List α} (hf : ∀ x, (f x).length = sz) (hsl : RowC sz f w u ys) (h1c : ∀ y, ∀ c ∈ f y, c.oneCell' = true) (hn : n + ys.length ≤ 100000000) (hbase : base ≤ w.heap.size)
    (hs : a.eval s = v) (hx : a.eval x = u)
    (h : ∀ v' w', w'.ownsRow base e sz v' (n + ys.length) (xs ++ ys.flatMap f) → w.grownBy w' v.ownBlock → wpList P ops Q rest (a.put o.dst v') w') :
    wpList P ops Q (o :: rest) a w := by
  obtain ⟨i0, hi, hz0, hz1, hz2⟩ := info_parts hinfo
  obtain ⟨ao, cap, rfl, h3, h1, h2, hc⟩ := hsl
  have hby : (n + ys.length) * bytes ≤ 140737488355328 := by
    have : (n + ys.length) * bytes ≤ 100000000 * 1000 := Nat.mul_le_mul hn hb
    omega
  by_cases hne : ys = []
  · subst hne
    rcases h3 with ⟨rfl, rfl⟩ | ⟨ad, rfl⟩
    · refine wpList_append_own_none hgd s x t ho base e i0 sz ht hi v n xs hs hown hx ?_
      refine h v w (by simpa using hown) ⟨rfl, rfl, rfl, Nat.le_refl _, fun _ _ _ => rfl⟩
    · refine wpList_append_own _ hgd s x t ho base e i0 z sz bytes ht hi hz0 hz1 hz2 hz h0 v n xs hs hown ad 0 cap [] hx (by simp) (fun j y hj => by simp at hj) (fun y hy => by simp at hy) (by unfold maxLen; omega) hby hbase ?_
      intro v' w' q1 q2 _
      exact h v' w' q1 q2
  · obtain ⟨g, o', rfl, hcell⟩ := hc hne
    refine wpList_append_own _ hgd s x t ho base e i0 z sz bytes ht hi hz0 hz1 hz2 hz h0 v n xs hs hown ⟨g, o', none⟩ ys.length cap (ys.flatMap f) hx (flat_len sz f hf ys) (fun j y hj => ?_) (fun y hy => by obtain ⟨q, _, hq⟩ := List.mem_flatMap.1 hy; exact h1c q y hq) (by unfold maxLen; omega) hby hbase ?_
    · obtain ⟨q, hq1, hq2⟩ := flat_at sz f hf h0 ys j y hj
      have := hcell _ q hq1 _ y hq2
      rw [Nat.div_add_mod] at this
      rw [show (⟨g, o', none⟩ : Addr).add j = ⟨g, o' + j, none⟩ from adr_some g o' j]; exact this
    · intro v' w' q1 q2 _
      exact h v' w' q1 q2
end
/-- An append of one element of z cells (its cells lie in block g) to an owned row, as one step of a region outside every round. -/
theorem step_pushC {P : Program} {w : World} {ops : Array Oper} {o : Oper} {a : Act} {K : Act → World → Prop} {Q : Exit → Act → World → Prop} {E : Prop} {T : Array Value} (base : Nat) (hgd : o.guard = none) (s x : Operand) (t e : TypeId)
    (ho : o.op = .call { callee := .builtin .append, args := #[s, x], argTypes := #[t, t] }) (ht : P.underlying t = some (.slice e))
    {z : Value} {sz bytes : Nat} (hinfo : (P.info? e).map (fun i => (i.zero, i.size, i.bytes)) = some (some z, sz, bytes)) (hz : z.cells.size = sz) (h0 : 0 < sz) (hb : bytes ≤ 1000)
    {v : Value} {n : Nat} {xs us : List Value} (hown : w.ownsRow base e sz v n xs) (hul : us.length = sz) (hu : ∀ u ∈ us, u.oneCell' = true) (hn : n + 1 ≤ 100000000) (hbase : base ≤ w.heap.size)
    {g c : Nat} (hs : a.eval s = v) (hx : a.eval x = .slice (some ⟨g, 0, none⟩) 1 c) {e' : TypeId} {f' : Nat × Nat} (hg : w.heap[g]? = some (.cells us.toArray e' f'))
    (h : ∀ v' w', w'.ownsRow base e sz v' (n + 1) (xs ++ us) → w.grownBy w' v.ownBlock → K (a.put o.dst v') w') :
    if Region.wanted o (yielded ops T) = true then Oper.wp P o a w K Q else E := by
  have hw : Region.wanted o (yielded ops T) = true := by simp [Region.wanted, hgd]
  rw [if_pos hw]
  obtain ⟨i0, hi, hz0, hz1, hz2⟩ := info_parts hinfo
  refine wp_append_own w s x t ho base e i0 z sz bytes ht hi hz0 hz1 hz2 hz h0 v n xs hs hown ⟨g, 0, none⟩ 1 c us hx (by omega) (fun j y hj => ?_) hu (by unfold maxLen; omega) ?_ hbase (fun v' w' h2 h3 _ => h v' w' h2 h3)
  · have : ((⟨g, 0, none⟩ : Addr).add j) = ⟨g, j, none⟩ := by have := adr_some g 0 j; rw [Nat.zero_add] at this; exact this
    rw [this]
    simp only [World.cell?, hg]
    simpa using hj
  · have : (n + 1) * bytes ≤ 100000000 * 1000 := Nat.mul_le_mul hn hb
    omega
theorem keep_row {w w' : World} {B e z : Nat} {v : Value} {n : Nat} {xs : List Value} (h : w.ownsRow B e z v n xs) (hgr : w.grownBy w' v.ownBlock) {k : Nat} {c : Array Value} {e' : TypeId} {f' : Nat × Nat} (hk : w.heap[k]? = some (.cells c e' f')) (hne : e' ≠ e) : w'.heap[k]? = some (.cells c e' f') := by
  refine (hgr.block k (Array.getElem?_eq_some_iff.1 hk).1 (fun h1 => ?_)).trans hk
  rcases h.2 with ⟨rfl, _⟩ | ⟨g, cap, cur, rfl, _, hg, _⟩
  · simp [Value.ownBlock] at h1
  · simp [Value.ownBlock] at h1
    subst h1
    rw [hk] at hg
    injection hg with hg
    injection hg with _ h2 _
    exact hne h2
theorem own_keep_row {w w' : World} {B e z : Nat} {v : Value} {n : Nat} {xs : List Value} (h : w.ownsRow B e z v n xs) (hgr : w.grownBy w' v.ownBlock) {B2 e2 z2 : Nat} {v2 : Value} {n2 : Nat} {xs2 : List Value} (h2 : w.ownsRow B2 e2 z2 v2 n2 xs2) (hne : e2 ≠ e) : w'.ownsRow B2 e2 z2 v2 n2 xs2 := by
  refine ⟨h2.1, ?_⟩
  rcases h2.2 with hn | ⟨g, cap, cur, hv, hb, hg, r⟩
  · exact .inl hn
  · exact .inr ⟨g, cap, cur, hv, hb, keep_row h hgr hg hne, r⟩
theorem ext_pushz {w0 w w' : World} {e z : TypeId} {v : Value} {n : Nat} {xs : List Value} (h : Ext w0 w) (hown : w.ownsRow w0.heap.size e z v n xs) (hg : w.grownBy w' v.ownBlock) : Ext w0 w' :=
  h.grown hg h.size (fun k hk => (hown.lt k hk).1)
end Go.Proofs.YtjbobblnicnhnaaDoor
