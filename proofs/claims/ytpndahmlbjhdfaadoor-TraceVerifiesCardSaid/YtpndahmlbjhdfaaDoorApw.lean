/-
  Where an append's row lies: where it lay, or in a new block (step_pushW).
-/
import Derived.Test.YtpndahmlbjhdfaaDoorRows
import Derived.Test.YtpndahmlbjhdfaaDoorKit
namespace Go.Proofs.YtpndahmlbjhdfaaDoor
open Go.RowKit
set_option linter.unusedVariables false
set_option linter.unusedSimpArgs false
section
variable {P : Program}
theorem append_where {w w' : World} (base : Nat) (t ty e : TypeId) (i : TypeInfo) (z : Value) (size bytes : Nat) (ht : P.underlying t = some (.slice e)) (hi : P.info? e = some i) (hz : i.zero = some z)
    (hsize : i.size = size) (hby : i.bytes = bytes) (hzs : z.cells.size = size) (hsz : 0 < size)
    (v v' : Value) (n : Nat) (xs : List Value) (hown : w.ownsRow base e size v n xs)
    (a : Addr) (m c : Nat) (news : List Value) (hl : news.length = m * size) (hnews : ∀ j u, news[j]? = some u → w.cell? (a.add j) = some u) (h1 : ∀ u ∈ news, u.oneCell' = true) (hm : 0 < m)
    (h63 : n + m ≤ maxLen) (hbytes : (n + m) * bytes ≤ 140737488355328) (hr : (Builtin.append_ #[t, t] ty #[v, .slice (some a) m c]).run P w = .ok v' w') :
    ∀ k, v'.ownBlock = some k → v.ownBlock = some k ∨ w.heap.size ≤ k := by
  subst hsize
  subst hby
  have hsmall : n + m ≤ 9223372036854775807 := by simp only [maxLen] at h63; omega
  rcases hown.2 with ⟨rfl, rfl⟩ | ⟨g, cap, cur, rfl, hbg, hg, hnc, hcm, hcs, htake⟩
  · have hx : xs = [] := List.eq_nil_of_length_eq_zero (by simpa using hown.1)
    subst hx
    have hr2 := run_append_nil (P := P) w t ty e i z ht hi hz a m c news hl hnews (by omega) (by omega) (by have hb := hbytes; simp only [Nat.zero_add] at hb; omega)
    rw [hr2] at hr
    cases hr
    intro k hk
    simp [Value.ownBlock] at hk
    exact .inr (by omega)
  · by_cases hroom : n + m ≤ cap
    · have hfit : n * i.size + news.length ≤ cur.size := by rw [hl, hcs, ← Nat.add_mul]; exact Nat.mul_le_mul_right _ hroom
      have hr2 := run_append_room (P := P) w t ty e i ht hi g n cap cur hg a m c news hl hnews h1 hroom hfit
      rw [hr2] at hr
      cases hr
      intro k hk
      exact .inl (by simpa [Value.ownBlock] using hk)
    · have holds : ∀ j u, xs[j]? = some u → w.cell? ((⟨g, 0, none⟩ : Addr).add j) = some u := hown.cells (g := g) rfl
      have hr2 := run_append_grow (P := P) w t ty e i z ht hi hz ⟨g, 0, none⟩ n cap xs hown.1 holds a m c news hl hnews (by omega) (by omega) (growslice_fits (by omega) hbytes)
      rw [hr2] at hr
      cases hr
      intro k hk
      simp [Value.ownBlock] at hk
      exact .inr (by omega)
/-- An append of one element of z cells, as one step; and where the row lies. -/
theorem step_pushW {w : World} {ops : Array Oper} {o : Oper} {a : Act} {K : Act → World → Prop} {Q : Exit → Act → World → Prop} {E : Prop} {T : Array Value} (base : Nat) (hgd : o.guard = none) (s x : Operand) (t e : TypeId)
    (ho : o.op = .call { callee := .builtin .append, args := #[s, x], argTypes := #[t, t] }) (ht : P.underlying t = some (.slice e))
    {z : Value} {sz bytes : Nat} (hinfo : (P.info? e).map (fun i => (i.zero, i.size, i.bytes)) = some (some z, sz, bytes)) (hz : z.cells.size = sz) (h0 : 0 < sz) (hb : bytes ≤ 1000)
    {v : Value} {n : Nat} {xs us : List Value} (hown : w.ownsRow base e sz v n xs) (hul : us.length = sz) (hu : ∀ u ∈ us, u.oneCell' = true) (hn : n + 1 ≤ 100000000) (hbase : base ≤ w.heap.size)
    {g c : Nat} (hs : a.eval s = v) (hx : a.eval x = .slice (some ⟨g, 0, none⟩) 1 c) {e' : TypeId} {f' : Nat × Nat} (hg : w.heap[g]? = some (.cells us.toArray e' f'))
    (h : ∀ v' w', w'.ownsRow base e sz v' (n + 1) (xs ++ us) → w.grownBy w' v.ownBlock → (∀ k, v'.ownBlock = some k → v.ownBlock = some k ∨ w.heap.size ≤ k) → K (a.put o.dst v') w') :
    if Region.wanted o (yielded ops T) = true then Oper.wp P o a w K Q else E := by
  have hw : Region.wanted o (yielded ops T) = true := by simp [Region.wanted, hgd]
  rw [if_pos hw]
  obtain ⟨i, hi, hz0, hz1, hz2⟩ := info_parts hinfo
  have hnews : ∀ j u, us[j]? = some u → w.cell? ((⟨g, 0, none⟩ : Addr).add j) = some u := fun j y hj => by
    have : ((⟨g, 0, none⟩ : Addr).add j) = ⟨g, j, none⟩ := by have := adr_some g 0 j; rw [Nat.zero_add] at this; exact this
    rw [this]
    simp only [World.cell?, hg]
    simpa using hj
  have h63 : n + 1 ≤ maxLen := by unfold maxLen; omega
  have hby : (n + 1) * bytes ≤ 140737488355328 := by
    have : (n + 1) * bytes ≤ 100000000 * 1000 := Nat.mul_le_mul hn hb
    omega
  obtain ⟨v', w', hr, h2, h3, _⟩ := run_append_own (P := P) w base t o.type e i z sz bytes ht hi hz0 hz1 hz2 hz h0 v n xs hown ⟨g, 0, none⟩ 1 c us (by omega) hnews hu h63 hby hbase
  have h4 := append_where (P := P) base t o.type e i z sz bytes ht hi hz0 hz1 hz2 hz h0 v v' n xs hown ⟨g, 0, none⟩ 1 c us (by omega) hnews hu (by omega) h63 hby hr
  unfold Oper.wp execOp
  simp only [ho, resolve, invoke, builtin, Sem.run_bind, Sem.run_pure, Result.andThen_ok, List.map_toArray, List.map_cons, List.map_nil, hs, hx, hr]
  exact h v' w' h2 h3 h4
end
end Go.Proofs.YtpndahmlbjhdfaaDoor
