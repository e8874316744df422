/-
  copy, clear, cuts and appends of rows of structs in one block, as equations; and such operations for the walk.
-/
import Derived.Laws.CopyRow
import Derived.Laws.CopyOwn
import Derived.Lib.AppendZerosOnto
import Derived.Lib.Overlaps
import Derived.Laws.Externs
import Derived.Test.YtpndahmlbjhdfaaDoorRows
import Derived.Test.YtpndahmlbjhdfaaDoorRcs
namespace Go.Proofs.YtpndahmlbjhdfaaDoor
open Go.RowKit
set_option linter.unusedVariables false
set_option linter.unusedSimpArgs false
section
variable {P : Program}
theorem run_copy_z (w : World) (dT sT ty elem : TypeId) (g o dLen dCap : Nat) (a : Addr) (sLen sCap : Nat) (cur : Array Value) (t : TypeId) (cs : List Value) (z m : Nat)
    (hu : P.underlying dT = some (.slice elem)) (hs : (P.info? elem).map (·.size) = some z)
    (hg : w.heap[g]? = some (.cells cur t (0, 0))) (hm : Nat.min sLen dLen = m) (hn : cs.length = m * z)
    (hsrc : ∀ j v, cs[j]? = some v → w.cell? (a.add j) = some v) (hfit : o + cs.length ≤ cur.size) (h1 : ∀ v ∈ cs, v.oneCell' = true) :
    (Builtin.copy_ #[dT, sT] ty #[.slice (some ⟨g, o, none⟩) dLen dCap, .slice (some a) sLen sCap]).run P w =
      .ok (goInt m) (w.setRow g (cur.toList.take o ++ cs ++ cur.toList.drop (o + cs.length)).toArray) := by
  have hf := run_firstCells_some (P := P) w z m a sLen sCap cs hn hsrc
  have hst := run_storeCells_at P g o t cs 0 cur w hg (by simpa using hfit) h1
  simp only [Nat.add_zero] at hst
  cases hq : P.info? elem with
  | none => simp [hq] at hs
  | some i =>
    have hi : i.size = z := by simpa [hq] using hs
    simp only [Nat.min_def] at hm
    simp [Builtin.copy_, run_underlying hu, Builtin.lenOf, sizeOf, typeInfo, hq, hi, Nat.min_def, hm, hf, hst]
theorem run_clear_z (w : World) (t ty elem : TypeId) (g o n c : Nat) (cur : Array Value) (t' : TypeId) (i : TypeInfo) (z : Value) (hu : P.underlying t = some (.slice elem)) (hi : P.info? elem = some i) (hz : i.zero = some z)
    (zs : List Value) (hzs : (Builtin.zeroCells z.cells n).toList = zs) (hn : 0 < n)
    (hg : w.heap[g]? = some (.cells cur t' (0, 0))) (hfit : o + zs.length ≤ cur.size) (h1 : ∀ v ∈ zs, v.oneCell' = true) :
    (Builtin.clear_ #[t] ty #[.slice (some ⟨g, o, none⟩) n c]).run P w = .ok (.tuple #[]) (w.setRow g (cur.toList.take o ++ zs ++ cur.toList.drop (o + zs.length)).toArray) := by
  have hst := run_storeCells_at P g o t' zs 0 cur w hg (by simpa using hfit) h1
  simp only [Nat.add_zero] at hst
  cases n with
  | zero => omega
  | succ n => simp [Builtin.clear_, run_underlying hu, zeroValue, typeInfo, hi, hz, hzs, hst]
theorem wpList_clear_run (w : World) {ops : Array Oper} {rest : List Oper} {o : Oper} {a : Act} {Q : Exit → Act → World → Prop} (hgd : o.guard = none) (s : Operand) (t : TypeId)
    (ho : o.op = .call { callee := .builtin .clear, args := #[s], argTypes := #[t] }) (v : Value) (hs : a.eval s = v) {v' : Value} {w' : World}
    (hr : (Builtin.clear_ #[t] o.type #[v]).run P w = .ok v' w') (h : wpList P ops Q rest (a.put o.dst v') w') : wpList P ops Q (o :: rest) a w :=
  wpList_plain hgd fun _ hK => by
    unfold Oper.wp execOp
    simp only [ho, resolve, invoke, builtin, Sem.run_bind, Sem.run_pure, Result.andThen_ok, List.map_toArray, List.map_cons, List.map_nil, hs, hr]
    exact hK _ _ h
theorem wpList_copy_run (w : World) {ops : Array Oper} {rest : List Oper} {o : Oper} {a : Act} {Q : Exit → Act → World → Prop} (hgd : o.guard = none) (d s : Operand) (t t' : TypeId)
    (ho : o.op = .call { callee := .builtin .copy, args := #[d, s], argTypes := #[t, t'] }) (v u : Value) (hd : a.eval d = v) (hs : a.eval s = u) {v' : Value} {w' : World}
    (hr : (Builtin.copy_ #[t, t'] o.type #[v, u]).run P w = .ok v' w') (h : wpList P ops Q rest (a.put o.dst v') w') : wpList P ops Q (o :: rest) a w :=
  wpList_plain hgd fun _ hK => by
    unfold Oper.wp execOp
    simp only [ho, resolve, invoke, builtin, Sem.run_bind, Sem.run_pure, Result.andThen_ok, List.map_toArray, List.map_cons, List.map_nil, hd, hs, hr]
    exact hK _ _ h
theorem step_copy_run {ops : Array Oper} {o : Oper} {a : Act} {w : World} {K : Act → World → Prop} {Q : Exit → Act → World → Prop} {E : Prop}
    (hg : o.guard = none) (d x : Operand) (dT sT : TypeId) (hop : o.op = Op.call { callee := Callee.builtin .copy, args := #[d, x], argTypes := #[dT, sT] })
    (v u : Value) (hd : a.eval d = v) (hx : a.eval x = u) {v' : Value} {w' : World} (hr : (Builtin.copy_ #[dT, sT] o.type #[v, u]).run P w = .ok v' w') (hK : K (a.put o.dst v') w') :
    if Region.wanted o (yielded ops a.tmps) = true then Oper.wp P o a w K Q else E := by
  have hw : Region.wanted o (yielded ops a.tmps) = true := by simp [Region.wanted, hg]
  rw [if_pos hw]
  unfold Oper.wp
  simp [execOp, hop, resolve, invoke, builtin, hd, hx, hr, Result.andThen]
  exact hK
theorem wpList_append_run (w : World) {ops : Array Oper} {rest : List Oper} {o : Oper} {a : Act} {Q : Exit → Act → World → Prop} (hgd : o.guard = none) (d s : Operand) (t t' : TypeId)
    (ho : o.op = .call { callee := .builtin .append, args := #[d, s], argTypes := #[t, t'] }) (v u : Value) (hd : a.eval d = v) (hs : a.eval s = u) {v' : Value} {w' : World}
    (hr : (Builtin.append_ #[t, t'] o.type #[v, u]).run P w = .ok v' w') (h : wpList P ops Q rest (a.put o.dst v') w') : wpList P ops Q (o :: rest) a w :=
  wpList_plain hgd fun _ hK => by
    unfold Oper.wp execOp
    simp only [ho, resolve, invoke, builtin, Sem.run_bind, Sem.run_pure, Result.andThen_ok, List.map_toArray, List.map_cons, List.map_nil, hd, hs, hr]
    exact hK _ _ h
theorem step_append_run {ops : Array Oper} {o : Oper} {a : Act} {w : World} {K : Act → World → Prop} {Q : Exit → Act → World → Prop} {E : Prop}
    (hg : o.guard = none) (d x : Operand) (dT sT : TypeId) (hop : o.op = Op.call { callee := Callee.builtin .append, args := #[d, x], argTypes := #[dT, sT] })
    (v u : Value) (hd : a.eval d = v) (hx : a.eval x = u) {v' : Value} {w' : World} (hr : (Builtin.append_ #[dT, sT] o.type #[v, u]).run P w = .ok v' w') (hK : K (a.put o.dst v') w') :
    if Region.wanted o (yielded ops a.tmps) = true then Oper.wp P o a w K Q else E := by
  have hw : Region.wanted o (yielded ops a.tmps) = true := by simp [Region.wanted, hg]
  rw [if_pos hw]
  unfold Oper.wp
  simp [execOp, hop, resolve, invoke, builtin, hd, hx, hr, Result.andThen]
  exact hK
variable {t e : TypeId} {z : Nat}
theorem add_z (g o k : Nat) : (⟨g, o, none⟩ : Addr).add k = ⟨g, o + k, none⟩ := by unfold Addr.add; split <;> simp_all
theorem cut_lo (ht : P.underlying t = some (.slice e)) (hz : ∀ w, (Go.sizeOf e).run P w = .ok z w) (g n cap lo : Nat) (h : lo ≤ n) (hn : n ≤ 9223372036854775807) :
    ∃ a : Addr, (lo < cap → a = ⟨g, lo * z, none⟩) ∧ ∀ W', (Instr.slice t (.slice (some ⟨g, 0, none⟩) n cap) (some (.int .i64 (lo : Int))) none none).run P W' = .ok (.slice (some a) (n - lo) (cap - lo)) W' := by
  have hrun : ∀ W', (Instr.slice t (.slice (some ⟨g, 0, none⟩) n cap) (some (.int .i64 (lo : Int))) none none).run P W' = .ok (.slice (if cap = lo then some ⟨g, 0, none⟩ else some (⟨g, lo * z, none⟩ : Addr)) (n - lo) (cap - lo)) W' := fun W' => by
    have hs := run_sliceBound (P := P) (w := W') .i64 (lo : Int) n .sliceB (by omega) (by omega)
    simp [Instr.slice, Instr.sliceBounds, run_underlying ht, hs, hz, Result.andThen, add_z]
  by_cases hc : cap = lo
  · exact ⟨⟨g, 0, none⟩, fun h => by omega, fun W' => by rw [hrun, if_pos hc]⟩
  · exact ⟨⟨g, lo * z, none⟩, fun _ => rfl, fun W' => by rw [hrun, if_neg hc]⟩
theorem cut_hi (ht : P.underlying t = some (.slice e)) (hz : ∀ w, (Go.sizeOf e).run P w = .ok z w) (g n cap hi : Nat) (h : hi ≤ cap) (hn : cap ≤ 9223372036854775807) :
    ∀ W', (Instr.slice t (.slice (some ⟨g, 0, none⟩) n cap) none (some (.int .i64 (hi : Int))) none).run P W' = .ok (.slice (some ⟨g, 0, none⟩) hi cap) W' := fun W' => by
  have hs := run_sliceBound (P := P) (w := W') .i64 (hi : Int) cap .sliceAcap (by omega) (by omega)
  simp [Instr.slice, Instr.sliceBounds, run_underlying ht, hs, hz, Result.andThen, add_z]
theorem cut_lohi (ht : P.underlying t = some (.slice e)) (hz : ∀ w, (Go.sizeOf e).run P w = .ok z w) (g n cap lo hi : Nat) (h : lo ≤ hi) (h2 : hi ≤ cap) (hlt : lo < cap) (hn : cap ≤ 9223372036854775807) :
    ∀ W', (Instr.slice t (.slice (some ⟨g, 0, none⟩) n cap) (some (.int .i64 (lo : Int))) (some (.int .i64 (hi : Int))) none).run P W' = .ok (.slice (some ⟨g, lo * z, none⟩) (hi - lo) (cap - lo)) W' := fun W' => by
  have hs := run_sliceBound (P := P) (w := W') .i64 (hi : Int) cap .sliceAcap (by omega) (by omega)
  have hs2 := run_sliceBound (P := P) (w := W') .i64 (lo : Int) hi .sliceB (by omega) (by omega)
  have hne : ¬ cap = lo := by omega
  simp [Instr.slice, Instr.sliceBounds, run_underlying ht, hs, hs2, hz, Result.andThen, add_z, hne]
theorem cut_three (ht : P.underlying t = some (.slice e)) (hz : ∀ w, (Go.sizeOf e).run P w = .ok z w) (g n cap lo hi mx : Nat) (h : lo ≤ hi) (h2 : hi ≤ mx) (h3 : mx ≤ cap) (hlt : lo < mx) (hn : cap ≤ 9223372036854775807) :
    ∀ W', (Instr.slice t (.slice (some ⟨g, 0, none⟩) n cap) (some (.int .i64 (lo : Int))) (some (.int .i64 (hi : Int))) (some (.int .i64 (mx : Int)))).run P W' = .ok (.slice (some ⟨g, lo * z, none⟩) (hi - lo) (mx - lo)) W' := fun W' => by
  have hs0 := run_sliceBound (P := P) (w := W') .i64 (mx : Int) cap .slice3Acap (by omega) (by omega)
  have hs := run_sliceBound (P := P) (w := W') .i64 (hi : Int) mx .slice3B (by omega) (by omega)
  have hs2 := run_sliceBound (P := P) (w := W') .i64 (lo : Int) hi .slice3C (by omega) (by omega)
  have hne : ¬ mx = lo := by omega
  simp [Instr.slice, Instr.sliceBounds, run_underlying ht, hs0, hs, hs2, hz, Result.andThen, add_z, hne]
end
end Go.Proofs.YtpndahmlbjhdfaaDoor
