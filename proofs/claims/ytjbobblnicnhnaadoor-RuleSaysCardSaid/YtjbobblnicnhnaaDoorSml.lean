/-
  Small functions: r1.Cut, Copy, Same, CutText; append of a slice to an owned row.
-/
import Derived.Laws.AppendOwnNone
import Derived.Test.YtjbobblnicnhnaaDoorRows
import Derived.Test.YtjbobblnicnhnaaDoorAll
namespace Go.Proofs.YtjbobblnicnhnaaDoor
open Go.RowKit
set_option linter.unusedVariables false
set_option linter.unusedSimpArgs false

/-- v[:k] -/
def headm : Value → Nat → Value
  | .slice a _ cap, k => .slice (if cap = 0 then a else a.map (·.add 0)) k cap
  | v, _ => v
theorem Sl.headm {w : World} {v : Value} {l : List Value} (h : Sl w v l) {k : Nat} (hk : k ≤ l.length) : Sl w (headm v k) (l.take k) := by
  obtain ⟨ao, cap, rfl, h1, h2, h3, hc⟩ := h
  have hlen : (l.take k).length = k := by simp; omega
  refine ⟨_, cap, by rw [YtjbobblnicnhnaaDoor.headm, hlen], by omega, h2, fun h => ?_, fun j u hu => ?_⟩
  · split at h
    · assumption
    · cases ao with
      | none => exact h3 rfl
      | some a => simp at h
  · have hj : j < k := by have := (List.getElem?_eq_some_iff.1 hu).1; omega
    have hu' : l[j]? = some u := by rw [List.getElem?_take_of_lt hj] at hu; exact hu
    rw [if_neg (by omega)]
    have hne : ao ≠ none := fun e => by have := h3 e; omega
    rw [adr_map _ hne, Nat.zero_add]
    exact hc _ _ hu'
theorem run_headm {P : Program} {t e : TypeId} (ht : P.underlying t = some (.slice e)) (hz : ∀ w, (Go.sizeOf e).run P w = .ok 1 w) {ao : Option Addr} {n cap : Nat} (hcap : n ≤ cap) :
    ∀ (W : World) (k : Nat), k ≤ n → (Instr.slice t (.slice ao n cap) none (some (.int .i64 (k : Int))) none).run P W = .ok (headm (.slice ao n cap) k) W := by
  intro W k hk
  have h1 := run_sliceBound (P := P) (w := W) .i64 (k : Int) cap .sliceAcap (by omega) (by omega)
  simp [Instr.slice, Instr.sliceBounds, run_underlying ht, h1, hz, Result.andThen, headm]
theorem headm_shape (ao : Option Addr) (n cap k : Nat) : headm (.slice ao n cap) k = .slice (if cap = 0 then ao else ao.map (·.add 0)) k cap := rfl

theorem adr_some' (a : Addr) (j : Nat) : adr (some a) j = a.add j := rfl
/-- 'append(s, x...)', s the call's own. -/
theorem wpList_more {P : Program} {w : World} {ops : Array Oper} {rest : List Oper} {o : Oper} {a : Act} {Q : Exit → Act → World → Prop} (base : Nat) (hgd : o.guard = none) (s x : Operand) (t e : TypeId)
    (ho : o.op = .call { callee := .builtin .append, args := #[s, x], argTypes := #[t, t] }) (ht : P.underlying t = some (.slice e))
    {z : Value} {bytes : Nat} (hinfo : (P.info? e).map (fun i => (i.zero, i.size, i.bytes)) = some (some z, 1, bytes)) (hz : z.cells.size = 1) (hb : bytes ≤ 1000)
    {v : Value} {n : Nat} {xs : List Value} (hown : w.ownsRow base e 1 v n xs) {u : Value} {ys : List Value} (hsl : Sl w u ys) (h1c : ∀ y ∈ ys, y.oneCell' = true) (hn : n + ys.length ≤ 100000000) (hbase : base ≤ w.heap.size)
    (hs : a.eval s = v) (hx : a.eval x = u)
    (h : ∀ v' w', w'.ownsRow base e 1 v' (n + ys.length) (xs ++ ys) → w.grownBy w' v.ownBlock → wpList P ops Q rest (a.put o.dst v') w') :
    wpList P ops Q (o :: rest) a w := by
  obtain ⟨i0, hi, hz0, hz1, hz2⟩ := info_parts hinfo
  obtain ⟨ao, cap, rfl, h1, h2, h3, hc⟩ := hsl
  cases ao with
  | none =>
    obtain rfl := h3 rfl
    have h0 : ys.length = 0 := by omega
    obtain rfl := List.eq_nil_of_length_eq_zero h0
    refine wpList_append_own_none hgd s x t ho base e i0 1 ht hi v n xs hs hown hx ?_
    refine h v w (by simpa using hown) ⟨rfl, rfl, rfl, Nat.le_refl _, fun _ _ _ => rfl⟩
  | some ad =>
    refine wpList_append_own _ hgd s x t ho base e i0 z 1 bytes ht hi hz0 hz1 hz2 hz (by decide) v n xs hs hown ad ys.length cap ys hx (by simp) (fun j y hj => hc j y hj) h1c (by unfold maxLen; omega) ?_ hbase ?_
    · have : (n + ys.length) * bytes ≤ 100000000 * 1000 := Nat.mul_le_mul hn hb
      omega
    · intro v' w' q1 q2 _
      exact h v' w' q1 q2
theorem byt_one (l : List UInt8) : ∀ y ∈ l.map Byt, y.oneCell' = true := by
  intro y hy
  obtain ⟨c, _, rfl⟩ := List.mem_map.1 hy
  rfl
/-- '[]byte{}' -/
theorem own_empty (w : World) (b e : Nat) (hb : b ≤ w.heap.size) : (w.alloc (.cells #[] e)).ownsRow b e 1 (.slice (some ⟨w.heap.size, 0, none⟩) 0 0) 0 [] :=
  ⟨rfl, .inr ⟨w.heap.size, 0, #[], rfl, hb, heap_alloc_new w _, by omega, by simp [maxLen], rfl, rfl⟩⟩

theorem cutText_any (l : List UInt8) (n : Nat) (w : World) (hn : n ≤ 100000) :
    Calls Tryd.prog 10 #[Str l, .int .i64 (n : Int)] w fun e w' => e = .returned (Str (l.take n)) ∧ w' = w := by
  have hmin := run_min_nat Tryd.prog l.length n n rfl
  have hle : min l.length n ≤ l.length := Nat.min_le_left _ _
  have hfin := Lib.hid (show l.take n = l.take (min l.length n) by rw [Nat.min_comm, List.take_eq_take_iff]; omega)
  generalize min l.length n = m at *
  go_enter Tryd.func10, Tryd.ntmps10
  go_wp2
  go_ret
  exact ⟨by rw [hfin.out]; rfl, rfl⟩
end Go.Proofs.YtjbobblnicnhnaaDoor
