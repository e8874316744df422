/-
  The texts that every chapter uses, in one: Base, Range, Trip, Bld, Bridge, Reg, Enc, All, Str, Sml, Rtwo, Unr, Two, Qex, Rwc, Rws, Inv, Rin, Pin, Tkc.
-/
import Derived.WalkKit
import Derived.WalkSpells
import Derived.WalkLawsBesides
import Derived.Lib.Hide
import Derived.Deep.QuietTactic
import Derived.BigQuiet
import Derived.RangeFuncNested
import Derived.RangeFuncBound
import Derived.RangeFuncCalls
import Derived.RangeFuncLeaves
import Derived.OwnWalkIn
import Derived.TacticsInMore
import Derived.LoopNIn
import Derived.LoopIn
import Derived.Test.YtjkbigecejogdaaDoorRows
import Derived.Lib.Builder
import Derived.Lib.AppendStr
import Derived.Lib.UnsafeStr
import Derived.Lib.Walk
import Derived.Laws.Externs
import Derived.Deep.Quiet
import Derived.StillTail
import Derived.StillTailTactics
import Derived.OrdersIn
import Derived.Deep.RegionLaw
import Derived.Shelf.Abstract
import Derived.Laws.BytesArg
import Derived.Laws.AppendOwnNone
import Derived.Deep.Slices
import Derived.Deep.Fields
import Derived.ChangeSame
import Derived.RegionTactic
namespace Go.Proofs.YtjkbigecejogdaaDoor
open Go.RowKit

/-! ### Texts -/
/-- A text as a value, its bytes a list. -/
@[reducible] def Str (l : List UInt8) : Value := .string ⟨l.toArray⟩
/-- A byte as a cell. -/
@[reducible] def Byt (c : UInt8) : Value := .int .u8 (c.toNat : Int)

theorem str_of (s : ByteArray) : ∃ l : List UInt8, s = ⟨l.toArray⟩ := ⟨s.data.toList, by cases s; simp⟩
theorem extract_list (l : List UInt8) (a b : Nat) : (⟨l.toArray⟩ : ByteArray).extract a b = ⟨((l.take b).drop a).toArray⟩ := by
  apply ByteArray.ext
  simp [ByteArray.extract, ByteArray.copySlice, List.drop_take]
theorem append_list (a b : List UInt8) : (⟨a.toArray⟩ ++ ⟨b.toArray⟩ : ByteArray) = ⟨(a ++ b).toArray⟩ := by
  apply ByteArray.ext; simp
theorem size_list (l : List UInt8) : (⟨l.toArray⟩ : ByteArray).size = l.length := by simp [ByteArray.size]
attribute [go_sem] extract_list append_list size_list
/-- The byte at a place; beyond the end: nought. Closed to the walk. -/
def bt (l : List UInt8) (i : Nat) : UInt8 := l.getD i 0
theorem bt_get (l : List UInt8) (i : Nat) (h : i < l.length) : bt l i = l[i] := by simp [bt, List.getD, h]
theorem bt_some (l : List UInt8) (i : Nat) (h : i < l.length) : l[i]? = some (bt l i) := by rw [bt_get l i h]; exact List.getElem?_eq_getElem h
theorem bt_out (l : List UInt8) (i : Nat) (h : l.length ≤ i) : bt l i = 0 := by simp [bt, List.getD, List.getElem?_eq_none h]
theorem get_list (l : List UInt8) (i : Nat) (h : i < (⟨l.toArray⟩ : ByteArray).size) : (⟨l.toArray⟩ : ByteArray)[i] = bt l i := by
  have h' : i < l.length := by simpa [size_list] using h
  rw [bt_get l i h']; rfl
theorem get?_list (l : List UInt8) (i : Nat) (h : i < l.length) : (⟨l.toArray⟩ : ByteArray)[i]? = some (bt l i) := by
  rw [getElem?_pos (c := (⟨l.toArray⟩ : ByteArray)) (i := i) (h := by simpa [size_list] using h), get_list]
attribute [go_sem] get_list get?_list
theorem cut_one (l : List UInt8) (i : Nat) (h : i < l.length) : (l.take (i + 1)).drop i = [bt l i] := by
  rw [List.drop_take, show i + 1 - i = 1 by omega]
  rw [List.drop_eq_getElem_cons h, List.take_succ_cons, List.take_zero, bt_get _ _ h]
theorem take_snoc (l : List UInt8) (k : Nat) (h : k < l.length) : l.take (k + 1) = l.take k ++ [bt l k] := by
  rw [List.take_succ_eq_append_getElem h, bt_get _ _ h]
theorem byt_map (l : List UInt8) (i : Nat) (h : i < l.length) : (l.map Byt)[i]? = some (Byt (bt l i)) := by
  rw [List.getElem?_map, bt_some l i h]; rfl

theorem run_index_str {P : Program} {t : TypeId} (ht : P.underlying t = some .string) (l : List UInt8) (i : Nat) (i' : Int) (hi' : i' = (i : Int)) (h : i < l.length) (W : World) :
    (Instr.index t (Str l) (.int .i64 i')).run P W = .ok (Byt (bt l i)) W := by
  subst hi'
  simp [Instr.index, asIntOf, run_underlying ht, get?_list l i h, Result.andThen]

/-! ### Frames -/
theorem _root_.Go.RowKit.Below.drewN {B : Nat} {a w : World} (h : Below B a w) (n : Nat) : Below B a (w.drewN n) := ⟨h.os, h.tape, h.output, h.size, h.block⟩
/-- What lay lies as it lay. -/
abbrev Ext (w w' : World) : Prop := Below w.heap.size w w'
theorem ext_refl (w : World) : Ext w w := Below.refl _ _
theorem ext_trans {a b c : World} (h : Ext a b) (k : Ext b c) : Ext a c := h.trans (k.mono h.size)
theorem ext_drewN {a w : World} (h : Ext a w) (n : Nat) : Ext a (w.drewN n) := Below.drewN h n
theorem ext_cell {w w' : World} (h : Ext w w') {a : Addr} {v : Value} (hc : w.cell? a = some v) : w'.cell? a = some v :=
  (h.cell (World.block_lt_of_cell? w a hc)).trans hc
/-- Cells and marks of old blocks, for the walk. -/
theorem ext_cells {w w' : World} (h : Ext w w') : (∀ b o, b < w.heap.size → w'.cell? ⟨b, o, none⟩ = w.cell? ⟨b, o, none⟩) ∧ (∀ b o, b < w.heap.size → w'.frozen? ⟨b, o, none⟩ = w.frozen? ⟨b, o, none⟩) :=
  ⟨fun b o hb => h.cell (p := ⟨b, o, none⟩) hb, fun b o hb => h.frozen (p := ⟨b, o, none⟩) hb⟩

/-! ### Slices that read as lists (elements of one cell) -/
def adr (ao : Option Addr) (k : Nat) : Addr := (ao.getD ⟨0, 0, none⟩).add k
def Sl (w : World) (v : Value) (l : List Value) : Prop :=
  ∃ ao cap, v = .slice ao l.length cap ∧ l.length ≤ cap ∧ cap ≤ maxLen ∧ (ao = none → cap = 0) ∧ ∀ j u, l[j]? = some u → w.cell? (adr ao j) = some u
abbrev SlB (w : World) (v : Value) (l : List UInt8) : Prop := Sl w v (l.map Byt)
theorem Sl.ext {w w' : World} {v : Value} {l : List Value} (h : Sl w v l) (he : Ext w w') : Sl w' v l := by
  obtain ⟨ao, cap, hv, h1, h2, h3, hc⟩ := h
  exact ⟨ao, cap, hv, h1, h2, h3, fun j u hu => ext_cell he (hc j u hu)⟩
theorem sl_nil (w : World) : Sl w (.slice none 0 0) [] := ⟨none, 0, rfl, Nat.le_refl _, by simp [maxLen], fun _ => rfl, fun j u hu => by simp at hu⟩
theorem adr_some (b o k : Nat) : adr (some ⟨b, o, none⟩) k = ⟨b, o + k, none⟩ := by
  unfold adr Addr.add; split <;> simp_all
theorem sl_of_own {w : World} {base e : Nat} {v : Value} {n : Nat} {xs : List Value} (h : w.ownsRow base e 1 v n xs) : Sl w v xs := by
  obtain ⟨hl, h⟩ := h
  rcases h with ⟨rfl, rfl⟩ | ⟨g, cap, cur, rfl, _, hg, hn, hm, hs, ht⟩
  · have : xs = [] := List.eq_nil_of_length_eq_zero (by simpa using hl)
    subst this; exact sl_nil w
  · have hl' : xs.length = n := by simpa using hl
    subst hl'
    refine ⟨_, cap, rfl, hn, hm, (fun h => by cases h), fun j u hu => ?_⟩
    rw [adr_some, Nat.zero_add, cell_of_row w g j cur e (0, 0) hg]
    rw [← ht, List.getElem?_take] at hu
    split at hu
    · simpa using hu
    · cases hu
section
variable {P : Program} {t e : TypeId}
theorem run_index_adr (ht : P.underlying t = some (.slice e)) (hz : ∀ w, (Go.sizeOf e).run P w = .ok 1 w) {ao : Option Addr} {n cap : Nat} (hnil : ao = none → cap = 0) (hcap : n ≤ cap) :
    ∀ (W : World) (k : Nat), k < n → (Instr.indexAt t (.slice ao n cap) (.int .i64 (k : Int))).run P W = .ok (.pointer (some (adr ao k))) W := by
  intro W k hk
  cases ao with
  | none => have := hnil rfl; omega
  | some a =>
    have ht' : P.underlying t = some (.slice (P.elem t)) := by simp [Program.elem, ht]
    have he : P.elem t = e := by simp [Program.elem, ht]
    rw [run_indexAt_slice (h := ht'), if_pos (by omega), he]
    simp [hz, adr, Result.andThen]

theorem run_min_nat (P : Program) (a b : Nat) (b' : Int) (hb : b' = (b : Int)) : ∀ (ts : Array TypeId) (t : TypeId) (W : World), (Builtin.min_ ts t #[.int .i64 (a : Int), .int .i64 b']).run P W = .ok (.int .i64 ((min a b : Nat) : Int)) W := by
  intro ts t W
  subst hb
  simp only [Builtin.min_, List.foldlM, Builtin.min2, Sem.run_bind, Sem.run_pure, Result.andThen]
  by_cases h : b < a
  · rw [if_pos (by omega)]; simp [Nat.min_eq_right (Nat.le_of_lt h)]
  · rw [if_neg (by omega)]; simp [Nat.min_eq_left (Nat.le_of_not_lt h)]

/-! ### Bits of ints -/
theorem ofInt_i64 (a : Nat) (ha : a < 9223372036854775808) : (BitVec.ofInt 64 (a : Int)).toNat = a := by
  rw [BitVec.ofInt_natCast, BitVec.toNat_ofNat]; exact Nat.mod_eq_of_lt (by omega)
theorem i64_or_nat (a b : Nat) (ha : a < 9223372036854775808) (hb : b < 9223372036854775808) : bits .or .i64 (a : Int) (b : Int) = ((a ||| b : Nat) : Int) := by
  have hx : a ||| b < 2 ^ 63 := Nat.or_lt_two_pow (by omega) (by omega)
  show IntKind.i64.wrap ((BitVec.ofInt 64 (a : Int) ||| BitVec.ofInt 64 (b : Int)).toNat : Int) = _
  rw [BitVec.toNat_or, ofInt_i64 a ha, ofInt_i64 b hb, IntKind.wrap_i64]
  omega
theorem i64_and_nat (a b : Nat) (ha : a < 9223372036854775808) (hb : b < 9223372036854775808) : bits .and .i64 (a : Int) (b : Int) = ((a &&& b : Nat) : Int) := by
  have hx : a &&& b < 2 ^ 63 := Nat.and_lt_two_pow _ (by omega)
  show IntKind.i64.wrap ((BitVec.ofInt 64 (a : Int) &&& BitVec.ofInt 64 (b : Int)).toNat : Int) = _
  rw [BitVec.toNat_and, ofInt_i64 a ha, ofInt_i64 b hb, IntKind.wrap_i64]
  omega
/-- 'x | c' where x's low i bits are noughts and c has no more. -/
theorem i64_or_low (i a c : Nat) (ha : a * 2 ^ i + c < 9223372036854775808) (hc : c < 2 ^ i) : bits .or .i64 ((a * 2 ^ i : Nat) : Int) (c : Int) = ((a * 2 ^ i + c : Nat) : Int) := by
  rw [i64_or_nat _ _ (by omega) (by omega), nat_join i (a * 2 ^ i) c (by simp) hc]
/-- 'x & (2^i - 1)'. -/
theorem i64_and_low (i a m : Nat) (ha : a < 9223372036854775808) (hm : m = 2 ^ i - 1) (hi : i ≤ 62) : bits .and .i64 (a : Int) (m : Int) = ((a % 2 ^ i : Nat) : Int) := by
  have : 2 ^ i ≤ 2 ^ 62 := Nat.pow_le_pow_right (by omega) hi
  rw [i64_and_nat _ _ ha (by omega), hm, Nat.and_two_pow_sub_one_eq_mod]

/-! ### Sums of bits, in the walk's own spelling -/
theorem and_num (i m : Nat) (m' : Int) (a : Nat) (ha : a < 1000000000000) (hm : m = 2 ^ i - 1) (hm' : m' = (m : Int)) (hi : i ≤ 62) : bits .and .i64 (a : Int) m' = ((a % 2 ^ i : Nat) : Int) := by
  subst hm'; exact i64_and_low i a m (by omega) hm hi
theorem or_num (i : Nat) (p : Nat) (p' : Int) (a c : Nat) (hp : p = 2 ^ i) (hp' : p' = (p : Int)) (ha : a * p + c < 1000000000000) (hc : c < p) : bits .or .i64 ((a : Int) * p') (c : Int) = ((a * p + c : Nat) : Int) := by
  subst hp'; subst hp
  have := i64_or_low i a c (by omega) hc
  simpa using this

/-! ### Where a slice's cells lie -/
def sblk (v : Value) (n k : Nat) : Prop := 0 < n ∧ v.ownBlock = some k
theorem adr_block (a : Addr) (j : Nat) : (adr (some a) j).block = a.block := by
  unfold adr Addr.add; split <;> rfl
theorem sblk_lt {w : World} {v : Value} {l : List Value} (h : Sl w v l) {k : Nat} (hk : sblk v l.length k) : k < w.heap.size := by
  obtain ⟨ao, cap, rfl, h1, h2, h3, hc⟩ := h
  obtain ⟨hne, ho⟩ := hk
  cases ao with
  | none => simp [Value.ownBlock] at ho
  | some a =>
    simp [Value.ownBlock] at ho; subst ho
    cases l with
    | nil => simp at hne
    | cons x l => have := World.block_lt_of_cell? w _ (hc 0 x rfl); rwa [adr_block] at this
theorem Sl.keep {w w' : World} {v : Value} {l : List Value} (h : Sl w v l) (hk : ∀ k, sblk v l.length k → w'.heap[k]? = w.heap[k]?) : Sl w' v l := by
  obtain ⟨ao, cap, rfl, h1, h2, h3, hc⟩ := h
  refine ⟨ao, cap, rfl, h1, h2, h3, fun j u hu => ?_⟩
  have hlt := (List.getElem?_eq_some_iff.1 hu).1
  cases ao with
  | none => have := h3 rfl; omega
  | some a =>
    refine (World.cell?_of_block ?_).trans (hc j u hu)
    rw [adr_block]
    exact hk _ ⟨by omega, rfl⟩

/-! ### Cuts of slices -/
/-- v[k:] -/
def resl : Value → Nat → Value
  | .slice a n cap, k => .slice (if cap = k then a else a.map (·.add k)) (n - k) (cap - k)
  | v, _ => v
/-- v[:k:k] -/
def cutm : Value → Nat → Value
  | .slice a _ _, k => .slice (if k = 0 then a else a.map (·.add 0)) k k
  | v, _ => v
theorem add_add (a : Addr) (j k : Nat) : (a.add j).add k = a.add (j + k) := by
  unfold Addr.add
  by_cases hj : j = 0
  · subst hj; simp
  · by_cases hk : k = 0
    · subst hk; simp
    · simp [hj, hk, Nat.add_assoc]
theorem adr_map (ao : Option Addr) (h : ao ≠ none) (k j : Nat) : adr (ao.map (·.add k)) j = adr ao (k + j) := by
  cases ao with
  | none => exact absurd rfl h
  | some a => simp [adr, add_add]
theorem Sl.resl {w : World} {v : Value} {l : List Value} (h : Sl w v l) {k : Nat} (hk : k ≤ l.length) : Sl w (resl v k) (l.drop k) := by
  obtain ⟨ao, cap, rfl, h1, h2, h3, hc⟩ := h
  refine ⟨_, _, by rw [YtjkbigecejogdaaDoor.resl, List.length_drop], by simp; omega, by omega, fun h => ?_, fun j u hu => ?_⟩
  · split at h
    · have := h3 h; omega
    · cases ao with
      | none => have := h3 rfl; omega
      | some a => simp at h
  · have hu' : l[k + j]? = some u := by rw [List.getElem?_drop] at hu; exact hu
    have hlt : k + j < l.length := (List.getElem?_eq_some_iff.1 hu').1
    rw [if_neg (by omega)]
    have hne : ao ≠ none := fun e => by have := h3 e; omega
    rw [adr_map _ hne]
    exact hc _ _ hu'
theorem Sl.cutm {w : World} {v : Value} {l : List Value} (h : Sl w v l) {k : Nat} (hk : k ≤ l.length) : Sl w (cutm v k) (l.take k) := by
  obtain ⟨ao, cap, rfl, h1, h2, h3, hc⟩ := h
  have hlen : (l.take k).length = k := by simp; omega
  refine ⟨_, k, by rw [YtjkbigecejogdaaDoor.cutm, hlen], by omega, by omega, fun h => ?_, fun j u hu => ?_⟩
  · split at h
    · assumption
    · cases ao with
      | none => have := h3 rfl; omega
      | some a => simp at h
  · have hj : j < k := by have := (List.getElem?_eq_some_iff.1 hu).1; omega
    have hu' : l[j]? = some u := by rw [List.getElem?_take_of_lt hj] at hu; exact hu
    rw [if_neg (by omega)]
    have hne : ao ≠ none := fun e => by have := h3 e; omega
    rw [adr_map _ hne, Nat.zero_add]
    exact hc _ _ hu'
theorem run_resl (ht : P.underlying t = some (.slice e)) (hz : ∀ w, (Go.sizeOf e).run P w = .ok 1 w) {ao : Option Addr} {n cap : Nat} :
    ∀ (W : World) (k : Nat), k ≤ n → (Instr.slice t (.slice ao n cap) (some (.int .i64 (k : Int))) none none).run P W = .ok (resl (.slice ao n cap) k) W := by
  intro W k hk
  have hs := run_sliceBound (P := P) (w := W) .i64 (k : Int) n .sliceB (by omega) (by omega)
  simp [Instr.slice, Instr.sliceBounds, run_underlying ht, hs, hz, Result.andThen, resl]
theorem run_cutm (ht : P.underlying t = some (.slice e)) (hz : ∀ w, (Go.sizeOf e).run P w = .ok 1 w) {ao : Option Addr} {n cap : Nat} (hcap : n ≤ cap) :
    ∀ (W : World) (k : Nat), k ≤ n → (Instr.slice t (.slice ao n cap) none (some (.int .i64 (k : Int))) (some (.int .i64 (k : Int)))).run P W = .ok (cutm (.slice ao n cap) k) W := by
  intro W k hk
  have h1 := run_sliceBound (P := P) (w := W) .i64 (k : Int) cap .slice3Acap (by omega) (by omega)
  have h2 := run_sliceBound (P := P) (w := W) .i64 (k : Int) k .slice3B (by omega) (by omega)
  simp [Instr.slice, Instr.sliceBounds, run_underlying ht, h1, h2, hz, Result.andThen, cutm]
end

/-! ### 'out = append(out, x)', out nil or the call's own -/
theorem grownBy_from {w w' : World} {o : Obj} {row : Option Nat} (h : (w.alloc o).grownBy w' row) : w.grownBy w' row :=
  ⟨h.os, h.tape, h.output, Nat.le_trans (by simp) h.size, fun k hk hr => (h.block k (by simp; omega) hr).trans (Below.heap_alloc w o k hk)⟩
theorem wpList_push {P : Program} {w : World} {ops : Array Oper} {rest : List Oper} {o : Oper} {a : Act} {Q : Exit → Act → World → Prop} (base : Nat) (hgd : o.guard = none) (s x : Operand) (t e : TypeId)
    (ho : o.op = .call { callee := .builtin .append, args := #[s, x], argTypes := #[t, t] }) (ht : P.underlying t = some (.slice e))
    {z : Value} {bytes : Nat} (hinfo : (P.info? e).map (fun i => (i.zero, i.size, i.bytes)) = some (some z, 1, bytes)) (hz : z.cells.size = 1) (hb : bytes ≤ 1000)
    {v : Value} {n : Nat} {xs : List Value} (hown : w.ownsRow base e 1 v n xs) (u : Value) (hu : u.oneCell' = true) (hn : n + 1 ≤ 100000000) (hbase : base ≤ w.heap.size)
    (hs : a.eval s = v) (hx : a.eval x = .slice (some ⟨w.heap.size, 0, none⟩) 1 1)
    (h : ∀ v' w', (∃ g cap, v' = .slice (some ⟨g, 0, none⟩) (n + 1) cap) → w'.ownsRow base e 1 v' (n + 1) (xs ++ [u]) → w.grownBy w' v.ownBlock → wpList P ops Q rest (a.put o.dst v') w') :
    wpList P ops Q (o :: rest) a (w.alloc (.cells #[u] e)) := by
  obtain ⟨i0, hi, hz0, hz1, hz2⟩ := info_parts hinfo
  refine wpList_append_own _ hgd s x t ho base e i0 z 1 bytes ht hi hz0 hz1 hz2 hz (by decide) v n xs hs (hown.alloc _) ⟨w.heap.size, 0, none⟩ 1 1 [u] hx rfl ?_ ?_ ?_ ?_ ?_ ?_
  · intro j y hj
    match j, hj with
    | 0, hj =>
      simp at hj; subst hj
      show (w.alloc (.cells #[u] e)).cell? ⟨w.heap.size, 0, none⟩ = some u
      simp only [World.cell?]
      rw [show (w.alloc (.cells #[u] e)).heap[w.heap.size]? = some (.cells #[u] e) from heap_alloc_new w _]
      simp
  · intro y hy; simp at hy; subst hy; exact hu
  · unfold maxLen; omega
  · have : (n + 1) * bytes ≤ 100000000 * 1000 := Nat.mul_le_mul hn hb
    omega
  · simp; omega
  · intro v' w' h1 h2 _
    refine h v' w' ?_ h1 (grownBy_from h2)
    rcases h1.2 with ⟨_, h0⟩ | ⟨g, cap, cur, hv, _⟩
    · omega
    · exact ⟨g, cap, hv⟩
/-- The frame behind it. -/
theorem ext_push {w0 w w' : World} {e : TypeId} {v : Value} {n : Nat} {xs : List Value} (h : Ext w0 w) (hown : w.ownsRow w0.heap.size e 1 v n xs) (hg : w.grownBy w' v.ownBlock) : Ext w0 w' :=
  h.grown hg h.size (fun k hk => (hown.lt k hk).1)
/-- The shape of an owned row that is not empty. -/
theorem own_shape {w : World} {base e : Nat} {v : Value} {n : Nat} {xs : List Value} (h : w.ownsRow base e 1 v n xs) (hn : 0 < n) : ∃ g cap, v = .slice (some ⟨g, 0, none⟩) n cap ∧ base ≤ g := by
  rcases h.2 with ⟨_, h0⟩ | ⟨g, cap, cur, hv, hb, _⟩
  · omega
  · exact ⟨g, cap, hv, hb⟩
/-- '[]byte(s)': a new row. -/
theorem bytes_of_str {P : Program} (w : World) (src dst e : TypeId) (l : List UInt8) (hl : l.length ≤ maxLen) (hs : P.underlying src = some .string) (hd : P.underlying dst = some (.slice e)) (he : P.underlying e = some (.int .u8)) :
    ∃ cap w', (convert src dst (Str l)).run P w = .ok (.slice (some ⟨w.heap.size, 0, none⟩) l.length cap) w' ∧ Ext w w' ∧ SlB w' (.slice (some ⟨w.heap.size, 0, none⟩) l.length cap) l := by
  have h := run_bytes_of_string (P := P) w src dst e ⟨l.toArray⟩ hs hd he
  rw [size_list] at h
  refine ⟨_, _, h, (Below.drew (Below.refl _ w)).alloc (Nat.le_refl _) _, _, _, by rw [List.length_map], ?_, ?_, (fun h => by cases h), fun j u hu => ?_⟩
  · rw [List.length_map]; exact grownCap_ge _ _ _ _
  · exact grownCap_le_maxLen _ _ _ _ hl
  · rw [adr_some, Nat.zero_add]
    have hj : j < l.length := by have := (List.getElem?_eq_some_iff.1 hu).1; simpa using this
    have hblk : (w.drew.alloc (.cells (bytesRow ⟨l.toArray⟩ (grownCap w l.length 0 e)) e ((bytesRow ⟨l.toArray⟩ (grownCap w l.length 0 e)).size, (bytesRow ⟨l.toArray⟩ (grownCap w l.length 0 e)).size + 1))).heap[w.heap.size]? = _ := heap_alloc_new w.drew _
    rw [cell_of_row _ _ j _ _ _ hblk]
    rw [byt_map l j hj] at hu
    cases hu
    simp only [bytesRow]
    rw [Array.getElem?_append_left (by simpa using hj)]
    simp only [Array.getElem?_map, List.getElem?_toArray]
    rw [bt_some l j hj]; rfl

/-! ### New blocks in a row -/
def allocs (w : World) (os : List Obj) : World := os.foldl World.alloc w
theorem allocs_size (w : World) (os : List Obj) : (allocs w os).heap.size = w.heap.size + os.length := by
  induction os generalizing w with
  | nil => rfl
  | cons o os ih => show (allocs (w.alloc o) os).heap.size = _; rw [ih]; simp; omega
theorem allocs_ext (w : World) (os : List Obj) : Ext w (allocs w os) := by
  induction os generalizing w with
  | nil => exact Below.refl _ _
  | cons o os ih => exact ext_trans ((Below.refl _ w).alloc (Nat.le_refl _) o) (ih (w.alloc o))
theorem allocs_at (w : World) (os : List Obj) (j : Nat) (o : Obj) (h : os[j]? = some o) : (allocs w os).heap[w.heap.size + j]? = some o := by
  induction os generalizing w j with
  | nil => simp at h
  | cons o' os ih =>
    cases j with
    | zero =>
      simp at h; subst h
      exact ((allocs_ext (w.alloc o') os).block _ (by simp)).trans (heap_alloc_new w o')
    | succ j =>
      have := ih (w.alloc o') j (by simpa using h)
      rw [show (w.alloc o').heap.size + j = w.heap.size + (j + 1) by simp; omega] at this
      exact this
end Go.Proofs.YtjkbigecejogdaaDoor

namespace Go.Proofs.YtjkbigecejogdaaDoor
open Go.RowKit

/-- The type of a block's cells; none: it holds no cells. -/
def kind? (w : World) (k : Nat) : Option TypeId := (w.shape? k).map (·.1)
theorem kind_of_cells {w : World} {k : Nat} {c : Array Value} {e : TypeId} {f : Nat × Nat} (h : w.heap[k]? = some (.cells c e f)) : kind? w k = some e := by
  simp [kind?, World.shape?, h]
theorem kind_none {w : World} {k : Nat} {o : Obj} (h : w.heap[k]? = some o) (ho : o.isCells = false) : kind? w k = none := by
  unfold kind? World.shape?; rw [h]; cases o <;> simp_all [Obj.isCells]
theorem kind_lt {w : World} {k : Nat} {e : TypeId} (h : kind? w k = some e) : k < w.heap.size := by
  rcases Nat.lt_or_ge k w.heap.size with h' | h'
  · exact h'
  · simp [kind?, World.shape?, Array.getElem?_eq_none h'] at h
theorem kind_of_cell {w : World} {a : Addr} {v : Value} (h : w.cell? a = some v) : ∃ e, kind? w a.block = some e := by
  unfold World.cell? at h
  cases ho : w.heap[a.block]? with
  | none => simp [ho] at h
  | some o => cases o <;> simp_all [kind?, World.shape?]
theorem kind_same {w w' : World} {k : Nat} (h : w'.heap[k]? = w.heap[k]?) : kind? w' k = kind? w k := by simp [kind?, World.shape?, h]

/-- Only blocks of S turn; of each block that holds cells the cells' type stays. -/
structure Chg (S : Nat → Prop) (A C : World) : Prop where
  os : C.os = A.os
  tape : C.tape = A.tape
  output : C.output = A.output
  size : A.heap.size ≤ C.heap.size
  block : ∀ k, k < A.heap.size → ¬ S k → C.heap[k]? = A.heap[k]?
  kind : ∀ k, k < A.heap.size → kind? C k = kind? A k
theorem Chg.refl (S : Nat → Prop) (A : World) : Chg S A A := ⟨rfl, rfl, rfl, Nat.le_refl _, fun _ _ _ => rfl, fun _ _ => rfl⟩
theorem Chg.trans {S : Nat → Prop} {A B C : World} (h : Chg S A B) (k : Chg S B C) : Chg S A C :=
  ⟨k.os.trans h.os, k.tape.trans h.tape, k.output.trans h.output, Nat.le_trans h.size k.size,
    fun i hi hs => (k.block i (Nat.lt_of_lt_of_le hi h.size) hs).trans (h.block i hi hs), fun i hi => (k.kind i (Nat.lt_of_lt_of_le hi h.size)).trans (h.kind i hi)⟩
theorem Chg.mono {S T : Nat → Prop} {A C : World} (h : Chg S A C) (hs : ∀ k, S k → T k) : Chg T A C :=
  ⟨h.os, h.tape, h.output, h.size, fun k hk ht => h.block k hk (fun hS => ht (hs k hS)), h.kind⟩
theorem Chg.alloc (S : Nat → Prop) (A : World) (o : Obj) : Chg S A (A.alloc o) :=
  ⟨rfl, rfl, rfl, by simp, fun k hk _ => Below.heap_alloc A o k hk, fun k hk => kind_same (Below.heap_alloc A o k hk)⟩
theorem kind_setCell (A : World) (a : Addr) (v : Value) (k : Nat) : kind? (A.setCell a v) k = kind? A k := by
  by_cases e : k = a.block
  · subst e
    unfold kind? World.shape? World.setCell
    simp only [Array.getElem?_modify, if_true]
    cases ho : A.heap[a.block]? with
    | none => rfl
    | some o => cases o <;> simp [apply_ite Array.size]
  · exact kind_same (Below.heap_setCell A a v k e)
theorem Chg.setCell (A : World) (a : Addr) (v : Value) : Chg (fun k => k = a.block) A (A.setCell a v) :=
  ⟨rfl, rfl, rfl, by simp [World.setCell], fun k _ hs => Below.heap_setCell A a v k hs, fun k _ => kind_setCell A a v k⟩
theorem Chg.drewN (S : Nat → Prop) (A : World) (n : Nat) : Chg S A (A.drewN n) := ⟨rfl, rfl, rfl, Nat.le_refl _, fun _ _ _ => rfl, fun _ _ => rfl⟩
theorem Chg.putObj {A : World} {l : Nat} {o : Obj} (o' : Obj) (h : A.heap[l]? = some o) (ho : o.isCells = false) (ho' : o'.isCells = false) : Chg (fun k => k = l) A (A.putObj l o') :=
  ⟨rfl, rfl, rfl, by simp, fun k _ hs => World.putObj_heap_other hs, fun k _ => by
    by_cases e : k = l
    · subst e
      rw [kind_none h ho, kind_none (World.putObj_heap_same (Array.getElem?_eq_some_iff.1 h).1) ho']
    · exact kind_same (World.putObj_heap_other e)⟩

/-- The iterator's own steps (blocks of mu) and the loop's book-keeping (blocks from B on that hold no cells). -/
structure Mv (B : Nat) (mu : Nat → Prop) (A C : World) : Prop where
  os : C.os = A.os
  tape : C.tape = A.tape
  output : C.output = A.output
  size : A.heap.size ≤ C.heap.size
  block : ∀ k, k < A.heap.size → ¬ mu k → (k < B ∨ ∃ e, kind? A k = some e) → C.heap[k]? = A.heap[k]?
  kind : ∀ k, k < A.heap.size → kind? C k = kind? A k
theorem Chg.mv {B : Nat} {mu S : Nat → Prop} {A C : World} (h : Chg S A C) (hs : ∀ k, S k → mu k ∨ (B ≤ k ∧ kind? A k = none)) : Mv B mu A C :=
  ⟨h.os, h.tape, h.output, h.size, fun k hk hm hc => h.block k hk (fun hS => by
    rcases hs k hS with h1 | ⟨h1, h2⟩
    · exact hm h1
    · rcases hc with h3 | ⟨e, h3⟩
      · omega
      · rw [h2] at h3; cases h3), h.kind⟩
theorem Mv.cell {B : Nat} {mu : Nat → Prop} {A C : World} (h : Mv B mu A C) {a : Addr} {v : Value} (hc : A.cell? a = some v) (hm : ¬ mu a.block) : C.cell? a = some v :=
  (World.cell?_of_block (h.block _ (World.block_lt_of_cell? A a hc) hm (.inr (kind_of_cell hc)))).trans hc
/-- What a round leaves alone: the iterator's own blocks, and blocks from B on that hold no cells. -/
structure Kp (B : Nat) (own : Nat → Prop) (A C : World) : Prop where
  size : A.heap.size ≤ C.heap.size
  own : ∀ k, own k → C.heap[k]? = A.heap[k]?
  other : ∀ k, k < A.heap.size → B ≤ k → kind? A k = none → C.heap[k]? = A.heap[k]?
theorem Kp.refl (B : Nat) (own : Nat → Prop) (A : World) : Kp B own A A := ⟨Nat.le_refl _, fun _ _ => rfl, fun _ _ _ _ => rfl⟩
theorem Kp.trans {B : Nat} {own : Nat → Prop} {A C D : World} (h : Kp B own A C) (k : Kp B own C D) : Kp B own A D :=
  ⟨Nat.le_trans h.size k.size, fun i hi => (k.own i hi).trans (h.own i hi), fun i hi hB hn => by
    have h1 := h.other i hi hB hn
    exact (k.other i (Nat.lt_of_lt_of_le hi h.size) hB (by rw [kind_same h1]; exact hn)).trans h1⟩
theorem Kp.of_chg {B : Nat} {own S : Nat → Prop} {A C : World} (h : Chg S A C) (hown : ∀ k, own k → k < A.heap.size ∧ ¬ S k) (hs : ∀ k, S k → B ≤ k → k < A.heap.size → ∃ e, kind? A k = some e) : Kp B own A C :=
  ⟨h.size, fun k hk => h.block k (hown k hk).1 (hown k hk).2, fun k hk hB hn => h.block k hk (fun hS => by obtain ⟨e, he⟩ := hs k hS hB hk; rw [hn] at he; cases he)⟩
theorem Kp.of_grown {B : Nat} {own : Nat → Prop} {A C : World} {row : Option Nat} (h : A.grownBy C row) (hown : ∀ k, own k → k < A.heap.size ∧ row ≠ some k) (hs : ∀ k, row = some k → ∃ e, kind? A k = some e) : Kp B own A C :=
  ⟨h.size, fun k hk => h.block k (hown k hk).1 (fun e => (hown k hk).2 e.symm), fun k hk _ hn => h.block k hk (fun e => by obtain ⟨e', he⟩ := hs k e.symm; rw [hn] at he; cases he)⟩
/-- What changes nothing that lay. -/
theorem Kp.of_ext {B : Nat} {own : Nat → Prop} {A C : World} (h : Ext A C) (hown : ∀ k, own k → k < A.heap.size) : Kp B own A C :=
  ⟨h.size, fun k hk => h.block k (hown k hk), fun k hk _ _ => h.block k hk⟩

/-- THE ITERATOR's CONTRACT: N items come, the i-th as 'encs i'; own: the blocks that it reads or writes; mu: those that it writes. -/
def Iter (P : Program) (gf : Nat) (lb : Array Value) (N : Nat) (encs : Nat → Array Value) (own mu : Nat → Prop) (w0 : World) : Prop :=
  ∀ (n l : Nat) (J Jx : Nat → World → Prop) (W : World), (∀ k, own k → W.heap[k]? = w0.heap[k]?) → w0.heap.size ≤ W.heap.size →
    (∀ i A C, J i A → Chg mu A C → J i C) → (∀ i A C, Jx i A → Chg mu A C → Jx i C) →
    (∀ m i W1, i < N → J i W1 → YieldAt Fence.wide m P l (encs i) W1 fun e W' =>
      (e = .returned (.bool true) ∧ J (i + 1) W' ∧ W1.heap.size ≤ W'.heap.size ∧ ∀ k, own k → W'.heap[k]? = W1.heap[k]?) ∨ (e = .returned (.bool false) ∧ Jx i W')) →
    J 0 W → CallsIn Fence.wide n P gf (#[.func (.yield l) #[] #[]] ++ lb) W fun e W' => (∃ v, e = .returned v) ∧ (J N W' ∨ ∃ i, i < N ∧ Jx i W')

/-- How the body of a round may be left. -/
def roundOut (B : Nat) (own : Nat → Prop) (I : Nat → World → Prop) (Ix : Code → Nat → World → Prop) (i : Nat) (W : World) : Exit → Act → World → Prop
  | .normal, _, W' => Kp B own W W' ∧ I (i + 1) W'
  | .ret, _, W' => Kp B own W W' ∧ Ix .ret i W'
  | .exit id, _, W' => Kp B own W W' ∧ Ix (.exit id) i W'
  | .goto t, _, W' => Kp B own W W' ∧ Ix (.goto t) i W'
  | .panic _, _, _ => False
  | .outgrown, _, _ => False

section
variable {P : Program}
/-- The rounds, the record being laid at l. -/
theorem range_core {l : Nat} {fn : FuncId} {rec : LoopState → Option Code → Loop} {tmps : Array Value} {ps : Array Tmp} {assign body : Code} {d : Nat}
    (hrec : rec = fun st pe => { state := st, pending := pe, fn, tmps, params := ps, assign, body, defers := d })
    {gf : Nat} {lb : Array Value} {N : Nat} {encs : Nat → Array Value} {own mu : Nat → Prop} {w0 : World} (hit : Iter P gf lb N encs own mu w0)
    (B : Nat) (hown : ∀ k, own k → k < B) (hmut : ∀ k, mu k → k < B) (hB : B ≤ l) (hps : ∀ i, (encs i).size = ps.size)
    (I : Nat → World → Prop) (Ix : Code → Nat → World → Prop)
    (hI : ∀ i A C, I i A → kind? A l = none → Chg (fun k => mu k ∨ k = l) A C → I i C) (hIx : ∀ c i A C, Ix c i A → kind? A l = none → Chg (fun k => mu k ∨ k = l) A C → Ix c i C)
    (hround : ∀ m i W, i < N → I i W → (∃ r, W.heap[l]? = some (.loop r)) →
      assign.wpIn (Fence.wide.inRound l) m P (Exit.then (fun a1 W1 => Kp B own W W1 ∧ ∀ W2, kind? W1 l = none → Chg (fun k => k = l) W1 W2 → (∃ r, W2.heap[l]? = some (.loop r)) → body.wpIn (Fence.wide.inRound l) m P (roundOut B own I Ix i W2) a1 W2) (fun _ _ _ => False))
        { tmps := (ps.zip (encs i)).foldl (fun t (p, v) => t.setIfInBounds p v) tmps, defers := [] } W)
    (n : Nat) (W1 : World) (hW : ∀ k, own k → W1.heap[k]? = w0.heap[k]?) (hsz : w0.heap.size ≤ W1.heap.size) (hL : W1.heap[l]? = some (.loop (rec .ready none))) (h0 : I 0 W1) :
    CallsIn Fence.wide n P gf (#[.func (.yield l) #[] #[]] ++ lb) W1 fun e W2 => (∃ v, e = .returned v) ∧
      ((I N W2 ∧ W2.heap[l]? = some (.loop (rec .ready none))) ∨ ∃ i c, i < N ∧ Ix c i W2 ∧ W2.heap[l]? = some (.loop (rec .done (some c)))) := by
  refine (hit n l (fun i W => I i W ∧ W.heap[l]? = some (.loop (rec .ready none))) (fun i W => ∃ c, Ix c i W ∧ W.heap[l]? = some (.loop (rec .done (some c)))) W1 hW hsz ?_ ?_ ?_ ⟨h0, hL⟩).mono ?_
  · rintro i A C ⟨hi, hl⟩ hc
    exact ⟨hI i A C hi (kind_none hl rfl) (hc.mono fun k h => .inl h), (hc.block l (Array.getElem?_eq_some_iff.1 hl).1 (fun h => by have := hmut l h; omega)).trans hl⟩
  · rintro i A C ⟨c, hi, hl⟩ hc
    exact ⟨c, hIx c i A C hi (kind_none hl rfl) (hc.mono fun k h => .inl h), (hc.block l (Array.getElem?_eq_some_iff.1 hl).1 (fun h => by have := hmut l h; omega)).trans hl⟩
  · rintro m i W hlt ⟨hi, hl⟩
    have hy := run_yield (P := P) (args := encs i) hl (by rw [hrec]; exact hps i)
    rw [hrec] at hy
    refine ⟨fn, _, assign, body, hy, roundIn_of_wpIn trivial (wpIn_mono (hround m i W hlt hi ⟨_, hl⟩) ?_)⟩
    rintro e a1 Wa hp
    cases e with
    | normal =>
      obtain ⟨hk1, hr1⟩ := hp
      have hlw : l < W.heap.size := (Array.getElem?_eq_some_iff.1 hl).1
      have hla : Wa.heap[l]? = some (.loop (rec .ready none)) := (hk1.other l hlw hB (kind_none hl rfl)).trans hl
      refine ⟨_, run_beginRound hla (by rw [hrec]), ?_⟩
      have hlta : l < Wa.heap.size := (Array.getElem?_eq_some_iff.1 hla).1
      obtain ⟨Wb, hWb⟩ : ∃ Wb, Wa.putObj l (.loop { rec .ready none with state := .busy }) = Wb := ⟨_, rfl⟩
      have hlb : Wb.heap[l]? = some (.loop { rec .ready none with state := .busy }) := by rw [← hWb]; exact World.putObj_heap_same hlta
      have hcb : Chg (fun k => k = l) Wa Wb := by rw [← hWb]; exact Chg.putObj _ hla rfl rfl
      rw [hWb]
      refine wpIn_mono (hr1 Wb (kind_none hla rfl) hcb ⟨_, hlb⟩) ?_
      have hownWb : ∀ k, own k → Wb.heap[k]? = W.heap[k]? := fun k hk => by
        rw [← hWb, World.putObj_heap_other (fun e => by have := hown k hk; omega)]; exact hk1.own k hk
      have hszb : W.heap.size ≤ Wb.heap.size := Nat.le_trans hk1.size hcb.size
      have fin : ∀ (jump : Option Code) (W3 : World), Kp B own Wb W3 →
          (Instr.endRound l jump).run P W3 = .ok (.bool jump.isNone) (W3.putObj l (.loop (rec (if jump.isNone then .ready else .done) jump))) ∧ kind? W3 l = none ∧
          Chg (fun k => mu k ∨ k = l) W3 (W3.putObj l (.loop (rec (if jump.isNone then .ready else .done) jump))) ∧
          (W3.putObj l (.loop (rec (if jump.isNone then .ready else .done) jump))).heap[l]? = some (.loop (rec (if jump.isNone then .ready else .done) jump)) := fun jump W3 hk3 => by
        have hl3 : W3.heap[l]? = some (.loop { rec .ready none with state := .busy }) := (hk3.other l (Array.getElem?_eq_some_iff.1 hlb).1 hB (kind_none hlb rfl)).trans hlb
        have := run_endRound (P := P) jump hl3
        refine ⟨?_, kind_none hl3 rfl, (Chg.putObj _ hl3 rfl rfl).mono fun k h => .inr h, World.putObj_heap_same (Array.getElem?_eq_some_iff.1 hl3).1⟩
        rw [hrec] at this ⊢
        exact this
      rintro e a3 W3 hp
      cases e with
      | normal =>
        obtain ⟨hk3, hi3⟩ := hp
        obtain ⟨hr, hn3, hc3, hl4⟩ := fin none W3 hk3
        refine ⟨_, _, hr, .inl ⟨rfl, ⟨hI _ _ _ hi3 hn3 hc3, hl4⟩, Nat.le_trans hszb (Nat.le_trans hk3.size hc3.size), fun k hk => ?_⟩⟩
        rw [World.putObj_heap_other (fun e => by have := hown k hk; omega)]
        exact (hk3.own k hk).trans (hownWb k hk)
      | ret =>
        obtain ⟨hk3, hi3⟩ := hp
        obtain ⟨hr, hn3, hc3, hl4⟩ := fin (some .ret) W3 hk3
        exact ⟨_, _, hr, .inr ⟨rfl, .ret, hIx _ _ _ _ hi3 hn3 hc3, hl4⟩⟩
      | exit id =>
        obtain ⟨hk3, hi3⟩ := hp
        obtain ⟨hr, hn3, hc3, hl4⟩ := fin (some (.exit id)) W3 hk3
        exact ⟨_, _, hr, .inr ⟨rfl, .exit id, hIx _ _ _ _ hi3 hn3 hc3, hl4⟩⟩
      | goto t =>
        obtain ⟨hk3, hi3⟩ := hp
        obtain ⟨hr, hn3, hc3, hl4⟩ := fin (some (.goto t)) W3 hk3
        exact ⟨_, _, hr, .inr ⟨rfl, .goto t, hIx _ _ _ _ hi3 hn3 hc3, hl4⟩⟩
      | panic ch => exact hp.elim
      | outgrown => exact hp.elim
    | ret => exact hp.elim
    | exit id => exact hp.elim
    | goto t => exact hp.elim
    | panic ch => exact hp.elim
    | outgrown => exact hp.elim
  · rintro e W2 ⟨hv, (⟨hi, hl⟩ | ⟨i, hlt, c, hi, hl⟩)⟩
    · exact ⟨hv, .inl ⟨hi, hl⟩⟩
    · exact ⟨hv, .inr ⟨i, c, hlt, hi, hl⟩⟩

theorem Mv.below {B B0 : Nat} {mu : Nat → Prop} {w A C : World} (h : Below B0 w A) (hm : Mv B mu A C) (h1 : ∀ k, mu k → B0 ≤ k) (h2 : B0 ≤ B) (h3 : B0 ≤ w.heap.size) : Below B0 w C :=
  ⟨hm.os.trans h.os, hm.tape.trans h.tape, hm.output.trans h.output, Nat.le_trans h.size hm.size, fun k hk =>
    (hm.block k (by have := h.size; omega) (fun h' => by have := h1 k h'; omega) (.inl (by omega))).trans (h.block k hk)⟩
theorem Mv.keeps {B : Nat} {mu : Nat → Prop} {A C : World} (hm : Mv B mu A C) {k : Nat} {o : Obj} (h : A.heap[k]? = some o) (h1 : ¬ mu k) (h2 : k < B) : C.heap[k]? = some o :=
  (hm.block k (Array.getElem?_eq_some_iff.1 h).1 h1 (.inl h2)).trans h
theorem Mv.sl {B : Nat} {mu : Nat → Prop} {A C : World} (hm : Mv B mu A C) {v : Value} {l : List Value} (h : Sl A v l) (h1 : ∀ k, sblk v l.length k → ¬ mu k ∧ k < B) : Sl C v l :=
  h.keep fun k hk => hm.block k (sblk_lt h hk) (h1 k hk).1 (.inl (h1 k hk).2)

theorem own_base {w : World} {B B' e : Nat} {v : Value} {n : Nat} {xs : List Value} (h : w.ownsRow B e 1 v n xs) (hb : B' ≤ B) : w.ownsRow B' e 1 v n xs := by
  refine ⟨h.1, ?_⟩
  rcases h.2 with hn | ⟨g, cap, cur, hv, hbg, r⟩
  · exact .inl hn
  · exact .inr ⟨g, cap, cur, hv, by omega, r⟩
theorem own_keep {w w' : World} {B e : Nat} {v : Value} {n : Nat} {xs : List Value} (h : w.ownsRow B e 1 v n xs) (hk : ∀ g, v.ownBlock = some g → B ≤ g → kind? w g = some e → w'.heap[g]? = w.heap[g]?) : w'.ownsRow B e 1 v n xs := by
  refine ⟨h.1, ?_⟩
  rcases h.2 with hn | ⟨g, cap, cur, rfl, hbg, hg, r⟩
  · exact .inl hn
  · exact .inr ⟨g, cap, cur, rfl, hbg, (hk g rfl hbg (kind_of_cells hg)).trans hg, r⟩
theorem own_mv {B B0 e : Nat} {mu : Nat → Prop} {A C : World} {v : Value} {n : Nat} {xs : List Value} (h : A.ownsRow B0 e 1 v n xs) (hm : Mv B mu A C) (h1 : ∀ k, mu k → k < B0) : C.ownsRow B0 e 1 v n xs :=
  own_keep h fun g _ hbg hk => hm.block g (kind_lt hk) (fun h' => by have := h1 g h'; omega) (.inr ⟨e, hk⟩)
theorem own_put {B0 e : Nat} {A : World} {v : Value} {n : Nat} {xs : List Value} {D : Nat} {o o' : Obj} (h : A.ownsRow B0 e 1 v n xs) (hD : A.heap[D]? = some o) (ho : o.isCells = false := by rfl) : (A.putObj D o').ownsRow B0 e 1 v n xs :=
  own_keep h fun g _ _ hk => World.putObj_heap_other (fun e' => by subst e'; rw [kind_none hD ho] at hk; cases hk)
theorem own_ext {B0 e : Nat} {A C : World} {v : Value} {n : Nat} {xs : List Value} (h : A.ownsRow B0 e 1 v n xs) (he : Ext A C) : C.ownsRow B0 e 1 v n xs :=
  own_keep h fun g _ _ hk => he.block g (kind_lt hk)

/-- THE CALLER's LAW, outside every round. -/
theorem wpIn_range {g : Operand} {ps : Array Tmp} {assign body : Code} {Q : Exit → Act → World → Prop} {a : Act} {w : World} {n : Nat}
    {gf : Nat} {lb : Array Value} (hg : a.eval g = .func (.func gf) #[] lb) (eg : ∀ args w, (callFunc gf args).run P w = .ok (.enter gf args) w)
    {N : Nat} {encs : Nat → Array Value} {own mu : Nat → Prop} (hit : Iter P gf lb N encs own mu w) (hown : ∀ k, own k → k < w.heap.size) (hmut : ∀ k, mu k → k < w.heap.size) (hps : ∀ i, (encs i).size = ps.size)
    (I : Nat → World → Prop) (Ix : Code → Nat → World → Prop)
    (hI : ∀ i A C, I i A → Mv w.heap.size mu A C → I i C) (hIx : ∀ c i A C, Ix c i A → Mv w.heap.size mu A C → Ix c i C) (h0 : I 0 w)
    (hround : ∀ m l i W, i < N → I i W → w.heap.size ≤ l → (∃ r, W.heap[l]? = some (.loop r)) →
      assign.wpIn (Fence.wide.inRound l) m P (Exit.then (fun a1 W1 => Kp w.heap.size own W W1 ∧ ∀ W2, Mv w.heap.size (fun _ => False) W1 W2 → (∃ r, W2.heap[l]? = some (.loop r)) → body.wpIn (Fence.wide.inRound l) m P (roundOut w.heap.size own I Ix i W2) a1 W2) (fun _ _ _ => False))
        { tmps := (ps.zip (encs i)).foldl (fun t (p, v) => t.setIfInBounds p v) a.tmps, defers := [] } W)
    (hdone : ∀ (D : Nat) (W : World), w.heap.size ≤ D → I N W → W.heap[D]? = some (.deferred (some [])) → Q .normal { a with defers := { target := .collected D, args := #[] } :: a.defers } W)
    (hstop : ∀ (D : Nat) (c : Code) (i : Nat) (W : World), w.heap.size ≤ D → i < N → Ix c i W → W.heap[D]? = some (.deferred (some [])) → c.wpIn Fence.wide n P Q { a with defers := { target := .collected D, args := #[] } :: a.defers } W) :
    (Code.rangeFunc g ps assign body).wpIn Fence.wide n P Q a w := by
  refine wpIn_rangeFunc ?_
  intro fn hfn
  obtain ⟨rec, hrec⟩ : ∃ rec : LoopState → Option Code → Loop, rec = fun st pe => { state := st, pending := pe, fn, tmps := a.tmps, params := ps, assign, body, defers := w.heap.size } := ⟨_, rfl⟩
  obtain ⟨W1, hW1⟩ : ∃ W1, (w.alloc (.deferred (some []))).alloc (.loop (rec .ready none)) = W1 := ⟨_, rfl⟩
  have hL1 : W1.heap[w.heap.size + 1]? = some (.loop (rec .ready none)) := by
    rw [← hW1]; have := World.alloc_heap_new (w.alloc (.deferred (some []))) (.loop (rec .ready none)); rwa [World.size_alloc] at this
  have hK1 : W1.heap[w.heap.size]? = some (.deferred (some [])) := by
    rw [← hW1]; exact (Below.heap_alloc _ _ _ (by simp)).trans (World.alloc_heap_new w _)
  have hc1 : Chg (fun _ => False) w W1 := by rw [← hW1]; exact (Chg.alloc _ w _).trans (Chg.alloc _ _ _)
  have hI1 : I 0 W1 := hI _ _ _ h0 (hc1.mv fun _ h => h.elim)
  refine ⟨w.heap.size + 1, [{ target := .collected w.heap.size, args := #[] }], W1, { target := .fn (.func gf) lb, args := #[.func (.yield (w.heap.size + 1)) #[] #[]] }, W1, gf,
    #[.func (.yield (w.heap.size + 1)) #[] #[]] ++ lb, W1, ?_, ?_, ?_, ?_, fun h => by simp [Fence.wide] at h, ?_⟩
  · rw [← hW1, hrec]; exact run_enterLoop_outer _ _ _ _ _
  · simp only [resolve, hg]
    simp [go_sem]
  · intro f' _; trivial
  · simp [invoke, go_sem, eg]
  · have lift : ∀ {A C : World}, kind? A (w.heap.size + 1) = none → Chg (fun k => mu k ∨ k = w.heap.size + 1) A C → Mv w.heap.size mu A C := fun hn hc => hc.mv fun k h => by
      rcases h with h | rfl
      · exact .inl h
      · exact .inr ⟨by omega, hn⟩
    have keepD : ∀ {A C : World}, A.heap[w.heap.size]? = some (.deferred (some [])) → Chg (fun k => mu k ∨ k = w.heap.size + 1) A C → C.heap[w.heap.size]? = some (.deferred (some [])) := fun hd hc =>
      (hc.block _ (Array.getElem?_eq_some_iff.1 hd).1 (fun h => by
        rcases h with h | h
        · have := hmut _ h; omega
        · omega)).trans hd
    refine (range_core (P := P) hrec hit w.heap.size hown hmut (Nat.le_succ _) hps
      (fun i W => I i W ∧ W.heap[w.heap.size]? = some (.deferred (some []))) (fun c i W => Ix c i W ∧ W.heap[w.heap.size]? = some (.deferred (some [])))
      (fun i A C h hn hc => ⟨hI i A C h.1 (lift hn hc), keepD h.2 hc⟩) (fun c i A C h hn hc => ⟨hIx c i A C h.1 (lift hn hc), keepD h.2 hc⟩)
      ?_ (n - 1) W1 (fun k hk => hc1.block k (hown k hk) (fun h => h)) hc1.size hL1 ⟨hI1, hK1⟩).mono ?_
    · rintro m i W hlt ⟨hi, hd⟩ hr
      refine wpIn_mono (hround m _ i W hlt hi (Nat.le_succ _) hr) ?_
      rintro e a1 Wa hp
      cases e <;> simp only [Exit.then] at hp ⊢
      have hda := (hp.1.other _ (Array.getElem?_eq_some_iff.1 hd).1 (Nat.le_refl _) (kind_none hd rfl)).trans hd
      refine ⟨hp.1, fun Wb hkb hcb hrb => ?_⟩
      have hdb := keepD hda (hcb.mono fun k h => .inr h)
      refine wpIn_mono (hp.2 Wb (hcb.mv fun k h => .inr (by subst h; exact ⟨Nat.le_succ _, hkb⟩)) hrb) ?_
      rintro e a2 W2 hp2
      cases e <;> simp only [roundOut] at hp2 ⊢ <;> exact ⟨hp2.1, hp2.2, (hp2.1.other _ (Array.getElem?_eq_some_iff.1 hdb).1 (Nat.le_refl _) (kind_none hdb rfl)).trans hdb⟩
    · rintro e W2 ⟨⟨v, rfl⟩, (⟨⟨hi, hd⟩, hl⟩ | ⟨i, c, hlt, ⟨hi, hd⟩, hl⟩)⟩
      · have he := run_endLoop (P := P) hl (by rw [hrec]; simp)
        have hc := (Chg.putObj (.loop { rec .ready none with state := .exhausted }) hl rfl rfl).mono (T := fun k => mu k ∨ k = w.heap.size + 1) fun k h => .inr h
        exact ⟨none, _, by rw [hrec] at he; rw [hrec]; exact he, hdone _ _ (Nat.le_refl _) (hI _ _ _ hi (lift (kind_none hl rfl) hc)) (keepD hd hc)⟩
      · have he := run_endLoop (P := P) hl (by rw [hrec]; simp)
        have hc := (Chg.putObj (.loop { rec .done (some c) with state := .exhausted }) hl rfl rfl).mono (T := fun k => mu k ∨ k = w.heap.size + 1) fun k h => .inr h
        exact ⟨some c, _, by rw [hrec] at he; rw [hrec]; exact he, hstop _ c i _ (Nat.le_refl _) hlt (hIx _ _ _ _ hi (lift (kind_none hl rfl) hc)) (keepD hd hc)⟩
/-- THE FUNCTION's END: the mark is taken. -/
theorem marks_ret {n : Nat} {fn : Func} {R : Ending → World → Prop} {tmps : Array Value} {W : World} {D : Nat} {v : Value} (hD : W.heap[D]? = some (.deferred (some [])))
    (hres : ∀ w, (results fn tmps).run P w = .ok v w) (hR : R (.returned v) (W.putObj D (.deferred none))) :
    LeavesInM Fence.wide n P fn tmps R [{ target := .collected D, args := #[] }] .returning W :=
  ⟨by simp, .inl ⟨_, _, rfl, run_takeDeferred hD, ⟨_, hres _, hR⟩⟩⟩
theorem below_mark {B : Nat} {w W : World} {D : Nat} (h : Below B w W) (hB : B ≤ D) (hD : W.heap[D]? = some (.deferred (some []))) : Below B w (W.putObj D (.deferred none)) := by
  have hc := Chg.putObj (.deferred none) hD rfl rfl
  exact ⟨hc.os.trans h.os, hc.tape.trans h.tape, hc.output.trans h.output, Nat.le_trans h.size hc.size, fun k hk => by
    rw [World.putObj_heap_other (by omega)]; exact h.block k hk⟩
end

theorem drew_alloc (w : World) (o : Obj) : (w.alloc o).drew = w.drew.alloc o := rfl
theorem below_chg {B : Nat} {S : Nat → Prop} {w A C : World} (h : Below B w A) (hc : Chg S A C) (hs : ∀ k, S k → B ≤ k) (hB : B ≤ w.heap.size) : Below B w C :=
  ⟨hc.os.trans h.os, hc.tape.trans h.tape, hc.output.trans h.output, Nat.le_trans h.size hc.size, fun k hk =>
    (hc.block k (by have := h.size; omega) (fun h' => by have := hs k h'; omega)).trans (h.block k hk)⟩
theorem cell_of {W : World} {k : Nat} {v : Value} {t : TypeId} {f : Nat × Nat} (h : W.heap[k]? = some (.cells #[v] t f)) : W.cell? ⟨k, 0, none⟩ = some v := by simp [World.cell?, h]
theorem frozen_of {W : World} {k : Nat} {v : Value} {t : TypeId} (h : W.heap[k]? = some (.cells #[v] t (0, 0))) : W.frozen? ⟨k, 0, none⟩ = false := by simp [World.frozen?, h]
theorem results_cells {fn : Func} {t u e1 e2 : Nat} (h : fn.results = #[.cell t e1, .cell u e2]) (tmps : Array Value) (P : Program) (w : World) {p q : Addr} {v1 v2 : Value}
    (ht : tmps.getD t undef = .pointer (some p)) (hu : tmps.getD u undef = .pointer (some q)) (i1 : ∀ w, (isAgg e1).run P w = .ok false w) (i2 : ∀ w, (isAgg e2).run P w = .ok false w) (c1 : w.cell? p = some v1) (c2 : w.cell? q = some v2) :
    (results fn tmps).run P w = .ok (.tuple #[v1, v2]) w := by
  have ht' : tmps[t]?.getD undef = .pointer (some p) := by rw [← ht]; simp [Array.getD_eq_getD_getElem?]
  have hu' : tmps[u]?.getD undef = .pointer (some q) := by rw [← hu]; simp [Array.getD_eq_getD_getElem?]
  simp [results, h, ht', hu', asAddr, loadVar, i1, i2, c1, c2, Result.andThen]
theorem marks_ret_at {P : Program} {n : Nat} {fn : Func} {R : Ending → World → Prop} {tmps : Array Value} {W : World} {D : Nat} {v : Value} (hD : W.heap[D]? = some (.deferred (some [])))
    (hres : (results fn tmps).run P (W.putObj D (.deferred none)) = .ok v (W.putObj D (.deferred none))) (hR : R (.returned v) (W.putObj D (.deferred none))) :
    LeavesInM Fence.wide n P fn tmps R [{ target := .collected D, args := #[] }] .returning W :=
  ⟨by simp, .inl ⟨_, _, rfl, run_takeDeferred hD, ⟨_, hres, hR⟩⟩⟩

theorem results_cell1 {fn : Func} {t e1 : Nat} (h : fn.results = #[.cell t e1]) (tmps : Array Value) (P : Program) (w : World) {p : Addr} {v1 : Value}
    (ht : tmps.getD t undef = .pointer (some p)) (i1 : ∀ w, (isAgg e1).run P w = .ok false w) (c1 : w.cell? p = some v1) :
    (results fn tmps).run P w = .ok v1 w := by
  have ht' : tmps[t]?.getD undef = .pointer (some p) := by rw [← ht]; simp [Array.getD_eq_getD_getElem?]
  simp [results, h, ht', asAddr, loadVar, i1, c1, Result.andThen]
theorem Chg.of_ext {w w' : World} (S : Nat → Prop) (h : Ext w w') : Chg S w w' := ⟨h.os, h.tape, h.output, h.size, fun k hk _ => h.block k hk, fun k hk => kind_same (h.block k hk)⟩
end Go.Proofs.YtjkbigecejogdaaDoor

namespace Go.Proofs.YtjkbigecejogdaaDoor
open Go.RowKit
attribute [local go_sem] Oper.semAt_some

theorem sblk_resl {v : Value} {n j k : Nat} (h : sblk (resl v j) (n - j) k) : sblk v n k := by
  obtain ⟨h1, h2⟩ := h
  refine ⟨by omega, ?_⟩
  cases v <;> simp only [resl] at h2 <;> try exact h2
  rename_i a n c
  split at h2
  · cases a with
    | none => simp [Value.ownBlock] at h2
    | some a => simpa [Value.ownBlock] using h2
  · cases a with
    | none => simp [Value.ownBlock] at h2
    | some a => simpa [Value.ownBlock, Addr.add, apply_ite Addr.block] using h2
/-- What is left in the iterator's variable behind i rounds. -/
def tripRest (v : Value) (l : List UInt8) : Nat → Value
  | 0 => v
  | i + 1 => resl (tripRest v l i) (min (l.length - 3 * i) 3)
theorem drop_trip (l : List UInt8) (i : Nat) : (l.drop (3 * i)).drop (min (l.length - 3 * i) 3) = l.drop (3 * (i + 1)) := by
  rw [List.drop_drop]
  by_cases h : 3 ≤ l.length - 3 * i
  · rw [show min (l.length - 3 * i) 3 = 3 by omega, show 3 * i + 3 = 3 * (i + 1) by omega]
  · rw [List.drop_of_length_le (by omega), List.drop_of_length_le (by omega)]
def boxLen (w : World) (b : Nat) : Nat := match w.cell? ⟨b, 0, none⟩ with | some (.slice _ n _) => n | _ => 0

set_option maxHeartbeats 400000 in
theorem triples_iter (v : Value) (l : List UInt8) (bx : Nat) (w0 : World) (hv : SlB w0 v l) (hbx : w0.heap[bx]? = some (.cells #[v] 23 (0, 0))) (hne : ¬ sblk v l.length bx) :
    ∃ vs : Nat → Value, (∀ i W, 3 * i < l.length → SlB W v l → SlB W (vs i) ((l.drop (3 * i)).take 3)) ∧
      Iter Tryd.prog 79 #[.pointer (some ⟨bx, 0, none⟩)] ((l.length + 2) / 3) (fun i => #[vs i]) (fun k => k = bx ∨ sblk v l.length k) (fun k => k = bx) w0 := by
  have hps : ∀ i w, SlB w v l → SlB w (tripRest v l i) (l.drop (3 * i)) ∧ ∀ k, sblk (tripRest v l i) (l.length - 3 * i) k → sblk v l.length k := by
    intro i w hvw
    induction i with
    | zero => simpa [tripRest] using hvw
    | succ i ih =>
      have h1 := ih.1.resl (k := min (l.length - 3 * i) 3) (by simp; omega)
      rw [← List.map_drop, drop_trip] at h1
      refine ⟨h1, fun k hk => ih.2 k ?_⟩
      refine sblk_resl (j := min (l.length - 3 * i) 3) ⟨?_, hk.2⟩
      have := hk.1; omega
  refine ⟨fun i => cutm (tripRest v l i) (min (l.length - 3 * i) 3), fun i W hi hvW => ?_, fun n lp J Jx W hW hsz hJ hJx hY h0 => ?_⟩
  · have h1 := (hps i W hvW).1.cutm (k := min (l.length - 3 * i) 3) (by simp; omega)
    have e : (l.drop (3 * i)).take (min (l.length - 3 * i) 3) = (l.drop (3 * i)).take 3 := by
      by_cases h : 3 ≤ l.length - 3 * i
      · rw [show min (l.length - 3 * i) 3 = 3 by omega]
      · rw [List.take_of_length_le (by simp; omega), List.take_of_length_le (by simp; omega)]
    rw [← List.map_take, e] at h1
    exact h1
  · refine callsIn_of_wp Tryd.func79 rfl trivial ?_ rfl
    simp only [Tryd.ntmps79, List.size_toArray, List.length_cons, List.length_nil, Nat.reduceAdd, Nat.reduceSub, Array.replicate_succ, Array.replicate_zero, List.push_toArray, List.append_toArray, List.nil_append, List.cons_append]
    gi_wp2
    gi_loopw [3] (fun _ wr => ∃ i : Nat, i ≤ (l.length + 2) / 3 ∧ wr.heap[bx]? = some (.cells #[tripRest v l i] 23 (0, 0)) ∧ SlB wr v l ∧ J i wr) (fun _ wr => boxLen wr bx)
    case atStart => exact ⟨0, by omega, (hW bx (.inl rfl)).trans hbx, hv.keep (fun k hk => hW k (.inr (by simpa using hk))), h0⟩
    case round =>
      obtain ⟨i, hi, hb, hvr, hJr⟩ := hrel
      obtain ⟨⟨ao, cap, hp, hcap, hmax, hnil, hcell⟩, _⟩ := hps i wr hvr
      simp only [List.length_map, List.length_drop] at hp hcap
      have hlenp : boxLen wr bx = l.length - 3 * i := by simp [boxLen, World.cell?, hb, hp]
      have hc0 : wr.cell? ⟨bx, 0, none⟩ = some (.slice ao (l.length - 3 * i) cap) := by simp [World.cell?, hb, hp]
      have hf0 : wr.frozen? ⟨bx, 0, none⟩ = false := by simp [World.frozen?, hb]
      unfold maxLen at hmax
      by_cases hlt : 3 * i < l.length
      · have hrs := run_resl (P := Tryd.prog) Tryd.underlying23 Tryd.sizeOf5 (ao := ao) (n := l.length - 3 * i) (cap := cap)
        have hct := run_cutm (P := Tryd.prog) Tryd.underlying23 Tryd.sizeOf5 (ao := ao) hcap
        obtain ⟨fn, tmps, assign, body, hy, hR⟩ := hY (n - 1) i wr (by omega) hJr

        rw [hp] at hy
        have hmn := run_min_nat Tryd.prog (l.length - 3 * i) 3 3 rfl
        obtain ⟨kk, hkk⟩ : ∃ kk, min (l.length - 3 * i) 3 = kk := ⟨_, rfl⟩
        have hk1 : kk ≤ l.length - 3 * i := by omega
        have hk2 : 0 < kk := by omega
        rw [hkk] at hmn hy
        rw [hp] at hb
        obtain ⟨ao', hao'⟩ : ∃ ao', resl (.slice ao (l.length - 3 * i) cap) kk = .slice ao' (l.length - 3 * i - kk) (cap - kk) := ⟨_, rfl⟩
        have hrk := fun W => hrs W kk hk1
        rw [hao'] at hrk
        clear hrs
        have hnext : tripRest v l (i + 1) = .slice ao' (l.length - 3 * i - kk) (cap - kk) := by rw [← hao', ← hp, ← hkk]; rfl
        have Hnext := Lib.hid hnext; clear hnext
        clear hao'
        have Hkk := Lib.hid hkk; clear hkk
        clear hcell
        gi_wp2
        refine ⟨fun h => by simp [Fence.wide] at h, hR.mono ?_⟩
        rintro e W3 (⟨rfl, hJ3, hs3, hk3⟩ | ⟨rfl, hJ3⟩)
        · have hb3 : W3.heap[bx]? = some (.cells #[.slice ao (l.length - 3 * i) cap] 23 (0, 0)) := (hk3 bx (.inl rfl)).trans hb
          have hc3 : W3.cell? ⟨bx, 0, none⟩ = some (.slice ao (l.length - 3 * i) cap) := by simp [World.cell?, hb3]
          have hf3 : W3.frozen? ⟨bx, 0, none⟩ = false := by simp [World.frozen?, hb3]
          have hv3 : SlB W3 v l := hvr.keep (fun k hk => hk3 k (.inr (by simpa using hk)))
          clear hc0 hf0
          gi_wp2
          go_roundw
          case rel =>
            have hc := Chg.setCell W3 ⟨bx, 0, none⟩ (.slice ao' (l.length - 3 * i - kk) (cap - kk))
            refine ⟨i + 1, by omega, ?_, hv3.keep (fun k hk => Below.heap_setCell _ _ _ _ (fun e => hne (by rw [← show k = bx from e]; simpa using hk))), hJ _ _ _ hJ3 hc⟩
            rw [Hnext.out]; exact one_setCell hb3
          case measure =>
            have e : boxLen (W3.setCell ⟨bx, 0, none⟩ (.slice ao' (l.length - 3 * i - kk) (cap - kk))) bx = l.length - 3 * i - kk := by
              have := one_setCell (u := .slice ao' (l.length - 3 * i - kk) (cap - kk)) hb3
              simp [boxLen, World.cell?, this]
            rw [e, hlenp]; omega
        · gi_wp2
          refine bodyPost_ret (results_none rfl _ _ _) rfl ?_
          exact ⟨⟨_, rfl⟩, .inr ⟨i, by omega, hJ3⟩⟩
      · gi_wp2
        refine bodyPost_end (results_none rfl _ _ _) rfl ?_
        have : i = (l.length + 2) / 3 := by omega
        subst this
        exact ⟨⟨_, rfl⟩, .inl hJr⟩
end Go.Proofs.YtjkbigecejogdaaDoor

namespace Go.Proofs.YtjkbigecejogdaaDoor
open Go.RowKit
set_option maxRecDepth 100000

def bty : Nat := 5
/-- Block b is a builder that holds bs; its buffer lies from base on. -/
def Bld (base : Nat) (w : World) (b : Nat) (bs : List UInt8) : Prop :=
  ∃ p v, w.heap[b]? = some (.cells #[p, v] 72 (0, 0)) ∧ (p = .pointer none ∨ p = .pointer (some ⟨b, 0, none⟩)) ∧ w.ownsRow base 5 1 v bs.length (bs.map Byt) ∧ v.ownBlock ≠ some b
/-- A write turns the builder's block and rows of bytes from base on, no more. -/
structure BFr (base b : Nat) (A C : World) : Prop where
  os : C.os = A.os
  tape : C.tape = A.tape
  output : C.output = A.output
  size : A.heap.size ≤ C.heap.size
  block : ∀ k, k < A.heap.size → k ≠ b → (k < base ∨ kind? A k ≠ some 5) → C.heap[k]? = A.heap[k]?
theorem BFr.refl (base b : Nat) (A : World) : BFr base b A A := ⟨rfl, rfl, rfl, Nat.le_refl _, fun _ _ _ _ => rfl⟩
theorem BFr.trans {base b : Nat} {A B C : World} (h : BFr base b A B) (k : BFr base b B C) : BFr base b A C :=
  ⟨k.os.trans h.os, k.tape.trans h.tape, k.output.trans h.output, Nat.le_trans h.size k.size, fun i hi hb hc => by
    have h1 := h.block i hi hb hc
    exact (k.block i (Nat.lt_of_lt_of_le hi h.size) hb (by rw [kind_same h1]; exact hc)).trans h1⟩
theorem BFr.below {base b : Nat} {A C : World} (h : BFr base b A C) {B : Nat} (h1 : B ≤ base) (h2 : B ≤ b) (h3 : B ≤ A.heap.size) : Below B A C :=
  ⟨h.os, h.tape, h.output, h.size, fun k hk => h.block k (by omega) (by omega) (.inl (by omega))⟩
theorem BFr.kp {base b : Nat} {A C : World} (h : BFr base b A C) {B : Nat} {own : Nat → Prop} (hown : ∀ k, own k → k < A.heap.size ∧ k ≠ b ∧ (k < base ∨ kind? A k ≠ some 5)) (hb : kind? A b ≠ none) : Kp B own A C :=
  ⟨h.size, fun k hk => h.block k (hown k hk).1 (hown k hk).2.1 (hown k hk).2.2, fun k hk _ hn => h.block k hk (fun e => by subst e; exact hb hn) (.inr (by rw [hn]; simp))⟩
theorem BFr.ext {base b : Nat} {A C : World} (h : Ext A C) : BFr base b A C := ⟨h.os, h.tape, h.output, h.size, fun k hk _ _ => h.block k hk⟩
theorem Bld.kind {base : Nat} {w : World} {b : Nat} {bs : List UInt8} (h : Bld base w b bs) : kind? w b = some 72 := by
  obtain ⟨p, v, hb, _⟩ := h; exact kind_of_cells hb
theorem Bld.lt {base : Nat} {w : World} {b : Nat} {bs : List UInt8} (h : Bld base w b bs) : b < w.heap.size := kind_lt h.kind
/-- What keeps the builder's block and all rows of bytes keeps the builder. -/
theorem Bld.keep {base : Nat} {w w' : World} {b : Nat} {bs : List UInt8} (h : Bld base w b bs) (hk : ∀ k, k < w.heap.size → (k = b ∨ (base ≤ k ∧ kind? w k = some 5)) → w'.heap[k]? = w.heap[k]?) : Bld base w' b bs := by
  obtain ⟨p, v, hb, hp, hown, hne⟩ := h
  refine ⟨p, v, (hk b (kind_lt (kind_of_cells hb)) (.inl rfl)).trans hb, hp, ⟨hown.1, ?_⟩, hne⟩
  rcases hown.2 with hn | ⟨g, cap, cur, hv, hbg, hg, r⟩
  · exact .inl hn
  · exact .inr ⟨g, cap, cur, hv, hbg, (hk g (kind_lt (kind_of_cells hg)) (.inr ⟨hbg, kind_of_cells hg⟩)).trans hg, r⟩
theorem Bld.ext {base : Nat} {w w' : World} {b : Nat} {bs : List UInt8} (h : Bld base w b bs) (he : Ext w w') : Bld base w' b bs := h.keep fun k hk _ => he.block k hk
theorem Bld.mv {base : Nat} {w w' : World} {b : Nat} {bs : List UInt8} (h : Bld base w b bs) {B : Nat} {mu : Nat → Prop} (he : Mv B mu w w') (hm : ∀ k, mu k → k ≠ b ∧ (k < base ∨ kind? w k ≠ some 5)) : Bld base w' b bs :=
  h.keep fun k hk hc => he.block k hk (fun hmk => by
    obtain ⟨h1, h2⟩ := hm k hmk
    rcases hc with e | ⟨e1, e2⟩
    · exact h1 e
    · rcases h2 with h2 | h2
      · omega
      · exact h2 e2) (.inr (by
    rcases hc with e | ⟨_, e2⟩
    · subst e; exact ⟨_, h.kind⟩
    · exact ⟨_, e2⟩))
/-- A fresh builder. -/
theorem bld_new (base : Nat) (w : World) : Bld base (w.alloc (.cells #[.pointer none, .slice none 0 0] 72)) w.heap.size [] :=
  ⟨_, _, heap_alloc_new w _, .inl rfl, World.ownsRow_nil _ _ _ _, by simp [Value.ownBlock]⟩

theorem sizeBuilder : (Tryd.prog.info? 72).map (·.size) = some 2 := by kernel_rfl
theorem infoByte : (Tryd.prog.info? 5).map (fun i => (i.zero, i.size, i.bytes)) = some (some (.int .u8 0), 1, 1) := by kernel_rfl
theorem cellsByte : Tryd.prog.cellsOf 5 = 1 := by kernel_rfl

set_option maxHeartbeats 1000000 in
theorem copyCheck_used (b : Nat) (w : World) (h0 : w.cell? ⟨b, 0, none⟩ = some (.pointer (some ⟨b, 0, none⟩))) :
    Calls Tryd.prog 59 #[.pointer (some ⟨b, 0, none⟩)] w fun e w' => e = .returned (.tuple #[]) ∧ w' = w := by
  obtain ⟨j, hj, _⟩ := Option.map_eq_some_iff.1 sizeBuilder
  go_enter Tryd.func59, Tryd.ntmps59
  go_wp2
  rw [Lib.run_neq_ptr_same w _ Tryd.underlying70 hj]
  go_wp2
  go_end0
  exact ⟨rfl, rfl⟩
set_option maxHeartbeats 1000000 in
theorem copyCheck_fresh (b : Nat) (w : World) (h0 : w.cell? ⟨b, 0, none⟩ = some (.pointer none)) (hsh : w.shape? b = some (72, 2)) (hfz : w.frozen? ⟨b, 0, none⟩ = false) :
    Calls Tryd.prog 59 #[.pointer (some ⟨b, 0, none⟩)] w fun e w' => e = .returned (.tuple #[]) ∧ w' = w.setCell ⟨b, 0, none⟩ (.pointer (some ⟨b, 0, none⟩)) := by
  obtain ⟨j, hj, hjs⟩ := Option.map_eq_some_iff.1 sizeBuilder
  go_enter Tryd.func59, Tryd.ntmps59
  go_wp2
  rw [Lib.run_to_unsafe w ⟨b, 0, none⟩ Tryd.underlying70 Tryd.underlying106 hj (by rw [hjs]; decide) hsh (Nat.zero_lt_succ 1)]
  go_wp2
  rw [run_callFunc_extern Tryd.func72 (by kernel_rfl) (by kernel_rfl) (by kernel_rfl) (e := Extern.AbiNoEscape.same) (by kernel_rfl)]
  rw [Lib.run_noEscape]
  go_wp2
  rw [Lib.run_from_unsafe w ⟨b, 0, none⟩ Tryd.underlying106 Tryd.underlying70 hj hsh (by kernel_rfl)]
  go_wp2
  go_end0
  exact ⟨rfl, rfl⟩
theorem copyCheck_any (base b : Nat) (bs : List UInt8) (w : World) (h : Bld base w b bs) :
    Calls Tryd.prog 59 #[.pointer (some ⟨b, 0, none⟩)] w fun e w' => e = .returned (.tuple #[]) ∧ Bld base w' b bs ∧ BFr base b w w' ∧ Chg (fun k => k = b) w w' ∧
      ∃ v, w'.heap[b]? = some (.cells #[.pointer (some ⟨b, 0, none⟩), v] 72 (0, 0)) ∧ w'.ownsRow base 5 1 v bs.length (bs.map Byt) ∧ v.ownBlock ≠ some b := by
  obtain ⟨p, v, hb, hp, hown, hne⟩ := h
  rcases hp with rfl | rfl
  · refine (copyCheck_fresh b w (by simp [World.cell?, hb]) (by simp [World.shape?, hb]) (by simp [World.frozen?, hb])).mono ?_
    rintro e w' ⟨rfl, rfl⟩
    have hlt := kind_lt (kind_of_cells hb)
    have hb' : (w.setCell ⟨b, 0, none⟩ (.pointer (some ⟨b, 0, none⟩))).heap[b]? = some (.cells #[.pointer (some ⟨b, 0, none⟩), v] 72 (0, 0)) := by
      have h' : w.heap[b] = .cells #[.pointer none, v] 72 (0, 0) := by simpa [Array.getElem?_eq_getElem hlt] using hb
      show (w.heap.modify b _)[b]? = _
      rw [Array.getElem?_eq_getElem (by simpa using hlt), Array.getElem_modify_self, h']
      rfl
    have hown' : (w.setCell ⟨b, 0, none⟩ (.pointer (some ⟨b, 0, none⟩))).ownsRow base 5 1 v bs.length (bs.map Byt) := by
      refine ⟨hown.1, ?_⟩
      rcases hown.2 with hn | ⟨g, cap, cur, hv, hbg, hg, r⟩
      · exact .inl hn
      · refine .inr ⟨g, cap, cur, hv, hbg, ?_, r⟩
        rw [Below.heap_setCell _ _ _ _ (fun e => hne (by rw [hv]; simp only [Value.ownBlock]; rw [show g = b from e]))]
        exact hg
    have hc := Chg.setCell w ⟨b, 0, none⟩ (.pointer (some ⟨b, 0, none⟩))
    exact ⟨rfl, ⟨_, v, hb', .inr rfl, hown', hne⟩, ⟨hc.os, hc.tape, hc.output, hc.size, fun k hk hkb _ => hc.block k hk hkb⟩, hc, v, hb', hown', hne⟩
  · refine (copyCheck_used b w (by simp [World.cell?, hb])).mono ?_
    rintro e w' ⟨rfl, rfl⟩
    exact ⟨rfl, ⟨_, v, hb, .inr rfl, hown, hne⟩, BFr.refl _ _ _, Chg.refl _ _, v, hb, hown, hne⟩

/-- What a store of the grown buffer leaves. -/
theorem bld_stored {base b : Nat} {bs : List UInt8} {w2 : World} {p v v' : Value} (hb2 : w2.heap[b]? = some (.cells #[p, v] 72 (0, 0))) (hp : p = .pointer none ∨ p = .pointer (some ⟨b, 0, none⟩))
    (hown' : w2.ownsRow base 5 1 v' bs.length (bs.map Byt)) : Bld base (w2.setCell ⟨b, 1, none⟩ v') b bs := by
  have hlt := kind_lt (kind_of_cells hb2)
  have hb' : (w2.setCell ⟨b, 1, none⟩ v').heap[b]? = some (.cells #[p, v'] 72 (0, 0)) := by
    have h' : w2.heap[b] = .cells #[p, v] 72 (0, 0) := by simpa [Array.getElem?_eq_getElem hlt] using hb2
    show (w2.heap.modify b _)[b]? = _
    rw [Array.getElem?_eq_getElem (by simpa using hlt), Array.getElem_modify_self, h']
    rfl
  have hne : v'.ownBlock ≠ some b := fun e => by
    rcases hown'.2 with ⟨rfl, _⟩ | ⟨g, cap, cur, rfl, hbg, hg, r⟩
    · simp [Value.ownBlock] at e
    · simp [Value.ownBlock] at e; subst e; rw [hg] at hb2; cases hb2
  refine ⟨p, v', hb', hp, ⟨hown'.1, ?_⟩, hne⟩
  rcases hown'.2 with hn | ⟨g, cap, cur, hv, hbg, hg, r⟩
  · exact .inl hn
  · refine .inr ⟨g, cap, cur, hv, hbg, ?_, r⟩
    rw [Below.heap_setCell _ _ _ _ (fun e => hne (by rw [hv]; simp only [Value.ownBlock]; rw [show g = b from e]))]
    exact hg
theorem bfr_stored {base b : Nat} {w w1 w2 : World} {v v' : Value} {n : Nat} {xs : List Value} (h1 : BFr base b w w1) (hown : w1.ownsRow base 5 1 v n xs) (hg : w1.grownBy w2 v.ownBlock) : BFr base b w (w2.setCell ⟨b, 1, none⟩ v') := by
  have hc := Chg.setCell w2 ⟨b, 1, none⟩ v'
  refine h1.trans ⟨hc.os.trans hg.os, hc.tape.trans hg.tape, hc.output.trans hg.output, Nat.le_trans hg.size hc.size, fun k hk hkb hcond => ?_⟩
  rw [hc.block k (Nat.lt_of_lt_of_le hk hg.size) hkb]
  refine hg.block k hk (fun e => ?_)
  rcases hown.2 with ⟨rfl, _⟩ | ⟨g, cap, cur, rfl, hbg, hg', r⟩
  · simp [Value.ownBlock] at e
  · simp [Value.ownBlock] at e; subst e
    rcases hcond with h | h
    · omega
    · exact h (kind_of_cells hg')

set_option maxHeartbeats 1000000 in
theorem WriteByte_any (base b : Nat) (bs : List UInt8) (c : UInt8) (w : World) (h : Bld base w b bs) (hlen : bs.length + 1 ≤ 100000000) (hbase : base ≤ w.heap.size) :
    Calls Tryd.prog 47 #[.pointer (some ⟨b, 0, none⟩), .int .u8 (c.toNat : Int)] w fun e w' => e = .returned .nilIface ∧ Bld base w' b (bs ++ [c]) ∧ BFr base b w w' := by
  obtain ⟨i0, hi, hz0, hz1, hz2⟩ := info_parts infoByte
  go_enter Tryd.func47, Tryd.ntmps47
  go_wp2_with (go_at_call 59; refine (copyCheck_any base b bs _ h).mono ?_)
  rintro e w1 ⟨rfl, hB1, hf1, hch1, v, hb1, hown, hne⟩
  have c0 : w1.cell? ⟨b, 0, none⟩ = some (.pointer (some ⟨b, 0, none⟩)) := by simp [World.cell?, hb1]
  have c1 : w1.cell? ⟨b, 1, none⟩ = some v := by simp [World.cell?, hb1]
  go_wp2_with (at_builtin; refine wpList_append_own _ rfl _ _ 23 rfl base 5 i0 (.int .u8 0) 1 1 Tryd.underlying23 hi hz0 hz1 hz2 rfl (by decide) _ _ _ rfl (hown.alloc _) ⟨w1.heap.size, 0, none⟩ 1 1 [Byt c] rfl rfl ?c1 ?c2 ?c3 ?c4 ?c5 ?_)
  case c1 =>
    intro j u hj
    match j, hj with
    | 0, hj => simp at hj; subst hj; simp [Addr.add]
  case c2 => intro u hu; simp at hu; subst hu; rfl
  case c3 => unfold maxLen; omega
  case c4 => omega
  case c5 => have := hf1.size; simp; omega
  intro v' w2 hown' hgrow _
  have hlt : b < w1.heap.size := hB1.lt
  have hb2 : w2.heap[b]? = some (.cells #[.pointer (some ⟨b, 0, none⟩), v] 72 (0, 0)) := by
    rw [hgrow.block b (by simp; omega) (fun e => hne e.symm), Below.heap_alloc w1 _ b hlt]
    exact hb1
  have d0 : w2.cell? ⟨b, 0, none⟩ = some (.pointer (some ⟨b, 0, none⟩)) := by simp [World.cell?, hb2]
  have d1 : w2.cell? ⟨b, 1, none⟩ = some v := by simp [World.cell?, hb2]
  have f1 : w2.frozen? ⟨b, 1, none⟩ = false := by simp [World.frozen?, hb2]
  obtain ⟨g, cap, rfl⟩ : ∃ g cap, v' = .slice (some ⟨g, 0, none⟩) (bs.length + 1) cap := by
    rcases hown'.2 with ⟨_, h0⟩ | ⟨g, cap, cur, hv, _⟩
    · omega
    · exact ⟨g, cap, hv⟩
  go_wp2
  go_ret
  refine ⟨rfl, bld_stored hb2 (.inr rfl) (by simpa using hown'), ?_⟩
  exact bfr_stored (hf1.trans (BFr.ext ((Below.refl _ _).alloc (Nat.le_refl _) _))) (hown.alloc _) hgrow
set_option maxHeartbeats 1000000 in
theorem Write_any (base b : Nat) (bs l : List UInt8) (v0 : Value) (w : World) (h : Bld base w b bs) (hv : SlB w v0 l) (hl : l ≠ []) (hlen : bs.length + l.length ≤ 100000000) (hbase : base ≤ w.heap.size) (hsb : ∀ k, sblk v0 l.length k → k ≠ b) :
    Calls Tryd.prog 69 #[.pointer (some ⟨b, 0, none⟩), v0] w fun e w' => e = .returned (.tuple #[.int .i64 (l.length : Int), .nilIface]) ∧ Bld base w' b (bs ++ l) ∧ BFr base b w w' := by
  obtain ⟨i0, hi, hz0, hz1, hz2⟩ := info_parts infoByte
  have hv' := hv
  obtain ⟨ao, cap0, rfl, hcap, hmax, hnil, hcell⟩ := hv
  have hl0 : 0 < l.length := List.length_pos_iff.2 hl
  simp only [List.length_map] at hcap hv' ⊢
  obtain ⟨ad, rfl⟩ : ∃ ad, ao = some ad := by
    cases ao with
    | none => have := hnil rfl; omega
    | some ad => exact ⟨ad, rfl⟩
  clear hcell
  go_enter Tryd.func69, Tryd.ntmps69
  go_wp2_with (go_at_call 59; refine (copyCheck_any base b bs _ h).mono ?_)
  rintro e w1 ⟨rfl, hB1, hf1, hch1, v, hb1, hown, hne⟩
  have c0 : w1.cell? ⟨b, 0, none⟩ = some (.pointer (some ⟨b, 0, none⟩)) := by simp [World.cell?, hb1]
  have c1 : w1.cell? ⟨b, 1, none⟩ = some v := by simp [World.cell?, hb1]
  have hsrc : SlB w1 (.slice (some ad) l.length cap0) l := by
    refine hv'.keep (fun k hk => ?_)
    exact hch1.block k (sblk_lt hv' hk) (hsb k (by simpa using hk))
  go_wp2_with (at_builtin; refine wpList_append_own _ rfl _ _ 23 rfl base 5 i0 (.int .u8 0) 1 1 Tryd.underlying23 hi hz0 hz1 hz2 rfl (by decide) _ _ _ rfl hown ad l.length cap0 (l.map Byt) rfl (by simp) ?c1 ?c2 ?c3 ?c4 ?c5 ?_)
  case c1 =>
    intro j u hj
    obtain ⟨ao, c', hao, _, _, _, hc'⟩ := hsrc
    simp only [List.length_map, Value.slice.injEq] at hao
    obtain ⟨rfl, -, rfl⟩ := hao
    have := hc' j u hj
    exact this
  case c2 => intro u hu; obtain ⟨x, _, rfl⟩ := List.mem_map.1 hu; rfl
  case c3 => unfold maxLen; omega
  case c4 => omega
  case c5 => have := hf1.size; omega
  intro v' w2 hown' hgrow _
  have hlt : b < w1.heap.size := hB1.lt
  have hb2 : w2.heap[b]? = some (.cells #[.pointer (some ⟨b, 0, none⟩), v] 72 (0, 0)) := by
    rw [hgrow.block b hlt (fun e => hne e.symm)]
    exact hb1
  have d0 : w2.cell? ⟨b, 0, none⟩ = some (.pointer (some ⟨b, 0, none⟩)) := by simp [World.cell?, hb2]
  have d1 : w2.cell? ⟨b, 1, none⟩ = some v := by simp [World.cell?, hb2]
  have f1 : w2.frozen? ⟨b, 1, none⟩ = false := by simp [World.frozen?, hb2]
  obtain ⟨g, cap, rfl⟩ : ∃ g cap, v' = .slice (some ⟨g, 0, none⟩) (bs.length + l.length) cap := by
    rcases hown'.2 with ⟨_, h0⟩ | ⟨g, cap, cur, hv, _⟩
    · omega
    · exact ⟨g, cap, hv⟩
  go_wp2
  go_ret2
  refine ⟨rfl, bld_stored hb2 (.inr rfl) (by simpa using hown'), ?_⟩
  exact bfr_stored hf1 hown hgrow

set_option maxHeartbeats 1000000 in
theorem WriteString_any (base b : Nat) (bs l : List UInt8) (w : World) (h : Bld base w b bs) (hlen : bs.length + l.length ≤ 100000000) (hbase : base ≤ w.heap.size) :
    Calls Tryd.prog 46 #[.pointer (some ⟨b, 0, none⟩), Str l] w fun e w' => e = .returned (.tuple #[.int .i64 (l.length : Int), .nilIface]) ∧ Bld base w' b (bs ++ l) ∧ BFr base b w w' := by
  obtain ⟨i0, hi, hz0, hz1, hz2⟩ := info_parts infoByte
  go_enter Tryd.func46, Tryd.ntmps46
  go_wp2_with (go_at_call 59; refine (copyCheck_any base b bs _ h).mono ?_)
  rintro e w1 ⟨rfl, hB1, hf1, hch1, v, hb1, hown, hne⟩
  have c0 : w1.cell? ⟨b, 0, none⟩ = some (.pointer (some ⟨b, 0, none⟩)) := by simp [World.cell?, hb1]
  have c1 : w1.cell? ⟨b, 1, none⟩ = some v := by simp [World.cell?, hb1]
  go_wp2_with (at_builtin; refine Lib.wpList_append_own_string _ rfl _ _ 23 9 rfl base 5 i0 Tryd.underlying23 Tryd.underlying9 hi hz0 hz1 hz2 _ _ _ rfl hown ⟨l.toArray⟩ rfl ?c3 ?c4 ?c5 ?_)
  case c3 => rw [size_list]; unfold maxLen; omega
  case c4 => rw [size_list]; omega
  case c5 => have := hf1.size; omega
  intro v' w2 hown' hgrow _
  have hlt : b < w1.heap.size := hB1.lt
  have hb2 : w2.heap[b]? = some (.cells #[.pointer (some ⟨b, 0, none⟩), v] 72 (0, 0)) := by
    rw [hgrow.block b hlt (fun e => hne e.symm)]
    exact hb1
  have d0 : w2.cell? ⟨b, 0, none⟩ = some (.pointer (some ⟨b, 0, none⟩)) := by simp [World.cell?, hb2]
  have d1 : w2.cell? ⟨b, 1, none⟩ = some v := by simp [World.cell?, hb2]
  have f1 : w2.frozen? ⟨b, 1, none⟩ = false := by simp [World.frozen?, hb2]
  obtain ⟨ao, n', cap, rfl⟩ : ∃ ao n' cap, v' = .slice ao n' cap := by
    rcases hown'.2 with ⟨hv, _⟩ | ⟨g, cap, cur, hv, _⟩
    · exact ⟨_, _, _, hv⟩
    · exact ⟨_, _, _, hv⟩
  go_wp2
  go_ret2
  refine ⟨by simp, bld_stored hb2 (.inr rfl) (by simpa [Lib.strCells, size_list] using hown'), ?_⟩
  exact bfr_stored hf1 hown hgrow

theorem bfr_freeze {base b : Nat} {w : World} {g : Nat} {cur : Array Value} (hg : w.heap[g]? = some (.cells cur 5 (0, 0))) (hbg : base ≤ g) (n : Nat) : BFr base b w (w.drew.freeze ⟨g, 0, none⟩ n) := by
  unfold World.freeze
  split
  · exact ⟨rfl, rfl, rfl, Nat.le_refl _, fun _ _ _ _ => rfl⟩
  · refine ⟨rfl, rfl, rfl, Nat.le_of_eq (Array.size_modify ..).symm, fun k hk hkb hc => ?_⟩
    have hne : k ≠ g := by
      rintro rfl
      rcases hc with h | h
      · omega
      · exact h (kind_of_cells hg)
    show (w.heap.modify g _)[k]? = _
    rw [Array.getElem?_modify, if_neg (Ne.symm hne)]
theorem run_unsafeString_none (W : World) (q : Option Addr) : (Builtin.unsafeString_ #[93, 3] 9 #[.pointer q, .int .i64 0]).run Tryd.prog W = .ok (.string ⟨#[]⟩) W :=
  Lib.run_unsafeString_none W _ _ _ q
set_option maxHeartbeats 2000000 in
theorem String_any (base b : Nat) (l : List UInt8) (w : World) (h : Bld base w b l) :
    Calls Tryd.prog 48 #[.pointer (some ⟨b, 0, none⟩)] w fun e w' => e = .returned (Str l) ∧ BFr base b w w' := by
  obtain ⟨p, v, hb, hp, hown, hne⟩ := h
  clear hp
  have hlt := kind_lt (kind_of_cells hb)
  have hUSn := run_unsafeString_none
  rcases hown.2 with ⟨rfl, hl⟩ | ⟨g, cap, cur, rfl, hbg, hg, hnc, hcm, hcs, ht⟩
  · have : l = [] := List.eq_nil_of_length_eq_zero hl
    subst this
    have c1 : w.drew.cell? ⟨b, 1, none⟩ = some (.slice none 0 0) := by
      have : w.drew.heap[b]? = some (.cells #[p, .slice none 0 0] 72 (0, 0)) := hb
      simp [World.cell?, this]
    have hSD : (Builtin.unsafeSliceData_ #[23] 93 #[.slice none 0 0]).run Tryd.prog w.drew = .ok (.pointer none) w.drew := rfl
    clear hown hl hne hlt hb
    go_enter Tryd.func48, Tryd.ntmps48
    go_wp2
    go_region
    all_goals (go_wp2; go_ret; exact ⟨rfl, BFr.ext (Below.drew (Below.refl _ _))⟩)
  · by_cases hl : l = []
    · subst hl
      by_cases hc0 : cap = 0
      · subst hc0
        have hSD : (Builtin.unsafeSliceData_ #[23] 93 #[.slice (some ⟨g, 0, none⟩) 0 0]).run Tryd.prog w.drew = .ok (.pointer (some ⟨w.drew.heap.size, 0, none⟩)) (w.drew.alloc (.view ⟨g, 0, none⟩ 5)) :=
          Lib.run_unsafeSliceData_zero w.drew _ _ 5 Tryd.underlying93 ⟨g, 0, none⟩ 0 (5, cur.size) (by have hg' : w.drew.heap[g]? = some (.cells cur 5 (0, 0)) := hg; simp [World.shape?, hg'])
        have c2 : (w.alloc (.view ⟨g, 0, none⟩ 5)).drew.cell? ⟨b, 1, none⟩ = some (.slice (some ⟨g, 0, none⟩) 0 0) := by
          have : (w.drew.alloc (.view ⟨g, 0, none⟩ 5)).heap[b]? = _ := (Below.heap_alloc w.drew _ b hlt).trans hb
          show (w.drew.alloc (.view ⟨g, 0, none⟩ 5)).cell? ⟨b, 1, none⟩ = _
          simp [World.cell?, this]
        have c1 : w.drew.cell? ⟨b, 1, none⟩ = some (.slice (some ⟨g, 0, none⟩) 0 0) := by
          have : w.drew.heap[b]? = some (.cells #[p, .slice (some ⟨g, 0, none⟩) 0 0] 72 (0, 0)) := hb
          simp [World.cell?, this]
        have c0 : w.cell? ⟨b, 1, none⟩ = some (.slice (some ⟨g, 0, none⟩) 0 0) := c1
        clear hown hne hlt hb hg hnc hcm hcs ht
        go_enter Tryd.func48, Tryd.ntmps48
        go_wp2
        go_region
        all_goals (go_wp2; go_ret; exact ⟨rfl, BFr.ext ((Below.drew (Below.refl _ w)).alloc (Nat.le_refl _) _)⟩)
      · have c1 : w.drew.cell? ⟨b, 1, none⟩ = some (.slice (some ⟨g, 0, none⟩) 0 cap) := by
          have : w.drew.heap[b]? = some (.cells #[p, .slice (some ⟨g, 0, none⟩) 0 cap] 72 (0, 0)) := hb
          simp [World.cell?, this]
        have hSD : (Builtin.unsafeSliceData_ #[23] 93 #[.slice (some ⟨g, 0, none⟩) 0 cap]).run Tryd.prog w.drew = .ok (.pointer (some ⟨g, 0, none⟩)) w.drew :=
          Lib.run_unsafeSliceData_row _ _ _ _ _ _ hc0
        clear hown hne hlt hb hg hnc hcm hcs ht hc0
        go_enter Tryd.func48, Tryd.ntmps48
        go_wp2
        go_region
        all_goals (go_wp2; go_ret; exact ⟨rfl, BFr.ext (Below.drew (Below.refl _ w))⟩)
    · have hl0 : 0 < l.length := List.length_pos_iff.2 hl
      have c1 : w.drew.cell? ⟨b, 1, none⟩ = some (.slice (some ⟨g, 0, none⟩) l.length cap) := by
        have : w.drew.heap[b]? = some (.cells #[p, .slice (some ⟨g, 0, none⟩) l.length cap] 72 (0, 0)) := hb
        simp [World.cell?, this]
      have hSD : (Builtin.unsafeSliceData_ #[23] 93 #[.slice (some ⟨g, 0, none⟩) l.length cap]).run Tryd.prog w.drew = .ok (.pointer (some ⟨g, 0, none⟩)) w.drew :=
        Lib.run_unsafeSliceData_row _ _ _ _ _ _ (by omega)
      have hUS : (Builtin.unsafeString_ #[93, 3] 9 #[.pointer (some ⟨g, 0, none⟩), .int .i64 l.length]).run Tryd.prog w.drew = .ok (.string ⟨l.toArray⟩) (w.drew.freeze ⟨g, 0, none⟩ l.length) := by
        refine Lib.run_unsafeString_row w.drew 93 3 9 5 Tryd.underlying93 cellsByte g cur.size (by have hg' : w.drew.heap[g]? = some (.cells cur 5 (0, 0)) := hg; simp [World.shape?, hg']) l hl (by omega) (by unfold maxLen at hcm; omega) ?_
        intro j x hx
        have := hown.cells (g := g) rfl j (.int .u8 x.toNat) (by simp [hx])
        exact this
      have hfin : BFr base b w (w.drew.freeze ⟨g, 0, none⟩ l.length) := bfr_freeze hg hbg _
      clear hown hne hlt hb hg hnc hcm hcs ht
      go_enter Tryd.func48, Tryd.ntmps48
      go_wp2
      go_region
      all_goals (go_wp2; go_ret; exact ⟨rfl, hfin⟩)

end Go.Proofs.YtjkbigecejogdaaDoor

namespace Go.Proofs.YtjkbigecejogdaaDoor
open Go.RowKit

/-- The wide fence, in a round or not. -/
def Wd (r : Option Nat) : Fence := { Fence.wide with round := r }
theorem wd_none : Fence.wide = Wd none := rfl
theorem wd_some (l : Nat) : Fence.wide.inRound l = Wd (some l) := rfl
def noDefer (ops : List Oper) : Bool := ops.all fun o => match o.op with | .defer _ => false | _ => true
theorem noDefer_spec {ops : List Oper} (h : noDefer ops = true) {i : Nat} {o : Oper} (ho : ops.toArray[i]? = some o) : ∀ c, o.op ≠ .defer c := by
  intro c e
  have hm : o ∈ ops := by rw [List.getElem?_toArray] at ho; exact List.mem_of_getElem? ho
  have := List.all_eq_true.1 h o hm
  simp [e] at this
section
variable {P : Program} {r : Option Nat} {n : Nat} {ops : Array Oper} {md : Region.Mode}
theorem callsIn_wd {f : FuncId} {args : Array Value} {w : World} {R : Ending → World → Prop} (h : Calls P f args w R) : CallsIn (Wd r) n P f args w R :=
  (callsIn_wide (n := n)).2 h
theorem wd_depth : (Wd r).depth.isSome = true → 1 ≤ n := fun h => by simp [Wd, Fence.wide] at h
theorem wpIn_of_quiet {C : World → Prop} {o : Oper} {a : Act} {K : Act → Prop} {K' : Act → World → Prop} {Q' : Exit → Act → World → Prop} {w : World} (hd : ∀ c, o.op ≠ .defer c) (hw : C w) (h : ∀ a w', C w' → K a → K' a w') (hh : o.quiet P a C K) : o.wpIn (Wd r) n P a w K' Q' := by
  obtain ⟨v, h1, h2⟩ := hh
  have h3 := h1 w hw
  unfold Oper.quietAt at h3
  refine ⟨fun _ _ => trivial, ?_⟩
  rw [Oper.semAt_eq _ _ _ hd]
  generalize (execOp a.eval o).run P w = rr at *
  cases rr with
  | ok x w' =>
    cases x <;> simp only [Oper.quietUpon] at h3 <;> simp only [Oper.uponIn]
    case value u =>
      obtain ⟨e1, e2⟩ := h3
      rw [e1, e2]
      exact h _ _ hw h2
    case skip =>
      obtain ⟨e1, e2⟩ := h3
      rw [e1, ← e2]
      exact h _ _ hw h2
    case enter f args =>
      obtain ⟨e1, hc⟩ := h3
      rw [e1]
      exact ⟨wd_depth, callsIn_wd (hc.mono fun e w'' ⟨he, hw''⟩ => by subst he; exact h _ _ hw'' h2)⟩
  | halt x w' => simp only [Oper.quietUpon] at h3
theorem wpOpIn_of_qOp {C : World → Prop} {i : Nat} {a : Act} {K : Act → Prop} {K' : Act → World → Prop} {Q' : Exit → Act → World → Prop} {w : World} (hd : ∀ (i : Nat) (o : Oper), ops[i]? = some o → ∀ c, o.op ≠ .defer c) (hC : C w) (h : ∀ a w', C w' → K a → K' a w') (hh : qOp P ops C i K a) : wpOpIn (Wd r) n P ops Q' i K' a w := by
  unfold qOp at hh
  unfold wpOpIn
  split
  · rename_i ho; simp only [ho] at hh; exact h _ _ hC hh
  · rename_i o ho
    simp only [ho] at hh
    split
    · rename_i hw; simp only [hw, if_true] at hh; exact wpIn_of_quiet (hd i o ho) hC h hh
    · rename_i hw; simp only [hw] at hh; exact ⟨fun _ _ => trivial, h _ _ hC hh⟩
theorem wpAnyIn_of_quiet {C : World → Prop} {Q : Act → Prop} {Q' : Exit → Act → World → Prop} (hd : ∀ (i : Nat) (o : Oper), ops[i]? = some o → ∀ c, o.op ≠ .defer c) (hQ : ∀ a w, C w → Q a → Q' .normal a w) : ∀ (fuel : Nat) (listed : Array Bool) (a : Act) (w : World), C w →
    wpAnyQ P md ops C Q fuel listed a → wpAnyIn (Wd r) n P md ops Q' fuel listed a w
  | 0, _, _, _, hw, h => ⟨h.1, hQ _ _ hw h.2⟩
  | fuel + 1, _, _, _, hw, h => ⟨fun h0 => hQ _ _ hw (h.1 h0), fun i hi => wpOpIn_of_qOp hd hw (fun a' w' hw' => wpAnyIn_of_quiet hd hQ fuel _ a' w' hw') (h.2 i hi)⟩
theorem wpIn_region_quiet_lit {id : Nat} {Q : Exit → Act → World → Prop} {a : Act} {w : World} {l : List Oper} (hm : P.follows .mixedOrders = true) (hB : Region.lexB .any l.toArray = true) (hd : noDefer l = true)
    (h : wpQuiet P l.toArray (fun w' => ∃ n, w' = w.drewN n) (fun a' => ∀ w', (∃ n, w' = w.drewN n) → Q .normal a' w') l a) : (Code.region id l.toArray true).wpIn (Wd r) n P Q a w := by
  simp only [Region.lexB, Bool.and_eq_true] at hB
  refine wpIn_region_any hm (wpAnyIn_of_quiet (C := fun w' => ∃ n, w' = w.drewN n) (Q := fun a' => ∀ w', (∃ n, w' = w.drewN n) → Q .normal a' w') (fun i o ho => noDefer_spec hd ho) (fun _ w' hw' h => h w' hw') _ _ _ _ ⟨1, rfl⟩ ?_)
  have := wpAnyQ_lex (P := P) (C := fun w' => ∃ n, w' = w.drewN n) (md := .any) hB.1 l 0 (Array.replicate l.toArray.size false) a (by simp) (by simpa using hB.2) h
  simpa using this

theorem wpIn_of_still {o : Oper} {a : Act} {K : Act → Prop} {K' : Act → World → Prop} {Q' : Exit → Act → World → Prop} {w : World} (hd : ∀ c, o.op ≠ .defer c) (h : ∀ a, K a → K' a w) (hh : o.still P a w K) : o.wpIn (Wd r) n P a w K' Q' := by
  unfold Oper.still at hh
  refine ⟨fun _ _ => trivial, ?_⟩
  rw [Oper.semAt_eq _ _ _ hd]
  generalize (execOp a.eval o).run P w = rr at *
  cases rr with
  | ok x w' =>
    cases x <;> simp only [Oper.stillUpon] at hh <;> simp only [Oper.uponIn]
    case enter f args =>
      obtain ⟨rfl, v, hc, hn⟩ := hh
      exact ⟨wd_depth, callsIn_wd (hc.mono fun e w'' ⟨he, hw⟩ => by subst he; subst hw; exact h _ hn)⟩
    all_goals (obtain ⟨rfl, h2⟩ := hh; exact h _ h2)
  | halt x w' => simp only [Oper.stillUpon] at hh
theorem wpOpIn_of_stOp {i : Nat} {a : Act} {K : Act → Prop} {K' : Act → World → Prop} {Q' : Exit → Act → World → Prop} {w : World} (hd : ∀ (i : Nat) (o : Oper), ops[i]? = some o → ∀ c, o.op ≠ .defer c) (h : ∀ a, K a → K' a w) (hh : stOp P ops w i K a) : wpOpIn (Wd r) n P ops Q' i K' a w := by
  unfold stOp at hh
  unfold wpOpIn
  split
  · rename_i ho; simp only [ho] at hh; exact h _ hh
  · rename_i o ho
    simp only [ho] at hh
    split
    · rename_i hw; simp only [hw, if_true] at hh; exact wpIn_of_still (hd i o ho) h hh
    · rename_i hw; simp only [hw] at hh; exact ⟨fun _ _ => trivial, h _ hh⟩
theorem wpAnyIn_of_head {w : World} {m g : Nat} {L : Array Bool → Act → Prop} {Q' : Exit → Act → World → Prop} (hd : ∀ (i : Nat) (o : Oper), ops[i]? = some o → ∀ c, o.op ≠ .defer c) (hL : ∀ listed a, L listed a → wpAnyIn (Wd r) n P md ops Q' g listed a w) :
    ∀ (f : Nat) (listed : Array Bool) (a : Act), wpAnyL P md ops w m L f listed a → wpAnyIn (Wd r) n P md ops Q' (f + g) listed a w
  | 0, listed, a, h => by rw [Nat.zero_add]; exact hL _ _ h
  | f + 1, listed, a, h => by
    rw [show f + 1 + g = (f + g) + 1 by omega]
    exact ⟨fun h0 => absurd h0 h.1, fun i hi => wpOpIn_of_stOp hd (fun a' h' => wpAnyIn_of_head hd hL f _ a' h') (h.2 i hi).2⟩
theorem wpAnyIn_of_seq {F : Fence} {Q' : Exit → Act → World → Prop} : ∀ (l : List Oper) (k : Nat) (listed : Array Bool) (a : Act) (w : World), (∀ j, l[j]? = ops[k + j]?) →
    Region.seqB md ops l.length k listed = true → wpListIn F n P ops Q' l a w → wpAnyIn F n P md ops Q' l.length listed a w
  | [], _, _, _, _, _, hB, h => ⟨by simpa [Region.seqB] using hB, h⟩
  | o :: l, k, listed, a, w, hl, hB, h => by
    have h0 : ops[k]? = some o := by simpa using (hl 0).symm
    simp only [List.length_cons, Region.seqB, Bool.and_eq_true, decide_eq_true_eq] at hB
    refine ⟨fun h1 => (by rw [hB.1] at h1; cases h1), fun i hi => ?_⟩
    rw [hB.1] at hi
    have hik : i = k := by simpa using hi
    subst hik
    have hw : wpOpIn F n P ops Q' i (wpListIn F n P ops Q' l) a w := by unfold wpOpIn; simp only [h0]; exact h
    exact wpOpIn_mono (fun a' w' h' => wpAnyIn_of_seq l (i + 1) _ a' w' (fun j => by have := hl (j + 1); simpa [Nat.add_assoc, Nat.add_comm 1 j] using this) hB.2 h') hw
theorem wpIn_region_still_tail {id : Nat} {Q : Exit → Act → World → Prop} {a : Act} {w : World} {l : List Oper} (m : Nat) (hm : P.follows .mixedOrders = true) (hB : Region.lexTailB .any l.toArray m = true) (hd : noDefer l = true)
    (h : wpStill P l.toArray { w with drawn := w.drawn + 1 } (fun a' => wpListIn (Wd r) n P l.toArray Q (l.drop m) a' { w with drawn := w.drawn + 1 }) (l.take m) a) : (Code.region id l.toArray true).wpIn (Wd r) n P Q a w := by
  simp only [Region.lexTailB, Bool.and_eq_true, decide_eq_true_eq] at hB
  obtain ⟨⟨⟨⟨hsel, hn⟩, hs⟩, hc⟩, hlex⟩ := hB
  have hn' : m < l.length := by simpa using hn
  have htl : (l.take m).length = m := by simp; omega
  have hdl : (l.drop m).length = l.toArray.size - m := by simp
  have inv0 : HeadInv .any l.toArray m (Array.replicate l.toArray.size false) :=
    ⟨by simp, fun j oj _ hl => (by rw [getD_replicate_false] at hl; cases hl), fun t _ ht => getD_in (by simpa using ht) (getD_replicate_false _ _)⟩
  have H := wpAnyL_lex (md := .any) (g := l.toArray.size - m) hsel hs hc hn (l.take m) 0 _ a (fun j hj => by
    have hj' : j < m := by rw [htl] at hj; exact hj
    simp [hj']) (by simpa using htl) inv0 (by rw [htl]; exact hlex) h
  refine wpIn_region_any hm ?_
  have := wpAnyIn_of_head (r := r) (n := n) (Q' := Q) (g := l.toArray.size - m) (fun i o ho => noDefer_spec hd ho) (fun listed a' hL => by
    have := wpAnyIn_of_seq (n := n) (F := Wd r) (md := .any) (Q' := Q) (l.drop m) m listed a' { w with drawn := w.drawn + 1 } (fun j => by simp [List.getElem?_drop]) (by rw [hdl]; exact hL.1) hL.2
    rwa [hdl] at this) _ _ _ H
  rw [htl, show m + (l.toArray.size - m) = l.toArray.size by omega] at this
  exact this
end
theorem wpListIn_push {F : Fence} {fn : Nat} {P : Program} {w : World} {ops : Array Oper} {rest : List Oper} {o : Oper} {a : Act} {Q : Exit → Act → World → Prop} (base : Nat) (hgd : o.guard = none) (s x : Operand) (t e : TypeId)
    (ho : o.op = .call { callee := .builtin .append, args := #[s, x], argTypes := #[t, t] }) (ht : P.underlying t = some (.slice e))
    {z : Value} {bytes : Nat} (hinfo : (P.info? e).map (fun i => (i.zero, i.size, i.bytes)) = some (some z, 1, bytes)) (hz : z.cells.size = 1) (hb : bytes ≤ 1000)
    {v : Value} {n : Nat} {xs : List Value} (hown : w.ownsRow base e 1 v n xs) (u : Value) (hu : u.oneCell' = true) (hn : n + 1 ≤ 100000000) (hbase : base ≤ w.heap.size)
    (hs : a.eval s = v) (hx : a.eval x = .slice (some ⟨w.heap.size, 0, none⟩) 1 1)
    (h : ∀ v' w', (∃ g cap, v' = .slice (some ⟨g, 0, none⟩) (n + 1) cap) → w'.ownsRow base e 1 v' (n + 1) (xs ++ [u]) → w.grownBy w' v.ownBlock → wpListIn F fn P ops Q rest (a.put o.dst v') w') :
    wpListIn F fn P ops Q (o :: rest) a (w.alloc (.cells #[u] e)) := by
  obtain ⟨i0, hi, hz0, hz1, hz2⟩ := info_parts hinfo
  refine wpListIn_append_own _ hgd s x t ho base e i0 z 1 bytes ht hi hz0 hz1 hz2 hz (by decide) v n xs hs (hown.alloc _) ⟨w.heap.size, 0, none⟩ 1 1 [u] hx rfl ?_ ?_ ?_ ?_ ?_ ?_
  · intro j y hj
    match j, hj with
    | 0, hj =>
      simp at hj; subst hj
      show (w.alloc (.cells #[u] e)).cell? ⟨w.heap.size, 0, none⟩ = some u
      simp only [World.cell?]
      rw [show (w.alloc (.cells #[u] e)).heap[w.heap.size]? = some (.cells #[u] e) from heap_alloc_new w _]
      simp
  · intro y hy; simp at hy; subst hy; exact hu
  · unfold maxLen; omega
  · have : (n + 1) * bytes ≤ 100000000 * 1000 := Nat.mul_le_mul hn hb
    omega
  · simp; omega
  · intro v' w' h1 h2 _
    refine h v' w' ?_ h1 (grownBy_from h2)
    rcases h1.2 with ⟨_, h0⟩ | ⟨g, cap, cur, hv, _⟩
    · omega
    · exact ⟨g, cap, hv⟩
end Go.Proofs.YtjkbigecejogdaaDoor

namespace Go.Proofs.YtjkbigecejogdaaDoor
open Go.RowKit
set_option linter.unusedVariables false
set_option linter.unusedSimpArgs false

def onlyN (K : Act → World → Prop) : Exit → Act → World → Prop
  | .normal, a, w => K a w
  | _, _, _ => False
section
variable {P : Program} {r : Option Nat} {n : Nat} {ops : Array Oper} {md : Region.Mode}
theorem onlyN_out (K : Act → World → Prop) : ¬ LetsOut (onlyN K) := fun ⟨_, _, h⟩ => h
theorem rowsIn_wd {row : String} {args : Array Value} {w : World} {R : Value → World → Prop} (h : Rows P row args w R) : RowsIn (Wd r) n P row args w R :=
  fun c cs _ => let ⟨v, w', r, s⟩ := h c cs; ⟨v, w', r, stepsIn_wide.2 s⟩
theorem wpIn_of_plain {o : Oper} {a : Act} {K0 : Act → World → Prop} {K : Act → World → Prop} {Q' : Exit → Act → World → Prop} {w : World} (hd : ∀ c, o.op ≠ .defer c) (h : o.wp P a w K (onlyN K0)) : o.wpIn (Wd r) n P a w K Q' := by
  unfold Oper.wp at h
  refine ⟨fun _ _ => trivial, ?_⟩
  rw [Oper.semAt_eq _ _ _ hd]
  generalize (execOp a.eval o).run P w = rr at *
  cases rr with
  | ok x w' =>
    cases x <;> simp only [Oper.upon] at h <;> simp only [Oper.uponIn]
    case value u => exact h
    case skip => exact h
    case defer d => exact h
    case enter f args =>
      refine ⟨wd_depth, callsIn_wd (h.mono fun e w'' he => ?_)⟩
      cases e with
      | returned v => exact he
      | panicked c => exact he.elim
      | outgrown => exact (onlyN_out _ he).elim
    case row row args => exact ⟨wd_depth, rowsIn_wd h⟩
    all_goals exact h.elim
  | halt x w' => cases x <;> exact h.elim
theorem wpAnyIn_of_plain {Q' : Exit → Act → World → Prop} (hd : ∀ (i : Nat) (o : Oper), ops[i]? = some o → ∀ c, o.op ≠ .defer c) : ∀ (fuel : Nat) (listed : Array Bool) (a : Act) (w : World),
    wpAny P md ops (onlyN fun a w => Q' .normal a w) fuel listed a w → wpAnyIn (Wd r) n P md ops Q' fuel listed a w
  | 0, _, _, _, h => ⟨h.1, h.2⟩
  | fuel + 1, listed, a, w, h => ⟨h.1, fun i hi => by
      have h1 := h.2 i hi
      unfold wpOp at h1
      unfold wpOpIn
      split
      · rename_i ho; simp only [ho] at h1; exact wpAnyIn_of_plain hd fuel _ _ _ h1
      · rename_i o ho
        simp only [ho] at h1
        split
        · rename_i hw
          simp only [hw, if_true] at h1
          rcases h1 with h1 | ⟨_, h1⟩
          · exact Oper.wpIn_mono (fun a' w' h' => wpAnyIn_of_plain hd fuel _ a' w' h') (wpIn_of_plain (hd i o ho) h1)
          · exact (onlyN_out _ h1).elim
        · rename_i hw
          simp only [hw] at h1
          exact ⟨fun _ _ => trivial, wpAnyIn_of_plain hd fuel _ _ _ h1⟩⟩
theorem wpIn_region_plain {id : Nat} {Q : Exit → Act → World → Prop} {a : Act} {w : World} {l : List Oper} (hm : P.follows .mixedOrders = true) (hd : noDefer l = true)
    (h : wpAny P .any l.toArray (onlyN fun a w => Q .normal a w) l.toArray.size (Array.replicate l.toArray.size false) a w.drew) : (Code.region id l.toArray true).wpIn (Wd r) n P Q a w :=
  wpIn_region_any hm (wpAnyIn_of_plain (fun i o ho => noDefer_spec hd ho) _ _ _ _ h)
end
theorem step_push {P : Program} {w : World} {ops : Array Oper} {o : Oper} {a : Act} {K : Act → World → Prop} {Q : Exit → Act → World → Prop} {E : Prop} (base : Nat) (hgd : o.guard = none) (s x : Operand) (t e : TypeId)
    (ho : o.op = .call { callee := .builtin .append, args := #[s, x], argTypes := #[t, t] }) (ht : P.underlying t = some (.slice e))
    {z : Value} {bytes : Nat} (hinfo : (P.info? e).map (fun i => (i.zero, i.size, i.bytes)) = some (some z, 1, bytes)) (hz : z.cells.size = 1) (hb : bytes ≤ 1000)
    {v : Value} {n : Nat} {xs : List Value} (hown : w.ownsRow base e 1 v n xs) (u : Value) (hu : u.oneCell' = true) (hn : n + 1 ≤ 100000000) (hbase : base ≤ w.heap.size)
    (hs : a.eval s = v) (hx : a.eval x = .slice (some ⟨w.heap.size, 0, none⟩) 1 1)
    (h : ∀ v' w', (∃ g cap, v' = .slice (some ⟨g, 0, none⟩) (n + 1) cap) → w'.ownsRow base e 1 v' (n + 1) (xs ++ [u]) → w.grownBy w' v.ownBlock → K (a.put o.dst v') w') :
    if Region.wanted o (yielded ops a.tmps) = true then Oper.wp P o a (w.alloc (.cells #[u] e)) K Q else E := by
  have hw : Region.wanted o (yielded ops a.tmps) = true := by simp [Region.wanted, hgd]
  rw [if_pos hw]
  obtain ⟨i0, hi, hz0, hz1, hz2⟩ := info_parts hinfo
  obtain ⟨v', w', hrun, h1, h2, _⟩ := run_append_own (P := P) (w.alloc (.cells #[u] e)) base t o.type e i0 z 1 bytes ht hi hz0 hz1 hz2 hz (by decide) v n xs (hown.alloc _) ⟨w.heap.size, 0, none⟩ 1 1 [u] rfl
    (fun j y hj => by
      match j, hj with
      | 0, hj =>
        simp at hj; subst hj
        show (w.alloc (.cells #[u] e)).cell? ⟨w.heap.size, 0, none⟩ = some u
        simp only [World.cell?]
        rw [show (w.alloc (.cells #[u] e)).heap[w.heap.size]? = some (.cells #[u] e) from heap_alloc_new w _]
        simp)
    (fun y hy => by simp at hy; subst hy; exact hu) (by unfold maxLen; omega)
    (by have : (n + 1) * bytes ≤ 100000000 * 1000 := Nat.mul_le_mul hn hb
        omega) (by simp; omega)
  unfold Oper.wp
  simp [execOp, ho, resolve, invoke, builtin, hs, hx, hrun, Result.andThen]
  refine h v' w' ?_ h1 (grownBy_from h2)
  rcases h1.2 with ⟨_, h0⟩ | ⟨g, cap, cur, hv, _⟩
  · omega
  · exact ⟨g, cap, hv⟩
end Go.Proofs.YtjkbigecejogdaaDoor

namespace Go.Proofs.YtjkbigecejogdaaDoor
open Go.RowKit

/-- The number of the first k of three bytes, noughts where there are none. -/
def pack (l : List UInt8) : Nat → Nat
  | 0 => 0
  | i + 1 => pack l i * 256 + (bt l i).toNat
def encL (A l : List UInt8) : List UInt8 := (List.range (l.length + 1)).map fun i => bt A (pack l 3 / 2 ^ (6 * (3 - i)) % 64)

theorem pack_lt (l : List UInt8) : ∀ k, pack l k < 256 ^ k
  | 0 => by simp [pack]
  | k + 1 => by
    have := pack_lt l k
    have h := (bt l k).toNat_lt
    simp only [pack]
    rw [Nat.pow_succ]
    have h2 : (bt l k).toNat < 256 := h
    omega
theorem encL_take (A l : List UInt8) : ∀ k, k < l.length + 1 → ∀ y, y = bt A (pack l 3 / 2 ^ (6 * (3 - k)) % 64) → (encL A l).take (k + 1) = (encL A l).take k ++ [y] := by
  intro k hk y hy
  have hlen : k < (encL A l).length := by simpa [encL] using hk
  rw [List.take_succ_eq_append_getElem hlen, hy]
  simp [encL]

set_option maxHeartbeats 400000 in
theorem encode_any (A l : List UInt8) (hA : A.length = 64) (v : Value) (hn : l.length ≤ 3) (w : World) (hv : SlB w v l) :
    Calls Tryd.prog 68 #[Str A, v] w fun e w' => ∃ v', e = .returned v' ∧ w'.ownsRow w.heap.size 5 1 v' (l.length + 1) ((encL A l).map Byt) ∧ Ext w w' := by
  obtain ⟨ao, cap, rfl, hcap, hmax, hnil, hcell⟩ := hv
  simp only [List.length_map] at hcap ⊢
  have HC := Lib.hid hcell; clear hcell
  have hix := run_index_adr (P := Tryd.prog) Tryd.underlying23 Tryd.sizeOf5 hnil hcap
  go_enter Tryd.func68, Tryd.ntmps68
  go_wp2
  go_loop [5, 9] (fun v i => ∃ k : Nat, k ≤ 3 ∧ i = .int .i64 k ∧ v = .int .i64 (pack l k : Nat)) (fun _ i => 3 - (intOf i).toNat)
  case atStart => exact ⟨0, by omega, rfl, rfl⟩
  case round =>
    obtain ⟨k, hk, rfl, rfl⟩ := hrel
    by_cases h3 : k < 3
    · have hp : pack l k < 65536 := Nat.lt_of_lt_of_le (pack_lt l k) (Nat.pow_le_pow_right (n := 256) (by omega) (show k ≤ 2 by omega))
      have Hpk := Lib.hid (show pack l (k + 1) = pack l k * 256 + (bt l k).toNat from rfl)
      by_cases hkn : k < l.length
      · have hck : w.cell? (adr ao k) = some (Byt (bt l k)) := HC.out k _ (byt_map l k hkn)
        have hb := (bt l k).toNat_lt
        have hor := or_num 8 256 256 (pack l k) (bt l k).toNat rfl rfl (by omega) hb
        generalize bt l k = c at *
        generalize pack l k = pk at *
        go_wp2
        go_round
        case rel => exact ⟨k + 1, by omega, by go_num, by rw [Hpk.out]; go_num⟩
        case measure => simp [intOf] <;> omega
      · have h0 : (bt l k).toNat = 0 := by rw [bt_out l k (by omega)]; rfl
        go_wp2
        go_round
        case rel => exact ⟨k + 1, by omega, by go_num, by rw [Hpk.out, h0, Nat.add_zero]; go_num⟩
        case measure => simp [intOf] <;> omega
    · obtain rfl : k = 3 := by omega
      have hp : pack l 3 < 16777216 := pack_lt l 3
      clear h3 hk
      have HP := Lib.hid (encL_take A l)
      generalize pack l 3 = pk at *
      go_wp2
      go_loopw [7, 29] (fun v i wr => ∃ k : Nat, k ≤ l.length + 1 ∧ i = .int .i64 k ∧ wr.ownsRow w.heap.size 5 1 v k (((encL A l).take k).map Byt) ∧ Ext w wr) (fun _ i _ => l.length + 1 - (intOf i).toNat)
      case atStart => exact ⟨0, by omega, rfl, World.ownsRow_nil _ _ _ _, Below.refl _ _⟩
      case round =>
        obtain ⟨k, hk, rfl, hown, hext⟩ := hrel
        by_cases hkn : k < l.length + 1
        · have hx : wr.heap.size = wr.heap.size := rfl
          obtain rfl | rfl | rfl | rfl : k = 0 ∨ k = 1 ∨ k = 2 ∨ k = 3 := by omega
          · obtain ⟨x, hx⟩ : ∃ x, x = pk / 262144 % 64 := ⟨_, rfl⟩
            have hand : bits BinOp.and .i64 ((pk : Int) / 262144) 63 = (x : Int) := by
              have := and_num 6 63 63 (pk / 262144) (by omega) rfl rfl (by omega)
              rw [show (2 : Nat) ^ 6 = 64 from rfl, ← hx] at this
              simpa using this
            have hx64 : x < 64 := by omega
            have Hx := Lib.hid hx; clear hx
            have hnx : (encL A l).take (0 + 1) = (encL A l).take 0 ++ [bt A x] := HP.out 0 (by omega) _ (by rw [Hx.out])
            go_wp2_with (at_builtin; refine wpList_push w.heap.size rfl _ _ 23 5 rfl Tryd.underlying23 infoByte rfl (by omega) hown (Byt (bt A x)) rfl (by omega) hext.size rfl rfl ?_; rintro _ w1 ⟨g1, cap1, rfl⟩ hown1 hgr1)
            go_roundw
            case rel => exact ⟨0 + 1, by omega, rfl, by rw [hnx, List.map_append]; exact hown1, ext_push hext hown hgr1⟩
            case measure => simp [intOf] <;> omega
          · obtain ⟨x, hx⟩ : ∃ x, x = pk / 4096 % 64 := ⟨_, rfl⟩
            have hand : bits BinOp.and .i64 ((pk : Int) / 4096) 63 = (x : Int) := by
              have := and_num 6 63 63 (pk / 4096) (by omega) rfl rfl (by omega)
              rw [show (2 : Nat) ^ 6 = 64 from rfl, ← hx] at this
              simpa using this
            have hx64 : x < 64 := by omega
            have Hx := Lib.hid hx; clear hx
            have hnx : (encL A l).take (1 + 1) = (encL A l).take 1 ++ [bt A x] := HP.out 1 (by omega) _ (by rw [Hx.out])
            go_wp2_with (at_builtin; refine wpList_push w.heap.size rfl _ _ 23 5 rfl Tryd.underlying23 infoByte rfl (by omega) hown (Byt (bt A x)) rfl (by omega) hext.size rfl rfl ?_; rintro _ w1 ⟨g1, cap1, rfl⟩ hown1 hgr1)
            go_roundw
            case rel => exact ⟨1 + 1, by omega, rfl, by rw [hnx, List.map_append]; exact hown1, ext_push hext hown hgr1⟩
            case measure => simp [intOf] <;> omega
          · obtain ⟨x, hx⟩ : ∃ x, x = pk / 64 % 64 := ⟨_, rfl⟩
            have hand : bits BinOp.and .i64 ((pk : Int) / 64) 63 = (x : Int) := by
              have := and_num 6 63 63 (pk / 64) (by omega) rfl rfl (by omega)
              rw [show (2 : Nat) ^ 6 = 64 from rfl, ← hx] at this
              simpa using this
            have hx64 : x < 64 := by omega
            have Hx := Lib.hid hx; clear hx
            have hnx : (encL A l).take (2 + 1) = (encL A l).take 2 ++ [bt A x] := HP.out 2 (by omega) _ (by rw [Hx.out])
            go_wp2_with (at_builtin; refine wpList_push w.heap.size rfl _ _ 23 5 rfl Tryd.underlying23 infoByte rfl (by omega) hown (Byt (bt A x)) rfl (by omega) hext.size rfl rfl ?_; rintro _ w1 ⟨g1, cap1, rfl⟩ hown1 hgr1)
            go_roundw
            case rel => exact ⟨2 + 1, by omega, rfl, by rw [hnx, List.map_append]; exact hown1, ext_push hext hown hgr1⟩
            case measure => simp [intOf] <;> omega
          · obtain ⟨x, hx⟩ : ∃ x, x = pk / 1 % 64 := ⟨_, rfl⟩
            have hand : bits BinOp.and .i64 ((pk : Int) ) 63 = (x : Int) := by
              have := and_num 6 63 63 (pk / 1) (by omega) rfl rfl (by omega)
              rw [show (2 : Nat) ^ 6 = 64 from rfl, ← hx] at this
              simpa using this
            have hx64 : x < 64 := by omega
            have Hx := Lib.hid hx; clear hx
            have hnx : (encL A l).take (3 + 1) = (encL A l).take 3 ++ [bt A x] := HP.out 3 (by omega) _ (by rw [Hx.out])
            go_wp2_with (at_builtin; refine wpList_push w.heap.size rfl _ _ 23 5 rfl Tryd.underlying23 infoByte rfl (by omega) hown (Byt (bt A x)) rfl (by omega) hext.size rfl rfl ?_; rintro _ w1 ⟨g1, cap1, rfl⟩ hown1 hgr1)
            go_roundw
            case rel => exact ⟨3 + 1, by omega, rfl, by rw [hnx, List.map_append]; exact hown1, ext_push hext hown hgr1⟩
            case measure => simp [intOf] <;> omega
        · go_wp2
          go_ret
          obtain rfl : k = l.length + 1 := by omega
          exact ⟨_, rfl, by rw [List.take_of_length_le (by simp [encL])] at hown; exact hown, hext⟩

end Go.Proofs.YtjkbigecejogdaaDoor

namespace Go.Proofs.YtjkbigecejogdaaDoor
open Go.RowKit Go.Shelf
attribute [local go_sem] Oper.semAt_some

set_option maxRecDepth 100000 in
set_option maxHeartbeats 1000000 in
theorem repeat_any (n : Nat) (hn : n ≤ 2) (w : World) :
    Calls Tryd.prog 70 #[Str [61], .int .i64 (n : Int)] w fun e w' => e = .returned (Str (List.replicate n 61)) ∧ Ext w w' := by
  obtain rfl | rfl | rfl : n = 0 ∨ n = 1 ∨ n = 2 := by omega
  · go_enter Tryd.func70, Tryd.ntmps70
    go_wp2
    go_ret
    exact ⟨rfl, Below.refl _ _⟩
  · go_enter Tryd.func70, Tryd.ntmps70
    go_wp2
    go_ret
    exact ⟨rfl, Below.refl _ _⟩
  · go_enter Tryd.func70, Tryd.ntmps70
    go_wp2
    go_ret
    exact ⟨rfl, Below.refl _ _⟩

theorem triples_any (ao : Option Addr) (n cap : Nat) (w : World) :
    Calls Tryd.prog 67 #[.slice ao n cap] w fun e w' => e = .returned (.func (.func 79) #[] #[.pointer (some ⟨w.heap.size, 0, none⟩)]) ∧ w' = w.alloc (.cells #[.slice ao n cap] 23) := by
  go_enter Tryd.func67, Tryd.ntmps67
  go_wp2
  go_ret
  exact ⟨rfl, rfl⟩

/-- The letters of one piece. -/
def chunk (A : List UInt8) (f : Bool) (t : List UInt8) : List UInt8 := encL A t ++ if f then List.replicate (3 - t.length) 61 else []
/-- The letters of the first n pieces. -/
def allN (A : List UInt8) (f : Bool) (l : List UInt8) (n : Nat) : List UInt8 := (List.range n).flatMap fun j => chunk A f ((l.drop (3 * j)).take 3)
def allL (A : List UInt8) (f : Bool) (l : List UInt8) : List UInt8 := allN A f l ((l.length + 2) / 3)
theorem allN_succ (A : List UInt8) (f : Bool) (l : List UInt8) (n : Nat) : allN A f l (n + 1) = allN A f l n ++ chunk A f ((l.drop (3 * n)).take 3) := by
  simp [allN, List.range_succ]

theorem chunk_len (A : List UInt8) (f : Bool) (t : List UInt8) (h : t.length ≤ 3) : (chunk A f t).length ≤ 4 := by
  cases f <;> simp [chunk, encL] <;> omega
theorem allN_len (A : List UInt8) (f : Bool) (l : List UInt8) : ∀ n, (allN A f l n).length ≤ 4 * n
  | 0 => by simp [allN]
  | n + 1 => by
    have h1 := allN_len A f l n
    have h2 := chunk_len A f ((l.drop (3 * n)).take 3) (by simp; omega)
    rw [allN_succ, List.length_append]; omega

set_option maxHeartbeats 1000000 in
theorem all_any (A l : List UInt8) (hA : A.length = 64) (f : Bool) (v : Value) (w : World) (hv : SlB w v l) (hl : l.length ≤ 10000) :
    Calls Tryd.prog 57 #[Str A, v, .bool f] w fun e w' => e = .returned (Str (allL A f l)) ∧ Ext w w' := by
  have hvw := hv
  obtain ⟨ao, cap, rfl, hcap, hmax, hnil, hcell⟩ := hv
  simp only [List.length_map] at hcap hvw ⊢
  clear hcell hcap hmax hnil
  refine (callsIn_wide (n := 5)).1 ?_
  refine callsIn_of_wp_marks Tryd.func57 rfl trivial ?_ rfl
  simp only [Tryd.ntmps57, List.size_toArray, List.length_cons, List.length_nil, Nat.reduceAdd, Nat.reduceSub, Array.replicate_succ, Array.replicate_zero, List.push_toArray, List.append_toArray, List.nil_append, List.cons_append]
  gi_wp2_with (refine ⟨trivial, ?_⟩; gi_at_call 67; refine (callsIn_wide.2 (triples_any _ _ _ _)).mono ?_; rintro e w' ⟨rfl, rfl⟩)
  obtain ⟨W0, hW0⟩ : ∃ W0, (((w.alloc (.cells #[Str A] 9)).alloc (.cells #[.bool f] 4)).alloc (.cells #[.pointer none, .slice none 0 0] 72)).alloc (.cells #[.slice ao l.length cap] 23) = W0 := ⟨_, rfl⟩
  have hA0 : W0.heap[w.heap.size]? = some (.cells #[Str A] 9 (0, 0)) := by
    rw [← hW0, Below.heap_alloc _ _ _ (by simp <;> omega), Below.heap_alloc _ _ _ (by simp <;> omega), Below.heap_alloc _ _ _ (by simp)]; exact heap_alloc_new w _
  have hf0 : W0.heap[w.heap.size + 1]? = some (.cells #[.bool f] 4 (0, 0)) := by
    rw [← hW0, Below.heap_alloc _ _ _ (by simp <;> omega), Below.heap_alloc _ _ _ (by simp)]
    have := heap_alloc_new (w.alloc (.cells #[Str A] 9)) (.cells #[.bool f] 4); simpa using this
  have hB0 : Bld (w.heap.size + 4) W0 (w.heap.size + 2) [] := by
    have := bld_new (w.heap.size + 4) ((w.alloc (.cells #[Str A] 9)).alloc (.cells #[.bool f] 4))
    rw [show ((w.alloc (.cells #[Str A] 9)).alloc (.cells #[.bool f] 4)).heap.size = w.heap.size + 2 by simp] at this
    rw [← hW0]; exact this.ext ((Below.refl _ _).alloc (Nat.le_refl _) _)
  have hp0 : W0.heap[w.heap.size + 3]? = some (.cells #[.slice ao l.length cap] 23 (0, 0)) := by
    rw [← hW0]
    have := heap_alloc_new (((w.alloc (.cells #[Str A] 9)).alloc (.cells #[.bool f] 4)).alloc (.cells #[.pointer none, .slice none 0 0] 72)) (.cells #[.slice ao l.length cap] 23); simpa using this
  have hext0 : Ext w W0 := by
    rw [← hW0]
    exact ((((Below.refl _ w).alloc (Nat.le_refl _) _).alloc (by simp) _).alloc (by simp <;> omega) _).alloc (by simp <;> omega) _
  have hsz0 : W0.heap.size = w.heap.size + 4 := by rw [← hW0]; simp
  have hv0 : SlB W0 (.slice ao l.length cap) l := hvw.ext hext0
  have hsb : ∀ k, sblk (.slice ao l.length cap) l.length k → k < w.heap.size := fun k hk => sblk_lt hvw (by simpa using hk)
  rw [hW0]
  clear hW0
  obtain ⟨vs, hvs, hit⟩ := triples_iter _ l (w.heap.size + 3) W0 hv0 hp0 (fun h => by have := hsb _ h; omega)
  refine wpIn_range (P := Tryd.prog) rfl (enters_of Tryd.func79 (by kernel_rfl) rfl) hit (fun k h => ?_) (fun k h => by omega) (fun _ => rfl)
    (fun i W => W.heap[w.heap.size]? = some (.cells #[Str A] 9 (0, 0)) ∧ W.heap[w.heap.size + 1]? = some (.cells #[.bool f] 4 (0, 0)) ∧ Bld (w.heap.size + 4) W (w.heap.size + 2) (allN A f l i) ∧ SlB W (.slice ao l.length cap) l ∧ Below w.heap.size w W ∧ w.heap.size + 4 ≤ W.heap.size)
    (fun _ _ _ => False) ?_ (fun _ _ _ _ h _ => h) ⟨hA0, hf0, hB0, hv0, hext0, by omega⟩ ?_ ?_ (fun _ _ _ _ _ _ h _ => h.elim)
  · rcases h with h | h
    · omega
    · have := hsb k h; omega
  · rintro i A' C ⟨h1, h2, h3, h4, h5, h6⟩ hm
    refine ⟨hm.keeps h1 (by omega) (by omega), hm.keeps h2 (by omega) (by omega), h3.mv hm (fun k hk => by omega), hm.sl h4 (fun k hk => ?_), hm.below h5 (fun k hk => by omega) (by omega) (Nat.le_refl _), Nat.le_trans h6 hm.size⟩
    have := hsb k (by simpa using hk); omega
  · rintro m lp i W hi ⟨h1, h2, h3, h4, h5, h6⟩ hlp hrec
    gi_wp2
    refine ⟨Kp.refl _ _ _, fun W2 hm2 hrec2 => ?_⟩
    replace h1 := hm2.keeps h1 (fun h => h) (by omega)
    replace h2 := hm2.keeps h2 (fun h => h) (by omega)
    replace h3 := h3.mv hm2 (fun k hk => hk.elim)
    replace h4 := hm2.sl h4 (fun k hk => ⟨fun h => h, by have := hsb k (by simpa using hk); omega⟩)
    replace h5 := hm2.below h5 (fun k hk => hk.elim) (by omega) (Nat.le_refl _)
    replace h6 := Nat.le_trans h6 hm2.size
    clear hm2 hrec hrec2
    have hvi := hvs i W2 (by omega) h4
    have c1 : W2.cell? ⟨w.heap.size, 0, none⟩ = some (Str A) := by simp [World.cell?, h1]
    have c2 : W2.cell? ⟨w.heap.size + 1, 0, none⟩ = some (.bool f) := by simp [World.cell?, h2]
    have hlt : ((l.drop (3 * i)).take 3).length ≤ 3 := by simp; omega
    have hlt' : (allN A f l i).length ≤ 50000 := by have := allN_len A f l i; omega
    have hnx := Lib.hid (allN_succ A f l i)
    have hel : (encL A ((l.drop (3 * i)).take 3)).length = ((l.drop (3 * i)).take 3).length + 1 := by simp [encL]
    have hne : (l.drop (3 * i)).take 3 ≠ [] := by
      intro e; have := congrArg List.length e; simp at this; omega
    generalize (l.drop (3 * i)).take 3 = t at *
    have fin : ∀ Wn, BFr (w.heap.size + 4) (w.heap.size + 2) W2 Wn → Bld (w.heap.size + 4) Wn (w.heap.size + 2) (allN A f l (i + 1)) →
        Kp W0.heap.size (fun k => k = w.heap.size + 3 ∨ sblk (.slice ao l.length cap) l.length k) W2 Wn ∧
        Wn.heap[w.heap.size]? = some (.cells #[Str A] 9 (0, 0)) ∧ Wn.heap[w.heap.size + 1]? = some (.cells #[.bool f] 4 (0, 0)) ∧ Bld (w.heap.size + 4) Wn (w.heap.size + 2) (allN A f l (i + 1)) ∧ SlB Wn (.slice ao l.length cap) l ∧ Below w.heap.size w Wn ∧ w.heap.size + 4 ≤ Wn.heap.size := by
      intro Wn hfr hB
      refine ⟨hfr.kp (fun k hk => ?_) (by rw [h3.kind]; simp), (hfr.block _ (by omega) (by omega) (.inl (by omega))).trans h1, (hfr.block _ (by omega) (by omega) (.inl (by omega))).trans h2, hB, h4.keep (fun k hk => ?_), h5.trans (hfr.below (by omega) (by omega) (by omega)), Nat.le_trans h6 hfr.size⟩
      · rcases hk with hk | hk
        · exact ⟨by omega, by omega, .inl (by omega)⟩
        · have := hsb k hk; exact ⟨by omega, by omega, .inl (by omega)⟩
      · have := hsb k (by simpa using hk); exact hfr.block _ (by omega) (by omega) (.inl (by omega))
    have Fin := Lib.hid fin; clear fin
    gi_wp2_with (refine ⟨trivial, fun h => by simp [Fence.wide] at h, ?_⟩; gi_at_call 68; refine (CallsIn.inRound lp (callsIn_wide.2 (encode_any A t hA _ hlt _ hvi))).mono ?_; rintro e W3 ⟨v3, rfl, hown3, hext3⟩; obtain ⟨g3, cap3, rfl, hg3⟩ := own_shape hown3 (by omega))
    have hs3 : SlB W3 (.slice (some ⟨g3, 0, none⟩) (t.length + 1) cap3) (encL A t) := sl_of_own hown3
    have hB3 := h3.ext hext3
    refine ⟨trivial, fun h => by simp [Fence.wide] at h, (CallsIn.inRound lp (callsIn_wide.2 (Write_any (w.heap.size + 4) (w.heap.size + 2) (allN A f l i) (encL A t) _ W3 hB3 ?c1 ?c2 ?c3 ?c4 ?c5))).mono ?_⟩
    case c1 => exact hel ▸ hs3
    case c2 => intro e; rw [e] at hel; simp at hel
    case c3 => omega
    case c4 => have := hext3.size; omega
    case c5 => intro k hk; have := hk.2; simp [Value.ownBlock] at this; omega
    rintro e W4 ⟨rfl, hB4, hfr4⟩
    have h24 : W4.heap[w.heap.size + 1]? = some (.cells #[.bool f] 4 (0, 0)) := (hfr4.block _ (by have := hext3.size; omega) (by omega) (.inl (by omega))).trans ((hext3.block _ (by omega)).trans h2)
    have c24 : W4.cell? ⟨w.heap.size + 1, 0, none⟩ = some (.bool f) := by simp [World.cell?, h24]
    clear c1 c2
    have hfr24 : BFr (w.heap.size + 4) (w.heap.size + 2) W2 W4 := (BFr.ext hext3).trans hfr4
    cases f with
    | false =>
      gi_wp2
      refine Fin.out W4 hfr24 ?_
      rw [hnx.out]; simpa [chunk] using hB4
    | true =>
      gi_wp2
      rw [show (4 - ((t.length : Int) + 1)) = ((3 - t.length : Nat) : Int) by omega]
      have hne' : 0 < t.length := List.length_pos_iff.2 hne
      refine ⟨trivial, fun h => by simp [Fence.wide] at h, (CallsIn.inRound lp (callsIn_wide.2 (repeat_any _ (by omega) _))).mono ?_⟩
      rintro e W5 ⟨rfl, hext5⟩
      have hB5 := hB4.ext hext5
      gi_wp2
      refine ⟨trivial, fun h => by simp [Fence.wide] at h, (CallsIn.inRound lp (callsIn_wide.2 (WriteString_any (w.heap.size + 4) (w.heap.size + 2) _ _ W5 hB5 (by simp; omega) (by have := hext5.size; have := hfr24.size; omega)))).mono ?_⟩
      rintro e W6 ⟨rfl, hB6, hfr6⟩
      gi_wp2
      refine Fin.out W6 ((hfr24.trans (BFr.ext hext5)).trans hfr6) ?_
      rw [hnx.out]; simpa [chunk] using hB6
  · rintro D W hD ⟨h1, h2, h3, h4, h5, h6⟩ hdef
    gi_wp2
    refine ⟨trivial, (callsIn_wide.2 (String_any (w.heap.size + 4) (w.heap.size + 2) _ W h3)).mono ?_⟩
    rintro e W7 ⟨rfl, hb7⟩
    gi_wp2
    have hd7 : W7.heap[D]? = some (.deferred (some [])) := (hb7.block _ (Array.getElem?_eq_some_iff.1 hdef).1 (by omega) (.inr (by rw [kind_none hdef rfl]; simp))).trans hdef
    refine marks_ret hd7 (results_tmp rfl _ _) ⟨rfl, ?_⟩
    exact below_mark (h5.trans (hb7.below (by omega) (by omega) (by omega))) (by omega) hd7
end Go.Proofs.YtjkbigecejogdaaDoor

namespace Go.Proofs.YtjkbigecejogdaaDoor
open Go.RowKit

theorem map_byt (l : List UInt8) : l.map Byt = (l.map fun c => (c.toNat : Int)).map (Value.int .u8) := by simp [Byt]
theorem run_str {P : Program} {src dst e : TypeId} (hs : P.underlying src = some (.slice e)) (he : P.underlying e = some (.int .u8)) (hd : P.underlying dst = some .string) {W : World} {v : Value} {l : List UInt8} (h : SlB W v l) :
    (convert src dst v).run P W = .ok (Str l) W := by
  obtain ⟨ao, cap, rfl, h1, h2, h3, hc⟩ := h
  rw [List.length_map]
  cases ao with
  | none =>
    have := h3 rfl
    rw [List.length_map] at h1
    obtain rfl : l = [] := List.eq_nil_of_length_eq_zero (by omega)
    rw [run_convert_bytes_string W src dst e _ _ cap hs he hd]
    simp [Conv.bytesToString]
    rfl
  | some a =>
    have hl : (loadCells a l.length).run P W = .ok ((l.map fun c => (c.toNat : Int)).map (Value.int .u8)).toArray W := by
      have := run_loadCells_list (P := P) W a (l.map Byt) (fun j v hj => hc j v hj)
      rw [List.length_map, map_byt] at this
      exact this
    rw [run_convert_bytes_string W src dst e _ _ cap hs he hd, run_bytesToString W _ _ cap _ hl, foldl_push_bytes]
    have : (l.map fun c => (c.toNat : Int)).map (fun n => UInt8.ofNat n.toNat) = l := by
      rw [List.map_map]
      conv => rhs; rw [← List.map_id l]
      exact List.map_congr_left fun c _ => by simp
    rw [this]
    simp [ByteArray.empty, ByteArray.emptyWithCapacity]
    rfl
theorem str_beq (a b : List UInt8) : ((⟨a.toArray⟩ : ByteArray) == ⟨b.toArray⟩) = (a == b) := by
  have h : ∀ x y : ByteArray, (x == y) = decide (x.data = y.data) := by
    intro x y
    cases x; cases y
    show ByteArray.beq _ _ = _
    unfold ByteArray.beq
    rename_i p q
    by_cases e : p = q <;> simp [e]
  rw [h]
  by_cases e : a = b <;> simp [e]
end Go.Proofs.YtjkbigecejogdaaDoor

namespace Go.Proofs.YtjkbigecejogdaaDoor
open Go.RowKit
set_option linter.unusedVariables false
set_option linter.unusedSimpArgs false

/-- v[:k] -/
def headm : Value → Nat → Value
  | .slice a _ cap, k => .slice (if cap = 0 then a else a.map (·.add 0)) k cap
  | v, _ => v
theorem Sl.headm {w : World} {v : Value} {l : List Value} (h : Sl w v l) {k : Nat} (hk : k ≤ l.length) : Sl w (headm v k) (l.take k) := by
  obtain ⟨ao, cap, rfl, h1, h2, h3, hc⟩ := h
  have hlen : (l.take k).length = k := by simp; omega
  refine ⟨_, cap, by rw [YtjkbigecejogdaaDoor.headm, hlen], by omega, h2, fun h => ?_, fun j u hu => ?_⟩
  · split at h
    · assumption
    · cases ao with
      | none => exact h3 rfl
      | some a => simp at h
  · have hj : j < k := by have := (List.getElem?_eq_some_iff.1 hu).1; omega
    have hu' : l[j]? = some u := by rw [List.getElem?_take_of_lt hj] at hu; exact hu
    rw [if_neg (by omega)]
    have hne : ao ≠ none := fun e => by have := h3 e; omega
    rw [adr_map _ hne, Nat.zero_add]
    exact hc _ _ hu'
theorem run_headm {P : Program} {t e : TypeId} (ht : P.underlying t = some (.slice e)) (hz : ∀ w, (Go.sizeOf e).run P w = .ok 1 w) {ao : Option Addr} {n cap : Nat} (hcap : n ≤ cap) :
    ∀ (W : World) (k : Nat), k ≤ n → (Instr.slice t (.slice ao n cap) none (some (.int .i64 (k : Int))) none).run P W = .ok (headm (.slice ao n cap) k) W := by
  intro W k hk
  have h1 := run_sliceBound (P := P) (w := W) .i64 (k : Int) cap .sliceAcap (by omega) (by omega)
  simp [Instr.slice, Instr.sliceBounds, run_underlying ht, h1, hz, Result.andThen, headm]
theorem headm_shape (ao : Option Addr) (n cap k : Nat) : headm (.slice ao n cap) k = .slice (if cap = 0 then ao else ao.map (·.add 0)) k cap := rfl

theorem adr_some' (a : Addr) (j : Nat) : adr (some a) j = a.add j := rfl
/-- 'append(s, x...)', s the call's own. -/
theorem wpList_more {P : Program} {w : World} {ops : Array Oper} {rest : List Oper} {o : Oper} {a : Act} {Q : Exit → Act → World → Prop} (base : Nat) (hgd : o.guard = none) (s x : Operand) (t e : TypeId)
    (ho : o.op = .call { callee := .builtin .append, args := #[s, x], argTypes := #[t, t] }) (ht : P.underlying t = some (.slice e))
    {z : Value} {bytes : Nat} (hinfo : (P.info? e).map (fun i => (i.zero, i.size, i.bytes)) = some (some z, 1, bytes)) (hz : z.cells.size = 1) (hb : bytes ≤ 1000)
    {v : Value} {n : Nat} {xs : List Value} (hown : w.ownsRow base e 1 v n xs) {u : Value} {ys : List Value} (hsl : Sl w u ys) (h1c : ∀ y ∈ ys, y.oneCell' = true) (hn : n + ys.length ≤ 100000000) (hbase : base ≤ w.heap.size)
    (hs : a.eval s = v) (hx : a.eval x = u)
    (h : ∀ v' w', w'.ownsRow base e 1 v' (n + ys.length) (xs ++ ys) → w.grownBy w' v.ownBlock → wpList P ops Q rest (a.put o.dst v') w') :
    wpList P ops Q (o :: rest) a w := by
  obtain ⟨i0, hi, hz0, hz1, hz2⟩ := info_parts hinfo
  obtain ⟨ao, cap, rfl, h1, h2, h3, hc⟩ := hsl
  cases ao with
  | none =>
    obtain rfl := h3 rfl
    have h0 : ys.length = 0 := by omega
    obtain rfl := List.eq_nil_of_length_eq_zero h0
    refine wpList_append_own_none hgd s x t ho base e i0 1 ht hi v n xs hs hown hx ?_
    refine h v w (by simpa using hown) ⟨rfl, rfl, rfl, Nat.le_refl _, fun _ _ _ => rfl⟩
  | some ad =>
    refine wpList_append_own _ hgd s x t ho base e i0 z 1 bytes ht hi hz0 hz1 hz2 hz (by decide) v n xs hs hown ad ys.length cap ys hx (by simp) (fun j y hj => hc j y hj) h1c (by unfold maxLen; omega) ?_ hbase ?_
    · have : (n + ys.length) * bytes ≤ 100000000 * 1000 := Nat.mul_le_mul hn hb
      omega
    · intro v' w' q1 q2 _
      exact h v' w' q1 q2
theorem byt_one (l : List UInt8) : ∀ y ∈ l.map Byt, y.oneCell' = true := by
  intro y hy
  obtain ⟨c, _, rfl⟩ := List.mem_map.1 hy
  rfl
/-- '[]byte{}' -/
theorem own_empty (w : World) (b e : Nat) (hb : b ≤ w.heap.size) : (w.alloc (.cells #[] e)).ownsRow b e 1 (.slice (some ⟨w.heap.size, 0, none⟩) 0 0) 0 [] :=
  ⟨rfl, .inr ⟨w.heap.size, 0, #[], rfl, hb, heap_alloc_new w _, by omega, by simp [maxLen], rfl, rfl⟩⟩

set_option maxHeartbeats 400000 in
theorem cut_any (v : Value) (l : List UInt8) (n : Nat) (w : World) (hv : SlB w v l) (hn : n ≤ 100000) :
    Calls Tryd.prog 14 #[v, .int .i64 (n : Int)] w fun e w' => ∃ v', e = .returned v' ∧ w'.ownsRow w.heap.size 5 1 v' (l.take n).length ((l.take n).map Byt) ∧ Ext w w' := by
  have hv1 := hv.ext ((Below.refl _ w).alloc (Nat.le_refl _) (.cells #[] 5))
  have ho := own_empty w w.heap.size 5 (Nat.le_refl _)
  have hv2 := hv1.headm (k := min l.length n) (by simp; omega)
  rw [← List.map_take, show l.take (min l.length n) = l.take n by rw [Nat.min_comm, List.take_eq_take_iff]; omega] at hv2
  obtain ⟨ao, cap, rfl, hcap, hmax, hnil, hcell⟩ := hv
  simp only [List.length_map] at hcap hv2 ⊢
  have hrun := run_headm (P := Tryd.prog) Tryd.underlying23 Tryd.sizeOf5 (ao := ao) hcap
  have hmin := run_min_nat Tryd.prog l.length n n rfl
  have hle : min l.length n ≤ l.length := Nat.min_le_left _ _
  have Hv := Lib.hid hv2; have Ho := Lib.hid ho; clear hv1 hv2 ho hcell
  generalize min l.length n = m at *
  go_enter Tryd.func14, Tryd.ntmps14
  go_wp2_with (at_builtin; refine wpList_more w.heap.size rfl _ _ 23 5 rfl Tryd.underlying23 infoByte rfl (by omega) Ho.out Hv.out (byt_one _) (by simp; omega) (by simp) rfl rfl ?_; rintro v' w1 hown1 hgr1)
  go_ret
  rw [List.length_map, Nat.zero_add, List.nil_append] at hown1
  exact ⟨_, rfl, hown1, ((Below.refl _ w).alloc (Nat.le_refl _) _).grown hgr1 (by simp) (by simp [Value.ownBlock])⟩

theorem cutText_any (l : List UInt8) (n : Nat) (w : World) (hn : n ≤ 100000) :
    Calls Tryd.prog 13 #[Str l, .int .i64 (n : Int)] w fun e w' => e = .returned (Str (l.take n)) ∧ w' = w := by
  have hmin := run_min_nat Tryd.prog l.length n n rfl
  have hle : min l.length n ≤ l.length := Nat.min_le_left _ _
  have hfin := Lib.hid (show l.take n = l.take (min l.length n) by rw [Nat.min_comm, List.take_eq_take_iff]; omega)
  generalize min l.length n = m at *
  go_enter Tryd.func13, Tryd.ntmps13
  go_wp2
  go_ret
  exact ⟨by rw [hfin.out]; rfl, rfl⟩
end Go.Proofs.YtjkbigecejogdaaDoor

namespace Go.Proofs.YtjkbigecejogdaaDoor
open Go.RowKit

/-- N items come, the i-th as 'encs i'; sz: the heap's size at the call; x: how many blocks are laid ahead of the first item; own sz: the blocks that it reads or writes; mu sz: those that it writes. -/
def Iter2 (P : Program) (gf : Nat) (lb : Array Value) (N : Nat) (encs : Nat → Array Value) (x : Nat) (own0 : Nat → Prop) (own mu : Nat → Nat → Prop) (w0 : World) : Prop :=
  ∀ (n l : Nat) (J Jx : Nat → World → Prop) (W : World), (∀ k, own0 k → W.heap[k]? = w0.heap[k]?) → w0.heap.size ≤ W.heap.size →
    (∀ i A C, J i A → Chg (mu W.heap.size) A C → J i C) → (∀ i A C, Jx i A → Chg (mu W.heap.size) A C → Jx i C) →
    (∀ m i W1, i < N → J i W1 → W.heap.size + x ≤ W1.heap.size → YieldAt Fence.wide m P l (encs i) W1 fun e W' =>
      (e = .returned (.bool true) ∧ J (i + 1) W' ∧ W1.heap.size ≤ W'.heap.size ∧ ∀ k, own W.heap.size k → W'.heap[k]? = W1.heap[k]?) ∨ (e = .returned (.bool false) ∧ Jx i W' ∧ W1.heap.size ≤ W'.heap.size ∧ ∀ k, own W.heap.size k → W'.heap[k]? = W1.heap[k]?)) →
    J 0 W → CallsIn Fence.wide n P gf (#[.func (.yield l) #[] #[]] ++ lb) W fun e W' => (∃ v, e = .returned v) ∧ (J N W' ∨ ∃ i, i < N ∧ Jx i W')

section
variable {P : Program}
/-- The rounds, the record being laid at l. -/
theorem range_core2 {l : Nat} {fn : FuncId} {rec : LoopState → Option Code → Loop} {tmps : Array Value} {ps : Array Tmp} {assign body : Code} {d : Nat}
    (hrec : rec = fun st pe => { state := st, pending := pe, fn, tmps, params := ps, assign, body, defers := d })
    {gf : Nat} {lb : Array Value} {N : Nat} {encs : Nat → Array Value} {x : Nat} {own0 : Nat → Prop} {own2 mu2 : Nat → Nat → Prop} {w0 : World} (hit : Iter2 P gf lb N encs x own0 own2 mu2 w0) {own mu : Nat → Prop} {sz : Nat} (ho : own = own2 sz) (hmu : mu = mu2 sz)
    (B : Nat) (hown : ∀ k, own k → k ≠ l) (hmut : ¬ mu l) (hB : B ≤ l) (hps : ∀ i, (encs i).size = ps.size)
    (I : Nat → World → Prop) (Ix : Code → Nat → World → Prop)
    (hI : ∀ i A C, I i A → kind? A l = none → Chg (fun k => mu k ∨ k = l) A C → I i C) (hIx : ∀ c i A C, Ix c i A → kind? A l = none → Chg (fun k => mu k ∨ k = l) A C → Ix c i C)
    (hround : ∀ m i W, i < N → I i W → sz + x ≤ W.heap.size → (∃ r, W.heap[l]? = some (.loop r)) →
      assign.wpIn (Fence.wide.inRound l) m P (Exit.then (fun a1 W1 => Kp B own W W1 ∧ ∀ W2, kind? W1 l = none → Chg (fun k => k = l) W1 W2 → (∃ r, W2.heap[l]? = some (.loop r)) → body.wpIn (Fence.wide.inRound l) m P (roundOut B own I Ix i W2) a1 W2) (fun _ _ _ => False))
        { tmps := (ps.zip (encs i)).foldl (fun t (p, v) => t.setIfInBounds p v) tmps, defers := [] } W)
    (n : Nat) (W1 : World) (hs1 : W1.heap.size = sz) (hW : ∀ k, own0 k → W1.heap[k]? = w0.heap[k]?) (hsz : w0.heap.size ≤ W1.heap.size) (hL : W1.heap[l]? = some (.loop (rec .ready none))) (h0 : I 0 W1) :
    CallsIn Fence.wide n P gf (#[.func (.yield l) #[] #[]] ++ lb) W1 fun e W2 => (∃ v, e = .returned v) ∧
      ((I N W2 ∧ W2.heap[l]? = some (.loop (rec .ready none))) ∨ ∃ i c, i < N ∧ Ix c i W2 ∧ W2.heap[l]? = some (.loop (rec .done (some c)))) := by
  have hit' := fun J Jx => hit n l J Jx W1 hW hsz
  rw [hs1, ← ho, ← hmu] at hit'
  refine (hit' (fun i W => I i W ∧ W.heap[l]? = some (.loop (rec .ready none))) (fun i W => ∃ c, Ix c i W ∧ W.heap[l]? = some (.loop (rec .done (some c)))) ?_ ?_ ?_ ⟨h0, hL⟩).mono ?_
  · rintro i A C ⟨hi, hl⟩ hc
    exact ⟨hI i A C hi (kind_none hl rfl) (hc.mono fun k h => .inl h), (hc.block l (Array.getElem?_eq_some_iff.1 hl).1 hmut).trans hl⟩
  · rintro i A C ⟨c, hi, hl⟩ hc
    exact ⟨c, hIx c i A C hi (kind_none hl rfl) (hc.mono fun k h => .inl h), (hc.block l (Array.getElem?_eq_some_iff.1 hl).1 hmut).trans hl⟩
  · rintro m i W hlt ⟨hi, hl⟩ hszx
    have hy := run_yield (P := P) (args := encs i) hl (by rw [hrec]; exact hps i)
    rw [hrec] at hy
    refine ⟨fn, _, assign, body, hy, roundIn_of_wpIn trivial (wpIn_mono (hround m i W hlt hi hszx ⟨_, hl⟩) ?_)⟩
    rintro e a1 Wa hp
    cases e with
    | normal =>
      obtain ⟨hk1, hr1⟩ := hp
      have hlw : l < W.heap.size := (Array.getElem?_eq_some_iff.1 hl).1
      have hla : Wa.heap[l]? = some (.loop (rec .ready none)) := (hk1.other l hlw hB (kind_none hl rfl)).trans hl
      refine ⟨_, run_beginRound hla (by rw [hrec]), ?_⟩
      have hlta : l < Wa.heap.size := (Array.getElem?_eq_some_iff.1 hla).1
      obtain ⟨Wb, hWb⟩ : ∃ Wb, Wa.putObj l (.loop { rec .ready none with state := .busy }) = Wb := ⟨_, rfl⟩
      have hlb : Wb.heap[l]? = some (.loop { rec .ready none with state := .busy }) := by rw [← hWb]; exact World.putObj_heap_same hlta
      have hcb : Chg (fun k => k = l) Wa Wb := by rw [← hWb]; exact Chg.putObj _ hla rfl rfl
      rw [hWb]
      refine wpIn_mono (hr1 Wb (kind_none hla rfl) hcb ⟨_, hlb⟩) ?_
      have hownWb : ∀ k, own k → Wb.heap[k]? = W.heap[k]? := fun k hk => by
        rw [← hWb, World.putObj_heap_other (hown k hk)]; exact hk1.own k hk
      have hszb : W.heap.size ≤ Wb.heap.size := Nat.le_trans hk1.size hcb.size
      have fin : ∀ (jump : Option Code) (W3 : World), Kp B own Wb W3 →
          (Instr.endRound l jump).run P W3 = .ok (.bool jump.isNone) (W3.putObj l (.loop (rec (if jump.isNone then .ready else .done) jump))) ∧ kind? W3 l = none ∧
          Chg (fun k => mu k ∨ k = l) W3 (W3.putObj l (.loop (rec (if jump.isNone then .ready else .done) jump))) ∧
          (W3.putObj l (.loop (rec (if jump.isNone then .ready else .done) jump))).heap[l]? = some (.loop (rec (if jump.isNone then .ready else .done) jump)) := fun jump W3 hk3 => by
        have hl3 : W3.heap[l]? = some (.loop { rec .ready none with state := .busy }) := (hk3.other l (Array.getElem?_eq_some_iff.1 hlb).1 hB (kind_none hlb rfl)).trans hlb
        have := run_endRound (P := P) jump hl3
        refine ⟨?_, kind_none hl3 rfl, (Chg.putObj _ hl3 rfl rfl).mono fun k h => .inr h, World.putObj_heap_same (Array.getElem?_eq_some_iff.1 hl3).1⟩
        rw [hrec] at this ⊢
        exact this
      rintro e a3 W3 hp
      cases e with
      | normal =>
        obtain ⟨hk3, hi3⟩ := hp
        obtain ⟨hr, hn3, hc3, hl4⟩ := fin none W3 hk3
        refine ⟨_, _, hr, .inl ⟨rfl, ⟨hI _ _ _ hi3 hn3 hc3, hl4⟩, Nat.le_trans hszb (Nat.le_trans hk3.size hc3.size), fun k hk => ?_⟩⟩
        rw [World.putObj_heap_other (hown k hk)]
        exact (hk3.own k hk).trans (hownWb k hk)
      | ret =>
        obtain ⟨hk3, hi3⟩ := hp
        obtain ⟨hr, hn3, hc3, hl4⟩ := fin (some .ret) W3 hk3
        refine ⟨_, _, hr, .inr ⟨rfl, ⟨.ret, hIx _ _ _ _ hi3 hn3 hc3, hl4⟩, Nat.le_trans hszb (Nat.le_trans hk3.size hc3.size), fun k hk => ?_⟩⟩
        rw [World.putObj_heap_other (hown k hk)]
        exact (hk3.own k hk).trans (hownWb k hk)
      | exit id =>
        obtain ⟨hk3, hi3⟩ := hp
        obtain ⟨hr, hn3, hc3, hl4⟩ := fin (some (.exit id)) W3 hk3
        refine ⟨_, _, hr, .inr ⟨rfl, ⟨(.exit id), hIx _ _ _ _ hi3 hn3 hc3, hl4⟩, Nat.le_trans hszb (Nat.le_trans hk3.size hc3.size), fun k hk => ?_⟩⟩
        rw [World.putObj_heap_other (hown k hk)]
        exact (hk3.own k hk).trans (hownWb k hk)
      | goto t =>
        obtain ⟨hk3, hi3⟩ := hp
        obtain ⟨hr, hn3, hc3, hl4⟩ := fin (some (.goto t)) W3 hk3
        refine ⟨_, _, hr, .inr ⟨rfl, ⟨(.goto t), hIx _ _ _ _ hi3 hn3 hc3, hl4⟩, Nat.le_trans hszb (Nat.le_trans hk3.size hc3.size), fun k hk => ?_⟩⟩
        rw [World.putObj_heap_other (hown k hk)]
        exact (hk3.own k hk).trans (hownWb k hk)
      | panic ch => exact hp.elim
      | outgrown => exact hp.elim
    | ret => exact hp.elim
    | exit id => exact hp.elim
    | goto t => exact hp.elim
    | panic ch => exact hp.elim
    | outgrown => exact hp.elim
  · rintro e W2 ⟨hv, (⟨hi, hl⟩ | ⟨i, hlt, c, hi, hl⟩)⟩
    · exact ⟨hv, .inl ⟨hi, hl⟩⟩
    · exact ⟨hv, .inr ⟨i, c, hlt, hi, hl⟩⟩

/-- THE CALLER's LAW, outside every round. -/
theorem wpIn_range2 {g : Operand} {ps : Array Tmp} {assign body : Code} {Q : Exit → Act → World → Prop} {a : Act} {w : World} {n : Nat}
    {gf : Nat} {lb : Array Value} (hg : a.eval g = .func (.func gf) #[] lb) (eg : ∀ args w, (callFunc gf args).run P w = .ok (.enter gf args) w)
    {N : Nat} {encs : Nat → Array Value} {x : Nat} {own0 : Nat → Prop} {own mu : Nat → Nat → Prop} (hit : Iter2 P gf lb N encs x own0 own mu w) (hown0 : ∀ k, own0 k → k < w.heap.size) (hown : ∀ k, own (w.heap.size + 2) k → k ≠ w.heap.size ∧ k ≠ w.heap.size + 1) (hmut : ∀ k, mu (w.heap.size + 2) k → k ≠ w.heap.size ∧ k ≠ w.heap.size + 1) (hps : ∀ i, (encs i).size = ps.size)
    (I : Nat → World → Prop) (Ix : Code → Nat → World → Prop)
    (hI : ∀ i A C, I i A → Mv w.heap.size (mu (w.heap.size + 2)) A C → I i C) (hIx : ∀ c i A C, Ix c i A → Mv w.heap.size (mu (w.heap.size + 2)) A C → Ix c i C) (h0 : I 0 w)
    (hround : ∀ m l i W, i < N → I i W → w.heap.size + 2 + x ≤ W.heap.size → w.heap.size ≤ l → (∃ r, W.heap[l]? = some (.loop r)) →
      assign.wpIn (Fence.wide.inRound l) m P (Exit.then (fun a1 W1 => Kp w.heap.size (own (w.heap.size + 2)) W W1 ∧ ∀ W2, Mv w.heap.size (fun _ => False) W1 W2 → (∃ r, W2.heap[l]? = some (.loop r)) → body.wpIn (Fence.wide.inRound l) m P (roundOut w.heap.size (own (w.heap.size + 2)) I Ix i W2) a1 W2) (fun _ _ _ => False))
        { tmps := (ps.zip (encs i)).foldl (fun t (p, v) => t.setIfInBounds p v) a.tmps, defers := [] } W)
    (hdone : ∀ (D : Nat) (W : World), w.heap.size ≤ D → I N W → W.heap[D]? = some (.deferred (some [])) → Q .normal { a with defers := { target := .collected D, args := #[] } :: a.defers } W)
    (hstop : ∀ (D : Nat) (c : Code) (i : Nat) (W : World), w.heap.size ≤ D → i < N → Ix c i W → W.heap[D]? = some (.deferred (some [])) → c.wpIn Fence.wide n P Q { a with defers := { target := .collected D, args := #[] } :: a.defers } W) :
    (Code.rangeFunc g ps assign body).wpIn Fence.wide n P Q a w := by
  refine wpIn_rangeFunc ?_
  intro fn hfn
  obtain ⟨rec, hrec⟩ : ∃ rec : LoopState → Option Code → Loop, rec = fun st pe => { state := st, pending := pe, fn, tmps := a.tmps, params := ps, assign, body, defers := w.heap.size } := ⟨_, rfl⟩
  obtain ⟨W1, hW1⟩ : ∃ W1, (w.alloc (.deferred (some []))).alloc (.loop (rec .ready none)) = W1 := ⟨_, rfl⟩
  have hL1 : W1.heap[w.heap.size + 1]? = some (.loop (rec .ready none)) := by
    rw [← hW1]; have := World.alloc_heap_new (w.alloc (.deferred (some []))) (.loop (rec .ready none)); rwa [World.size_alloc] at this
  have hK1 : W1.heap[w.heap.size]? = some (.deferred (some [])) := by
    rw [← hW1]; exact (Below.heap_alloc _ _ _ (by simp)).trans (World.alloc_heap_new w _)
  have hc1 : Chg (fun _ => False) w W1 := by rw [← hW1]; exact (Chg.alloc _ w _).trans (Chg.alloc _ _ _)
  have hI1 : I 0 W1 := hI _ _ _ h0 (hc1.mv fun _ h => h.elim)
  refine ⟨w.heap.size + 1, [{ target := .collected w.heap.size, args := #[] }], W1, { target := .fn (.func gf) lb, args := #[.func (.yield (w.heap.size + 1)) #[] #[]] }, W1, gf,
    #[.func (.yield (w.heap.size + 1)) #[] #[]] ++ lb, W1, ?_, ?_, ?_, ?_, fun h => by simp [Fence.wide] at h, ?_⟩
  · rw [← hW1, hrec]; exact run_enterLoop_outer _ _ _ _ _
  · simp only [resolve, hg]
    simp [go_sem]
  · intro f' _; trivial
  · simp [invoke, go_sem, eg]
  · have lift : ∀ {A C : World}, kind? A (w.heap.size + 1) = none → Chg (fun k => mu (w.heap.size + 2) k ∨ k = w.heap.size + 1) A C → Mv w.heap.size (mu (w.heap.size + 2)) A C := fun hn hc => hc.mv fun k h => by
      rcases h with h | rfl
      · exact .inl h
      · exact .inr ⟨by omega, hn⟩
    have keepD : ∀ {A C : World}, A.heap[w.heap.size]? = some (.deferred (some [])) → Chg (fun k => mu (w.heap.size + 2) k ∨ k = w.heap.size + 1) A C → C.heap[w.heap.size]? = some (.deferred (some [])) := fun hd hc =>
      (hc.block _ (Array.getElem?_eq_some_iff.1 hd).1 (fun h => by
        rcases h with h | h
        · exact (hmut _ h).1 rfl
        · omega)).trans hd
    have hs1 : W1.heap.size = w.heap.size + 2 := by rw [← hW1]; simp
    refine (range_core2 (P := P) hrec hit rfl rfl w.heap.size (fun k h => (hown k h).2) (fun h => (hmut _ h).2 rfl) (Nat.le_succ _) hps
      (fun i W => I i W ∧ W.heap[w.heap.size]? = some (.deferred (some []))) (fun c i W => Ix c i W ∧ W.heap[w.heap.size]? = some (.deferred (some [])))
      (fun i A C h hn hc => ⟨hI i A C h.1 (lift hn hc), keepD h.2 hc⟩) (fun c i A C h hn hc => ⟨hIx c i A C h.1 (lift hn hc), keepD h.2 hc⟩)
      ?_ (n - 1) W1 hs1 (fun k hk => hc1.block k (hown0 k hk) (fun h => h)) hc1.size hL1 ⟨hI1, hK1⟩).mono ?_
    · rintro m i W hlt ⟨hi, hd⟩ hszx hr
      refine wpIn_mono (hround m _ i W hlt hi hszx (Nat.le_succ _) hr) ?_
      rintro e a1 Wa hp
      cases e <;> simp only [Exit.then] at hp ⊢
      have hda := (hp.1.other _ (Array.getElem?_eq_some_iff.1 hd).1 (Nat.le_refl _) (kind_none hd rfl)).trans hd
      refine ⟨hp.1, fun Wb hkb hcb hrb => ?_⟩
      have hdb := keepD hda (hcb.mono fun k h => .inr h)
      refine wpIn_mono (hp.2 Wb (hcb.mv fun k h => .inr (by subst h; exact ⟨Nat.le_succ _, hkb⟩)) hrb) ?_
      rintro e a2 W2 hp2
      cases e <;> simp only [roundOut] at hp2 ⊢ <;> exact ⟨hp2.1, hp2.2, (hp2.1.other _ (Array.getElem?_eq_some_iff.1 hdb).1 (Nat.le_refl _) (kind_none hdb rfl)).trans hdb⟩
    · rintro e W2 ⟨⟨v, rfl⟩, (⟨⟨hi, hd⟩, hl⟩ | ⟨i, c, hlt, ⟨hi, hd⟩, hl⟩)⟩
      · have he := run_endLoop (P := P) hl (by rw [hrec]; simp)
        have hc := (Chg.putObj (.loop { rec .ready none with state := .exhausted }) hl rfl rfl).mono (T := fun k => mu (w.heap.size + 2) k ∨ k = w.heap.size + 1) fun k h => .inr h
        exact ⟨none, _, by rw [hrec] at he; rw [hrec]; exact he, hdone _ _ (Nat.le_refl _) (hI _ _ _ hi (lift (kind_none hl rfl) hc)) (keepD hd hc)⟩
      · have he := run_endLoop (P := P) hl (by rw [hrec]; simp)
        have hc := (Chg.putObj (.loop { rec .done (some c) with state := .exhausted }) hl rfl rfl).mono (T := fun k => mu (w.heap.size + 2) k ∨ k = w.heap.size + 1) fun k h => .inr h
        exact ⟨some c, _, by rw [hrec] at he; rw [hrec]; exact he, hstop _ c i _ (Nat.le_refl _) hlt (hIx _ _ _ _ hi (lift (kind_none hl rfl) hc)) (keepD hd hc)⟩
end
end Go.Proofs.YtjkbigecejogdaaDoor

namespace Go.Proofs.YtjkbigecejogdaaDoor
open Go.RowKit
set_option linter.unusedVariables false

section
variable {P : Program} {r : Option Nat} {n : Nat} {ops : Array Oper} {md : Region.Mode}
theorem oper_unround {o : Oper} {a : Act} {K : Act → World → Prop} {Q : Exit → Act → World → Prop} {w : World} (hd : ∀ c, o.op ≠ .defer c) (h : o.wpIn Fence.wide n P a w K Q) : o.wpIn (Wd r) n P a w K Q := by
  unfold Oper.wpIn at h ⊢
  refine ⟨h.1, ?_⟩
  have h2 := h.2
  rw [Oper.semAt_eq _ _ _ hd] at h2 ⊢
  exact h2
theorem wpAnyIn_unround {Q : Exit → Act → World → Prop} (hd : ∀ (i : Nat) (o : Oper), ops[i]? = some o → ∀ c, o.op ≠ .defer c) : ∀ (fuel : Nat) (listed : Array Bool) (a : Act) (w : World),
    wpAnyIn Fence.wide n P md ops Q fuel listed a w → wpAnyIn (Wd r) n P md ops Q fuel listed a w
  | 0, _, _, _, h => ⟨h.1, h.2⟩
  | fuel + 1, listed, a, w, h => ⟨h.1, fun i hi => by
      have h1 := h.2 i hi
      unfold wpOpIn at h1 ⊢
      split
      · rename_i ho; simp only [ho] at h1; exact wpAnyIn_unround hd fuel _ _ _ h1
      · rename_i o ho
        simp only [ho] at h1
        split
        · rename_i hw
          simp only [hw, if_true] at h1
          exact Oper.wpIn_mono (fun a' w' h' => wpAnyIn_unround hd fuel _ a' w' h') (oper_unround (hd i o ho) h1)
        · rename_i hw
          simp only [hw] at h1
          exact ⟨h1.1, wpAnyIn_unround hd fuel _ _ _ h1.2⟩⟩
theorem wpIn_region_unround {id : Nat} {Q : Exit → Act → World → Prop} {a : Act} {w : World} {l : List Oper} (hm : P.follows .mixedOrders = true) (hd : noDefer l = true)
    (h : wpAnyIn Fence.wide n P .any l.toArray Q l.toArray.size (Array.replicate l.toArray.size false) a w.drew) : (Code.region id l.toArray true).wpIn (Wd r) n P Q a w :=
  wpIn_region_any hm (wpAnyIn_unround (fun i o ho => noDefer_spec hd ho) _ _ _ _ h)
end
end Go.Proofs.YtjkbigecejogdaaDoor

namespace Go.Proofs.YtjkbigecejogdaaDoor
open Go.RowKit
set_option linter.unusedVariables false
set_option linter.unusedSimpArgs false

theorem ownz_base {w : World} {B B' e z : Nat} {v : Value} {n : Nat} {xs : List Value} (h : w.ownsRow B e z v n xs) (hb : B' ≤ B) : w.ownsRow B' e z v n xs := by
  refine ⟨h.1, ?_⟩
  rcases h.2 with hn | ⟨g, cap, cur, hv, hbg, r⟩
  · exact .inl hn
  · exact .inr ⟨g, cap, cur, hv, by omega, r⟩
theorem ownz_keep {w w' : World} {B e z : Nat} {v : Value} {n : Nat} {xs : List Value} (h : w.ownsRow B e z v n xs) (hk : ∀ g, v.ownBlock = some g → B ≤ g → kind? w g = some e → w'.heap[g]? = w.heap[g]?) : w'.ownsRow B e z v n xs := by
  refine ⟨h.1, ?_⟩
  rcases h.2 with hn | ⟨g, cap, cur, rfl, hbg, hg, r⟩
  · exact .inl hn
  · exact .inr ⟨g, cap, cur, rfl, hbg, (hk g rfl hbg (kind_of_cells hg)).trans hg, r⟩
theorem ownz_mv {B B0 e z : Nat} {mu : Nat → Prop} {A C : World} {v : Value} {n : Nat} {xs : List Value} (h : A.ownsRow B0 e z v n xs) (hm : Mv B mu A C) (h1 : ∀ k, mu k → k < B0) : C.ownsRow B0 e z v n xs :=
  ownz_keep h fun g _ hbg hk => hm.block g (kind_lt hk) (fun h' => by have := h1 g h'; omega) (.inr ⟨e, hk⟩)
theorem ownz_put {B0 e z : Nat} {A : World} {v : Value} {n : Nat} {xs : List Value} {D : Nat} {o o' : Obj} (h : A.ownsRow B0 e z v n xs) (hD : A.heap[D]? = some o) (ho : o.isCells = false := by rfl) : (A.putObj D o').ownsRow B0 e z v n xs :=
  ownz_keep h fun g _ _ hk => World.putObj_heap_other (fun e' => by subst e'; rw [kind_none hD ho] at hk; cases hk)
theorem ownz_ext {B0 e z : Nat} {A C : World} {v : Value} {n : Nat} {xs : List Value} (h : A.ownsRow B0 e z v n xs) (he : Ext A C) : C.ownsRow B0 e z v n xs :=
  ownz_keep h fun g _ _ hk => he.block g (kind_lt hk)

/-- A store into one cell of a block. -/
theorem set_at {W : World} {k j : Nat} {c : Array Value} {t : TypeId} {f : Nat × Nat} {u : Value} (h : W.heap[k]? = some (.cells c t f)) : (W.setCell ⟨k, j, none⟩ u).heap[k]? = some (.cells (c.setIfInBounds j u) t f) := by
  simp [World.setCell, Array.getElem?_modify, h]

/-- An append of one element of z cells to an owned row, as one step of a region. -/
theorem stepIn_push {fn : Nat} {P : Program} {w : World} {ops : Array Oper} {o : Oper} {a : Act} {K : Act → World → Prop} {Q : Exit → Act → World → Prop} {E : Prop} (base : Nat) (hgd : o.guard = none) (s x : Operand) (t e : TypeId)
    (ho : o.op = .call { callee := .builtin .append, args := #[s, x], argTypes := #[t, t] }) (ht : P.underlying t = some (.slice e))
    {z : Value} {sz bytes : Nat} (hinfo : (P.info? e).map (fun i => (i.zero, i.size, i.bytes)) = some (some z, sz, bytes)) (hz : z.cells.size = sz) (h0 : 0 < sz) (hb : bytes ≤ 1000)
    {v : Value} {n : Nat} {xs us : List Value} (hown : w.ownsRow base e sz v n xs) (hul : us.length = sz) (hu : ∀ u ∈ us, u.oneCell' = true) (hn : n + 1 ≤ 100000000) (hbase : base ≤ w.heap.size)
    (hs : a.eval s = v) (hx : a.eval x = .slice (some ⟨w.heap.size, 0, none⟩) 1 1)
    (h : ∀ v' w', (∃ g cap, v' = .slice (some ⟨g, 0, none⟩) (n + 1) cap) → w'.ownsRow base e sz v' (n + 1) (xs ++ us) → w.grownBy w' v.ownBlock → K (a.put o.dst v') w') :
    if Region.wanted o (yielded ops a.tmps) = true then Oper.wpIn Fence.wide fn P o a (w.alloc (.cells us.toArray e)) K Q else E := by
  have hw : Region.wanted o (yielded ops a.tmps) = true := by simp [Region.wanted, hgd]
  rw [if_pos hw]
  obtain ⟨i0, hi, hz0, hz1, hz2⟩ := info_parts hinfo
  obtain ⟨v', w', hrun, h1, h2, _⟩ := run_append_own (P := P) (w.alloc (.cells us.toArray e)) base t o.type e i0 z sz bytes ht hi hz0 hz1 hz2 hz h0 v n xs (hown.alloc _) ⟨w.heap.size, 0, none⟩ 1 1 us (by omega)
    (fun j y hj => by
      show (w.alloc (.cells us.toArray e)).cell? ((⟨w.heap.size, 0, none⟩ : Addr).add j) = some y
      have : ((⟨w.heap.size, 0, none⟩ : Addr).add j) = ⟨w.heap.size, j, none⟩ := by have := adr_some w.heap.size 0 j; rw [Nat.zero_add] at this; exact this
      rw [this]
      simp only [World.cell?]
      rw [show (w.alloc (.cells us.toArray e)).heap[w.heap.size]? = some (.cells us.toArray e) from heap_alloc_new w _]
      simpa using hj)
    hu (by unfold maxLen; omega)
    (by have : (n + 1) * bytes ≤ 100000000 * 1000 := Nat.mul_le_mul hn hb
        omega) (by simp; omega)
  unfold Oper.wpIn
  refine ⟨fun _ _ => trivial, ?_⟩
  rw [Oper.semAt_eq _ _ _ (by rw [ho]; intro c; simp)]
  simp [execOp, ho, resolve, invoke, builtin, hs, hx, hrun, Result.andThen]
  refine h v' w' ?_ h1 (grownBy_from h2)
  rcases h1.2 with ⟨_, h0⟩ | ⟨g, cap, cur, hv, _⟩
  · omega
  · exact ⟨g, cap, hv⟩
end Go.Proofs.YtjkbigecejogdaaDoor

namespace Go.Proofs.YtjkbigecejogdaaDoor
open Go.RowKit
set_option linter.unusedVariables false

/-- A world in which all that lay is as it was in W. -/
structure ExtW (W : World) where
  w : World
  h : Ext W w
instance ExtW.nonempty (W : World) : Nonempty (ExtW W) := ⟨⟨W, ext_refl W⟩⟩
theorem wp_region_ext {P : Program} {id : Nat} {Q : Exit → Act → World → Prop} {a : Act} {W : World} {l : List Oper} (hm : P.follows .mixedOrders = true) (hB : Region.lexB .any l.toArray = true)
    (h : wpQuiet P l.toArray (fun w' => ∃ x : ExtW W, w' = x.w) (fun a' => ∀ w', (∃ x : ExtW W, w' = x.w) → Q .normal a' w') l a) : (Code.region id l.toArray true).wp P Q a W :=
  wp_region_quiet (C := fun w' => ∃ x : ExtW W, w' = x.w) hm hB ⟨⟨W.drew, Below.drew (Below.refl _ _)⟩, rfl⟩ (by simpa using h)
theorem Calls.ext_of {P : Program} {f : FuncId} {args : Array Value} {W : World} {v : Value} (x : ExtW W) (h : Calls P f args x.w fun e w' => e = .returned v ∧ Ext x.w w') :
    Calls P f args x.w fun e w'' => e = .returned v ∧ ∃ y : ExtW W, w'' = y.w :=
  h.mono fun _ w' ⟨he, hx⟩ => ⟨he, ⟨w', ext_trans x.h hx⟩, rfl⟩
theorem ExtW.cell {W : World} {a : Addr} {v : Value} (h : W.cell? a = some v) : ∀ x : ExtW W, x.w.cell? a = some v := fun x => ext_cell x.h h
end Go.Proofs.YtjkbigecejogdaaDoor

namespace Go.Proofs.YtjkbigecejogdaaDoor
open Go.RowKit
set_option linter.unusedVariables false
set_option linter.unusedSimpArgs false

/-! ### Rows of structs -/
section
variable {α : Type}
/-- A slice whose elements have z cells each: they read as a list. -/
def RowC (z : Nat) (f : α → List Value) (W : World) (v : Value) (xs : List α) : Prop :=
  ∃ ao cap, v = .slice ao xs.length cap ∧ ((ao = none ∧ cap = 0) ∨ ∃ a, ao = some a) ∧ xs.length ≤ cap ∧ cap ≤ maxLen ∧
    (xs ≠ [] → ∃ g o, ao = some ⟨g, o, none⟩ ∧ ∀ (j : Nat) x, xs[j]? = some x → ∀ (i : Nat) u, (f x)[i]? = some u → W.cell? ⟨g, o + (z * j + i), none⟩ = some u)
theorem flat_get (z : Nat) (f : α → List Value) (hf : ∀ x, (f x).length = z) : ∀ (xs : List α) (j : Nat) (x : α), xs[j]? = some x → ∀ (i : Nat) u, (f x)[i]? = some u → (xs.flatMap f)[z * j + i]? = some u
  | [], j, x, h, _, _, _ => by simp at h
  | y :: xs, 0, x, h, i, u, hu => by
    simp at h; subst h
    have : i < (f y).length := (List.getElem?_eq_some_iff.1 hu).1
    rw [List.flatMap_cons, Nat.mul_zero, Nat.zero_add, List.getElem?_append_left this]; exact hu
  | y :: xs, j + 1, x, h, i, u, hu => by
    have ih := flat_get z f hf xs j x (by simpa using h) i u hu
    rw [List.flatMap_cons, List.getElem?_append_right (by rw [hf, Nat.mul_succ]; omega), hf]
    rw [show z * (j + 1) + i - z = z * j + i by rw [Nat.mul_succ]; omega]
    exact ih
theorem rowC_of_own {z : Nat} {f : α → List Value} (hf : ∀ x, (f x).length = z) {W : World} {B e : Nat} {v : Value} {xs : List α} (h : W.ownsRow B e z v xs.length (xs.flatMap f)) : RowC z f W v xs := by
  rcases h.2 with ⟨hn, h0⟩ | ⟨g, cap, cur, hv, hbg, hg, hn, hm, _, ht⟩
  · exact ⟨none, 0, by rw [hn, h0], .inl ⟨rfl, rfl⟩, by omega, by simp [maxLen], fun h => absurd (List.eq_nil_of_length_eq_zero h0) h⟩
  · refine ⟨_, cap, hv, .inr ⟨_, rfl⟩, hn, hm, fun _ => ⟨g, 0, rfl, fun j x hj i u hu => ?_⟩⟩
    have a := flat_get z f hf xs j x hj i u hu
    rw [← ht, List.getElem?_take] at a
    split at a
    · rw [Nat.zero_add, cell_of_row W g _ cur e (0, 0) hg, ← Array.getElem?_toList]; exact a
    · cases a
theorem RowC.ext {z : Nat} {f : α → List Value} {W C : World} {v : Value} {xs : List α} (h : RowC z f W v xs) (he : Ext W C) : RowC z f C v xs := by
  obtain ⟨ao, cap, hv, h0, h1, h2, h3⟩ := h
  refine ⟨ao, cap, hv, h0, h1, h2, fun hne => ?_⟩
  obtain ⟨g, o, ha, hc⟩ := h3 hne
  exact ⟨g, o, ha, fun j x hj i u hu => ext_cell he (hc j x hj i u hu)⟩
/-- Where its cells lie. -/
def rblk (v : Value) (n k : Nat) : Prop := 0 < n ∧ v.ownBlock = some k
theorem RowC.keep {z : Nat} {f : α → List Value} {W C : World} {v : Value} {xs : List α} (h : RowC z f W v xs) (he : ∀ k, rblk v xs.length k → C.heap[k]? = W.heap[k]?) : RowC z f C v xs := by
  obtain ⟨ao, cap, hv, h0, h1, h2, h3⟩ := h
  refine ⟨ao, cap, hv, h0, h1, h2, fun hne => ?_⟩
  obtain ⟨g, o, ha, hc⟩ := h3 hne
  refine ⟨g, o, ha, fun j x hj i u hu => ?_⟩
  refine (World.cell?_of_block (w := W) (w' := C) ?_).trans (hc j x hj i u hu)
  exact he g ⟨List.length_pos_iff.2 hne, by rw [hv, ha]; rfl⟩
theorem rowC_lt {z : Nat} {f : α → List Value} {W : World} {v : Value} {xs : List α} (h : RowC z f W v xs) (hf : ∀ x, f x ≠ []) {k : Nat} (hk : rblk v xs.length k) : k < W.heap.size := by
  obtain ⟨ao, cap, hv, h0, h1, h2, h3⟩ := h
  have hne : xs ≠ [] := List.length_pos_iff.1 hk.1
  obtain ⟨g, o, ha, hc⟩ := h3 hne
  have hkg : k = g := by have := hk.2; rw [hv, ha] at this; simp [Value.ownBlock] at this; exact this.symm
  subst hkg
  match xs, hne with
  | x :: xs, _ =>
    match hx : f x, hf x with
    | u :: us, _ => exact World.block_lt_of_cell? W _ (hc 0 x rfl 0 u (by rw [hx]; rfl))
end
section
variable {α : Type}
theorem flat_len (z : Nat) (f : α → List Value) (hf : ∀ x, (f x).length = z) : ∀ xs : List α, (xs.flatMap f).length = xs.length * z
  | [] => by simp
  | x :: xs => by rw [List.flatMap_cons, List.length_append, hf, flat_len z f hf xs, List.length_cons, Nat.succ_mul]; omega
theorem flat_at (z : Nat) (f : α → List Value) (hf : ∀ x, (f x).length = z) (hz : 0 < z) (xs : List α) (k : Nat) (u : Value) (h : (xs.flatMap f)[k]? = some u) : ∃ x, xs[k / z]? = some x ∧ (f x)[k % z]? = some u := by
  have hk : k < xs.length * z := by rw [← flat_len z f hf]; exact (List.getElem?_eq_some_iff.1 h).1
  have hq : k / z < xs.length := (Nat.div_lt_iff_lt_mul hz).2 hk
  refine ⟨xs[k / z], List.getElem?_eq_getElem hq, ?_⟩
  have hm : k % z < (f xs[k / z]).length := by rw [hf]; exact Nat.mod_lt _ hz
  have a := flat_get z f hf xs (k / z) _ (List.getElem?_eq_getElem hq) (k % z) _ (List.getElem?_eq_getElem hm)
  rw [Nat.div_add_mod, h] at a
  rw [List.getElem?_eq_getElem hm]; exact a.symm
/-- 'append(s, x...)', s the call's own; elements of z cells. -/
theorem wpList_moreC {P : Program} {w : World} {ops : Array Oper} {rest : List Oper} {o : Oper} {a : Act} {Q : Exit → Act → World → Prop} (base : Nat) (hgd : o.guard = none) (s x : Operand) (t e : TypeId)
    (ho : o.op = .call { callee := .builtin .append, args := #[s, x], argTypes := #[t, t] }) (ht : P.underlying t = some (.slice e))
    {z : Value} {sz bytes : Nat} (hinfo : (P.info? e).map (fun i => (i.zero, i.size, i.bytes)) = some (some z, sz, bytes)) (hz : z.cells.size = sz) (h0 : 0 < sz) (hb : bytes ≤ 1000)
    {v : Value} {n : Nat} {xs : List Value} (hown : w.ownsRow base e sz v n xs) {u : Value} {f : α → List Value} {ys : List α} (hf : ∀ x, (f x).length = sz) (hsl : RowC sz f w u ys) (h1c : ∀ y, ∀ c ∈ f y, c.oneCell' = true) (hn : n + ys.length ≤ 100000000) (hbase : base ≤ w.heap.size)
    (hs : a.eval s = v) (hx : a.eval x = u)
    (h : ∀ v' w', w'.ownsRow base e sz v' (n + ys.length) (xs ++ ys.flatMap f) → w.grownBy w' v.ownBlock → wpList P ops Q rest (a.put o.dst v') w') :
    wpList P ops Q (o :: rest) a w := by
  obtain ⟨i0, hi, hz0, hz1, hz2⟩ := info_parts hinfo
  obtain ⟨ao, cap, rfl, h3, h1, h2, hc⟩ := hsl
  have hby : (n + ys.length) * bytes ≤ 140737488355328 := by
    have : (n + ys.length) * bytes ≤ 100000000 * 1000 := Nat.mul_le_mul hn hb
    omega
  by_cases hne : ys = []
  · subst hne
    rcases h3 with ⟨rfl, rfl⟩ | ⟨ad, rfl⟩
    · refine wpList_append_own_none hgd s x t ho base e i0 sz ht hi v n xs hs hown hx ?_
      refine h v w (by simpa using hown) ⟨rfl, rfl, rfl, Nat.le_refl _, fun _ _ _ => rfl⟩
    · refine wpList_append_own _ hgd s x t ho base e i0 z sz bytes ht hi hz0 hz1 hz2 hz h0 v n xs hs hown ad 0 cap [] hx (by simp) (fun j y hj => by simp at hj) (fun y hy => by simp at hy) (by unfold maxLen; omega) hby hbase ?_
      intro v' w' q1 q2 _
      exact h v' w' q1 q2
  · obtain ⟨g, o', rfl, hcell⟩ := hc hne
    refine wpList_append_own _ hgd s x t ho base e i0 z sz bytes ht hi hz0 hz1 hz2 hz h0 v n xs hs hown ⟨g, o', none⟩ ys.length cap (ys.flatMap f) hx (flat_len sz f hf ys) (fun j y hj => ?_) (fun y hy => by obtain ⟨q, _, hq⟩ := List.mem_flatMap.1 hy; exact h1c q y hq) (by unfold maxLen; omega) hby hbase ?_
    · obtain ⟨q, hq1, hq2⟩ := flat_at sz f hf h0 ys j y hj
      have := hcell _ q hq1 _ y hq2
      rw [Nat.div_add_mod] at this
      rw [show (⟨g, o', none⟩ : Addr).add j = ⟨g, o' + j, none⟩ from adr_some g o' j]; exact this
    · intro v' w' q1 q2 _
      exact h v' w' q1 q2
end
/-- An append of one element of z cells (its cells lie in block g) to an owned row, as one step of a region outside every round. -/
theorem step_pushC {P : Program} {w : World} {ops : Array Oper} {o : Oper} {a : Act} {K : Act → World → Prop} {Q : Exit → Act → World → Prop} {E : Prop} {T : Array Value} (base : Nat) (hgd : o.guard = none) (s x : Operand) (t e : TypeId)
    (ho : o.op = .call { callee := .builtin .append, args := #[s, x], argTypes := #[t, t] }) (ht : P.underlying t = some (.slice e))
    {z : Value} {sz bytes : Nat} (hinfo : (P.info? e).map (fun i => (i.zero, i.size, i.bytes)) = some (some z, sz, bytes)) (hz : z.cells.size = sz) (h0 : 0 < sz) (hb : bytes ≤ 1000)
    {v : Value} {n : Nat} {xs us : List Value} (hown : w.ownsRow base e sz v n xs) (hul : us.length = sz) (hu : ∀ u ∈ us, u.oneCell' = true) (hn : n + 1 ≤ 100000000) (hbase : base ≤ w.heap.size)
    {g c : Nat} (hs : a.eval s = v) (hx : a.eval x = .slice (some ⟨g, 0, none⟩) 1 c) {e' : TypeId} {f' : Nat × Nat} (hg : w.heap[g]? = some (.cells us.toArray e' f'))
    (h : ∀ v' w', w'.ownsRow base e sz v' (n + 1) (xs ++ us) → w.grownBy w' v.ownBlock → K (a.put o.dst v') w') :
    if Region.wanted o (yielded ops T) = true then Oper.wp P o a w K Q else E := by
  have hw : Region.wanted o (yielded ops T) = true := by simp [Region.wanted, hgd]
  rw [if_pos hw]
  obtain ⟨i0, hi, hz0, hz1, hz2⟩ := info_parts hinfo
  refine wp_append_own w s x t ho base e i0 z sz bytes ht hi hz0 hz1 hz2 hz h0 v n xs hs hown ⟨g, 0, none⟩ 1 c us hx (by omega) (fun j y hj => ?_) hu (by unfold maxLen; omega) ?_ hbase (fun v' w' h2 h3 _ => h v' w' h2 h3)
  · have : ((⟨g, 0, none⟩ : Addr).add j) = ⟨g, j, none⟩ := by have := adr_some g 0 j; rw [Nat.zero_add] at this; exact this
    rw [this]
    simp only [World.cell?, hg]
    simpa using hj
  · have : (n + 1) * bytes ≤ 100000000 * 1000 := Nat.mul_le_mul hn hb
    omega
theorem ext_at {w w' : World} (h : Ext w w') {b : Nat} {o : Obj} (hc : w.heap[b]? = some o) : w'.heap[b]? = some o := (h.block b (Array.getElem?_eq_some_iff.1 hc).1).trans hc
theorem keep_row {w w' : World} {B e z : Nat} {v : Value} {n : Nat} {xs : List Value} (h : w.ownsRow B e z v n xs) (hgr : w.grownBy w' v.ownBlock) {k : Nat} {c : Array Value} {e' : TypeId} {f' : Nat × Nat} (hk : w.heap[k]? = some (.cells c e' f')) (hne : e' ≠ e) : w'.heap[k]? = some (.cells c e' f') := by
  refine (hgr.block k (Array.getElem?_eq_some_iff.1 hk).1 (fun h1 => ?_)).trans hk
  rcases h.2 with ⟨rfl, _⟩ | ⟨g, cap, cur, rfl, _, hg, _⟩
  · simp [Value.ownBlock] at h1
  · simp [Value.ownBlock] at h1
    subst h1
    rw [hk] at hg
    injection hg with hg
    injection hg with _ h2 _
    exact hne h2
theorem own_keep_row {w w' : World} {B e z : Nat} {v : Value} {n : Nat} {xs : List Value} (h : w.ownsRow B e z v n xs) (hgr : w.grownBy w' v.ownBlock) {B2 e2 z2 : Nat} {v2 : Value} {n2 : Nat} {xs2 : List Value} (h2 : w.ownsRow B2 e2 z2 v2 n2 xs2) (hne : e2 ≠ e) : w'.ownsRow B2 e2 z2 v2 n2 xs2 := by
  refine ⟨h2.1, ?_⟩
  rcases h2.2 with hn | ⟨g, cap, cur, hv, hb, hg, r⟩
  · exact .inl hn
  · exact .inr ⟨g, cap, cur, hv, hb, keep_row h hgr hg hne, r⟩
theorem ext_pushz {w0 w w' : World} {e z : TypeId} {v : Value} {n : Nat} {xs : List Value} (h : Ext w0 w) (hown : w.ownsRow w0.heap.size e z v n xs) (hg : w.grownBy w' v.ownBlock) : Ext w0 w' :=
  h.grown hg h.size (fun k hk => (hown.lt k hk).1)
end Go.Proofs.YtjkbigecejogdaaDoor

namespace Go.Proofs.YtjkbigecejogdaaDoor
open Go.ChangeShapes Go.WideShapes Go.Deep Go.RowKit
set_option linter.unusedVariables false
set_option linter.unusedSimpArgs false

section
variable {H : Type} {enc : TypeId × Value → H} {P : Program} {w : World} {base : Nat} {spare : Nat → Bool} {held : Bool}
theorem open_slice_fields {t e : TypeId} {fs : Array Field} {fuel : Nat} {cs : List Value} {x : DataW H × List MemPlace} (ht : P.underlying t = some (.slice e)) (he : P.underlying e = some (.struct fs))
    (hone : oneCellFields P fs = true) (hC : P.cellsOf e = fs.size) (h : DataW.trod enc P w base spare held fuel t cs = some x) :
    (cs = [.slice none 0 0] ∧ x = (.nil, [])) ∨
    ∃ (a : Addr) (len cap m : Nat) (D : Nat → DataW H) (Pl : Nat → List MemPlace), cs = [.slice (some a) len cap] ∧ base ≤ a.block ∧ len ≤ cap ∧ cap ≤ maxLen ∧ m = (if spare a.block then cap else len) ∧
      x = (.slice ((List.range len).map D) ((List.range (m - len)).map fun j => D (len + j)), MemPlace.row a (m * fs.size) ++ (List.range m).flatMap Pl) ∧
      ∀ i, i < m → ∃ (ys : List (DataW H × List MemPlace)) (n : Nat), D i = .agg (ys.map (·.1)) ∧ Pl i = ys.flatMap (·.2) ∧ ys.length = fs.size ∧
        ∀ (j : Nat) (f : Field), fs[j]? = some f → ∃ (v : Value) (y : DataW H × List MemPlace), w.cell? (a.add (i * fs.size + j)) = some v ∧ ys[j]? = some y ∧ DataW.trod enc P w base spare held n f.type [v] = some y := by
  rcases open_slice ht h with h0 | ⟨a, len, cap, m, n, D, Pl, hcs, hb, hl, hm, hmm, hx, hi⟩
  · exact .inl h0
  · refine .inr ⟨a, len, cap, m, D, Pl, hcs, hb, hl, hm, hmm, by rw [hC] at hx; exact hx, fun i him => ?_⟩
    obtain ⟨cs', hc, ht'⟩ := hi i him
    rw [hC] at hc
    obtain ⟨ys, n', hn', hy, hlen, hyl, hf⟩ := DataW.trod_struct he ht'
    obtain ⟨_, hcl, hat⟩ := World.cells?_some hc
    simp only [Prod.mk.injEq] at hy
    refine ⟨ys, n', hy.1, hy.2, hyl, fun j f hj => ?_⟩
    obtain ⟨ho, hk⟩ := hone_of hone j f hj
    have hjl : j < fs.size := (Array.getElem?_eq_some_iff.1 hj).1
    have hcell := hat j hjl
    have hv : cs'[j]? = some (cs'[j]'(by omega)) := List.getElem?_eq_getElem (by omega)
    have h1 := hf j f hj
    rw [ho, hk] at h1
    have hone' : (cs'.drop j).take 1 = [cs'[j]'(by omega)] := by
      rw [List.drop_eq_getElem_cons (by omega)]
      rfl
    rw [hone'] at h1
    have hys : ys[j]? = some (ys[j]'(by omega)) := List.getElem?_eq_getElem (by omega)
    refine ⟨_, _, ?_, hys, h1.trans hys⟩
    rw [← Go.Deep.add_add, hcell, hv]
end

/-- A row out of its elements. -/
theorem rowC_mk {α : Type} {z : Nat} {f : α → List Value} {W : World} {g o n cap : Nat} {P : α → Prop} (hn : n ≤ cap) (hm : cap ≤ maxLen)
    (h : ∀ i, i < n → ∃ x : α, P x ∧ ∀ (j : Nat) u, (f x)[j]? = some u → W.cell? ⟨g, o + (z * i + j), none⟩ = some u) : ∃ xs : List α, xs.length = n ∧ (∀ x ∈ xs, P x) ∧ RowC z f W (.slice (some ⟨g, o, none⟩) n cap) xs := by
  let F : Fin n → α := fun i => Classical.choose (h i.1 i.2)
  have hF : ∀ i : Fin n, P (F i) ∧ ∀ (j : Nat) u, (f (F i))[j]? = some u → W.cell? ⟨g, o + (z * i.1 + j), none⟩ = some u := fun i => Classical.choose_spec (h i.1 i.2)
  have hl : (List.ofFn F).length = n := List.length_ofFn
  refine ⟨List.ofFn F, hl, fun x hx => ?_, _, cap, by rw [hl], .inr ⟨_, rfl⟩, by rw [hl]; exact hn, hm, fun _ => ⟨g, o, rfl, fun j x hx i u hu => ?_⟩⟩
  · obtain ⟨i, rfl⟩ := List.mem_ofFn.1 hx
    exact (hF i).1
  · have hj : j < n := by rw [← hl]; exact (List.getElem?_eq_some_iff.1 hx).1
    have e : x = F ⟨j, hj⟩ := by
      have := (List.getElem?_eq_some_iff.1 hx).2
      rw [List.getElem_ofFn] at this
      exact this.symm
    subst e
    exact (hF ⟨j, hj⟩).2 i u hu
end Go.Proofs.YtjkbigecejogdaaDoor

namespace Go.Proofs.YtjkbigecejogdaaDoor
open Go.RowKit
set_option linter.unusedVariables false
set_option linter.unusedSimpArgs false

section
variable {P : Program} {md : Region.Mode} {ops : Array Oper} {Q : Exit → Act → World → Prop}
/-- Each operation waits for earlier ones alone. -/
def edgesDown (md : Region.Mode) (ops : Array Oper) : Bool :=
  (List.range ops.size).all fun i => ((ops[i]?).map (fun o => o.after.all fun e => !Region.binds md e || decide (e.on < i))).getD false
theorem edgesDown_spec (hd : edgesDown md ops = true) {i : Nat} {o : Oper} (ho : ops[i]? = some o) {e : Edge} (he : e ∈ o.after) (hb : Region.binds md e = true) : e.on < i := by
  have hi : i < ops.size := (Array.getElem?_eq_some_iff.1 ho).1
  have h1 := List.all_eq_true.1 hd i (List.mem_range.2 hi)
  rw [ho] at h1
  simp only [Option.map_some, Option.getD_some] at h1
  have h2 := (Array.all_eq_true_iff_forall_mem.1 h1) e he
  simpa [hb] using h2
theorem ready_none (hd : edgesDown md ops = true) {listed : Array Bool} (hs : listed.size = ops.size) (h : Region.ready md ops listed = []) : ∀ j, j < ops.size → listed.getD j false = true := by
  intro j
  induction j using Nat.strongRecOn with
  | ind j ih =>
    intro hj
    cases hl : listed.getD j false with
    | true => rfl
    | false =>
      have hmem : j ∈ Region.ready md ops listed := by
        have ho : ops[j]? = some ops[j] := Array.getElem?_eq_getElem hj
        refine mem_ready.2 ⟨?_, ops[j], ho, fun e he hb => ?_⟩
        · rw [Array.getD_eq_getD_getElem?] at hl ⊢
          rw [Array.getElem?_eq_getElem (by omega)] at hl ⊢
          exact hl
        · have := edgesDown_spec hd ho he hb
          exact ih e.on this (by omega)
      rw [h] at hmem; cases hmem
theorem count_set {l : List Bool} {i : Nat} (hi : i < l.length) (h : l[i] = false) : (l.set i true).count false + 1 = l.count false := by
  induction l generalizing i with
  | nil => simp at hi
  | cons b l ih =>
    cases i with
    | zero => simp at h; subst h; simp
    | succ i =>
      have := ih (i := i) (by simpa using hi) (by simpa using h)
      rw [List.set_cons_succ, List.count_cons, List.count_cons]
      omega
theorem all_of_count {l : List Bool} (h : l.count false = 0) (j : Nat) (hj : j < l.length) : l[j] = true := by
  cases hb : l[j] with
  | true => rfl
  | false =>
    have : false ∈ l := by rw [← hb]; exact List.getElem_mem hj
    rw [List.count_eq_zero] at h
    exact absurd this h
/-- What stands ahead of an operation is done. -/
def Preds (md : Region.Mode) (ops : Array Oper) (L : Nat → Bool) (i : Nat) : Prop := ∀ o, ops[i]? = some o → ∀ e ∈ o.after, Region.binds md e = true → L e.on = true
/-- Whatever is done, what stands ahead of it is done. -/
def Closed (md : Region.Mode) (ops : Array Oper) (L : Nat → Bool) : Prop := ∀ j, L j = true → Preds md ops L j
/-- Does an operation wait for another one? -/
def waits (md : Region.Mode) (ops : Array Oper) (j i : Nat) : Bool := ((ops[j]?).map fun o => o.after.any fun e => Region.binds md e && e.on == i).getD false
theorem Preds.of {L : Nat → Bool} {j : Nat} (h : Preds md ops L j) (i : Nat) (hw : waits md ops j i = true) : L i = true := by
  unfold waits at hw
  cases ho : ops[j]? with
  | none => rw [ho] at hw; simp at hw
  | some o =>
    rw [ho] at hw
    simp only [Option.map_some, Option.getD_some] at hw
    obtain ⟨k, hk, hb⟩ := Array.any_eq_true.1 hw
    simp only [Bool.and_eq_true, beq_iff_eq] at hb
    rw [← hb.2]
    exact h o ho _ (Array.getElem_mem hk) hb.1
theorem Closed.of {L : Nat → Bool} (h : Closed md ops L) (j i : Nat) (hw : waits md ops j i = true) (hj : L j = true) : L i = true := (h j hj).of i hw
/-- What waits for one that isn't done isn't done. -/
theorem Closed.not {L : Nat → Bool} (h : Closed md ops L) (j : Nat) {i : Nat} (hw : waits md ops j i = true) (hi : L i = false) : L j = false := by
  cases hj : L j with
  | false => rfl
  | true => rw [h.of j i hw hj] at hi; cases hi
theorem Closed.step {L : Nat → Bool} {i : Nat} (h : Closed md ops L) (hp : Preds md ops L i) : Closed md ops (fun j => L j || j == i) := by
  intro j hj o ho e he hb
  simp only [Bool.or_eq_true, beq_iff_eq] at hj ⊢
  rcases hj with hj | rfl
  · exact .inl (h j hj o ho e he hb)
  · exact .inl (hp o ho e he hb)
theorem wpAny_good_core (hd : edgesDown md ops = true) (G : (Nat → Bool) → Act → World → Prop)
    (hstep : ∀ i, i < ops.size → ∀ (L : Nat → Bool) a w, L i = false → Preds md ops L i → Closed md ops L → G L a w → wpOp P ops Q i (fun a' w' => G (fun j => L j || j == i) a' w') a w)
    (hdone : ∀ L a w, (∀ j, j < ops.size → L j = true) → G L a w → Q .normal a w) :
    ∀ fuel (listed : Array Bool) a w, listed.size = ops.size → listed.toList.count false ≤ fuel → Closed md ops (fun j => listed.getD j false) → G (fun j => listed.getD j false) a w → wpAny P md ops Q fuel listed a w := by
  intro fuel
  induction fuel with
  | zero =>
    intro listed a w hs hc hcl hG
    have hall : ∀ j, j < ops.size → listed.getD j false = true := fun j hj => by
      have := all_of_count (l := listed.toList) (by omega) j (by simpa using (by omega : j < listed.size))
      rw [Array.getD_eq_getD_getElem?, Array.getElem?_eq_getElem (by omega)]
      simpa using this
    refine ⟨?_, hdone _ a w hall hG⟩
    cases hr : Region.ready md ops listed with
    | nil => rfl
    | cons i rs =>
      have hm : i ∈ Region.ready md ops listed := by rw [hr]; exact List.mem_cons_self
      obtain ⟨h1, o, ho, _⟩ := mem_ready.1 hm
      have hi : i < ops.size := (Array.getElem?_eq_some_iff.1 ho).1
      have h2 := hall i hi
      rw [Array.getD_eq_getD_getElem?, Array.getElem?_eq_getElem (by omega)] at h1 h2
      rw [Option.getD_some] at h1 h2
      rw [h1] at h2; cases h2
  | succ fuel ih =>
    intro listed a w hs hc hcl hG
    refine ⟨fun hr => hdone _ a w (ready_none hd hs hr) hG, fun i hi => ?_⟩
    obtain ⟨h1, o, ho, hp⟩ := mem_ready.1 hi
    have hil : i < ops.size := (Array.getElem?_eq_some_iff.1 ho).1
    have hf : listed[i]'(by omega) = false := by
      rw [Array.getD_eq_getD_getElem?, Array.getElem?_eq_getElem (by omega)] at h1
      exact h1
    have hpr : Preds md ops (fun j => listed.getD j false) i := by
      intro o' ho' e he hb
      obtain rfl : o = o' := Option.some.inj (ho.symm.trans ho')
      exact hp e he hb
    refine wpOp_mono (fun a' w' hG' => ?_) (hstep i hil (fun j => listed.getD j false) a w ?_ hpr hcl hG)
    · have e : (fun j => (listed.setIfInBounds i true).getD j false) = fun j => listed.getD j false || j == i := by
          funext j
          by_cases hji : i = j
          · subst hji
            simp [Array.getD_eq_getD_getElem?, Array.getElem?_setIfInBounds, show i < listed.size by omega]
          · rw [getD_set_ne false hji]
            have : (j == i) = false := by simpa using fun h => hji h.symm
            rw [this, Bool.or_false]
      refine ih _ a' w' (by simpa using hs) ?_ (by rw [e]; exact hcl.step hpr) (by rw [e]; exact hG')
      · have := count_set (l := listed.toList) (i := i) (by simpa using (by omega : i < listed.size)) (by simpa using hf)
        rw [Array.toList_setIfInBounds]; omega
    · show listed.getD i false = false
      rw [Array.getD_eq_getD_getElem?, Array.getElem?_eq_getElem (by omega)]
      exact hf
/-- One obligation for an operation. -/
def OpOk (P : Program) (md : Region.Mode) (ops : Array Oper) (Q : Exit → Act → World → Prop) (G : (Nat → Bool) → Act → World → Prop) (i : Nat) : Prop :=
  ∀ (L : Nat → Bool) a w, L i = false → Preds md ops L i → Closed md ops L → G L a w → wpOp P ops Q i (fun a' w' => G (fun j => L j || j == i) a' w') a w
def OpsOk (P : Program) (md : Region.Mode) (ops : Array Oper) (Q : Exit → Act → World → Prop) (G : (Nat → Bool) → Act → World → Prop) : Nat → Prop
  | 0 => True
  | n + 1 => OpsOk P md ops Q G n ∧ OpOk P md ops Q G n
theorem opsOk_spec {G : (Nat → Bool) → Act → World → Prop} : ∀ {n : Nat}, OpsOk P md ops Q G n → ∀ i, i < n → OpOk P md ops Q G i
  | 0, _, i, h => by omega
  | n + 1, h, i, hi => by
    by_cases e : i = n
    · subst e; exact h.2
    · exact opsOk_spec h.1 i (by omega)
theorem opOk_mk {G : (Nat → Bool) → Act → World → Prop} {i : Nat} {o : Oper} (ho : ops[i]? = some o)
    (h : ∀ (L : Nat → Bool) a w, L i = false → Preds md ops L i → Closed md ops L → G L a w → ∀ K : Act → World → Prop, (∀ a' w', G (fun j => L j || j == i) a' w' → K a' w') → if Region.wanted o (yielded ops a.tmps) = true then Oper.wp P o a w K Q else K (a.put o.dst undef) w) : OpOk P md ops Q G i := by
  intro L a w hL hp hcl hG
  have h1 := h L a w hL hp hcl hG (fun a' w' => G (fun j => L j || j == i) a' w') (fun _ _ h => h)
  unfold wpOp
  rw [ho]
  simp only
  split
  · rename_i hw; rw [if_pos hw] at h1; exact .inl h1
  · rename_i hw; rw [if_neg hw] at h1; exact h1
/-- A region by an invariant (G is told the frame and the world ahead of the region). -/
theorem wpAny_good {n : Nat} {a : Act} {w : World} (G : Act → World → (Nat → Bool) → Act → World → Prop) (hn : ops.size = n) (hd : edgesDown md ops = true) (h0 : G a w (fun _ => false) a w) (hs : OpsOk P md ops Q (G a w) n)
    (hdone : ∀ L a' w', (∀ j, j < n → L j = true) → G a w L a' w' → Q .normal a' w') : wpAny P md ops Q n (Array.replicate n false) a w := by
  refine wpAny_good_core hd (G a w) (fun i hi => opsOk_spec hs i (by omega)) (fun L a' w' hall hGL => hdone L a' w' (fun j hj => hall j (by omega)) hGL) n _ a w (by simp [hn]) (by simp) (fun j hj => ?_) ?_
  · simp only [Array.getD_eq_getD_getElem?, Array.getElem?_replicate] at hj
    split at hj <;> simp at hj
  · have e : (fun j => (Array.replicate n false).getD j false) = fun _ => false := by
      funext j
      simp only [Array.getD_eq_getD_getElem?, Array.getElem?_replicate]
      split <;> simp
    rw [e]; exact h0
/-- The slots' values with one turned. -/
def upd (u : Nat → Value) (s : Nat) (v : Value) : Nat → Value := fun k => if k = s then v else u k
theorem getD_set (T : Array Value) (s : Nat) (v : Value) (hs : s < T.size) (k : Nat) : (T.setIfInBounds s v).getD k undef = upd (fun k => T.getD k undef) s v k := by
  unfold upd
  simp only [Array.getD_eq_getD_getElem?, Array.getElem?_setIfInBounds]
  by_cases h : s = k
  · subst h; simp [hs]
  · have h2 : ¬ k = s := fun e => h e.symm
    simp [h, h2]
theorem getD_bool {T : Array Value} {k : Nat} {b : Bool} (h : T.getD k undef = .bool b) : T[k]? = some (.bool b) := by
  rw [Array.getD_eq_getD_getElem?] at h
  cases ht : T[k]? with
  | none => rw [ht] at h; simp [undef] at h
  | some v => rw [ht] at h; simp at h; rw [h]
/-- Every operation's slot is one of these. -/
def dsOk (ops : Array Oper) (ds : List Nat) : Bool := ops.all fun o => match o.dst with | none => true | some s => ds.contains s
/-- One operation, said by the slots' values. -/
def StepOk (P : Program) (md : Region.Mode) (ops : Array Oper) (Q : Exit → Act → World → Prop) (ds : List Nat) (a : Act) (I : (Nat → Value) → (Nat → Bool) → World → Prop) (i : Nat) : Prop :=
  ∀ o, ops[i]? = some o → ∀ (u : Nat → Value) (L : Nat → Bool) (T : Array Value) (w : World), (∀ k, T.getD k undef = u k) → (∀ k, ¬ k ∈ ds → u k = a.tmps.getD k undef) → L i = false → Preds md ops L i → Closed md ops L → I u L w →
    ∀ K : Act → World → Prop, (∀ v w', I (match o.dst with | none => u | some s => upd u s v) (fun j => L j || j == i) w' → K (({ tmps := T, defers := a.defers } : Act).put o.dst v) w') →
      if Region.wanted o (yielded ops T) = true then Oper.wp P o { tmps := T, defers := a.defers } w K Q else K (({ tmps := T, defers := a.defers } : Act).put o.dst undef) w
theorem stepOk_some {ds : List Nat} {a : Act} {I : (Nat → Value) → (Nat → Bool) → World → Prop} {i : Nat} {o : Oper} {s : Nat} (ho : ops[i]? = some o) (hs : o.dst = some s)
    (h : ∀ (u : Nat → Value) (L : Nat → Bool) (T : Array Value) (w : World), (∀ k, T.getD k undef = u k) → (∀ k, ¬ k ∈ ds → u k = a.tmps.getD k undef) → L i = false → Preds md ops L i → Closed md ops L → I u L w →
      ∀ K : Act → World → Prop, (∀ v w', I (upd u s v) (fun j => L j || j == i) w' → K { tmps := T.setIfInBounds s v, defers := a.defers } w') →
        if Region.wanted o (yielded ops T) = true then Oper.wp P o { tmps := T, defers := a.defers } w K Q else K { tmps := T.setIfInBounds s undef, defers := a.defers } w) : StepOk P md ops Q ds a I i := by
  intro o' ho' u L T w h1 h2 h3 h4 h5 h6 K hK
  obtain rfl : o = o' := Option.some.inj (ho.symm.trans ho')
  rw [hs] at hK ⊢
  exact h u L T w h1 h2 h3 h4 h5 h6 K hK
theorem stepOk_none {ds : List Nat} {a : Act} {I : (Nat → Value) → (Nat → Bool) → World → Prop} {i : Nat} {o : Oper} (ho : ops[i]? = some o) (hs : o.dst = none)
    (h : ∀ (u : Nat → Value) (L : Nat → Bool) (T : Array Value) (w : World), (∀ k, T.getD k undef = u k) → (∀ k, ¬ k ∈ ds → u k = a.tmps.getD k undef) → L i = false → Preds md ops L i → Closed md ops L → I u L w →
      ∀ K : Act → World → Prop, (∀ w', I u (fun j => L j || j == i) w' → K { tmps := T, defers := a.defers } w') →
        if Region.wanted o (yielded ops T) = true then Oper.wp P o { tmps := T, defers := a.defers } w K Q else K { tmps := T, defers := a.defers } w) : StepOk P md ops Q ds a I i := by
  intro o' ho' u L T w h1 h2 h3 h4 h5 h6 K hK
  obtain rfl : o = o' := Option.some.inj (ho.symm.trans ho')
  rw [hs] at hK ⊢
  exact h u L T w h1 h2 h3 h4 h5 h6 K (fun w' hw' => hK undef w' hw')
def StepsOk (P : Program) (md : Region.Mode) (ops : Array Oper) (Q : Exit → Act → World → Prop) (ds : List Nat) (a : Act) (I : (Nat → Value) → (Nat → Bool) → World → Prop) : Nat → Prop
  | 0 => True
  | n + 1 => StepsOk P md ops Q ds a I n ∧ StepOk P md ops Q ds a I n
theorem stepsOk_spec {ds : List Nat} {a : Act} {I : (Nat → Value) → (Nat → Bool) → World → Prop} : ∀ {n : Nat}, StepsOk P md ops Q ds a I n → ∀ i, i < n → StepOk P md ops Q ds a I i
  | 0, _, i, h => by omega
  | n + 1, h, i, hi => by
    by_cases e : i = n
    · subst e; exact h.2
    · exact stepsOk_spec h.1 i (by omega)
/-- The frame behind the region. -/
def fill (A : Array Value) (u : Nat → Value) : List Nat → Array Value
  | [] => A
  | d :: ds => fill (A.setIfInBounds d (u d)) u ds
theorem fill_get (u : Nat → Value) : ∀ (ds : List Nat) (A : Array Value) (k : Nat), (fill A u ds)[k]? = if k < A.size ∧ k ∈ ds then some (u k) else A[k]?
  | [], A, k => by simp [fill]
  | d :: ds, A, k => by
    rw [fill, fill_get u ds, Array.size_setIfInBounds, Array.getElem?_setIfInBounds]
    by_cases hk : k < A.size
    · by_cases hd : d = k
      · subst hd; by_cases hm : d ∈ ds <;> simp [hk, hm]
      · have h2 : ¬ k = d := fun e => hd e.symm
        by_cases hm : k ∈ ds <;> simp [hk, hm, hd, h2]
    · by_cases hd : d = k
      · subst hd; simp [hk]
      · simp [hk, hd]
theorem fill_eq {A T : Array Value} {ds : List Nat} (hs : T.size = A.size) (h : ∀ k, ¬ k ∈ ds → T[k]? = A[k]?) : T = fill A (fun k => T.getD k undef) ds := by
  refine Array.ext_getElem? fun k => ?_
  rw [fill_get]
  split
  · rename_i hk
    rw [Array.getD_eq_getD_getElem?, Array.getElem?_eq_getElem (by omega)]
    rfl
  · rename_i hk
    by_cases hm : k ∈ ds
    · have h1 : ¬ k < A.size := fun e => hk ⟨e, hm⟩
      rw [Array.getElem?_eq_none (by omega), Array.getElem?_eq_none (by omega)]
    · exact h k hm
/-- A REGION BY AN INVARIANT OF ITS SLOTS' VALUES AND THE WORLD. -/
theorem wpAny_inv {n : Nat} {a : Act} {w : World} (ds : List Nat) (I : (Nat → Value) → (Nat → Bool) → World → Prop) (hn : ops.size = n) (hd : edgesDown md ops = true) (hds : dsOk ops ds = true) (hsz : (ds.all fun s => decide (s < a.tmps.size)) = true)
    (h0 : I (fun k => a.tmps.getD k undef) (fun _ => false) w) (hs : StepsOk P md ops Q ds a I n)
    (hdone : ∀ u L w', (∀ j, j < n → L j = true) → (∀ k, ¬ k ∈ ds → u k = a.tmps.getD k undef) → I u L w' → Q .normal { tmps := fill a.tmps u ds, defers := a.defers } w') : wpAny P md ops Q n (Array.replicate n false) a w := by
  have hall := List.all_eq_true.1 hsz
  refine wpAny_good (fun a0 w0 L a' w' => ∃ T, a' = { tmps := T, defers := a.defers } ∧ T.size = a.tmps.size ∧ (∀ k, ¬ k ∈ ds → T[k]? = a.tmps[k]?) ∧ I (fun k => T.getD k undef) L w') hn hd ⟨a.tmps, rfl, rfl, fun _ _ => rfl, h0⟩ ?_ ?_
  · suffices hh : ∀ i, i < n → OpOk P md ops Q (fun L a' w' => ∃ T, a' = { tmps := T, defers := a.defers } ∧ T.size = a.tmps.size ∧ (∀ k, ¬ k ∈ ds → T[k]? = a.tmps[k]?) ∧ I (fun k => T.getD k undef) L w') i by
      have hh2 : ∀ m, m ≤ n → OpsOk P md ops Q (fun L a' w' => ∃ T, a' = { tmps := T, defers := a.defers } ∧ T.size = a.tmps.size ∧ (∀ k, ¬ k ∈ ds → T[k]? = a.tmps[k]?) ∧ I (fun k => T.getD k undef) L w') m := by
        intro m
        induction m with
        | zero => intro _; trivial
        | succ m ih => intro hm; exact ⟨ih (by omega), hh m (by omega)⟩
      exact hh2 n (Nat.le_refl _)
    intro i hi
    have ho : ops[i]? = some (ops[i]'(by omega)) := Array.getElem?_eq_getElem (by omega)
    refine opOk_mk ho ?_
    rintro L a' w' hL hp hcl ⟨T, rfl, hT1, hT2, hI⟩ K hK
    refine stepsOk_spec hs i hi _ ho (fun k => T.getD k undef) L T w' (fun _ => rfl) (fun k hk => ?_) hL hp hcl hI K (fun v w'' hI' => ?_)
    · simp only [Array.getD_eq_getD_getElem?, hT2 k hk]
    · refine hK _ _ ?_
      have hm : match (ops[i]'(by omega)).dst with | none => True | some s => s ∈ ds := by
        have := (Array.all_eq_true_iff_forall_mem.1 hds) (ops[i]'(by omega)) (Array.getElem_mem _)
        revert this
        cases (ops[i]'(by omega)).dst with
        | none => intro _; trivial
        | some s => intro h; simpa using h
      revert hI' hm
      cases (ops[i]'(by omega)).dst with
      | none => intro hI' _; exact ⟨T, rfl, hT1, hT2, hI'⟩
      | some s =>
        intro hI' hm
        have hsl : s < T.size := by rw [hT1]; exact of_decide_eq_true (hall s hm)
        refine ⟨T.setIfInBounds s v, rfl, by simpa using hT1, fun k hk => ?_, ?_⟩
        · rw [Array.getElem?_setIfInBounds_ne (fun e => by subst e; exact hk hm)]
          exact hT2 k hk
        · have e : (fun k => (T.setIfInBounds s v).getD k undef) = upd (fun k => T.getD k undef) s v := by
            funext k; exact getD_set T s v hsl k
          rw [e]; exact hI'
  · rintro L a' w' hL ⟨T, rfl, hT1, hT2, hI⟩
    have := hdone (fun k => T.getD k undef) L w' hL (fun k hk => by simp only [Array.getD_eq_getD_getElem?, hT2 k hk]) hI
    rw [← fill_eq hT1 hT2] at this
    exact this
end
end Go.Proofs.YtjkbigecejogdaaDoor

namespace Go.Proofs.YtjkbigecejogdaaDoor
open Go.RowKit
set_option linter.unusedVariables false
set_option linter.unusedSimpArgs false
section
variable {P : Program}
theorem wpIn_range_in {l0 : Nat} {g : Operand} {ps : Array Tmp} {assign body : Code} {Q : Exit → Act → World → Prop} {a : Act} {w : World} {n : Nat} (hr0 : ∃ r, w.heap[l0]? = some (.loop r))
    {gf : Nat} {lb : Array Value} (hg : a.eval g = .func (.func gf) #[] lb) (eg : ∀ args w, (callFunc gf args).run P w = .ok (.enter gf args) w)
    {N : Nat} {encs : Nat → Array Value} {own mu : Nat → Prop} (hit : Iter P gf lb N encs own mu w) (hown : ∀ k, own k → k < w.heap.size) (hmut : ∀ k, mu k → k < w.heap.size) (hps : ∀ i, (encs i).size = ps.size)
    (I : Nat → World → Prop) (Ix : Code → Nat → World → Prop)
    (hI : ∀ i A C, I i A → Mv w.heap.size mu A C → I i C) (hIx : ∀ c i A C, Ix c i A → Mv w.heap.size mu A C → Ix c i C) (h0 : I 0 w)
    (hround : ∀ m l i W, i < N → I i W → w.heap.size ≤ l → (∃ r, W.heap[l]? = some (.loop r)) →
      assign.wpIn (Fence.wide.inRound l) m P (Exit.then (fun a1 W1 => Kp w.heap.size own W W1 ∧ ∀ W2, Mv w.heap.size (fun _ => False) W1 W2 → (∃ r, W2.heap[l]? = some (.loop r)) → body.wpIn (Fence.wide.inRound l) m P (roundOut w.heap.size own I Ix i W2) a1 W2) (fun _ _ _ => False))
        { tmps := (ps.zip (encs i)).foldl (fun t (p, v) => t.setIfInBounds p v) a.tmps, defers := [] } W)
    (hdone : ∀ (W : World), I N W → Q .normal a W)
    (hstop : ∀ (c : Code) (i : Nat) (W : World), i < N → Ix c i W → c.wpIn (Fence.wide.inRound l0) n P Q a W) :
    (Code.rangeFunc g ps assign body).wpIn (Fence.wide.inRound l0) n P Q a w := by
  obtain ⟨r0, hr0⟩ := hr0
  refine wpIn_rangeFunc ?_
  intro fn hfn
  obtain ⟨rec, hrec⟩ : ∃ rec : LoopState → Option Code → Loop, rec = fun st pe => { state := st, pending := pe, fn, tmps := a.tmps, params := ps, assign, body, defers := r0.defers } := ⟨_, rfl⟩
  obtain ⟨W1, hW1⟩ : ∃ W1, w.alloc (.loop (rec .ready none)) = W1 := ⟨_, rfl⟩
  have hL1 : W1.heap[w.heap.size]? = some (.loop (rec .ready none)) := by rw [← hW1]; exact World.alloc_heap_new _ _
  have hc1 : Chg (fun _ => False) w W1 := by rw [← hW1]; exact Chg.alloc _ w _
  have hI1 : I 0 W1 := hI _ _ _ h0 (hc1.mv fun _ h => h.elim)
  refine ⟨w.heap.size, [], W1, { target := .fn (.func gf) lb, args := #[.func (.yield w.heap.size) #[] #[]] }, W1, gf,
    #[.func (.yield w.heap.size) #[] #[]] ++ lb, W1, ?_, ?_, ?_, ?_, fun h => by simp [Fence.wide, Fence.inRound] at h, ?_⟩
  · rw [← hW1, hrec]; exact run_enterLoop_inner hr0 _ _ _ _ _
  · simp only [resolve, hg]
    simp [go_sem]
  · intro f' _; trivial
  · simp [invoke, go_sem, eg]
  · have lift : ∀ {A C : World}, kind? A w.heap.size = none → Chg (fun k => mu k ∨ k = w.heap.size) A C → Mv w.heap.size mu A C := fun hn hc => hc.mv fun k h => by
      rcases h with h | rfl
      · exact .inl h
      · exact .inr ⟨Nat.le_refl _, hn⟩
    refine (CallsIn.inRound l0 (range_core (P := P) hrec hit w.heap.size hown hmut (Nat.le_refl _) hps I Ix
      (fun i A C h hn hc => hI i A C h (lift hn hc)) (fun c i A C h hn hc => hIx c i A C h (lift hn hc))
      ?_ (n - 1) W1 (fun k hk => hc1.block k (hown k hk) (fun h => h)) hc1.size hL1 hI1)).mono ?_
    · rintro m i W hlt hi hr
      refine wpIn_mono (hround m _ i W hlt hi (Nat.le_refl _) hr) ?_
      rintro e a1 Wa hp
      cases e <;> simp only [Exit.then] at hp ⊢
      refine ⟨hp.1, fun Wb hkb hcb hrb => ?_⟩
      exact hp.2 Wb (hcb.mv fun k h => .inr (by subst h; exact ⟨Nat.le_refl _, hkb⟩)) hrb
    · rintro e W2 ⟨⟨v, rfl⟩, (⟨hi, hl⟩ | ⟨i, c, hlt, hi, hl⟩)⟩
      · have he := run_endLoop (P := P) hl (by rw [hrec]; simp)
        have hc := (Chg.putObj (.loop { rec .ready none with state := .exhausted }) hl rfl rfl).mono (T := fun k => mu k ∨ k = w.heap.size) fun k h => .inr h
        exact ⟨none, _, by rw [hrec] at he; rw [hrec]; exact he, hdone _ (hI _ _ _ hi (lift (kind_none hl rfl) hc))⟩
      · have he := run_endLoop (P := P) hl (by rw [hrec]; simp)
        have hc := (Chg.putObj (.loop { rec .done (some c) with state := .exhausted }) hl rfl rfl).mono (T := fun k => mu k ∨ k = w.heap.size) fun k h => .inr h
        exact ⟨some c, _, by rw [hrec] at he; rw [hrec]; exact he, hstop c i _ hlt (hIx _ _ _ _ hi (lift (kind_none hl rfl) hc))⟩
end
end Go.Proofs.YtjkbigecejogdaaDoor

namespace Go.Proofs.YtjkbigecejogdaaDoor
open Go.RowKit
set_option linter.unusedVariables false
set_option linter.unusedSimpArgs false
theorem new_cells (w : World) (us : List Value) (e : TypeId) (j : Nat) (y : Value) (hj : us[j]? = some y) : (w.alloc (.cells us.toArray e)).cell? ((⟨w.heap.size, 0, none⟩ : Addr).add j) = some y := by
  have : ((⟨w.heap.size, 0, none⟩ : Addr).add j) = ⟨w.heap.size, j, none⟩ := by have := adr_some w.heap.size 0 j; rw [Nat.zero_add] at this; exact this
  rw [this]
  simp only [World.cell?]
  rw [show (w.alloc (.cells us.toArray e)).heap[w.heap.size]? = some (.cells us.toArray e) from heap_alloc_new w _]
  simpa using hj
theorem wpListIn_pushz {F : Fence} {fn : Nat}{P : Program} {w : World} {ops : Array Oper} {rest : List Oper} {o : Oper} {a : Act} {Q : Exit → Act → World → Prop} (base : Nat) (hgd : o.guard = none) (s x : Operand) (t e : TypeId)
    (ho : o.op = .call { callee := .builtin .append, args := #[s, x], argTypes := #[t, t] }) (ht : P.underlying t = some (.slice e))
    {z : Value} {sz bytes : Nat} (hinfo : (P.info? e).map (fun i => (i.zero, i.size, i.bytes)) = some (some z, sz, bytes)) (hz : z.cells.size = sz) (h0 : 0 < sz) (hb : bytes ≤ 1000)
    {v : Value} {n : Nat} {xs : List Value} (hown : w.ownsRow base e sz v n xs) (us : List Value) (hul : us.length = sz) (hu : ∀ u ∈ us, u.oneCell' = true) (hn : n + 1 ≤ 100000000) (hbase : base ≤ w.heap.size)
    (hs : a.eval s = v) (hx : a.eval x = .slice (some ⟨w.heap.size, 0, none⟩) 1 1)
    (h : ∀ v' w', (∃ g cap, v' = .slice (some ⟨g, 0, none⟩) (n + 1) cap) → w'.ownsRow base e sz v' (n + 1) (xs ++ us) → w.grownBy w' v.ownBlock → wpListIn F fn P ops Q rest (a.put o.dst v') w') :
    wpListIn F fn P ops Q (o :: rest) a (w.alloc (.cells us.toArray e)) := by
  obtain ⟨i0, hi, hz0, hz1, hz2⟩ := info_parts hinfo
  refine wpListIn_append_own _ hgd s x t ho base e i0 z sz bytes ht hi hz0 hz1 hz2 hz h0 v n xs hs (hown.alloc _) ⟨w.heap.size, 0, none⟩ 1 1 us hx (by omega) (fun j y hj => new_cells w us e j y hj) hu (by unfold maxLen; omega) ?_ (by simp; omega) ?_
  · have : (n + 1) * bytes ≤ 100000000 * 1000 := Nat.mul_le_mul hn hb
    omega
  · intro v' w' h1 h2 _
    refine h v' w' ?_ h1 (grownBy_from h2)
    rcases h1.2 with ⟨_, h0⟩ | ⟨g, cap, cur, hv, _⟩
    · omega
    · exact ⟨g, cap, hv⟩
theorem wpList_pushz {P : Program} {w : World} {ops : Array Oper} {rest : List Oper} {o : Oper} {a : Act} {Q : Exit → Act → World → Prop} (base : Nat) (hgd : o.guard = none) (s x : Operand) (t e : TypeId)
    (ho : o.op = .call { callee := .builtin .append, args := #[s, x], argTypes := #[t, t] }) (ht : P.underlying t = some (.slice e))
    {z : Value} {sz bytes : Nat} (hinfo : (P.info? e).map (fun i => (i.zero, i.size, i.bytes)) = some (some z, sz, bytes)) (hz : z.cells.size = sz) (h0 : 0 < sz) (hb : bytes ≤ 1000)
    {v : Value} {n : Nat} {xs : List Value} (hown : w.ownsRow base e sz v n xs) (us : List Value) (hul : us.length = sz) (hu : ∀ u ∈ us, u.oneCell' = true) (hn : n + 1 ≤ 100000000) (hbase : base ≤ w.heap.size)
    (hs : a.eval s = v) (hx : a.eval x = .slice (some ⟨w.heap.size, 0, none⟩) 1 1)
    (h : ∀ v' w', (∃ g cap, v' = .slice (some ⟨g, 0, none⟩) (n + 1) cap) → w'.ownsRow base e sz v' (n + 1) (xs ++ us) → w.grownBy w' v.ownBlock → wpList P ops Q rest (a.put o.dst v') w') :
    wpList P ops Q (o :: rest) a (w.alloc (.cells us.toArray e)) := by
  obtain ⟨i0, hi, hz0, hz1, hz2⟩ := info_parts hinfo
  refine wpList_append_own _ hgd s x t ho base e i0 z sz bytes ht hi hz0 hz1 hz2 hz h0 v n xs hs (hown.alloc _) ⟨w.heap.size, 0, none⟩ 1 1 us hx (by omega) (fun j y hj => new_cells w us e j y hj) hu (by unfold maxLen; omega) ?_ (by simp; omega) ?_
  · have : (n + 1) * bytes ≤ 100000000 * 1000 := Nat.mul_le_mul hn hb
    omega
  · intro v' w' h1 h2 _
    refine h v' w' ?_ h1 (grownBy_from h2)
    rcases h1.2 with ⟨_, h0⟩ | ⟨g, cap, cur, hv, _⟩
    · omega
    · exact ⟨g, cap, hv⟩
/-- One more element in the box at s: what stays (B: the row lies from B on, behind the box). -/
theorem boxz_push {s B : Nat} {e t : TypeId} {z : Nat} {W w1 : World} {own : Nat → Prop} {v v' : Value} {n n' : Nat} {xs xs' : List Value} (hB : s < B)
    (hbox : W.heap[s]? = some (.cells #[v] t (0, 0))) (hrow0 : W.ownsRow B e z v n xs) (hrow : w1.ownsRow B e z v' n' xs') (hg : W.grownBy w1 v.ownBlock) (ho : ∀ k, own k → k < B ∧ k ≠ s ∧ k < W.heap.size) :
    w1.cell? ⟨s, 0, none⟩ = some v ∧ w1.frozen? ⟨s, 0, none⟩ = false ∧ (w1.setCell ⟨s, 0, none⟩ v').heap[s]? = some (.cells #[v'] t (0, 0)) ∧ (w1.setCell ⟨s, 0, none⟩ v').ownsRow B e z v' n' xs' ∧
      Kp B own W (w1.setCell ⟨s, 0, none⟩ v') ∧ (∀ B0 w0, B0 ≤ s → Below B0 w0 W → Below B0 w0 (w1.setCell ⟨s, 0, none⟩ v')) ∧
      W.heap.size ≤ (w1.setCell ⟨s, 0, none⟩ v').heap.size ∧ (∀ k, k < B → k ≠ s → k < W.heap.size → (w1.setCell ⟨s, 0, none⟩ v').heap[k]? = W.heap[k]?) ∧ ∀ k, k < B → k < W.heap.size → w1.heap[k]? = W.heap[k]? := by
  have hs := (Array.getElem?_eq_some_iff.1 hbox).1
  have hlt : ∀ k, v.ownBlock = some k → B ≤ k := fun k hk => (hrow0.lt k hk).1
  have hlow : ∀ k, k < B → k < W.heap.size → w1.heap[k]? = W.heap[k]? := fun k hk hk2 => hg.block k hk2 (fun e => by have := hlt k e.symm; omega)
  have e1 := (hlow s (by omega) hs).trans hbox
  have hc := Chg.setCell w1 ⟨s, 0, none⟩ v'
  have hgs := hg.size
  have hother : ∀ k, k < B → k ≠ s → k < W.heap.size → (w1.setCell ⟨s, 0, none⟩ v').heap[k]? = W.heap[k]? := fun k hk hne hk2 => (hc.block k (by omega) (by show ¬ k = s; omega)).trans (hlow k hk hk2)
  refine ⟨cell_of e1, frozen_of e1, one_setCell e1, ownz_keep hrow fun g _ hg' hk => hc.block g (kind_lt hk) (by show ¬ g = s; omega), ?_, ?_, Nat.le_trans hg.size hc.size, hother, hlow⟩
  · refine (Kp.of_grown hg (fun k hk => ⟨(ho k hk).2.2, fun e => by have := hlt k e; have := ho k hk; omega⟩) (fun k hk => ?_)).trans (Kp.of_chg hc (fun k hk => ?_) (fun k hk hB' => ?_))
    · rcases hrow0.2 with ⟨hn, _⟩ | ⟨g, cap, cur, hv, _, hgg, _⟩
      · rw [hn] at hk; simp [Value.ownBlock] at hk
      · rw [hv] at hk; simp [Value.ownBlock] at hk; subst hk; exact ⟨_, kind_of_cells hgg⟩
    · have := ho k hk; exact ⟨by omega, by show ¬ k = s; omega⟩
    · have hk' : k = s := hk; omega
  · intro B0 w0 hs0 hb
    refine ⟨(hc.os.trans hg.os).trans hb.os, (hc.tape.trans hg.tape).trans hb.tape, (hc.output.trans hg.output).trans hb.output, Nat.le_trans hb.size (Nat.le_trans hg.size hc.size), fun k hk => ?_⟩
    exact (hother k (by omega) (by omega) (by omega)).trans (hb.block k hk)
end Go.Proofs.YtjkbigecejogdaaDoor

namespace Go.Proofs.YtjkbigecejogdaaDoor
open Go.RowKit
set_option linter.unusedVariables false
set_option linter.unusedSimpArgs false

section
variable {P : Program} {ops : Array Oper} {md : Region.Mode} {Q : Exit → Act → World → Prop}
/-- The call's answer is v in every world, which it leaves as it is. -/
def CallsC (P : Program) (ops : Array Oper) (o : Oper) (v : Value) (a : Act) : Prop :=
  Region.wanted o (yielded ops a.tmps) = true ∧ ∃ f args, (∀ w, (execOp a.eval o).run P w = .ok (.enter f args) w) ∧ ∀ w, Calls P f args w fun e w' => e = .returned v ∧ w' = w
theorem CallsC.step {i : Nat} {o : Oper} {v : Value} {a : Act} (hi : ops[i]? = some o) (hy : CallsC P ops o v a) {K : Act → World → Prop} {w : World} (h : K (a.put o.dst v) w) : wpOp P ops Q i K a w := by
  obtain ⟨hw, f, args, hr, hc⟩ := hy
  unfold wpOp
  simp only [hi, hw, if_true]
  left
  unfold Oper.wp
  rw [hr w]
  simp only [Oper.upon]
  refine (hc w).mono ?_
  rintro e w' ⟨rfl, rfl⟩
  exact h
theorem CallsC.same {o : Oper} {v : Value} {a a' : Act} (hy : CallsC P ops o v a) (he : execOp a'.eval o = execOp a.eval o) (hw : Region.wanted o (yielded ops a'.tmps) = Region.wanted o (yielded ops a.tmps)) : CallsC P ops o v a' := by
  obtain ⟨h1, f, args, hr, hc⟩ := hy
  exact ⟨hw.trans h1, f, args, fun w => by rw [he]; exact hr w, hc⟩
/-- What an operation can make of the frame: its own slot, and what is deferred. -/
def Moved (o : Oper) (a a' : Act) : Prop := ∃ u ds, a' = { a.put o.dst u with defers := ds }
theorem moved_put (o : Oper) (a : Act) (u : Value) : Moved o a (a.put o.dst u) := ⟨u, (a.put o.dst u).defers, rfl⟩
theorem wpOp_moved {j : Nat} {oj : Oper} (hj : ops[j]? = some oj) {K K' : Act → World → Prop} {a : Act} {w : World} (hm : ∀ a' w', Moved oj a a' → K a' w' → K' a' w') (h : wpOp P ops Q j K a w) : wpOp P ops Q j K' a w := by
  unfold wpOp at h ⊢
  simp only [hj] at h ⊢
  split
  case isFalse hw => simp only [hw] at h; exact hm _ _ (moved_put _ _ _) h
  case isTrue hw =>
    simp only [hw, if_true] at h
    refine h.imp (fun h => ?_) id
    unfold Oper.wp at h ⊢
    revert h
    generalize (execOp a.eval oj).run P w = r
    intro h
    match r, h with
    | .ok (.value u) w', h => exact hm _ _ (moved_put _ _ _) h
    | .ok .skip w', h => exact hm _ _ (moved_put _ _ _) h
    | .ok (.defer d) w', h =>
      refine hm _ _ ⟨undef, d :: a.defers, ?_⟩ h
      cases hd : oj.dst <;> simp [Act.put]
    | .ok (.enter f args) w', h =>
      refine Calls.mono h fun e w'' he => ?_
      cases e with
      | returned u => exact hm _ _ (moved_put _ _ _) he
      | panicked c => exact he
      | outgrown => exact he
    | .ok (.row row args) w', h => exact Rows.mono h fun u w'' he => hm _ _ (moved_put _ _ _) he
    | .halt (.panic u) w', h => exact h
theorem pure_yields (o : Oper) (v : Value) (a : Act) : Yields P ops { o with op := .move (.const v), guard := none } v a := .inl ⟨by simp [Region.wanted], fun w => by simp [execOp, Act.eval]⟩
theorem apart_pure {x y : Oper} {v : Value} (h : x.apart ops y = true) : Oper.apart ops { x with op := .move (.const v), guard := none } y = true := by
  obtain ⟨h1, h2, h3⟩ := Oper.apart_spec h
  have hl : ∀ d, (Oper.looksAt ops { x with op := .move (.const v), guard := none }).contains d = false := fun d => by
    simp [Oper.looksAt, Op.operands]
  unfold Oper.apart
  rw [Bool.and_eq_true]
  constructor
  · show (match x.dst with | some d => !(y.looksAt ops).contains d && y.dst != some d | none => true) = true
    cases hx : x.dst with
    | none => rfl
    | some d =>
      have a1 := h1 d hx; have a2 := h2 d hx
      simp only [Bool.and_eq_true, Bool.not_eq_true', bne_iff_ne, ne_eq]
      exact ⟨by simpa using a1, a2⟩
  · cases hy : y.dst with
    | none => rfl
    | some d => simp only [hl d]; rfl
theorem takeC_core {i : Nat} {oi : Oper} {v : Value} (hi : ops[i]? = some oi) (hs : Region.noSelect ops = true) (hQ : ∀ c a w, Q (.panic c) (a.put oi.dst v) w → Q (.panic c) a w) :
    ∀ (fuel : Nat) (listed : Array Bool) (a : Act) (w : World),
      (∀ j oj, ops[j]? = some oj → j ≠ i → listed.getD j true = false → (∀ e ∈ oj.after, Region.binds md e = true → e.on ≠ i) → oi.apart ops oj = true) →
      i ∈ Region.ready md ops listed → CallsC P ops oi v a → wpAny P md ops Q fuel (listed.setIfInBounds i true) (a.put oi.dst v) w → wpAny P md ops Q (fuel + 1) listed a w
  | fuel, listed, a, w, hfree, hr, hy, H => by
    have hsel := Region.noSelect_spec hs
    have hirr := mem_ready.1 hr
    have others : ∀ j, j ∈ Region.ready md ops listed → j ≠ i → ∃ oj, ops[j]? = some oj ∧ oi.apart ops oj = true := fun j hj hji => by
      obtain ⟨hun, oj, hoj, hall⟩ := mem_ready.1 hj
      refine ⟨oj, hoj, hfree j oj hoj hji hun fun e he hb heq => ?_⟩
      have g1 := hall e he hb
      rw [heq] at g1
      have g0 := hirr.1
      by_cases hlt : i < listed.size
      · simp [hlt] at g0 g1; rw [g0] at g1; cases g1
      · simp [Array.getElem?_eq_none (Nat.le_of_not_lt hlt)] at g1
    refine ⟨fun h => (by rw [h] at hr; cases hr), fun j hj => ?_⟩
    by_cases hji : j = i
    · subst hji; exact hy.step hi H
    · obtain ⟨oj, hoj, hap⟩ := others j hj hji
      match fuel, H with
      | 0, H =>
        have := ready_mono hj hji
        rw [H.1] at this; cases this
      | fuel + 1, H =>
        have h1 := H.2 j (ready_mono hj hji)
        have h2 := wpOp_put (oi := { oi with op := .move (.const v), guard := none }) hoj (apart_pure hap) (fun cs b => by simp) (fun cs b => hsel j oj cs b hoj) hQ (pure_yields oi v a) h1
        refine wpOp_moved hoj (fun a' w' hm h3 => ?_) h2
        obtain ⟨u, ds, rfl⟩ := hm
        have hcc : CallsC P ops oi v { a.put oj.dst u with defers := ds } :=
          hy.same (execOp_put oi (fun cs b => hsel i oi cs b hi) a oj.dst u (Oper.apart_spec hap).2.2) (wanted_put oi a oj.dst u (Oper.apart_spec hap).2.2)
        refine takeC_core hi hs hQ fuel (listed.setIfInBounds j true) _ w' (fun k ok hk hki hun hno => ?_) (ready_mono hr (Ne.symm hji)) hcc ?_
        · refine hfree k ok hk hki ?_ hno
          by_cases hjk : j = k
          · subst hjk; exact (mem_ready.1 hj).1
          · rwa [getD_set_ne true hjk] at hun
        · rw [Array.setIfInBounds_comm _ _ hji]
          exact h3.2
/-- A call that leaves the world alone, taken first. -/
theorem wpAny_takeC {i : Nat} {oi : Oper} {v : Value} {fuel : Nat} {listed : Array Bool} {a : Act} {w : World} (hi : ops[i]? = some oi) (hs : Region.noSelect ops = true) (hf : Region.free md ops listed i = true) (hr : (Region.ready md ops listed).contains i = true)
    (hQ : ∀ c a w, Q (.panic c) (a.put oi.dst v) w → Q (.panic c) a w) (hy : CallsC P ops oi v a) (h : wpAny P md ops Q fuel (listed.setIfInBounds i true) (a.put oi.dst v) w) : wpAny P md ops Q (fuel + 1) listed a w :=
  takeC_core hi hs hQ fuel listed a w (Region.free_spec hi hf) (by simpa using hr) hy h
end
end Go.Proofs.YtjkbigecejogdaaDoor
