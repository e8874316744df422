/-
  Plain lemmas for the walks: texts as lists of bytes; slices that read as lists; the frame of a call. Nothing of any program stands here.
-/
import Derived.WalkKit
import Derived.WalkSpells
import Derived.WalkLawsBesides
import Derived.Lib.Hide
import Derived.Deep.QuietTactic
import Derived.BigQuiet
namespace Go.Proofs.YtjbobblnicnhnaaDoor
open Go.RowKit

/-! ### Texts -/
/-- A text as a value, its bytes a list. -/
@[reducible] def Str (l : List UInt8) : Value := .string ⟨l.toArray⟩
/-- A byte as a cell. -/
@[reducible] def Byt (c : UInt8) : Value := .int .u8 (c.toNat : Int)

theorem str_of (s : ByteArray) : ∃ l : List UInt8, s = ⟨l.toArray⟩ := ⟨s.data.toList, by cases s; simp⟩
theorem extract_list (l : List UInt8) (a b : Nat) : (⟨l.toArray⟩ : ByteArray).extract a b = ⟨((l.take b).drop a).toArray⟩ := by
  apply ByteArray.ext
  simp [ByteArray.extract, ByteArray.copySlice, List.drop_take]
theorem append_list (a b : List UInt8) : (⟨a.toArray⟩ ++ ⟨b.toArray⟩ : ByteArray) = ⟨(a ++ b).toArray⟩ := by
  apply ByteArray.ext; simp
theorem size_list (l : List UInt8) : (⟨l.toArray⟩ : ByteArray).size = l.length := by simp [ByteArray.size]
attribute [go_sem] extract_list append_list size_list
/-- The byte at a place; beyond the end: nought. Closed to the walk. -/
def bt (l : List UInt8) (i : Nat) : UInt8 := l.getD i 0
theorem bt_get (l : List UInt8) (i : Nat) (h : i < l.length) : bt l i = l[i] := by simp [bt, List.getD, h]
theorem bt_some (l : List UInt8) (i : Nat) (h : i < l.length) : l[i]? = some (bt l i) := by rw [bt_get l i h]; exact List.getElem?_eq_getElem h
theorem bt_out (l : List UInt8) (i : Nat) (h : l.length ≤ i) : bt l i = 0 := by simp [bt, List.getD, List.getElem?_eq_none h]
theorem get_list (l : List UInt8) (i : Nat) (h : i < (⟨l.toArray⟩ : ByteArray).size) : (⟨l.toArray⟩ : ByteArray)[i] = bt l i := by
  have h' : i < l.length := by simpa [size_list] using h
  rw [bt_get l i h']; rfl
theorem get?_list (l : List UInt8) (i : Nat) (h : i < l.length) : (⟨l.toArray⟩ : ByteArray)[i]? = some (bt l i) := by
  rw [getElem?_pos (c := (⟨l.toArray⟩ : ByteArray)) (i := i) (h := by simpa [size_list] using h), get_list]
attribute [go_sem] get_list get?_list
theorem cut_one (l : List UInt8) (i : Nat) (h : i < l.length) : (l.take (i + 1)).drop i = [bt l i] := by
  rw [List.drop_take, show i + 1 - i = 1 by omega]
  rw [List.drop_eq_getElem_cons h, List.take_succ_cons, List.take_zero, bt_get _ _ h]
theorem take_snoc (l : List UInt8) (k : Nat) (h : k < l.length) : l.take (k + 1) = l.take k ++ [bt l k] := by
  rw [List.take_succ_eq_append_getElem h, bt_get _ _ h]
theorem byt_map (l : List UInt8) (i : Nat) (h : i < l.length) : (l.map Byt)[i]? = some (Byt (bt l i)) := by
  rw [List.getElem?_map, bt_some l i h]; rfl

theorem run_index_str {P : Program} {t : TypeId} (ht : P.underlying t = some .string) (l : List UInt8) (i : Nat) (i' : Int) (hi' : i' = (i : Int)) (h : i < l.length) (W : World) :
    (Instr.index t (Str l) (.int .i64 i')).run P W = .ok (Byt (bt l i)) W := by
  subst hi'
  simp [Instr.index, asIntOf, run_underlying ht, get?_list l i h, Result.andThen]

/-! ### Frames -/
theorem _root_.Go.RowKit.Below.drewN {B : Nat} {a w : World} (h : Below B a w) (n : Nat) : Below B a (w.drewN n) := ⟨h.os, h.tape, h.output, h.size, h.block⟩
/-- What lay lies as it lay. -/
abbrev Ext (w w' : World) : Prop := Below w.heap.size w w'
theorem ext_refl (w : World) : Ext w w := Below.refl _ _
theorem ext_trans {a b c : World} (h : Ext a b) (k : Ext b c) : Ext a c := h.trans (k.mono h.size)
theorem ext_drewN {a w : World} (h : Ext a w) (n : Nat) : Ext a (w.drewN n) := Below.drewN h n
theorem ext_cell {w w' : World} (h : Ext w w') {a : Addr} {v : Value} (hc : w.cell? a = some v) : w'.cell? a = some v :=
  (h.cell (World.block_lt_of_cell? w a hc)).trans hc
/-- Cells and marks of old blocks, for the walk. -/
theorem ext_cells {w w' : World} (h : Ext w w') : (∀ b o, b < w.heap.size → w'.cell? ⟨b, o, none⟩ = w.cell? ⟨b, o, none⟩) ∧ (∀ b o, b < w.heap.size → w'.frozen? ⟨b, o, none⟩ = w.frozen? ⟨b, o, none⟩) :=
  ⟨fun b o hb => h.cell (p := ⟨b, o, none⟩) hb, fun b o hb => h.frozen (p := ⟨b, o, none⟩) hb⟩

/-! ### Slices that read as lists (elements of one cell) -/
def adr (ao : Option Addr) (k : Nat) : Addr := (ao.getD ⟨0, 0, none⟩).add k
def Sl (w : World) (v : Value) (l : List Value) : Prop :=
  ∃ ao cap, v = .slice ao l.length cap ∧ l.length ≤ cap ∧ cap ≤ maxLen ∧ (ao = none → cap = 0) ∧ ∀ j u, l[j]? = some u → w.cell? (adr ao j) = some u
abbrev SlB (w : World) (v : Value) (l : List UInt8) : Prop := Sl w v (l.map Byt)
theorem Sl.ext {w w' : World} {v : Value} {l : List Value} (h : Sl w v l) (he : Ext w w') : Sl w' v l := by
  obtain ⟨ao, cap, hv, h1, h2, h3, hc⟩ := h
  exact ⟨ao, cap, hv, h1, h2, h3, fun j u hu => ext_cell he (hc j u hu)⟩
theorem sl_nil (w : World) : Sl w (.slice none 0 0) [] := ⟨none, 0, rfl, Nat.le_refl _, by simp [maxLen], fun _ => rfl, fun j u hu => by simp at hu⟩
theorem adr_some (b o k : Nat) : adr (some ⟨b, o, none⟩) k = ⟨b, o + k, none⟩ := by
  unfold adr Addr.add; split <;> simp_all
theorem sl_of_own {w : World} {base e : Nat} {v : Value} {n : Nat} {xs : List Value} (h : w.ownsRow base e 1 v n xs) : Sl w v xs := by
  obtain ⟨hl, h⟩ := h
  rcases h with ⟨rfl, rfl⟩ | ⟨g, cap, cur, rfl, _, hg, hn, hm, hs, ht⟩
  · have : xs = [] := List.eq_nil_of_length_eq_zero (by simpa using hl)
    subst this; exact sl_nil w
  · have hl' : xs.length = n := by simpa using hl
    subst hl'
    refine ⟨_, cap, rfl, hn, hm, (fun h => by cases h), fun j u hu => ?_⟩
    rw [adr_some, Nat.zero_add, cell_of_row w g j cur e (0, 0) hg]
    rw [← ht, List.getElem?_take] at hu
    split at hu
    · simpa using hu
    · cases hu
section
variable {P : Program} {t e : TypeId}
theorem run_index_adr (ht : P.underlying t = some (.slice e)) (hz : ∀ w, (Go.sizeOf e).run P w = .ok 1 w) {ao : Option Addr} {n cap : Nat} (hnil : ao = none → cap = 0) (hcap : n ≤ cap) :
    ∀ (W : World) (k : Nat), k < n → (Instr.indexAt t (.slice ao n cap) (.int .i64 (k : Int))).run P W = .ok (.pointer (some (adr ao k))) W := by
  intro W k hk
  cases ao with
  | none => have := hnil rfl; omega
  | some a =>
    have ht' : P.underlying t = some (.slice (P.elem t)) := by simp [Program.elem, ht]
    have he : P.elem t = e := by simp [Program.elem, ht]
    rw [run_indexAt_slice (h := ht'), if_pos (by omega), he]
    simp [hz, adr, Result.andThen]

theorem run_min_nat (P : Program) (a b : Nat) (b' : Int) (hb : b' = (b : Int)) : ∀ (ts : Array TypeId) (t : TypeId) (W : World), (Builtin.min_ ts t #[.int .i64 (a : Int), .int .i64 b']).run P W = .ok (.int .i64 ((min a b : Nat) : Int)) W := by
  intro ts t W
  subst hb
  simp only [Builtin.min_, List.foldlM, Builtin.min2, Sem.run_bind, Sem.run_pure, Result.andThen]
  by_cases h : b < a
  · rw [if_pos (by omega)]; simp [Nat.min_eq_right (Nat.le_of_lt h)]
  · rw [if_neg (by omega)]; simp [Nat.min_eq_left (Nat.le_of_not_lt h)]

/-! ### Bits of ints -/
theorem ofInt_i64 (a : Nat) (ha : a < 9223372036854775808) : (BitVec.ofInt 64 (a : Int)).toNat = a := by
  rw [BitVec.ofInt_natCast, BitVec.toNat_ofNat]; exact Nat.mod_eq_of_lt (by omega)
theorem i64_or_nat (a b : Nat) (ha : a < 9223372036854775808) (hb : b < 9223372036854775808) : bits .or .i64 (a : Int) (b : Int) = ((a ||| b : Nat) : Int) := by
  have hx : a ||| b < 2 ^ 63 := Nat.or_lt_two_pow (by omega) (by omega)
  show IntKind.i64.wrap ((BitVec.ofInt 64 (a : Int) ||| BitVec.ofInt 64 (b : Int)).toNat : Int) = _
  rw [BitVec.toNat_or, ofInt_i64 a ha, ofInt_i64 b hb, IntKind.wrap_i64]
  omega
theorem i64_and_nat (a b : Nat) (ha : a < 9223372036854775808) (hb : b < 9223372036854775808) : bits .and .i64 (a : Int) (b : Int) = ((a &&& b : Nat) : Int) := by
  have hx : a &&& b < 2 ^ 63 := Nat.and_lt_two_pow _ (by omega)
  show IntKind.i64.wrap ((BitVec.ofInt 64 (a : Int) &&& BitVec.ofInt 64 (b : Int)).toNat : Int) = _
  rw [BitVec.toNat_and, ofInt_i64 a ha, ofInt_i64 b hb, IntKind.wrap_i64]
  omega
/-- 'x | c' where x's low i bits are noughts and c has no more. -/
theorem i64_or_low (i a c : Nat) (ha : a * 2 ^ i + c < 9223372036854775808) (hc : c < 2 ^ i) : bits .or .i64 ((a * 2 ^ i : Nat) : Int) (c : Int) = ((a * 2 ^ i + c : Nat) : Int) := by
  rw [i64_or_nat _ _ (by omega) (by omega), nat_join i (a * 2 ^ i) c (by simp) hc]
/-- 'x & (2^i - 1)'. -/
theorem i64_and_low (i a m : Nat) (ha : a < 9223372036854775808) (hm : m = 2 ^ i - 1) (hi : i ≤ 62) : bits .and .i64 (a : Int) (m : Int) = ((a % 2 ^ i : Nat) : Int) := by
  have : 2 ^ i ≤ 2 ^ 62 := Nat.pow_le_pow_right (by omega) hi
  rw [i64_and_nat _ _ ha (by omega), hm, Nat.and_two_pow_sub_one_eq_mod]

/-! ### Sums of bits, in the walk's own spelling -/
theorem and_num (i m : Nat) (m' : Int) (a : Nat) (ha : a < 1000000000000) (hm : m = 2 ^ i - 1) (hm' : m' = (m : Int)) (hi : i ≤ 62) : bits .and .i64 (a : Int) m' = ((a % 2 ^ i : Nat) : Int) := by
  subst hm'; exact i64_and_low i a m (by omega) hm hi
theorem or_num (i : Nat) (p : Nat) (p' : Int) (a c : Nat) (hp : p = 2 ^ i) (hp' : p' = (p : Int)) (ha : a * p + c < 1000000000000) (hc : c < p) : bits .or .i64 ((a : Int) * p') (c : Int) = ((a * p + c : Nat) : Int) := by
  subst hp'; subst hp
  have := i64_or_low i a c (by omega) hc
  simpa using this

/-! ### Where a slice's cells lie -/
def sblk (v : Value) (n k : Nat) : Prop := 0 < n ∧ v.ownBlock = some k
theorem adr_block (a : Addr) (j : Nat) : (adr (some a) j).block = a.block := by
  unfold adr Addr.add; split <;> rfl
theorem sblk_lt {w : World} {v : Value} {l : List Value} (h : Sl w v l) {k : Nat} (hk : sblk v l.length k) : k < w.heap.size := by
  obtain ⟨ao, cap, rfl, h1, h2, h3, hc⟩ := h
  obtain ⟨hne, ho⟩ := hk
  cases ao with
  | none => simp [Value.ownBlock] at ho
  | some a =>
    simp [Value.ownBlock] at ho; subst ho
    cases l with
    | nil => simp at hne
    | cons x l => have := World.block_lt_of_cell? w _ (hc 0 x rfl); rwa [adr_block] at this
theorem Sl.keep {w w' : World} {v : Value} {l : List Value} (h : Sl w v l) (hk : ∀ k, sblk v l.length k → w'.heap[k]? = w.heap[k]?) : Sl w' v l := by
  obtain ⟨ao, cap, rfl, h1, h2, h3, hc⟩ := h
  refine ⟨ao, cap, rfl, h1, h2, h3, fun j u hu => ?_⟩
  have hlt := (List.getElem?_eq_some_iff.1 hu).1
  cases ao with
  | none => have := h3 rfl; omega
  | some a =>
    refine (World.cell?_of_block ?_).trans (hc j u hu)
    rw [adr_block]
    exact hk _ ⟨by omega, rfl⟩

/-! ### Cuts of slices -/
/-- v[k:] -/
def resl : Value → Nat → Value
  | .slice a n cap, k => .slice (if cap = k then a else a.map (·.add k)) (n - k) (cap - k)
  | v, _ => v
/-- v[:k:k] -/
def cutm : Value → Nat → Value
  | .slice a _ _, k => .slice (if k = 0 then a else a.map (·.add 0)) k k
  | v, _ => v
theorem add_add (a : Addr) (j k : Nat) : (a.add j).add k = a.add (j + k) := by
  unfold Addr.add
  by_cases hj : j = 0
  · subst hj; simp
  · by_cases hk : k = 0
    · subst hk; simp
    · simp [hj, hk, Nat.add_assoc]
theorem adr_map (ao : Option Addr) (h : ao ≠ none) (k j : Nat) : adr (ao.map (·.add k)) j = adr ao (k + j) := by
  cases ao with
  | none => exact absurd rfl h
  | some a => simp [adr, add_add]
theorem Sl.resl {w : World} {v : Value} {l : List Value} (h : Sl w v l) {k : Nat} (hk : k ≤ l.length) : Sl w (resl v k) (l.drop k) := by
  obtain ⟨ao, cap, rfl, h1, h2, h3, hc⟩ := h
  refine ⟨_, _, by rw [YtjbobblnicnhnaaDoor.resl, List.length_drop], by simp; omega, by omega, fun h => ?_, fun j u hu => ?_⟩
  · split at h
    · have := h3 h; omega
    · cases ao with
      | none => have := h3 rfl; omega
      | some a => simp at h
  · have hu' : l[k + j]? = some u := by rw [List.getElem?_drop] at hu; exact hu
    have hlt : k + j < l.length := (List.getElem?_eq_some_iff.1 hu').1
    rw [if_neg (by omega)]
    have hne : ao ≠ none := fun e => by have := h3 e; omega
    rw [adr_map _ hne]
    exact hc _ _ hu'
theorem Sl.cutm {w : World} {v : Value} {l : List Value} (h : Sl w v l) {k : Nat} (hk : k ≤ l.length) : Sl w (cutm v k) (l.take k) := by
  obtain ⟨ao, cap, rfl, h1, h2, h3, hc⟩ := h
  have hlen : (l.take k).length = k := by simp; omega
  refine ⟨_, k, by rw [YtjbobblnicnhnaaDoor.cutm, hlen], by omega, by omega, fun h => ?_, fun j u hu => ?_⟩
  · split at h
    · assumption
    · cases ao with
      | none => have := h3 rfl; omega
      | some a => simp at h
  · have hj : j < k := by have := (List.getElem?_eq_some_iff.1 hu).1; omega
    have hu' : l[j]? = some u := by rw [List.getElem?_take_of_lt hj] at hu; exact hu
    rw [if_neg (by omega)]
    have hne : ao ≠ none := fun e => by have := h3 e; omega
    rw [adr_map _ hne, Nat.zero_add]
    exact hc _ _ hu'
theorem run_resl (ht : P.underlying t = some (.slice e)) (hz : ∀ w, (Go.sizeOf e).run P w = .ok 1 w) {ao : Option Addr} {n cap : Nat} :
    ∀ (W : World) (k : Nat), k ≤ n → (Instr.slice t (.slice ao n cap) (some (.int .i64 (k : Int))) none none).run P W = .ok (resl (.slice ao n cap) k) W := by
  intro W k hk
  have hs := run_sliceBound (P := P) (w := W) .i64 (k : Int) n .sliceB (by omega) (by omega)
  simp [Instr.slice, Instr.sliceBounds, run_underlying ht, hs, hz, Result.andThen, resl]
theorem run_cutm (ht : P.underlying t = some (.slice e)) (hz : ∀ w, (Go.sizeOf e).run P w = .ok 1 w) {ao : Option Addr} {n cap : Nat} (hcap : n ≤ cap) :
    ∀ (W : World) (k : Nat), k ≤ n → (Instr.slice t (.slice ao n cap) none (some (.int .i64 (k : Int))) (some (.int .i64 (k : Int)))).run P W = .ok (cutm (.slice ao n cap) k) W := by
  intro W k hk
  have h1 := run_sliceBound (P := P) (w := W) .i64 (k : Int) cap .slice3Acap (by omega) (by omega)
  have h2 := run_sliceBound (P := P) (w := W) .i64 (k : Int) k .slice3B (by omega) (by omega)
  simp [Instr.slice, Instr.sliceBounds, run_underlying ht, h1, h2, hz, Result.andThen, cutm]
end

/-! ### 'out = append(out, x)', out nil or the call's own -/
theorem grownBy_from {w w' : World} {o : Obj} {row : Option Nat} (h : (w.alloc o).grownBy w' row) : w.grownBy w' row :=
  ⟨h.os, h.tape, h.output, Nat.le_trans (by simp) h.size, fun k hk hr => (h.block k (by simp; omega) hr).trans (Below.heap_alloc w o k hk)⟩
theorem wpList_push {P : Program} {w : World} {ops : Array Oper} {rest : List Oper} {o : Oper} {a : Act} {Q : Exit → Act → World → Prop} (base : Nat) (hgd : o.guard = none) (s x : Operand) (t e : TypeId)
    (ho : o.op = .call { callee := .builtin .append, args := #[s, x], argTypes := #[t, t] }) (ht : P.underlying t = some (.slice e))
    {z : Value} {bytes : Nat} (hinfo : (P.info? e).map (fun i => (i.zero, i.size, i.bytes)) = some (some z, 1, bytes)) (hz : z.cells.size = 1) (hb : bytes ≤ 1000)
    {v : Value} {n : Nat} {xs : List Value} (hown : w.ownsRow base e 1 v n xs) (u : Value) (hu : u.oneCell' = true) (hn : n + 1 ≤ 100000000) (hbase : base ≤ w.heap.size)
    (hs : a.eval s = v) (hx : a.eval x = .slice (some ⟨w.heap.size, 0, none⟩) 1 1)
    (h : ∀ v' w', (∃ g cap, v' = .slice (some ⟨g, 0, none⟩) (n + 1) cap) → w'.ownsRow base e 1 v' (n + 1) (xs ++ [u]) → w.grownBy w' v.ownBlock → wpList P ops Q rest (a.put o.dst v') w') :
    wpList P ops Q (o :: rest) a (w.alloc (.cells #[u] e)) := by
  obtain ⟨i0, hi, hz0, hz1, hz2⟩ := info_parts hinfo
  refine wpList_append_own _ hgd s x t ho base e i0 z 1 bytes ht hi hz0 hz1 hz2 hz (by decide) v n xs hs (hown.alloc _) ⟨w.heap.size, 0, none⟩ 1 1 [u] hx rfl ?_ ?_ ?_ ?_ ?_ ?_
  · intro j y hj
    match j, hj with
    | 0, hj =>
      simp at hj; subst hj
      show (w.alloc (.cells #[u] e)).cell? ⟨w.heap.size, 0, none⟩ = some u
      simp only [World.cell?]
      rw [show (w.alloc (.cells #[u] e)).heap[w.heap.size]? = some (.cells #[u] e) from heap_alloc_new w _]
      simp
  · intro y hy; simp at hy; subst hy; exact hu
  · unfold maxLen; omega
  · have : (n + 1) * bytes ≤ 100000000 * 1000 := Nat.mul_le_mul hn hb
    omega
  · simp; omega
  · intro v' w' h1 h2 _
    refine h v' w' ?_ h1 (grownBy_from h2)
    rcases h1.2 with ⟨_, h0⟩ | ⟨g, cap, cur, hv, _⟩
    · omega
    · exact ⟨g, cap, hv⟩
/-- The frame behind it. -/
theorem ext_push {w0 w w' : World} {e : TypeId} {v : Value} {n : Nat} {xs : List Value} (h : Ext w0 w) (hown : w.ownsRow w0.heap.size e 1 v n xs) (hg : w.grownBy w' v.ownBlock) : Ext w0 w' :=
  h.grown hg h.size (fun k hk => (hown.lt k hk).1)
/-- The shape of an owned row that is not empty. -/
theorem own_shape {w : World} {base e : Nat} {v : Value} {n : Nat} {xs : List Value} (h : w.ownsRow base e 1 v n xs) (hn : 0 < n) : ∃ g cap, v = .slice (some ⟨g, 0, none⟩) n cap ∧ base ≤ g := by
  rcases h.2 with ⟨_, h0⟩ | ⟨g, cap, cur, hv, hb, _⟩
  · omega
  · exact ⟨g, cap, hv, hb⟩
/-- '[]byte(s)': a new row. -/
theorem bytes_of_str {P : Program} (w : World) (src dst e : TypeId) (l : List UInt8) (hl : l.length ≤ maxLen) (hs : P.underlying src = some .string) (hd : P.underlying dst = some (.slice e)) (he : P.underlying e = some (.int .u8)) :
    ∃ cap w', (convert src dst (Str l)).run P w = .ok (.slice (some ⟨w.heap.size, 0, none⟩) l.length cap) w' ∧ Ext w w' ∧ SlB w' (.slice (some ⟨w.heap.size, 0, none⟩) l.length cap) l := by
  have h := run_bytes_of_string (P := P) w src dst e ⟨l.toArray⟩ hs hd he
  rw [size_list] at h
  refine ⟨_, _, h, (Below.drew (Below.refl _ w)).alloc (Nat.le_refl _) _, _, _, by rw [List.length_map], ?_, ?_, (fun h => by cases h), fun j u hu => ?_⟩
  · rw [List.length_map]; exact grownCap_ge _ _ _ _
  · exact grownCap_le_maxLen _ _ _ _ hl
  · rw [adr_some, Nat.zero_add]
    have hj : j < l.length := by have := (List.getElem?_eq_some_iff.1 hu).1; simpa using this
    have hblk : (w.drew.alloc (.cells (bytesRow ⟨l.toArray⟩ (grownCap w l.length 0 e)) e ((bytesRow ⟨l.toArray⟩ (grownCap w l.length 0 e)).size, (bytesRow ⟨l.toArray⟩ (grownCap w l.length 0 e)).size + 1))).heap[w.heap.size]? = _ := heap_alloc_new w.drew _
    rw [cell_of_row _ _ j _ _ _ hblk]
    rw [byt_map l j hj] at hu
    cases hu
    simp only [bytesRow]
    rw [Array.getElem?_append_left (by simpa using hj)]
    simp only [Array.getElem?_map, List.getElem?_toArray]
    rw [bt_some l j hj]; rfl

/-! ### New blocks in a row -/
def allocs (w : World) (os : List Obj) : World := os.foldl World.alloc w
theorem allocs_size (w : World) (os : List Obj) : (allocs w os).heap.size = w.heap.size + os.length := by
  induction os generalizing w with
  | nil => rfl
  | cons o os ih => show (allocs (w.alloc o) os).heap.size = _; rw [ih]; simp; omega
theorem allocs_ext (w : World) (os : List Obj) : Ext w (allocs w os) := by
  induction os generalizing w with
  | nil => exact Below.refl _ _
  | cons o os ih => exact ext_trans ((Below.refl _ w).alloc (Nat.le_refl _) o) (ih (w.alloc o))
theorem allocs_at (w : World) (os : List Obj) (j : Nat) (o : Obj) (h : os[j]? = some o) : (allocs w os).heap[w.heap.size + j]? = some o := by
  induction os generalizing w j with
  | nil => simp at h
  | cons o' os ih =>
    cases j with
    | zero =>
      simp at h; subst h
      exact ((allocs_ext (w.alloc o') os).block _ (by simp)).trans (heap_alloc_new w o')
    | succ j =>
      have := ih (w.alloc o') j (by simpa using h)
      rw [show (w.alloc o').heap.size + j = w.heap.size + (j + 1) by simp; omega] at this
      exact this
end Go.Proofs.YtjbobblnicnhnaaDoor
