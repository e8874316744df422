/-
  Both traces side by side: what the law's build makes of operations.
-/
import Derived.Test.YtpndahmlbjhdfaaDoorRows
import Derived.Test.YtpndahmlbjhdfaaDoorRch
import Derived.Test.YtpndahmlbjhdfaaDoorTrb
namespace Go.Proofs.YtpndahmlbjhdfaaDoor
open Go.RowKit
set_option linter.unusedVariables false
set_option linter.unusedSimpArgs false
structure OpE where
  tk : Nat
  kind : List UInt8
  conn : Int
  text : List UInt8
/-- The event that an operation would add behind n of them. -/
def OpE.ev (o : OpE) (n : Nat) : Ev := ⟨n + 1, o.tk, o.kind.take 40, o.conn, o.text.take 210⟩
def bldS (L : List Ev) (o : OpE) : List Ev := if (o.ev L.length).right then L ++ [o.ev L.length] else L
/-- The events that operations leave. -/
def bldL (os : List OpE) : List Ev := os.foldl bldS []
theorem bldL_snoc (os : List OpE) (o : OpE) : bldL (os ++ [o]) = bldS (bldL os) o := by simp [bldL, List.foldl_append]
/-- All are right, numbered from one on. -/
def goodL (L : List Ev) : Prop := ∀ j e, L[j]? = some e → e.right = true ∧ e.n = j + 1
theorem goodL_step {L : List Ev} (h : goodL L) (o : OpE) : goodL (bldS L o) := by
  unfold bldS
  split
  · rename_i hr
    intro j e he
    rcases Nat.lt_or_ge j L.length with hj | hj
    · rw [List.getElem?_append_left hj] at he
      exact h j e he
    · rw [List.getElem?_append_right hj] at he
      have h0 : j - L.length = 0 := by
        rcases Nat.eq_zero_or_pos (j - L.length) with h1 | h1
        · exact h1
        · rw [List.getElem?_eq_none (by simp; omega)] at he; cases he
      rw [h0] at he
      cases he
      exact ⟨hr, by show L.length + 1 = j + 1; omega⟩
  · exact h
theorem bldS_len (L : List Ev) (o : OpE) : (bldS L o).length ≤ L.length + 1 := by
  unfold bldS; split <;> simp
theorem bldL_good (os : List OpE) : goodL (bldL os) ∧ (bldL os).length ≤ os.length := by
  suffices h : ∀ (os : List OpE) (L : List Ev), goodL L → goodL (os.foldl bldS L) ∧ (os.foldl bldS L).length ≤ L.length + os.length by
    have := h os [] (fun j e he => by simp at he)
    exact ⟨this.1, by simpa [bldL] using this.2⟩
  intro os
  induction os with
  | nil => intro L h; exact ⟨h, by simp⟩
  | cons o os ih =>
    intro L h
    have h1 := ih _ (goodL_step h o)
    have h2 := bldS_len L o
    exact ⟨h1.1, by simp only [List.foldl_cons, List.length_cons]; omega⟩
/-- The trace behind events. -/
def stOf (room : Nat) (L : List Ev) : TrS := ⟨room, L.drop (L.length - room), L.length, chainR zero32 L⟩
theorem stOf_nil (room : Nat) : stOf room [] = newS room := by simp [stOf, newS, chainR]
theorem stOf_add (room : Nat) (hr : 1 ≤ room) (L : List Ev) (e : Ev) (he : e.right = true) : addS (stOf room L) e = stOf room (L ++ [e]) := by
  unfold addS stOf
  have h1 : lnR e = e.line := by unfold lnR; rw [if_pos he]
  have h2 : chainR zero32 (L ++ [e]) = shSum (chainR zero32 L ++ e.line) := by rw [chainR_snoc, h1]
  have h3 : (L.drop (L.length - room) ++ [e]).drop ((L.drop (L.length - room)).length + 1 - room) = (L ++ [e]).drop ((L ++ [e]).length - room) := by
    rw [List.length_drop, List.length_append, List.length_singleton]
    by_cases h4 : L.length < room
    · rw [show L.length - room = 0 by omega, List.drop_zero, show L.length - 0 + 1 - room = L.length + 1 - room by omega]
    · rw [show L.length - (L.length - room) + 1 - room = 1 by omega]
      rw [← List.drop_append_of_le_length (by omega), List.drop_drop]
      congr 1
      omega
  simp only [h2, h3, List.length_append, List.length_singleton]
theorem stOf_fit (room : Nat) (h1 : 1 ≤ room) (h2 : room ≤ 256) (L : List Ev) (hl : L.length ≤ 1000) : (stOf room L).fit :=
  ⟨h1, h2, by simp only [stOf, List.length_drop]; omega, by simp only [stOf]; omega, chainR_len L _ (by simp [zero32])⟩
theorem kind_ne {W : World} {a b : Nat} {s t : TypeId} (ha : kind? W a = some s) (hb : kind? W b = some t) (h : s ≠ t) : a ≠ b := fun e => by subst e; rw [ha] at hb; exact h (Option.some.inj hb)
/-- What changes no block of the document's trace leaves it. -/
theorem RfAt.keep {B p : Nat} {v : Value} {room : Int} {L : List Ev} {W C : World} (h : RfAt B p v room L W) (hp : C.heap[p]? = W.heap[p]?) (hv : ∀ g, v.ownBlock = some g → C.heap[g]? = W.heap[g]?) : RfAt B p v room L C :=
  ⟨hp.trans h.blk, OwnF.keep h.row hv, h.lo⟩
theorem RfAt.ext {B p : Nat} {v : Value} {room : Int} {L : List Ev} {W C : World} (h : RfAt B p v room L W) (hx : Ext W C) : RfAt B p v room L C :=
  h.keep (hx.block p (Array.getElem?_eq_some_iff.1 h.blk).1) (fun g hg => hx.block g (ownF_at h.row hg).2)
/-- An addition to the one leaves the other. -/
theorem rf_over {B B' p q : Nat} {lv cv xv : Value} {S : TrS} {room : Int} {L : List Ev} {W C : World} (ht : TrAt B p lv cv S W) (h : RfAt B' q xv room L W) (hc : Ch (fun k => k = p ∨ lv.ownBlock = some k) W C) : RfAt B' q xv room L C := by
  have hq := (Array.getElem?_eq_some_iff.1 h.blk).1
  have kp := kind_of_cells ht.blk
  have kq := kind_of_cells h.blk
  refine h.keep (hc.block q hq (fun hs => ?_)) (fun g hg => ?_)
  · rcases hs with rfl | hs
    · exact kind_ne kp kq (by decide) rfl
    · exact kind_ne (own_lt ht.row hs).2.2 kq (by decide) rfl
  · have hg2 := own_lt h.row hg
    refine hc.block g hg2.2.1 (fun hs => ?_)
    rcases hs with rfl | hs
    · exact kind_ne kp hg2.2.2 (by decide) rfl
    · exact kind_ne (own_lt ht.row hs).2.2 hg2.2.2 (by decide) rfl
theorem tr_over {B B' p q : Nat} {lv cv xv : Value} {S : TrS} {room : Int} {L : List Ev} {W C : World} (ht : TrAt B p lv cv S W) (h : RfAt B' q xv room L W) (hc : Ch (fun k => k = q) W C) : TrAt B p lv cv S C := by
  have kq := kind_of_cells h.blk
  have one : ∀ g s, g < W.heap.size → kind? W g = some s → s ≠ 43 → C.heap[g]? = W.heap[g]? := fun g s hg hk hs => hc.block g hg (fun e => by
    have e' : g = q := e
    subst e'
    exact kind_ne hk kq hs rfl)
  refine ht.keep (fun k hk => ?_)
  rcases hk with rfl | hk | hk
  · exact one k _ (Array.getElem?_eq_some_iff.1 ht.blk).1 (kind_of_cells ht.blk) (by decide)
  · have h1 := own_lt ht.row hk
    exact one k _ h1.2.1 h1.2.2 (by decide)
  · have h1 := own_lt ht.ch hk
    exact one k _ h1.2.1 h1.2.2 (by decide)
/-- A row of operations. -/
def opC (o : OpE) : List Value := [.int .u64 (o.tk : Int), Str o.kind, .int .i64 o.conn, Str o.text]
abbrev RowO (W : World) (v : Value) (os : List OpE) : Prop := RowC 4 opC W v os
structure OpE.ok (o : OpE) : Prop where
  tk : o.tk < 18446744073709551616
  lo : -9223372036854775808 ≤ o.conn
  hi : o.conn ≤ 9223372036854775807
def opD : OpE := ⟨0, [], 0, []⟩
end Go.Proofs.YtpndahmlbjhdfaaDoor
