/-
  A policy's text in plain words; rows of structs that read as lists; three results that lie in cells.
-/
import Derived.Test.YtjbobblnicnhnaaDoorRows
import Derived.Test.YtjbobblnicnhnaaDoorKit
import Derived.Test.YtjbobblnicnhnaaDoorLin
namespace Go.Proofs.YtjbobblnicnhnaaDoor
open Go.RowKit
set_option linter.unusedVariables false
set_option linter.unusedSimpArgs false

/-! ### A policy's text -/
/-- No rule: nothing, or a remark. -/
def skipB (l : List UInt8) : Bool := (l == []) || Lib.hasPrefix l [35]
def okL (l : List UInt8) : Bool := skipB l || (lineO l).isSome
def ruL (l : List UInt8) : List Ru := if skipB l then [] else (lineO l).toList
def rulesL (ls : List (List UInt8)) : List Ru := ls.flatMap ruL
inductive PR where
  | long
  | bad (n : Nat)
  | full
  | ok (rs : List Ru)
  deriving DecidableEq
/-- The policy of a text. -/
def parseR (l : List UInt8) : PR :=
  if 4096 < l.length then .long else
  if (lnL l).all okL then (if 32 < (rulesL (lnL l)).length then .full else .ok (rulesL (lnL l))) else .bad ((lnL l).findIdx (fun x => !okL x) + 1)
theorem rulesL_len (ls : List (List UInt8)) : (rulesL ls).length ≤ ls.length := by
  induction ls with
  | nil => simp [rulesL]
  | cons l ls ih =>
    have : (ruL l).length ≤ 1 := by
      unfold ruL; split
      · simp
      · cases lineO l <;> simp
    simp only [rulesL, List.flatMap_cons, List.length_append, List.length_cons] at ih ⊢
    omega
theorem rulesL_snoc (ls : List (List UInt8)) (i : Nat) (h : i < ls.length) : rulesL (ls.take (i + 1)) = rulesL (ls.take i) ++ ruL (ls.getD i []) := by
  have hd : ls.getD i [] = ls[i] := by simp [List.getD, h]
  rw [hd, List.take_succ_eq_append_getElem h]
  unfold rulesL
  rw [List.flatMap_append]
  simp only [List.flatMap_cons, List.flatMap_nil, List.append_nil]
theorem okL_snoc (ls : List (List UInt8)) (i : Nat) (h : i < ls.length) (ha : (ls.take i).all okL = true) : (okL (ls.getD i []) = true → (ls.take (i + 1)).all okL = true) ∧ (okL (ls.getD i []) = false → ls.all okL = false ∧ ls.findIdx (fun x => !okL x) = i) := by
  have e : (ls.take (i + 1)).all okL = ((ls.take i).all okL && okL (ls.getD i [])) := by
    have hd : ls.getD i [] = ls[i] := by simp [List.getD, h]
    rw [hd, List.take_succ_eq_append_getElem h, List.all_append]
    simp only [List.all_cons, List.all_nil, Bool.and_true]
  refine ⟨fun h1 => by rw [e, ha, h1]; rfl, fun h1 => ⟨?_, ?_⟩⟩
  · cases hg : ls.all okL with
    | false => rfl
    | true =>
      have : okL (ls.getD i []) = true := by
        rw [List.all_eq_true] at hg
        exact hg _ (by simp [List.getD, h])
      rw [h1] at this; cases this
  · have h2 : okL ls[i] = false := by simpa [List.getD, h] using h1
    refine (List.findIdx_eq h).2 ⟨by simp [h2], fun j hj => ?_⟩
    rw [List.all_eq_true] at ha
    have := ha ls[j] (by rw [List.mem_take_iff_getElem]; exact ⟨j, by omega, rfl⟩)
    simp [this]

theorem ruC_len (r : Ru) : (ruC r).length = 6 := rfl
abbrev RowU (W : World) (v : Value) (rs : List Ru) : Prop := RowC 6 ruC W v rs
/-- A policy: a block of its own, or one that came in. -/
def PolAt (W : World) (b : Nat) (rs : List Ru) : Prop := ∃ v, W.heap[b]? = some (.cells #[v] 75 (0, 0)) ∧ RowU W v rs
theorem PolAt.ext {W C : World} {b : Nat} {rs : List Ru} (h : PolAt W b rs) (he : Ext W C) : PolAt C b rs := by
  obtain ⟨v, h1, h2⟩ := h
  exact ⟨v, (he.block _ (Array.getElem?_eq_some_iff.1 h1).1).trans h1, h2.ext he⟩

/-! ### Three results in cells -/
theorem results_cells3 {fn : Func} {t u x e1 e2 e3 : Nat} (h : fn.results = #[.cell t e1, .cell u e2, .cell x e3]) (tmps : Array Value) (P : Program) (w : World) {p q r : Addr} {v1 v2 v3 : Value}
    (ht : tmps.getD t undef = .pointer (some p)) (hu : tmps.getD u undef = .pointer (some q)) (hx : tmps.getD x undef = .pointer (some r)) (i1 : ∀ w, (isAgg e1).run P w = .ok false w) (i2 : ∀ w, (isAgg e2).run P w = .ok false w) (i3 : ∀ w, (isAgg e3).run P w = .ok false w) (c1 : w.cell? p = some v1) (c2 : w.cell? q = some v2) (c3 : w.cell? r = some v3) :
    (results fn tmps).run P w = .ok (.tuple #[v1, v2, v3]) w := by
  have ht' : tmps[t]?.getD undef = .pointer (some p) := by rw [← ht]; simp [Array.getD_eq_getD_getElem?]
  have hu' : tmps[u]?.getD undef = .pointer (some q) := by rw [← hu]; simp [Array.getD_eq_getD_getElem?]
  have hx' : tmps[x]?.getD undef = .pointer (some r) := by rw [← hx]; simp [Array.getD_eq_getD_getElem?]
  simp [results, h, ht', hu', hx', asAddr, loadVar, i1, i2, i3, c1, c2, c3, Result.andThen]
end Go.Proofs.YtjbobblnicnhnaaDoor
