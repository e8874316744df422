/-
  b64.decode.
-/
import Derived.Test.YtpndahmlbjhdfaaDoorRows
import Derived.Test.YtpndahmlbjhdfaaDoorVal
import Derived.Test.YtpndahmlbjhdfaaDoorKit
import Derived.Test.YtpndahmlbjhdfaaDoorGrp
import Derived.Shelf.Abstract
namespace Go.Proofs.YtpndahmlbjhdfaaDoor
open Go.RowKit Go.Shelf
set_option linter.unusedVariables false
set_option linter.unusedSimpArgs false
attribute [local go_sem] Oper.semAt_some

/-- The number of letters. -/
def bitsN (A : List UInt8) : List UInt8 → Nat := fun g => g.foldl (fun b c => b * 64 + (valL A c).toNat) 0
def grpOk (A g : List UInt8) : Bool := g.all fun c => valL A c != -1
/-- The letters' number, moved up to four letters' place. -/
def grpNum (A g : List UInt8) : Nat := bitsN A g * 2 ^ (6 * (4 - g.length))
def grpOut (A g : List UInt8) : List UInt8 := (List.range (g.length - 1)).map fun j => UInt8.ofNat (grpNum A g / 2 ^ (8 * (2 - j)))
def grpBad (A g : List UInt8) : Bool := decide (g.length < 4) && (grpNum A g % 2 ^ (8 * (4 - g.length)) != 0)
def piece (l : List UInt8) (i : Nat) : List UInt8 := (l.drop (4 * i)).take 4
def decN (A l : List UInt8) (i : Nat) : List UInt8 := (List.range i).flatMap fun j => grpOut A (piece l j)
def codN (A l : List UInt8) : Nat → Nat
  | 0 => 0
  | i + 1 => if grpBad A (piece l i) then 4 else codN A l i
def okN (A l : List UInt8) (i : Nat) : Bool := (List.range i).all fun j => grpOk A (piece l j)
/-- What decode answers. -/
def decR (A l : List UInt8) : List UInt8 × Nat :=
  let n := (l.length + 3) / 4
  if okN A l n then (if codN A l n = 0 then (decN A l n, 0) else ([], codN A l n)) else ([], 5)
theorem decN_succ (A l : List UInt8) (i : Nat) : decN A l (i + 1) = decN A l i ++ grpOut A (piece l i) := by simp [decN, List.range_succ]
theorem okN_succ (A l : List UInt8) (i : Nat) : okN A l (i + 1) = (okN A l i && grpOk A (piece l i)) := by simp [okN, List.range_succ]
theorem okN_false {A l : List UInt8} {i n : Nat} (hi : i < n) (h : okN A l (i + 1) = false) : okN A l n = false := by
  cases hn : okN A l n with
  | false => rfl
  | true =>
    rw [← h]
    simp only [okN, List.all_eq_true, List.mem_range] at hn
    exact (List.all_eq_true.2 fun j hj => hn j (by have := List.mem_range.1 hj; omega)).symm
theorem bitsN_snoc (A g : List UInt8) (c : UInt8) : bitsN A (g ++ [c]) = bitsN A g * 64 + (valL A c).toNat := by simp [bitsN]
theorem valL_range (A : List UInt8) (c : UInt8) : -1 ≤ valL A c ∧ valL A c ≤ 63 := by
  unfold valL valN; have := c.toNat_lt; repeat' split
  all_goals omega
theorem list_snoc_ind {α : Type} {p : List α → Prop} (h0 : p []) (h1 : ∀ l x, p l → p (l ++ [x])) : ∀ l, p l := by
  intro l
  have h : ∀ l : List α, p l.reverse := fun l => by
    induction l with
    | nil => exact h0
    | cons x l ih => rw [List.reverse_cons]; exact h1 _ _ ih
  have := h l.reverse
  rwa [List.reverse_reverse] at this
theorem bitsN_lt (A : List UInt8) : ∀ g : List UInt8, bitsN A g < 64 ^ g.length := by
  refine list_snoc_ind (by simp [bitsN]) fun g c ih => ?_
  have := valL_range A c
  rw [bitsN_snoc, List.length_append, List.length_singleton, Nat.pow_succ]
  omega
theorem decN_len (A l : List UInt8) : ∀ n, (decN A l n).length ≤ 3 * n
  | 0 => by simp [decN]
  | n + 1 => by
    have h1 := decN_len A l n
    have h2 : (grpOut A (piece l n)).length ≤ 3 := by simp [grpOut, piece]; omega
    rw [decN_succ, List.length_append]; omega

theorem grpOut_take (A g : List UInt8) (j : Nat) (hj : j + 1 < g.length) : (grpOut A g).take (j + 1) = (grpOut A g).take j ++ [UInt8.ofNat (grpNum A g / 2 ^ (8 * (2 - j)))] := by
  have h : j < (grpOut A g).length := by simp [grpOut]; omega
  rw [List.take_succ_eq_append_getElem h]
  simp [grpOut]
/-- What the round keeps: the boxes at s (alphabet), s + 1 (the bytes), s + 2 (the code). -/
structure DI (s : Nat) (A : List UInt8) (w W2 : World) (own : Nat → Prop) (out : List UInt8) (code : Int) (v : Value) (W : World) : Prop where
  h0 : W.heap[s]? = some (.cells #[Str A] 9 (0, 0))
  h1 : W.heap[s + 1]? = some (.cells #[v] 45 (0, 0))
  h2 : W.heap[s + 2]? = some (.cells #[.int .i64 code] 51 (0, 0))
  row : W.ownsRow (s + 5) 5 1 v out.length (out.map Byt)
  bel : Below s w W
  kp : Kp (s + 5) own W2 W
  size : s + 5 ≤ W.heap.size
theorem DI.code {s : Nat} {A : List UInt8} {w W2 : World} {own : Nat → Prop} {out : List UInt8} {code : Int} {v : Value} {W : World} (h : DI s A w W2 own out code v W) (hs : s = w.heap.size) (ho : ∀ k, own k → k = s + 3 ∨ k = s + 4) (c : Int) :
    DI s A w W2 own out c v (W.setCell ⟨s + 2, 0, none⟩ (.int .i64 c)) := by
  have hsz := h.size
  have hc := Chg.setCell W ⟨s + 2, 0, none⟩ (.int .i64 c)
  refine ⟨(hc.block s (by omega) (by simp)).trans h.h0, (hc.block (s + 1) (by omega) (by simp)).trans h.h1, one_setCell h.h2, own_keep h.row fun g _ hg hk => hc.block g (kind_lt hk) (by simp; omega), below_chg h.bel hc (by simp; try omega) (by omega), h.kp.trans (Kp.of_chg hc (fun k hk => ?_) (fun k hk hB => ?_)), Nat.le_trans hsz hc.size⟩
  · have := ho k hk; simp; omega
  · simp at hk; omega
theorem DI.push {s : Nat} {A : List UInt8} {w W2 : World} {own : Nat → Prop} {out : List UInt8} {code : Int} {v : Value} {W : World} (h : DI s A w W2 own out code v W) (hs : s = w.heap.size) (ho : ∀ k, own k → k = s + 3 ∨ k = s + 4) {y : UInt8} {v' : Value} {w1 : World}
    (hown : w1.ownsRow (s + 5) 5 1 v' (out.length + 1) (out.map Byt ++ [Byt y])) (hg : W.grownBy w1 v.ownBlock) :
    w1.cell? ⟨s + 1, 0, none⟩ = some v ∧ w1.frozen? ⟨s + 1, 0, none⟩ = false ∧ DI s A w W2 own (out ++ [y]) code v' (w1.setCell ⟨s + 1, 0, none⟩ v') := by
  have hsz := h.size
  have hrow : ∀ k, v.ownBlock = some k → s + 5 ≤ k := fun k hk => (h.row.lt k hk).1
  have hlow : ∀ k, k < s + 5 → w1.heap[k]? = W.heap[k]? := fun k hk => hg.block k (by omega) (fun e => by have := hrow k e.symm; omega)
  have e1 := (hlow (s + 1) (by omega)).trans h.h1
  have hc := Chg.setCell w1 ⟨s + 1, 0, none⟩ v'
  refine ⟨cell_of e1, frozen_of e1, ⟨(hc.block s (by have := hg.size; omega) (by simp)).trans ((hlow s (by omega)).trans h.h0), one_setCell e1, (hc.block (s + 2) (by have := hg.size; omega) (by simp)).trans ((hlow (s + 2) (by omega)).trans h.h2), ?_, ?_, ?_, ?_⟩⟩
  · rw [List.length_append, List.map_append]
    exact own_keep hown fun g _ hg' hk => hc.block g (kind_lt hk) (by simp; omega)
  · exact below_chg (h.bel.grown hg (by have := h.bel.size; omega) (fun k hk => by have := hrow k hk; omega)) hc (by simp; try omega) (by omega)
  · refine h.kp.trans ((Kp.of_grown hg (fun k hk => ⟨by have := ho k hk; omega, fun e => by have := hrow k e; have := ho k hk; omega⟩) (fun k hk => ?_)).trans (Kp.of_chg hc (fun k hk => ?_) (fun k hk hB => ?_)))
    · rcases h.row.2 with ⟨hn, _⟩ | ⟨g, cap, cur, hv, _, hgg, _⟩
      · rw [hn] at hk; simp [Value.ownBlock] at hk
      · rw [hv] at hk; simp [Value.ownBlock] at hk; subst hk; exact ⟨_, kind_of_cells hgg⟩
    · have := ho k hk; have := hg.size; simp; omega
    · simp at hk; omega
  · have := hg.size; have := hc.size; omega

theorem DI.drew {s : Nat} {A : List UInt8} {w W2 : World} {own : Nat → Prop} {out : List UInt8} {code : Int} {v : Value} {W : World} (h : DI s A w W2 own out code v W) : DI s A w W2 own out code v { W with drawn := W.drawn + 1 } :=
  ⟨h.h0, h.h1, h.h2, h.row, ⟨h.bel.os, h.bel.tape, h.bel.output, h.bel.size, h.bel.block⟩, ⟨h.kp.size, h.kp.own, h.kp.other⟩, h.size⟩

theorem groups_any (l : List UInt8) (z : Int) (w : World) :
    Calls Tryd.prog 78 #[Str l, .int .i64 z] w fun e w' => e = .returned (.func (.func 99) #[] #[.pointer (some ⟨w.heap.size, 0, none⟩), .pointer (some ⟨w.heap.size + 1, 0, none⟩)]) ∧
      w' = (w.alloc (.cells #[Str l] 9)).alloc (.cells #[.int .i64 z] 3) := by
  go_enter Tryd.func78, Tryd.ntmps78
  go_wp2
  go_ret
  exact ⟨rfl, rfl⟩

end Go.Proofs.YtpndahmlbjhdfaaDoor
