/-
  The texts that every chapter uses, in one: Lng, Pe, Unh, Rt, Num, Rfd, Ruh, Can, Rdh, Rdx, Rdy, Rdz, Rdw, Rdr.
-/
import Derived.Test.YtjkbigecejogdaaGreatDoorRows
import Derived.Test.YtjkbigecejogdaaGreatDoorKit
import Derived.Test.YtjkbigecejogdaaGreatDoorBka
import Derived.Shelf.Abstract
import Derived.Deep.RegionLaw
namespace Go.Proofs.YtjkbigecejogdaaGreatDoor

theorem allN_shift (A : List UInt8) (f : Bool) (x y z : UInt8) (l : List UInt8) : ∀ n, allN A f (x :: y :: z :: l) (n + 1) = chunk A f [x, y, z] ++ allN A f l n
  | 0 => by simp [allN]
  | n + 1 => by
    rw [allN_succ, allN_shift A f x y z l n, allN_succ, List.append_assoc]
    rw [show 3 * (n + 1) = 3 * n + 3 by omega]
    rfl
theorem allL_cons (A : List UInt8) (f : Bool) (x y z : UInt8) (l : List UInt8) : allL A f (x :: y :: z :: l) = chunk A f [x, y, z] ++ allL A f l := by
  unfold allL
  rw [show ((x :: y :: z :: l).length + 2) / 3 = (l.length + 2) / 3 + 1 by simp only [List.length_cons]; omega]
  exact allN_shift A f x y z l _
theorem allL_append (A : List UInt8) (f : Bool) (b : List UInt8) : ∀ (n : Nat) (a : List UInt8), a.length = 3 * n → allL A f (a ++ b) = allL A f a ++ allL A f b
  | 0, a, h => by
    obtain rfl : a = [] := List.eq_nil_of_length_eq_zero (by omega)
    rfl
  | n + 1, a, h => by
    match a, h with
    | x :: y :: z :: a, h =>
      have hn : a.length = 3 * n := by simp only [List.length_cons] at h; omega
      rw [List.cons_append, List.cons_append, List.cons_append, allL_cons, allL_cons, allL_append A f b n a hn, List.append_assoc]
    | [], h => simp at h
    | [_], h => simp only [List.length_cons, List.length_nil] at h; omega
    | [_, _], h => simp only [List.length_cons, List.length_nil] at h; omega
theorem hexL_append (a b : List UInt8) : hexL (a ++ b) = hexL a ++ hexL b := by
  induction a with
  | nil => rfl
  | cons c l ih => simp [hexL, ih]
end Go.Proofs.YtjkbigecejogdaaGreatDoor

namespace Go.Proofs.YtjkbigecejogdaaGreatDoor
set_option linter.unusedVariables false
set_option linter.unusedSimpArgs false

theorem bt_cons (x : UInt8) (l : List UInt8) (n : Nat) : bt (x :: l) (n + 1) = bt l n := by simp [bt]
theorem bt_zero (x : UInt8) (l : List UInt8) : bt (x :: l) 0 = x := by simp [bt]
theorem bitAt_shift (x y z : UInt8) (l : List UInt8) (i : Nat) : bitAt (x :: y :: z :: l) (i + 24) = bitAt l i := by
  unfold bitAt
  rw [show (i + 24) / 8 = i / 8 + 1 + 1 + 1 by omega, show (i + 24) % 8 = i % 8 by omega, bt_cons, bt_cons, bt_cons]
theorem sixN_shift (x y z : UInt8) (l : List UInt8) (a : Nat) : ∀ k, sixN (x :: y :: z :: l) (a + 24) k = sixN l a k
  | 0 => rfl
  | k + 1 => by
    simp only [sixN]
    rw [sixN_shift x y z l a k, show a + 24 + k = a + k + 24 by omega, bitAt_shift]
theorem sixN_six (l : List UInt8) (a : Nat) : sixN l a 6 = 32 * bitAt l a + 16 * bitAt l (a + 1) + 8 * bitAt l (a + 2) + 4 * bitAt l (a + 3) + 2 * bitAt l (a + 4) + bitAt l (a + 5) := by
  simp only [sixN, Nat.add_zero]
  omega
theorem six0 (l : List UInt8) : sixN l 0 6 = (bt l 0).toNat / 4 := by
  have hx : (bt l 0).toNat < 256 := (bt l 0).toNat_lt
  rw [sixN_six]
  simp only [bitAt, Nat.reduceAdd, Nat.reduceDiv, Nat.reduceMod, Nat.reduceSub, Nat.reducePow, Nat.zero_add, Nat.zero_div, Nat.zero_mod, Nat.sub_zero]
  omega
theorem six1 (l : List UInt8) : sixN l 6 6 = (bt l 0).toNat % 4 * 16 + (bt l 1).toNat / 16 := by
  have hx : (bt l 0).toNat < 256 := (bt l 0).toNat_lt
  have hy : (bt l 1).toNat < 256 := (bt l 1).toNat_lt
  rw [sixN_six]
  simp only [bitAt, Nat.reduceAdd, Nat.reduceDiv, Nat.reduceMod, Nat.reduceSub, Nat.reducePow, Nat.zero_add, Nat.zero_div, Nat.zero_mod, Nat.sub_zero]
  omega
theorem six2 (l : List UInt8) : sixN l 12 6 = (bt l 1).toNat % 16 * 4 + (bt l 2).toNat / 64 := by
  have hx : (bt l 1).toNat < 256 := (bt l 1).toNat_lt
  have hy : (bt l 2).toNat < 256 := (bt l 2).toNat_lt
  rw [sixN_six]
  simp only [bitAt, Nat.reduceAdd, Nat.reduceDiv, Nat.reduceMod, Nat.reduceSub, Nat.reducePow, Nat.zero_add, Nat.zero_div, Nat.zero_mod, Nat.sub_zero]
  omega
theorem six3 (l : List UInt8) : sixN l 18 6 = (bt l 2).toNat % 64 := by
  have hy : (bt l 2).toNat < 256 := (bt l 2).toNat_lt
  rw [sixN_six]
  simp only [bitAt, Nat.reduceAdd, Nat.reduceDiv, Nat.reduceMod, Nat.reduceSub, Nat.reducePow, Nat.zero_add, Nat.zero_div, Nat.zero_mod, Nat.sub_zero]
  omega
theorem pack3 (l : List UInt8) : pack l 3 = (bt l 0).toNat * 65536 + (bt l 1).toNat * 256 + (bt l 2).toNat := by
  simp only [pack]; omega
/-- The k-th letter's number, from the three bytes. -/
theorem pack_six (l : List UInt8) : ∀ k, k < 4 → pack l 3 / 2 ^ (6 * (3 - k)) % 64 = sixN l (6 * k) 6 := by
  intro k hk
  have hx : (bt l 0).toNat < 256 := (bt l 0).toNat_lt
  have hy : (bt l 1).toNat < 256 := (bt l 1).toNat_lt
  have hz : (bt l 2).toNat < 256 := (bt l 2).toNat_lt
  rw [pack3]
  obtain rfl | rfl | rfl | rfl : k = 0 ∨ k = 1 ∨ k = 2 ∨ k = 3 := by omega
  · simp only [Nat.reduceMul, Nat.reduceSub, Nat.reducePow, six0, Nat.mul_zero]; omega
  · simp only [Nat.reduceMul, Nat.reduceSub, Nat.reducePow, six1, Nat.mul_one]; omega
  · simp only [Nat.reduceMul, Nat.reduceSub, Nat.reducePow, six2]; omega
  · simp only [Nat.reduceMul, Nat.reduceSub, Nat.reducePow, six3, Nat.sub_self, Nat.mul_zero, Nat.pow_zero, Nat.div_one]; omega
theorem encL_ref (A t : List UInt8) (h : t.length ≤ 3) : encL A t = refN A t (t.length + 1) := by
  unfold encL refN
  refine List.map_congr_left fun k hk => ?_
  rw [pack_six t k (by have := List.mem_range.1 hk; omega)]
theorem refN_cons (A : List UInt8) (x y z : UInt8) (l : List UInt8) : ∀ n, refN A (x :: y :: z :: l) (n + 4) = encL A [x, y, z] ++ refN A l n
  | 0 => by
    rw [encL_ref A _ (by simp)]
    have h : ∀ k, k < 24 → bitAt (x :: y :: z :: l) k = bitAt [x, y, z] k := by
      intro k hk
      unfold bitAt
      rcases (show k / 8 = 0 ∨ k / 8 = 1 ∨ k / 8 = 2 by omega) with e | e | e <;> rw [e] <;> simp [bt]
    have hs : ∀ j, j < 4 → sixN (x :: y :: z :: l) (6 * j) 6 = sixN [x, y, z] (6 * j) 6 := by
      intro j hj
      rw [sixN_six, sixN_six]
      rw [h _ (by omega), h _ (by omega), h _ (by omega), h _ (by omega), h _ (by omega), h _ (by omega)]
    simp only [refN, List.range_zero, List.map_nil, List.append_nil]
    refine List.map_congr_left fun j hj => ?_
    rw [hs j (by have := List.mem_range.1 hj; simpa using this)]
  | n + 1 => by
    rw [show n + 1 + 4 = (n + 4) + 1 by omega, refN_succ, refN_cons A x y z l n, refN_succ, List.append_assoc, show 6 * (n + 4) = 6 * n + 24 by omega, sixN_shift]
theorem refEnc_nil (A : List UInt8) (f : Bool) : refEnc A f [] = [] := by cases f <;> simp [refEnc, refN]
theorem refEnc_cons (A : List UInt8) (f : Bool) (x y z : UInt8) (l : List UInt8) : refEnc A f (x :: y :: z :: l) = chunk A f [x, y, z] ++ refEnc A f l := by
  have e : (8 * (x :: y :: z :: l).length + 5) / 6 = (8 * l.length + 5) / 6 + 4 := by simp only [List.length_cons]; omega
  have hl : (encL A [x, y, z]).length = 4 := by simp [encL]
  simp only [refEnc]
  rw [e, refN_cons, List.length_append, hl, refN_len]
  rw [show (4 + (8 * l.length + 5) / 6) % 4 = (8 * l.length + 5) / 6 % 4 by omega]
  simp only [chunk, List.length_cons, List.length_nil, Nat.zero_add, Nat.reduceAdd, Nat.sub_self, List.replicate_zero, ite_self, List.append_nil, List.append_assoc]
theorem refEnc_short (A : List UInt8) (f : Bool) (t : List UInt8) (h1 : 0 < t.length) (h3 : t.length < 3) : refEnc A f t = chunk A f t := by
  simp only [refEnc, chunk]
  rw [show (8 * t.length + 5) / 6 = t.length + 1 by omega, ← encL_ref A t (by omega), show (encL A t).length = t.length + 1 by simp [encL]]
  cases f
  · simp
  · simp only [if_true]
    rw [show (4 - (t.length + 1) % 4) % 4 = 3 - t.length by omega]
theorem allL_short (A : List UInt8) (f : Bool) (t : List UInt8) (h1 : 0 < t.length) (h3 : t.length ≤ 3) : allL A f t = chunk A f t := by
  simp only [allL]
  rw [show (t.length + 2) / 3 = 1 by omega]
  simp [allN, List.take_of_length_le h3]
theorem refEnc_all (A : List UInt8) (f : Bool) : ∀ (n : Nat) (l : List UInt8), l.length ≤ n → refEnc A f l = allL A f l
  | 0, l, h => by
    obtain rfl : l = [] := List.eq_nil_of_length_eq_zero (by omega)
    rw [refEnc_nil]; rfl
  | n + 1, l, h => by
    match l, h with
    | [], _ => rw [refEnc_nil]; rfl
    | [x], _ => rw [refEnc_short A f [x] (by simp) (by simp), allL_short A f [x] (by simp) (by simp)]
    | [x, y], _ => rw [refEnc_short A f [x, y] (by simp) (by simp), allL_short A f [x, y] (by simp) (by simp)]
    | x :: y :: z :: l, h =>
      rw [refEnc_cons, allL_cons, refEnc_all A f n l (by simp only [List.length_cons] at h; omega)]
end Go.Proofs.YtjkbigecejogdaaGreatDoor

namespace Go.Proofs.YtjkbigecejogdaaGreatDoor
open Go.RowKit Go.Shelf
attribute [local go_sem] Oper.semAt_some
set_option maxRecDepth 100000
set_option linter.unusedVariables false
set_option linter.unusedSimpArgs false

theorem agg22 : ∀ w, (isAgg 25).run Tryz.prog w = .ok false w := fun w => by simp [isAgg, run_underlying Tryz.underlying25, Result.andThen]
theorem agg36 : ∀ w, (isAgg 28).run Tryz.prog w = .ok false w := fun w => by simp [isAgg, run_underlying Tryz.underlying28, Result.andThen]

def hexI (c : UInt8) : Int := Lib.indexByte hexd c
theorem hexI_all : ∀ n, n < 256 → -1 ≤ Lib.indexByte hexd (UInt8.ofNat n) ∧ Lib.indexByte hexd (UInt8.ofNat n) ≤ 15 := by decide +kernel
theorem hexI_range (c : UInt8) : -1 ≤ hexI c ∧ hexI c ≤ 15 := by
  have h := hexI_all c.toNat c.toNat_lt
  rwa [UInt8.ofNat_toNat] at h
def grpH (g : List UInt8) : Bool := g.all fun c => hexI c != -1
def numH (g : List UInt8) : Nat := g.foldl (fun b c => b * 16 + (hexI c).toNat) 0
def pc (l : List UInt8) (i : Nat) : List UInt8 := (l.drop (2 * i)).take 2
def unhN (l : List UInt8) (i : Nat) : List UInt8 := (List.range i).map fun j => UInt8.ofNat (numH (pc l j))
def okH (l : List UInt8) (i : Nat) : Bool := (List.range i).all fun j => grpH (pc l j)
/-- What Unhex answers. -/
def unhR (l : List UInt8) : List UInt8 × Nat :=
  if l.length % 2 = 0 then (if okH l ((l.length + 1) / 2) then (unhN l ((l.length + 1) / 2), 0) else ([], 5)) else ([], 2)
theorem unhN_succ (l : List UInt8) (i : Nat) : unhN l (i + 1) = unhN l i ++ [UInt8.ofNat (numH (pc l i))] := by simp [unhN, List.range_succ]
theorem okH_succ (l : List UInt8) (i : Nat) : okH l (i + 1) = (okH l i && grpH (pc l i)) := by simp [okH, List.range_succ]
theorem okH_false {l : List UInt8} {i n : Nat} (hi : i < n) (h : okH l (i + 1) = false) : okH l n = false := by
  cases hn : okH l n with
  | false => rfl
  | true =>
    rw [← h]
    simp only [okH, List.all_eq_true, List.mem_range] at hn
    exact (List.all_eq_true.2 fun j hj => hn j (by have := List.mem_range.1 hj; omega)).symm
theorem numH_snoc (g : List UInt8) (c : UInt8) : numH (g ++ [c]) = numH g * 16 + (hexI c).toNat := by simp [numH]
theorem numH_lt : ∀ g : List UInt8, numH g < 16 ^ g.length := by
  refine list_snoc_ind (by simp [numH]) fun g c ih => ?_
  have := hexI_range c
  rw [numH_snoc, List.length_append, List.length_singleton, Nat.pow_succ]
  omega

/-- What the round keeps: the boxes at s, s + 1 (the results), s + 2 (the bytes). -/
structure DH (s : Nat) (w W2 : World) (own : Nat → Prop) (out : List UInt8) (v : Value) (W : World) : Prop where
  h0 : W.heap[s]? = some (.cells #[.slice none 0 0] 25 (0, 0))
  h1 : W.heap[s + 1]? = some (.cells #[.int .i64 0] 28 (0, 0))
  h2 : W.heap[s + 2]? = some (.cells #[v] 25 (0, 0))
  row : W.ownsRow (s + 5) 5 1 v out.length (out.map Byt)
  bel : Below s w W
  kp : Kp (s + 5) own W2 W
  size : s + 5 ≤ W.heap.size
theorem DH.push {s : Nat} {w W2 : World} {own : Nat → Prop} {out : List UInt8} {v : Value} {W : World} (h : DH s w W2 own out v W) (hs : s = w.heap.size) (ho : ∀ k, own k → k = s + 3 ∨ k = s + 4) {y : UInt8} {v' : Value} {w1 : World}
    (hown : w1.ownsRow (s + 5) 5 1 v' (out.length + 1) (out.map Byt ++ [Byt y])) (hg : W.grownBy w1 v.ownBlock) :
    w1.cell? ⟨s + 2, 0, none⟩ = some v ∧ w1.frozen? ⟨s + 2, 0, none⟩ = false ∧ DH s w W2 own (out ++ [y]) v' (w1.setCell ⟨s + 2, 0, none⟩ v') := by
  have hsz := h.size
  have hrow : ∀ k, v.ownBlock = some k → s + 5 ≤ k := fun k hk => (h.row.lt k hk).1
  have hlow : ∀ k, k < s + 5 → w1.heap[k]? = W.heap[k]? := fun k hk => hg.block k (by omega) (fun e => by have := hrow k e.symm; omega)
  have e1 := (hlow (s + 2) (by omega)).trans h.h2
  have hc := Chg.setCell w1 ⟨s + 2, 0, none⟩ v'
  refine ⟨cell_of e1, frozen_of e1, ⟨(hc.block s (by have := hg.size; omega) (by simp)).trans ((hlow s (by omega)).trans h.h0), (hc.block (s + 1) (by have := hg.size; omega) (by simp)).trans ((hlow (s + 1) (by omega)).trans h.h1), one_setCell e1, ?_, ?_, ?_, ?_⟩⟩
  · rw [List.length_append, List.map_append]
    exact own_keep hown fun g _ hg' hk => hc.block g (kind_lt hk) (by simp; omega)
  · exact below_chg (h.bel.grown hg (by have := h.bel.size; omega) (fun k hk => by have := hrow k hk; omega)) hc (by simp; try omega) (by omega)
  · refine h.kp.trans ((Kp.of_grown hg (fun k hk => ⟨by have := ho k hk; omega, fun e => by have := hrow k e; have := ho k hk; omega⟩) (fun k hk => ?_)).trans (Kp.of_chg hc (fun k hk => ?_) (fun k hk hB => ?_)))
    · rcases h.row.2 with ⟨hn, _⟩ | ⟨g, cap, cur, hv, _, hgg, _⟩
      · rw [hn] at hk; simp [Value.ownBlock] at hk
      · rw [hv] at hk; simp [Value.ownBlock] at hk; subst hk; exact ⟨_, kind_of_cells hgg⟩
    · have := ho k hk; have := hg.size; simp; omega
    · simp at hk; omega
  · have := hg.size; have := hc.size; omega
theorem own_form'' {w : World} {base e : Nat} {v : Value} {n : Nat} {l : List UInt8} (h : w.ownsRow base e 1 v n (l.map Byt)) : ∃ ao cap, v = .slice ao l.length cap ∧ l.length ≤ cap ∧ (ao = none → cap = 0) := by
  obtain ⟨ao, cap, hv, h1, _, h3, _⟩ := sl_of_own h
  rw [List.length_map] at hv h1
  exact ⟨ao, cap, hv, h1, h3⟩
theorem set2 {W : World} {s : Nat} {a b u0 u1 : Value} {t0 t1 : TypeId} (h0 : W.heap[s]? = some (.cells #[a] t0 (0, 0))) (h1 : W.heap[s + 1]? = some (.cells #[b] t1 (0, 0))) :
    ((W.setCell ⟨s, 0, none⟩ u0).setCell ⟨s + 1, 0, none⟩ u1).heap[s]? = some (.cells #[u0] t0 (0, 0)) ∧ ((W.setCell ⟨s, 0, none⟩ u0).setCell ⟨s + 1, 0, none⟩ u1).heap[s + 1]? = some (.cells #[u1] t1 (0, 0)) ∧
      Chg (fun k => k = s ∨ k = s + 1) W ((W.setCell ⟨s, 0, none⟩ u0).setCell ⟨s + 1, 0, none⟩ u1) := by
  refine ⟨?_, one_setCell (by rw [Below.heap_setCell _ _ _ _ (by simp)]; exact h1), ((Chg.setCell W ⟨s, 0, none⟩ u0).mono fun k h => .inl h).trans ((Chg.setCell _ ⟨s + 1, 0, none⟩ u1).mono fun k h => .inr h)⟩
  rw [Below.heap_setCell _ _ _ _ (by simp)]
  exact one_setCell h0
end Go.Proofs.YtjkbigecejogdaaGreatDoor

namespace Go.Proofs.YtjkbigecejogdaaGreatDoor
set_option linter.unusedVariables false
set_option linter.unusedSimpArgs false

/-! ### Digits -/
theorem unhN_cons (a b : UInt8) (l : List UInt8) (n : Nat) : unhN (a :: b :: l) (n + 1) = UInt8.ofNat (numH [a, b]) :: unhN l n := by
  simp only [unhN, List.range_succ_eq_map, List.map_cons, List.map_map]
  refine congr (congrArg _ rfl) (List.map_congr_left fun j _ => ?_)
  simp only [Function.comp, pc]
  rw [show 2 * (j + 1) = 2 * j + 2 by omega]
  rfl
theorem okH_cons (a b : UInt8) (l : List UInt8) (n : Nat) : okH (a :: b :: l) (n + 1) = (grpH [a, b] && okH l n) := by
  simp only [okH, List.range_succ_eq_map, List.all_cons, List.all_map]
  refine congr (congrArg _ rfl) (congrArg (fun f => List.all (List.range n) f) (funext fun j => ?_))
  simp only [Function.comp, pc]
  rw [show 2 * (j + 1) = 2 * j + 2 by omega]
  rfl
theorem hex_all : ∀ n, n < 256 → numH [bt hexd (n / 16), bt hexd (n % 16)] = n ∧ grpH [bt hexd (n / 16), bt hexd (n % 16)] = true := by decide +kernel
theorem unh_hex : ∀ p : List UInt8, unhN (hexL p) p.length = p ∧ okH (hexL p) p.length = true
  | [] => ⟨rfl, rfl⟩
  | c :: p => by
    obtain ⟨h1, h2⟩ := unh_hex p
    obtain ⟨e1, e2⟩ := hex_all c.toNat c.toNat_lt
    simp only [hexL, List.length_cons]
    rw [unhN_cons, okH_cons, h1, h2, e1, e2, UInt8.ofNat_toNat]
    exact ⟨rfl, rfl⟩
theorem unhR_hex (p : List UInt8) : unhR (hexL p) = (p, 0) := by
  obtain ⟨h1, h2⟩ := unh_hex p
  have e : ((hexL p).length + 1) / 2 = p.length := by rw [hexL_len]; omega
  rw [unhR, if_pos (by rw [hexL_len]; omega), e, h1, h2]
  simp

/-! ### Letters -/
theorem val_plain : ∀ v, v < 64 → valL plain (bt plain v) = (v : Int) := by decide +kernel
theorem val_other : ∀ v, v < 64 → valL other (bt other v) = (v : Int) := by decide +kernel
theorem pad_plain : ∀ v, v < 64 → bt plain v ≠ 61 := by decide +kernel
theorem decN_cons (A : List UInt8) (a b c d : UInt8) (l : List UInt8) (n : Nat) : decN A (a :: b :: c :: d :: l) (n + 1) = grpOut A [a, b, c, d] ++ decN A l n := by
  simp only [decN, List.range_succ_eq_map, List.flatMap_cons, List.flatMap_map]
  refine congr (congrArg _ rfl) (congrArg (fun f => List.flatMap f (List.range n)) (funext fun j => ?_))
  simp only [Function.comp, piece]
  rw [show 4 * (j + 1) = 4 * j + 4 by omega]
  rfl
theorem okN_cons (A : List UInt8) (a b c d : UInt8) (l : List UInt8) (n : Nat) : okN A (a :: b :: c :: d :: l) (n + 1) = (grpOk A [a, b, c, d] && okN A l n) := by
  simp only [okN, List.range_succ_eq_map, List.all_cons, List.all_map]
  refine congr (congrArg _ rfl) (congrArg (fun f => List.all (List.range n) f) (funext fun j => ?_))
  simp only [Function.comp, piece]
  rw [show 4 * (j + 1) = 4 * j + 4 by omega]
  rfl
theorem codN_cons (A : List UInt8) (a b c d : UInt8) (l : List UInt8) : ∀ n, codN A (a :: b :: c :: d :: l) (n + 1) = codN A l n
  | 0 => by simp [codN, grpBad, piece]
  | n + 1 => by
    have h := codN_cons A a b c d l n
    show (if grpBad A (piece (a :: b :: c :: d :: l) (n + 1)) then 4 else codN A (a :: b :: c :: d :: l) (n + 1)) = (if grpBad A (piece l n) then 4 else codN A l n)
    rw [h]
    have : piece (a :: b :: c :: d :: l) (n + 1) = piece l n := by
      unfold piece
      rw [show 4 * (n + 1) = 4 * n + 4 by omega]
      rfl
    rw [this]
theorem decR_cons (A : List UInt8) (a b c d : UInt8) (l : List UInt8) (hok : grpOk A [a, b, c, d] = true) :
    decR A (a :: b :: c :: d :: l) = (if (decR A l).2 = 0 then grpOut A [a, b, c, d] ++ (decR A l).1 else [], (decR A l).2) := by
  have e : ((a :: b :: c :: d :: l).length + 3) / 4 = (l.length + 3) / 4 + 1 := by simp only [List.length_cons]; omega
  simp only [decR]
  rw [e, okN_cons, hok, codN_cons, decN_cons, Bool.true_and]
  by_cases h : okN A l ((l.length + 3) / 4) = true
  · by_cases h2 : codN A l ((l.length + 3) / 4) = 0
    · simp [h, h2]
    · simp [h, h2]
  · simp [h]
theorem encL_three (A : List UInt8) (x y z : UInt8) : encL A [x, y, z] = [bt A (x.toNat / 4), bt A (x.toNat % 4 * 16 + y.toNat / 16), bt A (y.toNat % 16 * 4 + z.toNat / 64), bt A (z.toNat % 64)] := by
  rw [encL_ref A _ (by simp)]
  simp only [refN, List.length_cons, List.length_nil, Nat.reduceAdd, List.range_succ, List.range_zero, List.nil_append, List.map_append, List.map_cons, List.map_nil, List.cons_append, Nat.mul_zero, Nat.mul_one, Nat.reduceMul, six0, six1, six2, six3]
  rfl
theorem encL_two (A : List UInt8) (x y : UInt8) : encL A [x, y] = [bt A (x.toNat / 4), bt A (x.toNat % 4 * 16 + y.toNat / 16), bt A (y.toNat % 16 * 4)] := by
  rw [encL_ref A _ (by simp)]
  simp only [refN, List.length_cons, List.length_nil, Nat.reduceAdd, List.range_succ, List.range_zero, List.nil_append, List.map_append, List.map_cons, List.map_nil, List.cons_append, Nat.mul_zero, Nat.mul_one, Nat.reduceMul, six0, six1, six2, six3]
  simp [bt]
theorem encL_one (A : List UInt8) (x : UInt8) : encL A [x] = [bt A (x.toNat / 4), bt A (x.toNat % 4 * 16)] := by
  rw [encL_ref A _ (by simp)]
  simp only [refN, List.length_cons, List.length_nil, Nat.reduceAdd, List.range_succ, List.range_zero, List.nil_append, List.map_append, List.map_cons, List.map_nil, List.cons_append, Nat.mul_zero, Nat.mul_one, Nat.reduceMul, six0, six1, six2, six3]
  simp [bt]
section
variable {A : List UInt8} (hv : ∀ v, v < 64 → valL A (bt A v) = (v : Int))
 include hv
theorem ok_letters (vs : List Nat) (h : ∀ v ∈ vs, v < 64) : grpOk A (vs.map (bt A)) = true := by
  simp only [grpOk, List.all_map, List.all_eq_true, Function.comp]
  intro v hm
  rw [hv v (h v hm)]
  simp
theorem bits_letters : ∀ (vs : List Nat), (∀ v ∈ vs, v < 64) → ∀ b, (vs.map (bt A)).foldl (fun b c => b * 64 + (valL A c).toNat) b = vs.foldl (fun b v => b * 64 + v) b
  | [], _, _ => rfl
  | v :: vs, h, b => by
    simp only [List.map_cons, List.foldl_cons]
    rw [hv v (h v (by simp)), Int.toNat_natCast]
    exact bits_letters vs (fun u hu => h u (by simp [hu])) _
theorem dec_three (x y z : UInt8) : grpOk A (encL A [x, y, z]) = true ∧ grpOut A (encL A [x, y, z]) = [x, y, z] := by
  have hx := x.toNat_lt; have hy := y.toNat_lt; have hz := z.toNat_lt
  rw [encL_three]
  have hl : ∀ v ∈ [x.toNat / 4, x.toNat % 4 * 16 + y.toNat / 16, y.toNat % 16 * 4 + z.toNat / 64, z.toNat % 64], v < 64 := by
    intro v hm; simp at hm; omega
  refine ⟨ok_letters hv _ hl, ?_⟩
  have hb := bits_letters hv _ hl 0
  simp only [List.map_cons, List.map_nil, List.foldl_cons, List.foldl_nil] at hb
  simp only [grpOut, grpNum, bitsN, List.foldl_cons, List.foldl_nil, List.length_cons, List.length_nil, Nat.reduceAdd, Nat.reduceSub]
  rw [hb]
  simp only [List.range_succ, List.range_zero, List.nil_append, List.map_append, List.map_cons, List.map_nil, List.cons_append, Nat.reduceSub, Nat.reduceMul, Nat.reducePow, Nat.mul_one, Nat.zero_mul, Nat.zero_add, Nat.sub_zero, Nat.sub_self, Nat.mul_zero, Nat.pow_zero, Nat.div_one]
  have e1 : UInt8.ofNat ((((x.toNat / 4 * 64 + (x.toNat % 4 * 16 + y.toNat / 16)) * 64 + (y.toNat % 16 * 4 + z.toNat / 64)) * 64 + z.toNat % 64) / 65536) = x := by
    apply UInt8.toNat_inj.1; rw [UInt8.toNat_ofNat']; omega
  have e2 : UInt8.ofNat ((((x.toNat / 4 * 64 + (x.toNat % 4 * 16 + y.toNat / 16)) * 64 + (y.toNat % 16 * 4 + z.toNat / 64)) * 64 + z.toNat % 64) / 256) = y := by
    apply UInt8.toNat_inj.1; rw [UInt8.toNat_ofNat']; omega
  have e3 : UInt8.ofNat (((x.toNat / 4 * 64 + (x.toNat % 4 * 16 + y.toNat / 16)) * 64 + (y.toNat % 16 * 4 + z.toNat / 64)) * 64 + z.toNat % 64) = z := by
    apply UInt8.toNat_inj.1; rw [UInt8.toNat_ofNat']; omega
  rw [e1, e2, e3]
theorem dec_two (x y : UInt8) : grpOk A (encL A [x, y]) = true ∧ grpOut A (encL A [x, y]) = [x, y] ∧ grpBad A (encL A [x, y]) = false := by
  have hx := x.toNat_lt; have hy := y.toNat_lt
  rw [encL_two]
  have hl : ∀ v ∈ [x.toNat / 4, x.toNat % 4 * 16 + y.toNat / 16, y.toNat % 16 * 4], v < 64 := by
    intro v hm; simp at hm; omega
  refine ⟨ok_letters hv _ hl, ?_⟩
  have hb := bits_letters hv _ hl 0
  simp only [List.map_cons, List.map_nil, List.foldl_cons, List.foldl_nil] at hb
  simp only [grpOut, grpBad, grpNum, bitsN, List.foldl_cons, List.foldl_nil, List.length_cons, List.length_nil, Nat.reduceAdd, Nat.reduceSub]
  rw [hb]
  simp only [List.range_succ, List.range_zero, List.nil_append, List.map_append, List.map_cons, List.map_nil, List.cons_append, Nat.reduceSub, Nat.reduceMul, Nat.reducePow, Nat.mul_one, Nat.zero_mul, Nat.zero_add, Nat.sub_zero, Nat.sub_self, Nat.mul_zero, Nat.pow_zero, Nat.div_one]
  have e1 : UInt8.ofNat (((x.toNat / 4 * 64 + (x.toNat % 4 * 16 + y.toNat / 16)) * 64 + y.toNat % 16 * 4) * 64 / 65536) = x := by
    apply UInt8.toNat_inj.1; rw [UInt8.toNat_ofNat']; omega
  have e2 : UInt8.ofNat (((x.toNat / 4 * 64 + (x.toNat % 4 * 16 + y.toNat / 16)) * 64 + y.toNat % 16 * 4) * 64 / 256) = y := by
    apply UInt8.toNat_inj.1; rw [UInt8.toNat_ofNat']; omega
  rw [e1, e2]
  refine ⟨rfl, ?_⟩
  simp
  omega
theorem dec_one (x : UInt8) : grpOk A (encL A [x]) = true ∧ grpOut A (encL A [x]) = [x] ∧ grpBad A (encL A [x]) = false := by
  have hx := x.toNat_lt
  rw [encL_one]
  have hl : ∀ v ∈ [x.toNat / 4, x.toNat % 4 * 16], v < 64 := by
    intro v hm; simp at hm; omega
  refine ⟨ok_letters hv _ hl, ?_⟩
  have hb := bits_letters hv _ hl 0
  simp only [List.map_cons, List.map_nil, List.foldl_cons, List.foldl_nil] at hb
  simp only [grpOut, grpBad, grpNum, bitsN, List.foldl_cons, List.foldl_nil, List.length_cons, List.length_nil, Nat.reduceAdd, Nat.reduceSub]
  rw [hb]
  simp only [List.range_succ, List.range_zero, List.nil_append, List.map_append, List.map_cons, List.map_nil, List.cons_append, Nat.reduceSub, Nat.reduceMul, Nat.reducePow, Nat.mul_one, Nat.zero_mul, Nat.zero_add, Nat.sub_zero, Nat.sub_self, Nat.mul_zero, Nat.pow_zero, Nat.div_one]
  have e1 : UInt8.ofNat ((x.toNat / 4 * 64 + x.toNat % 4 * 16) * 4096 / 65536) = x := by
    apply UInt8.toNat_inj.1; rw [UInt8.toNat_ofNat']; omega
  rw [e1]
  refine ⟨rfl, ?_⟩
  simp
  omega
theorem dec_enc : ∀ (n : Nat) (p : List UInt8), p.length ≤ n → decR A (allL A false p) = (p, 0)
  | 0, p, h => by
    obtain rfl : p = [] := List.eq_nil_of_length_eq_zero (by omega)
    simp [decR, okN, codN, decN, allL, allN]
  | n + 1, p, h => by
    match p, h with
    | [], _ => simp [decR, okN, codN, decN, allL, allN]
    | [x], _ =>
      obtain ⟨h1, h2, h3⟩ := dec_one hv x
      rw [allL_short A false [x] (by simp) (by simp)]
      simp only [chunk, Bool.false_eq_true, if_false, List.append_nil]
      rw [encL_one] at *
      simp [decR, okN, codN, decN, piece, h1, h2, h3]
    | [x, y], _ =>
      obtain ⟨h1, h2, h3⟩ := dec_two hv x y
      rw [allL_short A false [x, y] (by simp) (by simp)]
      simp only [chunk, Bool.false_eq_true, if_false, List.append_nil]
      rw [encL_two] at *
      simp [decR, okN, codN, decN, piece, h1, h2, h3]
    | x :: y :: z :: p, h =>
      obtain ⟨h1, h2⟩ := dec_three hv x y z
      rw [allL_cons]
      simp only [chunk, Bool.false_eq_true, if_false, List.append_nil]
      rw [encL_three] at *
      simp only [List.cons_append, List.nil_append]
      rw [decR_cons A _ _ _ _ _ h1, dec_enc n p (by simp only [List.length_cons] at h; omega), h2]
      simp
end
theorem allL_false (A p : List UInt8) : allL A false p = refN A p ((8 * p.length + 5) / 6) := by
  rw [← refEnc_all A false p.length p (Nat.le_refl _)]
  simp [refEnc]
theorem allL_true (A p : List UInt8) : allL A true p = refN A p ((8 * p.length + 5) / 6) ++ List.replicate ((4 - (8 * p.length + 5) / 6 % 4) % 4) 61 := by
  rw [← refEnc_all A true p.length p (Nat.le_refl _)]
  simp [refEnc, refN_len]
theorem decU_enc (p : List UInt8) : decU (allL other false p) = (p, 0) := by
  have hl : (allL other false p).length = (8 * p.length + 5) / 6 := by rw [allL_false, refN_len]
  rw [decU, if_neg (by rw [hl]; omega)]
  exact dec_enc val_other p.length p (Nat.le_refl _)
theorem trim_pad (m : List UInt8) : trim (m ++ [61]) = m := by
  unfold trim
  rw [if_pos ⟨by simp, by simp [bt]⟩]
  simp
theorem trim_none (m : List UInt8) (h : ∀ c ∈ m, c ≠ 61) : trim m = m := by
  unfold trim
  refine if_neg fun hh => ?_
  have : bt m (m.length - 1) ∈ m := by
    rw [bt_get m _ (by omega)]
    exact List.getElem_mem _
  exact h _ this hh.2
theorem decF_enc (p : List UInt8) : decF (allL plain true p) = (p, 0) := by
  have h0 := dec_enc val_plain p.length p (Nat.le_refl _)
  rw [allL_false] at h0
  rw [allL_true]
  have hl := refN_len plain p ((8 * p.length + 5) / 6)
  have hn : ∀ c ∈ refN plain p ((8 * p.length + 5) / 6), c ≠ 61 := by
    intro c hc
    obtain ⟨j, _, rfl⟩ := List.mem_map.1 hc
    exact pad_plain _ (sixN_lt p _ 6)
  generalize refN plain p ((8 * p.length + 5) / 6) = m at *
  have hcase : (8 * p.length + 5) / 6 % 4 = 0 ∨ (8 * p.length + 5) / 6 % 4 = 2 ∨ (8 * p.length + 5) / 6 % 4 = 3 := by omega
  generalize (8 * p.length + 5) / 6 = k at *
  have t2 : ∀ x, trimN x 2 = trim (trim x) := fun _ => rfl
  rcases hcase with h | h | h
  · rw [h]
    simp only [Nat.sub_zero, Nat.mod_self, List.replicate_zero, List.append_nil]
    rw [decF, if_pos (by omega), t2, trim_none m hn, trim_none m hn, if_neg (by omega), h0]
  · rw [h]
    simp only [Nat.reduceSub, Nat.reduceMod, List.replicate_succ, List.replicate_zero]
    rw [show m ++ [61, 61] = (m ++ [61]) ++ [61] by simp]
    rw [decF, if_pos (by simp; omega), t2, trim_pad, trim_pad, if_neg (by omega), h0]
  · rw [h]
    simp only [Nat.reduceSub, Nat.reduceMod, List.replicate_succ, List.replicate_zero]
    rw [decF, if_pos (by simp; omega), t2, trim_pad, trim_none m hn, if_neg (by omega), h0]
end Go.Proofs.YtjkbigecejogdaaGreatDoor

namespace Go.Proofs.YtjkbigecejogdaaGreatDoor
open Go.RowKit
set_option linter.unusedVariables false
set_option linter.unusedSimpArgs false

theorem val_alph (url : Bool) : ∀ v, v < 64 → valL (alph url) (bt (alph url) v) = (v : Int) := by cases url <;> decide +kernel
theorem val_hits (url : Bool) : ∀ n, n < 256 → valL (alph url) (UInt8.ofNat n) = -1 ∨ (bt (alph url) (valL (alph url) (UInt8.ofNat n)).toNat = UInt8.ofNat n) := by cases url <;> decide +kernel
theorem val_hit (url : Bool) (c : UInt8) : valL (alph url) c = -1 ∨ bt (alph url) (valL (alph url) c).toNat = c := by
  have h := val_hits url c.toNat c.toNat_lt
  rwa [UInt8.ofNat_toNat] at h
theorem val_none (url : Bool) (c : UInt8) (h : ∀ m, m < 64 → bt (alph url) m ≠ c) : valL (alph url) c = -1 := by
  rcases val_hit url c with h1 | h1
  · exact h1
  · have := valL_range (alph url) c
    by_cases hneg : valL (alph url) c = -1
    · exact hneg
    · exact absurd h1 (h _ (by omega))
set_option maxHeartbeats 400000 in
theorem number_any (url : Bool) (c : UInt8) (w : World) :
    Calls Tryz.prog 108 #[.int .u8 (c.toNat : Int), .bool url] w fun e w' => e = .returned (.int .i64 (valL (alph url) c)) ∧ w' = w := by
  have hc := c.toNat_lt
  go_enter Tryz.func108, Tryz.ntmps108
  go_wp2
  go_loop [5] (fun i => ∃ k : Nat, k ≤ 64 ∧ i = .int .i64 k ∧ Hid (∀ m, m < k → bt (alph url) m ≠ c)) (fun i => 64 - (intOf i).toNat)
  case atStart => exact ⟨0, by omega, rfl, Lib.hid (fun m h => by omega)⟩
  case round =>
    obtain ⟨k, hk, rfl, hno⟩ := hrel
    by_cases h3 : k < 64
    · have Hl := Lib.hid (fun W => letter_any url k h3 W)
      have hb := (bt (alph url) k).toNat_lt
      have Hv := Lib.hid (val_alph url k h3)
      by_cases he : bt (alph url) k = c
      · rw [he] at Hl Hv
        clear hb he
        go_wp2_with (go_at_call 76; refine (Hl.out _).mono ?_; rintro e W3 ⟨rfl, rfl⟩)
        go_ret
        exact ⟨by rw [Hv.out]; rfl, rfl⟩
      · have hne : (((bt (alph url) k).toNat : Int) == (c.toNat : Int)) = false := by
          rw [beq_eq_false_iff_ne]
          intro e
          exact he (UInt8.toNat_inj.1 (by omega))
        have Hno : Hid (∀ m, m < k + 1 → bt (alph url) m ≠ c) := Lib.hid (fun m hm => by
          by_cases e : m = k
          · subst e; exact he
          · exact hno.out m (by omega))
        generalize bt (alph url) k = d at *
        clear he Hv
        go_wp2_with (go_at_call 76; refine (Hl.out _).mono ?_; rintro e W3 ⟨rfl, rfl⟩)
        go_round
        case rel => exact ⟨k + 1, by omega, by go_num, Hno⟩
        case measure => simp [intOf] <;> omega
    · obtain rfl : k = 64 := by omega
      have Hv := Lib.hid (val_none url c hno.out)
      go_wp2
      go_ret
      exact ⟨by rw [Hv.out]; rfl, rfl⟩

end Go.Proofs.YtjkbigecejogdaaGreatDoor

namespace Go.Proofs.YtjkbigecejogdaaGreatDoor
open Go.RowKit
set_option linter.unusedVariables false
set_option linter.unusedSimpArgs false

/-! ### What ref03.Decode answers -/
def six (v : Nat) : List UInt8 := (List.range 6).map fun j => UInt8.ofNat (v / 2 ^ (5 - j) % 2)
def bitsL (A t : List UInt8) : List UInt8 := t.flatMap fun c => six (valL A c).toNat
def byteN (b : List UInt8) : Nat := b.foldl (fun b x => b * 2 + x.toNat) 0
def outsN (B : List UInt8) (k : Nat) : List UInt8 := (List.range k).map fun j => UInt8.ofNat (byteN ((B.drop (8 * j)).take 8))
def okL (A t : List UInt8) : Bool := t.all fun c => valL A c != -1
def refD (A t : List UInt8) : List UInt8 × Nat :=
  if okL A t then (if ((bitsL A t).drop (8 * ((bitsL A t).length / 8))).all (· == 0) then (outsN (bitsL A t) ((bitsL A t).length / 8), 0) else ([], 4)) else ([], 5)
theorem bitsL_len (A : List UInt8) : ∀ t : List UInt8, (bitsL A t).length = 6 * t.length
  | [] => rfl
  | c :: t => by
    have := bitsL_len A t
    simp only [bitsL, List.flatMap_cons, List.length_append, List.length_cons] at this ⊢
    rw [this]; simp [six]; omega
theorem bitsL_bit (A t : List UInt8) : ∀ x ∈ bitsL A t, x.toNat ≤ 1 := by
  intro x hx
  obtain ⟨c, _, hc⟩ := List.mem_flatMap.1 hx
  obtain ⟨j, _, rfl⟩ := List.mem_map.1 hc
  rw [UInt8.toNat_ofNat']
  have : (valL A c).toNat / 2 ^ (5 - j) % 2 < 2 := Nat.mod_lt _ (by omega)
  omega
theorem byteN_snoc (b : List UInt8) (x : UInt8) : byteN (b ++ [x]) = byteN b * 2 + x.toNat := by simp [byteN]
theorem byteN_lt : ∀ b : List UInt8, (∀ x ∈ b, x.toNat ≤ 1) → byteN b < 2 ^ b.length := by
  refine list_snoc_ind (fun _ => by simp [byteN]) fun b x ih h => ?_
  have h1 := ih (fun y hy => h y (by simp [hy]))
  have h2 := h x (by simp)
  rw [byteN_snoc, List.length_append, List.length_singleton, Nat.pow_succ]
  omega
theorem outsN_succ (B : List UInt8) (k : Nat) : outsN B (k + 1) = outsN B k ++ [UInt8.ofNat (byteN ((B.drop (8 * k)).take 8))] := by simp [outsN, List.range_succ]

/-! ### It is what decode answers -/
theorem bitsL_cons (A : List UInt8) (c : UInt8) (t : List UInt8) : bitsL A (c :: t) = six (valL A c).toNat ++ bitsL A t := rfl
theorem outsN_cons (h : List UInt8) (hh : h.length = 8) (B : List UInt8) (k : Nat) : outsN (h ++ B) (k + 1) = UInt8.ofNat (byteN h) :: outsN B k := by
  simp only [outsN, List.range_succ_eq_map, List.map_cons, List.map_map]
  refine congr (congrArg _ ?_) (List.map_congr_left fun j _ => ?_)
  · rw [Nat.mul_zero, List.drop_zero, List.take_append_of_le_length (by omega), List.take_of_length_le (by omega)]
  · simp only [Function.comp]
    rw [show 8 * (j + 1) = h.length + 8 * j by omega, List.drop_append, List.drop_eq_nil_of_le (by omega), List.nil_append, show h.length + 8 * j - h.length = 8 * j by omega]
theorem six_len (v : Nat) : (six v).length = 6 := by simp [six]
theorem six_eq (v : Nat) : six v = [UInt8.ofNat (v / 32 % 2), UInt8.ofNat (v / 16 % 2), UInt8.ofNat (v / 8 % 2), UInt8.ofNat (v / 4 % 2), UInt8.ofNat (v / 2 % 2), UInt8.ofNat (v % 2)] := by
  simp [six, List.range_succ]
theorem bit_nat (x : Nat) : (UInt8.ofNat (x % 2)).toNat = x % 2 := by rw [UInt8.toNat_ofNat']; omega
/-- The 24 bits of four letters are three bytes. -/
theorem bytes_four (a b c d : Nat) (ha : a < 64) (hb : b < 64) (hc : c < 64) (hd : d < 64) (B : List UInt8) (k : Nat) :
    outsN (six a ++ (six b ++ (six c ++ (six d ++ B)))) (k + 3) = UInt8.ofNat (a * 4 + b / 16) :: UInt8.ofNat (b % 16 * 16 + c / 4) :: UInt8.ofNat (c % 4 * 64 + d) :: outsN B k := by
  rw [six_eq, six_eq, six_eq, six_eq]
  simp only [List.cons_append, List.nil_append]
  have e : ∀ (x0 x1 x2 x3 x4 x5 x6 x7 : UInt8) (L : List UInt8) (n : Nat), outsN (x0 :: x1 :: x2 :: x3 :: x4 :: x5 :: x6 :: x7 :: L) (n + 1) = UInt8.ofNat (byteN [x0, x1, x2, x3, x4, x5, x6, x7]) :: outsN L n :=
    fun x0 x1 x2 x3 x4 x5 x6 x7 L n => outsN_cons [x0, x1, x2, x3, x4, x5, x6, x7] rfl L n
  rw [e, e, e]
  simp only [byteN, List.foldl_cons, List.foldl_nil, bit_nat]
  rw [show (((((((0 * 2 + a / 32 % 2) * 2 + a / 16 % 2) * 2 + a / 8 % 2) * 2 + a / 4 % 2) * 2 + a / 2 % 2) * 2 + a % 2) * 2 + b / 32 % 2) * 2 + b / 16 % 2 = a * 4 + b / 16 by omega]
  rw [show (((((((0 * 2 + b / 8 % 2) * 2 + b / 4 % 2) * 2 + b / 2 % 2) * 2 + b % 2) * 2 + c / 32 % 2) * 2 + c / 16 % 2) * 2 + c / 8 % 2) * 2 + c / 4 % 2 = b % 16 * 16 + c / 4 by omega]
  rw [show (((((((0 * 2 + c / 2 % 2) * 2 + c % 2) * 2 + d / 32 % 2) * 2 + d / 16 % 2) * 2 + d / 8 % 2) * 2 + d / 4 % 2) * 2 + d / 2 % 2) * 2 + d % 2 = c % 4 * 64 + d by omega]
theorem ofNat_eq {a b : Nat} (h : a % 256 = b % 256) : UInt8.ofNat a = UInt8.ofNat b := by
  apply UInt8.toNat_inj.1; rw [UInt8.toNat_ofNat', UInt8.toNat_ofNat']; omega
theorem grpOk_eq (A g : List UInt8) : grpOk A g = okL A g := rfl
theorem val_nat (A : List UInt8) (c : UInt8) (h : (valL A c != -1) = true) : ∃ v : Nat, valL A c = (v : Int) ∧ v < 64 := by
  have hr := valL_range A c
  have hne : valL A c ≠ -1 := by simpa using h
  obtain ⟨v, hv⟩ := Int.eq_ofNat_of_zero_le (show 0 ≤ valL A c by omega)
  exact ⟨v, hv, by omega⟩
theorem refD_cons (A : List UInt8) (a b c d : UInt8) (t : List UInt8) (hok : okL A [a, b, c, d] = true) :
    refD A (a :: b :: c :: d :: t) = (if (refD A t).2 = 0 then grpOut A [a, b, c, d] ++ (refD A t).1 else [], (refD A t).2) := by
  have hok' := hok
  simp only [okL, List.all_cons, List.all_nil, Bool.and_true, Bool.and_eq_true] at hok'
  obtain ⟨h1, h2, h3, h4⟩ := hok'
  obtain ⟨va, ea, la⟩ := val_nat A a h1
  obtain ⟨vb, eb, lb⟩ := val_nat A b h2
  obtain ⟨vc, ec, lc⟩ := val_nat A c h3
  obtain ⟨vd, ed, ld⟩ := val_nat A d h4
  have hokt : okL A (a :: b :: c :: d :: t) = okL A t := by
    simp only [okL, List.all_cons]
    rw [h1, h2, h3, h4]; simp
  have hB : bitsL A (a :: b :: c :: d :: t) = six va ++ (six vb ++ (six vc ++ (six vd ++ bitsL A t))) := by
    simp only [bitsL_cons, ea, eb, ec, ed, Int.toNat_natCast]
  have hL : (bitsL A (a :: b :: c :: d :: t)).length / 8 = (bitsL A t).length / 8 + 3 := by
    rw [bitsL_len, bitsL_len]; simp only [List.length_cons]; omega
  have hD : (bitsL A (a :: b :: c :: d :: t)).drop (8 * ((bitsL A t).length / 8 + 3)) = (bitsL A t).drop (8 * ((bitsL A t).length / 8)) := by
    rw [hB]
    simp only [six_eq, List.cons_append, List.nil_append]
    rw [show 8 * ((bitsL A t).length / 8 + 3) = 8 * ((bitsL A t).length / 8) + 24 by omega]
    rfl
  have hO : grpOut A [a, b, c, d] = [UInt8.ofNat (va * 4 + vb / 16), UInt8.ofNat (vb % 16 * 16 + vc / 4), UInt8.ofNat (vc % 4 * 64 + vd)] := by
    simp only [grpOut, grpNum, bitsN, List.foldl_cons, List.foldl_nil, List.length_cons, List.length_nil, Nat.reduceAdd, Nat.reduceSub, ea, eb, ec, ed, Int.toNat_natCast,
      List.range_succ, List.range_zero, List.nil_append, List.map_append, List.map_cons, List.map_nil, List.cons_append, Nat.reduceMul, Nat.reducePow, Nat.mul_one, Nat.zero_mul, Nat.zero_add, Nat.sub_zero, Nat.sub_self, Nat.mul_zero, Nat.pow_zero, Nat.div_one]
    rw [ofNat_eq (show (((va * 64 + vb) * 64 + vc) * 64 + vd) / 65536 % 256 = (va * 4 + vb / 16) % 256 by omega),
      ofNat_eq (show (((va * 64 + vb) * 64 + vc) * 64 + vd) / 256 % 256 = (vb % 16 * 16 + vc / 4) % 256 by omega),
      ofNat_eq (show (((va * 64 + vb) * 64 + vc) * 64 + vd) % 256 = (vc % 4 * 64 + vd) % 256 by omega)]
  have hl : refD A (a :: b :: c :: d :: t) = if okL A t then (if ((bitsL A t).drop (8 * ((bitsL A t).length / 8))).all (· == 0) then (outsN (bitsL A (a :: b :: c :: d :: t)) ((bitsL A t).length / 8 + 3), 0) else ([], 4)) else ([], 5) := by
    rw [refD, hokt, hL, hD]
  rw [hl]
  by_cases h : okL A t = true
  · by_cases h2 : ((bitsL A t).drop (8 * ((bitsL A t).length / 8))).all (· == 0) = true
    · have hr : refD A t = (outsN (bitsL A t) ((bitsL A t).length / 8), 0) := by rw [refD, if_pos h, if_pos h2]
      rw [hr, if_pos h, if_pos h2, if_pos rfl, hB, bytes_four va vb vc vd la lb lc ld, hO]
      rfl
    · have hr : refD A t = ([], 4) := by rw [refD, if_pos h, if_neg h2]
      rw [hr, if_pos h, if_neg h2]; rfl
  · have hr : refD A t = ([], 5) := by rw [refD, if_neg h]
    rw [hr, if_neg h]; rfl
theorem refD_bad (A : List UInt8) (a b c d : UInt8) (t : List UInt8) (hok : ¬ okL A [a, b, c, d] = true) : refD A (a :: b :: c :: d :: t) = ([], 5) := by
  refine if_neg fun h => hok ?_
  simp only [okL, List.all_cons, List.all_nil, Bool.and_true, Bool.and_eq_true] at h ⊢
  exact ⟨h.1, h.2.1, h.2.2.1, h.2.2.2.1⟩
theorem decR_bad (A : List UInt8) (a b c d : UInt8) (t : List UInt8) (hok : ¬ okL A [a, b, c, d] = true) : decR A (a :: b :: c :: d :: t) = ([], 5) := by
  have e : ((a :: b :: c :: d :: t).length + 3) / 4 = (t.length + 3) / 4 + 1 := by simp only [List.length_cons]; omega
  simp only [decR]
  rw [e, okN_cons, if_neg]
  intro h
  simp only [Bool.and_eq_true] at h
  exact hok h.1
theorem dec_short (A g : List UInt8) (h4 : 0 < g.length) (h5 : g.length ≤ 4) (hbad : okL A g = true → grpBad A g = !(((bitsL A g).drop (8 * ((bitsL A g).length / 8))).all (· == 0)))
    (hO : okL A g = true → grpOut A g = outsN (bitsL A g) ((bitsL A g).length / 8)) : decR A g = refD A g := by
  have hp : piece g 0 = g := by simp [piece, List.take_of_length_le h5]
  have e0 : (g.length + 3) / 4 = 1 := by omega
  have e1 : okN A g 1 = okL A g := by simp [okN, hp, grpOk_eq]
  have e2 : codN A g 1 = if grpBad A g then 4 else 0 := by simp [codN, hp]
  have e3 : decN A g 1 = grpOut A g := by simp [decN, hp]
  by_cases hok : okL A g = true
  · rw [decR, refD, e0, e1, e2, e3, if_pos hok, if_pos hok, hbad hok, hO hok]
    generalize ((bitsL A g).drop (8 * ((bitsL A g).length / 8))).all (· == 0) = z
    cases z <;> rfl
  · rw [decR, refD, e0, e1, if_neg hok, if_neg hok]
set_option maxHeartbeats 2000000 in
theorem dec_ref (A : List UInt8) : ∀ (n : Nat) (t : List UInt8), t.length ≤ n → t.length % 4 ≠ 1 → decR A t = refD A t
  | 0, t, h, _ => by
    obtain rfl : t = [] := List.eq_nil_of_length_eq_zero (by omega)
    simp [decR, okN, codN, decN, refD, okL, bitsL, outsN]
  | n + 1, t, h, h4 => by
    match t, h, h4 with
    | [], _, _ => simp [decR, okN, codN, decN, refD, okL, bitsL, outsN]
    | [a], _, h4 => simp at h4
    | [a, b], _, _ =>
      refine dec_short A [a, b] (by simp) (by simp) (fun hok => ?_) (fun hok => ?_)
      · simp only [okL, List.all_cons, List.all_nil, Bool.and_true, Bool.and_eq_true] at hok
        obtain ⟨va, ea, la⟩ := val_nat A a hok.1
        obtain ⟨vb, eb, lb⟩ := val_nat A b hok.2
        have hB : bitsL A [a, b] = six va ++ six vb := by simp [bitsL, ea, eb]
        rw [hB]
        simp only [six_eq, List.cons_append, List.nil_append, List.length_cons, List.length_nil, Nat.reduceAdd, Nat.reduceDiv, Nat.reduceMul, List.drop_succ_cons, List.drop_zero, Nat.mul_one]
        first
          | (simp only [grpBad, grpNum, bitsN, List.foldl_cons, List.foldl_nil, List.length_cons, List.length_nil, Nat.reduceAdd, Nat.reduceSub, ea, eb, Int.toNat_natCast, Nat.reduceMul, Nat.reducePow, Nat.zero_mul, Nat.zero_add]
             rw [Bool.eq_iff_iff]
             simp [← UInt8.toNat_inj, bit_nat]
             omega)
          | (simp only [grpOut, grpNum, bitsN, List.foldl_cons, List.foldl_nil, List.length_cons, List.length_nil, Nat.reduceAdd, Nat.reduceSub, ea, eb, Int.toNat_natCast,
               List.range_succ, List.range_zero, List.nil_append, List.map_append, List.map_cons, List.map_nil, List.cons_append, Nat.reduceMul, Nat.reducePow, Nat.zero_mul, Nat.zero_add, Nat.sub_zero,
               outsN, Nat.mul_zero, List.drop_zero, List.take_succ_cons, List.take_zero, byteN, bit_nat]
             rw [ofNat_eq (show (va * 64 + vb) * 4096 / 65536 % 256 = ((((((((va / 32 % 2) * 2 + va / 16 % 2) * 2 + va / 8 % 2) * 2 + va / 4 % 2) * 2 + va / 2 % 2) * 2 + va % 2) * 2 + vb / 32 % 2) * 2 + vb / 16 % 2) % 256 by omega)])
      · simp only [okL, List.all_cons, List.all_nil, Bool.and_true, Bool.and_eq_true] at hok
        obtain ⟨va, ea, la⟩ := val_nat A a hok.1
        obtain ⟨vb, eb, lb⟩ := val_nat A b hok.2
        have hB : bitsL A [a, b] = six va ++ six vb := by simp [bitsL, ea, eb]
        rw [hB]
        simp only [six_eq, List.cons_append, List.nil_append, List.length_cons, List.length_nil, Nat.reduceAdd, Nat.reduceDiv, Nat.reduceMul, List.drop_succ_cons, List.drop_zero, Nat.mul_one]
        first
          | (simp only [grpBad, grpNum, bitsN, List.foldl_cons, List.foldl_nil, List.length_cons, List.length_nil, Nat.reduceAdd, Nat.reduceSub, ea, eb, Int.toNat_natCast, Nat.reduceMul, Nat.reducePow, Nat.zero_mul, Nat.zero_add]
             rw [Bool.eq_iff_iff]
             simp [← UInt8.toNat_inj, bit_nat]
             omega)
          | (simp only [grpOut, grpNum, bitsN, List.foldl_cons, List.foldl_nil, List.length_cons, List.length_nil, Nat.reduceAdd, Nat.reduceSub, ea, eb, Int.toNat_natCast,
               List.range_succ, List.range_zero, List.nil_append, List.map_append, List.map_cons, List.map_nil, List.cons_append, Nat.reduceMul, Nat.reducePow, Nat.zero_mul, Nat.zero_add, Nat.sub_zero,
               outsN, Nat.mul_zero, List.drop_zero, List.take_succ_cons, List.take_zero, byteN, bit_nat]
             rw [ofNat_eq (show (va * 64 + vb) * 4096 / 65536 % 256 = ((((((((va / 32 % 2) * 2 + va / 16 % 2) * 2 + va / 8 % 2) * 2 + va / 4 % 2) * 2 + va / 2 % 2) * 2 + va % 2) * 2 + vb / 32 % 2) * 2 + vb / 16 % 2) % 256 by omega)])
    | [a, b, c], _, _ =>
      refine dec_short A [a, b, c] (by simp) (by simp) (fun hok => ?_) (fun hok => ?_)
      · simp only [okL, List.all_cons, List.all_nil, Bool.and_true, Bool.and_eq_true] at hok
        obtain ⟨va, ea, la⟩ := val_nat A a hok.1
        obtain ⟨vb, eb, lb⟩ := val_nat A b hok.2.1
        obtain ⟨vc, ec, lc⟩ := val_nat A c hok.2.2
        have hB : bitsL A [a, b, c] = six va ++ (six vb ++ six vc) := by simp [bitsL, ea, eb, ec]
        rw [hB]
        simp only [six_eq, List.cons_append, List.nil_append, List.length_cons, List.length_nil, Nat.reduceAdd, Nat.reduceDiv, Nat.reduceMul, List.drop_succ_cons, List.drop_zero, Nat.mul_one]
        first
          | (simp only [grpBad, grpNum, bitsN, List.foldl_cons, List.foldl_nil, List.length_cons, List.length_nil, Nat.reduceAdd, Nat.reduceSub, ea, eb, ec, Int.toNat_natCast, Nat.reduceMul, Nat.reducePow, Nat.zero_mul, Nat.zero_add, Nat.mul_one]
             rw [Bool.eq_iff_iff]
             simp [← UInt8.toNat_inj, bit_nat]
             omega)
          | (simp only [grpOut, grpNum, bitsN, List.foldl_cons, List.foldl_nil, List.length_cons, List.length_nil, Nat.reduceAdd, Nat.reduceSub, ea, eb, ec, Int.toNat_natCast,
               List.range_succ, List.range_zero, List.nil_append, List.map_append, List.map_cons, List.map_nil, List.cons_append, Nat.reduceMul, Nat.reducePow, Nat.zero_mul, Nat.zero_add, Nat.sub_zero, Nat.mul_one,
               outsN, Nat.mul_zero, List.drop_zero, List.drop_succ_cons, List.take_succ_cons, List.take_zero, byteN, bit_nat]
             rw [ofNat_eq (show ((va * 64 + vb) * 64 + vc) * 64 / 65536 % 256 = ((((((((va / 32 % 2) * 2 + va / 16 % 2) * 2 + va / 8 % 2) * 2 + va / 4 % 2) * 2 + va / 2 % 2) * 2 + va % 2) * 2 + vb / 32 % 2) * 2 + vb / 16 % 2) % 256 by omega),
               ofNat_eq (show ((va * 64 + vb) * 64 + vc) * 64 / 256 % 256 = ((((((((vb / 8 % 2) * 2 + vb / 4 % 2) * 2 + vb / 2 % 2) * 2 + vb % 2) * 2 + vc / 32 % 2) * 2 + vc / 16 % 2) * 2 + vc / 8 % 2) * 2 + vc / 4 % 2) % 256 by omega)])
      · simp only [okL, List.all_cons, List.all_nil, Bool.and_true, Bool.and_eq_true] at hok
        obtain ⟨va, ea, la⟩ := val_nat A a hok.1
        obtain ⟨vb, eb, lb⟩ := val_nat A b hok.2.1
        obtain ⟨vc, ec, lc⟩ := val_nat A c hok.2.2
        have hB : bitsL A [a, b, c] = six va ++ (six vb ++ six vc) := by simp [bitsL, ea, eb, ec]
        rw [hB]
        simp only [six_eq, List.cons_append, List.nil_append, List.length_cons, List.length_nil, Nat.reduceAdd, Nat.reduceDiv, Nat.reduceMul, List.drop_succ_cons, List.drop_zero, Nat.mul_one]
        first
          | (simp only [grpBad, grpNum, bitsN, List.foldl_cons, List.foldl_nil, List.length_cons, List.length_nil, Nat.reduceAdd, Nat.reduceSub, ea, eb, ec, Int.toNat_natCast, Nat.reduceMul, Nat.reducePow, Nat.zero_mul, Nat.zero_add, Nat.mul_one]
             rw [Bool.eq_iff_iff]
             simp [← UInt8.toNat_inj, bit_nat]
             omega)
          | (simp only [grpOut, grpNum, bitsN, List.foldl_cons, List.foldl_nil, List.length_cons, List.length_nil, Nat.reduceAdd, Nat.reduceSub, ea, eb, ec, Int.toNat_natCast,
               List.range_succ, List.range_zero, List.nil_append, List.map_append, List.map_cons, List.map_nil, List.cons_append, Nat.reduceMul, Nat.reducePow, Nat.zero_mul, Nat.zero_add, Nat.sub_zero, Nat.mul_one,
               outsN, Nat.mul_zero, List.drop_zero, List.drop_succ_cons, List.take_succ_cons, List.take_zero, byteN, bit_nat]
             rw [ofNat_eq (show ((va * 64 + vb) * 64 + vc) * 64 / 65536 % 256 = ((((((((va / 32 % 2) * 2 + va / 16 % 2) * 2 + va / 8 % 2) * 2 + va / 4 % 2) * 2 + va / 2 % 2) * 2 + va % 2) * 2 + vb / 32 % 2) * 2 + vb / 16 % 2) % 256 by omega),
               ofNat_eq (show ((va * 64 + vb) * 64 + vc) * 64 / 256 % 256 = ((((((((vb / 8 % 2) * 2 + vb / 4 % 2) * 2 + vb / 2 % 2) * 2 + vb % 2) * 2 + vc / 32 % 2) * 2 + vc / 16 % 2) * 2 + vc / 8 % 2) * 2 + vc / 4 % 2) % 256 by omega)])
    | a :: b :: c :: d :: t, h, h4 =>
      by_cases hok : okL A [a, b, c, d] = true
      · rw [refD_cons A a b c d t hok, decR_cons A a b c d t hok, dec_ref A n t (by simp only [List.length_cons] at h; omega) (by simp only [List.length_cons] at h4; omega)]
      · rw [refD_bad A a b c d t hok, decR_bad A a b c d t hok]
end Go.Proofs.YtjkbigecejogdaaGreatDoor

namespace Go.Proofs.YtjkbigecejogdaaGreatDoor
open Go.RowKit
set_option maxRecDepth 100000
set_option linter.unusedVariables false
set_option linter.unusedSimpArgs false

theorem ownsRow_set {w : World} {base e : Nat} {g n cap : Nat} {xs : List Value} (h : w.ownsRow base e 1 (.slice (some ⟨g, 0, none⟩) n cap) n xs) {j : Nat} (hj : j < n) (u : Value) :
    (w.setCell ⟨g, j, none⟩ u).ownsRow base e 1 (.slice (some ⟨g, 0, none⟩) n cap) n (xs.set j u) := by
  obtain ⟨hl, h⟩ := h
  rcases h with ⟨hn, _⟩ | ⟨g', cap', cur, hv, hb, hg, hn, hm, hs, ht⟩
  · cases hn
  · cases hv
    refine ⟨by simpa using hl, .inr ⟨g, cap, cur.setIfInBounds j u, rfl, hb, ?_, hn, hm, by simpa using hs, ?_⟩⟩
    · simp only [World.setCell, Array.getElem?_modify, hg, if_true, Option.map_some]
      simp
    · rw [← ht]
      simp [List.take_set]
theorem hex_at : ∀ k, k < 16 → ∀ n, n < 256 → (bt hexd k = UInt8.ofNat n ↔ Lib.indexByte hexd (UInt8.ofNat n) = (k : Int)) := by decide +kernel
theorem hexI_at (k : Nat) (hk : k < 16) (c : UInt8) : bt hexd k = c ↔ hexI c = (k : Int) := by
  have h := hex_at k hk c.toNat c.toNat_lt
  rwa [UInt8.ofNat_toNat] at h
/-- The place that the loop over the digits has found when it has looked at k of them. -/
def seen (c : UInt8) (k : Nat) : Int := if 0 ≤ hexI c ∧ hexI c < (k : Int) then hexI c else -1
theorem seen_zero (c : UInt8) : seen c 0 = -1 := by unfold seen; rw [if_neg]; omega
theorem seen_hit (c : UInt8) (k : Nat) (h : hexI c = (k : Int)) : seen c (k + 1) = (k : Int) := by unfold seen; rw [if_pos (by omega), h]
theorem seen_miss (c : UInt8) (k : Nat) (h : hexI c ≠ (k : Int)) : seen c (k + 1) = seen c k := by
  unfold seen
  by_cases h1 : 0 ≤ hexI c ∧ hexI c < (k : Int)
  · rw [if_pos h1, if_pos (by omega)]
  · rw [if_neg h1, if_neg (by omega)]
theorem seen_all (c : UInt8) : seen c 16 = hexI c := by
  have := hexI_range c
  unfold seen
  split <;> omega

def outP (l : List UInt8) (k : Nat) : List UInt8 := if k % 2 = 0 then unhN l (k / 2) else unhN l (k / 2) ++ [UInt8.ofNat (16 * (hexI (bt l (k - 1))).toNat)]
theorem outP_even (l : List UInt8) (k : Nat) (h : k % 2 = 0) : outP l (k + 1) = outP l k ++ [UInt8.ofNat (16 * (hexI (bt l k)).toNat)] := by
  unfold outP
  rw [if_pos h, if_neg (by omega), show (k + 1) / 2 = k / 2 by omega, Nat.add_sub_cancel]
theorem pc_two (l : List UInt8) (q : Nat) (h : 2 * q + 1 < l.length) : pc l q = [bt l (2 * q), bt l (2 * q + 1)] := by
  unfold pc
  rw [List.drop_eq_getElem_cons (by omega), List.drop_eq_getElem_cons (by omega), bt_get l _ (by omega), bt_get l _ h]
  rfl
theorem outP_odd (l : List UInt8) (k : Nat) (h : k % 2 = 1) (hk : k < l.length) : outP l (k + 1) = (outP l k).set (k / 2) (UInt8.ofNat (16 * (hexI (bt l (k - 1))).toNat + (hexI (bt l k)).toNat)) := by
  obtain ⟨q, rfl⟩ : ∃ q, k = 2 * q + 1 := ⟨k / 2, by omega⟩
  unfold outP
  rw [if_pos (by omega), if_neg (by omega), show (2 * q + 1 + 1) / 2 = q + 1 by omega, show (2 * q + 1) / 2 = q by omega, unhN_succ, pc_two l q hk, Nat.add_sub_cancel]
  have hl : (unhN l q).length = q := by simp [unhN]
  rw [List.set_append_right _ _ (by omega), hl, Nat.sub_self, List.set_cons_zero]
  simp [numH, Nat.mul_comm]
theorem outP_len (l : List UInt8) (k : Nat) : (outP l k).length = (k + 1) / 2 := by
  unfold outP
  split
  · simp [unhN]; omega
  · simp [unhN]; omega

end Go.Proofs.YtjkbigecejogdaaGreatDoor

namespace Go.Proofs.YtjkbigecejogdaaGreatDoor
set_option linter.unusedVariables false
set_option linter.unusedSimpArgs false

theorem hexI_back (c : UInt8) (h : (hexI c != -1) = true) : ∃ v : Nat, v < 16 ∧ hexI c = (v : Int) ∧ bt hexd v = c := by
  have hr := hexI_range c
  have hne : hexI c ≠ -1 := by simpa using h
  obtain ⟨v, hv⟩ := Int.eq_ofNat_of_zero_le (show 0 ≤ hexI c by omega)
  have hv16 : v < 16 := by omega
  exact ⟨v, hv16, hv, (hexI_at v hv16 c).2 hv⟩
theorem hex_canon : ∀ (n : Nat) (s : List UInt8), s.length = 2 * n → okH s n = true → hexL (unhN s n) = s
  | 0, s, h, _ => by
    obtain rfl : s = [] := List.eq_nil_of_length_eq_zero (by omega)
    rfl
  | n + 1, s, h, hok => by
    match s, h, hok with
    | a :: b :: s, h, hok =>
      rw [okH_cons] at hok
      simp only [Bool.and_eq_true, grpH, List.all_cons, List.all_nil, Bool.and_true] at hok
      obtain ⟨⟨h1, h2⟩, h3⟩ := hok
      obtain ⟨va, la, ea, ba⟩ := hexI_back a h1
      obtain ⟨vb, lb, eb, bb⟩ := hexI_back b h2
      rw [unhN_cons]
      simp only [hexL]
      rw [hex_canon n s (by simp only [List.length_cons] at h; omega) h3]
      have e : (UInt8.ofNat (numH [a, b])).toNat = va * 16 + vb := by
        simp only [numH, List.foldl_cons, List.foldl_nil, ea, eb, Int.toNat_natCast]
        rw [UInt8.toNat_ofNat']; omega
      rw [e, show (va * 16 + vb) / 16 = va by omega, show (va * 16 + vb) % 16 = vb by omega, ba, bb]
    | [], h, _ => simp at h
    | [a], h, _ => simp at h; omega
theorem unhR_canon (s : List UInt8) (h : (unhR s).2 = 0) : hexL (unhR s).1 = s := by
  unfold unhR at h ⊢
  by_cases h1 : s.length % 2 = 0
  · by_cases h2 : okH s ((s.length + 1) / 2) = true
    · rw [if_pos h1, if_pos h2]
      exact hex_canon _ s (by omega) h2
    · rw [if_pos h1, if_neg h2] at h; simp at h
  · rw [if_neg h1] at h; simp at h

/-! ### Letters -/
theorem val_back (url : Bool) (c : UInt8) (h : (valL (alph url) c != -1) = true) : ∃ v : Nat, v < 64 ∧ valL (alph url) c = (v : Int) ∧ bt (alph url) v = c := by
  obtain ⟨v, hv, hl⟩ := val_nat (alph url) c h
  refine ⟨v, hl, hv, ?_⟩
  rcases val_hit url c with h1 | h1
  · rw [h1] at h; simp at h
  · rw [hv, Int.toNat_natCast] at h1; exact h1
theorem out_four (A : List UInt8) (a b c d : UInt8) (va vb vc vd : Nat) (la : va < 64) (lb : vb < 64) (lc : vc < 64) (ld : vd < 64) (ea : valL A a = (va : Int)) (eb : valL A b = (vb : Int)) (ec : valL A c = (vc : Int)) (ed : valL A d = (vd : Int)) :
    grpOut A [a, b, c, d] = [UInt8.ofNat (va * 4 + vb / 16), UInt8.ofNat (vb % 16 * 16 + vc / 4), UInt8.ofNat (vc % 4 * 64 + vd)] := by
  simp only [grpOut, grpNum, bitsN, List.foldl_cons, List.foldl_nil, List.length_cons, List.length_nil, Nat.reduceAdd, Nat.reduceSub, ea, eb, ec, ed, Int.toNat_natCast,
    List.range_succ, List.range_zero, List.nil_append, List.map_append, List.map_cons, List.map_nil, List.cons_append, Nat.reduceMul, Nat.reducePow, Nat.mul_one, Nat.zero_mul, Nat.zero_add, Nat.sub_zero, Nat.sub_self, Nat.mul_zero, Nat.pow_zero, Nat.div_one]
  rw [ofNat_eq (show (((va * 64 + vb) * 64 + vc) * 64 + vd) / 65536 % 256 = (va * 4 + vb / 16) % 256 by omega),
    ofNat_eq (show (((va * 64 + vb) * 64 + vc) * 64 + vd) / 256 % 256 = (vb % 16 * 16 + vc / 4) % 256 by omega),
    ofNat_eq (show (((va * 64 + vb) * 64 + vc) * 64 + vd) % 256 = (vc % 4 * 64 + vd) % 256 by omega)]
theorem enc_four (url : Bool) (a b c d : UInt8) (hok : okL (alph url) [a, b, c, d] = true) : ∃ x y z, grpOut (alph url) [a, b, c, d] = [x, y, z] ∧ encL (alph url) [x, y, z] = [a, b, c, d] := by
  simp only [okL, List.all_cons, List.all_nil, Bool.and_true, Bool.and_eq_true] at hok
  obtain ⟨h1, h2, h3, h4⟩ := hok
  obtain ⟨va, la, ea, ba⟩ := val_back url a h1
  obtain ⟨vb, lb, eb, bb⟩ := val_back url b h2
  obtain ⟨vc, lc, ec, bc⟩ := val_back url c h3
  obtain ⟨vd, ld, ed, bd⟩ := val_back url d h4
  refine ⟨_, _, _, out_four _ a b c d va vb vc vd la lb lc ld ea eb ec ed, ?_⟩
  rw [encL_three]
  simp only [UInt8.toNat_ofNat']
  rw [show (va * 4 + vb / 16) % 2 ^ 8 / 4 = va by omega, show (va * 4 + vb / 16) % 2 ^ 8 % 4 * 16 + (vb % 16 * 16 + vc / 4) % 2 ^ 8 / 16 = vb by omega,
    show (vb % 16 * 16 + vc / 4) % 2 ^ 8 % 16 * 4 + (vc % 4 * 64 + vd) % 2 ^ 8 / 64 = vc by omega, show (vc % 4 * 64 + vd) % 2 ^ 8 % 64 = vd by omega, ba, bb, bc, bd]
theorem decR_grp (A g : List UInt8) (h4 : 0 < g.length) (h5 : g.length ≤ 4) (h : (decR A g).2 = 0) : okL A g = true ∧ grpBad A g = false ∧ (decR A g).1 = grpOut A g := by
  have hn : (g.length + 3) / 4 = 1 := by omega
  have hp : piece g 0 = g := by unfold piece; rw [Nat.mul_zero, List.drop_zero, List.take_of_length_le h5]
  have ho : okN A g 1 = okL A g := by simp [okN, List.range_succ, hp, grpOk_eq]
  have hc : codN A g 1 = if grpBad A g then 4 else 0 := by simp [codN, hp]
  have hd : decN A g 1 = grpOut A g := by simp [decN, List.range_succ, hp]
  simp only [decR, hn, ho, hc, hd] at h ⊢
  cases h1 : okL A g with
  | false => simp [h1] at h
  | true =>
    cases h2 : grpBad A g with
    | true => simp [h1, h2] at h
    | false => simp
theorem enc_two (url : Bool) (a b c : UInt8) (hok : okL (alph url) [a, b, c] = true) (hbad : grpBad (alph url) [a, b, c] = false) : ∃ x y, grpOut (alph url) [a, b, c] = [x, y] ∧ encL (alph url) [x, y] = [a, b, c] := by
  simp only [okL, List.all_cons, List.all_nil, Bool.and_true, Bool.and_eq_true] at hok
  obtain ⟨h1, h2, h3⟩ := hok
  obtain ⟨va, la, ea, ba⟩ := val_back url a h1
  obtain ⟨vb, lb, eb, bb⟩ := val_back url b h2
  obtain ⟨vc, lc, ec, bc⟩ := val_back url c h3
  have hnum : grpNum (alph url) [a, b, c] = ((va * 64 + vb) * 64 + vc) * 64 := by
    simp only [grpNum, bitsN, List.foldl_cons, List.foldl_nil, List.length_cons, List.length_nil, Nat.reduceAdd, Nat.reduceSub, ea, eb, ec, Int.toNat_natCast, Nat.reduceMul, Nat.reducePow, Nat.zero_mul, Nat.zero_add]
  have hz : vc % 4 = 0 := by
    rw [grpBad, hnum] at hbad
    simp at hbad
    omega
  refine ⟨UInt8.ofNat (va * 4 + vb / 16), UInt8.ofNat (vb % 16 * 16 + vc / 4), ?_, ?_⟩
  · simp only [grpOut, hnum, List.length_cons, List.length_nil, Nat.reduceAdd, Nat.reduceSub, List.range_succ, List.range_zero, List.nil_append, List.map_append, List.map_cons, List.map_nil, List.cons_append, Nat.reduceMul, Nat.reducePow, Nat.mul_zero, Nat.sub_zero, Nat.mul_one]
    rw [ofNat_eq (show ((va * 64 + vb) * 64 + vc) * 64 / 65536 % 256 = (va * 4 + vb / 16) % 256 by omega),
      ofNat_eq (show ((va * 64 + vb) * 64 + vc) * 64 / 256 % 256 = (vb % 16 * 16 + vc / 4) % 256 by omega)]
  · rw [encL_two]
    simp only [UInt8.toNat_ofNat']
    rw [show (va * 4 + vb / 16) % 2 ^ 8 / 4 = va by omega, show (va * 4 + vb / 16) % 2 ^ 8 % 4 * 16 + (vb % 16 * 16 + vc / 4) % 2 ^ 8 / 16 = vb by omega,
      show (vb % 16 * 16 + vc / 4) % 2 ^ 8 % 16 * 4 = vc by omega, ba, bb, bc]
theorem enc_one (url : Bool) (a b : UInt8) (hok : okL (alph url) [a, b] = true) (hbad : grpBad (alph url) [a, b] = false) : ∃ x, grpOut (alph url) [a, b] = [x] ∧ encL (alph url) [x] = [a, b] := by
  simp only [okL, List.all_cons, List.all_nil, Bool.and_true, Bool.and_eq_true] at hok
  obtain ⟨h1, h2⟩ := hok
  obtain ⟨va, la, ea, ba⟩ := val_back url a h1
  obtain ⟨vb, lb, eb, bb⟩ := val_back url b h2
  have hnum : grpNum (alph url) [a, b] = (va * 64 + vb) * 4096 := by
    simp only [grpNum, bitsN, List.foldl_cons, List.foldl_nil, List.length_cons, List.length_nil, Nat.reduceAdd, Nat.reduceSub, ea, eb, Int.toNat_natCast, Nat.reduceMul, Nat.reducePow, Nat.zero_mul, Nat.zero_add]
  have hz : vb % 16 = 0 := by
    rw [grpBad, hnum] at hbad
    simp at hbad
    omega
  refine ⟨UInt8.ofNat (va * 4 + vb / 16), ?_, ?_⟩
  · simp only [grpOut, hnum, List.length_cons, List.length_nil, Nat.reduceAdd, Nat.reduceSub, List.range_succ, List.range_zero, List.nil_append, List.map_append, List.map_cons, List.map_nil, List.cons_append, Nat.reduceMul, Nat.reducePow, Nat.mul_zero, Nat.sub_zero, Nat.mul_one]
    rw [ofNat_eq (show (va * 64 + vb) * 4096 / 65536 % 256 = (va * 4 + vb / 16) % 256 by omega)]
  · rw [encL_one]
    simp only [UInt8.toNat_ofNat']
    rw [show (va * 4 + vb / 16) % 2 ^ 8 / 4 = va by omega, show (va * 4 + vb / 16) % 2 ^ 8 % 4 * 16 = vb by omega, ba, bb]
theorem dec_canon (url : Bool) : ∀ (n : Nat) (t : List UInt8), t.length ≤ n → t.length % 4 ≠ 1 → (decR (alph url) t).2 = 0 → allL (alph url) false (decR (alph url) t).1 = t
  | 0, t, h, _, _ => by
    obtain rfl : t = [] := List.eq_nil_of_length_eq_zero (by omega)
    simp [decR, okN, codN, decN, allL, allN]
  | n + 1, t, h, h4, h0 => by
    match t, h, h4, h0 with
    | [], _, _, _ => simp [decR, okN, codN, decN, allL, allN]
    | [a], _, h4, _ => simp at h4
    | [a, b], _, _, h0 =>
      obtain ⟨h1, h2, h3⟩ := decR_grp (alph url) [a, b] (by simp) (by simp) h0
      obtain ⟨x, e1, e2⟩ := enc_one url a b h1 h2
      rw [h3, e1, allL_short _ false [x] (by simp) (by simp)]
      simp only [chunk, Bool.false_eq_true, if_false, List.append_nil]
      exact e2
    | [a, b, c], _, _, h0 =>
      obtain ⟨h1, h2, h3⟩ := decR_grp (alph url) [a, b, c] (by simp) (by simp) h0
      obtain ⟨x, y, e1, e2⟩ := enc_two url a b c h1 h2
      rw [h3, e1, allL_short _ false [x, y] (by simp) (by simp)]
      simp only [chunk, Bool.false_eq_true, if_false, List.append_nil]
      exact e2
    | a :: b :: c :: d :: t, h, h4, h0 =>
      by_cases hok : okL (alph url) [a, b, c, d] = true
      · obtain ⟨x, y, z, e1, e2⟩ := enc_four url a b c d hok
        rw [decR_cons _ a b c d t (by rw [grpOk_eq]; exact hok)] at h0 ⊢
        have h5 : (decR (alph url) t).2 = 0 := h0
        simp only [h5, if_true]
        rw [e1]
        have := dec_canon url n t (by simp only [List.length_cons] at h; omega) (by simp only [List.length_cons] at h4; omega) h5
        simp only [List.cons_append, List.nil_append]
        rw [allL_cons, this]
        simp only [chunk, Bool.false_eq_true, if_false, List.append_nil]
        rw [e2]
        rfl
      · rw [decR_bad _ a b c d t hok] at h0
        simp at h0
theorem decU_canon (l : List UInt8) (h : (decU l).2 = 0) : allL other false (decU l).1 = l := by
  unfold decU at h ⊢
  by_cases h1 : l.length % 4 = 1
  · rw [if_pos h1] at h; simp at h
  · rw [if_neg h1] at h ⊢
    exact dec_canon true l.length l (Nat.le_refl _) h1 h
theorem trim_form (l : List UInt8) : l = trim l ∨ (l = trim l ++ [61] ∧ l.length = (trim l).length + 1) := by
  unfold trim
  by_cases h : 0 < l.length ∧ bt l (l.length - 1) = 61
  · refine .inr ?_
    rw [if_pos h]
    refine ⟨?_, by simp; omega⟩
    have := take_snoc l (l.length - 1) (by omega)
    rw [show l.length - 1 + 1 = l.length by omega, List.take_length, h.2] at this
    exact this
  · exact .inl (by rw [if_neg h])
theorem pads (l : List UInt8) : ∃ k, k ≤ 2 ∧ l = trimN l 2 ++ List.replicate k 61 ∧ l.length = (trimN l 2).length + k := by
  have t2 : trimN l 2 = trim (trim l) := rfl
  rw [t2]
  have r2 : List.replicate 2 (61 : UInt8) = [61] ++ [61] := rfl
  rcases trim_form l with h1 | ⟨h1, l1⟩ <;> rcases trim_form (trim l) with h2 | ⟨h2, l2⟩
  · exact ⟨0, by omega, by rw [← h2, ← h1]; simp, by rw [← h2, ← h1]; omega⟩
  · exact ⟨1, by omega, by show l = trim (trim l) ++ [61]; rw [← h2, ← h1], by rw [← h1] at l2 ⊢; omega⟩
  · exact ⟨1, by omega, by show l = trim (trim l) ++ [61]; rw [← h2, ← h1], by rw [← h2]; omega⟩
  · exact ⟨2, by omega, by rw [r2, ← List.append_assoc, ← h2, ← h1], by omega⟩
theorem decF_canon (l : List UInt8) (h : (decF l).2 = 0) : allL plain true (decF l).1 = l := by
  unfold decF at h ⊢
  by_cases h1 : l.length % 4 = 0
  · rw [if_pos h1] at h ⊢
    by_cases h2 : (trimN l 2).length % 4 = 1
    · rw [if_pos h2] at h; simp at h
    · rw [if_neg h2] at h ⊢
      have hc := dec_canon false _ (trimN l 2) (Nat.le_refl _) h2 h
      rw [show alph false = plain from rfl] at hc
      rw [allL_true]
      have hl := hc
      rw [allL_false] at hl
      have hn := congrArg List.length hl
      rw [refN_len] at hn
      rw [hl, hn]
      obtain ⟨k, hk, hf, hlen⟩ := pads l
      have : (4 - (trimN l 2).length % 4) % 4 = k := by omega
      rw [this]
      exact hf.symm
  · rw [if_neg h1] at h; simp at h

/-! ### The document's answers -/
theorem refDF_false_eq (l : List UInt8) (h : l.length % 4 = 0) : (trimN l 2).length % 4 ≠ 1 := by
  obtain ⟨k, hk, _, hlen⟩ := pads l
  omega
theorem decF_ref (l : List UInt8) : decF l = if l.length % 4 = 0 then refD plain (trimN l 2) else ([], 2) := by
  unfold decF
  by_cases h1 : l.length % 4 = 0
  · have h2 := refDF_false_eq l h1
    rw [if_pos h1, if_pos h1, if_neg h2]
    exact dec_ref plain _ _ (Nat.le_refl _) h2
  · rw [if_neg h1, if_neg h1]
theorem decU_ref (l : List UInt8) : decU l = if l.length % 4 = 1 then ([], 2) else refD other l := by
  unfold decU
  by_cases h1 : l.length % 4 = 1
  · rw [if_pos h1, if_pos h1]
  · rw [if_neg h1, if_neg h1]
    exact dec_ref other _ _ (Nat.le_refl _) h1
end Go.Proofs.YtjkbigecejogdaaGreatDoor

namespace Go.Proofs.YtjkbigecejogdaaGreatDoor
open Go.RowKit
set_option linter.unusedVariables false
set_option linter.unusedSimpArgs false

def refDF (url : Bool) (l : List UInt8) : List UInt8 × Nat :=
  if url then (if l.length % 4 = 1 then ([], 2) else refD other l) else (if l.length % 4 = 0 then refD plain (trimN l 2) else ([], 2))
theorem okL_snoc (A t : List UInt8) (c : UInt8) : okL A (t ++ [c]) = (okL A t && (valL A c != -1)) := by simp [okL]
theorem bitsL_snoc (A t : List UInt8) (c : UInt8) : bitsL A (t ++ [c]) = bitsL A t ++ six (valL A c).toNat := by simp [bitsL]
theorem okL_take (A t : List UInt8) (k : Nat) (h : okL A (t.take k) = false) : okL A t = false := by
  cases hg : okL A t with
  | false => rfl
  | true =>
    rw [← h]; simp only [okL, List.all_eq_true] at hg ⊢
    exact (List.all_eq_true.2 fun x hx => hg x (List.mem_of_mem_take hx)).symm
theorem six_take (x m : Nat) (h : m < 6) : (six x).take (m + 1) = (six x).take m ++ [UInt8.ofNat (x / 2 ^ (5 - m) % 2)] := by
  have hl : m < (six x).length := by rw [six_len]; exact h
  rw [List.take_succ_eq_append_getElem hl]
  simp [six]

end Go.Proofs.YtjkbigecejogdaaGreatDoor

namespace Go.Proofs.YtjkbigecejogdaaGreatDoor
open Go.RowKit
set_option linter.unusedVariables false
set_option linter.unusedSimpArgs false

set_option maxHeartbeats 4000000 in
theorem refDecode_p0 (l : List UInt8) (w : World) (hl : l.length ≤ 10000) (h1 : l.length % 4 = 0) (e0 : 0 < l.length) (e1 : bt l (l.length - 1) ≠ 61) :
    Calls Tryz.prog 93 #[Str l, .bool false] w fun e w' => ∃ v, e = .returned (.tuple #[v, .int .i64 ((refDF false l).2 : Int)]) ∧ w'.ownsRow w.heap.size 5 1 v (refDF false l).1.length ((refDF false l).1.map Byt) ∧ Ext w w' := by
  have hf := Lib.hid (show refDF false l = if l.length % 4 = 0 then refD plain (trimN l 2) else ([], 2) from rfl)
  rw [if_pos h1] at hf
  have t2 : trimN l 2 = trim (trim l) := rfl
  have hixl : ∀ i, i < l.length → ∀ W, (Instr.index 9 (Str l) (.int .i64 (i : Int))).run Tryz.prog W = .ok (Byt (bt l i)) W := fun i hi W => run_index_str Tryz.underlying9 l i _ rfl hi W
  obtain ⟨t, ht⟩ : ∃ t, t = l := ⟨_, rfl⟩
  have htr : trimN l 2 = t := by
    have h2 : trim l = l := if_neg (fun h => e1 h.2)
    rw [t2, h2, h2, ht]
  have htl : ∀ i, i < t.length → ∀ W, (Instr.index 9 (Str l) (.int .i64 (i : Int))).run Tryz.prog W = .ok (Byt (bt t i)) W := fun i hi W => by rw [ht] at hi ⊢; exact hixl i hi W
  have ht6 : (l.length : Int) = (t.length : Int) := by rw [ht]
  have ht3 : t.length ≤ 10000 := by rw [ht]; exact hl
  have hx1 : ∀ W, (Instr.index 9 (Str l) (.int .i64 ((l.length : Int) - 1))).run Tryz.prog W = .ok (Byt (bt l (l.length - 1))) W := fun W => by
    have := hixl (l.length - 1) (by omega) W
    rwa [show ((l.length - 1 : Nat) : Int) = (l.length : Int) - 1 by omega] at this
  have hb1 : ((bt l (l.length - 1)).toNat : Int) ≠ 61 := fun e => e1 (UInt8.toNat_inj.1 (by rw [show (61 : UInt8).toNat = 61 from rfl]; omega))
  generalize bt l (l.length - 1) = c1 at *
  have hb0 : (((l.length : Int) % 4) != 0) = false := by simp; omega
  have hbp : decide (0 < (l.length : Int)) = true := by simp; omega
  have hbq : (((l.length : Int) % 4) == 1) = false := by simp; omega
  have hbc : ((c1.toNat : Int) == 61) = false := by simpa using hb1
  rw [htr] at hf
  have hr := hf
  clear hf htr ht hixl t2 e1
  obtain ⟨A, hA⟩ : ∃ A, A = plain := ⟨_, rfl⟩
  rw [← hA] at hr
  have Hnum := Lib.hid (fun c W => number_any false c W)
  rw [show alph false = A from hA.symm] at Hnum
  have HT := Lib.hid htl
  have h6 := Lib.hid ht6
  clear htl ht6 hA
  go_enter Tryz.func93, Tryz.ntmps93
  go_wp2
  rw [h6.out]
  go_loopw [7, 8] (fun b i wr => ∃ k : Nat, k ≤ t.length ∧ i = .int .i64 k ∧ wr.ownsRow w.heap.size 5 1 b (6 * k) ((bitsL A (t.take k)).map Byt) ∧ okL A (t.take k) = true ∧ Ext w wr) (fun _ i _ => t.length - (intOf i).toNat)
  case atStart => exact ⟨0, by omega, rfl, World.ownsRow_nil _ _ _ _, rfl, Below.refl _ _⟩
  case round =>
    obtain ⟨k, hk, rfl, hown, hok, hext⟩ := hrel
    have Hown := Lib.hid hown; have Hok := Lib.hid hok; clear hown hok
    by_cases h3 : k < t.length
    · have hix := HT.out k h3
      have hok2 := okL_snoc A (t.take k) (bt t k)
      have hb2 := bitsL_snoc A (t.take k) (bt t k)
      rw [← take_snoc t k h3, Hok.out, Bool.true_and] at hok2
      rw [← take_snoc t k h3] at hb2
      have Hok2 := Lib.hid hok2; have Hb2 := Lib.hid hb2; clear hok2 hb2
      have hnum := Lib.hid (Hnum.out (bt t k))
      have hv := valL_range A (bt t k)
      have hc := (bt t k).toNat_lt
      generalize bt t k = c at *
      generalize valL A c = v at *
      rcases (show v = -1 ∨ 0 ≤ v by omega) with hneg | hpos
      · subst hneg
        have hbad := Lib.hid (show refD A t = ([], 5) from if_neg (by rw [okL_take A t (k + 1) Hok2.out]; simp))
        go_wp2_with (go_at_call 108; refine (hnum.out _).mono ?_; rintro e W3 ⟨rfl, rfl⟩)
        go_ret2
        exact ⟨.slice none 0 0, by rw [hr.out, hbad.out]; rfl, by rw [hr.out, hbad.out]; exact World.ownsRow_nil _ _ _ _, hext⟩
      · obtain ⟨x, rfl⟩ := Int.eq_ofNat_of_zero_le hpos
        rw [Int.toNat_natCast] at Hb2
        go_wp2_with (go_at_call 108; refine (hnum.out _).mono ?_; rintro e W3 ⟨rfl, rfl⟩)
        go_loopw [7, 10] (fun b j wr => ∃ m : Nat, m ≤ 6 ∧ j = .int .i64 (5 - (m : Int)) ∧ wr.ownsRow w.heap.size 5 1 b (6 * k + m) ((bitsL A (t.take k) ++ (six x).take m).map Byt) ∧ Ext w wr) (fun _ j _ => ((intOf j) + 1).toNat)
        case atStart => exact ⟨0, by omega, rfl, by simpa using Hown.out, hext⟩
        case round =>
          obtain ⟨m, hm, rfl, hown, hext⟩ := hrel
          have Hown2 := Lib.hid hown; clear hown
          by_cases hm6 : m < 6
          · obtain ⟨r, hr5⟩ : ∃ r : Nat, r = 5 - m := ⟨_, rfl⟩
            rw [show (5 - (m : Int)) = (r : Int) by omega]
            have hst := Lib.hid (six_take x m hm6)
            rw [← hr5] at hst
            have hm5 := Lib.hid (show m = 5 - r ∧ r ≤ 5 by omega)
            have hr6 : r ≤ 5 := by omega
            have hkm : 6 * k + m ≤ 70000 := by omega
            have hx : x / 2 ^ r < 1000000000000 := Nat.lt_of_le_of_lt (Nat.div_le_self _ _) (by omega)
            have hand := and_num 1 1 1 (x / 2 ^ r) hx rfl rfl (by omega)
            rw [Int.natCast_ediv, Int.natCast_pow, show ((2 : Nat) : Int) = 2 from rfl, Nat.pow_one] at hand
            have hy : x / 2 ^ r % 2 < 2 := Nat.mod_lt _ (by omega)
            have hyb := Lib.hid (bit_nat (x / 2 ^ r))
            generalize x / 2 ^ r % 2 = y at *
            have hu := Lib.hid (show Value.int .u8 (y : Int) = Byt (UInt8.ofNat y) by simp only [Byt, hyb.out])
            clear hx hr5 hm6 hm
            go_wp2_with (at_builtin; refine wpList_push w.heap.size rfl _ _ 25 5 rfl Tryz.underlying25 infoByte rfl (by omega) Hown2.out _ rfl (by omega) hext.size rfl rfl ?_; rintro _ w1 ⟨g1, cap1, rfl⟩ hown1 hgr1; have hex1 := Lib.hid (ext_push hext Hown2.out hgr1); rw [hu.out] at hown1; have Hown1 := Lib.hid hown1; clear hown1 hgr1)
            refine ⟨⟨m + 1, by have := hm5.out; omega, by have := hm5.out; first | go_num | (congr 1; omega), ?_, hex1.out⟩, by simp [intOf] <;> omega⟩
            rw [hst.out, ← List.append_assoc, List.map_append]
            exact Hown1.out
          · obtain rfl : m = 6 := by omega
            rw [List.take_of_length_le (show (six x).length ≤ 6 by rw [six_len]; omega), ← Hb2.out] at Hown2
            go_wp2
            first
              | exact ⟨⟨k + 1, by omega, by first | go_num | omega, Hown2.out, Hok2.out, hext⟩, by simp [intOf] <;> omega⟩
              | (go_roundw
                 case rel => exact ⟨k + 1, by omega, by first | go_num | omega, Hown2.out, Hok2.out, hext⟩
                 case measure => simp [intOf] <;> omega)
    · have hkt : k = t.length := by omega
      rw [hkt, List.take_length] at Hown Hok
      clear hk hkt
      have hBl := bitsL_len A t
      have hbit := Lib.hid (bitsL_bit A t)
      have hR := Lib.hid (show refD A t = if ((bitsL A t).drop (8 * ((bitsL A t).length / 8))).all (· == 0) then (outsN (bitsL A t) ((bitsL A t).length / 8), 0) else ([], 4) from if_pos Hok.out)
      rw [← hBl] at Hown
      have hB2 : (bitsL A t).length ≤ 60000 := by omega
      clear hBl
      generalize bitsL A t = B at *
      have hsB := Lib.hid (sl_of_own Hown.out)
      generalize wr = W1 at *
      go_wp2
      go_loopw [7, 11] (fun b o W => ∃ k : Nat, 8 * k ≤ B.length ∧ SlB W1 b (B.drop (8 * k)) ∧ W.ownsRow W1.heap.size 5 1 o k ((outsN B k).map Byt) ∧ Ext W1 W) (fun b _ _ => sliceLen b)
      case atStart => exact ⟨0, by omega, by simpa using hsB.out, World.ownsRow_nil _ _ _ _, Below.refl _ _⟩
      case round =>
        obtain ⟨k, hk, hsl, hown, hex⟩ := hrel
        have Hsl := Lib.hid hsl; have Hown3 := Lib.hid hown; clear hown
        obtain ⟨ao, cap, rfl, hcap, hmax, hnil, hcell⟩ := hsl
        have hnl : ((B.drop (8 * k)).map Byt).length = B.length - 8 * k := by simp
        rw [hnl] at hcap Hsl ⊢
        have Hcell := Lib.hid hcell; clear hcell
        by_cases h8 : 8 ≤ B.length - 8 * k
        · have hs8 := Hsl.out.headm (k := 8) (by rw [hnl]; exact h8)
          rw [← List.map_take] at hs8
          have hrun : ∀ W, (Instr.slice 25 (.slice ao (B.length - 8 * k) cap) none (some (.int .i64 8)) none).run Tryz.prog W = .ok (headm (.slice ao (B.length - 8 * k) cap) 8) W := fun W => run_headm (P := Tryz.prog) Tryz.underlying25 Tryz.sizeOf5 (ao := ao) hcap W 8 h8
          have hrun2 : ∀ W, (Instr.slice 25 (.slice ao (B.length - 8 * k) cap) (some (.int .i64 8)) none none).run Tryz.prog W = .ok (resl (.slice ao (B.length - 8 * k) cap) 8) W := fun W => run_resl (P := Tryz.prog) Tryz.underlying25 Tryz.sizeOf5 W 8 h8
          have hos := Lib.hid (outsN_succ B k)
          have hg8 : ((B.drop (8 * k)).take 8).length = 8 := by simp; omega
          have hgb : ∀ x ∈ (B.drop (8 * k)).take 8, x.toNat ≤ 1 := fun x hx => hbit.out x (List.mem_of_mem_drop (List.mem_of_mem_take hx))
          have hs9 := Hsl.out.resl (k := 8) (by rw [hnl]; exact h8)
          rw [← List.map_drop, List.drop_drop, show 8 * k + 8 = 8 * (k + 1) by omega] at hs9
          have Hs9 := Lib.hid hs9; clear hs9
          obtain ⟨ah, hah⟩ : ∃ ah, headm (.slice ao (B.length - 8 * k) cap) 8 = .slice ah 8 cap := ⟨_, rfl⟩
          rw [hah] at hs8 hrun
          obtain ⟨ah', cap', hve, hcap', _, hnil', hcell'⟩ := hs8
          rw [List.length_map, hg8] at hve hcap'
          cases hve
          have hix := run_index_adr (P := Tryz.prog) Tryz.underlying25 Tryz.sizeOf5 hnil' hcap'
          have HC := Lib.hid hcell'; clear hcell' hah
          obtain ⟨g, hg⟩ : ∃ g, (B.drop (8 * k)).take 8 = g := ⟨_, rfl⟩
          rw [hg] at hos hg8 hgb HC
          clear hg
          have Hgb := Lib.hid hgb; clear hgb
          have hB3 : B.length ≤ 60000 := hB2
          go_wp2
          go_loop [12, 91] (fun b i => ∃ j : Nat, j ≤ 8 ∧ i = .int .i64 j ∧ b = .int .u8 (byteN (g.take j) : Nat)) (fun _ i => 8 - (intOf i).toNat)
          case atStart => exact ⟨0, by omega, rfl, rfl⟩
          case round =>
            obtain ⟨j, hj, rfl, rfl⟩ := hrel
            by_cases hj8 : j < 8
            · have hck : wr.cell? (adr ah j) = some (Byt (bt g j)) := ext_cell hex (HC.out j _ (byt_map g j (by omega)))
              have hlt : byteN (g.take j) < 128 := Nat.lt_of_lt_of_le (byteN_lt _ (fun x hx => Hgb.out x (List.mem_of_mem_take hx))) (Nat.pow_le_pow_right (n := 2) (by omega) (show (g.take j).length ≤ 7 by simp; omega))
              have hs := Lib.hid (byteN_snoc (g.take j) (bt g j)); rw [← take_snoc g j (by omega)] at hs
              have hx1 : (bt g j).toNat ≤ 1 := Hgb.out _ (by rw [bt_get g j (by omega)]; exact List.getElem_mem _)
              generalize byteN (g.take j) = y at *
              generalize bt g j = c at *
              go_wp2
              first
                | exact ⟨⟨j + 1, by omega, by first | go_num | omega, by rw [hs.out]; go_num⟩, by simp [intOf] <;> omega⟩
                | (go_roundw
                   case rel => exact ⟨j + 1, by omega, by first | go_num | omega, by rw [hs.out]; go_num⟩
                   case measure => simp [intOf] <;> omega)
            · obtain rfl : j = 8 := by omega
              rw [List.take_of_length_le (by omega)]
              have hlt : byteN g < 256 := by have := byteN_lt g Hgb.out; rw [hg8] at this; exact this
              have hu := Lib.hid (show Value.int .u8 (byteN g : Int) = Byt (UInt8.ofNat (byteN g)) by simp only [Byt, UInt8.toNat_ofNat']; congr 1; omega)
              generalize byteN g = y at *
              clear hcap' hnil' hix hrun HC
              have hk6 : k ≤ 60000 := by omega
              go_wp2
              go_region_law (try rw [drew_alloc]; refine step_push W1.heap.size rfl _ _ 25 5 rfl Tryz.underlying25 infoByte rfl (by omega) (own_ext Hown3.out (Below.drew (Below.refl _ _))) _ rfl (by omega) hex.size rfl rfl ?_; rintro _ w1 ⟨g1, cap1, rfl⟩ hown1 hgr1; rw [hu.out] at hown1; have Hown1 := Lib.hid hown1; have Hgr1 := Lib.hid hgr1; clear hown1 hgr1)
              have hex1 := Lib.hid (ext_push (Below.drew hex) (own_ext Hown3.out (Below.drew (Below.refl _ _))) Hgr1.out)
              have hsh : ∃ ao' n' cap', resl (.slice ao (B.length - 8 * k) cap) 8 = .slice ao' n' cap' ∧ n' < B.length - 8 * k := ⟨_, _, _, rfl, by omega⟩
              have Hm := Lib.hid (show sliceLen (resl (.slice ao (B.length - 8 * k) cap) 8) < sliceLen (.slice ao (B.length - 8 * k) cap) by show B.length - 8 * k - 8 < B.length - 8 * k; omega)
              clear hsh
              go_simp
              go_wp2
              go_roundw
              case rel => exact ⟨k + 1, by omega, Hs9.out, by rw [hos.out, List.map_append]; exact Hown1.out, hex1.out⟩
              case measure => exact Hm.out
        · have hkN := Lib.hid (show k = B.length / 8 by omega)
          have hrl : B.length - 8 * k < 8 := by omega
          have hix := run_index_adr (P := Tryz.prog) Tryz.underlying25 Tryz.sizeOf5 hnil hcap
          rw [← hkN.out] at hR
          have hne8 : (((B.length - 8 * k : Nat) : Int) ≥ 8) = False := by simp; omega
          have hgl : (B.drop (8 * k)).length = B.length - 8 * k := by simp
          obtain ⟨g, hg⟩ : ∃ g, B.drop (8 * k) = g := ⟨_, rfl⟩
          rw [hg] at hR Hcell hgl
          obtain ⟨n, hn⟩ : ∃ n, B.length - 8 * k = n := ⟨_, rfl⟩
          rw [hn] at hix hrl hgl ⊢
          clear hg hne8
          have Hx := Lib.hid hex
          go_wp2
          go_loop [108] (fun i => ∃ j : Nat, j ≤ n ∧ i = .int .i64 j ∧ Hid (∀ m, m < j → bt g m = 0)) (fun i => n - (intOf i).toNat)
          case atStart => exact ⟨0, by omega, rfl, Lib.hid (fun m h => by omega)⟩
          case round =>
            obtain ⟨j, hj, rfl, hz⟩ := hrel
            by_cases hjn : j < n
            · have hck : wr.cell? (adr ao j) = some (Byt (bt g j)) := ext_cell hex (Hcell.out j _ (byt_map g j (by omega)))
              by_cases hb : bt g j = 0
              · have Hz : Hid (∀ m, m < j + 1 → bt g m = 0) := Lib.hid (fun m hm => by
                  by_cases e : m = j
                  · subst e; exact hb
                  · exact hz.out m (by omega))
                rw [hb] at hck
                clear hb
                go_wp2
                first
                  | exact ⟨⟨j + 1, by omega, by first | go_num | omega, Hz⟩, by simp [intOf] <;> omega⟩
                  | (go_roundw
                     case rel => exact ⟨j + 1, by omega, by first | go_num | omega, Hz⟩
                     case measure => simp [intOf] <;> omega)
              · have hbn : ((((bt g j).toNat : Int)) != 0) = true := by
                  rw [bne_iff_ne]
                  intro e
                  exact hb (UInt8.toNat_inj.1 (by rw [show (0 : UInt8).toNat = 0 from rfl]; omega))
                have hR4 := Lib.hid (show refD A t = ([], 4) by
                  rw [hR.out, if_neg]
                  intro ha
                  have := List.all_eq_true.1 ha (bt g j) (by rw [bt_get g j (by omega)]; exact List.getElem_mem _)
                  exact hb (by simpa using this))
                generalize bt g j = c at *
                clear hb
                go_wp2
                go_ret2
                exact ⟨.slice none 0 0, by rw [hr.out, hR4.out]; rfl, by rw [hr.out, hR4.out]; exact World.ownsRow_nil _ _ _ _, hext.trans (hex.mono hext.size)⟩
            · obtain rfl : j = n := by omega
              have hR4 := Lib.hid (show refD A t = (outsN B k, 0) by
                rw [hR.out, if_pos]
                refine List.all_eq_true.2 fun x hx => ?_
                obtain ⟨m, hm, rfl⟩ := List.mem_iff_getElem.1 hx
                have := hz.out m (by omega)
                rw [bt_get g m hm] at this
                simp [this])
              go_wp2
              go_ret2
              refine ⟨_, by rw [hr.out, hR4.out]; rfl, ?_, hext.trans (hex.mono hext.size)⟩
              rw [hr.out, hR4.out, show (outsN B k).length = k by simp [outsN]]
              exact own_base Hown3.out hext.size
end Go.Proofs.YtjkbigecejogdaaGreatDoor

namespace Go.Proofs.YtjkbigecejogdaaGreatDoor
open Go.RowKit
set_option linter.unusedVariables false
set_option linter.unusedSimpArgs false

set_option maxHeartbeats 4000000 in
theorem refDecode_p1 (l : List UInt8) (w : World) (hl : l.length ≤ 10000) (h1 : l.length % 4 = 0) (e0 : 4 ≤ l.length) (e1 : bt l (l.length - 1) = 61) (e2 : bt l (l.length - 2) ≠ 61) :
    Calls Tryz.prog 93 #[Str l, .bool false] w fun e w' => ∃ v, e = .returned (.tuple #[v, .int .i64 ((refDF false l).2 : Int)]) ∧ w'.ownsRow w.heap.size 5 1 v (refDF false l).1.length ((refDF false l).1.map Byt) ∧ Ext w w' := by
  have hf := Lib.hid (show refDF false l = if l.length % 4 = 0 then refD plain (trimN l 2) else ([], 2) from rfl)
  rw [if_pos h1] at hf
  have t2 : trimN l 2 = trim (trim l) := rfl
  have hixl : ∀ i, i < l.length → ∀ W, (Instr.index 9 (Str l) (.int .i64 (i : Int))).run Tryz.prog W = .ok (Byt (bt l i)) W := fun i hi W => run_index_str Tryz.underlying9 l i _ rfl hi W
  obtain ⟨t, ht⟩ : ∃ t, t = l.take (l.length - 1) := ⟨_, rfl⟩
  have htL : t.length = l.length - 1 := by rw [ht]; simp
  have htb : ∀ i, i < t.length → bt t i = bt l i := fun i hi => by
    rw [bt_get t i hi, bt_get l i (by omega)]
    subst ht; simp
  have htr : trimN l 2 = t := by
    have h2 : trim l = t := by rw [ht]; exact if_pos ⟨by omega, e1⟩
    have h3 : trim t = t := if_neg (fun h => e2 (by rw [← h.2, htb _ (by omega), htL]; congr 1))
    rw [t2, h2, h3]
  have htl : ∀ i, i < t.length → ∀ W, (Instr.index 9 (Str l) (.int .i64 (i : Int))).run Tryz.prog W = .ok (Byt (bt t i)) W := fun i hi W => by rw [htb i hi]; exact hixl i (by omega) W
  have ht6 : (l.length : Int) - 1 = (t.length : Int) := by omega
  have ht3 : t.length ≤ 10000 := by omega
  have hx1 : ∀ W, (Instr.index 9 (Str l) (.int .i64 ((l.length : Int) - 1))).run Tryz.prog W = .ok (.int .u8 61) W := fun W => by
    have := hixl (l.length - 1) (by omega) W
    rw [e1] at this
    rwa [show ((l.length - 1 : Nat) : Int) = (l.length : Int) - 1 by omega] at this
  have hx2 : ∀ W, (Instr.index 9 (Str l) (.int .i64 ((l.length : Int) - 1 - 1))).run Tryz.prog W = .ok (Byt (bt l (l.length - 2))) W := fun W => by
    have := hixl (l.length - 2) (by omega) W
    rwa [show ((l.length - 2 : Nat) : Int) = (l.length : Int) - 1 - 1 by omega] at this
  have hb2 : ((bt l (l.length - 2)).toNat : Int) ≠ 61 := fun e => e2 (UInt8.toNat_inj.1 (by rw [show (61 : UInt8).toNat = 61 from rfl]; omega))
  generalize bt l (l.length - 2) = c2 at *
  have hb0 : (((l.length : Int) % 4) != 0) = false := by simp; omega
  have hbp : decide (0 < (l.length : Int)) = true := by simp; omega
  have hbq : ((((l.length : Int) - 1) % 4) == 1) = false := by simp; omega
  have hbc : ((c2.toNat : Int) == 61) = false := by simpa using hb2
  rw [htr] at hf
  have hr := hf
  clear hf htr hixl t2 e1 e2 htb ht htL
  obtain ⟨A, hA⟩ : ∃ A, A = plain := ⟨_, rfl⟩
  rw [← hA] at hr
  have Hnum := Lib.hid (fun c W => number_any false c W)
  rw [show alph false = A from hA.symm] at Hnum
  have HT := Lib.hid htl
  have h6 := Lib.hid ht6
  clear htl ht6 hA
  go_enter Tryz.func93, Tryz.ntmps93
  go_wp2
  rw [h6.out]
  go_loopw [7, 8] (fun b i wr => ∃ k : Nat, k ≤ t.length ∧ i = .int .i64 k ∧ wr.ownsRow w.heap.size 5 1 b (6 * k) ((bitsL A (t.take k)).map Byt) ∧ okL A (t.take k) = true ∧ Ext w wr) (fun _ i _ => t.length - (intOf i).toNat)
  case atStart => exact ⟨0, by omega, rfl, World.ownsRow_nil _ _ _ _, rfl, Below.refl _ _⟩
  case round =>
    obtain ⟨k, hk, rfl, hown, hok, hext⟩ := hrel
    have Hown := Lib.hid hown; have Hok := Lib.hid hok; clear hown hok
    by_cases h3 : k < t.length
    · have hix := HT.out k h3
      have hok2 := okL_snoc A (t.take k) (bt t k)
      have hb2 := bitsL_snoc A (t.take k) (bt t k)
      rw [← take_snoc t k h3, Hok.out, Bool.true_and] at hok2
      rw [← take_snoc t k h3] at hb2
      have Hok2 := Lib.hid hok2; have Hb2 := Lib.hid hb2; clear hok2 hb2
      have hnum := Lib.hid (Hnum.out (bt t k))
      have hv := valL_range A (bt t k)
      have hc := (bt t k).toNat_lt
      generalize bt t k = c at *
      generalize valL A c = v at *
      rcases (show v = -1 ∨ 0 ≤ v by omega) with hneg | hpos
      · subst hneg
        have hbad := Lib.hid (show refD A t = ([], 5) from if_neg (by rw [okL_take A t (k + 1) Hok2.out]; simp))
        go_wp2_with (go_at_call 108; refine (hnum.out _).mono ?_; rintro e W3 ⟨rfl, rfl⟩)
        go_ret2
        exact ⟨.slice none 0 0, by rw [hr.out, hbad.out]; rfl, by rw [hr.out, hbad.out]; exact World.ownsRow_nil _ _ _ _, hext⟩
      · obtain ⟨x, rfl⟩ := Int.eq_ofNat_of_zero_le hpos
        rw [Int.toNat_natCast] at Hb2
        go_wp2_with (go_at_call 108; refine (hnum.out _).mono ?_; rintro e W3 ⟨rfl, rfl⟩)
        go_loopw [7, 10] (fun b j wr => ∃ m : Nat, m ≤ 6 ∧ j = .int .i64 (5 - (m : Int)) ∧ wr.ownsRow w.heap.size 5 1 b (6 * k + m) ((bitsL A (t.take k) ++ (six x).take m).map Byt) ∧ Ext w wr) (fun _ j _ => ((intOf j) + 1).toNat)
        case atStart => exact ⟨0, by omega, rfl, by simpa using Hown.out, hext⟩
        case round =>
          obtain ⟨m, hm, rfl, hown, hext⟩ := hrel
          have Hown2 := Lib.hid hown; clear hown
          by_cases hm6 : m < 6
          · obtain ⟨r, hr5⟩ : ∃ r : Nat, r = 5 - m := ⟨_, rfl⟩
            rw [show (5 - (m : Int)) = (r : Int) by omega]
            have hst := Lib.hid (six_take x m hm6)
            rw [← hr5] at hst
            have hm5 := Lib.hid (show m = 5 - r ∧ r ≤ 5 by omega)
            have hr6 : r ≤ 5 := by omega
            have hkm : 6 * k + m ≤ 70000 := by omega
            have hx : x / 2 ^ r < 1000000000000 := Nat.lt_of_le_of_lt (Nat.div_le_self _ _) (by omega)
            have hand := and_num 1 1 1 (x / 2 ^ r) hx rfl rfl (by omega)
            rw [Int.natCast_ediv, Int.natCast_pow, show ((2 : Nat) : Int) = 2 from rfl, Nat.pow_one] at hand
            have hy : x / 2 ^ r % 2 < 2 := Nat.mod_lt _ (by omega)
            have hyb := Lib.hid (bit_nat (x / 2 ^ r))
            generalize x / 2 ^ r % 2 = y at *
            have hu := Lib.hid (show Value.int .u8 (y : Int) = Byt (UInt8.ofNat y) by simp only [Byt, hyb.out])
            clear hx hr5 hm6 hm
            go_wp2_with (at_builtin; refine wpList_push w.heap.size rfl _ _ 25 5 rfl Tryz.underlying25 infoByte rfl (by omega) Hown2.out _ rfl (by omega) hext.size rfl rfl ?_; rintro _ w1 ⟨g1, cap1, rfl⟩ hown1 hgr1; have hex1 := Lib.hid (ext_push hext Hown2.out hgr1); rw [hu.out] at hown1; have Hown1 := Lib.hid hown1; clear hown1 hgr1)
            refine ⟨⟨m + 1, by have := hm5.out; omega, by have := hm5.out; first | go_num | (congr 1; omega), ?_, hex1.out⟩, by simp [intOf] <;> omega⟩
            rw [hst.out, ← List.append_assoc, List.map_append]
            exact Hown1.out
          · obtain rfl : m = 6 := by omega
            rw [List.take_of_length_le (show (six x).length ≤ 6 by rw [six_len]; omega), ← Hb2.out] at Hown2
            go_wp2
            first
              | exact ⟨⟨k + 1, by omega, by first | go_num | omega, Hown2.out, Hok2.out, hext⟩, by simp [intOf] <;> omega⟩
              | (go_roundw
                 case rel => exact ⟨k + 1, by omega, by first | go_num | omega, Hown2.out, Hok2.out, hext⟩
                 case measure => simp [intOf] <;> omega)
    · have hkt : k = t.length := by omega
      rw [hkt, List.take_length] at Hown Hok
      clear hk hkt
      have hBl := bitsL_len A t
      have hbit := Lib.hid (bitsL_bit A t)
      have hR := Lib.hid (show refD A t = if ((bitsL A t).drop (8 * ((bitsL A t).length / 8))).all (· == 0) then (outsN (bitsL A t) ((bitsL A t).length / 8), 0) else ([], 4) from if_pos Hok.out)
      rw [← hBl] at Hown
      have hB2 : (bitsL A t).length ≤ 60000 := by omega
      clear hBl
      generalize bitsL A t = B at *
      have hsB := Lib.hid (sl_of_own Hown.out)
      generalize wr = W1 at *
      go_wp2
      go_loopw [7, 11] (fun b o W => ∃ k : Nat, 8 * k ≤ B.length ∧ SlB W1 b (B.drop (8 * k)) ∧ W.ownsRow W1.heap.size 5 1 o k ((outsN B k).map Byt) ∧ Ext W1 W) (fun b _ _ => sliceLen b)
      case atStart => exact ⟨0, by omega, by simpa using hsB.out, World.ownsRow_nil _ _ _ _, Below.refl _ _⟩
      case round =>
        obtain ⟨k, hk, hsl, hown, hex⟩ := hrel
        have Hsl := Lib.hid hsl; have Hown3 := Lib.hid hown; clear hown
        obtain ⟨ao, cap, rfl, hcap, hmax, hnil, hcell⟩ := hsl
        have hnl : ((B.drop (8 * k)).map Byt).length = B.length - 8 * k := by simp
        rw [hnl] at hcap Hsl ⊢
        have Hcell := Lib.hid hcell; clear hcell
        by_cases h8 : 8 ≤ B.length - 8 * k
        · have hs8 := Hsl.out.headm (k := 8) (by rw [hnl]; exact h8)
          rw [← List.map_take] at hs8
          have hrun : ∀ W, (Instr.slice 25 (.slice ao (B.length - 8 * k) cap) none (some (.int .i64 8)) none).run Tryz.prog W = .ok (headm (.slice ao (B.length - 8 * k) cap) 8) W := fun W => run_headm (P := Tryz.prog) Tryz.underlying25 Tryz.sizeOf5 (ao := ao) hcap W 8 h8
          have hrun2 : ∀ W, (Instr.slice 25 (.slice ao (B.length - 8 * k) cap) (some (.int .i64 8)) none none).run Tryz.prog W = .ok (resl (.slice ao (B.length - 8 * k) cap) 8) W := fun W => run_resl (P := Tryz.prog) Tryz.underlying25 Tryz.sizeOf5 W 8 h8
          have hos := Lib.hid (outsN_succ B k)
          have hg8 : ((B.drop (8 * k)).take 8).length = 8 := by simp; omega
          have hgb : ∀ x ∈ (B.drop (8 * k)).take 8, x.toNat ≤ 1 := fun x hx => hbit.out x (List.mem_of_mem_drop (List.mem_of_mem_take hx))
          have hs9 := Hsl.out.resl (k := 8) (by rw [hnl]; exact h8)
          rw [← List.map_drop, List.drop_drop, show 8 * k + 8 = 8 * (k + 1) by omega] at hs9
          have Hs9 := Lib.hid hs9; clear hs9
          obtain ⟨ah, hah⟩ : ∃ ah, headm (.slice ao (B.length - 8 * k) cap) 8 = .slice ah 8 cap := ⟨_, rfl⟩
          rw [hah] at hs8 hrun
          obtain ⟨ah', cap', hve, hcap', _, hnil', hcell'⟩ := hs8
          rw [List.length_map, hg8] at hve hcap'
          cases hve
          have hix := run_index_adr (P := Tryz.prog) Tryz.underlying25 Tryz.sizeOf5 hnil' hcap'
          have HC := Lib.hid hcell'; clear hcell' hah
          obtain ⟨g, hg⟩ : ∃ g, (B.drop (8 * k)).take 8 = g := ⟨_, rfl⟩
          rw [hg] at hos hg8 hgb HC
          clear hg
          have Hgb := Lib.hid hgb; clear hgb
          have hB3 : B.length ≤ 60000 := hB2
          go_wp2
          go_loop [12, 91] (fun b i => ∃ j : Nat, j ≤ 8 ∧ i = .int .i64 j ∧ b = .int .u8 (byteN (g.take j) : Nat)) (fun _ i => 8 - (intOf i).toNat)
          case atStart => exact ⟨0, by omega, rfl, rfl⟩
          case round =>
            obtain ⟨j, hj, rfl, rfl⟩ := hrel
            by_cases hj8 : j < 8
            · have hck : wr.cell? (adr ah j) = some (Byt (bt g j)) := ext_cell hex (HC.out j _ (byt_map g j (by omega)))
              have hlt : byteN (g.take j) < 128 := Nat.lt_of_lt_of_le (byteN_lt _ (fun x hx => Hgb.out x (List.mem_of_mem_take hx))) (Nat.pow_le_pow_right (n := 2) (by omega) (show (g.take j).length ≤ 7 by simp; omega))
              have hs := Lib.hid (byteN_snoc (g.take j) (bt g j)); rw [← take_snoc g j (by omega)] at hs
              have hx1 : (bt g j).toNat ≤ 1 := Hgb.out _ (by rw [bt_get g j (by omega)]; exact List.getElem_mem _)
              generalize byteN (g.take j) = y at *
              generalize bt g j = c at *
              go_wp2
              first
                | exact ⟨⟨j + 1, by omega, by first | go_num | omega, by rw [hs.out]; go_num⟩, by simp [intOf] <;> omega⟩
                | (go_roundw
                   case rel => exact ⟨j + 1, by omega, by first | go_num | omega, by rw [hs.out]; go_num⟩
                   case measure => simp [intOf] <;> omega)
            · obtain rfl : j = 8 := by omega
              rw [List.take_of_length_le (by omega)]
              have hlt : byteN g < 256 := by have := byteN_lt g Hgb.out; rw [hg8] at this; exact this
              have hu := Lib.hid (show Value.int .u8 (byteN g : Int) = Byt (UInt8.ofNat (byteN g)) by simp only [Byt, UInt8.toNat_ofNat']; congr 1; omega)
              generalize byteN g = y at *
              clear hcap' hnil' hix hrun HC
              have hk6 : k ≤ 60000 := by omega
              go_wp2
              go_region_law (try rw [drew_alloc]; refine step_push W1.heap.size rfl _ _ 25 5 rfl Tryz.underlying25 infoByte rfl (by omega) (own_ext Hown3.out (Below.drew (Below.refl _ _))) _ rfl (by omega) hex.size rfl rfl ?_; rintro _ w1 ⟨g1, cap1, rfl⟩ hown1 hgr1; rw [hu.out] at hown1; have Hown1 := Lib.hid hown1; have Hgr1 := Lib.hid hgr1; clear hown1 hgr1)
              have hex1 := Lib.hid (ext_push (Below.drew hex) (own_ext Hown3.out (Below.drew (Below.refl _ _))) Hgr1.out)
              have hsh : ∃ ao' n' cap', resl (.slice ao (B.length - 8 * k) cap) 8 = .slice ao' n' cap' ∧ n' < B.length - 8 * k := ⟨_, _, _, rfl, by omega⟩
              have Hm := Lib.hid (show sliceLen (resl (.slice ao (B.length - 8 * k) cap) 8) < sliceLen (.slice ao (B.length - 8 * k) cap) by show B.length - 8 * k - 8 < B.length - 8 * k; omega)
              clear hsh
              go_simp
              go_wp2
              go_roundw
              case rel => exact ⟨k + 1, by omega, Hs9.out, by rw [hos.out, List.map_append]; exact Hown1.out, hex1.out⟩
              case measure => exact Hm.out
        · have hkN := Lib.hid (show k = B.length / 8 by omega)
          have hrl : B.length - 8 * k < 8 := by omega
          have hix := run_index_adr (P := Tryz.prog) Tryz.underlying25 Tryz.sizeOf5 hnil hcap
          rw [← hkN.out] at hR
          have hne8 : (((B.length - 8 * k : Nat) : Int) ≥ 8) = False := by simp; omega
          have hgl : (B.drop (8 * k)).length = B.length - 8 * k := by simp
          obtain ⟨g, hg⟩ : ∃ g, B.drop (8 * k) = g := ⟨_, rfl⟩
          rw [hg] at hR Hcell hgl
          obtain ⟨n, hn⟩ : ∃ n, B.length - 8 * k = n := ⟨_, rfl⟩
          rw [hn] at hix hrl hgl ⊢
          clear hg hne8
          have Hx := Lib.hid hex
          go_wp2
          go_loop [108] (fun i => ∃ j : Nat, j ≤ n ∧ i = .int .i64 j ∧ Hid (∀ m, m < j → bt g m = 0)) (fun i => n - (intOf i).toNat)
          case atStart => exact ⟨0, by omega, rfl, Lib.hid (fun m h => by omega)⟩
          case round =>
            obtain ⟨j, hj, rfl, hz⟩ := hrel
            by_cases hjn : j < n
            · have hck : wr.cell? (adr ao j) = some (Byt (bt g j)) := ext_cell hex (Hcell.out j _ (byt_map g j (by omega)))
              by_cases hb : bt g j = 0
              · have Hz : Hid (∀ m, m < j + 1 → bt g m = 0) := Lib.hid (fun m hm => by
                  by_cases e : m = j
                  · subst e; exact hb
                  · exact hz.out m (by omega))
                rw [hb] at hck
                clear hb
                go_wp2
                first
                  | exact ⟨⟨j + 1, by omega, by first | go_num | omega, Hz⟩, by simp [intOf] <;> omega⟩
                  | (go_roundw
                     case rel => exact ⟨j + 1, by omega, by first | go_num | omega, Hz⟩
                     case measure => simp [intOf] <;> omega)
              · have hbn : ((((bt g j).toNat : Int)) != 0) = true := by
                  rw [bne_iff_ne]
                  intro e
                  exact hb (UInt8.toNat_inj.1 (by rw [show (0 : UInt8).toNat = 0 from rfl]; omega))
                have hR4 := Lib.hid (show refD A t = ([], 4) by
                  rw [hR.out, if_neg]
                  intro ha
                  have := List.all_eq_true.1 ha (bt g j) (by rw [bt_get g j (by omega)]; exact List.getElem_mem _)
                  exact hb (by simpa using this))
                generalize bt g j = c at *
                clear hb
                go_wp2
                go_ret2
                exact ⟨.slice none 0 0, by rw [hr.out, hR4.out]; rfl, by rw [hr.out, hR4.out]; exact World.ownsRow_nil _ _ _ _, hext.trans (hex.mono hext.size)⟩
            · obtain rfl : j = n := by omega
              have hR4 := Lib.hid (show refD A t = (outsN B k, 0) by
                rw [hR.out, if_pos]
                refine List.all_eq_true.2 fun x hx => ?_
                obtain ⟨m, hm, rfl⟩ := List.mem_iff_getElem.1 hx
                have := hz.out m (by omega)
                rw [bt_get g m hm] at this
                simp [this])
              go_wp2
              go_ret2
              refine ⟨_, by rw [hr.out, hR4.out]; rfl, ?_, hext.trans (hex.mono hext.size)⟩
              rw [hr.out, hR4.out, show (outsN B k).length = k by simp [outsN]]
              exact own_base Hown3.out hext.size
end Go.Proofs.YtjkbigecejogdaaGreatDoor

namespace Go.Proofs.YtjkbigecejogdaaGreatDoor
open Go.RowKit
set_option linter.unusedVariables false
set_option linter.unusedSimpArgs false

set_option maxHeartbeats 4000000 in
theorem refDecode_p2 (l : List UInt8) (w : World) (hl : l.length ≤ 10000) (h1 : l.length % 4 = 0) (e0 : 4 ≤ l.length) (e1 : bt l (l.length - 1) = 61) (e2 : bt l (l.length - 2) = 61) :
    Calls Tryz.prog 93 #[Str l, .bool false] w fun e w' => ∃ v, e = .returned (.tuple #[v, .int .i64 ((refDF false l).2 : Int)]) ∧ w'.ownsRow w.heap.size 5 1 v (refDF false l).1.length ((refDF false l).1.map Byt) ∧ Ext w w' := by
  have hf := Lib.hid (show refDF false l = if l.length % 4 = 0 then refD plain (trimN l 2) else ([], 2) from rfl)
  rw [if_pos h1] at hf
  have t2 : trimN l 2 = trim (trim l) := rfl
  have hixl : ∀ i, i < l.length → ∀ W, (Instr.index 9 (Str l) (.int .i64 (i : Int))).run Tryz.prog W = .ok (Byt (bt l i)) W := fun i hi W => run_index_str Tryz.underlying9 l i _ rfl hi W
  obtain ⟨t, ht⟩ : ∃ t, t = l.take (l.length - 2) := ⟨_, rfl⟩
  have htL : t.length = l.length - 2 := by rw [ht]; simp
  have htb : ∀ i, i < t.length → bt t i = bt l i := fun i hi => by
    rw [bt_get t i hi, bt_get l i (by omega)]
    subst ht; simp
  have htr : trimN l 2 = t := by
    have h2 : trim l = l.take (l.length - 1) := if_pos ⟨by omega, e1⟩
    have hl2 : (l.take (l.length - 1)).length = l.length - 1 := by simp
    have h3 : trim (l.take (l.length - 1)) = t := by
      unfold trim
      rw [if_pos ⟨by rw [hl2]; omega, by
        rw [bt_get _ _ (by rw [hl2]; omega)]
        rw [bt_get _ _ (by omega)] at e2
        simp only [List.getElem_take, hl2]
        rw [← e2]; congr 1⟩, hl2, List.take_take, ht]
      congr 1; omega
    rw [t2, h2, h3]
  have htl : ∀ i, i < t.length → ∀ W, (Instr.index 9 (Str l) (.int .i64 (i : Int))).run Tryz.prog W = .ok (Byt (bt t i)) W := fun i hi W => by rw [htb i hi]; exact hixl i (by omega) W
  have ht6 : (l.length : Int) - 1 - 1 = (t.length : Int) := by omega
  have ht3 : t.length ≤ 10000 := by omega
  have hx1 : ∀ W, (Instr.index 9 (Str l) (.int .i64 ((l.length : Int) - 1))).run Tryz.prog W = .ok (.int .u8 61) W := fun W => by
    have := hixl (l.length - 1) (by omega) W
    rw [e1] at this
    rwa [show ((l.length - 1 : Nat) : Int) = (l.length : Int) - 1 by omega] at this
  have hx2 : ∀ W, (Instr.index 9 (Str l) (.int .i64 ((l.length : Int) - 1 - 1))).run Tryz.prog W = .ok (.int .u8 61) W := fun W => by
    have := hixl (l.length - 2) (by omega) W
    rw [e2] at this
    rwa [show ((l.length - 2 : Nat) : Int) = (l.length : Int) - 1 - 1 by omega] at this
  have hb0 : (((l.length : Int) % 4) != 0) = false := by simp; omega
  have hbp : decide (0 < (l.length : Int)) = true := by simp; omega
  have hbq : ((((l.length : Int) - 1 - 1) % 4) == 1) = false := by simp; omega
  rw [htr] at hf
  have hr := hf
  clear hf htr hixl t2 e1 e2 htb ht htL
  obtain ⟨A, hA⟩ : ∃ A, A = plain := ⟨_, rfl⟩
  rw [← hA] at hr
  have Hnum := Lib.hid (fun c W => number_any false c W)
  rw [show alph false = A from hA.symm] at Hnum
  have HT := Lib.hid htl
  have h6 := Lib.hid ht6
  clear htl ht6 hA
  go_enter Tryz.func93, Tryz.ntmps93
  go_wp2
  rw [h6.out]
  go_loopw [7, 8] (fun b i wr => ∃ k : Nat, k ≤ t.length ∧ i = .int .i64 k ∧ wr.ownsRow w.heap.size 5 1 b (6 * k) ((bitsL A (t.take k)).map Byt) ∧ okL A (t.take k) = true ∧ Ext w wr) (fun _ i _ => t.length - (intOf i).toNat)
  case atStart => exact ⟨0, by omega, rfl, World.ownsRow_nil _ _ _ _, rfl, Below.refl _ _⟩
  case round =>
    obtain ⟨k, hk, rfl, hown, hok, hext⟩ := hrel
    have Hown := Lib.hid hown; have Hok := Lib.hid hok; clear hown hok
    by_cases h3 : k < t.length
    · have hix := HT.out k h3
      have hok2 := okL_snoc A (t.take k) (bt t k)
      have hb2 := bitsL_snoc A (t.take k) (bt t k)
      rw [← take_snoc t k h3, Hok.out, Bool.true_and] at hok2
      rw [← take_snoc t k h3] at hb2
      have Hok2 := Lib.hid hok2; have Hb2 := Lib.hid hb2; clear hok2 hb2
      have hnum := Lib.hid (Hnum.out (bt t k))
      have hv := valL_range A (bt t k)
      have hc := (bt t k).toNat_lt
      generalize bt t k = c at *
      generalize valL A c = v at *
      rcases (show v = -1 ∨ 0 ≤ v by omega) with hneg | hpos
      · subst hneg
        have hbad := Lib.hid (show refD A t = ([], 5) from if_neg (by rw [okL_take A t (k + 1) Hok2.out]; simp))
        go_wp2_with (go_at_call 108; refine (hnum.out _).mono ?_; rintro e W3 ⟨rfl, rfl⟩)
        go_ret2
        exact ⟨.slice none 0 0, by rw [hr.out, hbad.out]; rfl, by rw [hr.out, hbad.out]; exact World.ownsRow_nil _ _ _ _, hext⟩
      · obtain ⟨x, rfl⟩ := Int.eq_ofNat_of_zero_le hpos
        rw [Int.toNat_natCast] at Hb2
        go_wp2_with (go_at_call 108; refine (hnum.out _).mono ?_; rintro e W3 ⟨rfl, rfl⟩)
        go_loopw [7, 10] (fun b j wr => ∃ m : Nat, m ≤ 6 ∧ j = .int .i64 (5 - (m : Int)) ∧ wr.ownsRow w.heap.size 5 1 b (6 * k + m) ((bitsL A (t.take k) ++ (six x).take m).map Byt) ∧ Ext w wr) (fun _ j _ => ((intOf j) + 1).toNat)
        case atStart => exact ⟨0, by omega, rfl, by simpa using Hown.out, hext⟩
        case round =>
          obtain ⟨m, hm, rfl, hown, hext⟩ := hrel
          have Hown2 := Lib.hid hown; clear hown
          by_cases hm6 : m < 6
          · obtain ⟨r, hr5⟩ : ∃ r : Nat, r = 5 - m := ⟨_, rfl⟩
            rw [show (5 - (m : Int)) = (r : Int) by omega]
            have hst := Lib.hid (six_take x m hm6)
            rw [← hr5] at hst
            have hm5 := Lib.hid (show m = 5 - r ∧ r ≤ 5 by omega)
            have hr6 : r ≤ 5 := by omega
            have hkm : 6 * k + m ≤ 70000 := by omega
            have hx : x / 2 ^ r < 1000000000000 := Nat.lt_of_le_of_lt (Nat.div_le_self _ _) (by omega)
            have hand := and_num 1 1 1 (x / 2 ^ r) hx rfl rfl (by omega)
            rw [Int.natCast_ediv, Int.natCast_pow, show ((2 : Nat) : Int) = 2 from rfl, Nat.pow_one] at hand
            have hy : x / 2 ^ r % 2 < 2 := Nat.mod_lt _ (by omega)
            have hyb := Lib.hid (bit_nat (x / 2 ^ r))
            generalize x / 2 ^ r % 2 = y at *
            have hu := Lib.hid (show Value.int .u8 (y : Int) = Byt (UInt8.ofNat y) by simp only [Byt, hyb.out])
            clear hx hr5 hm6 hm
            go_wp2_with (at_builtin; refine wpList_push w.heap.size rfl _ _ 25 5 rfl Tryz.underlying25 infoByte rfl (by omega) Hown2.out _ rfl (by omega) hext.size rfl rfl ?_; rintro _ w1 ⟨g1, cap1, rfl⟩ hown1 hgr1; have hex1 := Lib.hid (ext_push hext Hown2.out hgr1); rw [hu.out] at hown1; have Hown1 := Lib.hid hown1; clear hown1 hgr1)
            refine ⟨⟨m + 1, by have := hm5.out; omega, by have := hm5.out; first | go_num | (congr 1; omega), ?_, hex1.out⟩, by simp [intOf] <;> omega⟩
            rw [hst.out, ← List.append_assoc, List.map_append]
            exact Hown1.out
          · obtain rfl : m = 6 := by omega
            rw [List.take_of_length_le (show (six x).length ≤ 6 by rw [six_len]; omega), ← Hb2.out] at Hown2
            go_wp2
            first
              | exact ⟨⟨k + 1, by omega, by first | go_num | omega, Hown2.out, Hok2.out, hext⟩, by simp [intOf] <;> omega⟩
              | (go_roundw
                 case rel => exact ⟨k + 1, by omega, by first | go_num | omega, Hown2.out, Hok2.out, hext⟩
                 case measure => simp [intOf] <;> omega)
    · have hkt : k = t.length := by omega
      rw [hkt, List.take_length] at Hown Hok
      clear hk hkt
      have hBl := bitsL_len A t
      have hbit := Lib.hid (bitsL_bit A t)
      have hR := Lib.hid (show refD A t = if ((bitsL A t).drop (8 * ((bitsL A t).length / 8))).all (· == 0) then (outsN (bitsL A t) ((bitsL A t).length / 8), 0) else ([], 4) from if_pos Hok.out)
      rw [← hBl] at Hown
      have hB2 : (bitsL A t).length ≤ 60000 := by omega
      clear hBl
      generalize bitsL A t = B at *
      have hsB := Lib.hid (sl_of_own Hown.out)
      generalize wr = W1 at *
      go_wp2
      go_loopw [7, 11] (fun b o W => ∃ k : Nat, 8 * k ≤ B.length ∧ SlB W1 b (B.drop (8 * k)) ∧ W.ownsRow W1.heap.size 5 1 o k ((outsN B k).map Byt) ∧ Ext W1 W) (fun b _ _ => sliceLen b)
      case atStart => exact ⟨0, by omega, by simpa using hsB.out, World.ownsRow_nil _ _ _ _, Below.refl _ _⟩
      case round =>
        obtain ⟨k, hk, hsl, hown, hex⟩ := hrel
        have Hsl := Lib.hid hsl; have Hown3 := Lib.hid hown; clear hown
        obtain ⟨ao, cap, rfl, hcap, hmax, hnil, hcell⟩ := hsl
        have hnl : ((B.drop (8 * k)).map Byt).length = B.length - 8 * k := by simp
        rw [hnl] at hcap Hsl ⊢
        have Hcell := Lib.hid hcell; clear hcell
        by_cases h8 : 8 ≤ B.length - 8 * k
        · have hs8 := Hsl.out.headm (k := 8) (by rw [hnl]; exact h8)
          rw [← List.map_take] at hs8
          have hrun : ∀ W, (Instr.slice 25 (.slice ao (B.length - 8 * k) cap) none (some (.int .i64 8)) none).run Tryz.prog W = .ok (headm (.slice ao (B.length - 8 * k) cap) 8) W := fun W => run_headm (P := Tryz.prog) Tryz.underlying25 Tryz.sizeOf5 (ao := ao) hcap W 8 h8
          have hrun2 : ∀ W, (Instr.slice 25 (.slice ao (B.length - 8 * k) cap) (some (.int .i64 8)) none none).run Tryz.prog W = .ok (resl (.slice ao (B.length - 8 * k) cap) 8) W := fun W => run_resl (P := Tryz.prog) Tryz.underlying25 Tryz.sizeOf5 W 8 h8
          have hos := Lib.hid (outsN_succ B k)
          have hg8 : ((B.drop (8 * k)).take 8).length = 8 := by simp; omega
          have hgb : ∀ x ∈ (B.drop (8 * k)).take 8, x.toNat ≤ 1 := fun x hx => hbit.out x (List.mem_of_mem_drop (List.mem_of_mem_take hx))
          have hs9 := Hsl.out.resl (k := 8) (by rw [hnl]; exact h8)
          rw [← List.map_drop, List.drop_drop, show 8 * k + 8 = 8 * (k + 1) by omega] at hs9
          have Hs9 := Lib.hid hs9; clear hs9
          obtain ⟨ah, hah⟩ : ∃ ah, headm (.slice ao (B.length - 8 * k) cap) 8 = .slice ah 8 cap := ⟨_, rfl⟩
          rw [hah] at hs8 hrun
          obtain ⟨ah', cap', hve, hcap', _, hnil', hcell'⟩ := hs8
          rw [List.length_map, hg8] at hve hcap'
          cases hve
          have hix := run_index_adr (P := Tryz.prog) Tryz.underlying25 Tryz.sizeOf5 hnil' hcap'
          have HC := Lib.hid hcell'; clear hcell' hah
          obtain ⟨g, hg⟩ : ∃ g, (B.drop (8 * k)).take 8 = g := ⟨_, rfl⟩
          rw [hg] at hos hg8 hgb HC
          clear hg
          have Hgb := Lib.hid hgb; clear hgb
          have hB3 : B.length ≤ 60000 := hB2
          go_wp2
          go_loop [12, 91] (fun b i => ∃ j : Nat, j ≤ 8 ∧ i = .int .i64 j ∧ b = .int .u8 (byteN (g.take j) : Nat)) (fun _ i => 8 - (intOf i).toNat)
          case atStart => exact ⟨0, by omega, rfl, rfl⟩
          case round =>
            obtain ⟨j, hj, rfl, rfl⟩ := hrel
            by_cases hj8 : j < 8
            · have hck : wr.cell? (adr ah j) = some (Byt (bt g j)) := ext_cell hex (HC.out j _ (byt_map g j (by omega)))
              have hlt : byteN (g.take j) < 128 := Nat.lt_of_lt_of_le (byteN_lt _ (fun x hx => Hgb.out x (List.mem_of_mem_take hx))) (Nat.pow_le_pow_right (n := 2) (by omega) (show (g.take j).length ≤ 7 by simp; omega))
              have hs := Lib.hid (byteN_snoc (g.take j) (bt g j)); rw [← take_snoc g j (by omega)] at hs
              have hx1 : (bt g j).toNat ≤ 1 := Hgb.out _ (by rw [bt_get g j (by omega)]; exact List.getElem_mem _)
              generalize byteN (g.take j) = y at *
              generalize bt g j = c at *
              go_wp2
              first
                | exact ⟨⟨j + 1, by omega, by first | go_num | omega, by rw [hs.out]; go_num⟩, by simp [intOf] <;> omega⟩
                | (go_roundw
                   case rel => exact ⟨j + 1, by omega, by first | go_num | omega, by rw [hs.out]; go_num⟩
                   case measure => simp [intOf] <;> omega)
            · obtain rfl : j = 8 := by omega
              rw [List.take_of_length_le (by omega)]
              have hlt : byteN g < 256 := by have := byteN_lt g Hgb.out; rw [hg8] at this; exact this
              have hu := Lib.hid (show Value.int .u8 (byteN g : Int) = Byt (UInt8.ofNat (byteN g)) by simp only [Byt, UInt8.toNat_ofNat']; congr 1; omega)
              generalize byteN g = y at *
              clear hcap' hnil' hix hrun HC
              have hk6 : k ≤ 60000 := by omega
              go_wp2
              go_region_law (try rw [drew_alloc]; refine step_push W1.heap.size rfl _ _ 25 5 rfl Tryz.underlying25 infoByte rfl (by omega) (own_ext Hown3.out (Below.drew (Below.refl _ _))) _ rfl (by omega) hex.size rfl rfl ?_; rintro _ w1 ⟨g1, cap1, rfl⟩ hown1 hgr1; rw [hu.out] at hown1; have Hown1 := Lib.hid hown1; have Hgr1 := Lib.hid hgr1; clear hown1 hgr1)
              have hex1 := Lib.hid (ext_push (Below.drew hex) (own_ext Hown3.out (Below.drew (Below.refl _ _))) Hgr1.out)
              have hsh : ∃ ao' n' cap', resl (.slice ao (B.length - 8 * k) cap) 8 = .slice ao' n' cap' ∧ n' < B.length - 8 * k := ⟨_, _, _, rfl, by omega⟩
              have Hm := Lib.hid (show sliceLen (resl (.slice ao (B.length - 8 * k) cap) 8) < sliceLen (.slice ao (B.length - 8 * k) cap) by show B.length - 8 * k - 8 < B.length - 8 * k; omega)
              clear hsh
              go_simp
              go_wp2
              go_roundw
              case rel => exact ⟨k + 1, by omega, Hs9.out, by rw [hos.out, List.map_append]; exact Hown1.out, hex1.out⟩
              case measure => exact Hm.out
        · have hkN := Lib.hid (show k = B.length / 8 by omega)
          have hrl : B.length - 8 * k < 8 := by omega
          have hix := run_index_adr (P := Tryz.prog) Tryz.underlying25 Tryz.sizeOf5 hnil hcap
          rw [← hkN.out] at hR
          have hne8 : (((B.length - 8 * k : Nat) : Int) ≥ 8) = False := by simp; omega
          have hgl : (B.drop (8 * k)).length = B.length - 8 * k := by simp
          obtain ⟨g, hg⟩ : ∃ g, B.drop (8 * k) = g := ⟨_, rfl⟩
          rw [hg] at hR Hcell hgl
          obtain ⟨n, hn⟩ : ∃ n, B.length - 8 * k = n := ⟨_, rfl⟩
          rw [hn] at hix hrl hgl ⊢
          clear hg hne8
          have Hx := Lib.hid hex
          go_wp2
          go_loop [108] (fun i => ∃ j : Nat, j ≤ n ∧ i = .int .i64 j ∧ Hid (∀ m, m < j → bt g m = 0)) (fun i => n - (intOf i).toNat)
          case atStart => exact ⟨0, by omega, rfl, Lib.hid (fun m h => by omega)⟩
          case round =>
            obtain ⟨j, hj, rfl, hz⟩ := hrel
            by_cases hjn : j < n
            · have hck : wr.cell? (adr ao j) = some (Byt (bt g j)) := ext_cell hex (Hcell.out j _ (byt_map g j (by omega)))
              by_cases hb : bt g j = 0
              · have Hz : Hid (∀ m, m < j + 1 → bt g m = 0) := Lib.hid (fun m hm => by
                  by_cases e : m = j
                  · subst e; exact hb
                  · exact hz.out m (by omega))
                rw [hb] at hck
                clear hb
                go_wp2
                first
                  | exact ⟨⟨j + 1, by omega, by first | go_num | omega, Hz⟩, by simp [intOf] <;> omega⟩
                  | (go_roundw
                     case rel => exact ⟨j + 1, by omega, by first | go_num | omega, Hz⟩
                     case measure => simp [intOf] <;> omega)
              · have hbn : ((((bt g j).toNat : Int)) != 0) = true := by
                  rw [bne_iff_ne]
                  intro e
                  exact hb (UInt8.toNat_inj.1 (by rw [show (0 : UInt8).toNat = 0 from rfl]; omega))
                have hR4 := Lib.hid (show refD A t = ([], 4) by
                  rw [hR.out, if_neg]
                  intro ha
                  have := List.all_eq_true.1 ha (bt g j) (by rw [bt_get g j (by omega)]; exact List.getElem_mem _)
                  exact hb (by simpa using this))
                generalize bt g j = c at *
                clear hb
                go_wp2
                go_ret2
                exact ⟨.slice none 0 0, by rw [hr.out, hR4.out]; rfl, by rw [hr.out, hR4.out]; exact World.ownsRow_nil _ _ _ _, hext.trans (hex.mono hext.size)⟩
            · obtain rfl : j = n := by omega
              have hR4 := Lib.hid (show refD A t = (outsN B k, 0) by
                rw [hR.out, if_pos]
                refine List.all_eq_true.2 fun x hx => ?_
                obtain ⟨m, hm, rfl⟩ := List.mem_iff_getElem.1 hx
                have := hz.out m (by omega)
                rw [bt_get g m hm] at this
                simp [this])
              go_wp2
              go_ret2
              refine ⟨_, by rw [hr.out, hR4.out]; rfl, ?_, hext.trans (hex.mono hext.size)⟩
              rw [hr.out, hR4.out, show (outsN B k).length = k by simp [outsN]]
              exact own_base Hown3.out hext.size
end Go.Proofs.YtjkbigecejogdaaGreatDoor

namespace Go.Proofs.YtjkbigecejogdaaGreatDoor
open Go.RowKit
set_option linter.unusedVariables false
set_option linter.unusedSimpArgs false

set_option maxHeartbeats 4000000 in
theorem refDecode_true (l : List UInt8) (w : World) (hl : l.length ≤ 10000) :
    Calls Tryz.prog 93 #[Str l, .bool true] w fun e w' => ∃ v, e = .returned (.tuple #[v, .int .i64 ((refDF true l).2 : Int)]) ∧ w'.ownsRow w.heap.size 5 1 v (refDF true l).1.length ((refDF true l).1.map Byt) ∧ Ext w w' := by
  have hf := Lib.hid (show refDF true l = if l.length % 4 = 1 then ([], 2) else refD other l from rfl)
  by_cases h1 : l.length % 4 = 1
  · rw [if_pos h1] at hf
    go_enter Tryz.func93, Tryz.ntmps93
    go_wp2
    go_ret2
    exact ⟨.slice none 0 0, by rw [hf.out]; rfl, by rw [hf.out]; exact World.ownsRow_nil _ _ _ _, Below.refl _ _⟩
  · rw [if_neg h1] at hf
    obtain ⟨t, ht⟩ : ∃ t, t = l := ⟨_, rfl⟩
    have htl : ∀ i, i < t.length → ∀ W, (Instr.index 9 (Str l) (.int .i64 (i : Int))).run Tryz.prog W = .ok (Byt (bt t i)) W := fun i hi W => by
      subst ht; exact run_index_str Tryz.underlying9 t i _ rfl (by omega) W
    have ht6 : (l.length : Int) = (t.length : Int) := by rw [ht]
    have hr := Lib.hid (show refDF true l = refD other t by rw [ht, hf.out])
    obtain ⟨A, hA⟩ : ∃ A, A = other := ⟨_, rfl⟩
    rw [← hA] at hr
    have Hnum := Lib.hid (fun c W => number_any true c W)
    rw [show alph true = A from hA.symm] at Hnum
    have HT := Lib.hid htl
    have h6 := Lib.hid ht6
    clear hf htl ht6 hA
    go_enter Tryz.func93, Tryz.ntmps93
    go_wp2
    rw [h6.out]
    have ht3 : t.length ≤ 10000 := by rw [ht]; exact hl
    clear ht
    go_loopw [7, 8] (fun b i wr => ∃ k : Nat, k ≤ t.length ∧ i = .int .i64 k ∧ wr.ownsRow w.heap.size 5 1 b (6 * k) ((bitsL A (t.take k)).map Byt) ∧ okL A (t.take k) = true ∧ Ext w wr) (fun _ i _ => t.length - (intOf i).toNat)
    case atStart => exact ⟨0, by omega, rfl, World.ownsRow_nil _ _ _ _, rfl, Below.refl _ _⟩
    case round =>
      obtain ⟨k, hk, rfl, hown, hok, hext⟩ := hrel
      have Hown := Lib.hid hown; have Hok := Lib.hid hok; clear hown hok
      by_cases h3 : k < t.length
      · have hix := HT.out k h3
        have hok2 := okL_snoc A (t.take k) (bt t k)
        have hb2 := bitsL_snoc A (t.take k) (bt t k)
        rw [← take_snoc t k h3, Hok.out, Bool.true_and] at hok2
        rw [← take_snoc t k h3] at hb2
        have Hok2 := Lib.hid hok2; have Hb2 := Lib.hid hb2; clear hok2 hb2
        have hnum := Lib.hid (Hnum.out (bt t k))
        have hv := valL_range A (bt t k)
        have hc := (bt t k).toNat_lt
        generalize bt t k = c at *
        generalize valL A c = v at *
        rcases (show v = -1 ∨ 0 ≤ v by omega) with hneg | hpos
        · subst hneg
          have hbad := Lib.hid (show refD A t = ([], 5) from if_neg (by rw [okL_take A t (k + 1) Hok2.out]; simp))
          go_wp2_with (go_at_call 108; refine (hnum.out _).mono ?_; rintro e W3 ⟨rfl, rfl⟩)
          go_ret2
          exact ⟨.slice none 0 0, by rw [hr.out, hbad.out]; rfl, by rw [hr.out, hbad.out]; exact World.ownsRow_nil _ _ _ _, hext⟩
        · obtain ⟨x, rfl⟩ := Int.eq_ofNat_of_zero_le hpos
          rw [Int.toNat_natCast] at Hb2
          go_wp2_with (go_at_call 108; refine (hnum.out _).mono ?_; rintro e W3 ⟨rfl, rfl⟩)
          go_loopw [7, 10] (fun b j wr => ∃ m : Nat, m ≤ 6 ∧ j = .int .i64 (5 - (m : Int)) ∧ wr.ownsRow w.heap.size 5 1 b (6 * k + m) ((bitsL A (t.take k) ++ (six x).take m).map Byt) ∧ Ext w wr) (fun _ j _ => ((intOf j) + 1).toNat)
          case atStart => exact ⟨0, by omega, rfl, by simpa using Hown.out, hext⟩
          case round =>
            obtain ⟨m, hm, rfl, hown, hext⟩ := hrel
            have Hown2 := Lib.hid hown; clear hown
            by_cases hm6 : m < 6
            · obtain ⟨r, hr5⟩ : ∃ r : Nat, r = 5 - m := ⟨_, rfl⟩
              rw [show (5 - (m : Int)) = (r : Int) by omega]
              have hst := Lib.hid (six_take x m hm6)
              rw [← hr5] at hst
              have hm5 := Lib.hid (show m = 5 - r ∧ r ≤ 5 by omega)
              have hr6 : r ≤ 5 := by omega
              have hkm : 6 * k + m ≤ 70000 := by omega
              have hx : x / 2 ^ r < 1000000000000 := Nat.lt_of_le_of_lt (Nat.div_le_self _ _) (by omega)
              have hand := and_num 1 1 1 (x / 2 ^ r) hx rfl rfl (by omega)
              rw [Int.natCast_ediv, Int.natCast_pow, show ((2 : Nat) : Int) = 2 from rfl, Nat.pow_one] at hand
              have hy : x / 2 ^ r % 2 < 2 := Nat.mod_lt _ (by omega)
              have hyb := Lib.hid (bit_nat (x / 2 ^ r))
              generalize x / 2 ^ r % 2 = y at *
              have hu := Lib.hid (show Value.int .u8 (y : Int) = Byt (UInt8.ofNat y) by simp only [Byt, hyb.out])
              clear hx hr5 hm6 hm
              go_wp2_with (at_builtin; refine wpList_push w.heap.size rfl _ _ 25 5 rfl Tryz.underlying25 infoByte rfl (by omega) Hown2.out _ rfl (by omega) hext.size rfl rfl ?_; rintro _ w1 ⟨g1, cap1, rfl⟩ hown1 hgr1; have hex1 := Lib.hid (ext_push hext Hown2.out hgr1); rw [hu.out] at hown1; have Hown1 := Lib.hid hown1; clear hown1 hgr1)
              refine ⟨⟨m + 1, by have := hm5.out; omega, by have := hm5.out; first | go_num | (congr 1; omega), ?_, hex1.out⟩, by simp [intOf] <;> omega⟩
              rw [hst.out, ← List.append_assoc, List.map_append]
              exact Hown1.out
            · obtain rfl : m = 6 := by omega
              rw [List.take_of_length_le (show (six x).length ≤ 6 by rw [six_len]; omega), ← Hb2.out] at Hown2
              go_wp2
              first
                | exact ⟨⟨k + 1, by omega, by first | go_num | omega, Hown2.out, Hok2.out, hext⟩, by simp [intOf] <;> omega⟩
                | (go_roundw
                   case rel => exact ⟨k + 1, by omega, by first | go_num | omega, Hown2.out, Hok2.out, hext⟩
                   case measure => simp [intOf] <;> omega)
      · have hkt : k = t.length := by omega
        rw [hkt, List.take_length] at Hown Hok
        clear hk hkt
        have hBl := bitsL_len A t
        have hbit := Lib.hid (bitsL_bit A t)
        have hR := Lib.hid (show refD A t = if ((bitsL A t).drop (8 * ((bitsL A t).length / 8))).all (· == 0) then (outsN (bitsL A t) ((bitsL A t).length / 8), 0) else ([], 4) from if_pos Hok.out)
        rw [← hBl] at Hown
        have hB2 : (bitsL A t).length ≤ 60000 := by omega
        clear hBl
        generalize bitsL A t = B at *
        have hsB := Lib.hid (sl_of_own Hown.out)
        generalize wr = W1 at *
        go_wp2
        go_loopw [7, 11] (fun b o W => ∃ k : Nat, 8 * k ≤ B.length ∧ SlB W1 b (B.drop (8 * k)) ∧ W.ownsRow W1.heap.size 5 1 o k ((outsN B k).map Byt) ∧ Ext W1 W) (fun b _ _ => sliceLen b)
        case atStart => exact ⟨0, by omega, by simpa using hsB.out, World.ownsRow_nil _ _ _ _, Below.refl _ _⟩
        case round =>
          obtain ⟨k, hk, hsl, hown, hex⟩ := hrel
          have Hsl := Lib.hid hsl; have Hown3 := Lib.hid hown; clear hown
          obtain ⟨ao, cap, rfl, hcap, hmax, hnil, hcell⟩ := hsl
          have hnl : ((B.drop (8 * k)).map Byt).length = B.length - 8 * k := by simp
          rw [hnl] at hcap Hsl ⊢
          have Hcell := Lib.hid hcell; clear hcell
          by_cases h8 : 8 ≤ B.length - 8 * k
          · have hs8 := Hsl.out.headm (k := 8) (by rw [hnl]; exact h8)
            rw [← List.map_take] at hs8
            have hrun : ∀ W, (Instr.slice 25 (.slice ao (B.length - 8 * k) cap) none (some (.int .i64 8)) none).run Tryz.prog W = .ok (headm (.slice ao (B.length - 8 * k) cap) 8) W := fun W => run_headm (P := Tryz.prog) Tryz.underlying25 Tryz.sizeOf5 (ao := ao) hcap W 8 h8
            have hrun2 : ∀ W, (Instr.slice 25 (.slice ao (B.length - 8 * k) cap) (some (.int .i64 8)) none none).run Tryz.prog W = .ok (resl (.slice ao (B.length - 8 * k) cap) 8) W := fun W => run_resl (P := Tryz.prog) Tryz.underlying25 Tryz.sizeOf5 W 8 h8
            have hos := Lib.hid (outsN_succ B k)
            have hg8 : ((B.drop (8 * k)).take 8).length = 8 := by simp; omega
            have hgb : ∀ x ∈ (B.drop (8 * k)).take 8, x.toNat ≤ 1 := fun x hx => hbit.out x (List.mem_of_mem_drop (List.mem_of_mem_take hx))
            have hs9 := Hsl.out.resl (k := 8) (by rw [hnl]; exact h8)
            rw [← List.map_drop, List.drop_drop, show 8 * k + 8 = 8 * (k + 1) by omega] at hs9
            have Hs9 := Lib.hid hs9; clear hs9
            obtain ⟨ah, hah⟩ : ∃ ah, headm (.slice ao (B.length - 8 * k) cap) 8 = .slice ah 8 cap := ⟨_, rfl⟩
            rw [hah] at hs8 hrun
            obtain ⟨ah', cap', hve, hcap', _, hnil', hcell'⟩ := hs8
            rw [List.length_map, hg8] at hve hcap'
            cases hve
            have hix := run_index_adr (P := Tryz.prog) Tryz.underlying25 Tryz.sizeOf5 hnil' hcap'
            have HC := Lib.hid hcell'; clear hcell' hah
            obtain ⟨g, hg⟩ : ∃ g, (B.drop (8 * k)).take 8 = g := ⟨_, rfl⟩
            rw [hg] at hos hg8 hgb HC
            clear hg
            have Hgb := Lib.hid hgb; clear hgb
            have hB3 : B.length ≤ 60000 := hB2
            go_wp2
            go_loop [12, 91] (fun b i => ∃ j : Nat, j ≤ 8 ∧ i = .int .i64 j ∧ b = .int .u8 (byteN (g.take j) : Nat)) (fun _ i => 8 - (intOf i).toNat)
            case atStart => exact ⟨0, by omega, rfl, rfl⟩
            case round =>
              obtain ⟨j, hj, rfl, rfl⟩ := hrel
              by_cases hj8 : j < 8
              · have hck : wr.cell? (adr ah j) = some (Byt (bt g j)) := ext_cell hex (HC.out j _ (byt_map g j (by omega)))
                have hlt : byteN (g.take j) < 128 := Nat.lt_of_lt_of_le (byteN_lt _ (fun x hx => Hgb.out x (List.mem_of_mem_take hx))) (Nat.pow_le_pow_right (n := 2) (by omega) (show (g.take j).length ≤ 7 by simp; omega))
                have hs := Lib.hid (byteN_snoc (g.take j) (bt g j)); rw [← take_snoc g j (by omega)] at hs
                have hx1 : (bt g j).toNat ≤ 1 := Hgb.out _ (by rw [bt_get g j (by omega)]; exact List.getElem_mem _)
                generalize byteN (g.take j) = y at *
                generalize bt g j = c at *
                go_wp2
                first
                  | exact ⟨⟨j + 1, by omega, by first | go_num | omega, by rw [hs.out]; go_num⟩, by simp [intOf] <;> omega⟩
                  | (go_roundw
                     case rel => exact ⟨j + 1, by omega, by first | go_num | omega, by rw [hs.out]; go_num⟩
                     case measure => simp [intOf] <;> omega)
              · obtain rfl : j = 8 := by omega
                rw [List.take_of_length_le (by omega)]
                have hlt : byteN g < 256 := by have := byteN_lt g Hgb.out; rw [hg8] at this; exact this
                have hu := Lib.hid (show Value.int .u8 (byteN g : Int) = Byt (UInt8.ofNat (byteN g)) by simp only [Byt, UInt8.toNat_ofNat']; congr 1; omega)
                generalize byteN g = y at *
                clear hcap' hnil' hix hrun HC
                have hk6 : k ≤ 60000 := by omega
                go_wp2
                go_region_law (try rw [drew_alloc]; refine step_push W1.heap.size rfl _ _ 25 5 rfl Tryz.underlying25 infoByte rfl (by omega) (own_ext Hown3.out (Below.drew (Below.refl _ _))) _ rfl (by omega) hex.size rfl rfl ?_; rintro _ w1 ⟨g1, cap1, rfl⟩ hown1 hgr1; rw [hu.out] at hown1; have Hown1 := Lib.hid hown1; have Hgr1 := Lib.hid hgr1; clear hown1 hgr1)
                have hex1 := Lib.hid (ext_push (Below.drew hex) (own_ext Hown3.out (Below.drew (Below.refl _ _))) Hgr1.out)
                have hsh : ∃ ao' n' cap', resl (.slice ao (B.length - 8 * k) cap) 8 = .slice ao' n' cap' ∧ n' < B.length - 8 * k := ⟨_, _, _, rfl, by omega⟩
                have Hm := Lib.hid (show sliceLen (resl (.slice ao (B.length - 8 * k) cap) 8) < sliceLen (.slice ao (B.length - 8 * k) cap) by show B.length - 8 * k - 8 < B.length - 8 * k; omega)
                clear hsh
                go_simp
                go_wp2
                go_roundw
                case rel => exact ⟨k + 1, by omega, Hs9.out, by rw [hos.out, List.map_append]; exact Hown1.out, hex1.out⟩
                case measure => exact Hm.out
          · have hkN := Lib.hid (show k = B.length / 8 by omega)
            have hrl : B.length - 8 * k < 8 := by omega
            have hix := run_index_adr (P := Tryz.prog) Tryz.underlying25 Tryz.sizeOf5 hnil hcap
            rw [← hkN.out] at hR
            have hne8 : (((B.length - 8 * k : Nat) : Int) ≥ 8) = False := by simp; omega
            have hgl : (B.drop (8 * k)).length = B.length - 8 * k := by simp
            obtain ⟨g, hg⟩ : ∃ g, B.drop (8 * k) = g := ⟨_, rfl⟩
            rw [hg] at hR Hcell hgl
            obtain ⟨n, hn⟩ : ∃ n, B.length - 8 * k = n := ⟨_, rfl⟩
            rw [hn] at hix hrl hgl ⊢
            clear hg hne8
            have Hx := Lib.hid hex
            go_wp2
            go_loop [108] (fun i => ∃ j : Nat, j ≤ n ∧ i = .int .i64 j ∧ Hid (∀ m, m < j → bt g m = 0)) (fun i => n - (intOf i).toNat)
            case atStart => exact ⟨0, by omega, rfl, Lib.hid (fun m h => by omega)⟩
            case round =>
              obtain ⟨j, hj, rfl, hz⟩ := hrel
              by_cases hjn : j < n
              · have hck : wr.cell? (adr ao j) = some (Byt (bt g j)) := ext_cell hex (Hcell.out j _ (byt_map g j (by omega)))
                by_cases hb : bt g j = 0
                · have Hz : Hid (∀ m, m < j + 1 → bt g m = 0) := Lib.hid (fun m hm => by
                    by_cases e : m = j
                    · subst e; exact hb
                    · exact hz.out m (by omega))
                  rw [hb] at hck
                  clear hb
                  go_wp2
                  first
                    | exact ⟨⟨j + 1, by omega, by first | go_num | omega, Hz⟩, by simp [intOf] <;> omega⟩
                    | (go_roundw
                       case rel => exact ⟨j + 1, by omega, by first | go_num | omega, Hz⟩
                       case measure => simp [intOf] <;> omega)
                · have hbn : ((((bt g j).toNat : Int)) != 0) = true := by
                    rw [bne_iff_ne]
                    intro e
                    exact hb (UInt8.toNat_inj.1 (by rw [show (0 : UInt8).toNat = 0 from rfl]; omega))
                  have hR4 := Lib.hid (show refD A t = ([], 4) by
                    rw [hR.out, if_neg]
                    intro ha
                    have := List.all_eq_true.1 ha (bt g j) (by rw [bt_get g j (by omega)]; exact List.getElem_mem _)
                    exact hb (by simpa using this))
                  generalize bt g j = c at *
                  clear hb
                  go_wp2
                  go_ret2
                  exact ⟨.slice none 0 0, by rw [hr.out, hR4.out]; rfl, by rw [hr.out, hR4.out]; exact World.ownsRow_nil _ _ _ _, hext.trans (hex.mono hext.size)⟩
              · obtain rfl : j = n := by omega
                have hR4 := Lib.hid (show refD A t = (outsN B k, 0) by
                  rw [hR.out, if_pos]
                  refine List.all_eq_true.2 fun x hx => ?_
                  obtain ⟨m, hm, rfl⟩ := List.mem_iff_getElem.1 hx
                  have := hz.out m (by omega)
                  rw [bt_get g m hm] at this
                  simp [this])
                go_wp2
                go_ret2
                refine ⟨_, by rw [hr.out, hR4.out]; rfl, ?_, hext.trans (hex.mono hext.size)⟩
                rw [hr.out, hR4.out, show (outsN B k).length = k by simp [outsN]]
                exact own_base Hown3.out hext.size
end Go.Proofs.YtjkbigecejogdaaGreatDoor

namespace Go.Proofs.YtjkbigecejogdaaGreatDoor
open Go.RowKit
set_option linter.unusedVariables false
set_option linter.unusedSimpArgs false

theorem refDecode_any (url : Bool) (l : List UInt8) (w : World) (hl : l.length ≤ 10000) :
    Calls Tryz.prog 93 #[Str l, .bool url] w fun e w' => ∃ v, e = .returned (.tuple #[v, .int .i64 ((refDF url l).2 : Int)]) ∧ w'.ownsRow w.heap.size 5 1 v (refDF url l).1.length ((refDF url l).1.map Byt) ∧ Ext w w' := by
  cases url with
  | true => exact refDecode_true l w hl
  | false =>
    by_cases h1 : l.length % 4 = 0
    · by_cases e0 : l.length = 0
      · obtain rfl : l = [] := List.eq_nil_of_length_eq_zero e0
        have hR := Lib.hid (show refDF false [] = ([], 0) by decide)
        have hb : decide (0 < (([] : List UInt8).length : Int)) = false := by decide
        clear h1 e0
        go_enter Tryz.func93, Tryz.ntmps93
        go_wp2
        go_loop [7, 8] (fun b i => b = .slice none 0 0 ∧ i = .int .i64 0) (fun _ _ => 0)
        case atStart => exact ⟨rfl, rfl⟩
        case round =>
          obtain ⟨rfl, rfl⟩ := hrel
          go_wp2
          go_loop [7, 11] (fun b o => b = .slice none 0 0 ∧ o = .slice none 0 0) (fun _ _ => 0)
          case atStart => exact ⟨rfl, rfl⟩
          case round =>
            obtain ⟨rfl, rfl⟩ := hrel
            go_wp2
            go_loop [108] (fun i => i = .int .i64 0) (fun _ => 0)
            case atStart => rfl
            case round =>
              subst hrel
              go_wp2
              go_ret2
              exact ⟨.slice none 0 0, by rw [hR.out]; rfl, by rw [hR.out]; exact World.ownsRow_nil _ _ _ _, Below.refl _ _⟩
      · by_cases e1 : bt l (l.length - 1) = 61
        · by_cases e2 : bt l (l.length - 2) = 61
          · exact refDecode_p2 l w hl h1 (by omega) e1 e2
          · exact refDecode_p1 l w hl h1 (by omega) e1 e2
        · exact refDecode_p0 l w hl h1 (by omega) e1
    · have hf := Lib.hid (show refDF false l = ([], 2) by rw [refDF]; simp [h1])
      have hb0 : (((l.length : Int) % 4) != 0) = true := by simp; omega
      go_enter Tryz.func93, Tryz.ntmps93
      go_wp2
      go_ret2
      exact ⟨.slice none 0 0, by rw [hf.out]; rfl, by rw [hf.out]; exact World.ownsRow_nil _ _ _ _, Below.refl _ _⟩
theorem refDF_decF (l : List UInt8) : refDF false l = decF l := by
  rw [decF_ref]; rfl
theorem refDF_decU (l : List UInt8) : refDF true l = decU l := by
  rw [decU_ref]; rfl
end Go.Proofs.YtjkbigecejogdaaGreatDoor
