/-
  Plain law: the document's letters, bit by bit, are the letters of groups.
-/
import Derived.Test.YtkfhbahgoemnpaaRfe
import Derived.Test.YtkfhbahgoemnpaaLng
namespace Go.Proofs.Ytkfhbahgoemnpaa
set_option linter.unusedVariables false
set_option linter.unusedSimpArgs false

theorem bt_cons (x : UInt8) (l : List UInt8) (n : Nat) : bt (x :: l) (n + 1) = bt l n := by simp [bt]
theorem bt_zero (x : UInt8) (l : List UInt8) : bt (x :: l) 0 = x := by simp [bt]
theorem bitAt_shift (x y z : UInt8) (l : List UInt8) (i : Nat) : bitAt (x :: y :: z :: l) (i + 24) = bitAt l i := by
  unfold bitAt
  rw [show (i + 24) / 8 = i / 8 + 1 + 1 + 1 by omega, show (i + 24) % 8 = i % 8 by omega, bt_cons, bt_cons, bt_cons]
theorem sixN_shift (x y z : UInt8) (l : List UInt8) (a : Nat) : ∀ k, sixN (x :: y :: z :: l) (a + 24) k = sixN l a k
  | 0 => rfl
  | k + 1 => by
    simp only [sixN]
    rw [sixN_shift x y z l a k, show a + 24 + k = a + k + 24 by omega, bitAt_shift]
theorem sixN_six (l : List UInt8) (a : Nat) : sixN l a 6 = 32 * bitAt l a + 16 * bitAt l (a + 1) + 8 * bitAt l (a + 2) + 4 * bitAt l (a + 3) + 2 * bitAt l (a + 4) + bitAt l (a + 5) := by
  simp only [sixN, Nat.add_zero]
  omega
theorem six0 (l : List UInt8) : sixN l 0 6 = (bt l 0).toNat / 4 := by
  have hx : (bt l 0).toNat < 256 := (bt l 0).toNat_lt
  rw [sixN_six]
  simp only [bitAt, Nat.reduceAdd, Nat.reduceDiv, Nat.reduceMod, Nat.reduceSub, Nat.reducePow, Nat.zero_add, Nat.zero_div, Nat.zero_mod, Nat.sub_zero]
  omega
theorem six1 (l : List UInt8) : sixN l 6 6 = (bt l 0).toNat % 4 * 16 + (bt l 1).toNat / 16 := by
  have hx : (bt l 0).toNat < 256 := (bt l 0).toNat_lt
  have hy : (bt l 1).toNat < 256 := (bt l 1).toNat_lt
  rw [sixN_six]
  simp only [bitAt, Nat.reduceAdd, Nat.reduceDiv, Nat.reduceMod, Nat.reduceSub, Nat.reducePow, Nat.zero_add, Nat.zero_div, Nat.zero_mod, Nat.sub_zero]
  omega
theorem six2 (l : List UInt8) : sixN l 12 6 = (bt l 1).toNat % 16 * 4 + (bt l 2).toNat / 64 := by
  have hx : (bt l 1).toNat < 256 := (bt l 1).toNat_lt
  have hy : (bt l 2).toNat < 256 := (bt l 2).toNat_lt
  rw [sixN_six]
  simp only [bitAt, Nat.reduceAdd, Nat.reduceDiv, Nat.reduceMod, Nat.reduceSub, Nat.reducePow, Nat.zero_add, Nat.zero_div, Nat.zero_mod, Nat.sub_zero]
  omega
theorem six3 (l : List UInt8) : sixN l 18 6 = (bt l 2).toNat % 64 := by
  have hy : (bt l 2).toNat < 256 := (bt l 2).toNat_lt
  rw [sixN_six]
  simp only [bitAt, Nat.reduceAdd, Nat.reduceDiv, Nat.reduceMod, Nat.reduceSub, Nat.reducePow, Nat.zero_add, Nat.zero_div, Nat.zero_mod, Nat.sub_zero]
  omega
theorem pack3 (l : List UInt8) : pack l 3 = (bt l 0).toNat * 65536 + (bt l 1).toNat * 256 + (bt l 2).toNat := by
  simp only [pack]; omega
/-- The k-th letter's number, from the three bytes. -/
theorem pack_six (l : List UInt8) : ∀ k, k < 4 → pack l 3 / 2 ^ (6 * (3 - k)) % 64 = sixN l (6 * k) 6 := by
  intro k hk
  have hx : (bt l 0).toNat < 256 := (bt l 0).toNat_lt
  have hy : (bt l 1).toNat < 256 := (bt l 1).toNat_lt
  have hz : (bt l 2).toNat < 256 := (bt l 2).toNat_lt
  rw [pack3]
  obtain rfl | rfl | rfl | rfl : k = 0 ∨ k = 1 ∨ k = 2 ∨ k = 3 := by omega
  · simp only [Nat.reduceMul, Nat.reduceSub, Nat.reducePow, six0, Nat.mul_zero]; omega
  · simp only [Nat.reduceMul, Nat.reduceSub, Nat.reducePow, six1, Nat.mul_one]; omega
  · simp only [Nat.reduceMul, Nat.reduceSub, Nat.reducePow, six2]; omega
  · simp only [Nat.reduceMul, Nat.reduceSub, Nat.reducePow, six3, Nat.sub_self, Nat.mul_zero, Nat.pow_zero, Nat.div_one]; omega
theorem encL_ref (A t : List UInt8) (h : t.length ≤ 3) : encL A t = refN A t (t.length + 1) := by
  unfold encL refN
  refine List.map_congr_left fun k hk => ?_
  rw [pack_six t k (by have := List.mem_range.1 hk; omega)]
theorem refN_cons (A : List UInt8) (x y z : UInt8) (l : List UInt8) : ∀ n, refN A (x :: y :: z :: l) (n + 4) = encL A [x, y, z] ++ refN A l n
  | 0 => by
    rw [encL_ref A _ (by simp)]
    have h : ∀ k, k < 24 → bitAt (x :: y :: z :: l) k = bitAt [x, y, z] k := by
      intro k hk
      unfold bitAt
      rcases (show k / 8 = 0 ∨ k / 8 = 1 ∨ k / 8 = 2 by omega) with e | e | e <;> rw [e] <;> simp [bt]
    have hs : ∀ j, j < 4 → sixN (x :: y :: z :: l) (6 * j) 6 = sixN [x, y, z] (6 * j) 6 := by
      intro j hj
      rw [sixN_six, sixN_six]
      rw [h _ (by omega), h _ (by omega), h _ (by omega), h _ (by omega), h _ (by omega), h _ (by omega)]
    simp only [refN, List.range_zero, List.map_nil, List.append_nil]
    refine List.map_congr_left fun j hj => ?_
    rw [hs j (by have := List.mem_range.1 hj; simpa using this)]
  | n + 1 => by
    rw [show n + 1 + 4 = (n + 4) + 1 by omega, refN_succ, refN_cons A x y z l n, refN_succ, List.append_assoc, show 6 * (n + 4) = 6 * n + 24 by omega, sixN_shift]
theorem refEnc_nil (A : List UInt8) (f : Bool) : refEnc A f [] = [] := by cases f <;> simp [refEnc, refN]
theorem refEnc_cons (A : List UInt8) (f : Bool) (x y z : UInt8) (l : List UInt8) : refEnc A f (x :: y :: z :: l) = chunk A f [x, y, z] ++ refEnc A f l := by
  have e : (8 * (x :: y :: z :: l).length + 5) / 6 = (8 * l.length + 5) / 6 + 4 := by simp only [List.length_cons]; omega
  have hl : (encL A [x, y, z]).length = 4 := by simp [encL]
  simp only [refEnc]
  rw [e, refN_cons, List.length_append, hl, refN_len]
  rw [show (4 + (8 * l.length + 5) / 6) % 4 = (8 * l.length + 5) / 6 % 4 by omega]
  simp only [chunk, List.length_cons, List.length_nil, Nat.zero_add, Nat.reduceAdd, Nat.sub_self, List.replicate_zero, ite_self, List.append_nil, List.append_assoc]
theorem refEnc_short (A : List UInt8) (f : Bool) (t : List UInt8) (h1 : 0 < t.length) (h3 : t.length < 3) : refEnc A f t = chunk A f t := by
  simp only [refEnc, chunk]
  rw [show (8 * t.length + 5) / 6 = t.length + 1 by omega, ← encL_ref A t (by omega), show (encL A t).length = t.length + 1 by simp [encL]]
  cases f
  · simp
  · simp only [if_true]
    rw [show (4 - (t.length + 1) % 4) % 4 = 3 - t.length by omega]
theorem allL_short (A : List UInt8) (f : Bool) (t : List UInt8) (h1 : 0 < t.length) (h3 : t.length ≤ 3) : allL A f t = chunk A f t := by
  simp only [allL]
  rw [show (t.length + 2) / 3 = 1 by omega]
  simp [allN, List.take_of_length_le h3]
theorem refEnc_all (A : List UInt8) (f : Bool) : ∀ (n : Nat) (l : List UInt8), l.length ≤ n → refEnc A f l = allL A f l
  | 0, l, h => by
    obtain rfl : l = [] := List.eq_nil_of_length_eq_zero (by omega)
    rw [refEnc_nil]; rfl
  | n + 1, l, h => by
    match l, h with
    | [], _ => rw [refEnc_nil]; rfl
    | [x], _ => rw [refEnc_short A f [x] (by simp) (by simp), allL_short A f [x] (by simp) (by simp)]
    | [x, y], _ => rw [refEnc_short A f [x, y] (by simp) (by simp), allL_short A f [x, y] (by simp) (by simp)]
    | x :: y :: z :: l, h =>
      rw [refEnc_cons, allL_cons, refEnc_all A f n l (by simp only [List.length_cons] at h; omega)]
end Go.Proofs.Ytkfhbahgoemnpaa
