/-
  Plain laws: the letters of a row whose first part is of whole groups.
-/
import Derived.Test.YtkfhbahgoemnpaaRows
import Derived.Test.YtkfhbahgoemnpaaAll
import Derived.Test.YtkfhbahgoemnpaaHexr
namespace Go.Proofs.Ytkfhbahgoemnpaa

theorem allN_shift (A : List UInt8) (f : Bool) (x y z : UInt8) (l : List UInt8) : ∀ n, allN A f (x :: y :: z :: l) (n + 1) = chunk A f [x, y, z] ++ allN A f l n
  | 0 => by simp [allN]
  | n + 1 => by
    rw [allN_succ, allN_shift A f x y z l n, allN_succ, List.append_assoc]
    rw [show 3 * (n + 1) = 3 * n + 3 by omega]
    rfl
theorem allL_cons (A : List UInt8) (f : Bool) (x y z : UInt8) (l : List UInt8) : allL A f (x :: y :: z :: l) = chunk A f [x, y, z] ++ allL A f l := by
  unfold allL
  rw [show ((x :: y :: z :: l).length + 2) / 3 = (l.length + 2) / 3 + 1 by simp only [List.length_cons]; omega]
  exact allN_shift A f x y z l _
theorem allL_append (A : List UInt8) (f : Bool) (b : List UInt8) : ∀ (n : Nat) (a : List UInt8), a.length = 3 * n → allL A f (a ++ b) = allL A f a ++ allL A f b
  | 0, a, h => by
    obtain rfl : a = [] := List.eq_nil_of_length_eq_zero (by omega)
    rfl
  | n + 1, a, h => by
    match a, h with
    | x :: y :: z :: a, h =>
      have hn : a.length = 3 * n := by simp only [List.length_cons] at h; omega
      rw [List.cons_append, List.cons_append, List.cons_append, allL_cons, allL_cons, allL_append A f b n a hn, List.append_assoc]
    | [], h => simp at h
    | [_], h => simp only [List.length_cons, List.length_nil] at h; omega
    | [_, _], h => simp only [List.length_cons, List.length_nil] at h; omega
theorem hexL_append (a b : List UInt8) : hexL (a ++ b) = hexL a ++ hexL b := by
  induction a with
  | nil => rfl
  | cons c l ih => simp [hexL, ih]
end Go.Proofs.Ytkfhbahgoemnpaa
