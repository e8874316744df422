/-
  What ref03.Decode answers; the bits of letters in a row.
-/
import Derived.Deep.RegionLaw
import Derived.Test.YtkfhbahgoemnpaaRows
import Derived.Test.YtkfhbahgoemnpaaRfd
namespace Go.Proofs.Ytkfhbahgoemnpaa
open Go.RowKit
set_option linter.unusedVariables false
set_option linter.unusedSimpArgs false

def refDF (url : Bool) (l : List UInt8) : List UInt8 × Nat :=
  if url then (if l.length % 4 = 1 then ([], 2) else refD other l) else (if l.length % 4 = 0 then refD plain (trimN l 2) else ([], 2))
theorem okL_snoc (A t : List UInt8) (c : UInt8) : okL A (t ++ [c]) = (okL A t && (valL A c != -1)) := by simp [okL]
theorem bitsL_snoc (A t : List UInt8) (c : UInt8) : bitsL A (t ++ [c]) = bitsL A t ++ six (valL A c).toNat := by simp [bitsL]
theorem okL_take (A t : List UInt8) (k : Nat) (h : okL A (t.take k) = false) : okL A t = false := by
  cases hg : okL A t with
  | false => rfl
  | true =>
    rw [← h]; simp only [okL, List.all_eq_true] at hg ⊢
    exact (List.all_eq_true.2 fun x hx => hg x (List.mem_of_mem_take hx)).symm
theorem six_take (x m : Nat) (h : m < 6) : (six x).take (m + 1) = (six x).take m ++ [UInt8.ofNat (x / 2 ^ (5 - m) % 2)] := by
  have hl : m < (six x).length := by rw [six_len]; exact h
  rw [List.take_succ_eq_append_getElem hl]
  simp [six]

end Go.Proofs.Ytkfhbahgoemnpaa
