/-
  b64.triples: the iterator's contract.
-/
import Derived.Test.YtjbobblnicnhnaaDoorRows
import Derived.Test.YtjbobblnicnhnaaDoorRange
namespace Go.Proofs.YtjbobblnicnhnaaDoor
open Go.RowKit
attribute [local go_sem] Oper.semAt_some

theorem sblk_resl {v : Value} {n j k : Nat} (h : sblk (resl v j) (n - j) k) : sblk v n k := by
  obtain ⟨h1, h2⟩ := h
  refine ⟨by omega, ?_⟩
  cases v <;> simp only [resl] at h2 <;> try exact h2
  rename_i a n c
  split at h2
  · cases a with
    | none => simp [Value.ownBlock] at h2
    | some a => simpa [Value.ownBlock] using h2
  · cases a with
    | none => simp [Value.ownBlock] at h2
    | some a => simpa [Value.ownBlock, Addr.add, apply_ite Addr.block] using h2
/-- What is left in the iterator's variable behind i rounds. -/
def tripRest (v : Value) (l : List UInt8) : Nat → Value
  | 0 => v
  | i + 1 => resl (tripRest v l i) (min (l.length - 3 * i) 3)
theorem drop_trip (l : List UInt8) (i : Nat) : (l.drop (3 * i)).drop (min (l.length - 3 * i) 3) = l.drop (3 * (i + 1)) := by
  rw [List.drop_drop]
  by_cases h : 3 ≤ l.length - 3 * i
  · rw [show min (l.length - 3 * i) 3 = 3 by omega, show 3 * i + 3 = 3 * (i + 1) by omega]
  · rw [List.drop_of_length_le (by omega), List.drop_of_length_le (by omega)]
def boxLen (w : World) (b : Nat) : Nat := match w.cell? ⟨b, 0, none⟩ with | some (.slice _ n _) => n | _ => 0

end Go.Proofs.YtjbobblnicnhnaaDoor
