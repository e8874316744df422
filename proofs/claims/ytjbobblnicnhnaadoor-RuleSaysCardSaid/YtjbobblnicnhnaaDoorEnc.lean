/-
  b64.encode.
-/
import Derived.Test.YtjbobblnicnhnaaDoorRows
import Derived.Test.YtjbobblnicnhnaaDoorBld
namespace Go.Proofs.YtjbobblnicnhnaaDoor
open Go.RowKit

/-- The number of the first k of three bytes, noughts where there are none. -/
def pack (l : List UInt8) : Nat → Nat
  | 0 => 0
  | i + 1 => pack l i * 256 + (bt l i).toNat
def encL (A l : List UInt8) : List UInt8 := (List.range (l.length + 1)).map fun i => bt A (pack l 3 / 2 ^ (6 * (3 - i)) % 64)

theorem pack_lt (l : List UInt8) : ∀ k, pack l k < 256 ^ k
  | 0 => by simp [pack]
  | k + 1 => by
    have := pack_lt l k
    have h := (bt l k).toNat_lt
    simp only [pack]
    rw [Nat.pow_succ]
    have h2 : (bt l k).toNat < 256 := h
    omega
theorem encL_take (A l : List UInt8) : ∀ k, k < l.length + 1 → ∀ y, y = bt A (pack l 3 / 2 ^ (6 * (3 - k)) % 64) → (encL A l).take (k + 1) = (encL A l).take k ++ [y] := by
  intro k hk y hy
  have hlen : k < (encL A l).length := by simpa [encL] using hk
  rw [List.take_succ_eq_append_getElem hlen, hy]
  simp [encL]

end Go.Proofs.YtjbobblnicnhnaaDoor
