/-
  b64.all, Encode, EncodeURL.
-/
import Derived.Test.YtjbobblnicnhnaaDoorRows
import Derived.Test.YtjbobblnicnhnaaDoorTrip
import Derived.Shelf.Abstract
import Derived.Test.YtjbobblnicnhnaaDoorEnc
namespace Go.Proofs.YtjbobblnicnhnaaDoor
open Go.RowKit Go.Shelf
attribute [local go_sem] Oper.semAt_some

/-- The letters of one piece. -/
def chunk (A : List UInt8) (f : Bool) (t : List UInt8) : List UInt8 := encL A t ++ if f then List.replicate (3 - t.length) 61 else []
/-- The letters of the first n pieces. -/
def allN (A : List UInt8) (f : Bool) (l : List UInt8) (n : Nat) : List UInt8 := (List.range n).flatMap fun j => chunk A f ((l.drop (3 * j)).take 3)
def allL (A : List UInt8) (f : Bool) (l : List UInt8) : List UInt8 := allN A f l ((l.length + 2) / 3)
theorem allN_succ (A : List UInt8) (f : Bool) (l : List UInt8) (n : Nat) : allN A f l (n + 1) = allN A f l n ++ chunk A f ((l.drop (3 * n)).take 3) := by
  simp [allN, List.range_succ]

theorem chunk_len (A : List UInt8) (f : Bool) (t : List UInt8) (h : t.length ≤ 3) : (chunk A f t).length ≤ 4 := by
  cases f <;> simp [chunk, encL] <;> omega
theorem allN_len (A : List UInt8) (f : Bool) (l : List UInt8) : ∀ n, (allN A f l n).length ≤ 4 * n
  | 0 => by simp [allN]
  | n + 1 => by
    have h1 := allN_len A f l n
    have h2 := chunk_len A f ((l.drop (3 * n)).take 3) (by simp; omega)
    rw [allN_succ, List.length_append]; omega

end Go.Proofs.YtjbobblnicnhnaaDoor
