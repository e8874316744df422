/-
  b64.value; a text's bytes as a slice.
-/
import Derived.Test.YtpndahmlbjhdfaaDoorRows
import Derived.Test.YtpndahmlbjhdfaaDoorKit
namespace Go.Proofs.YtpndahmlbjhdfaaDoor
open Go.RowKit

def valN (x y c : Nat) : Int :=
  if 65 ≤ c ∧ c ≤ 90 then (c : Int) - 65 else if 97 ≤ c ∧ c ≤ 122 then (c : Int) - 97 + 26 else if 48 ≤ c ∧ c ≤ 57 then (c : Int) - 48 + 52
  else if c = x then 62 else if c = y then 63 else -1
/-- A letter's value; -1: it is none. -/
def valL (A : List UInt8) (c : UInt8) : Int := valN (bt A 62).toNat (bt A 63).toNat c.toNat

end Go.Proofs.YtpndahmlbjhdfaaDoor
