import Derived.Test.YteickmohloglhaaGreatDoorRows
import Derived.Test.YteickmohloglhaaGreatDoorKit
namespace Go.Proofs.YteickmohloglhaaGreatDoor
open Go.RowKit

def hexd : List UInt8 := [48, 49, 50, 51, 52, 53, 54, 55, 56, 57, 97, 98, 99, 100, 101, 102]
theorem hexd_lit : (⟨#[48, 49, 50, 51, 52, 53, 54, 55, 56, 57, 97, 98, 99, 100, 101, 102]⟩ : ByteArray) = ⟨hexd.toArray⟩ := rfl
theorem hexd_len : hexd.length = 16 := rfl
def hexL : List UInt8 → List UInt8
  | [] => []
  | b :: l => bt hexd (b.toNat / 16) :: bt hexd (b.toNat % 16) :: hexL l
theorem hexL_snoc (l : List UInt8) (b : UInt8) : hexL (l ++ [b]) = hexL l ++ [bt hexd (b.toNat / 16), bt hexd (b.toNat % 16)] := by
  induction l with
  | nil => rfl
  | cons c l ih => simp [hexL, ih]
theorem hexL_len (l : List UInt8) : (hexL l).length = 2 * l.length := by
  induction l with
  | nil => rfl
  | cons c l ih => simp [hexL, ih]; omega

end Go.Proofs.YteickmohloglhaaGreatDoor
