/-
  Words of 32 bits as the walk has them.
-/
import Derived.Laws.BitsAllLaws
namespace Go.Proofs.YtpndahmlbjhdfaaDoor
abbrev W32 (x : UInt32) : Value := .int .u32 (x.toNat : Int)
theorem w_lt (x : UInt32) : x.toNat < 4294967296 := x.toNat_lt
theorem w_xor (x y : UInt32) : bits .xor .u32 (x.toNat : Int) (y.toNat : Int) = ((x ^^^ y).toNat : Int) := by
  rw [u32_xor_nat _ _ (w_lt x) (w_lt y)]; rfl
theorem w_and (x y : UInt32) : bits .and .u32 (x.toNat : Int) (y.toNat : Int) = ((x &&& y).toNat : Int) := by
  rw [u32_and_nat _ _ (w_lt x) (w_lt y)]; rfl
theorem w_or (x y : UInt32) : bits .or .u32 (x.toNat : Int) (y.toNat : Int) = ((x ||| y).toNat : Int) := by
  rw [u32_or_nat _ _ (w_lt x) (w_lt y)]; rfl
theorem w_not (x : UInt32) : bits .xor .u32 4294967295 (x.toNat : Int) = ((~~~x).toNat : Int) := by
  rw [show (4294967295 : Int) = ((4294967295 : Nat) : Int) from rfl, u32_xor_nat _ _ (by omega) (w_lt x)]
  have hx : (4294967295 : UInt32) ^^^ x = ~~~x := by
    apply UInt32.toBitVec_inj.1
    rw [UInt32.toBitVec_xor, UInt32.toBitVec_not, show UInt32.toBitVec 4294967295 = BitVec.allOnes 32 from rfl, BitVec.allOnes_xor]
  rw [← hx]; rfl
theorem w_add (x y : UInt32) : ((x.toNat : Int) + (y.toNat : Int)) % 4294967296 = ((x + y).toNat : Int) := by
  rw [UInt32.toNat_add]; omega
theorem w_shr (x : UInt32) (n : UInt32) (h : n.toNat < 32) : (x.toNat : Int) / ((2 : Int) ^ n.toNat) = ((x >>> n).toNat : Int) := by
  rw [UInt32.toNat_shiftRight, Nat.mod_eq_of_lt h, Nat.shiftRight_eq_div_pow, Int.natCast_ediv, Int.natCast_pow]; rfl
theorem w_shl (x : UInt32) (n : UInt32) (h : n.toNat < 32) : (x.toNat : Int) * ((2 : Int) ^ n.toNat) % 4294967296 = ((x <<< n).toNat : Int) := by
  rw [UInt32.toNat_shiftLeft, Nat.mod_eq_of_lt h, Nat.shiftLeft_eq, Int.natCast_emod, Int.natCast_mul, Int.natCast_pow]; rfl
end Go.Proofs.YtpndahmlbjhdfaaDoor
