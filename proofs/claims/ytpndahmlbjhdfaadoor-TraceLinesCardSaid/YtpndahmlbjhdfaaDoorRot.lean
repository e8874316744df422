/-
  math/bits.RotateLeft32, ref01.turn.
-/
import Derived.Test.YtpndahmlbjhdfaaDoorRows
import Derived.Test.YtpndahmlbjhdfaaDoorKit
import Derived.Test.YtpndahmlbjhdfaaDoorSha
import Derived.Test.YtpndahmlbjhdfaaDoorWrd
namespace Go.Proofs.YtpndahmlbjhdfaaDoor
open Go.RowKit
set_option maxRecDepth 100000
set_option linter.unusedVariables false
set_option linter.unusedSimpArgs false
theorem w_rl (x n : UInt32) (p q : Int) (hp : p = 2 ^ (32 - n).toNat) (hq : q = 2 ^ n.toNat) (h1 : n.toNat < 32) (h2 : (32 - n).toNat < 32) : bits .or .u32 ((x.toNat : Int) * p % 4294967296) ((x.toNat : Int) / q) = ((rr x n).toNat : Int) := by
  rw [hp, hq, w_shl x _ h2, w_shr x _ h1, w_or, UInt32.or_comm]; rfl
theorem w_rr (x n : UInt32) (p q : Int) (hp : p = 2 ^ (32 - n).toNat) (hq : q = 2 ^ n.toNat) (h1 : n.toNat < 32) (h2 : (32 - n).toNat < 32) : bits .or .u32 ((x.toNat : Int) / q) ((x.toNat : Int) * p % 4294967296) = ((rr x n).toNat : Int) := by
  rw [hp, hq, w_shl x _ h2, w_shr x _ h1, w_or]; rfl
theorem rot_all (x : UInt32) (k : Int) (n : UInt32) (h : (k, n) ∈ ([(-2, 2), (-6, 6), (-7, 7), (-11, 11), (-13, 13), (-17, 17), (-18, 18), (-19, 19), (-22, 22), (-25, 25)] : List (Int × UInt32))) (w : World) :
    Calls Tryd.prog 107 #[W32 x, .int .i64 k] w fun e w' => e = .returned (W32 (rr x n)) ∧ w' = w := by
  simp only [List.mem_cons, Prod.mk.injEq, List.not_mem_nil, or_false] at h
  rcases h with ⟨rfl, rfl⟩ | ⟨rfl, rfl⟩ | ⟨rfl, rfl⟩ | ⟨rfl, rfl⟩ | ⟨rfl, rfl⟩ | ⟨rfl, rfl⟩ | ⟨rfl, rfl⟩ | ⟨rfl, rfl⟩ | ⟨rfl, rfl⟩ | ⟨rfl, rfl⟩
  · have hx := w_lt x
    have hb : bits .and .u64 (IntKind.u64.wrap (-2)) 31 = 30 := by decide
    go_enter Tryd.func107, Tryd.ntmps107
    go_wp2
    go_ret
    refine ⟨?_, rfl⟩
    exact congrArg Ending.returned (congrArg (Value.int .u32) (w_rl x 2 1073741824 4 (by decide) (by decide) (by decide) (by decide)))
  · have hx := w_lt x
    have hb : bits .and .u64 (IntKind.u64.wrap (-6)) 31 = 26 := by decide
    go_enter Tryd.func107, Tryd.ntmps107
    go_wp2
    go_ret
    refine ⟨?_, rfl⟩
    exact congrArg Ending.returned (congrArg (Value.int .u32) (w_rl x 6 67108864 64 (by decide) (by decide) (by decide) (by decide)))
  · have hx := w_lt x
    have hb : bits .and .u64 (IntKind.u64.wrap (-7)) 31 = 25 := by decide
    go_enter Tryd.func107, Tryd.ntmps107
    go_wp2
    go_ret
    refine ⟨?_, rfl⟩
    exact congrArg Ending.returned (congrArg (Value.int .u32) (w_rl x 7 33554432 128 (by decide) (by decide) (by decide) (by decide)))
  · have hx := w_lt x
    have hb : bits .and .u64 (IntKind.u64.wrap (-11)) 31 = 21 := by decide
    go_enter Tryd.func107, Tryd.ntmps107
    go_wp2
    go_ret
    refine ⟨?_, rfl⟩
    exact congrArg Ending.returned (congrArg (Value.int .u32) (w_rl x 11 2097152 2048 (by decide) (by decide) (by decide) (by decide)))
  · have hx := w_lt x
    have hb : bits .and .u64 (IntKind.u64.wrap (-13)) 31 = 19 := by decide
    go_enter Tryd.func107, Tryd.ntmps107
    go_wp2
    go_ret
    refine ⟨?_, rfl⟩
    exact congrArg Ending.returned (congrArg (Value.int .u32) (w_rl x 13 524288 8192 (by decide) (by decide) (by decide) (by decide)))
  · have hx := w_lt x
    have hb : bits .and .u64 (IntKind.u64.wrap (-17)) 31 = 15 := by decide
    go_enter Tryd.func107, Tryd.ntmps107
    go_wp2
    go_ret
    refine ⟨?_, rfl⟩
    exact congrArg Ending.returned (congrArg (Value.int .u32) (w_rl x 17 32768 131072 (by decide) (by decide) (by decide) (by decide)))
  · have hx := w_lt x
    have hb : bits .and .u64 (IntKind.u64.wrap (-18)) 31 = 14 := by decide
    go_enter Tryd.func107, Tryd.ntmps107
    go_wp2
    go_ret
    refine ⟨?_, rfl⟩
    exact congrArg Ending.returned (congrArg (Value.int .u32) (w_rl x 18 16384 262144 (by decide) (by decide) (by decide) (by decide)))
  · have hx := w_lt x
    have hb : bits .and .u64 (IntKind.u64.wrap (-19)) 31 = 13 := by decide
    go_enter Tryd.func107, Tryd.ntmps107
    go_wp2
    go_ret
    refine ⟨?_, rfl⟩
    exact congrArg Ending.returned (congrArg (Value.int .u32) (w_rl x 19 8192 524288 (by decide) (by decide) (by decide) (by decide)))
  · have hx := w_lt x
    have hb : bits .and .u64 (IntKind.u64.wrap (-22)) 31 = 10 := by decide
    go_enter Tryd.func107, Tryd.ntmps107
    go_wp2
    go_ret
    refine ⟨?_, rfl⟩
    exact congrArg Ending.returned (congrArg (Value.int .u32) (w_rl x 22 1024 4194304 (by decide) (by decide) (by decide) (by decide)))
  · have hx := w_lt x
    have hb : bits .and .u64 (IntKind.u64.wrap (-25)) 31 = 7 := by decide
    go_enter Tryd.func107, Tryd.ntmps107
    go_wp2
    go_ret
    refine ⟨?_, rfl⟩
    exact congrArg Ending.returned (congrArg (Value.int .u32) (w_rl x 25 128 33554432 (by decide) (by decide) (by decide) (by decide)))
def rotN (k : Int) : UInt32 := UInt32.ofNat (-k).toNat
theorem rot_any (x : UInt32) (k : Int) (h : k ∈ ([-2, -6, -7, -11, -13, -17, -18, -19, -22, -25] : List Int)) (w : World) :
    Calls Tryd.prog 107 #[W32 x, .int .i64 k] w fun e w' => e = .returned (W32 (rr x (rotN k))) ∧ w' = w := by
  refine rot_all x k (rotN k) ?_ w
  simp only [List.mem_cons, List.not_mem_nil, or_false] at h
  rcases h with rfl | rfl | rfl | rfl | rfl | rfl | rfl | rfl | rfl | rfl <;> decide
theorem turn_all (x : UInt32) (k : Int) (n : UInt32) (h : (k, n) ∈ ([(2, 2), (6, 6), (7, 7), (11, 11), (13, 13), (17, 17), (18, 18), (19, 19), (22, 22), (25, 25)] : List (Int × UInt32))) (w : World) :
    Calls Tryd.prog 102 #[W32 x, .int .u64 k] w fun e w' => e = .returned (W32 (rr x n)) ∧ w' = w := by
  simp only [List.mem_cons, Prod.mk.injEq, List.not_mem_nil, or_false] at h
  rcases h with ⟨rfl, rfl⟩ | ⟨rfl, rfl⟩ | ⟨rfl, rfl⟩ | ⟨rfl, rfl⟩ | ⟨rfl, rfl⟩ | ⟨rfl, rfl⟩ | ⟨rfl, rfl⟩ | ⟨rfl, rfl⟩ | ⟨rfl, rfl⟩ | ⟨rfl, rfl⟩
  · have hx := w_lt x
    go_enter Tryd.func102, Tryd.ntmps102
    go_wp2
    go_ret
    refine ⟨?_, rfl⟩
    exact congrArg Ending.returned (congrArg (Value.int .u32) (w_rr x 2 1073741824 4 (by decide) (by decide) (by decide) (by decide)))
  · have hx := w_lt x
    go_enter Tryd.func102, Tryd.ntmps102
    go_wp2
    go_ret
    refine ⟨?_, rfl⟩
    exact congrArg Ending.returned (congrArg (Value.int .u32) (w_rr x 6 67108864 64 (by decide) (by decide) (by decide) (by decide)))
  · have hx := w_lt x
    go_enter Tryd.func102, Tryd.ntmps102
    go_wp2
    go_ret
    refine ⟨?_, rfl⟩
    exact congrArg Ending.returned (congrArg (Value.int .u32) (w_rr x 7 33554432 128 (by decide) (by decide) (by decide) (by decide)))
  · have hx := w_lt x
    go_enter Tryd.func102, Tryd.ntmps102
    go_wp2
    go_ret
    refine ⟨?_, rfl⟩
    exact congrArg Ending.returned (congrArg (Value.int .u32) (w_rr x 11 2097152 2048 (by decide) (by decide) (by decide) (by decide)))
  · have hx := w_lt x
    go_enter Tryd.func102, Tryd.ntmps102
    go_wp2
    go_ret
    refine ⟨?_, rfl⟩
    exact congrArg Ending.returned (congrArg (Value.int .u32) (w_rr x 13 524288 8192 (by decide) (by decide) (by decide) (by decide)))
  · have hx := w_lt x
    go_enter Tryd.func102, Tryd.ntmps102
    go_wp2
    go_ret
    refine ⟨?_, rfl⟩
    exact congrArg Ending.returned (congrArg (Value.int .u32) (w_rr x 17 32768 131072 (by decide) (by decide) (by decide) (by decide)))
  · have hx := w_lt x
    go_enter Tryd.func102, Tryd.ntmps102
    go_wp2
    go_ret
    refine ⟨?_, rfl⟩
    exact congrArg Ending.returned (congrArg (Value.int .u32) (w_rr x 18 16384 262144 (by decide) (by decide) (by decide) (by decide)))
  · have hx := w_lt x
    go_enter Tryd.func102, Tryd.ntmps102
    go_wp2
    go_ret
    refine ⟨?_, rfl⟩
    exact congrArg Ending.returned (congrArg (Value.int .u32) (w_rr x 19 8192 524288 (by decide) (by decide) (by decide) (by decide)))
  · have hx := w_lt x
    go_enter Tryd.func102, Tryd.ntmps102
    go_wp2
    go_ret
    refine ⟨?_, rfl⟩
    exact congrArg Ending.returned (congrArg (Value.int .u32) (w_rr x 22 1024 4194304 (by decide) (by decide) (by decide) (by decide)))
  · have hx := w_lt x
    go_enter Tryd.func102, Tryd.ntmps102
    go_wp2
    go_ret
    refine ⟨?_, rfl⟩
    exact congrArg Ending.returned (congrArg (Value.int .u32) (w_rr x 25 128 33554432 (by decide) (by decide) (by decide) (by decide)))
def turnN (k : Int) : UInt32 := UInt32.ofNat k.toNat
theorem turn_any (x : UInt32) (k : Int) (h : k ∈ ([2, 6, 7, 11, 13, 17, 18, 19, 22, 25] : List Int)) (w : World) :
    Calls Tryd.prog 102 #[W32 x, .int .u64 k] w fun e w' => e = .returned (W32 (rr x (turnN k))) ∧ w' = w := by
  refine turn_all x k (turnN k) ?_ w
  simp only [List.mem_cons, List.not_mem_nil, or_false] at h
  rcases h with rfl | rfl | rfl | rfl | rfl | rfl | rfl | rfl | rfl | rfl <;> decide
end Go.Proofs.YtpndahmlbjhdfaaDoor
