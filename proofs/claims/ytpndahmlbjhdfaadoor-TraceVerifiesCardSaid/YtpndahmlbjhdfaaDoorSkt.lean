/-
  The texts that every chapter uses, in one: Sha, Wrd, Rot, Wor, Spr, Stp, Sby, Sen.
-/
import Derived.Laws.BitsAllLaws
import Derived.Test.YtpndahmlbjhdfaaDoorRows
import Derived.Test.YtpndahmlbjhdfaaDoorKit
import Derived.BigQuiet
import Derived.BigRegion
import Derived.Deep.WholeRow
namespace Go.Proofs.YtpndahmlbjhdfaaDoor
/-- A word turned to the right. -/
def rr (x : UInt32) (n : UInt32) : UInt32 := x >>> n ||| x <<< (32 - n)
def shUp (e : UInt32) : UInt32 := rr e 6 ^^^ rr e 11 ^^^ rr e 25
def shLow (a : UInt32) : UInt32 := rr a 2 ^^^ rr a 13 ^^^ rr a 22
def shPick (e f g : UInt32) : UInt32 := (e &&& f) ^^^ (~~~e &&& g)
def shMost (a b c : UInt32) : UInt32 := (a &&& b) ^^^ (a &&& c) ^^^ (b &&& c)
def shX (a : UInt32) : UInt32 := rr a 7 ^^^ rr a 18 ^^^ (a >>> 3)
def shY (b : UInt32) : UInt32 := rr b 17 ^^^ rr b 19 ^^^ (b >>> 10)
structure St where
  (a b c d e f g h : UInt32)
/-- A round. -/
def shRnd (v : St) (k w : UInt32) : St :=
  let x := v.h + shUp v.e + shPick v.e v.f v.g + k + w
  ⟨x + shLow v.a + shMost v.a v.b v.c, v.a, v.b, v.c, v.d + x, v.e, v.f, v.g⟩
/-- The t-th word of a block. -/
def shWord (p : List UInt8) (t : Nat) : UInt32 := UInt32.ofNat ((((p.getD (4 * t) 0).toNat * 256 + (p.getD (4 * t + 1) 0).toNat) * 256 + (p.getD (4 * t + 2) 0).toNat) * 256 + (p.getD (4 * t + 3) 0).toNat)
def shNext (p : List UInt8) (l : List UInt32) : UInt32 :=
  if l.length < 16 then shWord p l.length else l.getD (l.length - 16) 0 + shX (l.getD (l.length - 15) 0) + l.getD (l.length - 7) 0 + shY (l.getD (l.length - 2) 0)
/-- The first t words. -/
def sched (p : List UInt8) : Nat → List UInt32
  | 0 => []
  | t + 1 => sched p t ++ [shNext p (sched p t)]
theorem sched_len (p : List UInt8) : ∀ t, (sched p t).length = t
  | 0 => rfl
  | t + 1 => by simp [sched, sched_len p t]
theorem sched_get (p : List UInt8) (j : Nat) : ∀ t, j < t → (sched p t).getD j 0 = shNext p (sched p j)
  | 0, h => by omega
  | t + 1, h => by
    by_cases hj : j < t
    · rw [sched, List.getD_eq_getElem?_getD, List.getElem?_append_left (by rw [sched_len]; exact hj), ← List.getD_eq_getElem?_getD, sched_get p j t hj]
    · obtain rfl : j = t := by omega
      rw [sched, List.getD_eq_getElem?_getD, List.getElem?_append_right (by rw [sched_len]; omega), sched_len]
      simp
/-- A word for each round. -/
def shK : List UInt32 := [
  1116352408, 1899447441, 3049323471, 3921009573, 961987163, 1508970993, 2453635748, 2870763221,
  3624381080, 310598401, 607225278, 1426881987, 1925078388, 2162078206, 2614888103, 3248222580,
  3835390401, 4022224774, 264347078, 604807628, 770255983, 1249150122, 1555081692, 1996064986,
  2554220882, 2821834349, 2952996808, 3210313671, 3336571891, 3584528711, 113926993, 338241895,
  666307205, 773529912, 1294757372, 1396182291, 1695183700, 1986661051, 2177026350, 2456956037,
  2730485921, 2820302411, 3259730800, 3345764771, 3516065817, 3600352804, 4094571909, 275423344,
  430227734, 506948616, 659060556, 883997877, 958139571, 1322822218, 1537002063, 1747873779,
  1955562222, 2024104815, 2227730452, 2361852424, 2428436474, 2756734187, 3204031479, 3329325298]
def shRnds (p : List UInt8) (s : St) : Nat → St
  | 0 => s
  | t + 1 => shRnd (shRnds p s t) (shK.getD t 0) ((sched p 64).getD t 0)
def shAdd (s v : St) : St := ⟨s.a + v.a, s.b + v.b, s.c + v.c, s.d + v.d, s.e + v.e, s.f + v.f, s.g + v.g, s.h + v.h⟩
/-- The state behind a block. -/
def shStep (s : St) (p : List UInt8) : St := shAdd s (shRnds p s 64)
def shFirst : St := ⟨1779033703, 3144134277, 1013904242, 2773480762, 1359893119, 2600822924, 528734635, 1541459225⟩
/-- The state behind k blocks. -/
def shGo (p : List UInt8) : Nat → St
  | 0 => shFirst
  | k + 1 => shStep (shGo p k) ((p.drop (64 * k)).take 64)
def shBe (w : UInt32) : List UInt8 := [UInt8.ofNat (w.toNat / 16777216), UInt8.ofNat (w.toNat / 65536), UInt8.ofNat (w.toNat / 256), UInt8.ofNat w.toNat]
def St.words (s : St) : List UInt32 := [s.a, s.b, s.c, s.d, s.e, s.f, s.g, s.h]
def shOut (s : St) : List UInt8 := s.words.flatMap shBe
def shLong (n : Nat) : List UInt8 := (List.range 8).map fun i => UInt8.ofNat (n / 256 ^ (7 - i))
/-- What stands behind a text of n bytes. -/
def shTail (n : Nat) : List UInt8 := (128 :: List.replicate ((119 - n % 64) % 64) 0) ++ shLong (8 * n)
theorem shTail_len (n : Nat) : (shTail n).length = 9 + (119 - n % 64) % 64 := by simp [shTail, shLong]; omega
def shPad (l : List UInt8) : List UInt8 := l ++ shTail l.length
/-- The sum of bytes. -/
def shSum (l : List UInt8) : List UInt8 := shOut (shGo (shPad l) ((shPad l).length / 64))
theorem shOut_len (s : St) : (shOut s).length = 32 := by simp [shOut, St.words, shBe]
theorem shSum_len (l : List UInt8) : (shSum l).length = 32 := shOut_len _
end Go.Proofs.YtpndahmlbjhdfaaDoor

namespace Go.Proofs.YtpndahmlbjhdfaaDoor
abbrev W32 (x : UInt32) : Value := .int .u32 (x.toNat : Int)
theorem w_lt (x : UInt32) : x.toNat < 4294967296 := x.toNat_lt
theorem w_xor (x y : UInt32) : bits .xor .u32 (x.toNat : Int) (y.toNat : Int) = ((x ^^^ y).toNat : Int) := by
  rw [u32_xor_nat _ _ (w_lt x) (w_lt y)]; rfl
theorem w_and (x y : UInt32) : bits .and .u32 (x.toNat : Int) (y.toNat : Int) = ((x &&& y).toNat : Int) := by
  rw [u32_and_nat _ _ (w_lt x) (w_lt y)]; rfl
theorem w_or (x y : UInt32) : bits .or .u32 (x.toNat : Int) (y.toNat : Int) = ((x ||| y).toNat : Int) := by
  rw [u32_or_nat _ _ (w_lt x) (w_lt y)]; rfl
theorem w_not (x : UInt32) : bits .xor .u32 4294967295 (x.toNat : Int) = ((~~~x).toNat : Int) := by
  rw [show (4294967295 : Int) = ((4294967295 : Nat) : Int) from rfl, u32_xor_nat _ _ (by omega) (w_lt x)]
  have hx : (4294967295 : UInt32) ^^^ x = ~~~x := by
    apply UInt32.toBitVec_inj.1
    rw [UInt32.toBitVec_xor, UInt32.toBitVec_not, show UInt32.toBitVec 4294967295 = BitVec.allOnes 32 from rfl, BitVec.allOnes_xor]
  rw [← hx]; rfl
theorem w_add (x y : UInt32) : ((x.toNat : Int) + (y.toNat : Int)) % 4294967296 = ((x + y).toNat : Int) := by
  rw [UInt32.toNat_add]; omega
theorem w_shr (x : UInt32) (n : UInt32) (h : n.toNat < 32) : (x.toNat : Int) / ((2 : Int) ^ n.toNat) = ((x >>> n).toNat : Int) := by
  rw [UInt32.toNat_shiftRight, Nat.mod_eq_of_lt h, Nat.shiftRight_eq_div_pow, Int.natCast_ediv, Int.natCast_pow]; rfl
theorem w_shl (x : UInt32) (n : UInt32) (h : n.toNat < 32) : (x.toNat : Int) * ((2 : Int) ^ n.toNat) % 4294967296 = ((x <<< n).toNat : Int) := by
  rw [UInt32.toNat_shiftLeft, Nat.mod_eq_of_lt h, Nat.shiftLeft_eq, Int.natCast_emod, Int.natCast_mul, Int.natCast_pow]; rfl
end Go.Proofs.YtpndahmlbjhdfaaDoor

namespace Go.Proofs.YtpndahmlbjhdfaaDoor
open Go.RowKit
set_option maxRecDepth 100000
set_option linter.unusedVariables false
set_option linter.unusedSimpArgs false
theorem w_rl (x n : UInt32) (p q : Int) (hp : p = 2 ^ (32 - n).toNat) (hq : q = 2 ^ n.toNat) (h1 : n.toNat < 32) (h2 : (32 - n).toNat < 32) : bits .or .u32 ((x.toNat : Int) * p % 4294967296) ((x.toNat : Int) / q) = ((rr x n).toNat : Int) := by
  rw [hp, hq, w_shl x _ h2, w_shr x _ h1, w_or, UInt32.or_comm]; rfl
theorem w_rr (x n : UInt32) (p q : Int) (hp : p = 2 ^ (32 - n).toNat) (hq : q = 2 ^ n.toNat) (h1 : n.toNat < 32) (h2 : (32 - n).toNat < 32) : bits .or .u32 ((x.toNat : Int) / q) ((x.toNat : Int) * p % 4294967296) = ((rr x n).toNat : Int) := by
  rw [hp, hq, w_shl x _ h2, w_shr x _ h1, w_or]; rfl
theorem rot_all (x : UInt32) (k : Int) (n : UInt32) (h : (k, n) ∈ ([(-2, 2), (-6, 6), (-7, 7), (-11, 11), (-13, 13), (-17, 17), (-18, 18), (-19, 19), (-22, 22), (-25, 25)] : List (Int × UInt32))) (w : World) :
    Calls Tryd.prog 107 #[W32 x, .int .i64 k] w fun e w' => e = .returned (W32 (rr x n)) ∧ w' = w := by
  simp only [List.mem_cons, Prod.mk.injEq, List.not_mem_nil, or_false] at h
  rcases h with ⟨rfl, rfl⟩ | ⟨rfl, rfl⟩ | ⟨rfl, rfl⟩ | ⟨rfl, rfl⟩ | ⟨rfl, rfl⟩ | ⟨rfl, rfl⟩ | ⟨rfl, rfl⟩ | ⟨rfl, rfl⟩ | ⟨rfl, rfl⟩ | ⟨rfl, rfl⟩
  · have hx := w_lt x
    have hb : bits .and .u64 (IntKind.u64.wrap (-2)) 31 = 30 := by decide
    go_enter Tryd.func107, Tryd.ntmps107
    go_wp2
    go_ret
    refine ⟨?_, rfl⟩
    exact congrArg Ending.returned (congrArg (Value.int .u32) (w_rl x 2 1073741824 4 (by decide) (by decide) (by decide) (by decide)))
  · have hx := w_lt x
    have hb : bits .and .u64 (IntKind.u64.wrap (-6)) 31 = 26 := by decide
    go_enter Tryd.func107, Tryd.ntmps107
    go_wp2
    go_ret
    refine ⟨?_, rfl⟩
    exact congrArg Ending.returned (congrArg (Value.int .u32) (w_rl x 6 67108864 64 (by decide) (by decide) (by decide) (by decide)))
  · have hx := w_lt x
    have hb : bits .and .u64 (IntKind.u64.wrap (-7)) 31 = 25 := by decide
    go_enter Tryd.func107, Tryd.ntmps107
    go_wp2
    go_ret
    refine ⟨?_, rfl⟩
    exact congrArg Ending.returned (congrArg (Value.int .u32) (w_rl x 7 33554432 128 (by decide) (by decide) (by decide) (by decide)))
  · have hx := w_lt x
    have hb : bits .and .u64 (IntKind.u64.wrap (-11)) 31 = 21 := by decide
    go_enter Tryd.func107, Tryd.ntmps107
    go_wp2
    go_ret
    refine ⟨?_, rfl⟩
    exact congrArg Ending.returned (congrArg (Value.int .u32) (w_rl x 11 2097152 2048 (by decide) (by decide) (by decide) (by decide)))
  · have hx := w_lt x
    have hb : bits .and .u64 (IntKind.u64.wrap (-13)) 31 = 19 := by decide
    go_enter Tryd.func107, Tryd.ntmps107
    go_wp2
    go_ret
    refine ⟨?_, rfl⟩
    exact congrArg Ending.returned (congrArg (Value.int .u32) (w_rl x 13 524288 8192 (by decide) (by decide) (by decide) (by decide)))
  · have hx := w_lt x
    have hb : bits .and .u64 (IntKind.u64.wrap (-17)) 31 = 15 := by decide
    go_enter Tryd.func107, Tryd.ntmps107
    go_wp2
    go_ret
    refine ⟨?_, rfl⟩
    exact congrArg Ending.returned (congrArg (Value.int .u32) (w_rl x 17 32768 131072 (by decide) (by decide) (by decide) (by decide)))
  · have hx := w_lt x
    have hb : bits .and .u64 (IntKind.u64.wrap (-18)) 31 = 14 := by decide
    go_enter Tryd.func107, Tryd.ntmps107
    go_wp2
    go_ret
    refine ⟨?_, rfl⟩
    exact congrArg Ending.returned (congrArg (Value.int .u32) (w_rl x 18 16384 262144 (by decide) (by decide) (by decide) (by decide)))
  · have hx := w_lt x
    have hb : bits .and .u64 (IntKind.u64.wrap (-19)) 31 = 13 := by decide
    go_enter Tryd.func107, Tryd.ntmps107
    go_wp2
    go_ret
    refine ⟨?_, rfl⟩
    exact congrArg Ending.returned (congrArg (Value.int .u32) (w_rl x 19 8192 524288 (by decide) (by decide) (by decide) (by decide)))
  · have hx := w_lt x
    have hb : bits .and .u64 (IntKind.u64.wrap (-22)) 31 = 10 := by decide
    go_enter Tryd.func107, Tryd.ntmps107
    go_wp2
    go_ret
    refine ⟨?_, rfl⟩
    exact congrArg Ending.returned (congrArg (Value.int .u32) (w_rl x 22 1024 4194304 (by decide) (by decide) (by decide) (by decide)))
  · have hx := w_lt x
    have hb : bits .and .u64 (IntKind.u64.wrap (-25)) 31 = 7 := by decide
    go_enter Tryd.func107, Tryd.ntmps107
    go_wp2
    go_ret
    refine ⟨?_, rfl⟩
    exact congrArg Ending.returned (congrArg (Value.int .u32) (w_rl x 25 128 33554432 (by decide) (by decide) (by decide) (by decide)))
def rotN (k : Int) : UInt32 := UInt32.ofNat (-k).toNat
theorem rot_any (x : UInt32) (k : Int) (h : k ∈ ([-2, -6, -7, -11, -13, -17, -18, -19, -22, -25] : List Int)) (w : World) :
    Calls Tryd.prog 107 #[W32 x, .int .i64 k] w fun e w' => e = .returned (W32 (rr x (rotN k))) ∧ w' = w := by
  refine rot_all x k (rotN k) ?_ w
  simp only [List.mem_cons, List.not_mem_nil, or_false] at h
  rcases h with rfl | rfl | rfl | rfl | rfl | rfl | rfl | rfl | rfl | rfl <;> decide
theorem turn_all (x : UInt32) (k : Int) (n : UInt32) (h : (k, n) ∈ ([(2, 2), (6, 6), (7, 7), (11, 11), (13, 13), (17, 17), (18, 18), (19, 19), (22, 22), (25, 25)] : List (Int × UInt32))) (w : World) :
    Calls Tryd.prog 102 #[W32 x, .int .u64 k] w fun e w' => e = .returned (W32 (rr x n)) ∧ w' = w := by
  simp only [List.mem_cons, Prod.mk.injEq, List.not_mem_nil, or_false] at h
  rcases h with ⟨rfl, rfl⟩ | ⟨rfl, rfl⟩ | ⟨rfl, rfl⟩ | ⟨rfl, rfl⟩ | ⟨rfl, rfl⟩ | ⟨rfl, rfl⟩ | ⟨rfl, rfl⟩ | ⟨rfl, rfl⟩ | ⟨rfl, rfl⟩ | ⟨rfl, rfl⟩
  · have hx := w_lt x
    go_enter Tryd.func102, Tryd.ntmps102
    go_wp2
    go_ret
    refine ⟨?_, rfl⟩
    exact congrArg Ending.returned (congrArg (Value.int .u32) (w_rr x 2 1073741824 4 (by decide) (by decide) (by decide) (by decide)))
  · have hx := w_lt x
    go_enter Tryd.func102, Tryd.ntmps102
    go_wp2
    go_ret
    refine ⟨?_, rfl⟩
    exact congrArg Ending.returned (congrArg (Value.int .u32) (w_rr x 6 67108864 64 (by decide) (by decide) (by decide) (by decide)))
  · have hx := w_lt x
    go_enter Tryd.func102, Tryd.ntmps102
    go_wp2
    go_ret
    refine ⟨?_, rfl⟩
    exact congrArg Ending.returned (congrArg (Value.int .u32) (w_rr x 7 33554432 128 (by decide) (by decide) (by decide) (by decide)))
  · have hx := w_lt x
    go_enter Tryd.func102, Tryd.ntmps102
    go_wp2
    go_ret
    refine ⟨?_, rfl⟩
    exact congrArg Ending.returned (congrArg (Value.int .u32) (w_rr x 11 2097152 2048 (by decide) (by decide) (by decide) (by decide)))
  · have hx := w_lt x
    go_enter Tryd.func102, Tryd.ntmps102
    go_wp2
    go_ret
    refine ⟨?_, rfl⟩
    exact congrArg Ending.returned (congrArg (Value.int .u32) (w_rr x 13 524288 8192 (by decide) (by decide) (by decide) (by decide)))
  · have hx := w_lt x
    go_enter Tryd.func102, Tryd.ntmps102
    go_wp2
    go_ret
    refine ⟨?_, rfl⟩
    exact congrArg Ending.returned (congrArg (Value.int .u32) (w_rr x 17 32768 131072 (by decide) (by decide) (by decide) (by decide)))
  · have hx := w_lt x
    go_enter Tryd.func102, Tryd.ntmps102
    go_wp2
    go_ret
    refine ⟨?_, rfl⟩
    exact congrArg Ending.returned (congrArg (Value.int .u32) (w_rr x 18 16384 262144 (by decide) (by decide) (by decide) (by decide)))
  · have hx := w_lt x
    go_enter Tryd.func102, Tryd.ntmps102
    go_wp2
    go_ret
    refine ⟨?_, rfl⟩
    exact congrArg Ending.returned (congrArg (Value.int .u32) (w_rr x 19 8192 524288 (by decide) (by decide) (by decide) (by decide)))
  · have hx := w_lt x
    go_enter Tryd.func102, Tryd.ntmps102
    go_wp2
    go_ret
    refine ⟨?_, rfl⟩
    exact congrArg Ending.returned (congrArg (Value.int .u32) (w_rr x 22 1024 4194304 (by decide) (by decide) (by decide) (by decide)))
  · have hx := w_lt x
    go_enter Tryd.func102, Tryd.ntmps102
    go_wp2
    go_ret
    refine ⟨?_, rfl⟩
    exact congrArg Ending.returned (congrArg (Value.int .u32) (w_rr x 25 128 33554432 (by decide) (by decide) (by decide) (by decide)))
def turnN (k : Int) : UInt32 := UInt32.ofNat k.toNat
theorem turn_any (x : UInt32) (k : Int) (h : k ∈ ([2, 6, 7, 11, 13, 17, 18, 19, 22, 25] : List Int)) (w : World) :
    Calls Tryd.prog 102 #[W32 x, .int .u64 k] w fun e w' => e = .returned (W32 (rr x (turnN k))) ∧ w' = w := by
  refine turn_all x k (turnN k) ?_ w
  simp only [List.mem_cons, List.not_mem_nil, or_false] at h
  rcases h with rfl | rfl | rfl | rfl | rfl | rfl | rfl | rfl | rfl | rfl <;> decide
end Go.Proofs.YtpndahmlbjhdfaaDoor

namespace Go.Proofs.YtpndahmlbjhdfaaDoor
open Go.RowKit
set_option maxRecDepth 100000
set_option linter.unusedVariables false
set_option linter.unusedSimpArgs false
theorem word_num (a b c d : UInt8) : bits .or .u32 (bits .or .u32 (bits .or .u32 ((a.toNat : Int) * 16777216) ((b.toNat : Int) * 65536)) ((c.toNat : Int) * 256)) (d.toNat : Int) = ((UInt32.ofNat (((a.toNat * 256 + b.toNat) * 256 + c.toNat) * 256 + d.toNat)).toNat : Int) := by
  have ha := a.toNat_lt; have hb := b.toNat_lt; have hc := c.toNat_lt; have hd := d.toNat_lt
  have e1 : (a.toNat : Int) * 16777216 = ((a.toNat * 16777216 : Nat) : Int) := by omega
  have e2 : (b.toNat : Int) * 65536 = ((b.toNat * 65536 : Nat) : Int) := by omega
  have e3 : (c.toNat : Int) * 256 = ((c.toNat * 256 : Nat) : Int) := by omega
  rw [e1, e2, e3, u32_or_nat _ _ (by omega) (by omega), nat_join 24 _ _ (by omega) (by omega), u32_or_nat _ _ (by omega) (by omega), nat_join 16 _ _ (by omega) (by omega), u32_or_nat _ _ (by omega) (by omega), nat_join 8 _ _ (by omega) (by omega)]
  rw [UInt32.toNat_ofNat']
  omega
theorem word_any (v : Value) (l : List UInt8) (w : World) (hv : SlB w v l) (h4 : 4 ≤ l.length) :
    Calls Tryd.prog 126 #[v] w fun e w' => e = .returned (W32 (shWord l 0)) ∧ ∃ m, w' = w.drewN m := by
  obtain ⟨ao, cap, rfl, hcap, hmax, hnil, hcell⟩ := hv
  simp only [List.length_map] at hcap ⊢
  have hix := run_index_adr (P := Tryd.prog) Tryd.underlying45 Tryd.sizeOf5 hnil hcap
  have i0 : ∀ W, (Instr.indexAt 45 (.slice ao l.length cap) (.int .i64 0)).run Tryd.prog W = .ok (.pointer (some (adr ao 0))) W := fun W => hix W 0 (by omega)
  have i1 : ∀ W, (Instr.indexAt 45 (.slice ao l.length cap) (.int .i64 1)).run Tryd.prog W = .ok (.pointer (some (adr ao 1))) W := fun W => hix W 1 (by omega)
  have i2 : ∀ W, (Instr.indexAt 45 (.slice ao l.length cap) (.int .i64 2)).run Tryd.prog W = .ok (.pointer (some (adr ao 2))) W := fun W => hix W 2 (by omega)
  have i3 : ∀ W, (Instr.indexAt 45 (.slice ao l.length cap) (.int .i64 3)).run Tryd.prog W = .ok (.pointer (some (adr ao 3))) W := fun W => hix W 3 (by omega)
  have c0 : w.cell? (adr ao 0) = some (Byt (bt l 0)) := hcell 0 _ (byt_map l 0 (by omega))
  have c1 : w.cell? (adr ao 1) = some (Byt (bt l 1)) := hcell 1 _ (byt_map l 1 (by omega))
  have c2 : w.cell? (adr ao 2) = some (Byt (bt l 2)) := hcell 2 _ (byt_map l 2 (by omega))
  have c3 : w.cell? (adr ao 3) = some (Byt (bt l 3)) := hcell 3 _ (byt_map l 3 (by omega))
  clear hix hcell
  have hw := Lib.hid (show shWord l 0 = UInt32.ofNat ((((bt l 0).toNat * 256 + (bt l 1).toNat) * 256 + (bt l 2).toNat) * 256 + (bt l 3).toNat) from rfl)
  have hn := word_num (bt l 0) (bt l 1) (bt l 2) (bt l 3)
  have h0 := (bt l 0).toNat_lt; have h1 := (bt l 1).toNat_lt; have h2 := (bt l 2).toNat_lt; have h3 := (bt l 3).toNat_lt
  have Hn := Lib.hid hn; clear hn
  generalize bt l 0 = a at *
  generalize bt l 1 = b at *
  generalize bt l 2 = c at *
  generalize bt l 3 = d at *
  go_enter Tryd.func126, Tryd.ntmps126
  go_wp2
  refine wp_region_quiet_lit (by kernel_rfl) (by kernel_rfl) ?_
  repeat (first
    | go_big_quiet_skip
    | (go_big_quiet_want; go_big_quiet_op; (try go_bits); first | go_big_quiet_on | go_big_quiet_call (fail)))
  refine wpQuiet_nil ?_
  intro _ hw'
  obtain ⟨nq, hw''⟩ := hw'
  subst hw''
  go_wp2
  go_ret
  exact ⟨by rw [hw.out]; exact congrArg Ending.returned (congrArg (Value.int .u32) Hn.out), _, rfl⟩
/-- Bytes as a number. -/
def numL (l : List UInt8) : Nat := l.foldl (fun n b => n * 256 + b.toNat) 0
theorem numL_snoc (l : List UInt8) (b : UInt8) : numL (l ++ [b]) = numL l * 256 + b.toNat := by simp [numL]
theorem numL_lt : ∀ l : List UInt8, numL l < 256 ^ l.length := by
  intro l
  have : ∀ r : List UInt8, numL r.reverse < 256 ^ r.length := fun r => by
    induction r with
    | nil => simp [numL]
    | cons b r ih =>
      have hb := b.toNat_lt
      rw [List.reverse_cons, numL_snoc, List.length_cons, Nat.pow_succ]
      omega
  simpa using this l.reverse
theorem numL_take (l : List UInt8) (k : Nat) (h : k < l.length) : numL (l.take (k + 1)) = numL (l.take k) * 256 + (bt l k).toNat := by
  rw [take_snoc l k h, numL_snoc]
theorem num_any (v : Value) (l : List UInt8) (w : World) (hv : SlB w v l) (h7 : l.length ≤ 7) :
    Calls Tryd.prog 101 #[v] w fun e w' => e = .returned (.int .u64 (numL l : Nat)) ∧ w' = w := by
  obtain ⟨ao, cap, rfl, hcap, hmax, hnil, hcell⟩ := hv
  simp only [List.length_map] at hcap ⊢
  have HC := Lib.hid hcell; clear hcell
  have hix := run_index_adr (P := Tryd.prog) Tryd.underlying45 Tryd.sizeOf5 hnil hcap
  go_enter Tryd.func101, Tryd.ntmps101
  go_wp2
  go_loop [3, 8] (fun v i => ∃ k : Nat, k ≤ l.length ∧ i = .int .i64 k ∧ v = .int .u64 (numL (l.take k) : Nat)) (fun _ i => l.length - (intOf i).toNat)
  case atStart => exact ⟨0, by omega, rfl, rfl⟩
  case round =>
    obtain ⟨k, hk, rfl, rfl⟩ := hrel
    by_cases h3 : k < l.length
    · have hck : w.cell? (adr ao k) = some (Byt (bt l k)) := HC.out k _ (byt_map l k h3)
      have hp : numL (l.take k) < 281474976710656 := Nat.lt_of_lt_of_le (numL_lt _) (Nat.pow_le_pow_right (n := 256) (by omega) (show (l.take k).length ≤ 6 by simp; omega))
      have hs := Lib.hid (numL_take l k h3)
      have hb := (bt l k).toNat_lt
      generalize bt l k = c at *
      generalize numL (l.take k) = p at *
      go_wp2
      go_round
      case rel => exact ⟨k + 1, by omega, by go_num, by rw [hs.out]; go_num⟩
      case measure => simp [intOf] <;> omega
    · go_wp2
      go_ret
      exact ⟨by rw [List.take_of_length_le (by omega)]; rfl, rfl⟩
end Go.Proofs.YtpndahmlbjhdfaaDoor

namespace Go.Proofs.YtpndahmlbjhdfaaDoor
open Go.RowKit
set_option maxRecDepth 1000000
set_option linter.unusedVariables false
set_option linter.unusedSimpArgs false
/-- The cells of 64 words, of which the first ones are given. -/
def cells64 (xs : List UInt32) : Array Value := ((xs ++ List.replicate (64 - xs.length) 0).map W32).toArray
theorem cells64_get (xs : List UInt32) (h : xs.length ≤ 64) (j : Nat) (hj : j < 64) : (cells64 xs)[j]? = some (W32 (xs.getD j 0)) := by
  simp only [cells64, List.getElem?_toArray, List.getElem?_map]
  by_cases h2 : j < xs.length
  · rw [List.getElem?_append_left h2, List.getElem?_eq_getElem h2]; simp [List.getD_eq_getElem?_getD, List.getElem?_eq_getElem h2]
  · rw [List.getElem?_append_right (by omega), List.getElem?_replicate, if_pos (by omega)]
    simp [List.getD_eq_getElem?_getD, List.getElem?_eq_none (Nat.le_of_not_lt h2)]
theorem cells64_set (xs : List UInt32) (h : xs.length < 64) (x : UInt32) : (cells64 xs).setIfInBounds xs.length (W32 x) = cells64 (xs ++ [x]) := by
  apply Array.ext'
  simp only [cells64, Array.toList_setIfInBounds, List.length_append, List.length_singleton]
  rw [show 64 - xs.length = (64 - (xs.length + 1)) + 1 by omega, List.replicate_succ, List.map_append, List.set_append_right _ _ (by simp)]
  simp
theorem shWord_drop (l : List UInt8) (k : Nat) : shWord (l.drop (4 * k)) 0 = shWord l k := by
  simp only [shWord, List.getD_eq_getElem?_getD, List.getElem?_drop, Nat.mul_zero, Nat.zero_add, Nat.add_zero]
theorem sched_low (l : List UInt8) (k : Nat) (h : k < 16) : sched l (k + 1) = sched l k ++ [shWord (l.drop (4 * k)) 0] := by
  rw [sched, shNext, sched_len, if_pos h, shWord_drop]
theorem sched_high (l : List UInt8) (k : Nat) (h : 16 ≤ k) : sched l (k + 1) = sched l k ++ [(sched l k).getD (k - 16) 0 + shX ((sched l k).getD (k - 15) 0) + (sched l k).getD (k - 7) 0 + shY ((sched l k).getD (k - 2) 0)] := by
  rw [sched, shNext, sched_len, if_neg (by omega)]
/-! ### A block of cells -/
abbrev Arr (w : World) (g : Nat) (T : TypeId) (c : Array Value) : Prop := w.heap[g]? = some (.cells c T (0, 0))
theorem arr_cell {w : World} {g j : Nat} {T : TypeId} {c : Array Value} {v : Value} (h : Arr w g T c) (hj : c[j]? = some v) : w.cell? ⟨g, j, none⟩ = some v := by simp [World.cell?, h, hj]
theorem arr_frozen {w : World} {g j : Nat} {T : TypeId} {c : Array Value} (h : Arr w g T c) : w.frozen? ⟨g, j, none⟩ = false := by simp [World.frozen?, h]
theorem arr_set {w : World} {g j : Nat} {T : TypeId} {c : Array Value} (h : Arr w g T c) (v : Value) : Arr (w.setCell ⟨g, j, none⟩ v) g T (c.setIfInBounds j v) := by simp [Arr, World.setCell, Array.getElem?_modify, h]
theorem arr_other {w : World} {g k j : Nat} {T : TypeId} {c : Array Value} (h : Arr w k T c) (hne : g ≠ k) (v : Value) : Arr (w.setCell ⟨g, j, none⟩ v) k T c := by simp [Arr, World.setCell, Array.getElem?_modify, h, hne]
theorem ext_set {a w : World} {g j : Nat} (h : Ext a w) (hg : a.heap.size ≤ g) (v : Value) : Ext a (w.setCell ⟨g, j, none⟩ v) := Below.setCell h hg v
theorem run_index_arr {P : Program} {t e : TypeId} {N : Nat} (ht : P.underlying t = some (.array N e)) (hz : ∀ w, (Go.sizeOf e).run P w = .ok 1 w) (g : Nat) :
    ∀ (W : World) (k : Nat), k < N → (Instr.indexAt t (.pointer (some ⟨g, 0, none⟩)) (.int .i64 (k : Int))).run P W = .ok (.pointer (some ⟨g, k, none⟩)) W := by
  intro W k hk
  simp [Instr.indexAt, asIntOf, Instr.sureAddr, run_underlying ht, hz, Result.andThen, hk, Addr.add]
  exact fun h => h.symm
theorem arr_two (w : World) (A B : Array Value) (S T : TypeId) : Arr ((w.alloc (.cells A S)).alloc (.cells B T)) (w.heap.size + 1) T B ∧ Arr ((w.alloc (.cells A S)).alloc (.cells B T)) w.heap.size S A := by
  constructor
  · have := heap_alloc_last (w.alloc (.cells A S)) (.cells B T)
    rwa [show (w.alloc (.cells A S)).heap.size = w.heap.size + 1 by simp] at this
  · exact (Below.alloc (Below.refl (w.alloc (.cells A S)).heap.size _) (Nat.le_refl _) (.cells B T)).block _ (by simp) |>.trans (heap_alloc_last w _)
theorem ext_two (w : World) (a b : Obj) : Ext w ((w.alloc a).alloc b) := Below.alloc (Below.alloc (Below.refl _ w) (Nat.le_refl _) a) (by simp) b
theorem cells64_size (xs : List UInt32) (h : xs.length ≤ 64) : (cells64 xs).size = 64 := by simp [cells64]; omega
theorem cells64_one (xs : List UInt32) : ∀ v ∈ (cells64 xs).toList, v.oneCell' = true := fun v hv => by
  simp only [cells64, List.mem_map] at hv
  obtain ⟨x, _, rfl⟩ := hv; rfl
theorem setRow_arr {w : World} {g : Nat} {T : TypeId} {c : Array Value} (h : Arr w g T c) (c' : Array Value) : Arr (w.setRow g c') g T c' := by
  simp [Arr, World.setRow, Array.getElem?_modify, h]
theorem setRow_other {w : World} {g k : Nat} {T : TypeId} {c : Array Value} (h : Arr w k T c) (hne : g ≠ k) (c' : Array Value) : Arr (w.setRow g c') k T c := by
  simp [Arr, World.setRow, Array.getElem?_modify, h, hne]
theorem setRow_ext {a w : World} {g : Nat} (h : Ext a w) (hg : a.heap.size ≤ g) (c' : Array Value) : Ext a (w.setRow g c') :=
  ⟨h.os, h.tape, h.output, by simpa [World.setRow] using h.size, fun k hk => by
    rw [← h.block k hk]; simp [World.setRow, Array.getElem?_modify, show g ≠ k by omega]⟩
theorem info64 : (Tryd.prog.info? 150).map (·.size) = some 64 := by kernel_rfl
theorem sx_int (x : UInt32) : bits .xor .u32 (bits .xor .u32 ((rr x (rotN (-7))).toNat : Int) ((rr x (rotN (-18))).toNat : Int)) ((x.toNat : Int) / 8) = ((shX x).toNat : Int) := by
  rw [show (8 : Int) = 2 ^ (3 : UInt32).toNat from rfl, w_shr x 3 (by decide), w_xor, w_xor]; rfl
theorem sy_int (x : UInt32) : bits .xor .u32 (bits .xor .u32 ((rr x (rotN (-17))).toNat : Int) ((rr x (rotN (-19))).toNat : Int)) ((x.toNat : Int) / 1024) = ((shY x).toNat : Int) := by
  rw [show (1024 : Int) = 2 ^ (10 : UInt32).toNat from rfl, w_shr x 10 (by decide), w_xor, w_xor]; rfl
set_option maxHeartbeats 1000000 in
theorem spread_any (v : Value) (l : List UInt8) (w : World) (hv : SlB w v l) (h64 : l.length = 64) :
    Calls Tryd.prog 106 #[v] w fun e w' => e = .returned (.agg (cells64 (sched l 64))) ∧ Ext w w' := by
  obtain ⟨ao, cap, rfl, hcap, hmax, hnil, hcell⟩ := id hv
  clear hcell
  have H64 := Lib.hid h64
  simp only [List.length_map, h64] at hcap hv ⊢
  go_enter Tryd.func106, Tryd.ntmps106
  go_wp2
  have hrun := Lib.hid (run_resl (P := Tryd.prog) Tryd.underlying45 Tryd.sizeOf5 (ao := ao) (n := 64) (cap := cap))
  have hia := Lib.hid (run_index_arr (P := Tryd.prog) Tryd.underlying150 Tryd.sizeOf102 (w.heap.size + 1))
  go_loopw [10] (fun i wr => ∃ k : Nat, k ≤ 16 ∧ i = .int .i64 k ∧ Arr wr (w.heap.size + 1) 150 (cells64 (sched l k)) ∧ Arr wr w.heap.size 150 (cells64 []) ∧ Ext w wr) (fun i _ => 16 - (intOf i).toNat)
  case atStart => exact ⟨0, by omega, rfl, (arr_two _ _ _ _ _).1, (arr_two _ _ _ _ _).2, ext_two _ _ _⟩
  case round =>
    obtain ⟨k, hk, rfl, hA, hB, hext⟩ := hrel
    by_cases h3 : k < 16
    · have hs := (hv.ext hext).resl (k := 4 * k) (by rw [List.length_map, H64.out]; omega)
      rw [← List.map_drop] at hs
      have hr : ∀ W, (Instr.slice 45 (.slice ao 64 cap) (some (.int .i64 (4 * (k : Int)))) none none).run Tryd.prog W = .ok (resl (.slice ao 64 cap) (4 * k)) W := fun W => by
        have := hrun.out W (4 * k) (by omega)
        rwa [show ((4 * k : Nat) : Int) = 4 * (k : Int) by omega] at this
      have HW := Lib.hid (word_any _ _ wr hs (by rw [List.length_drop, H64.out]; omega))
      have hf := arr_frozen (j := k) hA
      have ik := fun W => hia.out W k (by omega)
      have hc := arr_cell hA (cells64_get (sched l k) (by rw [sched_len]; omega) k (by omega))
      have HA := Lib.hid (show _ ∧ _ ∧ _ from ⟨hA, hB, hext⟩)
      clear hs hA hB hext
      generalize resl (.slice ao 64 cap) (4 * k) = vr at *
      go_wp2_with (go_at_call 126; refine (HW.out).mono ?_; rintro e W3 ⟨rfl, m, rfl⟩)
      obtain ⟨hA, hB, hext⟩ := HA.out
      refine ⟨⟨k + 1, by omega, by first | go_num | omega, ?_, arr_other (w := wr.drewN m) hB (by omega) _, ext_set (hext.drewN m) (by omega) _⟩, by simp [intOf]; omega⟩
      have := arr_set (w := wr.drewN m) (j := k) hA (W32 (shWord (l.drop (4 * k)) 0))
      rw [sched_low l k h3]
      rwa [show (cells64 (sched l k)).setIfInBounds k = (cells64 (sched l k)).setIfInBounds (sched l k).length by rw [sched_len], cells64_set _ (by rw [sched_len]; omega)] at this
    · have HA : Hid (Arr wr (w.heap.size + 1) 150 (cells64 (sched l 16)) ∧ Arr wr w.heap.size 150 (cells64 []) ∧ Ext w wr) := Lib.hid (by
        have e16 : k = 16 := by omega
        rw [e16] at hA
        exact ⟨hA, hB, hext⟩)
      have hb : decide ((k : Int) < 16) = false := decide_eq_false (by omega)
      clear hA hB hext
      go_wp2
      go_loopw [5] (fun i wr => ∃ k : Nat, 16 ≤ k ∧ k ≤ 64 ∧ i = .int .i64 k ∧ Arr wr (w.heap.size + 1) 150 (cells64 (sched l k)) ∧ Arr wr w.heap.size 150 (cells64 []) ∧ Ext w wr) (fun i _ => 64 - (intOf i).toNat)
      case atStart => exact ⟨16, by omega, by omega, rfl, HA.out⟩
      case round =>
        obtain ⟨k, hk0, hk, rfl, hA, hB, hext⟩ := hrel
        by_cases h3 : k < 64
        · have hf := arr_frozen (j := k) hA
          have hc := arr_cell hA (cells64_get (sched l k) (by rw [sched_len]; omega) k (by omega))
          have i15 : ∀ W, (Instr.indexAt 150 (.pointer (some ⟨w.heap.size + 1, 0, none⟩)) (.int .i64 ((k : Int) - 15))).run Tryd.prog W = .ok (.pointer (some ⟨w.heap.size + 1, k - 15, none⟩)) W := fun W => by
            have := hia.out W (k - 15) (by omega)
            rwa [show ((k - 15 : Nat) : Int) = (k : Int) - 15 by omega] at this
          have c15 := arr_cell hA (cells64_get (sched l k) (by rw [sched_len]; omega) (k - 15) (by omega))
          have i2 : ∀ W, (Instr.indexAt 150 (.pointer (some ⟨w.heap.size + 1, 0, none⟩)) (.int .i64 ((k : Int) - 2))).run Tryd.prog W = .ok (.pointer (some ⟨w.heap.size + 1, k - 2, none⟩)) W := fun W => by
            have := hia.out W (k - 2) (by omega)
            rwa [show ((k - 2 : Nat) : Int) = (k : Int) - 2 by omega] at this
          have c2 := arr_cell hA (cells64_get (sched l k) (by rw [sched_len]; omega) (k - 2) (by omega))
          have i16 : ∀ W, (Instr.indexAt 150 (.pointer (some ⟨w.heap.size + 1, 0, none⟩)) (.int .i64 ((k : Int) - 16))).run Tryd.prog W = .ok (.pointer (some ⟨w.heap.size + 1, k - 16, none⟩)) W := fun W => by
            have := hia.out W (k - 16) (by omega)
            rwa [show ((k - 16 : Nat) : Int) = (k : Int) - 16 by omega] at this
          have c16 := arr_cell hA (cells64_get (sched l k) (by rw [sched_len]; omega) (k - 16) (by omega))
          have i7 : ∀ W, (Instr.indexAt 150 (.pointer (some ⟨w.heap.size + 1, 0, none⟩)) (.int .i64 ((k : Int) - 7))).run Tryd.prog W = .ok (.pointer (some ⟨w.heap.size + 1, k - 7, none⟩)) W := fun W => by
            have := hia.out W (k - 7) (by omega)
            rwa [show ((k - 7 : Nat) : Int) = (k : Int) - 7 by omega] at this
          have c7 := arr_cell hA (cells64_get (sched l k) (by rw [sched_len]; omega) (k - 7) (by omega))
          have ik := fun W => hia.out W k h3
          have hn := Lib.hid (sched_high l k hk0)
          have HA := Lib.hid (show _ ∧ _ ∧ _ from ⟨hA, hB, hext⟩)
          clear hA hB hext
          generalize (sched l k).getD (k - 15) 0 = x15 at *
          generalize (sched l k).getD (k - 2) 0 = x2 at *
          generalize (sched l k).getD (k - 16) 0 = x16 at *
          generalize (sched l k).getD (k - 7) 0 = x7 at *
          generalize (sched l k).getD k 0 = x0 at *
          have hsx := sx_int x15
          have hsy := sy_int x2
          go_wp2
          refine wp_region_quiet_lit (by kernel_rfl) (by kernel_rfl) ?_
          repeat (first
            | go_big_quiet_skip
            | (go_big_quiet_want; go_big_quiet_op; (try go_bits); first | go_big_quiet_on | go_big_quiet_call (fail)))
          refine wpQuiet_nil ?_
          intro _ hw'
          obtain ⟨nq, hw''⟩ := hw'
          subst hw''
          go_wp2_with (go_at_call 107; refine (rot_any _ _ (by decide) _).mono ?_; rintro e W3 ⟨rfl, rfl⟩)
          clear hsx hsy
          generalize hwq : wr.drewN nq = wq
          replace hf : wq.frozen? ⟨w.heap.size + 1, k, none⟩ = false := by rw [← hwq]; exact hf
          replace hc : wq.cell? ⟨w.heap.size + 1, k, none⟩ = some (W32 x0) := by rw [← hwq]; exact hc
          replace c7 : wq.cell? ⟨w.heap.size + 1, k - 7, none⟩ = some (W32 x7) := by rw [← hwq]; exact c7
          replace c16 : wq.cell? ⟨w.heap.size + 1, k - 16, none⟩ = some (W32 x16) := by rw [← hwq]; exact c16
          have Hwq := Lib.hid hwq; clear hwq
          go_region
          obtain ⟨hA, hB, hext⟩ := HA.out
          have hv64 : ((x16.toNat : Int) + (shX x15).toNat + x7.toNat + (shY x2).toNat) % 4294967296 = ((x16 + shX x15 + x7 + shY x2).toNat : Int) := by
            simp only [UInt32.toNat_add]; omega
          rw [hv64]
          have hq : Arr wq (w.heap.size + 1) 150 (cells64 (sched l k)) := by rw [← Hwq.out]; exact hA
          have hq2 : Arr wq w.heap.size 150 (cells64 []) := by rw [← Hwq.out]; exact hB
          have hq3 : Ext w wq := by rw [← Hwq.out]; exact hext.drewN nq
          clear hc c7 c16 hf
          have hs := arr_set (j := k) hq (W32 (x16 + shX x15 + x7 + shY x2))
          rw [show (cells64 (sched l k)).setIfInBounds k = (cells64 (sched l k)).setIfInBounds (sched l k).length by rw [sched_len], cells64_set _ (by rw [sched_len]; omega), ← hn.out] at hs
          have HR := Lib.hid (show _ ∧ _ ∧ _ from ⟨hs, arr_other (g := w.heap.size + 1) (j := k) hq2 (by omega) (W32 (x16 + shX x15 + x7 + shY x2)), (ext_set (g := w.heap.size + 1) (j := k) hq3 (by omega) (W32 (x16 + shX x15 + x7 + shY x2))).drewN 1⟩)
          have Hv := Lib.hid hv64
          clear hv64 hq hq2 hq3 hs hA hB hext
          go_wp2
          go_roundw
          case rel => exact ⟨k + 1, by omega, by omega, by first | go_num | omega, by first | exact HR.out | (rw [Hv.out]; exact HR.out)⟩
          case measure => simp [intOf]; omega
        · obtain rfl : k = 64 := by omega
          have HL := Lib.hid (show _ ∧ _ from ⟨hA, hB⟩)
          have h64i := Lib.hid (info64.trans (congrArg some (cells64_size (sched l 64) (by rw [sched_len]; omega)).symm))
          have h64j := Lib.hid ((cells64_size [] (by simp)).trans (cells64_size (sched l 64) (by rw [sched_len]; omega)).symm)
          have h64k := Lib.hid (Array.all_eq_true_iff_forall_mem.2 fun v hv => cells64_one (sched l 64) v (by simpa using hv))
          have hst := setRow_arr hB (cells64 (sched l 64))
          have hex := setRow_ext hext (Nat.le_refl _) (cells64 (sched l 64))
          have Hst := Lib.hid (show _ ∧ _ from ⟨hst, hex⟩)
          clear hA hB hst hex
          go_wp2_with (first | refine wpList_load_row rfl 150 _ rfl (w.heap.size + 1) rfl 150 _ (0, 0) _ HL.out.1 Tryd.underlying150 rfl h64i.out ?_ | refine wpList_store_row rfl 150 _ _ rfl w.heap.size _ rfl rfl 150 _ HL.out.2 h64i.out h64j.out h64k.out ?_)
          refine bodyPost_ret (results_cell_row rfl _ _ w.heap.size 150 _ (0, 0) _ rfl Hst.out.1 Tryd.underlying150 rfl h64i.out) rfl ⟨rfl, Hst.out.2⟩
end Go.Proofs.YtpndahmlbjhdfaaDoor

namespace Go.Proofs.YtpndahmlbjhdfaaDoor
open Go.RowKit
set_option maxRecDepth 1000000
set_option linter.unusedVariables false
set_option linter.unusedSimpArgs false
def cells8 (s : St) : Array Value := #[W32 s.a, W32 s.b, W32 s.c, W32 s.d, W32 s.e, W32 s.f, W32 s.g, W32 s.h]
def OddAt (W : World) : Prop := ∀ j, j < 64 → W.cell? ⟨2, j, none⟩ = some (W32 (shK.getD j 0))
theorem OddAt.ext {w w' : World} (h : OddAt w) (he : Ext w w') : OddAt w' := fun j hj => ext_cell he (h j hj)
theorem up_int (e : UInt32) : bits .xor .u32 (bits .xor .u32 ((rr e (rotN (-6))).toNat : Int) ((rr e (rotN (-11))).toNat : Int)) ((rr e (rotN (-25))).toNat : Int) = ((shUp e).toNat : Int) := by rw [w_xor, w_xor]; rfl
theorem low_int (e : UInt32) : bits .xor .u32 (bits .xor .u32 ((rr e (rotN (-2))).toNat : Int) ((rr e (rotN (-13))).toNat : Int)) ((rr e (rotN (-22))).toNat : Int) = ((shLow e).toNat : Int) := by rw [w_xor, w_xor]; rfl
theorem pick_int (e f g : UInt32) : bits .xor .u32 (bits .and .u32 (e.toNat : Int) (f.toNat : Int)) (bits .and .u32 (bits .xor .u32 IntKind.u32.max (e.toNat : Int)) (g.toNat : Int)) = ((shPick e f g).toNat : Int) := by rw [show IntKind.u32.max = 4294967295 from rfl, w_not, w_and, w_and, w_xor]; rfl
theorem most_int (a b c : UInt32) : bits .xor .u32 (bits .xor .u32 (bits .and .u32 (a.toNat : Int) (b.toNat : Int)) (bits .and .u32 (a.toNat : Int) (c.toNat : Int))) (bits .and .u32 (b.toNat : Int) (c.toNat : Int)) = ((shMost a b c).toNat : Int) := by rw [w_and, w_and, w_and, w_xor, w_xor]; rfl
theorem add3_int (x y z : UInt32) : ((x.toNat : Int) + y.toNat + z.toNat) % 4294967296 = ((x + y + z).toNat : Int) := by simp only [UInt32.toNat_add]; omega
theorem add5_int (x y z u v : UInt32) : ((x.toNat : Int) + y.toNat + z.toNat + u.toNat + v.toNat) % 4294967296 = ((x + y + z + u + v).toNat : Int) := by simp only [UInt32.toNat_add]; omega
/-- The first k words are added. -/
def addK (s v : St) (k : Nat) : St := ⟨if 0 < k then s.a + v.a else s.a, if 1 < k then s.b + v.b else s.b, if 2 < k then s.c + v.c else s.c, if 3 < k then s.d + v.d else s.d, if 4 < k then s.e + v.e else s.e, if 5 < k then s.f + v.f else s.f, if 6 < k then s.g + v.g else s.g, if 7 < k then s.h + v.h else s.h⟩
theorem rndA_int (h u p k x low most : UInt32) : (((h.toNat : Int) + u.toNat + p.toNat + k.toNat + x.toNat + low.toNat) % 4294967296 + most.toNat) % 4294967296 = ((h + u + p + k + x + low + most).toNat : Int) := by simp only [UInt32.toNat_add]; omega
theorem rndE_int (d h u p k x : UInt32) : ((d.toNat : Int) + ((h.toNat : Int) + u.toNat + p.toNat + k.toNat + x.toNat) % 4294967296) % 4294967296 = ((d + (h + u + p + k + x)).toNat : Int) := by simp only [UInt32.toNat_add]; omega
/-- The k-th word. -/
def wd (s : St) (k : Nat) : UInt32 := s.words.getD k 0
theorem eight {p : Nat → Prop} (h0 : p 0) (h1 : p 1) (h2 : p 2) (h3 : p 3) (h4 : p 4) (h5 : p 5) (h6 : p 6) (h7 : p 7) : ∀ k, k < 8 → p k := by
  intro k hk
  obtain rfl | rfl | rfl | rfl | rfl | rfl | rfl | rfl : k = 0 ∨ k = 1 ∨ k = 2 ∨ k = 3 ∨ k = 4 ∨ k = 5 ∨ k = 6 ∨ k = 7 := by omega
  all_goals assumption
theorem cells8_get (s : St) : ∀ k, k < 8 → (cells8 s)[k]? = some (W32 (wd s k)) := by apply eight <;> rfl
theorem addK_get (s v : St) : ∀ k, k < 8 → (cells8 (addK s v k))[k]? = some (W32 (wd s k)) := by apply eight <;> rfl
theorem addK_set (s v : St) : ∀ k, k < 8 → (cells8 (addK s v k)).setIfInBounds k (W32 (wd s k + wd v k)) = cells8 (addK s v (k + 1)) := by apply eight <;> rfl
theorem addK_zero (s v : St) : addK s v 0 = s := rfl
theorem addK_all (s v : St) : addK s v 8 = shAdd s v := rfl
theorem info8 : (Tryd.prog.info? 133).map (·.size) = some 8 := by kernel_rfl
theorem run_index8 (v : St) : ∀ k : Nat, k < 8 → ∀ W, (Instr.index 103 (.agg (cells8 v)) (.int .i64 (k : Int))).run Tryd.prog W = .ok (W32 (wd v k)) W := by
  apply eight <;> exact fun W => by kernel_rfl
set_option maxHeartbeats 1000000 in
theorem step_any (g : Nat) (s : St) (v : Value) (l : List UInt8) (w : World) (hs : Arr w g 133 (cells8 s)) (hv : SlB w v l) (h64 : l.length = 64) (hO : OddAt w) :
    Calls Tryd.prog 84 #[.pointer (some ⟨g, 0, none⟩), v] w fun e w' => e = .returned (.tuple #[]) ∧ Arr w' g 133 (cells8 (shStep s l)) ∧ Chg (fun k => k = g) w w' := by
  have H64 := Lib.hid (info64.trans (congrArg some (cells64_size (sched l 64) (by rw [sched_len]; omega)).symm))
  have H64j := Lib.hid (show (64 : Nat) = (cells64 (sched l 64)).size from (cells64_size (sched l 64) (by rw [sched_len]; omega)).symm)
  have H64k := Lib.hid (Array.all_eq_true_iff_forall_mem.2 fun v hv => cells64_one (sched l 64) v (by simpa using hv))
  have HS := Lib.hid (show _ ∧ _ ∧ _ ∧ _ from ⟨hs, hv, h64, hO⟩)
  have hg : g < w.heap.size := (Array.getElem?_eq_some_iff.1 hs).1
  have hcall := Lib.hid (spread_any v l w hv h64)
  clear hs hv h64 hO
  go_enter Tryd.func84, Tryd.ntmps84
  go_wp2_with (first | (go_at_call 106; refine (hcall.out).mono ?_; rintro e w1 ⟨rfl, hx1⟩) | refine wpList_store_row rfl 150 _ _ rfl w1.heap.size _ rfl rfl 150 _ (heap_alloc_last w1 _) H64.out H64j.out H64k.out ?_)
  simp only [Act.put]
  obtain ⟨W1, hW1⟩ : ∃ W1, (w1.alloc (Obj.cells (Array.replicate 64 (Value.int .u32 0)) 150)).setRow w1.heap.size (cells64 (sched l 64)) = W1 := ⟨_, rfl⟩
  simp only [Array.replicate, List.replicate] at hW1
  rw [hW1]
  have hx2 : Ext w W1 := by
    rw [← hW1]
    exact setRow_ext (ext_trans hx1 (Below.alloc (Below.refl _ w1) (Nat.le_refl _) _)) hx1.size _
  have hA1 : Arr W1 w1.heap.size 150 (cells64 (sched l 64)) := by
    rw [← hW1]; exact setRow_arr (heap_alloc_last w1 _) _
  have hs1 : Arr W1 g 133 (cells8 s) := (hx2.block g hg).trans HS.out.1
  have HO := Lib.hid (HS.out.2.2.2.ext hx2)
  have hne : g ≠ w1.heap.size := by have := hx1.size; omega
  have HA := Lib.hid (show _ ∧ _ ∧ _ from ⟨hA1, hs1, hx2⟩)
  have c0 : W1.cell? ⟨g, 0, none⟩ = some (W32 s.a) := arr_cell hs1 (by rfl)
  have c1 : W1.cell? ⟨g, 1, none⟩ = some (W32 s.b) := arr_cell hs1 (by rfl)
  have c2 : W1.cell? ⟨g, 2, none⟩ = some (W32 s.c) := arr_cell hs1 (by rfl)
  have c3 : W1.cell? ⟨g, 3, none⟩ = some (W32 s.d) := arr_cell hs1 (by rfl)
  have c4 : W1.cell? ⟨g, 4, none⟩ = some (W32 s.e) := arr_cell hs1 (by rfl)
  have c5 : W1.cell? ⟨g, 5, none⟩ = some (W32 s.f) := arr_cell hs1 (by rfl)
  have c6 : W1.cell? ⟨g, 6, none⟩ = some (W32 s.g) := arr_cell hs1 (by rfl)
  have c7 : W1.cell? ⟨g, 7, none⟩ = some (W32 s.h) := arr_cell hs1 (by rfl)
  clear hW1 hA1 hs1 hx2
  go_wp2
  refine wp_region_quiet_lit (by kernel_rfl) (by kernel_rfl) ?_
  repeat (first
    | go_big_quiet_skip
    | (go_big_quiet_want; go_big_quiet_op; (try go_bits); first | go_big_quiet_on | go_big_quiet_call (fail)))
  refine wpQuiet_nil ?_
  intro _ hw'
  obtain ⟨nq, hw''⟩ := hw'
  subst hw''
  clear c0 c1 c2 c3 c4 c5 c6 c7
  go_wp2
  have hia := Lib.hid (run_index_arr (P := Tryd.prog) Tryd.underlying150 Tryd.sizeOf102 w1.heap.size)
  have hio := Lib.hid (run_index_arr (P := Tryd.prog) Tryd.underlying150 Tryd.sizeOf102 2)
  have HA2 := Lib.hid (show Arr (W1.drewN nq) w1.heap.size 150 (cells64 (sched l 64)) ∧ Arr (W1.drewN nq) g 133 (cells8 s) ∧ Ext w (W1.drewN nq) from ⟨HA.out.1, HA.out.2.1, ext_drewN HA.out.2.2 _⟩)
  have HO2 := Lib.hid (show OddAt (W1.drewN nq) from HO.out)
  clear HA HO H64 H64j H64k hcall
  generalize W1.drewN nq = W2 at *
  go_loopw [5, 6, 7, 8, 9, 10, 11, 12, 55] (fun va vb vc vd ve vf vg vh i wr => ∃ (k : Nat) (a b c d e f g h : UInt32), k ≤ 64 ∧ shRnds l s k = ⟨a, b, c, d, e, f, g, h⟩ ∧ (∃ m, wr = W2.drewN m) ∧ i = .int .i64 k ∧ va = W32 a ∧ vb = W32 b ∧ vc = W32 c ∧ vd = W32 d ∧ ve = W32 e ∧ vf = W32 f ∧ vg = W32 g ∧ vh = W32 h) (fun _ _ _ _ _ _ _ _ i _ => 64 - (intOf i).toNat)
  case atStart => exact ⟨0, s.a, s.b, s.c, s.d, s.e, s.f, s.g, s.h, by omega, rfl, ⟨0, rfl⟩, rfl, rfl, rfl, rfl, rfl, rfl, rfl, rfl, rfl⟩
  case round =>
    obtain ⟨k, va, vb, vc, vd, ve, vf, vg, vh, hk, hv, ⟨m, rfl⟩, rfl, rfl, rfl, rfl, rfl, rfl, rfl, rfl, rfl⟩ := hrel
    by_cases h3 : k < 64
    · have ia := fun W => hia.out W k h3
      have io := fun W => hio.out W k h3
      have ca : W2.cell? ⟨w1.heap.size, k, none⟩ = some (W32 ((sched l 64).getD k 0)) := arr_cell HA2.out.1 (cells64_get (sched l 64) (by rw [sched_len]; omega) k h3)
      have co : W2.cell? ⟨2, k, none⟩ = some (W32 (shK.getD k 0)) := HO2.out k h3
      have hn := Lib.hid (show shRnds l s (k + 1) = shRnd ⟨va, vb, vc, vd, ve, vf, vg, vh⟩ (shK.getD k 0) ((sched l 64).getD k 0) by rw [← hv]; rfl)
      clear hv
      generalize (sched l 64).getD k 0 = xw at *
      generalize shK.getD k 0 = xk at *
      have hup := up_int ve
      have hpick := pick_int ve vf vg
      have hlow := low_int va
      have hmost := most_int va vb vc
      go_wp2_with (go_at_call 107; refine (rot_any _ _ (by decide) _).mono ?_; rintro e W3 ⟨rfl, rfl⟩)
      clear hup hpick
      have bh := w_lt vh
      have bu := w_lt (shUp ve)
      have bp := w_lt (shPick ve vf vg)
      have bk := w_lt xk
      have bw := w_lt xw
      refine wp_region_quiet_lit (by kernel_rfl) (by kernel_rfl) ?_
      repeat (first
        | go_big_quiet_skip
        | (go_big_quiet_want; go_big_quiet_op; (try go_bits); first | go_big_quiet_on | go_big_quiet_call (fail)))
      refine wpQuiet_nil ?_
      intro _ hw'
      obtain ⟨nq, hw''⟩ := hw'
      subst hw''
      go_wp2_with (go_at_call 107; refine (rot_any _ _ (by decide) _).mono ?_; rintro e W3 ⟨rfl, rfl⟩)
      refine ⟨⟨k + 1, _, _, _, _, _, _, _, _, by omega, hn.out, ⟨_, rfl⟩, by go_num, congrArg (Value.int .u32) (rndA_int _ _ _ _ _ _ _), rfl, rfl, rfl, congrArg (Value.int .u32) (rndE_int _ _ _ _ _ _), rfl, rfl, rfl⟩, by simp [intOf]; omega⟩
    · obtain rfl : k = 64 := by omega
      clear hia hio
      generalize hvv : (⟨va, vb, vc, vd, ve, vf, vg, vh⟩ : St) = vv at hv
      have Hfin := Lib.hid (show shStep s l = addK s vv 8 by rw [addK_all, ← hv]; rfl)
      clear hv
      go_wp2
      have hA := HA2.out.2.1
      have hC : Chg (fun k => k = g) w W2 := Chg.of_ext _ HA2.out.2.2
      clear HA2 HO2 HS
      have hi8 := Lib.hid (run_index_arr (P := Tryd.prog) Tryd.underlying133 Tryd.sizeOf102 g)
      go_loopw [130] (fun i wr => ∃ k : Nat, k ≤ 8 ∧ i = .int .i64 k ∧ Arr wr g 133 (cells8 (addK s vv k)) ∧ Chg (fun k => k = g) w wr) (fun i _ => 8 - (intOf i).toNat)
      case atStart => exact ⟨0, by omega, rfl, hA, hC.trans (Chg.of_ext _ (ext_drewN (ext_refl _) _))⟩
      case round =>
        obtain ⟨k, hk, rfl, hA, hC⟩ := hrel
        by_cases h3 : k < 8
        · have hf := arr_frozen (j := k) hA
          have hc := arr_cell hA (addK_get s vv k h3)
          have ik := fun W => hi8.out W k h3
          have ix : ∀ W, (Instr.index 103 (.agg #[W32 va, W32 vb, W32 vc, W32 vd, W32 ve, W32 vf, W32 vg, W32 vh]) (.int .i64 (k : Int))).run Tryd.prog W = .ok (W32 (wd vv k)) W := by rw [← hvv]; exact run_index8 ⟨va, vb, vc, vd, ve, vf, vg, vh⟩ k h3
          have hset := Lib.hid (addK_set s vv k h3)
          have HA := Lib.hid (show _ ∧ _ from ⟨hA, hC⟩)
          clear hA hC
          have hadd := w_add (wd s k) (wd vv k)
          have b1 := w_lt (wd s k)
          have b2 := w_lt (wd vv k)
          have Hvv := Lib.hid hvv; clear hvv
          generalize wd s k = y1 at *
          generalize wd vv k = y2 at *
          go_wp2
          go_region
          go_wp2
          go_roundw
          case rel =>
            iterate 16 apply Exists.intro
            refine ⟨?_, rfl⟩
            refine ⟨k + 1, by omega, by go_num, ?_, ?_⟩
            · rw [hadd, ← hset.out]; exact arr_set HA.out.1 _
            · exact (HA.out.2.trans (Chg.setCell wr ⟨g, k, none⟩ _)).trans (Chg.drewN _ _ 1)
          case measure => simp [intOf]; omega
        · obtain rfl : k = 8 := by omega
          clear hvv
          go_wp2
          go_end0
          exact ⟨rfl, by rw [Hfin.out]; exact hA, hC⟩
end Go.Proofs.YtpndahmlbjhdfaaDoor

namespace Go.Proofs.YtpndahmlbjhdfaaDoor
open Go.RowKit
set_option maxRecDepth 100000
set_option linter.unusedVariables false
set_option linter.unusedSimpArgs false
theorem byt_ofNat (n : Nat) : Byt (UInt8.ofNat n) = .int .u8 ((n : Int) % 256) := by
  simp only [Byt, UInt8.toNat_ofNat']; congr 1
theorem words_len (s : St) : s.words.length = 8 := rfl
theorem words_take (s : St) (k : Nat) (h : k < 8) : (s.words.take (k + 1)).flatMap shBe = (s.words.take k).flatMap shBe ++ shBe (wd s k) := by
  rw [List.take_succ_eq_append_getElem (by rw [words_len]; exact h), List.flatMap_append, List.flatMap_singleton]
  congr 2
  simp [wd, List.getElem?_eq_getElem (show k < s.words.length from h)]
theorem words_out_len (s : St) (k : Nat) (h : k ≤ 8) : ((s.words.take k).flatMap shBe).length = 4 * k := by
  induction k with
  | zero => simp
  | succ k ih => rw [words_take s k (by omega), List.length_append, ih (by omega)]; rfl
theorem shBe_cells (x : UInt32) : (shBe x).map Byt = [.int .u8 ((x.toNat : Int) / 16777216), .int .u8 ((x.toNat : Int) / 65536 % 256), .int .u8 ((x.toNat : Int) / 256 % 256), .int .u8 ((x.toNat : Int) % 256)] := by
  have hx := w_lt x
  simp only [shBe, List.map_cons, List.map_nil, byt_ofNat]
  rw [show ((x.toNat / 16777216 : Nat) : Int) % 256 = (x.toNat : Int) / 16777216 by omega]
  rfl
theorem own_last {W : World} {base e n : Nat} {v : Value} {xs : List Value} {a b : Int} (h : W.ownsRow base e 1 v n (xs ++ [.int .u8 a])) (hab : a = b) : W.ownsRow base e 1 v n (xs ++ [.int .u8 b]) := hab ▸ h
theorem sl_new (W : World) (us : List Value) (e : TypeId) (h : us.length ≤ 1000) : Sl (W.alloc (.cells us.toArray e)) (.slice (some ⟨W.heap.size, 0, none⟩) us.length us.length) us := by
  refine ⟨_, _, rfl, Nat.le_refl _, by unfold maxLen; omega, (fun h => by cases h), fun j u hu => ?_⟩
  exact new_cells W us e j u hu
set_option maxHeartbeats 400000 in
theorem bytes_any (g : Nat) (s : St) (w : World) (hs : Arr w g 133 (cells8 s)) :
    Calls Tryd.prog 85 #[.pointer (some ⟨g, 0, none⟩)] w fun e w' => ∃ v', e = .returned v' ∧ w'.ownsRow w.heap.size 5 1 v' 32 ((shOut s).map Byt) ∧ Ext w w' := by
  have hi8 := Lib.hid (run_index_arr (P := Tryd.prog) Tryd.underlying133 Tryd.sizeOf102 g)
  go_enter Tryd.func85, Tryd.ntmps85
  have HS := Lib.hid hs; clear hs
  go_wp2
  go_loopw [3, 7] (fun v i wr => ∃ k : Nat, k ≤ 8 ∧ i = .int .i64 k ∧ wr.ownsRow w.heap.size 5 1 v (4 * k) (((s.words.take k).flatMap shBe).map Byt) ∧ Ext w wr) (fun _ i _ => 8 - (intOf i).toNat)
  case atStart => exact ⟨0, by omega, rfl, World.ownsRow_nil _ _ _ _, Below.refl _ _⟩
  case round =>
    obtain ⟨k, hk, rfl, hown, hext⟩ := hrel
    by_cases h3 : k < 8
    · have hc : wr.cell? ⟨g, k, none⟩ = some (W32 (wd s k)) := ext_cell hext (arr_cell HS.out (cells8_get s k h3))
      have ik := fun W => hi8.out W k h3
      have hnx := Lib.hid (words_take s k h3)
      have hbe := Lib.hid (shBe_cells (wd s k))
      have hx := w_lt (wd s k)
      generalize wd s k = x at *
      obtain ⟨ys, hys⟩ : ∃ ys : List Value, ys = [.int .u8 ((x.toNat : Int) / 16777216), .int .u8 ((x.toNat : Int) / 65536 % 256), .int .u8 ((x.toNat : Int) / 256 % 256), .int .u8 ((x.toNat : Int) % 256)] := ⟨_, rfl⟩
      have HN := Lib.hid (sl_new wr [.int .u8 ((x.toNat : Int) / 16777216), .int .u8 ((x.toNat : Int) / 65536 % 256), .int .u8 ((x.toNat : Int) / 256 % 256), .int .u8 ((x.toNat : Int) % 256)] 5 (by simp))
      have HO := Lib.hid (hown.alloc (.cells #[.int .u8 ((x.toNat : Int) / 16777216), .int .u8 ((x.toNat : Int) / 65536 % 256), .int .u8 ((x.toNat : Int) / 256 % 256), .int .u8 ((x.toNat : Int) % 256)] 5))
      have H1 := Lib.hid (show ∀ y ∈ ([.int .u8 ((x.toNat : Int) / 16777216), .int .u8 ((x.toNat : Int) / 65536 % 256), .int .u8 ((x.toNat : Int) / 256 % 256), .int .u8 ((x.toNat : Int) % 256)] : List Value), y.oneCell' = true by simp [Value.oneCell'])
      have hsz := hext.size
      go_wp2_with (at_builtin; refine wpList_more w.heap.size rfl _ _ 45 5 rfl Tryd.underlying45 infoByte rfl (by omega) HO.out HN.out H1.out (by simp; omega) (by simp; omega) rfl rfl ?_; rintro v' w1 hown1 hgr1)
      go_roundw
      case rel => exact ⟨k + 1, by omega, by go_num, by rw [hnx.out, List.map_append, hbe.out]; exact hown1, ext_push hext hown (grownBy_from hgr1)⟩
      case measure => simp [intOf]; omega
    · obtain rfl : k = 8 := by omega
      go_wp2
      go_ret
      exact ⟨_, rfl, hown, hext⟩
/-- A number's eight bytes. -/
theorem shLong_take (n k : Nat) (h : k < 8) : (shLong n).take (k + 1) = (shLong n).take k ++ [UInt8.ofNat (n / 256 ^ (7 - k))] := by
  rw [List.take_succ_eq_append_getElem (by simpa [shLong] using h)]
  simp [shLong]
theorem shLong_len (n : Nat) : (shLong n).length = 8 := by simp [shLong]
set_option maxHeartbeats 400000 in
theorem long_any (n : Nat) (w : World) (hn : n < 1000000000) :
    Calls Tryd.prog 125 #[.int .u64 (n : Int)] w fun e w' => ∃ v', e = .returned v' ∧ w'.ownsRow w.heap.size 5 1 v' 8 ((shLong n).map Byt) ∧ Ext w w' := by
  go_enter Tryd.func125, Tryd.ntmps125
  go_wp2
  go_loopw [3, 5] (fun v i wr => ∃ k : Nat, k ≤ 8 ∧ i = .int .i64 k ∧ wr.ownsRow w.heap.size 5 1 v k (((shLong n).take k).map Byt) ∧ Ext w wr) (fun _ i _ => 8 - (intOf i).toNat)
  case atStart => exact ⟨0, by omega, rfl, World.ownsRow_nil _ _ _ _, Below.refl _ _⟩
  case round =>
    obtain ⟨k, hk, rfl, hown, hext⟩ := hrel
    by_cases h3 : k < 8
    · have hnx := Lib.hid (shLong_take n k h3)
      obtain rfl | rfl | rfl | rfl | rfl | rfl | rfl | rfl : k = 0 ∨ k = 1 ∨ k = 2 ∨ k = 3 ∨ k = 4 ∨ k = 5 ∨ k = 6 ∨ k = 7 := by omega
      · have hb := Lib.hid (byt_ofNat (n / 256 ^ (7 - 0)))
        go_wp2_with (at_builtin; refine wpList_push w.heap.size rfl _ _ 45 5 rfl Tryd.underlying45 infoByte rfl (by omega) hown _ rfl (by omega) hext.size rfl rfl ?_; rintro _ w1 ⟨g1, cap1, rfl⟩ hown1 hgr1)
        go_roundw
        case rel => exact ⟨0 + 1, by omega, rfl, by rw [hnx.out, List.map_append, List.map_singleton, hb.out, show 256 ^ (7 - 0) = 72057594037927936 from rfl]; exact own_last hown1 (by omega), ext_push hext hown hgr1⟩
        case measure => simp [intOf] <;> omega
      · have hb := Lib.hid (byt_ofNat (n / 256 ^ (7 - 1)))
        go_wp2_with (at_builtin; refine wpList_push w.heap.size rfl _ _ 45 5 rfl Tryd.underlying45 infoByte rfl (by omega) hown _ rfl (by omega) hext.size rfl rfl ?_; rintro _ w1 ⟨g1, cap1, rfl⟩ hown1 hgr1)
        go_roundw
        case rel => exact ⟨1 + 1, by omega, rfl, by rw [hnx.out, List.map_append, List.map_singleton, hb.out, show 256 ^ (7 - 1) = 281474976710656 from rfl]; exact own_last hown1 (by omega), ext_push hext hown hgr1⟩
        case measure => simp [intOf] <;> omega
      · have hb := Lib.hid (byt_ofNat (n / 256 ^ (7 - 2)))
        go_wp2_with (at_builtin; refine wpList_push w.heap.size rfl _ _ 45 5 rfl Tryd.underlying45 infoByte rfl (by omega) hown _ rfl (by omega) hext.size rfl rfl ?_; rintro _ w1 ⟨g1, cap1, rfl⟩ hown1 hgr1)
        go_roundw
        case rel => exact ⟨2 + 1, by omega, rfl, by rw [hnx.out, List.map_append, List.map_singleton, hb.out, show 256 ^ (7 - 2) = 1099511627776 from rfl]; exact own_last hown1 (by omega), ext_push hext hown hgr1⟩
        case measure => simp [intOf] <;> omega
      · have hb := Lib.hid (byt_ofNat (n / 256 ^ (7 - 3)))
        go_wp2_with (at_builtin; refine wpList_push w.heap.size rfl _ _ 45 5 rfl Tryd.underlying45 infoByte rfl (by omega) hown _ rfl (by omega) hext.size rfl rfl ?_; rintro _ w1 ⟨g1, cap1, rfl⟩ hown1 hgr1)
        go_roundw
        case rel => exact ⟨3 + 1, by omega, rfl, by rw [hnx.out, List.map_append, List.map_singleton, hb.out, show 256 ^ (7 - 3) = 4294967296 from rfl]; exact own_last hown1 (by omega), ext_push hext hown hgr1⟩
        case measure => simp [intOf] <;> omega
      · have hb := Lib.hid (byt_ofNat (n / 256 ^ (7 - 4)))
        go_wp2_with (at_builtin; refine wpList_push w.heap.size rfl _ _ 45 5 rfl Tryd.underlying45 infoByte rfl (by omega) hown _ rfl (by omega) hext.size rfl rfl ?_; rintro _ w1 ⟨g1, cap1, rfl⟩ hown1 hgr1)
        go_roundw
        case rel => exact ⟨4 + 1, by omega, rfl, by rw [hnx.out, List.map_append, List.map_singleton, hb.out, show 256 ^ (7 - 4) = 16777216 from rfl]; exact own_last hown1 (by omega), ext_push hext hown hgr1⟩
        case measure => simp [intOf] <;> omega
      · have hb := Lib.hid (byt_ofNat (n / 256 ^ (7 - 5)))
        go_wp2_with (at_builtin; refine wpList_push w.heap.size rfl _ _ 45 5 rfl Tryd.underlying45 infoByte rfl (by omega) hown _ rfl (by omega) hext.size rfl rfl ?_; rintro _ w1 ⟨g1, cap1, rfl⟩ hown1 hgr1)
        go_roundw
        case rel => exact ⟨5 + 1, by omega, rfl, by rw [hnx.out, List.map_append, List.map_singleton, hb.out, show 256 ^ (7 - 5) = 65536 from rfl]; exact own_last hown1 (by omega), ext_push hext hown hgr1⟩
        case measure => simp [intOf] <;> omega
      · have hb := Lib.hid (byt_ofNat (n / 256 ^ (7 - 6)))
        go_wp2_with (at_builtin; refine wpList_push w.heap.size rfl _ _ 45 5 rfl Tryd.underlying45 infoByte rfl (by omega) hown _ rfl (by omega) hext.size rfl rfl ?_; rintro _ w1 ⟨g1, cap1, rfl⟩ hown1 hgr1)
        go_roundw
        case rel => exact ⟨6 + 1, by omega, rfl, by rw [hnx.out, List.map_append, List.map_singleton, hb.out, show 256 ^ (7 - 6) = 256 from rfl]; exact own_last hown1 (by omega), ext_push hext hown hgr1⟩
        case measure => simp [intOf] <;> omega
      · have hb := Lib.hid (byt_ofNat (n / 256 ^ (7 - 7)))
        go_wp2_with (at_builtin; refine wpList_push w.heap.size rfl _ _ 45 5 rfl Tryd.underlying45 infoByte rfl (by omega) hown _ rfl (by omega) hext.size rfl rfl ?_; rintro _ w1 ⟨g1, cap1, rfl⟩ hown1 hgr1)
        go_roundw
        case rel => exact ⟨7 + 1, by omega, rfl, by rw [hnx.out, List.map_append, List.map_singleton, hb.out, show 256 ^ (7 - 7) = 1 from rfl]; exact own_last hown1 (by omega), ext_push hext hown hgr1⟩
        case measure => simp [intOf] <;> omega
    · obtain rfl : k = 8 := by omega
      go_wp2
      go_ret
      exact ⟨_, rfl, by rw [List.take_of_length_le (by rw [shLong_len]; omega)] at hown; exact hown, hext⟩
end Go.Proofs.YtpndahmlbjhdfaaDoor

namespace Go.Proofs.YtpndahmlbjhdfaaDoor
open Go.RowKit
set_option maxRecDepth 100000
set_option linter.unusedVariables false
set_option linter.unusedSimpArgs false
theorem own_built (w : World) (b e : Nat) (us : List Value) (hb : b ≤ w.heap.size) (h : us.length ≤ 1000) : (w.alloc (.cells us.toArray e)).ownsRow b e 1 (.slice (some ⟨w.heap.size, 0, none⟩) us.length us.length) us.length us :=
  ⟨by simp, .inr ⟨w.heap.size, us.length, us.toArray, rfl, hb, heap_alloc_new w _, by omega, by unfold maxLen; omega, by simp, by simp⟩⟩
def padN (n : Nat) : Nat := (119 - n % 64) % 64
theorem shTail_eq (n : Nat) : shTail n = (128 :: List.replicate (padN n) 0) ++ shLong (8 * n) := rfl
set_option maxHeartbeats 400000 in
theorem ends_any (n : Nat) (w : World) (hn : n < 1000000) :
    Calls Tryd.prog 104 #[.int .u64 (n : Int)] w fun e w' => ∃ v', e = .returned v' ∧ w'.ownsRow w.heap.size 5 1 v' (shTail n).length ((shTail n).map Byt) ∧ Ext w w' := by
  go_enter Tryd.func104, Tryd.ntmps104
  go_wp2
  obtain ⟨W1, hW1⟩ : ∃ W1, w.alloc (.cells #[.int .u8 128] 5) = W1 := ⟨_, rfl⟩
  have ho1 : W1.ownsRow w.heap.size 5 1 (.slice (some ⟨w.heap.size, 0, none⟩) 1 1) 1 [.int .u8 128] := by rw [← hW1]; exact own_built w w.heap.size 5 [.int .u8 128] (Nat.le_refl _) (by simp)
  have hx1 : Ext w W1 := by rw [← hW1]; exact Below.alloc (Below.refl _ w) (Nat.le_refl _) _
  rw [hW1]
  clear hW1
  go_loopw [3] (fun v wr => ∃ k : Nat, k ≤ padN n ∧ wr.ownsRow w.heap.size 5 1 v (k + 1) ((128 :: List.replicate k 0).map Byt) ∧ Ext w wr) (fun v _ => padN n + 1 - (match v with | .slice _ m _ => m | _ => 0))
  case atStart => exact ⟨0, by omega, ho1, hx1⟩
  case round =>
    obtain ⟨k, hk, hown, hext⟩ := hrel
    have hsh := own_shape hown (by omega)
    obtain ⟨g, cap, rfl, hg⟩ := hsh
    have hpad : padN n < 64 := Nat.mod_lt _ (by omega)
    by_cases h3 : k < padN n
    · have hmod : ((n : Int) + ((k : Int) + 1) + 8) % 64 ≠ 0 := by unfold padN at h3 hk; omega
      go_wp2_with (at_builtin; refine wpList_push w.heap.size rfl _ _ 45 5 rfl Tryd.underlying45 infoByte rfl (by omega) hown (Byt 0) rfl (by omega) hext.size rfl rfl ?_; rintro _ w1 ⟨g1, cap1, rfl⟩ hown1 hgr1)
      go_roundw
      case rel => exact ⟨k + 1, by omega, by rw [List.replicate_succ', ← List.cons_append, List.map_append]; exact hown1, ext_push hext hown hgr1⟩
      case measure => simp; omega
    · obtain rfl : k = padN n := by omega
      have hmod : ((n : Int) + ((padN n : Int) + 1) + 8) % 64 = 0 := by unfold padN; omega
      have hL := Lib.hid (long_any (8 * n) wr (by omega))
      have HE := Lib.hid (shTail_eq n)
      have hsz := hext.size
      generalize padN n = p at *
      have H1 := Lib.hid (byt_one (shLong (8 * n)))
      go_wp2_with (first | (go_at_call 125; refine (hL.out).mono ?_; rintro e w2 ⟨v2, rfl, ho2, hx2⟩) | (at_builtin; refine wpList_more w.heap.size rfl _ _ 45 5 rfl Tryd.underlying45 infoByte rfl (by omega) (own_ext hown hx2) (sl_of_own ho2) H1.out (by simp [shLong]; omega) (by have := hx2.size; omega) rfl rfl ?_; rintro v' w3 hown3 hgr3))
      go_ret
      refine ⟨_, rfl, ?_, ext_push (ext_trans hext hx2) (own_ext hown hx2) hgr3⟩
      rw [HE.out]
      have e1 : ((128 :: List.replicate p (0 : UInt8)) ++ shLong (8 * n)).length = p + 1 + ((shLong (8 * n)).map Byt).length := by simp; omega
      rw [e1, List.map_append]
      exact hown3
end Go.Proofs.YtpndahmlbjhdfaaDoor
