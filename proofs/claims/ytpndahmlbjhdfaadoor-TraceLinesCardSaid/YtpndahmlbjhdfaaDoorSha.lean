/-
  SHA-256 in plain words.
-/
namespace Go.Proofs.YtpndahmlbjhdfaaDoor
/-- A word turned to the right. -/
def rr (x : UInt32) (n : UInt32) : UInt32 := x >>> n ||| x <<< (32 - n)
def shUp (e : UInt32) : UInt32 := rr e 6 ^^^ rr e 11 ^^^ rr e 25
def shLow (a : UInt32) : UInt32 := rr a 2 ^^^ rr a 13 ^^^ rr a 22
def shPick (e f g : UInt32) : UInt32 := (e &&& f) ^^^ (~~~e &&& g)
def shMost (a b c : UInt32) : UInt32 := (a &&& b) ^^^ (a &&& c) ^^^ (b &&& c)
def shX (a : UInt32) : UInt32 := rr a 7 ^^^ rr a 18 ^^^ (a >>> 3)
def shY (b : UInt32) : UInt32 := rr b 17 ^^^ rr b 19 ^^^ (b >>> 10)
structure St where
  (a b c d e f g h : UInt32)
/-- A round. -/
def shRnd (v : St) (k w : UInt32) : St :=
  let x := v.h + shUp v.e + shPick v.e v.f v.g + k + w
  ⟨x + shLow v.a + shMost v.a v.b v.c, v.a, v.b, v.c, v.d + x, v.e, v.f, v.g⟩
/-- The t-th word of a block. -/
def shWord (p : List UInt8) (t : Nat) : UInt32 := UInt32.ofNat ((((p.getD (4 * t) 0).toNat * 256 + (p.getD (4 * t + 1) 0).toNat) * 256 + (p.getD (4 * t + 2) 0).toNat) * 256 + (p.getD (4 * t + 3) 0).toNat)
def shNext (p : List UInt8) (l : List UInt32) : UInt32 :=
  if l.length < 16 then shWord p l.length else l.getD (l.length - 16) 0 + shX (l.getD (l.length - 15) 0) + l.getD (l.length - 7) 0 + shY (l.getD (l.length - 2) 0)
/-- The first t words. -/
def sched (p : List UInt8) : Nat → List UInt32
  | 0 => []
  | t + 1 => sched p t ++ [shNext p (sched p t)]
theorem sched_len (p : List UInt8) : ∀ t, (sched p t).length = t
  | 0 => rfl
  | t + 1 => by simp [sched, sched_len p t]
theorem sched_get (p : List UInt8) (j : Nat) : ∀ t, j < t → (sched p t).getD j 0 = shNext p (sched p j)
  | 0, h => by omega
  | t + 1, h => by
    by_cases hj : j < t
    · rw [sched, List.getD_eq_getElem?_getD, List.getElem?_append_left (by rw [sched_len]; exact hj), ← List.getD_eq_getElem?_getD, sched_get p j t hj]
    · obtain rfl : j = t := by omega
      rw [sched, List.getD_eq_getElem?_getD, List.getElem?_append_right (by rw [sched_len]; omega), sched_len]
      simp
/-- A word for each round. -/
def shK : List UInt32 := [
  1116352408, 1899447441, 3049323471, 3921009573, 961987163, 1508970993, 2453635748, 2870763221,
  3624381080, 310598401, 607225278, 1426881987, 1925078388, 2162078206, 2614888103, 3248222580,
  3835390401, 4022224774, 264347078, 604807628, 770255983, 1249150122, 1555081692, 1996064986,
  2554220882, 2821834349, 2952996808, 3210313671, 3336571891, 3584528711, 113926993, 338241895,
  666307205, 773529912, 1294757372, 1396182291, 1695183700, 1986661051, 2177026350, 2456956037,
  2730485921, 2820302411, 3259730800, 3345764771, 3516065817, 3600352804, 4094571909, 275423344,
  430227734, 506948616, 659060556, 883997877, 958139571, 1322822218, 1537002063, 1747873779,
  1955562222, 2024104815, 2227730452, 2361852424, 2428436474, 2756734187, 3204031479, 3329325298]
def shRnds (p : List UInt8) (s : St) : Nat → St
  | 0 => s
  | t + 1 => shRnd (shRnds p s t) (shK.getD t 0) ((sched p 64).getD t 0)
def shAdd (s v : St) : St := ⟨s.a + v.a, s.b + v.b, s.c + v.c, s.d + v.d, s.e + v.e, s.f + v.f, s.g + v.g, s.h + v.h⟩
/-- The state behind a block. -/
def shStep (s : St) (p : List UInt8) : St := shAdd s (shRnds p s 64)
def shFirst : St := ⟨1779033703, 3144134277, 1013904242, 2773480762, 1359893119, 2600822924, 528734635, 1541459225⟩
/-- The state behind k blocks. -/
def shGo (p : List UInt8) : Nat → St
  | 0 => shFirst
  | k + 1 => shStep (shGo p k) ((p.drop (64 * k)).take 64)
def shBe (w : UInt32) : List UInt8 := [UInt8.ofNat (w.toNat / 16777216), UInt8.ofNat (w.toNat / 65536), UInt8.ofNat (w.toNat / 256), UInt8.ofNat w.toNat]
def St.words (s : St) : List UInt32 := [s.a, s.b, s.c, s.d, s.e, s.f, s.g, s.h]
def shOut (s : St) : List UInt8 := s.words.flatMap shBe
def shLong (n : Nat) : List UInt8 := (List.range 8).map fun i => UInt8.ofNat (n / 256 ^ (7 - i))
/-- What stands behind a text of n bytes. -/
def shTail (n : Nat) : List UInt8 := (128 :: List.replicate ((119 - n % 64) % 64) 0) ++ shLong (8 * n)
theorem shTail_len (n : Nat) : (shTail n).length = 9 + (119 - n % 64) % 64 := by simp [shTail, shLong]; omega
def shPad (l : List UInt8) : List UInt8 := l ++ shTail l.length
/-- The sum of bytes. -/
def shSum (l : List UInt8) : List UInt8 := shOut (shGo (shPad l) ((shPad l).length / 64))
theorem shOut_len (s : St) : (shOut s).length = 32 := by simp [shOut, St.words, shBe]
theorem shSum_len (l : List UInt8) : (shSum l).length = 32 := shOut_len _
end Go.Proofs.YtpndahmlbjhdfaaDoor
