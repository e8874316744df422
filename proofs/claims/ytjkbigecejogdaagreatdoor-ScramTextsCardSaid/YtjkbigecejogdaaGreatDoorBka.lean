/-
 The texts that every chapter uses, in one: Idx, Hexr, Grp, Val, Dec, Cod, Rfe.
-/
import Derived.Lib.Bytealg
import Derived.WalkKit
import Derived.Test.YtjkbigecejogdaaGreatDoorRows
import Derived.Test.YtjkbigecejogdaaGreatDoorKit
import Derived.Shelf.Abstract
namespace Go.Proofs.YtjkbigecejogdaaGreatDoor
open Go.RowKit
set_option maxRecDepth 100000
set_option linter.unusedVariables false
set_option linter.unusedSimpArgs false


def hexd : List UInt8 := [48, 49, 50, 51, 52, 53, 54, 55, 56, 57, 97, 98, 99, 100, 101, 102]
def hexL : List UInt8 → List UInt8
 | [] => []
 | b :: l => bt hexd (b.toNat / 16) :: bt hexd (b.toNat % 16) :: hexL l
attribute [local go_sem] Oper.semAt_some

def gsz (z : Int) (n : Nat) : Nat := if 0 < z then z.toNat else max n 1
theorem gsz_pos (z : Int) (n : Nat) : 0 < gsz z n := by unfold gsz; split <;> omega
def gcnt (m n : Nat) : Nat := (n + m - 1) / m
theorem gcnt_lt {m n : Nat} (i : Nat) (hm : 0 < m) : i < gcnt m n ↔ m * i < n := by
 unfold gcnt
 rw [Nat.lt_iff_add_one_le, Nat.le_div_iff_mul_le hm, Nat.add_mul, Nat.one_mul, Nat.mul_comm i m]
 omega
def strLen (w : World) (b : Nat) : Nat := match w.cell? ⟨b, 0, none⟩ with | some (.string s) => s.size | _ => 0

set_option maxHeartbeats 400000 in
theorem groups_iter (l : List UInt8) (z : Int) (hl : l.length ≤ 1000000) (bs bz : Nat) (w0 : World) (hbs : w0.heap[bs]? = some (.cells #[Str l] 9 (0, 0))) (hbz : w0.heap[bz]? = some (.cells #[.int .i64 z] 3 (0, 0))) :
    Iter Tryz.prog 140 #[.pointer (some ⟨bs, 0, none⟩), .pointer (some ⟨bz, 0, none⟩)] (gcnt (gsz z l.length) l.length) (fun i => #[Str ((l.drop (gsz z l.length * i)).take (gsz z l.length))]) (fun k => k = bs ∨ k = bz) (fun k => k = bs) w0 := by
 intro n lp J Jx W hW hsz hJ hJx hY h0
 have hm := gsz_pos z l.length
 have hmz : 0 < z → gsz z l.length = z.toNat := fun h => by simp [gsz, h]
 have hmz' : ¬ 0 < z → gsz z l.length = max l.length 1 := fun h => by simp [gsz, h]
 generalize gsz z l.length = m at *
 have hcnt := @gcnt_lt m l.length
 generalize gcnt m l.length = N at *
 have hne : bz ≠ bs := by rintro rfl; rw [hbs] at hbz; cases hbz
 refine callsIn_of_wp Tryz.func140 rfl trivial ?_ rfl
 simp only [Tryz.ntmps140, List.size_toArray, List.length_cons, List.length_nil, Nat.reduceAdd, Nat.reduceSub, Array.replicate_succ, Array.replicate_zero, List.push_toArray, List.append_toArray, List.nil_append, List.cons_append]
 gi_wp2
 gi_loopw [4] (fun _ wr => ∃ i : Nat, i ≤ N ∧ wr.heap[bs]? = some (.cells #[Str (l.drop (m * i))] 9 (0, 0)) ∧ wr.heap[bz]? = some (.cells #[.int .i64 z] 3 (0, 0)) ∧ J i wr) (fun _ wr => strLen wr bs)
 case atStart => exact ⟨0, by omega, by simpa using (hW bs (.inl rfl)).trans hbs, (hW bz (.inr rfl)).trans hbz, h0⟩
 case round =>
  obtain ⟨i, hi, hb, hz, hJr⟩ := hrel
  have hlenp : strLen wr bs = l.length - m * i := by simp [strLen, World.cell?, hb, size_list]
  have c0 : wr.cell? ⟨bs, 0, none⟩ = some (Str (l.drop (m * i))) := by simp [World.cell?, hb]
  have f0 : wr.frozen? ⟨bs, 0, none⟩ = false := by simp [World.frozen?, hb]
  have cz : wr.cell? ⟨bz, 0, none⟩ = some (.int .i64 z) := by simp [World.cell?, hz]
  by_cases hlt : m * i < l.length
  ·obtain ⟨fn, tmps, assign, body, hy, hR⟩ := hY (n - 1) i wr ((hcnt i hm).2 hlt) hJr
   obtain ⟨r, hr⟩ : ∃ r, l.drop (m * i) = r := ⟨_, rfl⟩
   have hrl : r.length = l.length - m * i := by rw [← hr]; simp
   rw [hr] at c0 hy hb
   have hnx : r.drop (min r.length m) = l.drop (m * (i + 1)) := by
    rw [← hr, List.drop_drop, List.length_drop]
    by_cases h : m ≤ l.length - m * i
    ·rw [Nat.min_eq_right h, Nat.mul_add, Nat.mul_one]
    ·rw [Nat.min_eq_left (by omega), List.drop_of_length_le (by omega), List.drop_of_length_le (by rw [Nat.mul_add]; omega)]
   have hpc : r.take (min r.length m) = r.take m := by
    by_cases h : m ≤ r.length
    ·rw [Nat.min_eq_right h]
    ·rw [Nat.min_eq_left (by omega), List.take_of_length_le (Nat.le_refl _), List.take_of_length_le (by omega)]
   have hrpos : 0 < r.length := by omega
   obtain ⟨kk, hkk⟩ : ∃ kk, min r.length m = kk := ⟨_, rfl⟩
   have hk1 : kk ≤ r.length := by omega
   have hk2 : 0 < kk := by omega
   have hrs : r.length ≤ 1000000 := by omega
   rw [hkk] at hnx hpc
   rw [← hpc] at hy
   have hmn : 0 < z → ∀ (ts : Array TypeId) (t : TypeId) (W : World), (Builtin.min_ ts t #[.int .i64 (r.length : Int), .int .i64 z]).run Tryz.prog W = .ok (.int .i64 (kk : Int)) W := fun h => by
    rw [← hkk]; exact run_min_nat Tryz.prog r.length m z (by have := hmz h; omega)
   have hkz : ¬ 0 < z → kk = r.length := fun h => by have := hmz' (by omega); have : i = 0 := by
                                                       rcases Nat.eq_zero_or_pos i with h0 | h0
                                                       ·exact h0
                                                       ·have : m ≤ m * i := Nat.le_mul_of_pos_right m h0
                                                        omega
                                                     subst this; omega
   have Hcnt := Lib.hid hcnt; clear hcnt
   have Hnx := Lib.hid hnx; have Hkk := Lib.hid hkk; have Hr := Lib.hid hr
   clear hnx hkk hpc hr hrl hmz hmz' hY
   have step : ∀ W3, J (i + 1) W3 → wr.heap.size ≤ W3.heap.size → (∀ k, k = bs ∨ k = bz → W3.heap[k]? = wr.heap[k]?) →
       W3.cell? ⟨bs, 0, none⟩ = some (Str r) ∧ W3.frozen? ⟨bs, 0, none⟩ = false ∧ (W3.setCell ⟨bs, 0, none⟩ (Str (r.drop kk))).heap[bs]? = some (.cells #[Str (l.drop (m * (i + 1)))] 9 (0, 0)) ∧
       (W3.setCell ⟨bs, 0, none⟩ (Str (r.drop kk))).heap[bz]? = some (.cells #[.int .i64 z] 3 (0, 0)) ∧ J (i + 1) (W3.setCell ⟨bs, 0, none⟩ (Str (r.drop kk))) ∧
       strLen (W3.setCell ⟨bs, 0, none⟩ (Str (r.drop kk))) bs < strLen wr bs := by
    intro W3 hJ3 hs3 hk3
    have hb3 := (hk3 bs (.inl rfl)).trans hb
    have hz3 := (hk3 bz (.inr rfl)).trans hz
    have hset := one_setCell (u := Str (r.drop kk)) hb3
    refine ⟨by simp [World.cell?, hb3], by simp [World.frozen?, hb3], by rw [hset, Hnx.out], by rw [Below.heap_setCell _ _ _ _ hne]; exact hz3, hJ _ _ _ hJ3 (Chg.setCell W3 ⟨bs, 0, none⟩ _), ?_⟩
    have e1 : strLen (W3.setCell ⟨bs, 0, none⟩ (Str (r.drop kk))) bs = r.length - kk := by simp [strLen, World.cell?, hset, size_list]
    have e2 : strLen wr bs = r.length := by simp [strLen, World.cell?, hb, size_list]
    rw [e1, e2]; omega
   have Step := Lib.hid step
   clear step hb hz hlenp
   by_cases hz0 : 0 < z
   ·have hmn' := hmn hz0
    clear hmn hkz
    gi_wp2
    refine ⟨fun h => by simp [Fence.wide] at h, hR.mono ?_⟩
    rintro e W3 (⟨rfl, hJ3, hs3, hk3⟩ | ⟨rfl, hJ3⟩)
    ·obtain ⟨c3, f3, E⟩ := Step.out W3 hJ3 hs3 hk3
     have HE := Lib.hid E
     clear c0 f0 cz E hk3 hs3
     gi_wp2
     go_roundw
     case rel => exact ⟨i + 1, by have := (Hcnt.out i hm).2 hlt; omega, HE.out.1, HE.out.2.1, HE.out.2.2.1⟩
     case measure => exact HE.out.2.2.2
    ·gi_wp2
     refine bodyPost_ret (results_none rfl _ _ _) rfl ?_
     exact ⟨⟨_, rfl⟩, .inr ⟨i, (Hcnt.out i hm).2 hlt, hJ3⟩⟩
   ·have hk := hkz hz0
    clear hmn hkz
    subst hk
    rw [List.take_of_length_le (Nat.le_refl _)] at hy
    have hdr : r.drop r.length = [] := List.drop_length
    rw [hdr] at Step
    gi_wp2
    refine ⟨fun h => by simp [Fence.wide] at h, hR.mono ?_⟩
    rintro e W3 (⟨rfl, hJ3, hs3, hk3⟩ | ⟨rfl, hJ3⟩)
    ·obtain ⟨c3, f3, E⟩ := Step.out W3 hJ3 hs3 hk3
     have HE := Lib.hid E
     clear c0 f0 cz E hk3 hs3
     gi_wp2
     go_roundw
     case rel => exact ⟨i + 1, by have := (Hcnt.out i hm).2 hlt; omega, HE.out.1, HE.out.2.1, HE.out.2.2.1⟩
     case measure => exact HE.out.2.2.2
    ·gi_wp2
     refine bodyPost_ret (results_none rfl _ _ _) rfl ?_
     exact ⟨⟨_, rfl⟩, .inr ⟨i, (Hcnt.out i hm).2 hlt, hJ3⟩⟩
  ·gi_wp2
   refine bodyPost_end (results_none rfl _ _ _) rfl ?_
   have : i = N := by
    rcases Nat.lt_or_ge i N with h | h
    ·exact absurd ((hcnt i hm).1 h) hlt
    ·omega
   subst this
   exact ⟨⟨_, rfl⟩, .inl hJr⟩

def valN (x y c : Nat) : Int :=
 if 65 ≤ c ∧ c ≤ 90 then (c : Int) - 65 else if 97 ≤ c ∧ c ≤ 122 then (c : Int) - 97 + 26 else if 48 ≤ c ∧ c ≤ 57 then (c : Int) - 48 + 52
 else if c = x then 62 else if c = y then 63 else -1
def valL (A : List UInt8) (c : UInt8) : Int := valN (bt A 62).toNat (bt A 63).toNat c.toNat

set_option maxHeartbeats 400000 in
theorem value_any (A : List UInt8) (hA : A.length = 64) (c : UInt8) (w : World) :
    Calls Tryz.prog 122 #[Str A, .int .u8 (c.toNat : Int)] w fun e w' => e = .returned (.int .i64 (valL A c)) ∧ w' = w := by
 have hfin := Lib.hid (show valL A c = valN (bt A 62).toNat (bt A 63).toNat c.toNat from rfl)
 have hc := c.toNat_lt
 have hx := (bt A 62).toNat_lt
 have hy := (bt A 63).toNat_lt
 have e62 : ∀ W, (Instr.index 9 (Str A) (.int .i64 62)).run Tryz.prog W = .ok (Byt (bt A 62)) W := fun W => run_index_str Tryz.underlying9 A 62 62 rfl (by omega) W
 have e63 : ∀ W, (Instr.index 9 (Str A) (.int .i64 63)).run Tryz.prog W = .ok (Byt (bt A 63)) W := fun W => run_index_str Tryz.underlying9 A 63 63 rfl (by omega) W
 generalize bt A 62 = x at *
 generalize bt A 63 = y at *
 generalize c.toNat = n at *
 simp only [Byt] at e62 e63
 have end1 : ∀ (v : Int), valN x.toNat y.toNat n = v → Ending.returned (.int .i64 v) = Ending.returned (.int .i64 (valL A c)) := fun v h => by rw [hfin.out, h]
 generalize x.toNat = x at *
 generalize y.toNat = y at *
 have Hend := Lib.hid end1; clear end1
 rcases (show (65 ≤ n ∧ n ≤ 90) ∨ (97 ≤ n ∧ n ≤ 122) ∨ (48 ≤ n ∧ n ≤ 57) ∨ n < 48 ∨ (57 < n ∧ n < 65) ∨ (90 < n ∧ n < 97) ∨ 122 < n by omega) with h | h | h | h | h | h | h
 ·obtain ⟨h1, h2⟩ := h
  go_enter Tryz.func122, Tryz.ntmps122
  go_wp2
  go_ret
  refine ⟨Hend.out _ ?_, rfl⟩
  simp only [valN]
  split <;> (try split) <;> (try split) <;> omega
 ·obtain ⟨h1, h2⟩ := h
  go_enter Tryz.func122, Tryz.ntmps122
  go_wp2
  go_ret
  refine ⟨Hend.out _ ?_, rfl⟩
  simp only [valN]
  split <;> (try split) <;> (try split) <;> omega
 ·obtain ⟨h1, h2⟩ := h
  go_enter Tryz.func122, Tryz.ntmps122
  go_wp2
  go_ret
  refine ⟨Hend.out _ ?_, rfl⟩
  simp only [valN]
  split <;> (try split) <;> (try split) <;> omega
 ·by_cases hx1 : n = x
  ·have b1 : ((n : Int) == (x : Int)) = true := by simp [hx1]
   have Hx1 := Lib.hid hx1; clear hx1
   go_enter Tryz.func122, Tryz.ntmps122
   go_wp2
   go_ret
   refine ⟨Hend.out _ ?_, rfl⟩
   have := Hx1.out
   simp only [valN]
   rw [if_neg (by omega), if_neg (by omega), if_neg (by omega), if_pos this]
  ·have b1 : ((n : Int) == (x : Int)) = false := by simp; omega
   by_cases hy1 : n = y
   ·have b2 : ((n : Int) == (y : Int)) = true := by simp [hy1]
    have Hy1 := Lib.hid hy1; clear hy1
    go_enter Tryz.func122, Tryz.ntmps122
    go_wp2
    go_ret
    refine ⟨Hend.out _ ?_, rfl⟩
    have := Hy1.out
    simp only [valN]
    rw [if_neg (by omega), if_neg (by omega), if_neg (by omega), if_neg hx1, if_pos this]
   ·have b2 : ((n : Int) == (y : Int)) = false := by simp; omega
    go_enter Tryz.func122, Tryz.ntmps122
    go_wp2
    go_ret
    refine ⟨Hend.out _ ?_, rfl⟩
    simp only [valN]
    rw [if_neg (by omega), if_neg (by omega), if_neg (by omega), if_neg hx1, if_neg hy1]
 ·by_cases hx1 : n = x
  ·have b1 : ((n : Int) == (x : Int)) = true := by simp [hx1]
   have Hx1 := Lib.hid hx1; clear hx1
   go_enter Tryz.func122, Tryz.ntmps122
   go_wp2
   go_ret
   refine ⟨Hend.out _ ?_, rfl⟩
   have := Hx1.out
   simp only [valN]
   rw [if_neg (by omega), if_neg (by omega), if_neg (by omega), if_pos this]
  ·have b1 : ((n : Int) == (x : Int)) = false := by simp; omega
   by_cases hy1 : n = y
   ·have b2 : ((n : Int) == (y : Int)) = true := by simp [hy1]
    have Hy1 := Lib.hid hy1; clear hy1
    go_enter Tryz.func122, Tryz.ntmps122
    go_wp2
    go_ret
    refine ⟨Hend.out _ ?_, rfl⟩
    have := Hy1.out
    simp only [valN]
    rw [if_neg (by omega), if_neg (by omega), if_neg (by omega), if_neg hx1, if_pos this]
   ·have b2 : ((n : Int) == (y : Int)) = false := by simp; omega
    go_enter Tryz.func122, Tryz.ntmps122
    go_wp2
    go_ret
    refine ⟨Hend.out _ ?_, rfl⟩
    simp only [valN]
    rw [if_neg (by omega), if_neg (by omega), if_neg (by omega), if_neg hx1, if_neg hy1]
 ·by_cases hx1 : n = x
  ·have b1 : ((n : Int) == (x : Int)) = true := by simp [hx1]
   have Hx1 := Lib.hid hx1; clear hx1
   go_enter Tryz.func122, Tryz.ntmps122
   go_wp2
   go_ret
   refine ⟨Hend.out _ ?_, rfl⟩
   have := Hx1.out
   simp only [valN]
   rw [if_neg (by omega), if_neg (by omega), if_neg (by omega), if_pos this]
  ·have b1 : ((n : Int) == (x : Int)) = false := by simp; omega
   by_cases hy1 : n = y
   ·have b2 : ((n : Int) == (y : Int)) = true := by simp [hy1]
    have Hy1 := Lib.hid hy1; clear hy1
    go_enter Tryz.func122, Tryz.ntmps122
    go_wp2
    go_ret
    refine ⟨Hend.out _ ?_, rfl⟩
    have := Hy1.out
    simp only [valN]
    rw [if_neg (by omega), if_neg (by omega), if_neg (by omega), if_neg hx1, if_pos this]
   ·have b2 : ((n : Int) == (y : Int)) = false := by simp; omega
    go_enter Tryz.func122, Tryz.ntmps122
    go_wp2
    go_ret
    refine ⟨Hend.out _ ?_, rfl⟩
    simp only [valN]
    rw [if_neg (by omega), if_neg (by omega), if_neg (by omega), if_neg hx1, if_neg hy1]
 ·by_cases hx1 : n = x
  ·have b1 : ((n : Int) == (x : Int)) = true := by simp [hx1]
   have Hx1 := Lib.hid hx1; clear hx1
   go_enter Tryz.func122, Tryz.ntmps122
   go_wp2
   go_ret
   refine ⟨Hend.out _ ?_, rfl⟩
   have := Hx1.out
   simp only [valN]
   rw [if_neg (by omega), if_neg (by omega), if_neg (by omega), if_pos this]
  ·have b1 : ((n : Int) == (x : Int)) = false := by simp; omega
   by_cases hy1 : n = y
   ·have b2 : ((n : Int) == (y : Int)) = true := by simp [hy1]
    have Hy1 := Lib.hid hy1; clear hy1
    go_enter Tryz.func122, Tryz.ntmps122
    go_wp2
    go_ret
    refine ⟨Hend.out _ ?_, rfl⟩
    have := Hy1.out
    simp only [valN]
    rw [if_neg (by omega), if_neg (by omega), if_neg (by omega), if_neg hx1, if_pos this]
   ·have b2 : ((n : Int) == (y : Int)) = false := by simp; omega
    go_enter Tryz.func122, Tryz.ntmps122
    go_wp2
    go_ret
    refine ⟨Hend.out _ ?_, rfl⟩
    simp only [valN]
    rw [if_neg (by omega), if_neg (by omega), if_neg (by omega), if_neg hx1, if_neg hy1]
open Go.RowKit Go.Shelf
attribute [local go_sem] Oper.semAt_some

def bitsN (A : List UInt8) : List UInt8 → Nat := fun g => g.foldl (fun b c => b * 64 + (valL A c).toNat) 0
def grpOk (A g : List UInt8) : Bool := g.all fun c => valL A c != -1
def grpNum (A g : List UInt8) : Nat := bitsN A g * 2 ^ (6 * (4 - g.length))
def grpOut (A g : List UInt8) : List UInt8 := (List.range (g.length - 1)).map fun j => UInt8.ofNat (grpNum A g / 2 ^ (8 * (2 - j)))
def grpBad (A g : List UInt8) : Bool := decide (g.length < 4) && (grpNum A g % 2 ^ (8 * (4 - g.length)) != 0)
def piece (l : List UInt8) (i : Nat) : List UInt8 := (l.drop (4 * i)).take 4
def decN (A l : List UInt8) (i : Nat) : List UInt8 := (List.range i).flatMap fun j => grpOut A (piece l j)
def codN (A l : List UInt8) : Nat → Nat
 | 0 => 0
 | i + 1 => if grpBad A (piece l i) then 4 else codN A l i
def okN (A l : List UInt8) (i : Nat) : Bool := (List.range i).all fun j => grpOk A (piece l j)
def decR (A l : List UInt8) : List UInt8 × Nat :=
 let n := (l.length + 3) / 4
 if okN A l n then (if codN A l n = 0 then (decN A l n, 0) else ([], codN A l n)) else ([], 5)
theorem decN_succ (A l : List UInt8) (i : Nat) : decN A l (i + 1) = decN A l i ++ grpOut A (piece l i) := by simp [decN, List.range_succ]
theorem okN_succ (A l : List UInt8) (i : Nat) : okN A l (i + 1) = (okN A l i && grpOk A (piece l i)) := by simp [okN, List.range_succ]
theorem okN_false {A l : List UInt8} {i n : Nat} (hi : i < n) (h : okN A l (i + 1) = false) : okN A l n = false := by
 cases hn : okN A l n with
 | false => rfl
 | true =>
   rw [← h]
   simp only [okN, List.all_eq_true, List.mem_range] at hn
   exact (List.all_eq_true.2 fun j hj => hn j (by have := List.mem_range.1 hj; omega)).symm
theorem bitsN_snoc (A g : List UInt8) (c : UInt8) : bitsN A (g ++ [c]) = bitsN A g * 64 + (valL A c).toNat := by simp [bitsN]
theorem valL_range (A : List UInt8) (c : UInt8) : -1 ≤ valL A c ∧ valL A c ≤ 63 := by
 unfold valL valN; have := c.toNat_lt; repeat' split
 all_goals omega
theorem list_snoc_ind {α : Type} {p : List α → Prop} (h0 : p []) (h1 : ∀ l x, p l → p (l ++ [x])) : ∀ l, p l := by
 intro l
 have h : ∀ l : List α, p l.reverse := fun l => by
  induction l with
  | nil => exact h0
  | cons x l ih => rw [List.reverse_cons]; exact h1 _ _ ih
 have := h l.reverse
 rwa [List.reverse_reverse] at this
theorem bitsN_lt (A : List UInt8) : ∀ g : List UInt8, bitsN A g < 64 ^ g.length := by
 refine list_snoc_ind (by simp [bitsN]) fun g c ih => ?_
 have := valL_range A c
 rw [bitsN_snoc, List.length_append, List.length_singleton, Nat.pow_succ]
 omega
theorem decN_len (A l : List UInt8) : ∀ n, (decN A l n).length ≤ 3 * n
 | 0 => by simp [decN]
 | n + 1 => by
   have h1 := decN_len A l n
   have h2 : (grpOut A (piece l n)).length ≤ 3 := by simp [grpOut, piece]; omega
   rw [decN_succ, List.length_append]; omega

theorem grpOut_take (A g : List UInt8) (j : Nat) (hj : j + 1 < g.length) : (grpOut A g).take (j + 1) = (grpOut A g).take j ++ [UInt8.ofNat (grpNum A g / 2 ^ (8 * (2 - j)))] := by
 have h : j < (grpOut A g).length := by simp [grpOut]; omega
 rw [List.take_succ_eq_append_getElem h]
 simp [grpOut]
structure DI (s : Nat) (A : List UInt8) (w W2 : World) (own : Nat → Prop) (out : List UInt8) (code : Int) (v : Value) (W : World) : Prop where
 h0 : W.heap[s]? = some (.cells #[Str A] 9 (0, 0))
 h1 : W.heap[s + 1]? = some (.cells #[v] 25 (0, 0))
 h2 : W.heap[s + 2]? = some (.cells #[.int .i64 code] 28 (0, 0))
 row : W.ownsRow (s + 5) 5 1 v out.length (out.map Byt)
 bel : Below s w W
 kp : Kp (s + 5) own W2 W
 size : s + 5 ≤ W.heap.size
theorem DI.code {s : Nat} {A : List UInt8} {w W2 : World} {own : Nat → Prop} {out : List UInt8} {code : Int} {v : Value} {W : World} (h : DI s A w W2 own out code v W) (hs : s = w.heap.size) (ho : ∀ k, own k → k = s + 3 ∨ k = s + 4) (c : Int) :
    DI s A w W2 own out c v (W.setCell ⟨s + 2, 0, none⟩ (.int .i64 c)) := by
 have hsz := h.size
 have hc := Chg.setCell W ⟨s + 2, 0, none⟩ (.int .i64 c)
 refine ⟨(hc.block s (by omega) (by simp)).trans h.h0, (hc.block (s + 1) (by omega) (by simp)).trans h.h1, one_setCell h.h2, own_keep h.row fun g _ hg hk => hc.block g (kind_lt hk) (by simp; omega), below_chg h.bel hc (by simp; try omega) (by omega), h.kp.trans (Kp.of_chg hc (fun k hk => ?_) (fun k hk hB => ?_)), Nat.le_trans hsz hc.size⟩
 ·have := ho k hk; simp; omega
 ·simp at hk; omega
theorem DI.push {s : Nat} {A : List UInt8} {w W2 : World} {own : Nat → Prop} {out : List UInt8} {code : Int} {v : Value} {W : World} (h : DI s A w W2 own out code v W) (hs : s = w.heap.size) (ho : ∀ k, own k → k = s + 3 ∨ k = s + 4) {y : UInt8} {v' : Value} {w1 : World}
    (hown : w1.ownsRow (s + 5) 5 1 v' (out.length + 1) (out.map Byt ++ [Byt y])) (hg : W.grownBy w1 v.ownBlock) :
    w1.cell? ⟨s + 1, 0, none⟩ = some v ∧ w1.frozen? ⟨s + 1, 0, none⟩ = false ∧ DI s A w W2 own (out ++ [y]) code v' (w1.setCell ⟨s + 1, 0, none⟩ v') := by
 have hsz := h.size
 have hrow : ∀ k, v.ownBlock = some k → s + 5 ≤ k := fun k hk => (h.row.lt k hk).1
 have hlow : ∀ k, k < s + 5 → w1.heap[k]? = W.heap[k]? := fun k hk => hg.block k (by omega) (fun e => by have := hrow k e.symm; omega)
 have e1 := (hlow (s + 1) (by omega)).trans h.h1
 have hc := Chg.setCell w1 ⟨s + 1, 0, none⟩ v'
 refine ⟨cell_of e1, frozen_of e1, ⟨(hc.block s (by have := hg.size; omega) (by simp)).trans ((hlow s (by omega)).trans h.h0), one_setCell e1, (hc.block (s + 2) (by have := hg.size; omega) (by simp)).trans ((hlow (s + 2) (by omega)).trans h.h2), ?_, ?_, ?_, ?_⟩⟩
 ·rw [List.length_append, List.map_append]
  exact own_keep hown fun g _ hg' hk => hc.block g (kind_lt hk) (by simp; omega)
 ·exact below_chg (h.bel.grown hg (by have := h.bel.size; omega) (fun k hk => by have := hrow k hk; omega)) hc (by simp; try omega) (by omega)
 ·refine h.kp.trans ((Kp.of_grown hg (fun k hk => ⟨by have := ho k hk; omega, fun e => by have := hrow k e; have := ho k hk; omega⟩) (fun k hk => ?_)).trans (Kp.of_chg hc (fun k hk => ?_) (fun k hk hB => ?_)))
  ·rcases h.row.2 with ⟨hn, _⟩ | ⟨g, cap, cur, hv, _, hgg, _⟩
   ·rw [hn] at hk; simp [Value.ownBlock] at hk
   ·rw [hv] at hk; simp [Value.ownBlock] at hk; subst hk; exact ⟨_, kind_of_cells hgg⟩
  ·have := ho k hk; have := hg.size; simp; omega
  ·simp at hk; omega
 ·have := hg.size; have := hc.size; omega

theorem DI.drew {s : Nat} {A : List UInt8} {w W2 : World} {own : Nat → Prop} {out : List UInt8} {code : Int} {v : Value} {W : World} (h : DI s A w W2 own out code v W) : DI s A w W2 own out code v { W with drawn := W.drawn + 1 } :=
 ⟨h.h0, h.h1, h.h2, h.row, ⟨h.bel.os, h.bel.tape, h.bel.output, h.bel.size, h.bel.block⟩, ⟨h.kp.size, h.kp.own, h.kp.other⟩, h.size⟩

theorem groups_any (l : List UInt8) (z : Int) (w : World) :
    Calls Tryz.prog 121 #[Str l, .int .i64 z] w fun e w' => e = .returned (.func (.func 140) #[] #[.pointer (some ⟨w.heap.size, 0, none⟩), .pointer (some ⟨w.heap.size + 1, 0, none⟩)]) ∧
     w' = (w.alloc (.cells #[Str l] 9)).alloc (.cells #[.int .i64 z] 3) := by
 go_enter Tryz.func121, Tryz.ntmps121
 go_wp2
 go_ret
 exact ⟨rfl, rfl⟩

set_option maxHeartbeats 2000000 in
theorem decode_any (A l : List UInt8) (hA : A.length = 64) (w : World) (hl : l.length ≤ 10000) (h4 : l.length % 4 ≠ 1) :
    Calls Tryz.prog 104 #[Str A, Str l] w fun e w' => ∃ v, e = .returned (.tuple #[v, .int .i64 ((decR A l).2 : Int)]) ∧ w'.ownsRow w.heap.size 5 1 v (decR A l).1.length ((decR A l).1.map Byt) ∧ Ext w w' := by
 refine (callsIn_wide (n := 5)).1 (callsIn_of_wp_marks Tryz.func104 rfl trivial (wpIn_wide.2 ?_) rfl)
 simp only [Tryz.ntmps104, List.size_toArray, List.length_cons, List.length_nil, Nat.reduceAdd, Nat.reduceSub, Array.replicate_succ, Array.replicate_zero, List.push_toArray, List.append_toArray, List.nil_append, List.cons_append]
 go_wp2
 go_step3
 go_wp2
 go_step3
 go_wp2_with (go_at_call 121; refine (groups_any _ _ _).mono ?_; rintro e w' ⟨rfl, rfl⟩)
 obtain ⟨W0, hW0⟩ : ∃ W0, ((((w.alloc (.cells #[Str A] 9)).alloc (.cells #[.slice none 0 0] 25)).alloc (.cells #[.int .i64 0] 28)).alloc (.cells #[Str l] 9)).alloc (.cells #[.int .i64 4] 3) = W0 := ⟨_, rfl⟩
 have hW0' : W0 = allocs w [.cells #[Str A] 9, .cells #[.slice none 0 0] 25, .cells #[.int .i64 0] 28, .cells #[Str l] 9, .cells #[.int .i64 4] 3] := hW0.symm
 have b0 : W0.heap[w.heap.size]? = some (.cells #[Str A] 9 (0, 0)) := by rw [hW0']; exact allocs_at w _ 0 _ rfl
 have b1 : W0.heap[w.heap.size + 1]? = some (.cells #[.slice none 0 0] 25 (0, 0)) := by rw [hW0']; exact allocs_at w _ 1 _ rfl
 have b2 : W0.heap[w.heap.size + 2]? = some (.cells #[.int .i64 0] 28 (0, 0)) := by rw [hW0']; exact allocs_at w _ 2 _ rfl
 have b3 : W0.heap[w.heap.size + 3]? = some (.cells #[Str l] 9 (0, 0)) := by rw [hW0']; exact allocs_at w _ 3 _ rfl
 have b4 : W0.heap[w.heap.size + 4]? = some (.cells #[.int .i64 4] 3 (0, 0)) := by rw [hW0']; exact allocs_at w _ 4 _ rfl
 have hext0 : Ext w W0 := by rw [hW0']; exact allocs_ext _ _
 have hsz0 : W0.heap.size = w.heap.size + 5 := by rw [hW0']; exact allocs_size _ _
 rw [hW0]
 clear hW0 hW0'
 have hit := groups_iter l 4 (by omega) (w.heap.size + 3) (w.heap.size + 4) W0 b3 b4
 rw [show gsz 4 l.length = 4 from rfl, show gcnt 4 l.length = (l.length + 3) / 4 from rfl] at hit
 refine wpIn_wide.1 (wpIn_range (n := 5) (P := Tryz.prog) rfl (enters_of Tryz.func140 (by kernel_rfl) rfl) hit (fun k h => by omega) (fun k h => by omega) (fun _ => rfl)
  (fun i W => W.heap[w.heap.size]? = some (.cells #[Str A] 9 (0, 0)) ∧
   (∃ v, W.heap[w.heap.size + 1]? = some (.cells #[v] 25 (0, 0)) ∧ W.ownsRow (w.heap.size + 5) 5 1 v (decN A l i).length ((decN A l i).map Byt)) ∧
   W.heap[w.heap.size + 2]? = some (.cells #[.int .i64 (codN A l i : Nat)] 28 (0, 0)) ∧ okN A l i = true ∧ Below w.heap.size w W ∧ w.heap.size + 5 ≤ W.heap.size)
  (fun c i W => c = .exit 0 ∧ okN A l (i + 1) = false ∧
   W.heap[w.heap.size + 2]? = some (.cells #[.int .i64 5] 28 (0, 0)) ∧ Below w.heap.size w W ∧ w.heap.size + 5 ≤ W.heap.size) ?_ ?_
  ⟨b0, ⟨_, b1, World.ownsRow_nil _ _ _ _⟩, b2, rfl, hext0, by omega⟩ ?_ ?_ ?_)
 ·rintro i A' C ⟨h0, ⟨v, h1, hown⟩, h2, hok, hbel, hsz⟩ hm
  exact ⟨hm.keeps h0 (by omega) (by omega), ⟨v, hm.keeps h1 (by omega) (by omega), own_mv hown hm (fun k hk => by omega)⟩, hm.keeps h2 (by omega) (by omega), hok, hm.below hbel (fun k hk => by omega) (by omega) (Nat.le_refl _), Nat.le_trans hsz hm.size⟩
 ·rintro c i A' C ⟨h0, hok, h2, hbel, hsz⟩ hm
  exact ⟨h0, hok, hm.keeps h2 (by omega) (by omega), hm.below hbel (fun k hk => by omega) (by omega) (Nat.le_refl _), Nat.le_trans hsz hm.size⟩
 ·rintro m lp i W hi ⟨h0, ⟨v, h1, hown⟩, h2, hok, hbel, hsz⟩ hlp hrec
  gi_wp2
  refine ⟨Kp.refl _ _ _, fun W2 hm2 hrec2 => ?_⟩
  replace h0 := hm2.keeps h0 (fun h => h) (by omega)
  replace h1 := hm2.keeps h1 (fun h => h) (by omega)
  replace hown := own_mv hown hm2 (fun k hk => hk.elim)
  replace h2 := hm2.keeps h2 (fun h => h) (by omega)
  replace hbel := hm2.below hbel (fun k hk => hk.elim) (by omega) (Nat.le_refl _)
  replace hsz := Nat.le_trans hsz hm2.size
  clear hm2 hrec hrec2
  have hdn := Lib.hid (decN_succ A l i); have hcn := Lib.hid (show codN A l (i + 1) = if grpBad A (piece l i) then 4 else codN A l i from rfl); have hkn := Lib.hid (okN_succ A l i)
  have hgl : (piece l i).length = min 4 (l.length - 4 * i) := by simp [piece]
  have hdl := decN_len A l i
  rw [show (l.drop (4 * i)).take 4 = piece l i from rfl]
  generalize piece l i = g at *
  have hg2 : g.length = 2 ∨ g.length = 3 ∨ g.length = 4 := by omega
  clear hgl
  obtain ⟨capb, Wb, hconv, hextb, hslb⟩ := bytes_of_str (P := Tryz.prog) W2 9 25 5 g (by unfold maxLen; omega) Tryz.underlying9 Tryz.underlying25 Tryz.underlying5
  gi_wp2
  have hck : ∀ k, k < g.length → Wb.cell? (adr (some ⟨W2.heap.size, 0, none⟩) k) = some (Byt (bt g k)) := by
   obtain ⟨ao, cap, hve, hcap, hmax, hnil, hcell⟩ := hslb
   simp only [List.length_map] at hve; cases hve
   exact fun k hk => hcell k _ (byt_map g k hk)
  have hcapb : g.length ≤ capb := by
   obtain ⟨ao, cap, hve, hcap, hmax, hnil, hcell⟩ := hslb
   simp only [List.length_map] at hve hcap; cases hve
   exact hcap
  have HC := Lib.hid hck; clear hck hslb
  have hix := run_index_adr (P := Tryz.prog) Tryz.underlying25 Tryz.sizeOf5 (ao := some ⟨W2.heap.size, 0, none⟩) (by simp) hcapb
  have hb0 := ext_cell hextb (a := ⟨w.heap.size, 0, none⟩) (v := Str A) (by simp [World.cell?, h0])
  have hkp : Kp W0.heap.size (fun k => k = w.heap.size + 3 ∨ k = w.heap.size + 4) W2 Wb := Kp.of_ext hextb (fun k hk => by omega)
  have Hk := Lib.hid hkp; clear hkp
  have hszb := hextb.size
  have e0 := (hextb.block _ (by omega)).trans h0
  have e1 := (hextb.block _ (by omega)).trans h1
  have e2 := (hextb.block _ (by omega)).trans h2
  have hbelb := hbel.trans (hextb.mono (show w.heap.size ≤ W2.heap.size by omega))
  have D0 : DI w.heap.size A w W2 (fun k => k = w.heap.size + 3 ∨ k = w.heap.size + 4) (decN A l i) (codN A l i : Nat) v Wb := ⟨e0, e1, e2, own_ext hown hextb, hbelb, by rw [← hsz0]; exact Hk.out, by omega⟩
  have hc2 := cell_of e2; have hf2 := frozen_of e2
  clear h0 h1 hown h2 hbel hbelb hextb e0 e1 e2 Hk
  have HD0 := Lib.hid D0; clear D0
  have DIcode := Lib.hid (fun c => HD0.out.code rfl (fun k h => h) c)
  gi_loop [9, 21] (fun b i => ∃ k : Nat, k ≤ g.length ∧ i = .int .i64 k ∧ b = .int .i64 (bitsN A (g.take k) : Nat) ∧ grpOk A (g.take k) = true) (fun _ i => g.length - (intOf i).toNat)
  case atStart => exact ⟨0, by omega, rfl, rfl, rfl⟩
  case round =>
   obtain ⟨k, hk, rfl, rfl, hgo⟩ := hrel
   by_cases h3 : k < g.length
   ·have hlt : bitsN A (g.take k) < 262144 := Nat.lt_of_lt_of_le (bitsN_lt A _) (Nat.pow_le_pow_right (n := 64) (by omega) (show (g.take k).length ≤ 3 by simp; omega))
    have Hb := Lib.hid (bitsN_snoc A (g.take k) (bt g k)); rw [← take_snoc g k h3] at Hb
    have Hok := Lib.hid (show grpOk A (g.take k ++ [bt g k]) = (valL A (bt g k) != -1) by simp only [grpOk, List.all_append] at hgo ⊢; rw [hgo]; simp); rw [← take_snoc g k h3] at Hok
    have Hmono := Lib.hid (show grpOk A (g.take (k + 1)) = false → grpOk A g = false by
     intro h; cases hg : grpOk A g with
     | false => rfl
     | true =>
       rw [← h]; simp only [grpOk, List.all_eq_true] at hg ⊢
       exact (List.all_eq_true.2 fun x hx => hg x (List.mem_of_mem_take hx)).symm)
    have hcb := HC.out k h3
    have Hv := Lib.hid (fun W => value_any A hA (bt g k) W)
    have hv := valL_range A (bt g k)
    have hbt := (bt g k).toNat_lt
    generalize bitsN A (g.take k) = b at *
    generalize bt g k = c at *
    clear hgo
    generalize valL A c = v at *
    rcases (show v = -1 ∨ 0 ≤ v by omega) with hneg | hpos
    ·subst hneg
     have hf := Hmono.out (by rw [Hok.out]; rfl)
     gi_wp2_with (refine ⟨trivial, fun h => by simp [Fence.wide] at h, ?_⟩; gi_at_call 122; refine (CallsIn.inRound lp (callsIn_wide.2 (Hv.out _))).mono ?_; rintro e W3 ⟨rfl, rfl⟩)
     have D5 := DIcode.out 5
     exact ⟨hsz0 ▸ D5.kp, rfl, by rw [hkn.out, hok, hf]; rfl, D5.h2, D5.bel, D5.size⟩
    ·obtain ⟨x, rfl⟩ := Int.eq_ofNat_of_zero_le hpos
     have hor := or_num 6 64 64 b x rfl rfl (by omega) (by omega)
     gi_wp2_with (refine ⟨trivial, fun h => by simp [Fence.wide] at h, ?_⟩; gi_at_call 122; refine (CallsIn.inRound lp (callsIn_wide.2 (Hv.out _))).mono ?_; rintro e W3 ⟨rfl, rfl⟩)
     go_round
     case rel => exact ⟨k + 1, by omega, by go_num, by rw [Hb.out]; go_num, by rw [Hok.out]; simp⟩
     case measure => simp [intOf] <;> omega
   ·obtain rfl : k = g.length := by omega
    rw [List.take_length] at hgo ⊢
    have hbl := bitsN_lt A g
    have hok1 : okN A l (i + 1) = true := by rw [hkn.out, hok, hgo]; rfl
    have Hout := Lib.hid (fun j (hj : j + 1 < g.length) => grpOut_take A g j hj)
    have Hall := Lib.hid (show (grpOut A g).take (g.length - 1) = grpOut A g from List.take_of_length_le (by simp [grpOut]))
    have Hbad := Lib.hid (show grpBad A g = (decide (g.length < 4) && (bitsN A g * 2 ^ (6 * (4 - g.length)) % 2 ^ (8 * (4 - g.length)) != 0)) from rfl)
    have Hnum := Lib.hid (show grpNum A g = bitsN A g * 2 ^ (6 * (4 - g.length)) from rfl)
    have HD1 : DI w.heap.size A w W2 (fun k => k = w.heap.size + 3 ∨ k = w.heap.size + 4) (decN A l i) (codN A l (i + 1) : Nat) v (if grpBad A g then Wb.setCell ⟨w.heap.size + 2, 0, none⟩ (.int .i64 4) else Wb) := by
     rw [hcn.out]
     cases grpBad A g
     ·exact HD0.out
     ·exact DIcode.out 4
    have HD1 := Lib.hid HD1
    clear hgo h3 hk
    generalize bitsN A g = b at *
    rcases hg2 with hl | hl | hl
    ·rw [hl] at Hout Hall Hbad Hnum hbl ⊢
     simp only [Nat.reduceSub, Nat.reduceMul, Nat.reducePow, Nat.reduceLT, decide_true, Bool.true_and] at Hbad Hnum hbl
     obtain ⟨x, hx⟩ : ∃ x, x = b * 4096 % 65536 := ⟨_, rfl⟩
     rw [← hx] at Hbad
     have hand : bits BinOp.and .i64 ((b : Int) * 4096) 65535 = (x : Int) := by
      have := and_num 16 65535 65535 (b * 4096) (by omega) rfl rfl (by omega)
      rw [show (2 : Nat) ^ 16 = 65536 from rfl, ← hx] at this
      simpa using this
     clear hx
     obtain ⟨B, hB⟩ : ∃ B, B = b * 4096 := ⟨_, rfl⟩
     rw [← hB] at Hnum
     have hBl : B < 16777216 := by omega
     by_cases hxz : x = 0
     ·subst hxz
      gi_wp2
      rw [show (b : Int) * 4096 = (B : Int) by omega]
      have HB := Lib.hid hB; clear hB
      gi_loopw [59] (fun p wr => ∃ (j : Nat) (v : Value), j ≤ 2 - 1 ∧ p = .int .i64 j ∧ DI w.heap.size A w W2 (fun k => k = w.heap.size + 3 ∨ k = w.heap.size + 4) (decN A l i ++ (grpOut A g).take j) (codN A l (i + 1) : Nat) v wr) (fun i _ => 2 - 1 - (intOf i).toNat)
      case atStart =>
       have hs := HD1.out
       rw [Hbad.out] at hs
       simp only [bne_self_eq_false, Bool.false_eq_true, if_true, if_false] at hs
       exact ⟨0, v, by omega, rfl, by rw [List.take_zero, List.append_nil]; exact hs⟩
      case round =>
       obtain ⟨j, v', hj, rfl, hdi⟩ := hrel
       by_cases hjn : j < 2 - 1
       ·have hpj := Hout.out j (by omega)
        have c1 : wr.cell? ⟨w.heap.size + 1, 0, none⟩ = some v' := cell_of hdi.h1
        have c1a : ∀ o, (wr.alloc o).cell? ⟨w.heap.size + 1, 0, none⟩ = some v' := fun o => ext_cell ((Below.refl _ _).alloc (Nat.le_refl _) o) c1
        have hlen : (decN A l i ++ (grpOut A g).take j).length ≤ 60000 := by rw [List.length_append, List.length_take]; omega
        have HDI := Lib.hid hdi; clear hdi
        obtain rfl | rfl | rfl : j = 0 ∨ j = 1 ∨ j = 2 := by omega
        ·first
         | (exfalso; omega)
         | (have hu : Value.int .u8 ((B : Int) / 65536) = Byt (UInt8.ofNat (grpNum A g / 2 ^ (8 * (2 - 0)))) := by
              simp only [Byt, UInt8.toNat_ofNat']
              try rw [Hnum.out]
              try congr 1
              try simp only [Nat.reduceMul, Nat.reduceSub, Nat.reducePow]
              try omega
            have HU := Lib.hid hu; clear hu
            gi_wp2
            refine wpIn_region_plain (r := some lp) (by kernel_rfl) (by kernel_rfl) ?_
            simp only [List.size_toArray, List.length_cons, List.length_nil, Nat.reduceAdd, Array.replicate_succ, Array.replicate_zero, List.push_toArray, List.nil_append, List.cons_append]
            refine wpAny_take (i := 1) (v := ?_) rfl (by kernel_rfl) (by kernel_rfl) (by kernel_rfl) (fun _ _ _ h => h) (Or.inl ⟨by rfl, ?_⟩) ?_
            rotate_left 1
            ·(intro _; go_simp; (try go_bits); (try with_reducible rfl))
            refine wpAny_take (i := 2) (v := ?_) rfl (by kernel_rfl) (by kernel_rfl) (by kernel_rfl) (fun _ _ _ h => h) (Or.inl ⟨by rfl, ?_⟩) ?_
            rotate_left 1
            ·(intro _; go_simp; (try go_bits); (try with_reducible rfl))
            refine wpAny_take (i := 3) (v := ?_) rfl (by kernel_rfl) (by kernel_rfl) (by kernel_rfl) (fun _ _ _ h => h) (Or.inl ⟨by rfl, ?_⟩) ?_
            rotate_left 1
            ·(intro _; go_simp; (try go_bits); (try with_reducible rfl))
            refine wpAny_take (i := 4) (v := ?_) rfl (by kernel_rfl) (by kernel_rfl) (by kernel_rfl) (fun _ _ _ h => h) (Or.inl ⟨by rfl, ?_⟩) ?_
            rotate_left 1
            ·(intro _; go_simp; (try go_bits); (try with_reducible rfl))
            refine wpAny_take (i := 5) (v := ?_) rfl (by kernel_rfl) (by kernel_rfl) (by kernel_rfl) (fun _ _ _ h => h) (Or.inl ⟨by rfl, ?_⟩) ?_
            rotate_left 1
            ·(intro _; go_simp; (try go_bits); (try with_reducible rfl))
            refine wpAny_take (i := 6) (v := ?_) rfl (by kernel_rfl) (by kernel_rfl) (by kernel_rfl) (fun _ _ _ h => h) (Or.inl ⟨by rfl, ?_⟩) ?_
            rotate_left 1
            ·(intro _; go_simp; (try go_bits); (try with_reducible rfl))
            refine wpAny_ready (rs := [0, 7]) (by kernel_rfl) (by simp) ?_
            refine AllReady.cons rfl (fun K hK => ?_) ?_
            ·skip
             go_simp
             try go_bits
             refine hK _ _ ?_; clear hK K
             refine wpAny_ready (rs := [7]) (by kernel_rfl) (by simp) ?_
             refine AllReady.cons rfl (fun K hK => ?_) ?_
             ·skip
              go_simp
              try go_bits
              refine hK _ _ ?_; clear hK K
              refine wpAny_ready (rs := [8]) (by kernel_rfl) (by simp) ?_
              refine AllReady.cons rfl (fun K hK => ?_) ?_
              ·(try rw [drew_alloc]; refine step_push (w.heap.size + 5) rfl _ _ 25 5 rfl Tryz.underlying25 infoByte rfl (by omega) HDI.out.drew.row _ rfl (by omega) HDI.out.size rfl rfl ?_; rintro _ w1 ⟨g1, cap1, rfl⟩ hown1 hgr1; rw [HU.out] at hown1; obtain ⟨q1, q2, q3⟩ := HDI.out.drew.push rfl (fun k h => h) hown1 hgr1; clear hown1 hgr1; generalize (decN A l i ++ (grpOut A g).take 0).length + 1 = q at q1 q2 q3 ⊢; have Q3 := Lib.hid q3; clear q3)
               try go_simp
               refine hK _ _ ?_; clear hK K
               refine wpAny_ready (rs := [9]) (by kernel_rfl) (by simp) ?_
               refine AllReady.cons rfl (fun K hK => ?_) ?_
               ·skip
                go_simp
                try go_bits
                refine hK _ _ ?_; clear hK K
                refine wpAny_done (by kernel_rfl) ?_ _
                simp only [onlyN]
                gi_wp2
                go_roundw
                case rel => exact ⟨0 + 1, _, by omega, by go_num, by rw [hpj, ← List.append_assoc]; exact Q3.out⟩
                case measure => simp [intOf] <;> omega
               exact AllReady.nil
              exact AllReady.nil
             exact AllReady.nil
            refine AllReady.cons rfl (fun K hK => ?_) ?_
            ·skip
             go_simp
             try go_bits
             refine hK _ _ ?_; clear hK K
             refine wpAny_ready (rs := [0]) (by kernel_rfl) (by simp) ?_
             refine AllReady.cons rfl (fun K hK => ?_) ?_
             ·skip
              go_simp
              try go_bits
              refine hK _ _ ?_; clear hK K
              refine wpAny_ready (rs := [8]) (by kernel_rfl) (by simp) ?_
              refine AllReady.cons rfl (fun K hK => ?_) ?_
              ·(try rw [drew_alloc]; refine step_push (w.heap.size + 5) rfl _ _ 25 5 rfl Tryz.underlying25 infoByte rfl (by omega) HDI.out.drew.row _ rfl (by omega) HDI.out.size rfl rfl ?_; rintro _ w1 ⟨g1, cap1, rfl⟩ hown1 hgr1; rw [HU.out] at hown1; obtain ⟨q1, q2, q3⟩ := HDI.out.drew.push rfl (fun k h => h) hown1 hgr1; clear hown1 hgr1; generalize (decN A l i ++ (grpOut A g).take 0).length + 1 = q at q1 q2 q3 ⊢; have Q3 := Lib.hid q3; clear q3)
               try go_simp
               refine hK _ _ ?_; clear hK K
               refine wpAny_ready (rs := [9]) (by kernel_rfl) (by simp) ?_
               refine AllReady.cons rfl (fun K hK => ?_) ?_
               ·skip
                go_simp
                try go_bits
                refine hK _ _ ?_; clear hK K
                refine wpAny_done (by kernel_rfl) ?_ _
                simp only [onlyN]
                gi_wp2
                go_roundw
                case rel => exact ⟨0 + 1, _, by omega, by go_num, by rw [hpj, ← List.append_assoc]; exact Q3.out⟩
                case measure => simp [intOf] <;> omega
               exact AllReady.nil
              exact AllReady.nil
             exact AllReady.nil
            exact AllReady.nil
            )
        ·first
         | (exfalso; omega)
         | (have hu : Value.int .u8 ((B : Int) / 256 % 256) = Byt (UInt8.ofNat (grpNum A g / 2 ^ (8 * (2 - 1)))) := by
              simp only [Byt, UInt8.toNat_ofNat']
              try rw [Hnum.out]
              try congr 1
              try simp only [Nat.reduceMul, Nat.reduceSub, Nat.reducePow]
              try omega
            have HU := Lib.hid hu; clear hu
            gi_wp2
            refine wpIn_region_plain (r := some lp) (by kernel_rfl) (by kernel_rfl) ?_
            simp only [List.size_toArray, List.length_cons, List.length_nil, Nat.reduceAdd, Array.replicate_succ, Array.replicate_zero, List.push_toArray, List.nil_append, List.cons_append]
            refine wpAny_take (i := 1) (v := ?_) rfl (by kernel_rfl) (by kernel_rfl) (by kernel_rfl) (fun _ _ _ h => h) (Or.inl ⟨by rfl, ?_⟩) ?_
            rotate_left 1
            ·(intro _; go_simp; (try go_bits); (try with_reducible rfl))
            refine wpAny_take (i := 2) (v := ?_) rfl (by kernel_rfl) (by kernel_rfl) (by kernel_rfl) (fun _ _ _ h => h) (Or.inl ⟨by rfl, ?_⟩) ?_
            rotate_left 1
            ·(intro _; go_simp; (try go_bits); (try with_reducible rfl))
            refine wpAny_take (i := 3) (v := ?_) rfl (by kernel_rfl) (by kernel_rfl) (by kernel_rfl) (fun _ _ _ h => h) (Or.inl ⟨by rfl, ?_⟩) ?_
            rotate_left 1
            ·(intro _; go_simp; (try go_bits); (try with_reducible rfl))
            refine wpAny_take (i := 4) (v := ?_) rfl (by kernel_rfl) (by kernel_rfl) (by kernel_rfl) (fun _ _ _ h => h) (Or.inl ⟨by rfl, ?_⟩) ?_
            rotate_left 1
            ·(intro _; go_simp; (try go_bits); (try with_reducible rfl))
            refine wpAny_take (i := 5) (v := ?_) rfl (by kernel_rfl) (by kernel_rfl) (by kernel_rfl) (fun _ _ _ h => h) (Or.inl ⟨by rfl, ?_⟩) ?_
            rotate_left 1
            ·(intro _; go_simp; (try go_bits); (try with_reducible rfl))
            refine wpAny_take (i := 6) (v := ?_) rfl (by kernel_rfl) (by kernel_rfl) (by kernel_rfl) (fun _ _ _ h => h) (Or.inl ⟨by rfl, ?_⟩) ?_
            rotate_left 1
            ·(intro _; go_simp; (try go_bits); (try with_reducible rfl))
            refine wpAny_ready (rs := [0, 7]) (by kernel_rfl) (by simp) ?_
            refine AllReady.cons rfl (fun K hK => ?_) ?_
            ·skip
             go_simp
             try go_bits
             refine hK _ _ ?_; clear hK K
             refine wpAny_ready (rs := [7]) (by kernel_rfl) (by simp) ?_
             refine AllReady.cons rfl (fun K hK => ?_) ?_
             ·skip
              go_simp
              try go_bits
              refine hK _ _ ?_; clear hK K
              refine wpAny_ready (rs := [8]) (by kernel_rfl) (by simp) ?_
              refine AllReady.cons rfl (fun K hK => ?_) ?_
              ·(try rw [drew_alloc]; refine step_push (w.heap.size + 5) rfl _ _ 25 5 rfl Tryz.underlying25 infoByte rfl (by omega) HDI.out.drew.row _ rfl (by omega) HDI.out.size rfl rfl ?_; rintro _ w1 ⟨g1, cap1, rfl⟩ hown1 hgr1; rw [HU.out] at hown1; obtain ⟨q1, q2, q3⟩ := HDI.out.drew.push rfl (fun k h => h) hown1 hgr1; clear hown1 hgr1; generalize (decN A l i ++ (grpOut A g).take 1).length + 1 = q at q1 q2 q3 ⊢; have Q3 := Lib.hid q3; clear q3)
               try go_simp
               refine hK _ _ ?_; clear hK K
               refine wpAny_ready (rs := [9]) (by kernel_rfl) (by simp) ?_
               refine AllReady.cons rfl (fun K hK => ?_) ?_
               ·skip
                go_simp
                try go_bits
                refine hK _ _ ?_; clear hK K
                refine wpAny_done (by kernel_rfl) ?_ _
                simp only [onlyN]
                gi_wp2
                go_roundw
                case rel => exact ⟨1 + 1, _, by omega, by go_num, by rw [hpj, ← List.append_assoc]; exact Q3.out⟩
                case measure => simp [intOf] <;> omega
               exact AllReady.nil
              exact AllReady.nil
             exact AllReady.nil
            refine AllReady.cons rfl (fun K hK => ?_) ?_
            ·skip
             go_simp
             try go_bits
             refine hK _ _ ?_; clear hK K
             refine wpAny_ready (rs := [0]) (by kernel_rfl) (by simp) ?_
             refine AllReady.cons rfl (fun K hK => ?_) ?_
             ·skip
              go_simp
              try go_bits
              refine hK _ _ ?_; clear hK K
              refine wpAny_ready (rs := [8]) (by kernel_rfl) (by simp) ?_
              refine AllReady.cons rfl (fun K hK => ?_) ?_
              ·(try rw [drew_alloc]; refine step_push (w.heap.size + 5) rfl _ _ 25 5 rfl Tryz.underlying25 infoByte rfl (by omega) HDI.out.drew.row _ rfl (by omega) HDI.out.size rfl rfl ?_; rintro _ w1 ⟨g1, cap1, rfl⟩ hown1 hgr1; rw [HU.out] at hown1; obtain ⟨q1, q2, q3⟩ := HDI.out.drew.push rfl (fun k h => h) hown1 hgr1; clear hown1 hgr1; generalize (decN A l i ++ (grpOut A g).take 1).length + 1 = q at q1 q2 q3 ⊢; have Q3 := Lib.hid q3; clear q3)
               try go_simp
               refine hK _ _ ?_; clear hK K
               refine wpAny_ready (rs := [9]) (by kernel_rfl) (by simp) ?_
               refine AllReady.cons rfl (fun K hK => ?_) ?_
               ·skip
                go_simp
                try go_bits
                refine hK _ _ ?_; clear hK K
                refine wpAny_done (by kernel_rfl) ?_ _
                simp only [onlyN]
                gi_wp2
                go_roundw
                case rel => exact ⟨1 + 1, _, by omega, by go_num, by rw [hpj, ← List.append_assoc]; exact Q3.out⟩
                case measure => simp [intOf] <;> omega
               exact AllReady.nil
              exact AllReady.nil
             exact AllReady.nil
            exact AllReady.nil
            )
        ·first
         | (exfalso; omega)
         | (have hu : Value.int .u8 ((B : Int) % 256) = Byt (UInt8.ofNat (grpNum A g / 2 ^ (8 * (2 - 2)))) := by
              simp only [Byt, UInt8.toNat_ofNat']
              try rw [Hnum.out]
              try congr 1
              try simp only [Nat.reduceMul, Nat.reduceSub, Nat.reducePow]
              try omega
            have HU := Lib.hid hu; clear hu
            gi_wp2
            refine wpIn_region_plain (r := some lp) (by kernel_rfl) (by kernel_rfl) ?_
            simp only [List.size_toArray, List.length_cons, List.length_nil, Nat.reduceAdd, Array.replicate_succ, Array.replicate_zero, List.push_toArray, List.nil_append, List.cons_append]
            refine wpAny_take (i := 1) (v := ?_) rfl (by kernel_rfl) (by kernel_rfl) (by kernel_rfl) (fun _ _ _ h => h) (Or.inl ⟨by rfl, ?_⟩) ?_
            rotate_left 1
            ·(intro _; go_simp; (try go_bits); (try with_reducible rfl))
            refine wpAny_take (i := 2) (v := ?_) rfl (by kernel_rfl) (by kernel_rfl) (by kernel_rfl) (fun _ _ _ h => h) (Or.inl ⟨by rfl, ?_⟩) ?_
            rotate_left 1
            ·(intro _; go_simp; (try go_bits); (try with_reducible rfl))
            refine wpAny_take (i := 3) (v := ?_) rfl (by kernel_rfl) (by kernel_rfl) (by kernel_rfl) (fun _ _ _ h => h) (Or.inl ⟨by rfl, ?_⟩) ?_
            rotate_left 1
            ·(intro _; go_simp; (try go_bits); (try with_reducible rfl))
            refine wpAny_take (i := 4) (v := ?_) rfl (by kernel_rfl) (by kernel_rfl) (by kernel_rfl) (fun _ _ _ h => h) (Or.inl ⟨by rfl, ?_⟩) ?_
            rotate_left 1
            ·(intro _; go_simp; (try go_bits); (try with_reducible rfl))
            refine wpAny_take (i := 5) (v := ?_) rfl (by kernel_rfl) (by kernel_rfl) (by kernel_rfl) (fun _ _ _ h => h) (Or.inl ⟨by rfl, ?_⟩) ?_
            rotate_left 1
            ·(intro _; go_simp; (try go_bits); (try with_reducible rfl))
            refine wpAny_take (i := 6) (v := ?_) rfl (by kernel_rfl) (by kernel_rfl) (by kernel_rfl) (fun _ _ _ h => h) (Or.inl ⟨by rfl, ?_⟩) ?_
            rotate_left 1
            ·(intro _; go_simp; (try go_bits); (try with_reducible rfl))
            refine wpAny_ready (rs := [0, 7]) (by kernel_rfl) (by simp) ?_
            refine AllReady.cons rfl (fun K hK => ?_) ?_
            ·skip
             go_simp
             try go_bits
             refine hK _ _ ?_; clear hK K
             refine wpAny_ready (rs := [7]) (by kernel_rfl) (by simp) ?_
             refine AllReady.cons rfl (fun K hK => ?_) ?_
             ·skip
              go_simp
              try go_bits
              refine hK _ _ ?_; clear hK K
              refine wpAny_ready (rs := [8]) (by kernel_rfl) (by simp) ?_
              refine AllReady.cons rfl (fun K hK => ?_) ?_
              ·(try rw [drew_alloc]; refine step_push (w.heap.size + 5) rfl _ _ 25 5 rfl Tryz.underlying25 infoByte rfl (by omega) HDI.out.drew.row _ rfl (by omega) HDI.out.size rfl rfl ?_; rintro _ w1 ⟨g1, cap1, rfl⟩ hown1 hgr1; rw [HU.out] at hown1; obtain ⟨q1, q2, q3⟩ := HDI.out.drew.push rfl (fun k h => h) hown1 hgr1; clear hown1 hgr1; generalize (decN A l i ++ (grpOut A g).take 2).length + 1 = q at q1 q2 q3 ⊢; have Q3 := Lib.hid q3; clear q3)
               try go_simp
               refine hK _ _ ?_; clear hK K
               refine wpAny_ready (rs := [9]) (by kernel_rfl) (by simp) ?_
               refine AllReady.cons rfl (fun K hK => ?_) ?_
               ·skip
                go_simp
                try go_bits
                refine hK _ _ ?_; clear hK K
                refine wpAny_done (by kernel_rfl) ?_ _
                simp only [onlyN]
                gi_wp2
                go_roundw
                case rel => exact ⟨2 + 1, _, by omega, by go_num, by rw [hpj, ← List.append_assoc]; exact Q3.out⟩
                case measure => simp [intOf] <;> omega
               exact AllReady.nil
              exact AllReady.nil
             exact AllReady.nil
            refine AllReady.cons rfl (fun K hK => ?_) ?_
            ·skip
             go_simp
             try go_bits
             refine hK _ _ ?_; clear hK K
             refine wpAny_ready (rs := [0]) (by kernel_rfl) (by simp) ?_
             refine AllReady.cons rfl (fun K hK => ?_) ?_
             ·skip
              go_simp
              try go_bits
              refine hK _ _ ?_; clear hK K
              refine wpAny_ready (rs := [8]) (by kernel_rfl) (by simp) ?_
              refine AllReady.cons rfl (fun K hK => ?_) ?_
              ·(try rw [drew_alloc]; refine step_push (w.heap.size + 5) rfl _ _ 25 5 rfl Tryz.underlying25 infoByte rfl (by omega) HDI.out.drew.row _ rfl (by omega) HDI.out.size rfl rfl ?_; rintro _ w1 ⟨g1, cap1, rfl⟩ hown1 hgr1; rw [HU.out] at hown1; obtain ⟨q1, q2, q3⟩ := HDI.out.drew.push rfl (fun k h => h) hown1 hgr1; clear hown1 hgr1; generalize (decN A l i ++ (grpOut A g).take 2).length + 1 = q at q1 q2 q3 ⊢; have Q3 := Lib.hid q3; clear q3)
               try go_simp
               refine hK _ _ ?_; clear hK K
               refine wpAny_ready (rs := [9]) (by kernel_rfl) (by simp) ?_
               refine AllReady.cons rfl (fun K hK => ?_) ?_
               ·skip
                go_simp
                try go_bits
                refine hK _ _ ?_; clear hK K
                refine wpAny_done (by kernel_rfl) ?_ _
                simp only [onlyN]
                gi_wp2
                go_roundw
                case rel => exact ⟨2 + 1, _, by omega, by go_num, by rw [hpj, ← List.append_assoc]; exact Q3.out⟩
                case measure => simp [intOf] <;> omega
               exact AllReady.nil
              exact AllReady.nil
             exact AllReady.nil
            exact AllReady.nil
            )
       ·obtain rfl : j = 2 - 1 := by omega
        rw [Hall.out, ← hdn.out] at hdi
        have HDI := Lib.hid hdi; clear hdi
        gi_wp2
        exact ⟨hsz0 ▸ HDI.out.kp, HDI.out.h0, ⟨_, HDI.out.h1, HDI.out.row⟩, HDI.out.h2, hok1, HDI.out.bel, HDI.out.size⟩
     ·have hxb : ((x : Int) != 0) = true := by simp; omega
      gi_wp2
      rw [show (b : Int) * 4096 = (B : Int) by omega]
      have HB := Lib.hid hB; clear hB
      gi_loopw [59] (fun p wr => ∃ (j : Nat) (v : Value), j ≤ 2 - 1 ∧ p = .int .i64 j ∧ DI w.heap.size A w W2 (fun k => k = w.heap.size + 3 ∨ k = w.heap.size + 4) (decN A l i ++ (grpOut A g).take j) (codN A l (i + 1) : Nat) v wr) (fun i _ => 2 - 1 - (intOf i).toNat)
      case atStart =>
       have hs := HD1.out
       rw [Hbad.out] at hs
       simp only [show ((x != 0) = true) by simpa using hxz, if_true, if_false] at hs
       exact ⟨0, v, by omega, rfl, by rw [List.take_zero, List.append_nil]; exact hs⟩
      case round =>
       obtain ⟨j, v', hj, rfl, hdi⟩ := hrel
       by_cases hjn : j < 2 - 1
       ·have hpj := Hout.out j (by omega)
        have c1 : wr.cell? ⟨w.heap.size + 1, 0, none⟩ = some v' := cell_of hdi.h1
        have c1a : ∀ o, (wr.alloc o).cell? ⟨w.heap.size + 1, 0, none⟩ = some v' := fun o => ext_cell ((Below.refl _ _).alloc (Nat.le_refl _) o) c1
        have hlen : (decN A l i ++ (grpOut A g).take j).length ≤ 60000 := by rw [List.length_append, List.length_take]; omega
        have HDI := Lib.hid hdi; clear hdi
        obtain rfl | rfl | rfl : j = 0 ∨ j = 1 ∨ j = 2 := by omega
        ·first
         | (exfalso; omega)
         | (have hu : Value.int .u8 ((B : Int) / 65536) = Byt (UInt8.ofNat (grpNum A g / 2 ^ (8 * (2 - 0)))) := by
              simp only [Byt, UInt8.toNat_ofNat']
              try rw [Hnum.out]
              try congr 1
              try simp only [Nat.reduceMul, Nat.reduceSub, Nat.reducePow]
              try omega
            have HU := Lib.hid hu; clear hu
            gi_wp2
            refine wpIn_region_plain (r := some lp) (by kernel_rfl) (by kernel_rfl) ?_
            simp only [List.size_toArray, List.length_cons, List.length_nil, Nat.reduceAdd, Array.replicate_succ, Array.replicate_zero, List.push_toArray, List.nil_append, List.cons_append]
            refine wpAny_take (i := 1) (v := ?_) rfl (by kernel_rfl) (by kernel_rfl) (by kernel_rfl) (fun _ _ _ h => h) (Or.inl ⟨by rfl, ?_⟩) ?_
            rotate_left 1
            ·(intro _; go_simp; (try go_bits); (try with_reducible rfl))
            refine wpAny_take (i := 2) (v := ?_) rfl (by kernel_rfl) (by kernel_rfl) (by kernel_rfl) (fun _ _ _ h => h) (Or.inl ⟨by rfl, ?_⟩) ?_
            rotate_left 1
            ·(intro _; go_simp; (try go_bits); (try with_reducible rfl))
            refine wpAny_take (i := 3) (v := ?_) rfl (by kernel_rfl) (by kernel_rfl) (by kernel_rfl) (fun _ _ _ h => h) (Or.inl ⟨by rfl, ?_⟩) ?_
            rotate_left 1
            ·(intro _; go_simp; (try go_bits); (try with_reducible rfl))
            refine wpAny_take (i := 4) (v := ?_) rfl (by kernel_rfl) (by kernel_rfl) (by kernel_rfl) (fun _ _ _ h => h) (Or.inl ⟨by rfl, ?_⟩) ?_
            rotate_left 1
            ·(intro _; go_simp; (try go_bits); (try with_reducible rfl))
            refine wpAny_take (i := 5) (v := ?_) rfl (by kernel_rfl) (by kernel_rfl) (by kernel_rfl) (fun _ _ _ h => h) (Or.inl ⟨by rfl, ?_⟩) ?_
            rotate_left 1
            ·(intro _; go_simp; (try go_bits); (try with_reducible rfl))
            refine wpAny_take (i := 6) (v := ?_) rfl (by kernel_rfl) (by kernel_rfl) (by kernel_rfl) (fun _ _ _ h => h) (Or.inl ⟨by rfl, ?_⟩) ?_
            rotate_left 1
            ·(intro _; go_simp; (try go_bits); (try with_reducible rfl))
            refine wpAny_ready (rs := [0, 7]) (by kernel_rfl) (by simp) ?_
            refine AllReady.cons rfl (fun K hK => ?_) ?_
            ·skip
             go_simp
             try go_bits
             refine hK _ _ ?_; clear hK K
             refine wpAny_ready (rs := [7]) (by kernel_rfl) (by simp) ?_
             refine AllReady.cons rfl (fun K hK => ?_) ?_
             ·skip
              go_simp
              try go_bits
              refine hK _ _ ?_; clear hK K
              refine wpAny_ready (rs := [8]) (by kernel_rfl) (by simp) ?_
              refine AllReady.cons rfl (fun K hK => ?_) ?_
              ·(try rw [drew_alloc]; refine step_push (w.heap.size + 5) rfl _ _ 25 5 rfl Tryz.underlying25 infoByte rfl (by omega) HDI.out.drew.row _ rfl (by omega) HDI.out.size rfl rfl ?_; rintro _ w1 ⟨g1, cap1, rfl⟩ hown1 hgr1; rw [HU.out] at hown1; obtain ⟨q1, q2, q3⟩ := HDI.out.drew.push rfl (fun k h => h) hown1 hgr1; clear hown1 hgr1; generalize (decN A l i ++ (grpOut A g).take 0).length + 1 = q at q1 q2 q3 ⊢; have Q3 := Lib.hid q3; clear q3)
               try go_simp
               refine hK _ _ ?_; clear hK K
               refine wpAny_ready (rs := [9]) (by kernel_rfl) (by simp) ?_
               refine AllReady.cons rfl (fun K hK => ?_) ?_
               ·skip
                go_simp
                try go_bits
                refine hK _ _ ?_; clear hK K
                refine wpAny_done (by kernel_rfl) ?_ _
                simp only [onlyN]
                gi_wp2
                go_roundw
                case rel => exact ⟨0 + 1, _, by omega, by go_num, by rw [hpj, ← List.append_assoc]; exact Q3.out⟩
                case measure => simp [intOf] <;> omega
               exact AllReady.nil
              exact AllReady.nil
             exact AllReady.nil
            refine AllReady.cons rfl (fun K hK => ?_) ?_
            ·skip
             go_simp
             try go_bits
             refine hK _ _ ?_; clear hK K
             refine wpAny_ready (rs := [0]) (by kernel_rfl) (by simp) ?_
             refine AllReady.cons rfl (fun K hK => ?_) ?_
             ·skip
              go_simp
              try go_bits
              refine hK _ _ ?_; clear hK K
              refine wpAny_ready (rs := [8]) (by kernel_rfl) (by simp) ?_
              refine AllReady.cons rfl (fun K hK => ?_) ?_
              ·(try rw [drew_alloc]; refine step_push (w.heap.size + 5) rfl _ _ 25 5 rfl Tryz.underlying25 infoByte rfl (by omega) HDI.out.drew.row _ rfl (by omega) HDI.out.size rfl rfl ?_; rintro _ w1 ⟨g1, cap1, rfl⟩ hown1 hgr1; rw [HU.out] at hown1; obtain ⟨q1, q2, q3⟩ := HDI.out.drew.push rfl (fun k h => h) hown1 hgr1; clear hown1 hgr1; generalize (decN A l i ++ (grpOut A g).take 0).length + 1 = q at q1 q2 q3 ⊢; have Q3 := Lib.hid q3; clear q3)
               try go_simp
               refine hK _ _ ?_; clear hK K
               refine wpAny_ready (rs := [9]) (by kernel_rfl) (by simp) ?_
               refine AllReady.cons rfl (fun K hK => ?_) ?_
               ·skip
                go_simp
                try go_bits
                refine hK _ _ ?_; clear hK K
                refine wpAny_done (by kernel_rfl) ?_ _
                simp only [onlyN]
                gi_wp2
                go_roundw
                case rel => exact ⟨0 + 1, _, by omega, by go_num, by rw [hpj, ← List.append_assoc]; exact Q3.out⟩
                case measure => simp [intOf] <;> omega
               exact AllReady.nil
              exact AllReady.nil
             exact AllReady.nil
            exact AllReady.nil
            )
        ·first
         | (exfalso; omega)
         | (have hu : Value.int .u8 ((B : Int) / 256 % 256) = Byt (UInt8.ofNat (grpNum A g / 2 ^ (8 * (2 - 1)))) := by
              simp only [Byt, UInt8.toNat_ofNat']
              try rw [Hnum.out]
              try congr 1
              try simp only [Nat.reduceMul, Nat.reduceSub, Nat.reducePow]
              try omega
            have HU := Lib.hid hu; clear hu
            gi_wp2
            refine wpIn_region_plain (r := some lp) (by kernel_rfl) (by kernel_rfl) ?_
            simp only [List.size_toArray, List.length_cons, List.length_nil, Nat.reduceAdd, Array.replicate_succ, Array.replicate_zero, List.push_toArray, List.nil_append, List.cons_append]
            refine wpAny_take (i := 1) (v := ?_) rfl (by kernel_rfl) (by kernel_rfl) (by kernel_rfl) (fun _ _ _ h => h) (Or.inl ⟨by rfl, ?_⟩) ?_
            rotate_left 1
            ·(intro _; go_simp; (try go_bits); (try with_reducible rfl))
            refine wpAny_take (i := 2) (v := ?_) rfl (by kernel_rfl) (by kernel_rfl) (by kernel_rfl) (fun _ _ _ h => h) (Or.inl ⟨by rfl, ?_⟩) ?_
            rotate_left 1
            ·(intro _; go_simp; (try go_bits); (try with_reducible rfl))
            refine wpAny_take (i := 3) (v := ?_) rfl (by kernel_rfl) (by kernel_rfl) (by kernel_rfl) (fun _ _ _ h => h) (Or.inl ⟨by rfl, ?_⟩) ?_
            rotate_left 1
            ·(intro _; go_simp; (try go_bits); (try with_reducible rfl))
            refine wpAny_take (i := 4) (v := ?_) rfl (by kernel_rfl) (by kernel_rfl) (by kernel_rfl) (fun _ _ _ h => h) (Or.inl ⟨by rfl, ?_⟩) ?_
            rotate_left 1
            ·(intro _; go_simp; (try go_bits); (try with_reducible rfl))
            refine wpAny_take (i := 5) (v := ?_) rfl (by kernel_rfl) (by kernel_rfl) (by kernel_rfl) (fun _ _ _ h => h) (Or.inl ⟨by rfl, ?_⟩) ?_
            rotate_left 1
            ·(intro _; go_simp; (try go_bits); (try with_reducible rfl))
            refine wpAny_take (i := 6) (v := ?_) rfl (by kernel_rfl) (by kernel_rfl) (by kernel_rfl) (fun _ _ _ h => h) (Or.inl ⟨by rfl, ?_⟩) ?_
            rotate_left 1
            ·(intro _; go_simp; (try go_bits); (try with_reducible rfl))
            refine wpAny_ready (rs := [0, 7]) (by kernel_rfl) (by simp) ?_
            refine AllReady.cons rfl (fun K hK => ?_) ?_
            ·skip
             go_simp
             try go_bits
             refine hK _ _ ?_; clear hK K
             refine wpAny_ready (rs := [7]) (by kernel_rfl) (by simp) ?_
             refine AllReady.cons rfl (fun K hK => ?_) ?_
             ·skip
              go_simp
              try go_bits
              refine hK _ _ ?_; clear hK K
              refine wpAny_ready (rs := [8]) (by kernel_rfl) (by simp) ?_
              refine AllReady.cons rfl (fun K hK => ?_) ?_
              ·(try rw [drew_alloc]; refine step_push (w.heap.size + 5) rfl _ _ 25 5 rfl Tryz.underlying25 infoByte rfl (by omega) HDI.out.drew.row _ rfl (by omega) HDI.out.size rfl rfl ?_; rintro _ w1 ⟨g1, cap1, rfl⟩ hown1 hgr1; rw [HU.out] at hown1; obtain ⟨q1, q2, q3⟩ := HDI.out.drew.push rfl (fun k h => h) hown1 hgr1; clear hown1 hgr1; generalize (decN A l i ++ (grpOut A g).take 1).length + 1 = q at q1 q2 q3 ⊢; have Q3 := Lib.hid q3; clear q3)
               try go_simp
               refine hK _ _ ?_; clear hK K
               refine wpAny_ready (rs := [9]) (by kernel_rfl) (by simp) ?_
               refine AllReady.cons rfl (fun K hK => ?_) ?_
               ·skip
                go_simp
                try go_bits
                refine hK _ _ ?_; clear hK K
                refine wpAny_done (by kernel_rfl) ?_ _
                simp only [onlyN]
                gi_wp2
                go_roundw
                case rel => exact ⟨1 + 1, _, by omega, by go_num, by rw [hpj, ← List.append_assoc]; exact Q3.out⟩
                case measure => simp [intOf] <;> omega
               exact AllReady.nil
              exact AllReady.nil
             exact AllReady.nil
            refine AllReady.cons rfl (fun K hK => ?_) ?_
            ·skip
             go_simp
             try go_bits
             refine hK _ _ ?_; clear hK K
             refine wpAny_ready (rs := [0]) (by kernel_rfl) (by simp) ?_
             refine AllReady.cons rfl (fun K hK => ?_) ?_
             ·skip
              go_simp
              try go_bits
              refine hK _ _ ?_; clear hK K
              refine wpAny_ready (rs := [8]) (by kernel_rfl) (by simp) ?_
              refine AllReady.cons rfl (fun K hK => ?_) ?_
              ·(try rw [drew_alloc]; refine step_push (w.heap.size + 5) rfl _ _ 25 5 rfl Tryz.underlying25 infoByte rfl (by omega) HDI.out.drew.row _ rfl (by omega) HDI.out.size rfl rfl ?_; rintro _ w1 ⟨g1, cap1, rfl⟩ hown1 hgr1; rw [HU.out] at hown1; obtain ⟨q1, q2, q3⟩ := HDI.out.drew.push rfl (fun k h => h) hown1 hgr1; clear hown1 hgr1; generalize (decN A l i ++ (grpOut A g).take 1).length + 1 = q at q1 q2 q3 ⊢; have Q3 := Lib.hid q3; clear q3)
               try go_simp
               refine hK _ _ ?_; clear hK K
               refine wpAny_ready (rs := [9]) (by kernel_rfl) (by simp) ?_
               refine AllReady.cons rfl (fun K hK => ?_) ?_
               ·skip
                go_simp
                try go_bits
                refine hK _ _ ?_; clear hK K
                refine wpAny_done (by kernel_rfl) ?_ _
                simp only [onlyN]
                gi_wp2
                go_roundw
                case rel => exact ⟨1 + 1, _, by omega, by go_num, by rw [hpj, ← List.append_assoc]; exact Q3.out⟩
                case measure => simp [intOf] <;> omega
               exact AllReady.nil
              exact AllReady.nil
             exact AllReady.nil
            exact AllReady.nil
            )
        ·first
         | (exfalso; omega)
         | (have hu : Value.int .u8 ((B : Int) % 256) = Byt (UInt8.ofNat (grpNum A g / 2 ^ (8 * (2 - 2)))) := by
              simp only [Byt, UInt8.toNat_ofNat']
              try rw [Hnum.out]
              try congr 1
              try simp only [Nat.reduceMul, Nat.reduceSub, Nat.reducePow]
              try omega
            have HU := Lib.hid hu; clear hu
            gi_wp2
            refine wpIn_region_plain (r := some lp) (by kernel_rfl) (by kernel_rfl) ?_
            simp only [List.size_toArray, List.length_cons, List.length_nil, Nat.reduceAdd, Array.replicate_succ, Array.replicate_zero, List.push_toArray, List.nil_append, List.cons_append]
            refine wpAny_take (i := 1) (v := ?_) rfl (by kernel_rfl) (by kernel_rfl) (by kernel_rfl) (fun _ _ _ h => h) (Or.inl ⟨by rfl, ?_⟩) ?_
            rotate_left 1
            ·(intro _; go_simp; (try go_bits); (try with_reducible rfl))
            refine wpAny_take (i := 2) (v := ?_) rfl (by kernel_rfl) (by kernel_rfl) (by kernel_rfl) (fun _ _ _ h => h) (Or.inl ⟨by rfl, ?_⟩) ?_
            rotate_left 1
            ·(intro _; go_simp; (try go_bits); (try with_reducible rfl))
            refine wpAny_take (i := 3) (v := ?_) rfl (by kernel_rfl) (by kernel_rfl) (by kernel_rfl) (fun _ _ _ h => h) (Or.inl ⟨by rfl, ?_⟩) ?_
            rotate_left 1
            ·(intro _; go_simp; (try go_bits); (try with_reducible rfl))
            refine wpAny_take (i := 4) (v := ?_) rfl (by kernel_rfl) (by kernel_rfl) (by kernel_rfl) (fun _ _ _ h => h) (Or.inl ⟨by rfl, ?_⟩) ?_
            rotate_left 1
            ·(intro _; go_simp; (try go_bits); (try with_reducible rfl))
            refine wpAny_take (i := 5) (v := ?_) rfl (by kernel_rfl) (by kernel_rfl) (by kernel_rfl) (fun _ _ _ h => h) (Or.inl ⟨by rfl, ?_⟩) ?_
            rotate_left 1
            ·(intro _; go_simp; (try go_bits); (try with_reducible rfl))
            refine wpAny_take (i := 6) (v := ?_) rfl (by kernel_rfl) (by kernel_rfl) (by kernel_rfl) (fun _ _ _ h => h) (Or.inl ⟨by rfl, ?_⟩) ?_
            rotate_left 1
            ·(intro _; go_simp; (try go_bits); (try with_reducible rfl))
            refine wpAny_ready (rs := [0, 7]) (by kernel_rfl) (by simp) ?_
            refine AllReady.cons rfl (fun K hK => ?_) ?_
            ·skip
             go_simp
             try go_bits
             refine hK _ _ ?_; clear hK K
             refine wpAny_ready (rs := [7]) (by kernel_rfl) (by simp) ?_
             refine AllReady.cons rfl (fun K hK => ?_) ?_
             ·skip
              go_simp
              try go_bits
              refine hK _ _ ?_; clear hK K
              refine wpAny_ready (rs := [8]) (by kernel_rfl) (by simp) ?_
              refine AllReady.cons rfl (fun K hK => ?_) ?_
              ·(try rw [drew_alloc]; refine step_push (w.heap.size + 5) rfl _ _ 25 5 rfl Tryz.underlying25 infoByte rfl (by omega) HDI.out.drew.row _ rfl (by omega) HDI.out.size rfl rfl ?_; rintro _ w1 ⟨g1, cap1, rfl⟩ hown1 hgr1; rw [HU.out] at hown1; obtain ⟨q1, q2, q3⟩ := HDI.out.drew.push rfl (fun k h => h) hown1 hgr1; clear hown1 hgr1; generalize (decN A l i ++ (grpOut A g).take 2).length + 1 = q at q1 q2 q3 ⊢; have Q3 := Lib.hid q3; clear q3)
               try go_simp
               refine hK _ _ ?_; clear hK K
               refine wpAny_ready (rs := [9]) (by kernel_rfl) (by simp) ?_
               refine AllReady.cons rfl (fun K hK => ?_) ?_
               ·skip
                go_simp
                try go_bits
                refine hK _ _ ?_; clear hK K
                refine wpAny_done (by kernel_rfl) ?_ _
                simp only [onlyN]
                gi_wp2
                go_roundw
                case rel => exact ⟨2 + 1, _, by omega, by go_num, by rw [hpj, ← List.append_assoc]; exact Q3.out⟩
                case measure => simp [intOf] <;> omega
               exact AllReady.nil
              exact AllReady.nil
             exact AllReady.nil
            refine AllReady.cons rfl (fun K hK => ?_) ?_
            ·skip
             go_simp
             try go_bits
             refine hK _ _ ?_; clear hK K
             refine wpAny_ready (rs := [0]) (by kernel_rfl) (by simp) ?_
             refine AllReady.cons rfl (fun K hK => ?_) ?_
             ·skip
              go_simp
              try go_bits
              refine hK _ _ ?_; clear hK K
              refine wpAny_ready (rs := [8]) (by kernel_rfl) (by simp) ?_
              refine AllReady.cons rfl (fun K hK => ?_) ?_
              ·(try rw [drew_alloc]; refine step_push (w.heap.size + 5) rfl _ _ 25 5 rfl Tryz.underlying25 infoByte rfl (by omega) HDI.out.drew.row _ rfl (by omega) HDI.out.size rfl rfl ?_; rintro _ w1 ⟨g1, cap1, rfl⟩ hown1 hgr1; rw [HU.out] at hown1; obtain ⟨q1, q2, q3⟩ := HDI.out.drew.push rfl (fun k h => h) hown1 hgr1; clear hown1 hgr1; generalize (decN A l i ++ (grpOut A g).take 2).length + 1 = q at q1 q2 q3 ⊢; have Q3 := Lib.hid q3; clear q3)
               try go_simp
               refine hK _ _ ?_; clear hK K
               refine wpAny_ready (rs := [9]) (by kernel_rfl) (by simp) ?_
               refine AllReady.cons rfl (fun K hK => ?_) ?_
               ·skip
                go_simp
                try go_bits
                refine hK _ _ ?_; clear hK K
                refine wpAny_done (by kernel_rfl) ?_ _
                simp only [onlyN]
                gi_wp2
                go_roundw
                case rel => exact ⟨2 + 1, _, by omega, by go_num, by rw [hpj, ← List.append_assoc]; exact Q3.out⟩
                case measure => simp [intOf] <;> omega
               exact AllReady.nil
              exact AllReady.nil
             exact AllReady.nil
            exact AllReady.nil
            )
       ·obtain rfl : j = 2 - 1 := by omega
        rw [Hall.out, ← hdn.out] at hdi
        have HDI := Lib.hid hdi; clear hdi
        gi_wp2
        exact ⟨hsz0 ▸ HDI.out.kp, HDI.out.h0, ⟨_, HDI.out.h1, HDI.out.row⟩, HDI.out.h2, hok1, HDI.out.bel, HDI.out.size⟩
    ·rw [hl] at Hout Hall Hbad Hnum hbl ⊢
     simp only [Nat.reduceSub, Nat.reduceMul, Nat.reducePow, Nat.reduceLT, decide_true, Bool.true_and] at Hbad Hnum hbl
     obtain ⟨x, hx⟩ : ∃ x, x = b * 64 % 256 := ⟨_, rfl⟩
     rw [← hx] at Hbad
     have hand : bits BinOp.and .i64 ((b : Int) * 64) 255 = (x : Int) := by
      have := and_num 8 255 255 (b * 64) (by omega) rfl rfl (by omega)
      rw [show (2 : Nat) ^ 8 = 256 from rfl, ← hx] at this
      simpa using this
     clear hx
     obtain ⟨B, hB⟩ : ∃ B, B = b * 64 := ⟨_, rfl⟩
     rw [← hB] at Hnum
     have hBl : B < 16777216 := by omega
     by_cases hxz : x = 0
     ·subst hxz
      gi_wp2
      rw [show (b : Int) * 64 = (B : Int) by omega]
      have HB := Lib.hid hB; clear hB
      gi_loopw [59] (fun p wr => ∃ (j : Nat) (v : Value), j ≤ 3 - 1 ∧ p = .int .i64 j ∧ DI w.heap.size A w W2 (fun k => k = w.heap.size + 3 ∨ k = w.heap.size + 4) (decN A l i ++ (grpOut A g).take j) (codN A l (i + 1) : Nat) v wr) (fun i _ => 3 - 1 - (intOf i).toNat)
      case atStart =>
       have hs := HD1.out
       rw [Hbad.out] at hs
       simp only [bne_self_eq_false, Bool.false_eq_true, if_true, if_false] at hs
       exact ⟨0, v, by omega, rfl, by rw [List.take_zero, List.append_nil]; exact hs⟩
      case round =>
       obtain ⟨j, v', hj, rfl, hdi⟩ := hrel
       by_cases hjn : j < 3 - 1
       ·have hpj := Hout.out j (by omega)
        have c1 : wr.cell? ⟨w.heap.size + 1, 0, none⟩ = some v' := cell_of hdi.h1
        have c1a : ∀ o, (wr.alloc o).cell? ⟨w.heap.size + 1, 0, none⟩ = some v' := fun o => ext_cell ((Below.refl _ _).alloc (Nat.le_refl _) o) c1
        have hlen : (decN A l i ++ (grpOut A g).take j).length ≤ 60000 := by rw [List.length_append, List.length_take]; omega
        have HDI := Lib.hid hdi; clear hdi
        obtain rfl | rfl | rfl : j = 0 ∨ j = 1 ∨ j = 2 := by omega
        ·first
         | (exfalso; omega)
         | (have hu : Value.int .u8 ((B : Int) / 65536) = Byt (UInt8.ofNat (grpNum A g / 2 ^ (8 * (2 - 0)))) := by
              simp only [Byt, UInt8.toNat_ofNat']
              try rw [Hnum.out]
              try congr 1
              try simp only [Nat.reduceMul, Nat.reduceSub, Nat.reducePow]
              try omega
            have HU := Lib.hid hu; clear hu
            gi_wp2
            refine wpIn_region_plain (r := some lp) (by kernel_rfl) (by kernel_rfl) ?_
            simp only [List.size_toArray, List.length_cons, List.length_nil, Nat.reduceAdd, Array.replicate_succ, Array.replicate_zero, List.push_toArray, List.nil_append, List.cons_append]
            refine wpAny_take (i := 1) (v := ?_) rfl (by kernel_rfl) (by kernel_rfl) (by kernel_rfl) (fun _ _ _ h => h) (Or.inl ⟨by rfl, ?_⟩) ?_
            rotate_left 1
            ·(intro _; go_simp; (try go_bits); (try with_reducible rfl))
            refine wpAny_take (i := 2) (v := ?_) rfl (by kernel_rfl) (by kernel_rfl) (by kernel_rfl) (fun _ _ _ h => h) (Or.inl ⟨by rfl, ?_⟩) ?_
            rotate_left 1
            ·(intro _; go_simp; (try go_bits); (try with_reducible rfl))
            refine wpAny_take (i := 3) (v := ?_) rfl (by kernel_rfl) (by kernel_rfl) (by kernel_rfl) (fun _ _ _ h => h) (Or.inl ⟨by rfl, ?_⟩) ?_
            rotate_left 1
            ·(intro _; go_simp; (try go_bits); (try with_reducible rfl))
            refine wpAny_take (i := 4) (v := ?_) rfl (by kernel_rfl) (by kernel_rfl) (by kernel_rfl) (fun _ _ _ h => h) (Or.inl ⟨by rfl, ?_⟩) ?_
            rotate_left 1
            ·(intro _; go_simp; (try go_bits); (try with_reducible rfl))
            refine wpAny_take (i := 5) (v := ?_) rfl (by kernel_rfl) (by kernel_rfl) (by kernel_rfl) (fun _ _ _ h => h) (Or.inl ⟨by rfl, ?_⟩) ?_
            rotate_left 1
            ·(intro _; go_simp; (try go_bits); (try with_reducible rfl))
            refine wpAny_take (i := 6) (v := ?_) rfl (by kernel_rfl) (by kernel_rfl) (by kernel_rfl) (fun _ _ _ h => h) (Or.inl ⟨by rfl, ?_⟩) ?_
            rotate_left 1
            ·(intro _; go_simp; (try go_bits); (try with_reducible rfl))
            refine wpAny_ready (rs := [0, 7]) (by kernel_rfl) (by simp) ?_
            refine AllReady.cons rfl (fun K hK => ?_) ?_
            ·skip
             go_simp
             try go_bits
             refine hK _ _ ?_; clear hK K
             refine wpAny_ready (rs := [7]) (by kernel_rfl) (by simp) ?_
             refine AllReady.cons rfl (fun K hK => ?_) ?_
             ·skip
              go_simp
              try go_bits
              refine hK _ _ ?_; clear hK K
              refine wpAny_ready (rs := [8]) (by kernel_rfl) (by simp) ?_
              refine AllReady.cons rfl (fun K hK => ?_) ?_
              ·(try rw [drew_alloc]; refine step_push (w.heap.size + 5) rfl _ _ 25 5 rfl Tryz.underlying25 infoByte rfl (by omega) HDI.out.drew.row _ rfl (by omega) HDI.out.size rfl rfl ?_; rintro _ w1 ⟨g1, cap1, rfl⟩ hown1 hgr1; rw [HU.out] at hown1; obtain ⟨q1, q2, q3⟩ := HDI.out.drew.push rfl (fun k h => h) hown1 hgr1; clear hown1 hgr1; generalize (decN A l i ++ (grpOut A g).take 0).length + 1 = q at q1 q2 q3 ⊢; have Q3 := Lib.hid q3; clear q3)
               try go_simp
               refine hK _ _ ?_; clear hK K
               refine wpAny_ready (rs := [9]) (by kernel_rfl) (by simp) ?_
               refine AllReady.cons rfl (fun K hK => ?_) ?_
               ·skip
                go_simp
                try go_bits
                refine hK _ _ ?_; clear hK K
                refine wpAny_done (by kernel_rfl) ?_ _
                simp only [onlyN]
                gi_wp2
                go_roundw
                case rel => exact ⟨0 + 1, _, by omega, by go_num, by rw [hpj, ← List.append_assoc]; exact Q3.out⟩
                case measure => simp [intOf] <;> omega
               exact AllReady.nil
              exact AllReady.nil
             exact AllReady.nil
            refine AllReady.cons rfl (fun K hK => ?_) ?_
            ·skip
             go_simp
             try go_bits
             refine hK _ _ ?_; clear hK K
             refine wpAny_ready (rs := [0]) (by kernel_rfl) (by simp) ?_
             refine AllReady.cons rfl (fun K hK => ?_) ?_
             ·skip
              go_simp
              try go_bits
              refine hK _ _ ?_; clear hK K
              refine wpAny_ready (rs := [8]) (by kernel_rfl) (by simp) ?_
              refine AllReady.cons rfl (fun K hK => ?_) ?_
              ·(try rw [drew_alloc]; refine step_push (w.heap.size + 5) rfl _ _ 25 5 rfl Tryz.underlying25 infoByte rfl (by omega) HDI.out.drew.row _ rfl (by omega) HDI.out.size rfl rfl ?_; rintro _ w1 ⟨g1, cap1, rfl⟩ hown1 hgr1; rw [HU.out] at hown1; obtain ⟨q1, q2, q3⟩ := HDI.out.drew.push rfl (fun k h => h) hown1 hgr1; clear hown1 hgr1; generalize (decN A l i ++ (grpOut A g).take 0).length + 1 = q at q1 q2 q3 ⊢; have Q3 := Lib.hid q3; clear q3)
               try go_simp
               refine hK _ _ ?_; clear hK K
               refine wpAny_ready (rs := [9]) (by kernel_rfl) (by simp) ?_
               refine AllReady.cons rfl (fun K hK => ?_) ?_
               ·skip
                go_simp
                try go_bits
                refine hK _ _ ?_; clear hK K
                refine wpAny_done (by kernel_rfl) ?_ _
                simp only [onlyN]
                gi_wp2
                go_roundw
                case rel => exact ⟨0 + 1, _, by omega, by go_num, by rw [hpj, ← List.append_assoc]; exact Q3.out⟩
                case measure => simp [intOf] <;> omega
               exact AllReady.nil
              exact AllReady.nil
             exact AllReady.nil
            exact AllReady.nil
            )
        ·first
         | (exfalso; omega)
         | (have hu : Value.int .u8 ((B : Int) / 256 % 256) = Byt (UInt8.ofNat (grpNum A g / 2 ^ (8 * (2 - 1)))) := by
              simp only [Byt, UInt8.toNat_ofNat']
              try rw [Hnum.out]
              try congr 1
              try simp only [Nat.reduceMul, Nat.reduceSub, Nat.reducePow]
              try omega
            have HU := Lib.hid hu; clear hu
            gi_wp2
            refine wpIn_region_plain (r := some lp) (by kernel_rfl) (by kernel_rfl) ?_
            simp only [List.size_toArray, List.length_cons, List.length_nil, Nat.reduceAdd, Array.replicate_succ, Array.replicate_zero, List.push_toArray, List.nil_append, List.cons_append]
            refine wpAny_take (i := 1) (v := ?_) rfl (by kernel_rfl) (by kernel_rfl) (by kernel_rfl) (fun _ _ _ h => h) (Or.inl ⟨by rfl, ?_⟩) ?_
            rotate_left 1
            ·(intro _; go_simp; (try go_bits); (try with_reducible rfl))
            refine wpAny_take (i := 2) (v := ?_) rfl (by kernel_rfl) (by kernel_rfl) (by kernel_rfl) (fun _ _ _ h => h) (Or.inl ⟨by rfl, ?_⟩) ?_
            rotate_left 1
            ·(intro _; go_simp; (try go_bits); (try with_reducible rfl))
            refine wpAny_take (i := 3) (v := ?_) rfl (by kernel_rfl) (by kernel_rfl) (by kernel_rfl) (fun _ _ _ h => h) (Or.inl ⟨by rfl, ?_⟩) ?_
            rotate_left 1
            ·(intro _; go_simp; (try go_bits); (try with_reducible rfl))
            refine wpAny_take (i := 4) (v := ?_) rfl (by kernel_rfl) (by kernel_rfl) (by kernel_rfl) (fun _ _ _ h => h) (Or.inl ⟨by rfl, ?_⟩) ?_
            rotate_left 1
            ·(intro _; go_simp; (try go_bits); (try with_reducible rfl))
            refine wpAny_take (i := 5) (v := ?_) rfl (by kernel_rfl) (by kernel_rfl) (by kernel_rfl) (fun _ _ _ h => h) (Or.inl ⟨by rfl, ?_⟩) ?_
            rotate_left 1
            ·(intro _; go_simp; (try go_bits); (try with_reducible rfl))
            refine wpAny_take (i := 6) (v := ?_) rfl (by kernel_rfl) (by kernel_rfl) (by kernel_rfl) (fun _ _ _ h => h) (Or.inl ⟨by rfl, ?_⟩) ?_
            rotate_left 1
            ·(intro _; go_simp; (try go_bits); (try with_reducible rfl))
            refine wpAny_ready (rs := [0, 7]) (by kernel_rfl) (by simp) ?_
            refine AllReady.cons rfl (fun K hK => ?_) ?_
            ·skip
             go_simp
             try go_bits
             refine hK _ _ ?_; clear hK K
             refine wpAny_ready (rs := [7]) (by kernel_rfl) (by simp) ?_
             refine AllReady.cons rfl (fun K hK => ?_) ?_
             ·skip
              go_simp
              try go_bits
              refine hK _ _ ?_; clear hK K
              refine wpAny_ready (rs := [8]) (by kernel_rfl) (by simp) ?_
              refine AllReady.cons rfl (fun K hK => ?_) ?_
              ·(try rw [drew_alloc]; refine step_push (w.heap.size + 5) rfl _ _ 25 5 rfl Tryz.underlying25 infoByte rfl (by omega) HDI.out.drew.row _ rfl (by omega) HDI.out.size rfl rfl ?_; rintro _ w1 ⟨g1, cap1, rfl⟩ hown1 hgr1; rw [HU.out] at hown1; obtain ⟨q1, q2, q3⟩ := HDI.out.drew.push rfl (fun k h => h) hown1 hgr1; clear hown1 hgr1; generalize (decN A l i ++ (grpOut A g).take 1).length + 1 = q at q1 q2 q3 ⊢; have Q3 := Lib.hid q3; clear q3)
               try go_simp
               refine hK _ _ ?_; clear hK K
               refine wpAny_ready (rs := [9]) (by kernel_rfl) (by simp) ?_
               refine AllReady.cons rfl (fun K hK => ?_) ?_
               ·skip
                go_simp
                try go_bits
                refine hK _ _ ?_; clear hK K
                refine wpAny_done (by kernel_rfl) ?_ _
                simp only [onlyN]
                gi_wp2
                go_roundw
                case rel => exact ⟨1 + 1, _, by omega, by go_num, by rw [hpj, ← List.append_assoc]; exact Q3.out⟩
                case measure => simp [intOf] <;> omega
               exact AllReady.nil
              exact AllReady.nil
             exact AllReady.nil
            refine AllReady.cons rfl (fun K hK => ?_) ?_
            ·skip
             go_simp
             try go_bits
             refine hK _ _ ?_; clear hK K
             refine wpAny_ready (rs := [0]) (by kernel_rfl) (by simp) ?_
             refine AllReady.cons rfl (fun K hK => ?_) ?_
             ·skip
              go_simp
              try go_bits
              refine hK _ _ ?_; clear hK K
              refine wpAny_ready (rs := [8]) (by kernel_rfl) (by simp) ?_
              refine AllReady.cons rfl (fun K hK => ?_) ?_
              ·(try rw [drew_alloc]; refine step_push (w.heap.size + 5) rfl _ _ 25 5 rfl Tryz.underlying25 infoByte rfl (by omega) HDI.out.drew.row _ rfl (by omega) HDI.out.size rfl rfl ?_; rintro _ w1 ⟨g1, cap1, rfl⟩ hown1 hgr1; rw [HU.out] at hown1; obtain ⟨q1, q2, q3⟩ := HDI.out.drew.push rfl (fun k h => h) hown1 hgr1; clear hown1 hgr1; generalize (decN A l i ++ (grpOut A g).take 1).length + 1 = q at q1 q2 q3 ⊢; have Q3 := Lib.hid q3; clear q3)
               try go_simp
               refine hK _ _ ?_; clear hK K
               refine wpAny_ready (rs := [9]) (by kernel_rfl) (by simp) ?_
               refine AllReady.cons rfl (fun K hK => ?_) ?_
               ·skip
                go_simp
                try go_bits
                refine hK _ _ ?_; clear hK K
                refine wpAny_done (by kernel_rfl) ?_ _
                simp only [onlyN]
                gi_wp2
                go_roundw
                case rel => exact ⟨1 + 1, _, by omega, by go_num, by rw [hpj, ← List.append_assoc]; exact Q3.out⟩
                case measure => simp [intOf] <;> omega
               exact AllReady.nil
              exact AllReady.nil
             exact AllReady.nil
            exact AllReady.nil
            )
        ·first
         | (exfalso; omega)
         | (have hu : Value.int .u8 ((B : Int) % 256) = Byt (UInt8.ofNat (grpNum A g / 2 ^ (8 * (2 - 2)))) := by
              simp only [Byt, UInt8.toNat_ofNat']
              try rw [Hnum.out]
              try congr 1
              try simp only [Nat.reduceMul, Nat.reduceSub, Nat.reducePow]
              try omega
            have HU := Lib.hid hu; clear hu
            gi_wp2
            refine wpIn_region_plain (r := some lp) (by kernel_rfl) (by kernel_rfl) ?_
            simp only [List.size_toArray, List.length_cons, List.length_nil, Nat.reduceAdd, Array.replicate_succ, Array.replicate_zero, List.push_toArray, List.nil_append, List.cons_append]
            refine wpAny_take (i := 1) (v := ?_) rfl (by kernel_rfl) (by kernel_rfl) (by kernel_rfl) (fun _ _ _ h => h) (Or.inl ⟨by rfl, ?_⟩) ?_
            rotate_left 1
            ·(intro _; go_simp; (try go_bits); (try with_reducible rfl))
            refine wpAny_take (i := 2) (v := ?_) rfl (by kernel_rfl) (by kernel_rfl) (by kernel_rfl) (fun _ _ _ h => h) (Or.inl ⟨by rfl, ?_⟩) ?_
            rotate_left 1
            ·(intro _; go_simp; (try go_bits); (try with_reducible rfl))
            refine wpAny_take (i := 3) (v := ?_) rfl (by kernel_rfl) (by kernel_rfl) (by kernel_rfl) (fun _ _ _ h => h) (Or.inl ⟨by rfl, ?_⟩) ?_
            rotate_left 1
            ·(intro _; go_simp; (try go_bits); (try with_reducible rfl))
            refine wpAny_take (i := 4) (v := ?_) rfl (by kernel_rfl) (by kernel_rfl) (by kernel_rfl) (fun _ _ _ h => h) (Or.inl ⟨by rfl, ?_⟩) ?_
            rotate_left 1
            ·(intro _; go_simp; (try go_bits); (try with_reducible rfl))
            refine wpAny_take (i := 5) (v := ?_) rfl (by kernel_rfl) (by kernel_rfl) (by kernel_rfl) (fun _ _ _ h => h) (Or.inl ⟨by rfl, ?_⟩) ?_
            rotate_left 1
            ·(intro _; go_simp; (try go_bits); (try with_reducible rfl))
            refine wpAny_take (i := 6) (v := ?_) rfl (by kernel_rfl) (by kernel_rfl) (by kernel_rfl) (fun _ _ _ h => h) (Or.inl ⟨by rfl, ?_⟩) ?_
            rotate_left 1
            ·(intro _; go_simp; (try go_bits); (try with_reducible rfl))
            refine wpAny_ready (rs := [0, 7]) (by kernel_rfl) (by simp) ?_
            refine AllReady.cons rfl (fun K hK => ?_) ?_
            ·skip
             go_simp
             try go_bits
             refine hK _ _ ?_; clear hK K
             refine wpAny_ready (rs := [7]) (by kernel_rfl) (by simp) ?_
             refine AllReady.cons rfl (fun K hK => ?_) ?_
             ·skip
              go_simp
              try go_bits
              refine hK _ _ ?_; clear hK K
              refine wpAny_ready (rs := [8]) (by kernel_rfl) (by simp) ?_
              refine AllReady.cons rfl (fun K hK => ?_) ?_
              ·(try rw [drew_alloc]; refine step_push (w.heap.size + 5) rfl _ _ 25 5 rfl Tryz.underlying25 infoByte rfl (by omega) HDI.out.drew.row _ rfl (by omega) HDI.out.size rfl rfl ?_; rintro _ w1 ⟨g1, cap1, rfl⟩ hown1 hgr1; rw [HU.out] at hown1; obtain ⟨q1, q2, q3⟩ := HDI.out.drew.push rfl (fun k h => h) hown1 hgr1; clear hown1 hgr1; generalize (decN A l i ++ (grpOut A g).take 2).length + 1 = q at q1 q2 q3 ⊢; have Q3 := Lib.hid q3; clear q3)
               try go_simp
               refine hK _ _ ?_; clear hK K
               refine wpAny_ready (rs := [9]) (by kernel_rfl) (by simp) ?_
               refine AllReady.cons rfl (fun K hK => ?_) ?_
               ·skip
                go_simp
                try go_bits
                refine hK _ _ ?_; clear hK K
                refine wpAny_done (by kernel_rfl) ?_ _
                simp only [onlyN]
                gi_wp2
                go_roundw
                case rel => exact ⟨2 + 1, _, by omega, by go_num, by rw [hpj, ← List.append_assoc]; exact Q3.out⟩
                case measure => simp [intOf] <;> omega
               exact AllReady.nil
              exact AllReady.nil
             exact AllReady.nil
            refine AllReady.cons rfl (fun K hK => ?_) ?_
            ·skip
             go_simp
             try go_bits
             refine hK _ _ ?_; clear hK K
             refine wpAny_ready (rs := [0]) (by kernel_rfl) (by simp) ?_
             refine AllReady.cons rfl (fun K hK => ?_) ?_
             ·skip
              go_simp
              try go_bits
              refine hK _ _ ?_; clear hK K
              refine wpAny_ready (rs := [8]) (by kernel_rfl) (by simp) ?_
              refine AllReady.cons rfl (fun K hK => ?_) ?_
              ·(try rw [drew_alloc]; refine step_push (w.heap.size + 5) rfl _ _ 25 5 rfl Tryz.underlying25 infoByte rfl (by omega) HDI.out.drew.row _ rfl (by omega) HDI.out.size rfl rfl ?_; rintro _ w1 ⟨g1, cap1, rfl⟩ hown1 hgr1; rw [HU.out] at hown1; obtain ⟨q1, q2, q3⟩ := HDI.out.drew.push rfl (fun k h => h) hown1 hgr1; clear hown1 hgr1; generalize (decN A l i ++ (grpOut A g).take 2).length + 1 = q at q1 q2 q3 ⊢; have Q3 := Lib.hid q3; clear q3)
               try go_simp
               refine hK _ _ ?_; clear hK K
               refine wpAny_ready (rs := [9]) (by kernel_rfl) (by simp) ?_
               refine AllReady.cons rfl (fun K hK => ?_) ?_
               ·skip
                go_simp
                try go_bits
                refine hK _ _ ?_; clear hK K
                refine wpAny_done (by kernel_rfl) ?_ _
                simp only [onlyN]
                gi_wp2
                go_roundw
                case rel => exact ⟨2 + 1, _, by omega, by go_num, by rw [hpj, ← List.append_assoc]; exact Q3.out⟩
                case measure => simp [intOf] <;> omega
               exact AllReady.nil
              exact AllReady.nil
             exact AllReady.nil
            exact AllReady.nil
            )
       ·obtain rfl : j = 3 - 1 := by omega
        rw [Hall.out, ← hdn.out] at hdi
        have HDI := Lib.hid hdi; clear hdi
        gi_wp2
        exact ⟨hsz0 ▸ HDI.out.kp, HDI.out.h0, ⟨_, HDI.out.h1, HDI.out.row⟩, HDI.out.h2, hok1, HDI.out.bel, HDI.out.size⟩
     ·have hxb : ((x : Int) != 0) = true := by simp; omega
      gi_wp2
      rw [show (b : Int) * 64 = (B : Int) by omega]
      have HB := Lib.hid hB; clear hB
      gi_loopw [59] (fun p wr => ∃ (j : Nat) (v : Value), j ≤ 3 - 1 ∧ p = .int .i64 j ∧ DI w.heap.size A w W2 (fun k => k = w.heap.size + 3 ∨ k = w.heap.size + 4) (decN A l i ++ (grpOut A g).take j) (codN A l (i + 1) : Nat) v wr) (fun i _ => 3 - 1 - (intOf i).toNat)
      case atStart =>
       have hs := HD1.out
       rw [Hbad.out] at hs
       simp only [show ((x != 0) = true) by simpa using hxz, if_true, if_false] at hs
       exact ⟨0, v, by omega, rfl, by rw [List.take_zero, List.append_nil]; exact hs⟩
      case round =>
       obtain ⟨j, v', hj, rfl, hdi⟩ := hrel
       by_cases hjn : j < 3 - 1
       ·have hpj := Hout.out j (by omega)
        have c1 : wr.cell? ⟨w.heap.size + 1, 0, none⟩ = some v' := cell_of hdi.h1
        have c1a : ∀ o, (wr.alloc o).cell? ⟨w.heap.size + 1, 0, none⟩ = some v' := fun o => ext_cell ((Below.refl _ _).alloc (Nat.le_refl _) o) c1
        have hlen : (decN A l i ++ (grpOut A g).take j).length ≤ 60000 := by rw [List.length_append, List.length_take]; omega
        have HDI := Lib.hid hdi; clear hdi
        obtain rfl | rfl | rfl : j = 0 ∨ j = 1 ∨ j = 2 := by omega
        ·first
         | (exfalso; omega)
         | (have hu : Value.int .u8 ((B : Int) / 65536) = Byt (UInt8.ofNat (grpNum A g / 2 ^ (8 * (2 - 0)))) := by
              simp only [Byt, UInt8.toNat_ofNat']
              try rw [Hnum.out]
              try congr 1
              try simp only [Nat.reduceMul, Nat.reduceSub, Nat.reducePow]
              try omega
            have HU := Lib.hid hu; clear hu
            gi_wp2
            refine wpIn_region_plain (r := some lp) (by kernel_rfl) (by kernel_rfl) ?_
            simp only [List.size_toArray, List.length_cons, List.length_nil, Nat.reduceAdd, Array.replicate_succ, Array.replicate_zero, List.push_toArray, List.nil_append, List.cons_append]
            refine wpAny_take (i := 1) (v := ?_) rfl (by kernel_rfl) (by kernel_rfl) (by kernel_rfl) (fun _ _ _ h => h) (Or.inl ⟨by rfl, ?_⟩) ?_
            rotate_left 1
            ·(intro _; go_simp; (try go_bits); (try with_reducible rfl))
            refine wpAny_take (i := 2) (v := ?_) rfl (by kernel_rfl) (by kernel_rfl) (by kernel_rfl) (fun _ _ _ h => h) (Or.inl ⟨by rfl, ?_⟩) ?_
            rotate_left 1
            ·(intro _; go_simp; (try go_bits); (try with_reducible rfl))
            refine wpAny_take (i := 3) (v := ?_) rfl (by kernel_rfl) (by kernel_rfl) (by kernel_rfl) (fun _ _ _ h => h) (Or.inl ⟨by rfl, ?_⟩) ?_
            rotate_left 1
            ·(intro _; go_simp; (try go_bits); (try with_reducible rfl))
            refine wpAny_take (i := 4) (v := ?_) rfl (by kernel_rfl) (by kernel_rfl) (by kernel_rfl) (fun _ _ _ h => h) (Or.inl ⟨by rfl, ?_⟩) ?_
            rotate_left 1
            ·(intro _; go_simp; (try go_bits); (try with_reducible rfl))
            refine wpAny_take (i := 5) (v := ?_) rfl (by kernel_rfl) (by kernel_rfl) (by kernel_rfl) (fun _ _ _ h => h) (Or.inl ⟨by rfl, ?_⟩) ?_
            rotate_left 1
            ·(intro _; go_simp; (try go_bits); (try with_reducible rfl))
            refine wpAny_take (i := 6) (v := ?_) rfl (by kernel_rfl) (by kernel_rfl) (by kernel_rfl) (fun _ _ _ h => h) (Or.inl ⟨by rfl, ?_⟩) ?_
            rotate_left 1
            ·(intro _; go_simp; (try go_bits); (try with_reducible rfl))
            refine wpAny_ready (rs := [0, 7]) (by kernel_rfl) (by simp) ?_
            refine AllReady.cons rfl (fun K hK => ?_) ?_
            ·skip
             go_simp
             try go_bits
             refine hK _ _ ?_; clear hK K
             refine wpAny_ready (rs := [7]) (by kernel_rfl) (by simp) ?_
             refine AllReady.cons rfl (fun K hK => ?_) ?_
             ·skip
              go_simp
              try go_bits
              refine hK _ _ ?_; clear hK K
              refine wpAny_ready (rs := [8]) (by kernel_rfl) (by simp) ?_
              refine AllReady.cons rfl (fun K hK => ?_) ?_
              ·(try rw [drew_alloc]; refine step_push (w.heap.size + 5) rfl _ _ 25 5 rfl Tryz.underlying25 infoByte rfl (by omega) HDI.out.drew.row _ rfl (by omega) HDI.out.size rfl rfl ?_; rintro _ w1 ⟨g1, cap1, rfl⟩ hown1 hgr1; rw [HU.out] at hown1; obtain ⟨q1, q2, q3⟩ := HDI.out.drew.push rfl (fun k h => h) hown1 hgr1; clear hown1 hgr1; generalize (decN A l i ++ (grpOut A g).take 0).length + 1 = q at q1 q2 q3 ⊢; have Q3 := Lib.hid q3; clear q3)
               try go_simp
               refine hK _ _ ?_; clear hK K
               refine wpAny_ready (rs := [9]) (by kernel_rfl) (by simp) ?_
               refine AllReady.cons rfl (fun K hK => ?_) ?_
               ·skip
                go_simp
                try go_bits
                refine hK _ _ ?_; clear hK K
                refine wpAny_done (by kernel_rfl) ?_ _
                simp only [onlyN]
                gi_wp2
                go_roundw
                case rel => exact ⟨0 + 1, _, by omega, by go_num, by rw [hpj, ← List.append_assoc]; exact Q3.out⟩
                case measure => simp [intOf] <;> omega
               exact AllReady.nil
              exact AllReady.nil
             exact AllReady.nil
            refine AllReady.cons rfl (fun K hK => ?_) ?_
            ·skip
             go_simp
             try go_bits
             refine hK _ _ ?_; clear hK K
             refine wpAny_ready (rs := [0]) (by kernel_rfl) (by simp) ?_
             refine AllReady.cons rfl (fun K hK => ?_) ?_
             ·skip
              go_simp
              try go_bits
              refine hK _ _ ?_; clear hK K
              refine wpAny_ready (rs := [8]) (by kernel_rfl) (by simp) ?_
              refine AllReady.cons rfl (fun K hK => ?_) ?_
              ·(try rw [drew_alloc]; refine step_push (w.heap.size + 5) rfl _ _ 25 5 rfl Tryz.underlying25 infoByte rfl (by omega) HDI.out.drew.row _ rfl (by omega) HDI.out.size rfl rfl ?_; rintro _ w1 ⟨g1, cap1, rfl⟩ hown1 hgr1; rw [HU.out] at hown1; obtain ⟨q1, q2, q3⟩ := HDI.out.drew.push rfl (fun k h => h) hown1 hgr1; clear hown1 hgr1; generalize (decN A l i ++ (grpOut A g).take 0).length + 1 = q at q1 q2 q3 ⊢; have Q3 := Lib.hid q3; clear q3)
               try go_simp
               refine hK _ _ ?_; clear hK K
               refine wpAny_ready (rs := [9]) (by kernel_rfl) (by simp) ?_
               refine AllReady.cons rfl (fun K hK => ?_) ?_
               ·skip
                go_simp
                try go_bits
                refine hK _ _ ?_; clear hK K
                refine wpAny_done (by kernel_rfl) ?_ _
                simp only [onlyN]
                gi_wp2
                go_roundw
                case rel => exact ⟨0 + 1, _, by omega, by go_num, by rw [hpj, ← List.append_assoc]; exact Q3.out⟩
                case measure => simp [intOf] <;> omega
               exact AllReady.nil
              exact AllReady.nil
             exact AllReady.nil
            exact AllReady.nil
            )
        ·first
         | (exfalso; omega)
         | (have hu : Value.int .u8 ((B : Int) / 256 % 256) = Byt (UInt8.ofNat (grpNum A g / 2 ^ (8 * (2 - 1)))) := by
              simp only [Byt, UInt8.toNat_ofNat']
              try rw [Hnum.out]
              try congr 1
              try simp only [Nat.reduceMul, Nat.reduceSub, Nat.reducePow]
              try omega
            have HU := Lib.hid hu; clear hu
            gi_wp2
            refine wpIn_region_plain (r := some lp) (by kernel_rfl) (by kernel_rfl) ?_
            simp only [List.size_toArray, List.length_cons, List.length_nil, Nat.reduceAdd, Array.replicate_succ, Array.replicate_zero, List.push_toArray, List.nil_append, List.cons_append]
            refine wpAny_take (i := 1) (v := ?_) rfl (by kernel_rfl) (by kernel_rfl) (by kernel_rfl) (fun _ _ _ h => h) (Or.inl ⟨by rfl, ?_⟩) ?_
            rotate_left 1
            ·(intro _; go_simp; (try go_bits); (try with_reducible rfl))
            refine wpAny_take (i := 2) (v := ?_) rfl (by kernel_rfl) (by kernel_rfl) (by kernel_rfl) (fun _ _ _ h => h) (Or.inl ⟨by rfl, ?_⟩) ?_
            rotate_left 1
            ·(intro _; go_simp; (try go_bits); (try with_reducible rfl))
            refine wpAny_take (i := 3) (v := ?_) rfl (by kernel_rfl) (by kernel_rfl) (by kernel_rfl) (fun _ _ _ h => h) (Or.inl ⟨by rfl, ?_⟩) ?_
            rotate_left 1
            ·(intro _; go_simp; (try go_bits); (try with_reducible rfl))
            refine wpAny_take (i := 4) (v := ?_) rfl (by kernel_rfl) (by kernel_rfl) (by kernel_rfl) (fun _ _ _ h => h) (Or.inl ⟨by rfl, ?_⟩) ?_
            rotate_left 1
            ·(intro _; go_simp; (try go_bits); (try with_reducible rfl))
            refine wpAny_take (i := 5) (v := ?_) rfl (by kernel_rfl) (by kernel_rfl) (by kernel_rfl) (fun _ _ _ h => h) (Or.inl ⟨by rfl, ?_⟩) ?_
            rotate_left 1
            ·(intro _; go_simp; (try go_bits); (try with_reducible rfl))
            refine wpAny_take (i := 6) (v := ?_) rfl (by kernel_rfl) (by kernel_rfl) (by kernel_rfl) (fun _ _ _ h => h) (Or.inl ⟨by rfl, ?_⟩) ?_
            rotate_left 1
            ·(intro _; go_simp; (try go_bits); (try with_reducible rfl))
            refine wpAny_ready (rs := [0, 7]) (by kernel_rfl) (by simp) ?_
            refine AllReady.cons rfl (fun K hK => ?_) ?_
            ·skip
             go_simp
             try go_bits
             refine hK _ _ ?_; clear hK K
             refine wpAny_ready (rs := [7]) (by kernel_rfl) (by simp) ?_
             refine AllReady.cons rfl (fun K hK => ?_) ?_
             ·skip
              go_simp
              try go_bits
              refine hK _ _ ?_; clear hK K
              refine wpAny_ready (rs := [8]) (by kernel_rfl) (by simp) ?_
              refine AllReady.cons rfl (fun K hK => ?_) ?_
              ·(try rw [drew_alloc]; refine step_push (w.heap.size + 5) rfl _ _ 25 5 rfl Tryz.underlying25 infoByte rfl (by omega) HDI.out.drew.row _ rfl (by omega) HDI.out.size rfl rfl ?_; rintro _ w1 ⟨g1, cap1, rfl⟩ hown1 hgr1; rw [HU.out] at hown1; obtain ⟨q1, q2, q3⟩ := HDI.out.drew.push rfl (fun k h => h) hown1 hgr1; clear hown1 hgr1; generalize (decN A l i ++ (grpOut A g).take 1).length + 1 = q at q1 q2 q3 ⊢; have Q3 := Lib.hid q3; clear q3)
               try go_simp
               refine hK _ _ ?_; clear hK K
               refine wpAny_ready (rs := [9]) (by kernel_rfl) (by simp) ?_
               refine AllReady.cons rfl (fun K hK => ?_) ?_
               ·skip
                go_simp
                try go_bits
                refine hK _ _ ?_; clear hK K
                refine wpAny_done (by kernel_rfl) ?_ _
                simp only [onlyN]
                gi_wp2
                go_roundw
                case rel => exact ⟨1 + 1, _, by omega, by go_num, by rw [hpj, ← List.append_assoc]; exact Q3.out⟩
                case measure => simp [intOf] <;> omega
               exact AllReady.nil
              exact AllReady.nil
             exact AllReady.nil
            refine AllReady.cons rfl (fun K hK => ?_) ?_
            ·skip
             go_simp
             try go_bits
             refine hK _ _ ?_; clear hK K
             refine wpAny_ready (rs := [0]) (by kernel_rfl) (by simp) ?_
             refine AllReady.cons rfl (fun K hK => ?_) ?_
             ·skip
              go_simp
              try go_bits
              refine hK _ _ ?_; clear hK K
              refine wpAny_ready (rs := [8]) (by kernel_rfl) (by simp) ?_
              refine AllReady.cons rfl (fun K hK => ?_) ?_
              ·(try rw [drew_alloc]; refine step_push (w.heap.size + 5) rfl _ _ 25 5 rfl Tryz.underlying25 infoByte rfl (by omega) HDI.out.drew.row _ rfl (by omega) HDI.out.size rfl rfl ?_; rintro _ w1 ⟨g1, cap1, rfl⟩ hown1 hgr1; rw [HU.out] at hown1; obtain ⟨q1, q2, q3⟩ := HDI.out.drew.push rfl (fun k h => h) hown1 hgr1; clear hown1 hgr1; generalize (decN A l i ++ (grpOut A g).take 1).length + 1 = q at q1 q2 q3 ⊢; have Q3 := Lib.hid q3; clear q3)
               try go_simp
               refine hK _ _ ?_; clear hK K
               refine wpAny_ready (rs := [9]) (by kernel_rfl) (by simp) ?_
               refine AllReady.cons rfl (fun K hK => ?_) ?_
               ·skip
                go_simp
                try go_bits
                refine hK _ _ ?_; clear hK K
                refine wpAny_done (by kernel_rfl) ?_ _
                simp only [onlyN]
                gi_wp2
                go_roundw
                case rel => exact ⟨1 + 1, _, by omega, by go_num, by rw [hpj, ← List.append_assoc]; exact Q3.out⟩
                case measure => simp [intOf] <;> omega
               exact AllReady.nil
              exact AllReady.nil
             exact AllReady.nil
            exact AllReady.nil
            )
        ·first
         | (exfalso; omega)
         | (have hu : Value.int .u8 ((B : Int) % 256) = Byt (UInt8.ofNat (grpNum A g / 2 ^ (8 * (2 - 2)))) := by
              simp only [Byt, UInt8.toNat_ofNat']
              try rw [Hnum.out]
              try congr 1
              try simp only [Nat.reduceMul, Nat.reduceSub, Nat.reducePow]
              try omega
            have HU := Lib.hid hu; clear hu
            gi_wp2
            refine wpIn_region_plain (r := some lp) (by kernel_rfl) (by kernel_rfl) ?_
            simp only [List.size_toArray, List.length_cons, List.length_nil, Nat.reduceAdd, Array.replicate_succ, Array.replicate_zero, List.push_toArray, List.nil_append, List.cons_append]
            refine wpAny_take (i := 1) (v := ?_) rfl (by kernel_rfl) (by kernel_rfl) (by kernel_rfl) (fun _ _ _ h => h) (Or.inl ⟨by rfl, ?_⟩) ?_
            rotate_left 1
            ·(intro _; go_simp; (try go_bits); (try with_reducible rfl))
            refine wpAny_take (i := 2) (v := ?_) rfl (by kernel_rfl) (by kernel_rfl) (by kernel_rfl) (fun _ _ _ h => h) (Or.inl ⟨by rfl, ?_⟩) ?_
            rotate_left 1
            ·(intro _; go_simp; (try go_bits); (try with_reducible rfl))
            refine wpAny_take (i := 3) (v := ?_) rfl (by kernel_rfl) (by kernel_rfl) (by kernel_rfl) (fun _ _ _ h => h) (Or.inl ⟨by rfl, ?_⟩) ?_
            rotate_left 1
            ·(intro _; go_simp; (try go_bits); (try with_reducible rfl))
            refine wpAny_take (i := 4) (v := ?_) rfl (by kernel_rfl) (by kernel_rfl) (by kernel_rfl) (fun _ _ _ h => h) (Or.inl ⟨by rfl, ?_⟩) ?_
            rotate_left 1
            ·(intro _; go_simp; (try go_bits); (try with_reducible rfl))
            refine wpAny_take (i := 5) (v := ?_) rfl (by kernel_rfl) (by kernel_rfl) (by kernel_rfl) (fun _ _ _ h => h) (Or.inl ⟨by rfl, ?_⟩) ?_
            rotate_left 1
            ·(intro _; go_simp; (try go_bits); (try with_reducible rfl))
            refine wpAny_take (i := 6) (v := ?_) rfl (by kernel_rfl) (by kernel_rfl) (by kernel_rfl) (fun _ _ _ h => h) (Or.inl ⟨by rfl, ?_⟩) ?_
            rotate_left 1
            ·(intro _; go_simp; (try go_bits); (try with_reducible rfl))
            refine wpAny_ready (rs := [0, 7]) (by kernel_rfl) (by simp) ?_
            refine AllReady.cons rfl (fun K hK => ?_) ?_
            ·skip
             go_simp
             try go_bits
             refine hK _ _ ?_; clear hK K
             refine wpAny_ready (rs := [7]) (by kernel_rfl) (by simp) ?_
             refine AllReady.cons rfl (fun K hK => ?_) ?_
             ·skip
              go_simp
              try go_bits
              refine hK _ _ ?_; clear hK K
              refine wpAny_ready (rs := [8]) (by kernel_rfl) (by simp) ?_
              refine AllReady.cons rfl (fun K hK => ?_) ?_
              ·(try rw [drew_alloc]; refine step_push (w.heap.size + 5) rfl _ _ 25 5 rfl Tryz.underlying25 infoByte rfl (by omega) HDI.out.drew.row _ rfl (by omega) HDI.out.size rfl rfl ?_; rintro _ w1 ⟨g1, cap1, rfl⟩ hown1 hgr1; rw [HU.out] at hown1; obtain ⟨q1, q2, q3⟩ := HDI.out.drew.push rfl (fun k h => h) hown1 hgr1; clear hown1 hgr1; generalize (decN A l i ++ (grpOut A g).take 2).length + 1 = q at q1 q2 q3 ⊢; have Q3 := Lib.hid q3; clear q3)
               try go_simp
               refine hK _ _ ?_; clear hK K
               refine wpAny_ready (rs := [9]) (by kernel_rfl) (by simp) ?_
               refine AllReady.cons rfl (fun K hK => ?_) ?_
               ·skip
                go_simp
                try go_bits
                refine hK _ _ ?_; clear hK K
                refine wpAny_done (by kernel_rfl) ?_ _
                simp only [onlyN]
                gi_wp2
                go_roundw
                case rel => exact ⟨2 + 1, _, by omega, by go_num, by rw [hpj, ← List.append_assoc]; exact Q3.out⟩
                case measure => simp [intOf] <;> omega
               exact AllReady.nil
              exact AllReady.nil
             exact AllReady.nil
            refine AllReady.cons rfl (fun K hK => ?_) ?_
            ·skip
             go_simp
             try go_bits
             refine hK _ _ ?_; clear hK K
             refine wpAny_ready (rs := [0]) (by kernel_rfl) (by simp) ?_
             refine AllReady.cons rfl (fun K hK => ?_) ?_
             ·skip
              go_simp
              try go_bits
              refine hK _ _ ?_; clear hK K
              refine wpAny_ready (rs := [8]) (by kernel_rfl) (by simp) ?_
              refine AllReady.cons rfl (fun K hK => ?_) ?_
              ·(try rw [drew_alloc]; refine step_push (w.heap.size + 5) rfl _ _ 25 5 rfl Tryz.underlying25 infoByte rfl (by omega) HDI.out.drew.row _ rfl (by omega) HDI.out.size rfl rfl ?_; rintro _ w1 ⟨g1, cap1, rfl⟩ hown1 hgr1; rw [HU.out] at hown1; obtain ⟨q1, q2, q3⟩ := HDI.out.drew.push rfl (fun k h => h) hown1 hgr1; clear hown1 hgr1; generalize (decN A l i ++ (grpOut A g).take 2).length + 1 = q at q1 q2 q3 ⊢; have Q3 := Lib.hid q3; clear q3)
               try go_simp
               refine hK _ _ ?_; clear hK K
               refine wpAny_ready (rs := [9]) (by kernel_rfl) (by simp) ?_
               refine AllReady.cons rfl (fun K hK => ?_) ?_
               ·skip
                go_simp
                try go_bits
                refine hK _ _ ?_; clear hK K
                refine wpAny_done (by kernel_rfl) ?_ _
                simp only [onlyN]
                gi_wp2
                go_roundw
                case rel => exact ⟨2 + 1, _, by omega, by go_num, by rw [hpj, ← List.append_assoc]; exact Q3.out⟩
                case measure => simp [intOf] <;> omega
               exact AllReady.nil
              exact AllReady.nil
             exact AllReady.nil
            exact AllReady.nil
            )
       ·obtain rfl : j = 3 - 1 := by omega
        rw [Hall.out, ← hdn.out] at hdi
        have HDI := Lib.hid hdi; clear hdi
        gi_wp2
        exact ⟨hsz0 ▸ HDI.out.kp, HDI.out.h0, ⟨_, HDI.out.h1, HDI.out.row⟩, HDI.out.h2, hok1, HDI.out.bel, HDI.out.size⟩
    ·rw [hl] at Hout Hall Hbad Hnum hbl ⊢
     simp only [Nat.reduceSub, Nat.reduceMul, Nat.reducePow, Nat.lt_irrefl, decide_false, Bool.false_and, Nat.mul_one, Nat.mul_zero, Nat.pow_zero] at Hbad Hnum hbl
     have hand : bits BinOp.and .i64 (b : Int) 0 = 0 := by
      have := and_num 0 0 0 b (by omega) rfl rfl (by omega)
      simpa [Nat.mod_one] using this
     obtain ⟨B, hB⟩ : ∃ B, B = b := ⟨_, rfl⟩
     rw [← hB] at Hnum
     have hBl : B < 16777216 := by omega
     gi_wp2
     rw [show (b : Int) = (B : Int) by omega]
     have HB := Lib.hid hB; clear hB
     gi_loopw [59] (fun p wr => ∃ (j : Nat) (v : Value), j ≤ 4 - 1 ∧ p = .int .i64 j ∧ DI w.heap.size A w W2 (fun k => k = w.heap.size + 3 ∨ k = w.heap.size + 4) (decN A l i ++ (grpOut A g).take j) (codN A l (i + 1) : Nat) v wr) (fun i _ => 4 - 1 - (intOf i).toNat)
     case atStart =>
      have hs := HD1.out
      rw [Hbad.out] at hs
      simp only [Bool.false_eq_true, if_false] at hs
      exact ⟨0, v, by omega, rfl, by rw [List.take_zero, List.append_nil]; exact hs⟩
     case round =>
      obtain ⟨j, v', hj, rfl, hdi⟩ := hrel
      by_cases hjn : j < 4 - 1
      ·have hpj := Hout.out j (by omega)
       have c1 : wr.cell? ⟨w.heap.size + 1, 0, none⟩ = some v' := cell_of hdi.h1
       have c1a : ∀ o, (wr.alloc o).cell? ⟨w.heap.size + 1, 0, none⟩ = some v' := fun o => ext_cell ((Below.refl _ _).alloc (Nat.le_refl _) o) c1
       have hlen : (decN A l i ++ (grpOut A g).take j).length ≤ 60000 := by rw [List.length_append, List.length_take]; omega
       have HDI := Lib.hid hdi; clear hdi
       obtain rfl | rfl | rfl : j = 0 ∨ j = 1 ∨ j = 2 := by omega
       ·first
        | (exfalso; omega)
        | (have hu : Value.int .u8 ((B : Int) / 65536) = Byt (UInt8.ofNat (grpNum A g / 2 ^ (8 * (2 - 0)))) := by
             simp only [Byt, UInt8.toNat_ofNat']
             rw [Hnum.out]
             try congr 1
             try simp only [Nat.reduceMul, Nat.reduceSub, Nat.reducePow]
             try omega
           have HU := Lib.hid hu; clear hu
           gi_wp2
           refine wpIn_region_plain (r := some lp) (by kernel_rfl) (by kernel_rfl) ?_
           simp only [List.size_toArray, List.length_cons, List.length_nil, Nat.reduceAdd, Array.replicate_succ, Array.replicate_zero, List.push_toArray, List.nil_append, List.cons_append]
           refine wpAny_take (i := 1) (v := ?_) rfl (by kernel_rfl) (by kernel_rfl) (by kernel_rfl) (fun _ _ _ h => h) (Or.inl ⟨by rfl, ?_⟩) ?_
           rotate_left 1
           ·(intro _; go_simp; (try go_bits); (try with_reducible rfl))
           refine wpAny_take (i := 2) (v := ?_) rfl (by kernel_rfl) (by kernel_rfl) (by kernel_rfl) (fun _ _ _ h => h) (Or.inl ⟨by rfl, ?_⟩) ?_
           rotate_left 1
           ·(intro _; go_simp; (try go_bits); (try with_reducible rfl))
           refine wpAny_take (i := 3) (v := ?_) rfl (by kernel_rfl) (by kernel_rfl) (by kernel_rfl) (fun _ _ _ h => h) (Or.inl ⟨by rfl, ?_⟩) ?_
           rotate_left 1
           ·(intro _; go_simp; (try go_bits); (try with_reducible rfl))
           refine wpAny_take (i := 4) (v := ?_) rfl (by kernel_rfl) (by kernel_rfl) (by kernel_rfl) (fun _ _ _ h => h) (Or.inl ⟨by rfl, ?_⟩) ?_
           rotate_left 1
           ·(intro _; go_simp; (try go_bits); (try with_reducible rfl))
           refine wpAny_take (i := 5) (v := ?_) rfl (by kernel_rfl) (by kernel_rfl) (by kernel_rfl) (fun _ _ _ h => h) (Or.inl ⟨by rfl, ?_⟩) ?_
           rotate_left 1
           ·(intro _; go_simp; (try go_bits); (try with_reducible rfl))
           refine wpAny_take (i := 6) (v := ?_) rfl (by kernel_rfl) (by kernel_rfl) (by kernel_rfl) (fun _ _ _ h => h) (Or.inl ⟨by rfl, ?_⟩) ?_
           rotate_left 1
           ·(intro _; go_simp; (try go_bits); (try with_reducible rfl))
           refine wpAny_ready (rs := [0, 7]) (by kernel_rfl) (by simp) ?_
           refine AllReady.cons rfl (fun K hK => ?_) ?_
           ·skip
            go_simp
            try go_bits
            refine hK _ _ ?_; clear hK K
            refine wpAny_ready (rs := [7]) (by kernel_rfl) (by simp) ?_
            refine AllReady.cons rfl (fun K hK => ?_) ?_
            ·skip
             go_simp
             try go_bits
             refine hK _ _ ?_; clear hK K
             refine wpAny_ready (rs := [8]) (by kernel_rfl) (by simp) ?_
             refine AllReady.cons rfl (fun K hK => ?_) ?_
             ·(try rw [drew_alloc]; refine step_push (w.heap.size + 5) rfl _ _ 25 5 rfl Tryz.underlying25 infoByte rfl (by omega) HDI.out.drew.row _ rfl (by omega) HDI.out.size rfl rfl ?_; rintro _ w1 ⟨g1, cap1, rfl⟩ hown1 hgr1; rw [HU.out] at hown1; obtain ⟨q1, q2, q3⟩ := HDI.out.drew.push rfl (fun k h => h) hown1 hgr1; clear hown1 hgr1; generalize (decN A l i ++ (grpOut A g).take 0).length + 1 = q at q1 q2 q3 ⊢; have Q3 := Lib.hid q3; clear q3)
              try go_simp
              refine hK _ _ ?_; clear hK K
              refine wpAny_ready (rs := [9]) (by kernel_rfl) (by simp) ?_
              refine AllReady.cons rfl (fun K hK => ?_) ?_
              ·skip
               go_simp
               try go_bits
               refine hK _ _ ?_; clear hK K
               refine wpAny_done (by kernel_rfl) ?_ _
               simp only [onlyN]
               gi_wp2
               go_roundw
               case rel => exact ⟨0 + 1, _, by omega, by go_num, by rw [hpj, ← List.append_assoc]; exact Q3.out⟩
               case measure => simp [intOf] <;> omega
              exact AllReady.nil
             exact AllReady.nil
            exact AllReady.nil
           refine AllReady.cons rfl (fun K hK => ?_) ?_
           ·skip
            go_simp
            try go_bits
            refine hK _ _ ?_; clear hK K
            refine wpAny_ready (rs := [0]) (by kernel_rfl) (by simp) ?_
            refine AllReady.cons rfl (fun K hK => ?_) ?_
            ·skip
             go_simp
             try go_bits
             refine hK _ _ ?_; clear hK K
             refine wpAny_ready (rs := [8]) (by kernel_rfl) (by simp) ?_
             refine AllReady.cons rfl (fun K hK => ?_) ?_
             ·(try rw [drew_alloc]; refine step_push (w.heap.size + 5) rfl _ _ 25 5 rfl Tryz.underlying25 infoByte rfl (by omega) HDI.out.drew.row _ rfl (by omega) HDI.out.size rfl rfl ?_; rintro _ w1 ⟨g1, cap1, rfl⟩ hown1 hgr1; rw [HU.out] at hown1; obtain ⟨q1, q2, q3⟩ := HDI.out.drew.push rfl (fun k h => h) hown1 hgr1; clear hown1 hgr1; generalize (decN A l i ++ (grpOut A g).take 0).length + 1 = q at q1 q2 q3 ⊢; have Q3 := Lib.hid q3; clear q3)
              try go_simp
              refine hK _ _ ?_; clear hK K
              refine wpAny_ready (rs := [9]) (by kernel_rfl) (by simp) ?_
              refine AllReady.cons rfl (fun K hK => ?_) ?_
              ·skip
               go_simp
               try go_bits
               refine hK _ _ ?_; clear hK K
               refine wpAny_done (by kernel_rfl) ?_ _
               simp only [onlyN]
               gi_wp2
               go_roundw
               case rel => exact ⟨0 + 1, _, by omega, by go_num, by rw [hpj, ← List.append_assoc]; exact Q3.out⟩
               case measure => simp [intOf] <;> omega
              exact AllReady.nil
             exact AllReady.nil
            exact AllReady.nil
           exact AllReady.nil
           )
       ·first
        | (exfalso; omega)
        | (have hu : Value.int .u8 ((B : Int) / 256 % 256) = Byt (UInt8.ofNat (grpNum A g / 2 ^ (8 * (2 - 1)))) := by
             simp only [Byt, UInt8.toNat_ofNat']
             rw [Hnum.out]
             try congr 1
             try simp only [Nat.reduceMul, Nat.reduceSub, Nat.reducePow]
             try omega
           have HU := Lib.hid hu; clear hu
           gi_wp2
           refine wpIn_region_plain (r := some lp) (by kernel_rfl) (by kernel_rfl) ?_
           simp only [List.size_toArray, List.length_cons, List.length_nil, Nat.reduceAdd, Array.replicate_succ, Array.replicate_zero, List.push_toArray, List.nil_append, List.cons_append]
           refine wpAny_take (i := 1) (v := ?_) rfl (by kernel_rfl) (by kernel_rfl) (by kernel_rfl) (fun _ _ _ h => h) (Or.inl ⟨by rfl, ?_⟩) ?_
           rotate_left 1
           ·(intro _; go_simp; (try go_bits); (try with_reducible rfl))
           refine wpAny_take (i := 2) (v := ?_) rfl (by kernel_rfl) (by kernel_rfl) (by kernel_rfl) (fun _ _ _ h => h) (Or.inl ⟨by rfl, ?_⟩) ?_
           rotate_left 1
           ·(intro _; go_simp; (try go_bits); (try with_reducible rfl))
           refine wpAny_take (i := 3) (v := ?_) rfl (by kernel_rfl) (by kernel_rfl) (by kernel_rfl) (fun _ _ _ h => h) (Or.inl ⟨by rfl, ?_⟩) ?_
           rotate_left 1
           ·(intro _; go_simp; (try go_bits); (try with_reducible rfl))
           refine wpAny_take (i := 4) (v := ?_) rfl (by kernel_rfl) (by kernel_rfl) (by kernel_rfl) (fun _ _ _ h => h) (Or.inl ⟨by rfl, ?_⟩) ?_
           rotate_left 1
           ·(intro _; go_simp; (try go_bits); (try with_reducible rfl))
           refine wpAny_take (i := 5) (v := ?_) rfl (by kernel_rfl) (by kernel_rfl) (by kernel_rfl) (fun _ _ _ h => h) (Or.inl ⟨by rfl, ?_⟩) ?_
           rotate_left 1
           ·(intro _; go_simp; (try go_bits); (try with_reducible rfl))
           refine wpAny_take (i := 6) (v := ?_) rfl (by kernel_rfl) (by kernel_rfl) (by kernel_rfl) (fun _ _ _ h => h) (Or.inl ⟨by rfl, ?_⟩) ?_
           rotate_left 1
           ·(intro _; go_simp; (try go_bits); (try with_reducible rfl))
           refine wpAny_ready (rs := [0, 7]) (by kernel_rfl) (by simp) ?_
           refine AllReady.cons rfl (fun K hK => ?_) ?_
           ·skip
            go_simp
            try go_bits
            refine hK _ _ ?_; clear hK K
            refine wpAny_ready (rs := [7]) (by kernel_rfl) (by simp) ?_
            refine AllReady.cons rfl (fun K hK => ?_) ?_
            ·skip
             go_simp
             try go_bits
             refine hK _ _ ?_; clear hK K
             refine wpAny_ready (rs := [8]) (by kernel_rfl) (by simp) ?_
             refine AllReady.cons rfl (fun K hK => ?_) ?_
             ·(try rw [drew_alloc]; refine step_push (w.heap.size + 5) rfl _ _ 25 5 rfl Tryz.underlying25 infoByte rfl (by omega) HDI.out.drew.row _ rfl (by omega) HDI.out.size rfl rfl ?_; rintro _ w1 ⟨g1, cap1, rfl⟩ hown1 hgr1; rw [HU.out] at hown1; obtain ⟨q1, q2, q3⟩ := HDI.out.drew.push rfl (fun k h => h) hown1 hgr1; clear hown1 hgr1; generalize (decN A l i ++ (grpOut A g).take 1).length + 1 = q at q1 q2 q3 ⊢; have Q3 := Lib.hid q3; clear q3)
              try go_simp
              refine hK _ _ ?_; clear hK K
              refine wpAny_ready (rs := [9]) (by kernel_rfl) (by simp) ?_
              refine AllReady.cons rfl (fun K hK => ?_) ?_
              ·skip
               go_simp
               try go_bits
               refine hK _ _ ?_; clear hK K
               refine wpAny_done (by kernel_rfl) ?_ _
               simp only [onlyN]
               gi_wp2
               go_roundw
               case rel => exact ⟨1 + 1, _, by omega, by go_num, by rw [hpj, ← List.append_assoc]; exact Q3.out⟩
               case measure => simp [intOf] <;> omega
              exact AllReady.nil
             exact AllReady.nil
            exact AllReady.nil
           refine AllReady.cons rfl (fun K hK => ?_) ?_
           ·skip
            go_simp
            try go_bits
            refine hK _ _ ?_; clear hK K
            refine wpAny_ready (rs := [0]) (by kernel_rfl) (by simp) ?_
            refine AllReady.cons rfl (fun K hK => ?_) ?_
            ·skip
             go_simp
             try go_bits
             refine hK _ _ ?_; clear hK K
             refine wpAny_ready (rs := [8]) (by kernel_rfl) (by simp) ?_
             refine AllReady.cons rfl (fun K hK => ?_) ?_
             ·(try rw [drew_alloc]; refine step_push (w.heap.size + 5) rfl _ _ 25 5 rfl Tryz.underlying25 infoByte rfl (by omega) HDI.out.drew.row _ rfl (by omega) HDI.out.size rfl rfl ?_; rintro _ w1 ⟨g1, cap1, rfl⟩ hown1 hgr1; rw [HU.out] at hown1; obtain ⟨q1, q2, q3⟩ := HDI.out.drew.push rfl (fun k h => h) hown1 hgr1; clear hown1 hgr1; generalize (decN A l i ++ (grpOut A g).take 1).length + 1 = q at q1 q2 q3 ⊢; have Q3 := Lib.hid q3; clear q3)
              try go_simp
              refine hK _ _ ?_; clear hK K
              refine wpAny_ready (rs := [9]) (by kernel_rfl) (by simp) ?_
              refine AllReady.cons rfl (fun K hK => ?_) ?_
              ·skip
               go_simp
               try go_bits
               refine hK _ _ ?_; clear hK K
               refine wpAny_done (by kernel_rfl) ?_ _
               simp only [onlyN]
               gi_wp2
               go_roundw
               case rel => exact ⟨1 + 1, _, by omega, by go_num, by rw [hpj, ← List.append_assoc]; exact Q3.out⟩
               case measure => simp [intOf] <;> omega
              exact AllReady.nil
             exact AllReady.nil
            exact AllReady.nil
           exact AllReady.nil
           )
       ·first
        | (exfalso; omega)
        | (have hu : Value.int .u8 ((B : Int) % 256) = Byt (UInt8.ofNat (grpNum A g / 2 ^ (8 * (2 - 2)))) := by
             simp only [Byt, UInt8.toNat_ofNat']
             rw [Hnum.out]
             try congr 1
             try simp only [Nat.reduceMul, Nat.reduceSub, Nat.reducePow]
             try omega
           have HU := Lib.hid hu; clear hu
           gi_wp2
           refine wpIn_region_plain (r := some lp) (by kernel_rfl) (by kernel_rfl) ?_
           simp only [List.size_toArray, List.length_cons, List.length_nil, Nat.reduceAdd, Array.replicate_succ, Array.replicate_zero, List.push_toArray, List.nil_append, List.cons_append]
           refine wpAny_take (i := 1) (v := ?_) rfl (by kernel_rfl) (by kernel_rfl) (by kernel_rfl) (fun _ _ _ h => h) (Or.inl ⟨by rfl, ?_⟩) ?_
           rotate_left 1
           ·(intro _; go_simp; (try go_bits); (try with_reducible rfl))
           refine wpAny_take (i := 2) (v := ?_) rfl (by kernel_rfl) (by kernel_rfl) (by kernel_rfl) (fun _ _ _ h => h) (Or.inl ⟨by rfl, ?_⟩) ?_
           rotate_left 1
           ·(intro _; go_simp; (try go_bits); (try with_reducible rfl))
           refine wpAny_take (i := 3) (v := ?_) rfl (by kernel_rfl) (by kernel_rfl) (by kernel_rfl) (fun _ _ _ h => h) (Or.inl ⟨by rfl, ?_⟩) ?_
           rotate_left 1
           ·(intro _; go_simp; (try go_bits); (try with_reducible rfl))
           refine wpAny_take (i := 4) (v := ?_) rfl (by kernel_rfl) (by kernel_rfl) (by kernel_rfl) (fun _ _ _ h => h) (Or.inl ⟨by rfl, ?_⟩) ?_
           rotate_left 1
           ·(intro _; go_simp; (try go_bits); (try with_reducible rfl))
           refine wpAny_take (i := 5) (v := ?_) rfl (by kernel_rfl) (by kernel_rfl) (by kernel_rfl) (fun _ _ _ h => h) (Or.inl ⟨by rfl, ?_⟩) ?_
           rotate_left 1
           ·(intro _; go_simp; (try go_bits); (try with_reducible rfl))
           refine wpAny_take (i := 6) (v := ?_) rfl (by kernel_rfl) (by kernel_rfl) (by kernel_rfl) (fun _ _ _ h => h) (Or.inl ⟨by rfl, ?_⟩) ?_
           rotate_left 1
           ·(intro _; go_simp; (try go_bits); (try with_reducible rfl))
           refine wpAny_ready (rs := [0, 7]) (by kernel_rfl) (by simp) ?_
           refine AllReady.cons rfl (fun K hK => ?_) ?_
           ·skip
            go_simp
            try go_bits
            refine hK _ _ ?_; clear hK K
            refine wpAny_ready (rs := [7]) (by kernel_rfl) (by simp) ?_
            refine AllReady.cons rfl (fun K hK => ?_) ?_
            ·skip
             go_simp
             try go_bits
             refine hK _ _ ?_; clear hK K
             refine wpAny_ready (rs := [8]) (by kernel_rfl) (by simp) ?_
             refine AllReady.cons rfl (fun K hK => ?_) ?_
             ·(try rw [drew_alloc]; refine step_push (w.heap.size + 5) rfl _ _ 25 5 rfl Tryz.underlying25 infoByte rfl (by omega) HDI.out.drew.row _ rfl (by omega) HDI.out.size rfl rfl ?_; rintro _ w1 ⟨g1, cap1, rfl⟩ hown1 hgr1; rw [HU.out] at hown1; obtain ⟨q1, q2, q3⟩ := HDI.out.drew.push rfl (fun k h => h) hown1 hgr1; clear hown1 hgr1; generalize (decN A l i ++ (grpOut A g).take 2).length + 1 = q at q1 q2 q3 ⊢; have Q3 := Lib.hid q3; clear q3)
              try go_simp
              refine hK _ _ ?_; clear hK K
              refine wpAny_ready (rs := [9]) (by kernel_rfl) (by simp) ?_
              refine AllReady.cons rfl (fun K hK => ?_) ?_
              ·skip
               go_simp
               try go_bits
               refine hK _ _ ?_; clear hK K
               refine wpAny_done (by kernel_rfl) ?_ _
               simp only [onlyN]
               gi_wp2
               go_roundw
               case rel => exact ⟨2 + 1, _, by omega, by go_num, by rw [hpj, ← List.append_assoc]; exact Q3.out⟩
               case measure => simp [intOf] <;> omega
              exact AllReady.nil
             exact AllReady.nil
            exact AllReady.nil
           refine AllReady.cons rfl (fun K hK => ?_) ?_
           ·skip
            go_simp
            try go_bits
            refine hK _ _ ?_; clear hK K
            refine wpAny_ready (rs := [0]) (by kernel_rfl) (by simp) ?_
            refine AllReady.cons rfl (fun K hK => ?_) ?_
            ·skip
             go_simp
             try go_bits
             refine hK _ _ ?_; clear hK K
             refine wpAny_ready (rs := [8]) (by kernel_rfl) (by simp) ?_
             refine AllReady.cons rfl (fun K hK => ?_) ?_
             ·(try rw [drew_alloc]; refine step_push (w.heap.size + 5) rfl _ _ 25 5 rfl Tryz.underlying25 infoByte rfl (by omega) HDI.out.drew.row _ rfl (by omega) HDI.out.size rfl rfl ?_; rintro _ w1 ⟨g1, cap1, rfl⟩ hown1 hgr1; rw [HU.out] at hown1; obtain ⟨q1, q2, q3⟩ := HDI.out.drew.push rfl (fun k h => h) hown1 hgr1; clear hown1 hgr1; generalize (decN A l i ++ (grpOut A g).take 2).length + 1 = q at q1 q2 q3 ⊢; have Q3 := Lib.hid q3; clear q3)
              try go_simp
              refine hK _ _ ?_; clear hK K
              refine wpAny_ready (rs := [9]) (by kernel_rfl) (by simp) ?_
              refine AllReady.cons rfl (fun K hK => ?_) ?_
              ·skip
               go_simp
               try go_bits
               refine hK _ _ ?_; clear hK K
               refine wpAny_done (by kernel_rfl) ?_ _
               simp only [onlyN]
               gi_wp2
               go_roundw
               case rel => exact ⟨2 + 1, _, by omega, by go_num, by rw [hpj, ← List.append_assoc]; exact Q3.out⟩
               case measure => simp [intOf] <;> omega
              exact AllReady.nil
             exact AllReady.nil
            exact AllReady.nil
           exact AllReady.nil
           )
      ·obtain rfl : j = 4 - 1 := by omega
       rw [Hall.out, ← hdn.out] at hdi
       have HDI := Lib.hid hdi; clear hdi
       gi_wp2
       exact ⟨hsz0 ▸ HDI.out.kp, HDI.out.h0, ⟨_, HDI.out.h1, HDI.out.row⟩, HDI.out.h2, hok1, HDI.out.bel, HDI.out.size⟩
 ·rintro D W hD ⟨h0, ⟨v, h1, hown⟩, h2, hok, hbel, hsz⟩ hdef
  have c1 : W.cell? ⟨w.heap.size + 1, 0, none⟩ = some v := by simp [World.cell?, h1]
  have c2 : W.cell? ⟨w.heap.size + 2, 0, none⟩ = some (.int .i64 (codN A l ((l.length + 3) / 4) : Nat)) := by simp [World.cell?, h2]
  have hres := Lib.hid (show decR A l = _ from if_pos hok)
  by_cases hc : codN A l ((l.length + 3) / 4) = 0
  ·rw [if_pos hc] at hres
   rw [hc] at c2
   clear hc h2 h1 h0
   have Hb := Lib.hid (below_mark hbel (by omega) hdef); clear hbel
   go_wp2
   refine marks_ret hdef (results_tmp2 rfl _ _) ⟨v, by rw [hres.out]; rfl, ?_, Hb.out⟩
   rw [hres.out]
   exact own_base (own_put hown hdef) (by omega)
  ·rw [if_neg hc] at hres
   have hcp : 0 < codN A l ((l.length + 3) / 4) := by omega
   have hcb : (((codN A l ((l.length + 3) / 4) : Nat) : Int) != 0) = true := by simp; omega
   clear hc h2 h1 h0
   have Hb := Lib.hid hbel; clear hbel
   go_wp2
   refine wp_region_quiet_lit (by kernel_rfl) (by kernel_rfl) ?_
   repeat (first
    | go_big_quiet_skip
    | (go_big_quiet_want; go_big_quiet_op; (try go_bits); first | go_big_quiet_on | go_big_quiet_call (fail)))
   refine wpQuiet_nil ?_
   intro _ hw'
   obtain ⟨nq, hw''⟩ := hw'
   subst hw''
   go_wp2
   refine marks_ret (D := D) hdef (results_tmp2 rfl _ _) ⟨.slice none 0 0, by rw [hres.out]; rfl, ?_, below_mark (Below.drewN Hb.out nq) (by omega) hdef⟩
   rw [hres.out]
   exact World.ownsRow_nil _ _ _ _
 ·rintro D c i W hD hi ⟨rfl, hok, h2, hbel, hsz⟩ hdef
  have c2 : W.cell? ⟨w.heap.size + 2, 0, none⟩ = some (.int .i64 5) := by simp [World.cell?, h2]
  have hokf : okN A l ((l.length + 3) / 4) = false := okN_false hi hok
  have hres := Lib.hid (show decR A l = _ from if_neg (by rw [hokf]; simp))
  have Hb := Lib.hid hbel; clear hbel h2 hok hokf
  refine wpIn_wide.2 ?_
  go_wp2
  refine wp_region_quiet_lit (by kernel_rfl) (by kernel_rfl) ?_
  repeat (first
   | go_big_quiet_skip
   | (go_big_quiet_want; go_big_quiet_op; (try go_bits); first | go_big_quiet_on | go_big_quiet_call (fail)))
  refine wpQuiet_nil ?_
  intro _ hw'
  obtain ⟨nq, hw''⟩ := hw'
  subst hw''
  go_wp2
  refine marks_ret (D := D) hdef (results_tmp2 rfl _ _) ⟨.slice none 0 0, by rw [hres.out]; rfl, ?_, below_mark (Below.drewN Hb.out nq) (by omega) hdef⟩
  rw [hres.out]
  exact World.ownsRow_nil _ _ _ _

def plain : List UInt8 := [65, 66, 67, 68, 69, 70, 71, 72, 73, 74, 75, 76, 77, 78, 79, 80, 81, 82, 83, 84, 85, 86, 87, 88, 89, 90, 97, 98, 99, 100, 101, 102, 103, 104, 105, 106, 107, 108, 109, 110, 111, 112, 113, 114, 115, 116, 117, 118, 119, 120, 121, 122, 48, 49, 50, 51, 52, 53, 54, 55, 56, 57, 43, 47]
def other : List UInt8 := [65, 66, 67, 68, 69, 70, 71, 72, 73, 74, 75, 76, 77, 78, 79, 80, 81, 82, 83, 84, 85, 86, 87, 88, 89, 90, 97, 98, 99, 100, 101, 102, 103, 104, 105, 106, 107, 108, 109, 110, 111, 112, 113, 114, 115, 116, 117, 118, 119, 120, 121, 122, 48, 49, 50, 51, 52, 53, 54, 55, 56, 57, 45, 95]

theorem Encode_any (v : Value) (l : List UInt8) (w : World) (hv : SlB w v l) (hl : l.length ≤ 10000) :
    Calls Tryz.prog 71 #[v] w fun e w' => e = .returned (Str (allL plain true l)) ∧ Ext w w' := by
 have hA : plain.length = 64 := rfl
 go_enter Tryz.func71, Tryz.ntmps71
 go_wp2_with (go_at_call 94; refine (all_any plain l hA true v _ hv hl).mono ?_; rintro e w' ⟨rfl, hext⟩)
 go_ret
 exact ⟨rfl, hext⟩
def trim (l : List UInt8) : List UInt8 := if 0 < l.length ∧ bt l (l.length - 1) = 61 then l.take (l.length - 1) else l
def trimN (l : List UInt8) : Nat → List UInt8
 | 0 => l
 | k + 1 => trim (trimN l k)
theorem trim_len (l : List UInt8) : (trim l).length ≤ l.length := by unfold trim; split <;> simp
theorem trimN_len (l : List UInt8) : ∀ k, (trimN l k).length ≤ l.length
 | 0 => Nat.le_refl _
 | k + 1 => Nat.le_trans (trim_len _) (trimN_len l k)
def decF (l : List UInt8) : List UInt8 × Nat :=
 if l.length % 4 = 0 then (if (trimN l 2).length % 4 = 1 then ([], 5) else decR plain (trimN l 2)) else ([], 2)
def decU (l : List UInt8) : List UInt8 × Nat := if l.length % 4 = 1 then ([], 2) else decR other l

set_option maxHeartbeats 1000000 in
theorem Decode_any (l : List UInt8) (w : World) (hl : l.length ≤ 10000) :
    Calls Tryz.prog 88 #[Str l] w fun e w' => ∃ v, e = .returned (.tuple #[v, .int .i64 ((decF l).2 : Int)]) ∧ w'.ownsRow w.heap.size 5 1 v (decF l).1.length ((decF l).1.map Byt) ∧ Ext w w' := by
 have hA : plain.length = 64 := rfl
 have hf := Lib.hid (show decF l = if l.length % 4 = 0 then (if (trimN l 2).length % 4 = 1 then ([], 5) else decR plain (trimN l 2)) else ([], 2) from rfl)
 by_cases h : l.length % 4 = 0
 ·rw [if_pos h] at hf
  go_enter Tryz.func88, Tryz.ntmps88
  go_wp2
  go_loop [0, 9] (fun s i => ∃ k : Nat, k ≤ 2 ∧ i = .int .i64 k ∧ s = Str (trimN l k)) (fun _ i => 2 - (intOf i).toNat)
  case atStart => exact ⟨0, by omega, rfl, rfl⟩
  case round =>
   obtain ⟨k, hk, rfl, rfl⟩ := hrel
   by_cases h3 : k < 2
   ·have hn := Lib.hid (show trimN l (k + 1) = trim (trimN l k) from rfl)
    have htl := trimN_len l k
    generalize trimN l k = t at *
    by_cases h0 : 0 < t.length
    ·have hix : ∀ W, (Instr.index 9 (Str t) (.int .i64 ((t.length : Int) - 1))).run Tryz.prog W = .ok (Byt (bt t (t.length - 1))) W := fun W => run_index_str Tryz.underlying9 t (t.length - 1) _ (by omega) (by omega) W
     by_cases hb : bt t (t.length - 1) = 61
     ·have htr : trim t = t.take (t.length - 1) := if_pos ⟨h0, hb⟩
      rw [htr] at hn
      rw [hb] at hix
      clear hb htr
      go_wp2
      go_round
      case rel => exact ⟨k + 1, by omega, by go_num, by rw [hn.out]⟩
      case measure => simp [intOf] <;> omega
     ·have htr : trim t = t := if_neg (fun h => hb h.2)
      rw [htr] at hn
      have hbn : ((bt t (t.length - 1)).toNat : Int) ≠ 61 := fun e => hb (UInt8.toNat_inj.1 (by rw [show (61 : UInt8).toNat = 61 from rfl]; omega))
      clear hb htr
      generalize bt t (t.length - 1) = c at *
      go_wp2
      go_round
      case rel => exact ⟨k + 1, by omega, by go_num, by rw [hn.out]⟩
      case measure => simp [intOf] <;> omega
    ·have htr : trim t = t := if_neg (fun h => h0 h.1)
     rw [htr] at hn
     clear htr
     go_wp2
     go_round
     case rel => exact ⟨k + 1, by omega, by go_num, by rw [hn.out]⟩
     case measure => simp [intOf] <;> omega
   ·obtain rfl : k = 2 := by omega
    have htl := trimN_len l 2
    clear h3 hk
    generalize trimN l 2 = t at *
    by_cases h1 : t.length % 4 = 1
    ·rw [if_pos h1] at hf
     go_wp2
     go_ret2
     exact ⟨.slice none 0 0, by rw [hf.out]; rfl, by rw [hf.out]; exact World.ownsRow_nil _ _ _ _, Below.refl _ _⟩
    ·rw [if_neg h1] at hf
     have Hd := Lib.hid (decode_any plain t hA w (by omega) h1)
     rw [← hf.out] at Hd
     go_wp2_with (go_at_call 104; refine Hd.out.mono ?_; rintro e w' ⟨v, rfl, hown, hext⟩; have Ho := Lib.hid hown; clear hown)
     go_ret2
     exact ⟨v, rfl, Ho.out, hext⟩
 ·rw [if_neg h] at hf
  go_enter Tryz.func88, Tryz.ntmps88
  go_wp2
  go_ret2
  exact ⟨.slice none 0 0, by rw [hf.out]; rfl, by rw [hf.out]; exact World.ownsRow_nil _ _ _ _, Below.refl _ _⟩

def alph (url : Bool) : List UInt8 := if url then other else plain
theorem alph_at (url : Bool) : ∀ n, n < 64 → ((bt (alph url) n).toNat : Int) = if n < 26 then 65 + (n : Int) else if n < 52 then 97 + (n : Int) - 26 else if n < 62 then 48 + (n : Int) - 52 else if n = 62 then (if url then 45 else 43) else (if url then 95 else 47) := by
 cases url <;> decide +kernel
set_option maxHeartbeats 400000 in
theorem letter_any (url : Bool) (n : Nat) (hn : n < 64) (w : World) :
    Calls Tryz.prog 76 #[.int .i64 (n : Int), .bool url] w fun e w' => e = .returned (Byt (bt (alph url) n)) ∧ w' = w := by
 have ha := alph_at url n hn
 have hfin : ∀ z : Int, ((bt (alph url) n).toNat : Int) = z → Ending.returned (.int .u8 z) = Ending.returned (Byt (bt (alph url) n)) := fun z h => by simp only [Byt, h]
 rcases (show n < 26 ∨ (26 ≤ n ∧ n < 52) ∨ (52 ≤ n ∧ n < 62) ∨ n = 62 ∨ n = 63 by omega) with h | h | h | h | h
 ·have H := Lib.hid hfin; have HA := Lib.hid ha; clear hfin ha
  go_enter Tryz.func76, Tryz.ntmps76
  go_wp2
  go_ret
  refine ⟨H.out _ ?_, rfl⟩
  rw [HA.out]
  repeat' split
  all_goals omega
 ·have H := Lib.hid hfin; have HA := Lib.hid ha; clear hfin ha
  go_enter Tryz.func76, Tryz.ntmps76
  go_wp2
  go_ret
  refine ⟨H.out _ ?_, rfl⟩
  rw [HA.out]
  repeat' split
  all_goals omega
 ·have H := Lib.hid hfin; have HA := Lib.hid ha; clear hfin ha
  go_enter Tryz.func76, Tryz.ntmps76
  go_wp2
  go_ret
  refine ⟨H.out _ ?_, rfl⟩
  rw [HA.out]
  repeat' split
  all_goals omega
 ·subst h
  cases url
  ·have H := Lib.hid hfin; have HA := Lib.hid ha; clear hfin ha
   go_enter Tryz.func76, Tryz.ntmps76
   go_wp2
   go_ret
   refine ⟨H.out _ ?_, rfl⟩
   rw [HA.out]
   rfl
  ·have H := Lib.hid hfin; have HA := Lib.hid ha; clear hfin ha
   go_enter Tryz.func76, Tryz.ntmps76
   go_wp2
   go_ret
   refine ⟨H.out _ ?_, rfl⟩
   rw [HA.out]
   rfl
 ·subst h
  cases url
  ·have H := Lib.hid hfin; have HA := Lib.hid ha; clear hfin ha
   go_enter Tryz.func76, Tryz.ntmps76
   go_wp2
   go_ret
   refine ⟨H.out _ ?_, rfl⟩
   rw [HA.out]
   rfl
  ·have H := Lib.hid hfin; have HA := Lib.hid ha; clear hfin ha
   go_enter Tryz.func76, Tryz.ntmps76
   go_wp2
   go_ret
   refine ⟨H.out _ ?_, rfl⟩
   rw [HA.out]
   rfl

def bitAt (l : List UInt8) (i : Nat) : Nat := (bt l (i / 8)).toNat / 2 ^ (7 - i % 8) % 2
def sixN (l : List UInt8) (a : Nat) : Nat → Nat
 | 0 => 0
 | k + 1 => 2 * sixN l a k + bitAt l (a + k)
def refN (A l : List UInt8) (n : Nat) : List UInt8 := (List.range n).map fun j => bt A (sixN l (6 * j) 6)
def refEnc (A : List UInt8) (f : Bool) (l : List UInt8) : List UInt8 :=
 let o := refN A l ((8 * l.length + 5) / 6)
 o ++ List.replicate (if f then (4 - o.length % 4) % 4 else 0) 61
theorem sixN_lt (l : List UInt8) (a : Nat) : ∀ k, sixN l a k < 2 ^ k
 | 0 => by simp [sixN]
 | k + 1 => by
   have := sixN_lt l a k
   have hb : bitAt l (a + k) < 2 := Nat.mod_lt _ (by omega)
   simp only [sixN, Nat.pow_succ]; omega
theorem refN_succ (A l : List UInt8) (n : Nat) : refN A l (n + 1) = refN A l n ++ [bt A (sixN l (6 * n) 6)] := by simp [refN, List.range_succ]
theorem refN_len (A l : List UInt8) (n : Nat) : (refN A l n).length = n := by simp [refN]

theorem u8_and1 : ∀ x : Nat, x < 256 → bits .and .u8 (x : Int) 1 = ((x % 2 : Nat) : Int) := by decide +kernel
theorem own_form' {w : World} {base e : Nat} {v : Value} {n : Nat} {l : List UInt8} (h : w.ownsRow base e 1 v n (l.map Byt)) : ∃ ao cap, v = .slice ao l.length cap ∧ l.length ≤ cap ∧ (ao = none → cap = 0) := by
 obtain ⟨ao, cap, hv, h1, _, h3, _⟩ := sl_of_own h
 rw [List.length_map] at hv h1
 exact ⟨ao, cap, hv, h1, h3⟩
def sliceLen : Value → Nat
 | .slice _ n _ => n
 | _ => 0
set_option maxHeartbeats 2000000 in
theorem refEncode_any (url : Bool) (v : Value) (l : List UInt8) (w : World) (hv : SlB w v l) (hl : l.length ≤ 10000) :
    Calls Tryz.prog 33 #[v, .bool url] w fun e w' => e = .returned (Str (refEnc (alph url) (!url) l)) ∧ Ext w w' := by
 obtain ⟨ao, cap, rfl, hcap, hmax, hnil, hcell⟩ := hv
 simp only [List.length_map] at hcap ⊢
 have HC := Lib.hid hcell; clear hcell
 have hix := run_index_adr (P := Tryz.prog) Tryz.underlying25 Tryz.sizeOf5 hnil hcap
 go_enter Tryz.func33, Tryz.ntmps33
 go_wp2
 go_loopw [5, 7] (fun o t wr => ∃ a j : Nat, t = .int .i64 (a : Int) ∧ a = 6 * j ∧ j ≤ (8 * l.length + 5) / 6 ∧ wr.ownsRow w.heap.size 5 1 o j ((refN (alph url) l j).map Byt) ∧ Ext w wr) (fun _ t _ => 8 * l.length + 6 - (intOf t).toNat)
 case atStart => exact ⟨0, 0, rfl, rfl, by omega, World.ownsRow_nil _ _ _ _, Below.refl _ _⟩
 case round =>
  obtain ⟨a, j, rfl, ha, hj, hown, hext⟩ := hrel
  have HA := Lib.hid ha; clear ha
  have Hown := Lib.hid hown; have Hext := Lib.hid hext; clear hown hext
  have ha4 : a ≤ 80006 := by have := HA.out; omega
  by_cases hab : a < 8 * l.length
  ·go_wp2
   go_loop [8, 9] (fun n i => ∃ i' k : Nat, i = .int .i64 (i' : Int) ∧ i' = a + k ∧ k ≤ 6 ∧ n = .int .i64 (sixN l a k : Nat)) (fun _ i => a + 6 - (intOf i).toNat)
   case atStart => exact ⟨a, 0, rfl, rfl, by omega, rfl⟩
   case round =>
    obtain ⟨i, k, rfl, hi, hk, rfl⟩ := hrel
    have hs := sixN_lt l a k
    have hs64 : sixN l a k < 64 := Nat.lt_of_lt_of_le hs (Nat.pow_le_pow_right (by omega) hk)
    have Hs := Lib.hid (show sixN l a (k + 1) = 2 * sixN l a k + bitAt l (a + k) from rfl)
    rw [← hi] at Hs
    clear hs
    obtain ⟨s, hsk⟩ : ∃ s, sixN l a k = s := ⟨_, rfl⟩
    rw [hsk] at hs64 Hs ⊢
    have HI := Lib.hid hi
    by_cases hia : i < a + 6
    ·clear hi
     by_cases hib : i < 8 * l.length
     ·have hck : wr.cell? (adr ao (i / 8)) = some (Byt (bt l (i / 8))) := ext_cell Hext.out (HC.out (i / 8) _ (byt_map l (i / 8) (by omega)))
      have hixi : ∀ W, (Instr.indexAt 25 (.slice ao l.length cap) (.int .i64 ((i : Int) / 8))).run Tryz.prog W = .ok (.pointer (some (adr ao (i / 8)))) W := fun W => by
       have := hix W (i / 8) (by omega)
       rwa [show ((i / 8 : Nat) : Int) = (i : Int) / 8 by omega] at this
      have hbi : bitAt l i = (bt l (i / 8)).toNat / 2 ^ (7 - i % 8) % 2 := rfl
      have hc := (bt l (i / 8)).toNat_lt
      rw [hbi] at Hs
      clear hbi
      generalize bt l (i / 8) = c at *
      have hx : c.toNat / 2 ^ (7 - i % 8) < 256 := Nat.lt_of_le_of_lt (Nat.div_le_self _ _) hc
      have hand := u8_and1 _ hx
      rw [Int.natCast_ediv, Int.natCast_pow, show ((2 : Nat) : Int) = 2 from rfl] at hand
      rcases Nat.mod_two_eq_zero_or_one (c.toNat / 2 ^ (7 - i % 8)) with hb | hb
      ·rw [hb] at hand Hs
       simp only [Int.natCast_zero, Int.natCast_one] at hand
       clear hb hx
       go_wp2
       exact ⟨⟨i + 1, by omega, k + 1, by have := HI.out; omega, by have := HI.out; omega, by rw [Hs.out]; omega⟩, by simp [intOf]; omega⟩
      ·rw [hb] at hand Hs
       simp only [Int.natCast_zero, Int.natCast_one] at hand
       clear hb hx
       go_wp2
       exact ⟨⟨i + 1, by omega, k + 1, by have := HI.out; omega, by have := HI.out; omega, by rw [Hs.out]; omega⟩, by simp [intOf]; omega⟩
     ·have h0 : bitAt l i = 0 := by
        unfold bitAt
        rw [bt_out l (i / 8) (by omega)]
        simp
      rw [h0] at Hs
      clear h0
      go_wp2
      exact ⟨⟨i + 1, by omega, k + 1, by have := HI.out; omega, by have := HI.out; omega, by rw [Hs.out]; omega⟩, by simp [intOf]; omega⟩
    ·obtain rfl : k = 6 := by omega
     clear hia
     have hs6 := hsk
     have hnx := Lib.hid (refN_succ (alph url) l j)
     rw [← HA.out] at hnx
     have hs2 : s < 64 := hs64
     rw [show sixN l a 6 = s from hs6] at hnx
     go_wp2_with (first
      | (go_at_call 76; refine (letter_any url s hs2 _).mono ?_; rintro e W3 ⟨rfl, rfl⟩)
      | (at_builtin; refine wpList_push w.heap.size rfl _ _ 25 5 rfl Tryz.underlying25 infoByte rfl (by omega) Hown.out (Byt (bt (alph url) s)) rfl (by omega) Hext.out.size rfl rfl ?_; rintro _ w1 ⟨g1, cap1, rfl⟩ hown1 hgr1; have hex1 := Lib.hid (ext_push Hext.out Hown.out hgr1); have Hown1 := Lib.hid hown1; clear hown1 hgr1))
     refine ⟨⟨a + 6, j + 1, by go_num, by have := HA.out; omega, by have := HA.out; omega, ?_, hex1.out⟩, by simp [intOf]; omega⟩
     rw [hnx.out, List.map_append]; exact Hown1.out
  ·have hj2 : j = (8 * l.length + 5) / 6 := by have := HA.out; omega
   rw [hj2] at Hown
   have hml := refN_len (alph url) l ((8 * l.length + 5) / 6)
   have hfin := Lib.hid (show refEnc (alph url) (!url) l = refN (alph url) l ((8 * l.length + 5) / 6) ++ List.replicate (if (!url) = true then (4 - (refN (alph url) l ((8 * l.length + 5) / 6)).length % 4) % 4 else 0) 61 from rfl)
   rw [hml] at hfin
   generalize refN (alph url) l ((8 * l.length + 5) / 6) = o at *
   have hm : (8 * l.length + 5) / 6 ≤ 13334 := by omega
   clear hj2 hj HA
   generalize (8 * l.length + 5) / 6 = m at *
   go_wp2
   go_loopw [5] (fun v wr => ∃ k : Nat, k ≤ (if (!url) = true then (4 - m % 4) % 4 else 0) ∧ wr.ownsRow w.heap.size 5 1 v (m + k) ((o ++ List.replicate k 61).map Byt) ∧ Ext w wr) (fun v _ => m + 4 - sliceLen v)
   case atStart => exact ⟨0, by omega, by simpa using Hown.out, Hext.out⟩
   case round =>
    obtain ⟨k, hk, hown, hext⟩ := hrel
    obtain ⟨av, cv, rfl, hcv, hnv⟩ := own_form' hown
    have hlen : (o ++ List.replicate k 61).length = m + k := by simp; omega
    rw [hlen] at hcv hown ⊢
    have Hown := Lib.hid hown; clear hown
    cases url
    ·simp only [Bool.not_false, if_true] at hk hfin
     by_cases hmk : (m + k) % 4 = 0
     ·have hcs := run_str (P := Tryz.prog) Tryz.underlying25 Tryz.underlying5 Tryz.underlying9 (sl_of_own Hown.out)
      have hk2 := Lib.hid (show k = (4 - m % 4) % 4 by omega)
      go_wp2
      go_ret
      exact ⟨by show _ = Ending.returned (Str (refEnc (alph false) true l)); rw [hfin.out, ← hk2.out]; rfl, hext⟩
     ·have hk3 : k < 4 := by omega
      have Hm := Lib.hid hmk
      have hm2 : (((m : Int) + k) % 4 != 0) = true := by simp; omega
      have Hk := Lib.hid (show k + 1 ≤ (4 - m % 4) % 4 by omega)
      clear hmk hk
      go_wp2_with (at_builtin; refine wpList_push w.heap.size rfl _ _ 25 5 rfl Tryz.underlying25 infoByte rfl (by omega) Hown.out (Byt 61) rfl (by omega) hext.size rfl rfl ?_; rintro _ w1 ⟨g1, cap1, rfl⟩ hown1 hgr1; have hex1 := Lib.hid (ext_push hext Hown.out hgr1); have Hown1 := Lib.hid hown1; clear hown1 hgr1)
      go_roundw
      case rel => exact ⟨k + 1, Hk.out, by rw [List.replicate_succ', ← List.append_assoc, List.map_append]; exact Hown1.out, hex1.out⟩
      case measure => simp [sliceLen]; omega
    ·simp only [Bool.not_true, Bool.false_eq_true, if_false] at hk hfin
     obtain rfl : k = 0 := by omega
     have hcs := run_str (P := Tryz.prog) Tryz.underlying25 Tryz.underlying5 Tryz.underlying9 (sl_of_own Hown.out)
     simp only [Nat.add_zero, List.replicate_zero, List.append_nil] at hcs hfin ⊢
     clear Hown hlen hk
     go_wp2
     go_ret
     exact ⟨by show _ = Ending.returned (Str (refEnc (alph true) false l)); rw [hfin.out]; rfl, hext⟩
end Go.Proofs.YtjkbigecejogdaaGreatDoor
