/-
  The texts that every chapter uses, in one: Idx, Hexr, Grp, Val, Dec, Cod, Rfe.
-/
import Derived.Lib.Bytealg
import Derived.WalkKit
import Derived.Test.YtjkbigecejogdaaDoorRows
import Derived.Test.YtjkbigecejogdaaDoorKit
import Derived.Shelf.Abstract
namespace Go.Proofs.YtjkbigecejogdaaDoor
open Go.RowKit
set_option maxRecDepth 100000
set_option linter.unusedVariables false
set_option linter.unusedSimpArgs false

theorem index51_any (l : List UInt8) (c : UInt8) (w : World) :
    Calls Tryd.prog 73 #[Str l, .int .u8 (c.toNat : Int)] w fun e w' => e = .returned (.int .i64 (Lib.indexByte l c)) ∧ w' = w := by
  have hfin : Lib.indexByte (⟨l.toArray⟩ : ByteArray).data.toList ((c.toNat : Int)).toNat.toUInt8 = Lib.indexByte l c := by
    have : ((c.toNat : Int)).toNat.toUInt8 = c := by simp [Nat.toUInt8]
    rw [this]
  go_enter Tryd.func73, Tryd.ntmps73
  go_wp2
  rw [run_callFunc_extern Tryd.func87 (by kernel_rfl) (by kernel_rfl) (by kernel_rfl) (e := Extern.BytealgIndexByte.indexByte) (by kernel_rfl), Lib.run_indexByteString, hfin]
  simp only [Result.andThen]
  rw [Oper.upon_value]
  go_wp2
  go_ret
  exact ⟨rfl, rfl⟩
theorem indexb_any (l : List UInt8) (c : UInt8) (w : World) :
    Calls Tryd.prog 63 #[Str l, .int .u8 (c.toNat : Int)] w fun e w' => e = .returned (.int .i64 (Lib.indexByte l c)) ∧ w' = w := by
  go_enter Tryd.func63, Tryd.ntmps63
  go_wp2_with (go_at_call 73; refine (index51_any _ _ _).mono ?_; rintro e W2 ⟨rfl, rfl⟩)
  go_ret
  exact ⟨rfl, rfl⟩
end Go.Proofs.YtjkbigecejogdaaDoor

namespace Go.Proofs.YtjkbigecejogdaaDoor
open Go.RowKit

def hexd : List UInt8 := [48, 49, 50, 51, 52, 53, 54, 55, 56, 57, 97, 98, 99, 100, 101, 102]
theorem hexd_lit : (⟨#[48, 49, 50, 51, 52, 53, 54, 55, 56, 57, 97, 98, 99, 100, 101, 102]⟩ : ByteArray) = ⟨hexd.toArray⟩ := rfl
theorem hexd_len : hexd.length = 16 := rfl
def hexL : List UInt8 → List UInt8
  | [] => []
  | b :: l => bt hexd (b.toNat / 16) :: bt hexd (b.toNat % 16) :: hexL l
theorem hexL_snoc (l : List UInt8) (b : UInt8) : hexL (l ++ [b]) = hexL l ++ [bt hexd (b.toNat / 16), bt hexd (b.toNat % 16)] := by
  induction l with
  | nil => rfl
  | cons c l ih => simp [hexL, ih]
theorem hexL_len (l : List UInt8) : (hexL l).length = 2 * l.length := by
  induction l with
  | nil => rfl
  | cons c l ih => simp [hexL, ih]; omega

end Go.Proofs.YtjkbigecejogdaaDoor

namespace Go.Proofs.YtjkbigecejogdaaDoor
open Go.RowKit
attribute [local go_sem] Oper.semAt_some

/-- How long the pieces are. -/
def gsz (z : Int) (n : Nat) : Nat := if 0 < z then z.toNat else max n 1
theorem gsz_pos (z : Int) (n : Nat) : 0 < gsz z n := by unfold gsz; split <;> omega
/-- How many pieces. -/
def gcnt (m n : Nat) : Nat := (n + m - 1) / m
theorem gcnt_lt {m n : Nat} (i : Nat) (hm : 0 < m) : i < gcnt m n ↔ m * i < n := by
  unfold gcnt
  rw [Nat.lt_iff_add_one_le, Nat.le_div_iff_mul_le hm, Nat.add_mul, Nat.one_mul, Nat.mul_comm i m]
  omega
def strLen (w : World) (b : Nat) : Nat := match w.cell? ⟨b, 0, none⟩ with | some (.string s) => s.size | _ => 0

end Go.Proofs.YtjkbigecejogdaaDoor

namespace Go.Proofs.YtjkbigecejogdaaDoor
open Go.RowKit

def valN (x y c : Nat) : Int :=
  if 65 ≤ c ∧ c ≤ 90 then (c : Int) - 65 else if 97 ≤ c ∧ c ≤ 122 then (c : Int) - 97 + 26 else if 48 ≤ c ∧ c ≤ 57 then (c : Int) - 48 + 52
  else if c = x then 62 else if c = y then 63 else -1
/-- A letter's value; -1: it is none. -/
def valL (A : List UInt8) (c : UInt8) : Int := valN (bt A 62).toNat (bt A 63).toNat c.toNat

end Go.Proofs.YtjkbigecejogdaaDoor

namespace Go.Proofs.YtjkbigecejogdaaDoor
open Go.RowKit Go.Shelf
set_option maxRecDepth 100000
set_option linter.unusedVariables false
set_option linter.unusedSimpArgs false
attribute [local go_sem] Oper.semAt_some

/-- The number of letters. -/
def bitsN (A : List UInt8) : List UInt8 → Nat := fun g => g.foldl (fun b c => b * 64 + (valL A c).toNat) 0
def grpOk (A g : List UInt8) : Bool := g.all fun c => valL A c != -1
/-- The letters' number, moved up to four letters' place. -/
def grpNum (A g : List UInt8) : Nat := bitsN A g * 2 ^ (6 * (4 - g.length))
def grpOut (A g : List UInt8) : List UInt8 := (List.range (g.length - 1)).map fun j => UInt8.ofNat (grpNum A g / 2 ^ (8 * (2 - j)))
def grpBad (A g : List UInt8) : Bool := decide (g.length < 4) && (grpNum A g % 2 ^ (8 * (4 - g.length)) != 0)
def piece (l : List UInt8) (i : Nat) : List UInt8 := (l.drop (4 * i)).take 4
def decN (A l : List UInt8) (i : Nat) : List UInt8 := (List.range i).flatMap fun j => grpOut A (piece l j)
def codN (A l : List UInt8) : Nat → Nat
  | 0 => 0
  | i + 1 => if grpBad A (piece l i) then 4 else codN A l i
def okN (A l : List UInt8) (i : Nat) : Bool := (List.range i).all fun j => grpOk A (piece l j)
/-- What decode answers. -/
def decR (A l : List UInt8) : List UInt8 × Nat :=
  let n := (l.length + 3) / 4
  if okN A l n then (if codN A l n = 0 then (decN A l n, 0) else ([], codN A l n)) else ([], 5)
theorem decN_succ (A l : List UInt8) (i : Nat) : decN A l (i + 1) = decN A l i ++ grpOut A (piece l i) := by simp [decN, List.range_succ]
theorem okN_succ (A l : List UInt8) (i : Nat) : okN A l (i + 1) = (okN A l i && grpOk A (piece l i)) := by simp [okN, List.range_succ]
theorem okN_false {A l : List UInt8} {i n : Nat} (hi : i < n) (h : okN A l (i + 1) = false) : okN A l n = false := by
  cases hn : okN A l n with
  | false => rfl
  | true =>
    rw [← h]
    simp only [okN, List.all_eq_true, List.mem_range] at hn
    exact (List.all_eq_true.2 fun j hj => hn j (by have := List.mem_range.1 hj; omega)).symm
theorem bitsN_snoc (A g : List UInt8) (c : UInt8) : bitsN A (g ++ [c]) = bitsN A g * 64 + (valL A c).toNat := by simp [bitsN]
theorem valL_range (A : List UInt8) (c : UInt8) : -1 ≤ valL A c ∧ valL A c ≤ 63 := by
  unfold valL valN; have := c.toNat_lt; repeat' split
  all_goals omega
theorem list_snoc_ind {α : Type} {p : List α → Prop} (h0 : p []) (h1 : ∀ l x, p l → p (l ++ [x])) : ∀ l, p l := by
  intro l
  have h : ∀ l : List α, p l.reverse := fun l => by
    induction l with
    | nil => exact h0
    | cons x l ih => rw [List.reverse_cons]; exact h1 _ _ ih
  have := h l.reverse
  rwa [List.reverse_reverse] at this
theorem bitsN_lt (A : List UInt8) : ∀ g : List UInt8, bitsN A g < 64 ^ g.length := by
  refine list_snoc_ind (by simp [bitsN]) fun g c ih => ?_
  have := valL_range A c
  rw [bitsN_snoc, List.length_append, List.length_singleton, Nat.pow_succ]
  omega
theorem decN_len (A l : List UInt8) : ∀ n, (decN A l n).length ≤ 3 * n
  | 0 => by simp [decN]
  | n + 1 => by
    have h1 := decN_len A l n
    have h2 : (grpOut A (piece l n)).length ≤ 3 := by simp [grpOut, piece]; omega
    rw [decN_succ, List.length_append]; omega

theorem grpOut_take (A g : List UInt8) (j : Nat) (hj : j + 1 < g.length) : (grpOut A g).take (j + 1) = (grpOut A g).take j ++ [UInt8.ofNat (grpNum A g / 2 ^ (8 * (2 - j)))] := by
  have h : j < (grpOut A g).length := by simp [grpOut]; omega
  rw [List.take_succ_eq_append_getElem h]
  simp [grpOut]
/-- What the round keeps: the boxes at s (alphabet), s + 1 (the bytes), s + 2 (the code). -/
structure DI (s : Nat) (A : List UInt8) (w W2 : World) (own : Nat → Prop) (out : List UInt8) (code : Int) (v : Value) (W : World) : Prop where
  h0 : W.heap[s]? = some (.cells #[Str A] 9 (0, 0))
  h1 : W.heap[s + 1]? = some (.cells #[v] 23 (0, 0))
  h2 : W.heap[s + 2]? = some (.cells #[.int .i64 code] 28 (0, 0))
  row : W.ownsRow (s + 5) 5 1 v out.length (out.map Byt)
  bel : Below s w W
  kp : Kp (s + 5) own W2 W
  size : s + 5 ≤ W.heap.size
theorem DI.code {s : Nat} {A : List UInt8} {w W2 : World} {own : Nat → Prop} {out : List UInt8} {code : Int} {v : Value} {W : World} (h : DI s A w W2 own out code v W) (hs : s = w.heap.size) (ho : ∀ k, own k → k = s + 3 ∨ k = s + 4) (c : Int) :
    DI s A w W2 own out c v (W.setCell ⟨s + 2, 0, none⟩ (.int .i64 c)) := by
  have hsz := h.size
  have hc := Chg.setCell W ⟨s + 2, 0, none⟩ (.int .i64 c)
  refine ⟨(hc.block s (by omega) (by simp)).trans h.h0, (hc.block (s + 1) (by omega) (by simp)).trans h.h1, one_setCell h.h2, own_keep h.row fun g _ hg hk => hc.block g (kind_lt hk) (by simp; omega), below_chg h.bel hc (by simp; try omega) (by omega), h.kp.trans (Kp.of_chg hc (fun k hk => ?_) (fun k hk hB => ?_)), Nat.le_trans hsz hc.size⟩
  · have := ho k hk; simp; omega
  · simp at hk; omega
theorem DI.push {s : Nat} {A : List UInt8} {w W2 : World} {own : Nat → Prop} {out : List UInt8} {code : Int} {v : Value} {W : World} (h : DI s A w W2 own out code v W) (hs : s = w.heap.size) (ho : ∀ k, own k → k = s + 3 ∨ k = s + 4) {y : UInt8} {v' : Value} {w1 : World}
    (hown : w1.ownsRow (s + 5) 5 1 v' (out.length + 1) (out.map Byt ++ [Byt y])) (hg : W.grownBy w1 v.ownBlock) :
    w1.cell? ⟨s + 1, 0, none⟩ = some v ∧ w1.frozen? ⟨s + 1, 0, none⟩ = false ∧ DI s A w W2 own (out ++ [y]) code v' (w1.setCell ⟨s + 1, 0, none⟩ v') := by
  have hsz := h.size
  have hrow : ∀ k, v.ownBlock = some k → s + 5 ≤ k := fun k hk => (h.row.lt k hk).1
  have hlow : ∀ k, k < s + 5 → w1.heap[k]? = W.heap[k]? := fun k hk => hg.block k (by omega) (fun e => by have := hrow k e.symm; omega)
  have e1 := (hlow (s + 1) (by omega)).trans h.h1
  have hc := Chg.setCell w1 ⟨s + 1, 0, none⟩ v'
  refine ⟨cell_of e1, frozen_of e1, ⟨(hc.block s (by have := hg.size; omega) (by simp)).trans ((hlow s (by omega)).trans h.h0), one_setCell e1, (hc.block (s + 2) (by have := hg.size; omega) (by simp)).trans ((hlow (s + 2) (by omega)).trans h.h2), ?_, ?_, ?_, ?_⟩⟩
  · rw [List.length_append, List.map_append]
    exact own_keep hown fun g _ hg' hk => hc.block g (kind_lt hk) (by simp; omega)
  · exact below_chg (h.bel.grown hg (by have := h.bel.size; omega) (fun k hk => by have := hrow k hk; omega)) hc (by simp; try omega) (by omega)
  · refine h.kp.trans ((Kp.of_grown hg (fun k hk => ⟨by have := ho k hk; omega, fun e => by have := hrow k e; have := ho k hk; omega⟩) (fun k hk => ?_)).trans (Kp.of_chg hc (fun k hk => ?_) (fun k hk hB => ?_)))
    · rcases h.row.2 with ⟨hn, _⟩ | ⟨g, cap, cur, hv, _, hgg, _⟩
      · rw [hn] at hk; simp [Value.ownBlock] at hk
      · rw [hv] at hk; simp [Value.ownBlock] at hk; subst hk; exact ⟨_, kind_of_cells hgg⟩
    · have := ho k hk; have := hg.size; simp; omega
    · simp at hk; omega
  · have := hg.size; have := hc.size; omega

theorem DI.drew {s : Nat} {A : List UInt8} {w W2 : World} {own : Nat → Prop} {out : List UInt8} {code : Int} {v : Value} {W : World} (h : DI s A w W2 own out code v W) : DI s A w W2 own out code v { W with drawn := W.drawn + 1 } :=
  ⟨h.h0, h.h1, h.h2, h.row, ⟨h.bel.os, h.bel.tape, h.bel.output, h.bel.size, h.bel.block⟩, ⟨h.kp.size, h.kp.own, h.kp.other⟩, h.size⟩

end Go.Proofs.YtjkbigecejogdaaDoor

namespace Go.Proofs.YtjkbigecejogdaaDoor
open Go.RowKit

def plain : List UInt8 := [65, 66, 67, 68, 69, 70, 71, 72, 73, 74, 75, 76, 77, 78, 79, 80, 81, 82, 83, 84, 85, 86, 87, 88, 89, 90, 97, 98, 99, 100, 101, 102, 103, 104, 105, 106, 107, 108, 109, 110, 111, 112, 113, 114, 115, 116, 117, 118, 119, 120, 121, 122, 48, 49, 50, 51, 52, 53, 54, 55, 56, 57, 43, 47]
def other : List UInt8 := [65, 66, 67, 68, 69, 70, 71, 72, 73, 74, 75, 76, 77, 78, 79, 80, 81, 82, 83, 84, 85, 86, 87, 88, 89, 90, 97, 98, 99, 100, 101, 102, 103, 104, 105, 106, 107, 108, 109, 110, 111, 112, 113, 114, 115, 116, 117, 118, 119, 120, 121, 122, 48, 49, 50, 51, 52, 53, 54, 55, 56, 57, 45, 95]

theorem Encode_any (v : Value) (l : List UInt8) (w : World) (hv : SlB w v l) (hl : l.length ≤ 10000) :
    Calls Tryd.prog 42 #[v] w fun e w' => e = .returned (Str (allL plain true l)) ∧ Ext w w' := by
  have hA : plain.length = 64 := rfl
  go_enter Tryd.func42, Tryd.ntmps42
  go_wp2_with (go_at_call 57; refine (all_any plain l hA true v _ hv hl).mono ?_; rintro e w' ⟨rfl, hext⟩)
  go_ret
  exact ⟨rfl, hext⟩
/-- One '=' off the end. -/
def trim (l : List UInt8) : List UInt8 := if 0 < l.length ∧ bt l (l.length - 1) = 61 then l.take (l.length - 1) else l
def trimN (l : List UInt8) : Nat → List UInt8
  | 0 => l
  | k + 1 => trim (trimN l k)
theorem trim_len (l : List UInt8) : (trim l).length ≤ l.length := by unfold trim; split <;> simp
theorem trimN_len (l : List UInt8) : ∀ k, (trimN l k).length ≤ l.length
  | 0 => Nat.le_refl _
  | k + 1 => Nat.le_trans (trim_len _) (trimN_len l k)
/-- What Decode answers. -/
def decF (l : List UInt8) : List UInt8 × Nat :=
  if l.length % 4 = 0 then (if (trimN l 2).length % 4 = 1 then ([], 5) else decR plain (trimN l 2)) else ([], 2)
def decU (l : List UInt8) : List UInt8 × Nat := if l.length % 4 = 1 then ([], 2) else decR other l

end Go.Proofs.YtjkbigecejogdaaDoor

namespace Go.Proofs.YtjkbigecejogdaaDoor
open Go.RowKit
set_option maxRecDepth 100000
set_option linter.unusedVariables false
set_option linter.unusedSimpArgs false

def alph (url : Bool) : List UInt8 := if url then other else plain
theorem alph_at (url : Bool) : ∀ n, n < 64 → ((bt (alph url) n).toNat : Int) = if n < 26 then 65 + (n : Int) else if n < 52 then 97 + (n : Int) - 26 else if n < 62 then 48 + (n : Int) - 52 else if n = 62 then (if url then 45 else 43) else (if url then 95 else 47) := by
  cases url <;> decide +kernel
set_option maxHeartbeats 400000 in
theorem letter_any (url : Bool) (n : Nat) (hn : n < 64) (w : World) :
    Calls Tryd.prog 49 #[.int .i64 (n : Int), .bool url] w fun e w' => e = .returned (Byt (bt (alph url) n)) ∧ w' = w := by
  have ha := alph_at url n hn
  have hfin : ∀ z : Int, ((bt (alph url) n).toNat : Int) = z → Ending.returned (.int .u8 z) = Ending.returned (Byt (bt (alph url) n)) := fun z h => by simp only [Byt, h]
  rcases (show n < 26 ∨ (26 ≤ n ∧ n < 52) ∨ (52 ≤ n ∧ n < 62) ∨ n = 62 ∨ n = 63 by omega) with h | h | h | h | h
  · have H := Lib.hid hfin; have HA := Lib.hid ha; clear hfin ha
    go_enter Tryd.func49, Tryd.ntmps49
    go_wp2
    go_ret
    refine ⟨H.out _ ?_, rfl⟩
    rw [HA.out]
    repeat' split
    all_goals omega
  · have H := Lib.hid hfin; have HA := Lib.hid ha; clear hfin ha
    go_enter Tryd.func49, Tryd.ntmps49
    go_wp2
    go_ret
    refine ⟨H.out _ ?_, rfl⟩
    rw [HA.out]
    repeat' split
    all_goals omega
  · have H := Lib.hid hfin; have HA := Lib.hid ha; clear hfin ha
    go_enter Tryd.func49, Tryd.ntmps49
    go_wp2
    go_ret
    refine ⟨H.out _ ?_, rfl⟩
    rw [HA.out]
    repeat' split
    all_goals omega
  · subst h
    cases url
    · have H := Lib.hid hfin; have HA := Lib.hid ha; clear hfin ha
      go_enter Tryd.func49, Tryd.ntmps49
      go_wp2
      go_ret
      refine ⟨H.out _ ?_, rfl⟩
      rw [HA.out]
      rfl
    · have H := Lib.hid hfin; have HA := Lib.hid ha; clear hfin ha
      go_enter Tryd.func49, Tryd.ntmps49
      go_wp2
      go_ret
      refine ⟨H.out _ ?_, rfl⟩
      rw [HA.out]
      rfl
  · subst h
    cases url
    · have H := Lib.hid hfin; have HA := Lib.hid ha; clear hfin ha
      go_enter Tryd.func49, Tryd.ntmps49
      go_wp2
      go_ret
      refine ⟨H.out _ ?_, rfl⟩
      rw [HA.out]
      rfl
    · have H := Lib.hid hfin; have HA := Lib.hid ha; clear hfin ha
      go_enter Tryd.func49, Tryd.ntmps49
      go_wp2
      go_ret
      refine ⟨H.out _ ?_, rfl⟩
      rw [HA.out]
      rfl

def bitAt (l : List UInt8) (i : Nat) : Nat := (bt l (i / 8)).toNat / 2 ^ (7 - i % 8) % 2
def sixN (l : List UInt8) (a : Nat) : Nat → Nat
  | 0 => 0
  | k + 1 => 2 * sixN l a k + bitAt l (a + k)
def refN (A l : List UInt8) (n : Nat) : List UInt8 := (List.range n).map fun j => bt A (sixN l (6 * j) 6)
def refEnc (A : List UInt8) (f : Bool) (l : List UInt8) : List UInt8 :=
  let o := refN A l ((8 * l.length + 5) / 6)
  o ++ List.replicate (if f then (4 - o.length % 4) % 4 else 0) 61
theorem sixN_lt (l : List UInt8) (a : Nat) : ∀ k, sixN l a k < 2 ^ k
  | 0 => by simp [sixN]
  | k + 1 => by
    have := sixN_lt l a k
    have hb : bitAt l (a + k) < 2 := Nat.mod_lt _ (by omega)
    simp only [sixN, Nat.pow_succ]; omega
theorem refN_succ (A l : List UInt8) (n : Nat) : refN A l (n + 1) = refN A l n ++ [bt A (sixN l (6 * n) 6)] := by simp [refN, List.range_succ]
theorem refN_len (A l : List UInt8) (n : Nat) : (refN A l n).length = n := by simp [refN]

theorem u8_and1 : ∀ x : Nat, x < 256 → bits .and .u8 (x : Int) 1 = ((x % 2 : Nat) : Int) := by decide +kernel
theorem own_form' {w : World} {base e : Nat} {v : Value} {n : Nat} {l : List UInt8} (h : w.ownsRow base e 1 v n (l.map Byt)) : ∃ ao cap, v = .slice ao l.length cap ∧ l.length ≤ cap ∧ (ao = none → cap = 0) := by
  obtain ⟨ao, cap, hv, h1, _, h3, _⟩ := sl_of_own h
  rw [List.length_map] at hv h1
  exact ⟨ao, cap, hv, h1, h3⟩
def sliceLen : Value → Nat
  | .slice _ n _ => n
  | _ => 0
set_option maxHeartbeats 2000000 in
theorem refEncode_any (url : Bool) (v : Value) (l : List UInt8) (w : World) (hv : SlB w v l) (hl : l.length ≤ 10000) :
    Calls Tryd.prog 23 #[v, .bool url] w fun e w' => e = .returned (Str (refEnc (alph url) (!url) l)) ∧ Ext w w' := by
  obtain ⟨ao, cap, rfl, hcap, hmax, hnil, hcell⟩ := hv
  simp only [List.length_map] at hcap ⊢
  have HC := Lib.hid hcell; clear hcell
  have hix := run_index_adr (P := Tryd.prog) Tryd.underlying23 Tryd.sizeOf5 hnil hcap
  go_enter Tryd.func23, Tryd.ntmps23
  go_wp2
  go_loopw [5, 7] (fun o t wr => ∃ a j : Nat, t = .int .i64 (a : Int) ∧ a = 6 * j ∧ j ≤ (8 * l.length + 5) / 6 ∧ wr.ownsRow w.heap.size 5 1 o j ((refN (alph url) l j).map Byt) ∧ Ext w wr) (fun _ t _ => 8 * l.length + 6 - (intOf t).toNat)
  case atStart => exact ⟨0, 0, rfl, rfl, by omega, World.ownsRow_nil _ _ _ _, Below.refl _ _⟩
  case round =>
    obtain ⟨a, j, rfl, ha, hj, hown, hext⟩ := hrel
    have HA := Lib.hid ha; clear ha
    have Hown := Lib.hid hown; have Hext := Lib.hid hext; clear hown hext
    have ha4 : a ≤ 80006 := by have := HA.out; omega
    by_cases hab : a < 8 * l.length
    · go_wp2
      go_loop [8, 9] (fun n i => ∃ i' k : Nat, i = .int .i64 (i' : Int) ∧ i' = a + k ∧ k ≤ 6 ∧ n = .int .i64 (sixN l a k : Nat)) (fun _ i => a + 6 - (intOf i).toNat)
      case atStart => exact ⟨a, 0, rfl, rfl, by omega, rfl⟩
      case round =>
        obtain ⟨i, k, rfl, hi, hk, rfl⟩ := hrel
        have hs := sixN_lt l a k
        have hs64 : sixN l a k < 64 := Nat.lt_of_lt_of_le hs (Nat.pow_le_pow_right (by omega) hk)
        have Hs := Lib.hid (show sixN l a (k + 1) = 2 * sixN l a k + bitAt l (a + k) from rfl)
        rw [← hi] at Hs
        clear hs
        obtain ⟨s, hsk⟩ : ∃ s, sixN l a k = s := ⟨_, rfl⟩
        rw [hsk] at hs64 Hs ⊢
        have HI := Lib.hid hi
        by_cases hia : i < a + 6
        · clear hi
          by_cases hib : i < 8 * l.length
          · have hck : wr.cell? (adr ao (i / 8)) = some (Byt (bt l (i / 8))) := ext_cell Hext.out (HC.out (i / 8) _ (byt_map l (i / 8) (by omega)))
            have hixi : ∀ W, (Instr.indexAt 23 (.slice ao l.length cap) (.int .i64 ((i : Int) / 8))).run Tryd.prog W = .ok (.pointer (some (adr ao (i / 8)))) W := fun W => by
              have := hix W (i / 8) (by omega)
              rwa [show ((i / 8 : Nat) : Int) = (i : Int) / 8 by omega] at this
            have hbi : bitAt l i = (bt l (i / 8)).toNat / 2 ^ (7 - i % 8) % 2 := rfl
            have hc := (bt l (i / 8)).toNat_lt
            rw [hbi] at Hs
            clear hbi
            generalize bt l (i / 8) = c at *
            have hx : c.toNat / 2 ^ (7 - i % 8) < 256 := Nat.lt_of_le_of_lt (Nat.div_le_self _ _) hc
            have hand := u8_and1 _ hx
            rw [Int.natCast_ediv, Int.natCast_pow, show ((2 : Nat) : Int) = 2 from rfl] at hand
            rcases Nat.mod_two_eq_zero_or_one (c.toNat / 2 ^ (7 - i % 8)) with hb | hb
            · rw [hb] at hand Hs
              simp only [Int.natCast_zero, Int.natCast_one] at hand
              clear hb hx
              go_wp2
              exact ⟨⟨i + 1, by omega, k + 1, by have := HI.out; omega, by have := HI.out; omega, by rw [Hs.out]; omega⟩, by simp [intOf]; omega⟩
            · rw [hb] at hand Hs
              simp only [Int.natCast_zero, Int.natCast_one] at hand
              clear hb hx
              go_wp2
              exact ⟨⟨i + 1, by omega, k + 1, by have := HI.out; omega, by have := HI.out; omega, by rw [Hs.out]; omega⟩, by simp [intOf]; omega⟩
          · have h0 : bitAt l i = 0 := by
              unfold bitAt
              rw [bt_out l (i / 8) (by omega)]
              simp
            rw [h0] at Hs
            clear h0
            go_wp2
            exact ⟨⟨i + 1, by omega, k + 1, by have := HI.out; omega, by have := HI.out; omega, by rw [Hs.out]; omega⟩, by simp [intOf]; omega⟩
        · obtain rfl : k = 6 := by omega
          clear hia
          have hs6 := hsk
          have hnx := Lib.hid (refN_succ (alph url) l j)
          rw [← HA.out] at hnx
          have hs2 : s < 64 := hs64
          rw [show sixN l a 6 = s from hs6] at hnx
          go_wp2_with (first
            | (go_at_call 49; refine (letter_any url s hs2 _).mono ?_; rintro e W3 ⟨rfl, rfl⟩)
            | (at_builtin; refine wpList_push w.heap.size rfl _ _ 23 5 rfl Tryd.underlying23 infoByte rfl (by omega) Hown.out (Byt (bt (alph url) s)) rfl (by omega) Hext.out.size rfl rfl ?_; rintro _ w1 ⟨g1, cap1, rfl⟩ hown1 hgr1; have hex1 := Lib.hid (ext_push Hext.out Hown.out hgr1); have Hown1 := Lib.hid hown1; clear hown1 hgr1))
          refine ⟨⟨a + 6, j + 1, by go_num, by have := HA.out; omega, by have := HA.out; omega, ?_, hex1.out⟩, by simp [intOf]; omega⟩
          rw [hnx.out, List.map_append]; exact Hown1.out
    · have hj2 : j = (8 * l.length + 5) / 6 := by have := HA.out; omega
      rw [hj2] at Hown
      have hml := refN_len (alph url) l ((8 * l.length + 5) / 6)
      have hfin := Lib.hid (show refEnc (alph url) (!url) l = refN (alph url) l ((8 * l.length + 5) / 6) ++ List.replicate (if (!url) = true then (4 - (refN (alph url) l ((8 * l.length + 5) / 6)).length % 4) % 4 else 0) 61 from rfl)
      rw [hml] at hfin
      generalize refN (alph url) l ((8 * l.length + 5) / 6) = o at *
      have hm : (8 * l.length + 5) / 6 ≤ 13334 := by omega
      clear hj2 hj HA
      generalize (8 * l.length + 5) / 6 = m at *
      go_wp2
      go_loopw [5] (fun v wr => ∃ k : Nat, k ≤ (if (!url) = true then (4 - m % 4) % 4 else 0) ∧ wr.ownsRow w.heap.size 5 1 v (m + k) ((o ++ List.replicate k 61).map Byt) ∧ Ext w wr) (fun v _ => m + 4 - sliceLen v)
      case atStart => exact ⟨0, by omega, by simpa using Hown.out, Hext.out⟩
      case round =>
        obtain ⟨k, hk, hown, hext⟩ := hrel
        obtain ⟨av, cv, rfl, hcv, hnv⟩ := own_form' hown
        have hlen : (o ++ List.replicate k 61).length = m + k := by simp; omega
        rw [hlen] at hcv hown ⊢
        have Hown := Lib.hid hown; clear hown
        cases url
        · simp only [Bool.not_false, if_true] at hk hfin
          by_cases hmk : (m + k) % 4 = 0
          · have hcs := run_str (P := Tryd.prog) Tryd.underlying23 Tryd.underlying5 Tryd.underlying9 (sl_of_own Hown.out)
            have hk2 := Lib.hid (show k = (4 - m % 4) % 4 by omega)
            go_wp2
            go_ret
            exact ⟨by show _ = Ending.returned (Str (refEnc (alph false) true l)); rw [hfin.out, ← hk2.out]; rfl, hext⟩
          · have hk3 : k < 4 := by omega
            have Hm := Lib.hid hmk
            have hm2 : (((m : Int) + k) % 4 != 0) = true := by simp; omega
            have Hk := Lib.hid (show k + 1 ≤ (4 - m % 4) % 4 by omega)
            clear hmk hk
            go_wp2_with (at_builtin; refine wpList_push w.heap.size rfl _ _ 23 5 rfl Tryd.underlying23 infoByte rfl (by omega) Hown.out (Byt 61) rfl (by omega) hext.size rfl rfl ?_; rintro _ w1 ⟨g1, cap1, rfl⟩ hown1 hgr1; have hex1 := Lib.hid (ext_push hext Hown.out hgr1); have Hown1 := Lib.hid hown1; clear hown1 hgr1)
            go_roundw
            case rel => exact ⟨k + 1, Hk.out, by rw [List.replicate_succ', ← List.append_assoc, List.map_append]; exact Hown1.out, hex1.out⟩
            case measure => simp [sliceLen]; omega
        · simp only [Bool.not_true, Bool.false_eq_true, if_false] at hk hfin
          obtain rfl : k = 0 := by omega
          have hcs := run_str (P := Tryd.prog) Tryd.underlying23 Tryd.underlying5 Tryd.underlying9 (sl_of_own Hown.out)
          simp only [Nat.add_zero, List.replicate_zero, List.append_nil] at hcs hfin ⊢
          clear Hown hlen hk
          go_wp2
          go_ret
          exact ⟨by show _ = Ending.returned (Str (refEnc (alph true) false l)); rw [hfin.out]; rfl, hext⟩
end Go.Proofs.YtjkbigecejogdaaDoor
