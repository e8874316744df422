/-
  The texts that every chapter uses, in one: Rsg, Rse, Rsn, Rex.
-/
import Derived.BigGuardPart
import Derived.Test.YtjkbigecejogdaaDoorRows
import Derived.Test.YtjkbigecejogdaaDoorKit
import Derived.Test.YtjkbigecejogdaaDoorRug
import Derived.Test.YtjkbigecejogdaaDoorScd
import Derived.Test.YtjkbigecejogdaaDoorPrs
import Derived.OwnWalk
import Derived.RegionTactic
import Derived.Deep.CutBlock
import Derived.Deep.DeepCutAuto
import Derived.Deep.DrawnRows
import Derived.Test.YtjkbigecejogdaaDoorAtr
namespace Go.Proofs.YtjkbigecejogdaaDoor
open Go.RowKit
set_option maxRecDepth 100000
attribute [local go_sem] Oper.semAt_some
set_option linter.unusedVariables false
set_option linter.unusedSimpArgs false
theorem accT_ge : ∀ (l : List UInt8) (r : Nat), r * 64 ^ l.length ≤ accT r l
  | [], r => by simp [accT]
  | b :: t, r => by
    have := accT_ge t (r * 64 + (b.toNat - 128))
    rw [show accT r (b :: t) = accT (r * 64 + (b.toNat - 128)) t from rfl, List.length_cons, Nat.pow_succ]
    refine Nat.le_trans ?_ this
    rw [show r * (64 ^ t.length * 64) = (r * 64) * 64 ^ t.length by rw [Nat.mul_assoc, Nat.mul_comm 64]]
    exact Nat.mul_le_mul_right _ (by omega)
/-- Bytes that begin no sign. -/
theorem rfirst_no (l : List UInt8) (h0 : 0 < l.length) (h : (128 ≤ (bt l 0).toNat ∧ (bt l 0).toNat < 194) ∨ 244 < (bt l 0).toNat) : decT l = (-1, 1) := by
  have hb := (bt l 0).toNat_lt
  unfold decT
  simp only
  rw [if_neg (by omega)]
  by_cases h1 : 192 ≤ (bt l 0).toNat ∧ (bt l 0).toNat < 224 ∧ 2 ≤ l.length
  · rw [if_pos h1]
    unfold formT
    rw [if_neg]
    intro hh
    simp only [Bool.and_eq_true, decide_eq_true_eq] at hh
    have hle := accT_le _ ((bt l 0).toNat - 192) hh.1
    have hl : ((l.drop 1).take (2 - 1)).length = 1 := by rw [List.length_take, List.length_drop]; omega
    obtain ⟨x, hx⟩ : ∃ x, (l.drop 1).take (2 - 1) = [x] := List.length_eq_one_iff.1 hl
    rw [hx] at hh
    have hx2 : tlB x = true := by simpa using hh.1
    simp [tlB] at hx2
    have : accT ((bt l 0).toNat - 192) [x] = ((bt l 0).toNat - 192) * 64 + (x.toNat - 128) := rfl
    omega
  · rw [if_neg h1, if_neg (by omega)]
    by_cases h2 : 240 ≤ (bt l 0).toNat ∧ (bt l 0).toNat < 248 ∧ 4 ≤ l.length
    · rw [if_pos h2]
      unfold formT
      rw [if_neg]
      intro hh
      simp only [Bool.and_eq_true, decide_eq_true_eq] at hh
      have hge := accT_ge ((l.drop 1).take (4 - 1)) ((bt l 0).toNat - 240)
      rw [show ((l.drop 1).take (4 - 1)).length = 3 by rw [List.length_take, List.length_drop]; omega] at hge
      have := hh.2.2
      generalize accT ((bt l 0).toNat - 240) ((l.drop 1).take (4 - 1)) = R at *
      simp [sgB] at this
      omega
    · rw [if_neg h2]
/-! ### Signs -/
@[reducible] def sgC (p : Nat × Int) : List Value := [.int .i64 (p.1 : Int), .int .i64 p.2]
def sgA (l : List UInt8) (k : Nat) : Nat × Int := (posT l k, runT l k)
def sgL (l : List UInt8) (n : Nat) : List (Nat × Int) := (List.range n).map (sgA l)
theorem sgL_snoc (l : List UInt8) (k : Nat) : sgL l (k + 1) = sgL l k ++ [sgA l k] := by simp [sgL, List.range_succ]
theorem sgL_len (l : List UInt8) (k : Nat) : (sgL l k).length = k := by simp [sgL]
theorem sgC_len (p : Nat × Int) : (sgC p).length = 2 := rfl
/-! ### Value -/
def posB (r : Int) : Bool := decide (0 < r) && (r != 44)
/-- Is it a value, as the document has it? -/
def valR (l : List UInt8) : Bool := (sgL l (numT l)).all (fun p => posB p.2) && decide (0 < l.length)
theorem formT_ok (d : List UInt8) (n lead least : Nat) (h1 : 192 ≤ (bt d 0).toNat) (h3 : 128 ≤ least) (hn : 1 ≤ n) (hl : n ≤ d.length) :
    (((formT d n lead least).1 != -1) && (d.take (formT d n lead least).2).all okC) = posB (formT d n lead least).1 := by
  unfold formT
  split
  · rename_i h
    simp only [Bool.and_eq_true, decide_eq_true_eq] at h
    have hd : d.take n = bt d 0 :: (d.drop 1).take (n - 1) := by
      match d, n, hl, hn with
      | c :: r, m + 1, _, _ => simp [bt]
    have ho : (d.take n).all okC = true := by
      rw [hd, List.all_cons, Bool.and_eq_true]
      refine ⟨by simp [okC]; omega, List.all_eq_true.2 fun x hx => ?_⟩
      have := List.all_eq_true.1 h.1 x hx
      simp [tlB] at this
      simp [okC]; omega
    simp only [ho, posB]
    have hge := h.2.1
    generalize accT ((bt d 0).toNat - lead) ((d.drop 1).take (n - 1)) = R at *
    have e1 : ((R : Int) != -1) = true := by simp <;> omega
    have e2 : decide (0 < (R : Int)) = true := by simp <;> omega
    have e3 : ((R : Int) != 44) = true := by simp <;> omega
    rw [e1, e2, e3]
  · rfl
theorem decT_ok (d : List UInt8) (h0 : 0 < d.length) : (((decT d).1 != -1) && (d.take (decT d).2).all okC) = posB (decT d).1 := by
  unfold decT
  simp only
  split
  · rename_i h
    match d, h0 with
    | c :: r, _ =>
      simp only [bt, List.getD_cons_zero, List.take_succ_cons, List.take_zero, List.all_cons, List.all_nil, Bool.and_true, okC, posB]
      have e1 : ((c.toNat : Int) != -1) = true := by simp <;> omega
      have q1 : decide (0 < (c.toNat : Int)) = (c.toNat != 0) := by rw [Bool.eq_iff_iff]; simp <;> omega
      have q2 : ((c.toNat : Int) != 44) = (c.toNat != 44) := by rw [Bool.eq_iff_iff]; simp <;> omega
      rw [e1, Bool.true_and, q1, q2]
  · split
    · rename_i h; exact formT_ok d 2 _ _ (by omega) (by omega) (by omega) h.2.2
    · split
      · rename_i h; exact formT_ok d 3 _ _ (by omega) (by omega) (by omega) h.2.2
      · split
        · rename_i h; exact formT_ok d 4 _ _ (by omega) (by omega) (by omega) h.2.2
        · rfl
theorem take_posT (l : List UInt8) (k : Nat) : l.take (posT l (k + 1)) = l.take (posT l k) ++ (l.drop (posT l k)).take (decT (l.drop (posT l k))).2 := by
  rw [show posT l (k + 1) = posT l k + (decT (l.drop (posT l k))).2 from rfl, List.take_add]
theorem val_upto (l : List UInt8) : ∀ k, k ≤ numT l → ((List.range k).all (fun j => runT l j != -1) && (l.take (posT l k)).all okC) = (sgL l k).all (fun p => posB p.2)
  | 0, _ => by simp [posT, sgL]
  | k + 1, h => by
    have ih := val_upto l k (by omega)
    have hp := (numT_spec l).1 k (by omega)
    have hd := decT_ok (l.drop (posT l k)) (by rw [List.length_drop]; omega)
    rw [sgL_snoc, List.all_append, ← ih, take_posT, List.all_append, List.range_succ, List.all_append]
    simp only [List.all_cons, List.all_nil, Bool.and_true, sgA, runT]
    rw [← hd]
    simp only [Bool.and_assoc]
    congr 1
    rw [Bool.and_left_comm]
theorem valR_eq (l : List UInt8) : valR l = valB l := by
  have h := val_upto l (numT l) (Nat.le_refl _)
  rw [(numT_spec l).2, List.take_length] at h
  unfold valR valB validT
  rw [← h, Bool.and_comm]
  congr 1
  cases l <;> simp
end Go.Proofs.YtjkbigecejogdaaDoor

namespace Go.Proofs.YtjkbigecejogdaaDoor
open Go.RowKit
set_option maxRecDepth 100000
attribute [local go_sem] Oper.semAt_some
set_option linter.unusedVariables false
set_option linter.unusedSimpArgs false
theorem slice_mid (l : List UInt8) (a b : Nat) (hab : a ≤ b) (hb : b ≤ l.length) (W : World) :
    (Instr.slice 9 (Str l) (some (.int .i64 (a : Int))) (some (.int .i64 (b : Int))) none).run Tryd.prog W = .ok (Str ((l.drop a).take (b - a))) W := by
  have h := run_slice_string (P := Tryd.prog) (w := W) 9 ⟨l.toArray⟩ .i64 .i64 (a : Int) (b : Int) Tryd.underlying9 (by omega) (by omega) (by rw [size_list]; omega)
  rw [h]
  simp [extract_list, List.drop_take]
theorem drop_one (l : List UInt8) (k : Nat) (h : k < l.length) : (l.drop k).take 1 = [bt l k] := by
  rw [drop_cons l k h]; rfl
set_option maxHeartbeats 1000000 in
theorem rEscape_any (l : List UInt8) (hl : l.length ≤ 10000) (w : World) :
    Calls Tryd.prog 21 #[Str l] w fun e w' => e = .returned (Str (escF l)) ∧ w' = w := by
  have hixl : ∀ i, i < l.length → ∀ W, (Instr.index 9 (Str l) (.int .i64 (i : Int))).run Tryd.prog W = .ok (Byt (bt l i)) W := fun i hi W => run_index_str Tryd.underlying9 l i _ rfl hi W
  have HI := Lib.hid hixl; clear hixl
  have HSL := Lib.hid (fun k (h : k < l.length) W => (show (Instr.slice 9 (Str l) (some (.int .i64 (k : Int))) (some (.int .i64 ((k : Int) + 1))) none).run Tryd.prog W = .ok (Str [bt l k]) W by
    have := slice_mid l k (k + 1) (by omega) (by omega) W
    rw [show k + 1 - k = 1 by omega, drop_one l k h] at this
    exact this))
  go_enter Tryd.func21, Tryd.ntmps21
  go_wp2
  go_loop [3, 4] (fun o i => ∃ k : Nat, k ≤ l.length ∧ i = .int .i64 k ∧ o = Str (escF (l.take k))) (fun _ i => l.length - (intOf i).toNat)
  case atStart => exact ⟨0, by omega, rfl, rfl⟩
  case round =>
    obtain ⟨k, hk, rfl, rfl⟩ := hrel
    by_cases h3 : k < l.length
    · have hix := HI.out k h3
      have hsl := HSL.out k h3
      have Ht := Lib.hid (show escF (l.take (k + 1)) = escF (l.take k) ++ esc1 (bt l k) by rw [take_snoc l k h3, escF_snoc])
      have hlen : (escF (l.take k)).length ≤ 40000 := by have := escF_len (l.take k); rw [List.length_take] at this; omega
      generalize bt l k = c at *
      generalize escF (l.take k) = bs at *
      by_cases h44 : c = 44
      · have he := Ht.out
        rw [show esc1 c = [61, 50, 67] by simp [esc1, h44]] at he
        have He := Lib.hid he
        subst h44
        clear he Ht
        go_wp2
        go_round
        case rel => exact ⟨k + 1, by omega, by go_num, by rw [He.out]⟩
        case measure => simp [intOf] <;> omega
      · have h44n : ((c.toNat : Int) == 44) = false := by
          have : c.toNat ≠ 44 := fun h => h44 (UInt8.toNat_inj.1 h)
          simp; omega
        by_cases h61 : c = 61
        · have he := Ht.out
          rw [show esc1 c = [61, 51, 68] by simp [esc1, h61]] at he
          have He := Lib.hid he
          subst h61
          clear he Ht
          go_wp2
          go_round
          case rel => exact ⟨k + 1, by omega, by go_num, by rw [He.out]⟩
          case measure => simp [intOf] <;> omega
        · have h61n : ((c.toNat : Int) == 61) = false := by
            have : c.toNat ≠ 61 := fun h => h61 (UInt8.toNat_inj.1 h)
            simp; omega
          have he := Ht.out
          rw [show esc1 c = [c] by simp [esc1, h44, h61]] at he
          have He := Lib.hid he
          clear he Ht h44 h61
          go_wp2
          go_round
          case rel => exact ⟨k + 1, by omega, by go_num, by rw [He.out]⟩
          case measure => simp [intOf] <;> omega
    · obtain rfl : k = l.length := by omega
      rw [List.take_length]
      go_wp2
      go_ret
      exact ⟨rfl, rfl⟩
end Go.Proofs.YtjkbigecejogdaaDoor

namespace Go.Proofs.YtjkbigecejogdaaDoor
open Go.RowKit
set_option maxRecDepth 100000
attribute [local go_sem] Oper.semAt_some
set_option linter.unusedVariables false
set_option linter.unusedSimpArgs false
theorem letB_n : ∀ n : Nat, n < 256 → letB (UInt8.ofNat n) = ((decide (97 ≤ n) && decide (n ≤ 122)) || (decide (65 ≤ n) && decide (n ≤ 90))) := by decide +kernel
theorem letB_eq (c : UInt8) : letB c = ((decide (97 ≤ c.toNat) && decide (c.toNat ≤ 122)) || (decide (65 ≤ c.toNat) && decide (c.toNat ≤ 90))) := by
  have := letB_n c.toNat c.toNat_lt
  rwa [UInt8.ofNat_toNat] at this
/-- What stands behind a beginning of two bytes. -/
def beh (s : List UInt8) (a b : UInt8) : List UInt8 × Bool := if s.take 2 = [a, b] then (s.drop 2, true) else ([], false)
/-- n, y or p; none: it is none. -/
def rflF (s : List UInt8) : List UInt8 := if (flF s).2 then (flF s).1 else []
theorem flC_eq (c : UInt8) : flC c = (letB c || ((decide (48 ≤ c.toNat) && decide (c.toNat ≤ 57)) || ((c.toNat == 46) || (c.toNat == 45)))) := rfl
theorem hasP2 (s : List UInt8) (a b : UInt8) : Lib.hasPrefix s [a, b] = decide (s.take 2 = [a, b]) := by
  match s with
  | [] => simp [Lib.hasPrefix]
  | [x] =>
    have : Lib.hasPrefix [x] [a, b] = ((a == x) && false) := rfl
    rw [this]; simp
  | x :: y :: t =>
    have : Lib.hasPrefix (x :: y :: t) [a, b] = ((a == x) && ((b == y) && true)) := rfl
    rw [this, Bool.eq_iff_iff]
    simp only [Bool.and_eq_true, beq_iff_eq, and_true, decide_eq_true_eq, List.take_succ_cons, List.take_zero, List.cons.injEq]
    constructor
    · rintro ⟨rfl, rfl⟩; exact ⟨rfl, rfl⟩
    · rintro ⟨rfl, rfl⟩; exact ⟨rfl, rfl⟩
theorem trimP2 (s : List UInt8) (a b : UInt8) : Lib.trimPrefix s [a, b] = if s.take 2 = [a, b] then s.drop 2 else s := by
  unfold Lib.trimPrefix
  rw [hasP2]
  by_cases h : s.take 2 = [a, b] <;> simp [h]
/-- Of what begins with p=: is the rest letters, digits, dots and dashes? -/
def flR (s : List UInt8) : Bool := decide (3 ≤ s.length) && (decide (s.take 2 = [112, 61]) && (s.drop 2).all flC)
theorem flF_long (s : List UInt8) (h1 : s ≠ [110]) (h2 : s ≠ [121]) : rflF s = if flR s then [112] else [] := by
  have hf : flF s = ([112], (Lib.hasPrefix s [112, 61] && (Lib.trimPrefix s [112, 61]).all flC) && decide (Lib.trimPrefix s [112, 61] ≠ [])) := by
    unfold flF
    rw [if_neg]
    rintro (h | h)
    · exact h1 h
    · exact h2 h
  unfold rflF flR
  rw [hf, hasP2, trimP2]
  by_cases hp : s.take 2 = [112, 61]
  · have hl : 2 ≤ s.length := by have := congrArg List.length hp; rw [List.length_take] at this; simp at this; omega
    have hd : (decide (s.drop 2 ≠ [])) = decide (3 ≤ s.length) := by
      match s, hl with
      | a :: b :: t, _ => cases t <;> simp
    rw [decide_eq_true hp, if_pos hp, hd]
    simp only [Bool.true_and]
    rw [Bool.and_comm]
  · rw [decide_eq_false hp]; simp
/-- Of two pieces: the flag, who; whether they are. -/
def rhdF (one two : List UInt8) : List UInt8 × List UInt8 × Bool :=
  if rflF one = [] then ([], [], false) else if two = [] then (rflF one, [], true)
  else (rflF one, (unV (beh two 97 61).1).1, (beh two 97 61).2 && escB (beh two 97 61).1)
theorem beh_len (s : List UInt8) (a b : UInt8) : (beh s a b).1.length ≤ s.length := by unfold beh; split <;> simp
end Go.Proofs.YtjkbigecejogdaaDoor

namespace Go.Proofs.YtjkbigecejogdaaDoor
open Go.RowKit
set_option maxRecDepth 100000
attribute [local go_sem] Oper.semAt_some
set_option linter.unusedVariables false
set_option linter.unusedSimpArgs false
/-- Is a piece an extension? -/
def okE (p : List UInt8) : Bool := isAt p && (letB (bt p 0) && valB (p.drop 2))
def mB (p : List UInt8) : Bool := bt p 0 == 109
def extsV (l : List (List UInt8)) : List Pr × Bool × Bool := if l.all okE = true then (l.map atPr, true, l.any mB) else ([], false, false)
theorem rowC_nil {α : Type} (z : Nat) (f : α → List Value) (W : World) : RowC z f W (.slice none 0 0) [] := ⟨none, 0, rfl, .inl ⟨rfl, rfl⟩, Nat.le_refl _, by simp [maxLen], fun h => absurd rfl h⟩
end Go.Proofs.YtjkbigecejogdaaDoor
