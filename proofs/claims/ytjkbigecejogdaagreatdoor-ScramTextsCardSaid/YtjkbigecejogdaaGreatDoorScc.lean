/-
 The texts that every chapter uses, in one: Rsg, Rse, Rsn, Rex.
-/
import Derived.BigGuardPart
import Derived.Test.YtjkbigecejogdaaGreatDoorRows
import Derived.Test.YtjkbigecejogdaaGreatDoorKit
import Derived.Test.YtjkbigecejogdaaGreatDoorRug
import Derived.Test.YtjkbigecejogdaaGreatDoorScd
import Derived.Test.YtjkbigecejogdaaGreatDoorPrs
import Derived.OwnWalk
import Derived.RegionTactic
import Derived.Deep.CutBlock
import Derived.Deep.DeepCutAuto
import Derived.Deep.DrawnRows
import Derived.Test.YtjkbigecejogdaaGreatDoorAtr
namespace Go.Proofs.YtjkbigecejogdaaGreatDoor
open Go.RowKit
set_option maxRecDepth 100000
attribute [local go_sem] Oper.semAt_some
set_option linter.unusedVariables false
set_option linter.unusedSimpArgs false
theorem rtail4_any (c : UInt8) (w : World) : Calls Tryz.prog 128 #[Byt c] w fun e w' => e = .returned (.bool (tlB c)) ∧ w' = w := by
 have hb := c.toNat_lt
 by_cases h1 : 128 ≤ c.toNat
 ·have g1 : (128 : Int) ≤ (c.toNat : Int) := by omega
  by_cases h2 : c.toNat < 192
  ·have g2 : (c.toNat : Int) ≤ 191 := by omega
   have HR := Lib.hid (show tlB c = true by simp [tlB, h1, h2])
   rw [HR.out]
   clear h1 h2
   go_enter Tryz.func128, Tryz.ntmps128
   go_wp2
   go_ret
   exact ⟨rfl, rfl⟩
  ·have g2 : ¬ (c.toNat : Int) ≤ 191 := by omega
   have HR := Lib.hid (show tlB c = false by simp [tlB, h2])
   rw [HR.out]
   clear h1 h2
   go_enter Tryz.func128, Tryz.ntmps128
   go_wp2
   go_ret
   exact ⟨rfl, rfl⟩
 ·have g1 : ¬ (128 : Int) ≤ (c.toNat : Int) := by omega
  have HR := Lib.hid (show tlB c = false by simp [tlB, h1])
  rw [HR.out]
  clear h1
  go_enter Tryz.func128, Tryz.ntmps128
  go_wp2
  go_ret
  exact ⟨rfl, rfl⟩
theorem accT_ge : ∀ (l : List UInt8) (r : Nat), r * 64 ^ l.length ≤ accT r l
 | [], r => by simp [accT]
 | b :: t, r => by
   have := accT_ge t (r * 64 + (b.toNat - 128))
   rw [show accT r (b :: t) = accT (r * 64 + (b.toNat - 128)) t from rfl, List.length_cons, Nat.pow_succ]
   refine Nat.le_trans ?_ this
   rw [show r * (64 ^ t.length * 64) = (r * 64) * 64 ^ t.length by rw [Nat.mul_assoc, Nat.mul_comm 64]]
   exact Nat.mul_le_mul_right _ (by omega)
abbrev FirstP (l : List UInt8) (w : World) : Prop := Calls Tryz.prog 107 #[Str l] w fun e w' => e = .returned (.tuple #[.int .i64 (decT l).1, .int .i64 ((decT l).2 : Int)]) ∧ w' = w
theorem rfirst_no (l : List UInt8) (h0 : 0 < l.length) (h : (128 ≤ (bt l 0).toNat ∧ (bt l 0).toNat < 194) ∨ 244 < (bt l 0).toNat) : decT l = (-1, 1) := by
 have hb := (bt l 0).toNat_lt
 unfold decT
 simp only
 rw [if_neg (by omega)]
 by_cases h1 : 192 ≤ (bt l 0).toNat ∧ (bt l 0).toNat < 224 ∧ 2 ≤ l.length
 ·rw [if_pos h1]
  unfold formT
  rw [if_neg]
  intro hh
  simp only [Bool.and_eq_true, decide_eq_true_eq] at hh
  have hle := accT_le _ ((bt l 0).toNat - 192) hh.1
  have hl : ((l.drop 1).take (2 - 1)).length = 1 := by rw [List.length_take, List.length_drop]; omega
  obtain ⟨x, hx⟩ : ∃ x, (l.drop 1).take (2 - 1) = [x] := List.length_eq_one_iff.1 hl
  rw [hx] at hh
  have hx2 : tlB x = true := by simpa using hh.1
  simp [tlB] at hx2
  have : accT ((bt l 0).toNat - 192) [x] = ((bt l 0).toNat - 192) * 64 + (x.toNat - 128) := rfl
  omega
 ·rw [if_neg h1, if_neg (by omega)]
  by_cases h2 : 240 ≤ (bt l 0).toNat ∧ (bt l 0).toNat < 248 ∧ 4 ≤ l.length
  ·rw [if_pos h2]
   unfold formT
   rw [if_neg]
   intro hh
   simp only [Bool.and_eq_true, decide_eq_true_eq] at hh
   have hge := accT_ge ((l.drop 1).take (4 - 1)) ((bt l 0).toNat - 240)
   rw [show ((l.drop 1).take (4 - 1)).length = 3 by rw [List.length_take, List.length_drop]; omega] at hge
   have := hh.2.2
   generalize accT ((bt l 0).toNat - 240) ((l.drop 1).take (4 - 1)) = R at *
   simp [sgB] at this
   omega
  ·rw [if_neg h2]
set_option maxHeartbeats 4000000 in
theorem rfirst_2 (l : List UInt8) (h0 : 0 < l.length) (hl : l.length ≤ 100000) (h1 : 194 ≤ (bt l 0).toNat) (h2 : (bt l 0).toNat ≤ 223) (w : World) : FirstP l w := by
 have hix : ∀ W, (Instr.index 9 (Str l) (.int .i64 0)).run Tryz.prog W = .ok (Byt (bt l 0)) W := fun W => run_index_str Tryz.underlying9 l 0 _ rfl h0 W
 have hixl : ∀ i, i < l.length → ∀ W, (Instr.index 9 (Str l) (.int .i64 (i : Int))).run Tryz.prog W = .ok (Byt (bt l i)) W := fun i hi W => run_index_str Tryz.underlying9 l i _ rfl hi W
 have HI := Lib.hid hixl
 unfold FirstP
 by_cases hn : 2 ≤ l.length
 ·have hlen : decide ((l.length : Int) < 2) = false := by simp; omega
  obtain ⟨dt, hdt⟩ : ∃ dt, decT l = dt := ⟨_, rfl⟩
  have hdf : decT l = formT l 2 192 128 := by
   unfold decT; simp only
   repeat (first | rw [if_pos (by omega)] | rw [if_neg (by omega)])
  have HF := Lib.hid (show dt = if ((l.drop 1).take (2 - 1)).all tlB && (decide (128 ≤ accT ((bt l 0).toNat - 192) ((l.drop 1).take (2 - 1))) && sgB (accT ((bt l 0).toNat - 192) ((l.drop 1).take (2 - 1)))) then (((accT ((bt l 0).toNat - 192) ((l.drop 1).take (2 - 1)) : Nat) : Int), 2) else (-1, 1) by rw [← hdt, hdf]; rfl)
  rw [hdt]
  have hsn : ∀ q, 1 ≤ q → q < l.length → (l.drop 1).take (q + 1 - 1) = (l.drop 1).take (q - 1) ++ [bt l q] := fun q => drop_take_snoc l q
  have hme : ∀ q, 1 ≤ q → q < 2 → q < l.length → bt l q ∈ (l.drop 1).take (2 - 1) := fun q h1 h2 => drop_take_mem l q 2 h1 h2
  have hdl : (l.drop 1).length + 1 = l.length := by rw [List.length_drop]; omega
  generalize l.drop 1 = dl at *
  generalize bt l 0 = c at *
  have HSN := Lib.hid hsn; have HME := Lib.hid hme
  clear hsn hme hdt hdf hixl
  have g1 : ¬ (c.toNat : Int) < 128 := by omega
  have g2 : (194 : Int) ≤ (c.toNat : Int) := by omega
  have g3 : (224 : Int) ≤ (c.toNat : Int) ∨ True := .inr trivial
  have gc : (c.toNat : Int) - 192 = ((c.toNat - 192 : Nat) : Int) := by omega
  have e1 : decide ((c.toNat : Int) ≤ 223) = decide (2 = 2) := by by_cases h : (c.toNat : Int) ≤ 223 <;> simp [h] <;> omega
  have e2 : decide ((224 : Int) ≤ (c.toNat : Int)) = decide (2 < 2) := by by_cases h : (224 : Int) ≤ (c.toNat : Int) <;> simp [h] <;> omega
  have e3 : decide ((c.toNat : Int) ≤ 239) = decide (2 < 4) := by by_cases h : (c.toNat : Int) ≤ 239 <;> simp [h] <;> omega
  have e4 : decide ((240 : Int) ≤ (c.toNat : Int)) = decide (3 < 2) := by by_cases h : (240 : Int) ≤ (c.toNat : Int) <;> simp [h] <;> omega
  have e5 : (c.toNat : Int) ≤ 244 := by omega
  simp only [decide_true, decide_false, Nat.lt_irrefl, Nat.reduceLT, Nat.reduceEqDiff, decide_eq_true_eq, decide_eq_false_iff_not] at e1 e2 e3 e4
  go_enter Tryz.func107, Tryz.ntmps107
  go_wp2
  go_loop [6, 7] (fun r i => ∃ q : Nat, 1 ≤ q ∧ q ≤ 2 ∧ i = .int .i64 q ∧ r = .int .i64 (accT (c.toNat - 192) (dl.take (q - 1)) : Nat) ∧ (dl.take (q - 1)).all tlB = true) (fun r i => 2 - (intOf i).toNat)
  case atStart => exact ⟨1, by omega, by omega, rfl, by simp [accT], by simp⟩
  case round =>
   obtain ⟨q, hq1, hqn, rfl, rfl, hall⟩ := hrel
   have hR := accT_le (dl.take (q - 1)) (c.toNat - 192) hall
   have hR2 : 64 ^ (dl.take (q - 1)).length ≤ 64 ^ (2 - 1) := Nat.pow_le_pow_right (by omega) (by rw [List.length_take]; omega)
   have hR3 : (c.toNat - 192 + 1) * 64 ^ (dl.take (q - 1)).length ≤ 32 * 64 ^ (2 - 1) := Nat.mul_le_mul (by omega) hR2
   have hR4 : accT (c.toNat - 192) (dl.take (q - 1)) ≤ 2097152 := by omega
   have hRm : q = 2 → accT (c.toNat - 192) (dl.take (q - 1)) ≤ 32 * 64 ^ (2 - 1) := fun _ => by omega
   clear hR hR2 hR3 g1 g2 g3 e1 e2 e3 e4 e5
   by_cases hqlt : q < 2
   ·have hix2 := HI.out q (by omega)
    have HTS := Lib.hid (HSN.out q hq1 (by omega))
    have HMEM := Lib.hid (HME.out q hq1 hqlt (by omega))
    have HRS := Lib.hid (accT_snoc (dl.take (q - 1)) (c.toNat - 192) (bt l q))
    have hq3 : (q : Int) < 2 := by omega
    have HALL := Lib.hid hall
    clear hall hRm
    generalize dl.take (q - 1) = ts at *
    generalize accT (c.toNat - 192) ts = R at *
    have HT := Lib.hid (fun W => rtail4_any (bt l q) W)
    have hb256 : (bt l q).toNat < 256 := (bt l q).toNat_lt
    generalize bt l q = b at *
    cases htb : tlB b with
    | true =>
      rw [htb] at HT
      have ht : 128 ≤ b.toNat ∧ b.toNat < 192 := by simpa [tlB] using htb
      have HTB := Lib.hid htb
      have hsb : (b.toNat : Int) - 128 = ((b.toNat - 128 : Nat) : Int) := by omega
      have hs64 : b.toNat - 128 < 64 := by omega
      clear htb
      go_wp2_with (go_at_call 128; refine (HT.out _).mono ?_; rintro e W1 ⟨he1, hw1⟩; subst he1; subst W1)
      refine ⟨⟨q + 1, by omega, by omega, by go_num, ?_, ?_⟩, ?_⟩
      ·rw [HTS.out, HRS.out]; go_num
      ·rw [HTS.out, List.all_append, HALL.out]; simp [HTB.out]
      ·simp [intOf] <;> omega
    | false =>
      rw [htb] at HT
      have HDF := Lib.hid (show dt = (-1, 1) by
       rw [HF.out, if_neg]
       intro hh
       simp only [Bool.and_eq_true] at hh
       rw [List.all_eq_true.1 hh.1 b HMEM.out] at htb; cases htb)
      clear htb
      have hd9 := HDF.out
      subst hd9
      go_wp2_with (go_at_call 128; refine (HT.out _).mono ?_; rintro e W1 ⟨he1, hw1⟩; subst he1; subst W1)
      go_ret2
      exact ⟨rfl, rfl⟩
   ·obtain rfl : q = 2 := by omega
    have hge := accT_ge (dl.take (2 - 1)) (c.toNat - 192)
    rw [show (dl.take (2 - 1)).length = 2 - 1 by rw [List.length_take]; omega] at hge
    have hRm := hRm rfl
    have hff := HF.out
    rw [hall, Bool.true_and] at hff
    generalize accT (c.toNat - 192) (dl.take (2 - 1)) = R at *
    have HFF := Lib.hid hff
    clear hall hff HF
    by_cases hg : 128 ≤ R ∧ R ≤ 1114111 ∧ (R < 55296 ∨ 57343 < R)
    ·have HD := Lib.hid (show dt = ((R : Int), 2) by rw [HFF.out, if_pos]; simp [sgB]; omega)
     have hd9 := HD.out
     subst hd9
     have u1 : ¬ (R : Int) < 128 := by omega
     have s4 : ¬ (1114111 : Int) < (R : Int) := by omega
     by_cases h5 : R < 55296
     ·have s2 : ¬ (55296 : Int) ≤ (R : Int) := by omega
      clear hg h5
      go_wp2
      go_ret2
      exact ⟨rfl, rfl⟩
     ·have s2 : (55296 : Int) ≤ (R : Int) := by omega
      have s3 : ¬ (R : Int) ≤ 57343 := by omega
      clear hg h5
      go_wp2
      go_ret2
      exact ⟨rfl, rfl⟩
    ·have HD := Lib.hid (show dt = (-1, 1) by rw [HFF.out, if_neg]; simp [sgB]; omega)
     have hd9 := HD.out
     subst hd9
     by_cases h1 : R < 128
     ·have u1 : (R : Int) < 128 := by omega
      first
      | (exfalso; omega)
      | (clear hg h1
         go_wp2
         go_ret2
         exact ⟨rfl, rfl⟩)
     ·have u1 : ¬ (R : Int) < 128 := by omega
      by_cases h2 : 1114111 < R
      ·have s4 : (1114111 : Int) < (R : Int) := by omega
       have s2 : (55296 : Int) ≤ (R : Int) := by omega
       have s3 : ¬ (R : Int) ≤ 57343 := by omega
       first
       | (exfalso; omega)
       | (clear hg h1 h2
          go_wp2
          go_ret2
          exact ⟨rfl, rfl⟩)
      ·have s2 : (55296 : Int) ≤ (R : Int) := by omega
       have s3 : (R : Int) ≤ 57343 := by omega
       first
       | (exfalso; omega)
       | (clear hg h1 h2
          go_wp2
          go_ret2
          exact ⟨rfl, rfl⟩)
 ·have hlen : decide ((l.length : Int) < 2) = true := by simp; omega
  have hdf : decT l = (-1, 1) := by
   unfold decT; simp only
   repeat (first | rw [if_pos (by omega)] | rw [if_neg (by omega)])
  rw [hdf]
  clear hdf hixl
  generalize bt l 0 = c at *
  have g1 : ¬ (c.toNat : Int) < 128 := by omega
  have g2 : (194 : Int) ≤ (c.toNat : Int) := by omega
  have e1 : decide ((c.toNat : Int) ≤ 223) = decide (2 = 2) := by by_cases h : (c.toNat : Int) ≤ 223 <;> simp [h] <;> omega
  have e2 : decide ((224 : Int) ≤ (c.toNat : Int)) = decide (2 < 2) := by by_cases h : (224 : Int) ≤ (c.toNat : Int) <;> simp [h] <;> omega
  have e3 : decide ((c.toNat : Int) ≤ 239) = decide (2 < 4) := by by_cases h : (c.toNat : Int) ≤ 239 <;> simp [h] <;> omega
  have e4 : decide ((240 : Int) ≤ (c.toNat : Int)) = decide (3 < 2) := by by_cases h : (240 : Int) ≤ (c.toNat : Int) <;> simp [h] <;> omega
  have e5 : (c.toNat : Int) ≤ 244 := by omega
  simp only [decide_true, decide_false, Nat.lt_irrefl, Nat.reduceLT, Nat.reduceEqDiff, decide_eq_true_eq, decide_eq_false_iff_not] at e1 e2 e3 e4
  clear h1 h2
  go_enter Tryz.func107, Tryz.ntmps107
  go_wp2
  go_ret2
  exact ⟨rfl, rfl⟩
set_option maxHeartbeats 4000000 in
theorem rfirst_3 (l : List UInt8) (h0 : 0 < l.length) (hl : l.length ≤ 100000) (h1 : 224 ≤ (bt l 0).toNat) (h2 : (bt l 0).toNat ≤ 239) (w : World) : FirstP l w := by
 have hix : ∀ W, (Instr.index 9 (Str l) (.int .i64 0)).run Tryz.prog W = .ok (Byt (bt l 0)) W := fun W => run_index_str Tryz.underlying9 l 0 _ rfl h0 W
 have hixl : ∀ i, i < l.length → ∀ W, (Instr.index 9 (Str l) (.int .i64 (i : Int))).run Tryz.prog W = .ok (Byt (bt l i)) W := fun i hi W => run_index_str Tryz.underlying9 l i _ rfl hi W
 have HI := Lib.hid hixl
 unfold FirstP
 by_cases hn : 3 ≤ l.length
 ·have hlen : decide ((l.length : Int) < 3) = false := by simp; omega
  obtain ⟨dt, hdt⟩ : ∃ dt, decT l = dt := ⟨_, rfl⟩
  have hdf : decT l = formT l 3 224 2048 := by
   unfold decT; simp only
   repeat (first | rw [if_pos (by omega)] | rw [if_neg (by omega)])
  have HF := Lib.hid (show dt = if ((l.drop 1).take (3 - 1)).all tlB && (decide (2048 ≤ accT ((bt l 0).toNat - 224) ((l.drop 1).take (3 - 1))) && sgB (accT ((bt l 0).toNat - 224) ((l.drop 1).take (3 - 1)))) then (((accT ((bt l 0).toNat - 224) ((l.drop 1).take (3 - 1)) : Nat) : Int), 3) else (-1, 1) by rw [← hdt, hdf]; rfl)
  rw [hdt]
  have hsn : ∀ q, 1 ≤ q → q < l.length → (l.drop 1).take (q + 1 - 1) = (l.drop 1).take (q - 1) ++ [bt l q] := fun q => drop_take_snoc l q
  have hme : ∀ q, 1 ≤ q → q < 3 → q < l.length → bt l q ∈ (l.drop 1).take (3 - 1) := fun q h1 h2 => drop_take_mem l q 3 h1 h2
  have hdl : (l.drop 1).length + 1 = l.length := by rw [List.length_drop]; omega
  generalize l.drop 1 = dl at *
  generalize bt l 0 = c at *
  have HSN := Lib.hid hsn; have HME := Lib.hid hme
  clear hsn hme hdt hdf hixl
  have g1 : ¬ (c.toNat : Int) < 128 := by omega
  have g2 : (194 : Int) ≤ (c.toNat : Int) := by omega
  have g3 : (224 : Int) ≤ (c.toNat : Int) ∨ True := .inr trivial
  have gc : (c.toNat : Int) - 224 = ((c.toNat - 224 : Nat) : Int) := by omega
  have e1 : decide ((c.toNat : Int) ≤ 223) = decide (3 = 2) := by by_cases h : (c.toNat : Int) ≤ 223 <;> simp [h] <;> omega
  have e2 : decide ((224 : Int) ≤ (c.toNat : Int)) = decide (2 < 3) := by by_cases h : (224 : Int) ≤ (c.toNat : Int) <;> simp [h] <;> omega
  have e3 : decide ((c.toNat : Int) ≤ 239) = decide (3 < 4) := by by_cases h : (c.toNat : Int) ≤ 239 <;> simp [h] <;> omega
  have e4 : decide ((240 : Int) ≤ (c.toNat : Int)) = decide (3 < 3) := by by_cases h : (240 : Int) ≤ (c.toNat : Int) <;> simp [h] <;> omega
  have e5 : (c.toNat : Int) ≤ 244 := by omega
  simp only [decide_true, decide_false, Nat.lt_irrefl, Nat.reduceLT, Nat.reduceEqDiff, decide_eq_true_eq, decide_eq_false_iff_not] at e1 e2 e3 e4
  go_enter Tryz.func107, Tryz.ntmps107
  go_wp2
  go_loop [6, 7] (fun r i => ∃ q : Nat, 1 ≤ q ∧ q ≤ 3 ∧ i = .int .i64 q ∧ r = .int .i64 (accT (c.toNat - 224) (dl.take (q - 1)) : Nat) ∧ (dl.take (q - 1)).all tlB = true) (fun r i => 3 - (intOf i).toNat)
  case atStart => exact ⟨1, by omega, by omega, rfl, by simp [accT], by simp⟩
  case round =>
   obtain ⟨q, hq1, hqn, rfl, rfl, hall⟩ := hrel
   have hR := accT_le (dl.take (q - 1)) (c.toNat - 224) hall
   have hR2 : 64 ^ (dl.take (q - 1)).length ≤ 64 ^ (3 - 1) := Nat.pow_le_pow_right (by omega) (by rw [List.length_take]; omega)
   have hR3 : (c.toNat - 224 + 1) * 64 ^ (dl.take (q - 1)).length ≤ 16 * 64 ^ (3 - 1) := Nat.mul_le_mul (by omega) hR2
   have hR4 : accT (c.toNat - 224) (dl.take (q - 1)) ≤ 2097152 := by omega
   have hRm : q = 3 → accT (c.toNat - 224) (dl.take (q - 1)) ≤ 16 * 64 ^ (3 - 1) := fun _ => by omega
   clear hR hR2 hR3 g1 g2 g3 e1 e2 e3 e4 e5
   by_cases hqlt : q < 3
   ·have hix2 := HI.out q (by omega)
    have HTS := Lib.hid (HSN.out q hq1 (by omega))
    have HMEM := Lib.hid (HME.out q hq1 hqlt (by omega))
    have HRS := Lib.hid (accT_snoc (dl.take (q - 1)) (c.toNat - 224) (bt l q))
    have hq3 : (q : Int) < 3 := by omega
    have HALL := Lib.hid hall
    clear hall hRm
    generalize dl.take (q - 1) = ts at *
    generalize accT (c.toNat - 224) ts = R at *
    have HT := Lib.hid (fun W => rtail4_any (bt l q) W)
    have hb256 : (bt l q).toNat < 256 := (bt l q).toNat_lt
    generalize bt l q = b at *
    cases htb : tlB b with
    | true =>
      rw [htb] at HT
      have ht : 128 ≤ b.toNat ∧ b.toNat < 192 := by simpa [tlB] using htb
      have HTB := Lib.hid htb
      have hsb : (b.toNat : Int) - 128 = ((b.toNat - 128 : Nat) : Int) := by omega
      have hs64 : b.toNat - 128 < 64 := by omega
      clear htb
      go_wp2_with (go_at_call 128; refine (HT.out _).mono ?_; rintro e W1 ⟨he1, hw1⟩; subst he1; subst W1)
      refine ⟨⟨q + 1, by omega, by omega, by go_num, ?_, ?_⟩, ?_⟩
      ·rw [HTS.out, HRS.out]; go_num
      ·rw [HTS.out, List.all_append, HALL.out]; simp [HTB.out]
      ·simp [intOf] <;> omega
    | false =>
      rw [htb] at HT
      have HDF := Lib.hid (show dt = (-1, 1) by
       rw [HF.out, if_neg]
       intro hh
       simp only [Bool.and_eq_true] at hh
       rw [List.all_eq_true.1 hh.1 b HMEM.out] at htb; cases htb)
      clear htb
      have hd9 := HDF.out
      subst hd9
      go_wp2_with (go_at_call 128; refine (HT.out _).mono ?_; rintro e W1 ⟨he1, hw1⟩; subst he1; subst W1)
      go_ret2
      exact ⟨rfl, rfl⟩
   ·obtain rfl : q = 3 := by omega
    have hge := accT_ge (dl.take (3 - 1)) (c.toNat - 224)
    rw [show (dl.take (3 - 1)).length = 3 - 1 by rw [List.length_take]; omega] at hge
    have hRm := hRm rfl
    have hff := HF.out
    rw [hall, Bool.true_and] at hff
    generalize accT (c.toNat - 224) (dl.take (3 - 1)) = R at *
    have HFF := Lib.hid hff
    clear hall hff HF
    by_cases hg : 2048 ≤ R ∧ R ≤ 1114111 ∧ (R < 55296 ∨ 57343 < R)
    ·have HD := Lib.hid (show dt = ((R : Int), 3) by rw [HFF.out, if_pos]; simp [sgB]; omega)
     have hd9 := HD.out
     subst hd9
     have u1 : ¬ (R : Int) < 2048 := by omega
     have s4 : ¬ (1114111 : Int) < (R : Int) := by omega
     by_cases h5 : R < 55296
     ·have s2 : ¬ (55296 : Int) ≤ (R : Int) := by omega
      clear hg h5
      go_wp2
      go_ret2
      exact ⟨rfl, rfl⟩
     ·have s2 : (55296 : Int) ≤ (R : Int) := by omega
      have s3 : ¬ (R : Int) ≤ 57343 := by omega
      clear hg h5
      go_wp2
      go_ret2
      exact ⟨rfl, rfl⟩
    ·have HD := Lib.hid (show dt = (-1, 1) by rw [HFF.out, if_neg]; simp [sgB]; omega)
     have hd9 := HD.out
     subst hd9
     by_cases h1 : R < 2048
     ·have u1 : (R : Int) < 2048 := by omega
      first
      | (exfalso; omega)
      | (clear hg h1
         go_wp2
         go_ret2
         exact ⟨rfl, rfl⟩)
     ·have u1 : ¬ (R : Int) < 2048 := by omega
      by_cases h2 : 1114111 < R
      ·have s4 : (1114111 : Int) < (R : Int) := by omega
       have s2 : (55296 : Int) ≤ (R : Int) := by omega
       have s3 : ¬ (R : Int) ≤ 57343 := by omega
       first
       | (exfalso; omega)
       | (clear hg h1 h2
          go_wp2
          go_ret2
          exact ⟨rfl, rfl⟩)
      ·have s2 : (55296 : Int) ≤ (R : Int) := by omega
       have s3 : (R : Int) ≤ 57343 := by omega
       first
       | (exfalso; omega)
       | (clear hg h1 h2
          go_wp2
          go_ret2
          exact ⟨rfl, rfl⟩)
 ·have hlen : decide ((l.length : Int) < 3) = true := by simp; omega
  have hdf : decT l = (-1, 1) := by
   unfold decT; simp only
   repeat (first | rw [if_pos (by omega)] | rw [if_neg (by omega)])
  rw [hdf]
  clear hdf hixl
  generalize bt l 0 = c at *
  have g1 : ¬ (c.toNat : Int) < 128 := by omega
  have g2 : (194 : Int) ≤ (c.toNat : Int) := by omega
  have e1 : decide ((c.toNat : Int) ≤ 223) = decide (3 = 2) := by by_cases h : (c.toNat : Int) ≤ 223 <;> simp [h] <;> omega
  have e2 : decide ((224 : Int) ≤ (c.toNat : Int)) = decide (2 < 3) := by by_cases h : (224 : Int) ≤ (c.toNat : Int) <;> simp [h] <;> omega
  have e3 : decide ((c.toNat : Int) ≤ 239) = decide (3 < 4) := by by_cases h : (c.toNat : Int) ≤ 239 <;> simp [h] <;> omega
  have e4 : decide ((240 : Int) ≤ (c.toNat : Int)) = decide (3 < 3) := by by_cases h : (240 : Int) ≤ (c.toNat : Int) <;> simp [h] <;> omega
  have e5 : (c.toNat : Int) ≤ 244 := by omega
  simp only [decide_true, decide_false, Nat.lt_irrefl, Nat.reduceLT, Nat.reduceEqDiff, decide_eq_true_eq, decide_eq_false_iff_not] at e1 e2 e3 e4
  clear h1 h2
  go_enter Tryz.func107, Tryz.ntmps107
  go_wp2
  go_ret2
  exact ⟨rfl, rfl⟩
set_option maxHeartbeats 4000000 in
theorem rfirst_4 (l : List UInt8) (h0 : 0 < l.length) (hl : l.length ≤ 100000) (h1 : 240 ≤ (bt l 0).toNat) (h2 : (bt l 0).toNat ≤ 244) (w : World) : FirstP l w := by
 have hix : ∀ W, (Instr.index 9 (Str l) (.int .i64 0)).run Tryz.prog W = .ok (Byt (bt l 0)) W := fun W => run_index_str Tryz.underlying9 l 0 _ rfl h0 W
 have hixl : ∀ i, i < l.length → ∀ W, (Instr.index 9 (Str l) (.int .i64 (i : Int))).run Tryz.prog W = .ok (Byt (bt l i)) W := fun i hi W => run_index_str Tryz.underlying9 l i _ rfl hi W
 have HI := Lib.hid hixl
 unfold FirstP
 by_cases hn : 4 ≤ l.length
 ·have hlen : decide ((l.length : Int) < 4) = false := by simp; omega
  obtain ⟨dt, hdt⟩ : ∃ dt, decT l = dt := ⟨_, rfl⟩
  have hdf : decT l = formT l 4 240 65536 := by
   unfold decT; simp only
   repeat (first | rw [if_pos (by omega)] | rw [if_neg (by omega)])
  have HF := Lib.hid (show dt = if ((l.drop 1).take (4 - 1)).all tlB && (decide (65536 ≤ accT ((bt l 0).toNat - 240) ((l.drop 1).take (4 - 1))) && sgB (accT ((bt l 0).toNat - 240) ((l.drop 1).take (4 - 1)))) then (((accT ((bt l 0).toNat - 240) ((l.drop 1).take (4 - 1)) : Nat) : Int), 4) else (-1, 1) by rw [← hdt, hdf]; rfl)
  rw [hdt]
  have hsn : ∀ q, 1 ≤ q → q < l.length → (l.drop 1).take (q + 1 - 1) = (l.drop 1).take (q - 1) ++ [bt l q] := fun q => drop_take_snoc l q
  have hme : ∀ q, 1 ≤ q → q < 4 → q < l.length → bt l q ∈ (l.drop 1).take (4 - 1) := fun q h1 h2 => drop_take_mem l q 4 h1 h2
  have hdl : (l.drop 1).length + 1 = l.length := by rw [List.length_drop]; omega
  generalize l.drop 1 = dl at *
  generalize bt l 0 = c at *
  have HSN := Lib.hid hsn; have HME := Lib.hid hme
  clear hsn hme hdt hdf hixl
  have g1 : ¬ (c.toNat : Int) < 128 := by omega
  have g2 : (194 : Int) ≤ (c.toNat : Int) := by omega
  have g3 : (224 : Int) ≤ (c.toNat : Int) ∨ True := .inr trivial
  have gc : (c.toNat : Int) - 240 = ((c.toNat - 240 : Nat) : Int) := by omega
  have e1 : decide ((c.toNat : Int) ≤ 223) = decide (4 = 2) := by by_cases h : (c.toNat : Int) ≤ 223 <;> simp [h] <;> omega
  have e2 : decide ((224 : Int) ≤ (c.toNat : Int)) = decide (2 < 4) := by by_cases h : (224 : Int) ≤ (c.toNat : Int) <;> simp [h] <;> omega
  have e3 : decide ((c.toNat : Int) ≤ 239) = decide (4 < 4) := by by_cases h : (c.toNat : Int) ≤ 239 <;> simp [h] <;> omega
  have e4 : decide ((240 : Int) ≤ (c.toNat : Int)) = decide (3 < 4) := by by_cases h : (240 : Int) ≤ (c.toNat : Int) <;> simp [h] <;> omega
  have e5 : (c.toNat : Int) ≤ 244 := by omega
  simp only [decide_true, decide_false, Nat.lt_irrefl, Nat.reduceLT, Nat.reduceEqDiff, decide_eq_true_eq, decide_eq_false_iff_not] at e1 e2 e3 e4
  go_enter Tryz.func107, Tryz.ntmps107
  go_wp2
  go_loop [6, 7] (fun r i => ∃ q : Nat, 1 ≤ q ∧ q ≤ 4 ∧ i = .int .i64 q ∧ r = .int .i64 (accT (c.toNat - 240) (dl.take (q - 1)) : Nat) ∧ (dl.take (q - 1)).all tlB = true) (fun r i => 4 - (intOf i).toNat)
  case atStart => exact ⟨1, by omega, by omega, rfl, by simp [accT], by simp⟩
  case round =>
   obtain ⟨q, hq1, hqn, rfl, rfl, hall⟩ := hrel
   have hR := accT_le (dl.take (q - 1)) (c.toNat - 240) hall
   have hR2 : 64 ^ (dl.take (q - 1)).length ≤ 64 ^ (4 - 1) := Nat.pow_le_pow_right (by omega) (by rw [List.length_take]; omega)
   have hR3 : (c.toNat - 240 + 1) * 64 ^ (dl.take (q - 1)).length ≤ 8 * 64 ^ (4 - 1) := Nat.mul_le_mul (by omega) hR2
   have hR4 : accT (c.toNat - 240) (dl.take (q - 1)) ≤ 2097152 := by omega
   have hRm : q = 4 → accT (c.toNat - 240) (dl.take (q - 1)) ≤ 8 * 64 ^ (4 - 1) := fun _ => by omega
   clear hR hR2 hR3 g1 g2 g3 e1 e2 e3 e4 e5
   by_cases hqlt : q < 4
   ·have hix2 := HI.out q (by omega)
    have HTS := Lib.hid (HSN.out q hq1 (by omega))
    have HMEM := Lib.hid (HME.out q hq1 hqlt (by omega))
    have HRS := Lib.hid (accT_snoc (dl.take (q - 1)) (c.toNat - 240) (bt l q))
    have hq3 : (q : Int) < 4 := by omega
    have HALL := Lib.hid hall
    clear hall hRm
    generalize dl.take (q - 1) = ts at *
    generalize accT (c.toNat - 240) ts = R at *
    have HT := Lib.hid (fun W => rtail4_any (bt l q) W)
    have hb256 : (bt l q).toNat < 256 := (bt l q).toNat_lt
    generalize bt l q = b at *
    cases htb : tlB b with
    | true =>
      rw [htb] at HT
      have ht : 128 ≤ b.toNat ∧ b.toNat < 192 := by simpa [tlB] using htb
      have HTB := Lib.hid htb
      have hsb : (b.toNat : Int) - 128 = ((b.toNat - 128 : Nat) : Int) := by omega
      have hs64 : b.toNat - 128 < 64 := by omega
      clear htb
      go_wp2_with (go_at_call 128; refine (HT.out _).mono ?_; rintro e W1 ⟨he1, hw1⟩; subst he1; subst W1)
      refine ⟨⟨q + 1, by omega, by omega, by go_num, ?_, ?_⟩, ?_⟩
      ·rw [HTS.out, HRS.out]; go_num
      ·rw [HTS.out, List.all_append, HALL.out]; simp [HTB.out]
      ·simp [intOf] <;> omega
    | false =>
      rw [htb] at HT
      have HDF := Lib.hid (show dt = (-1, 1) by
       rw [HF.out, if_neg]
       intro hh
       simp only [Bool.and_eq_true] at hh
       rw [List.all_eq_true.1 hh.1 b HMEM.out] at htb; cases htb)
      clear htb
      have hd9 := HDF.out
      subst hd9
      go_wp2_with (go_at_call 128; refine (HT.out _).mono ?_; rintro e W1 ⟨he1, hw1⟩; subst he1; subst W1)
      go_ret2
      exact ⟨rfl, rfl⟩
   ·obtain rfl : q = 4 := by omega
    have hge := accT_ge (dl.take (4 - 1)) (c.toNat - 240)
    rw [show (dl.take (4 - 1)).length = 4 - 1 by rw [List.length_take]; omega] at hge
    have hRm := hRm rfl
    have hff := HF.out
    rw [hall, Bool.true_and] at hff
    generalize accT (c.toNat - 240) (dl.take (4 - 1)) = R at *
    have HFF := Lib.hid hff
    clear hall hff HF
    by_cases hg : 65536 ≤ R ∧ R ≤ 1114111 ∧ (R < 55296 ∨ 57343 < R)
    ·have HD := Lib.hid (show dt = ((R : Int), 4) by rw [HFF.out, if_pos]; simp [sgB]; omega)
     have hd9 := HD.out
     subst hd9
     have u1 : ¬ (R : Int) < 65536 := by omega
     have s4 : ¬ (1114111 : Int) < (R : Int) := by omega
     by_cases h5 : R < 55296
     ·have s2 : ¬ (55296 : Int) ≤ (R : Int) := by omega
      clear hg h5
      go_wp2
      go_ret2
      exact ⟨rfl, rfl⟩
     ·have s2 : (55296 : Int) ≤ (R : Int) := by omega
      have s3 : ¬ (R : Int) ≤ 57343 := by omega
      clear hg h5
      go_wp2
      go_ret2
      exact ⟨rfl, rfl⟩
    ·have HD := Lib.hid (show dt = (-1, 1) by rw [HFF.out, if_neg]; simp [sgB]; omega)
     have hd9 := HD.out
     subst hd9
     by_cases h1 : R < 65536
     ·have u1 : (R : Int) < 65536 := by omega
      first
      | (exfalso; omega)
      | (clear hg h1
         go_wp2
         go_ret2
         exact ⟨rfl, rfl⟩)
     ·have u1 : ¬ (R : Int) < 65536 := by omega
      by_cases h2 : 1114111 < R
      ·have s4 : (1114111 : Int) < (R : Int) := by omega
       have s2 : (55296 : Int) ≤ (R : Int) := by omega
       have s3 : ¬ (R : Int) ≤ 57343 := by omega
       first
       | (exfalso; omega)
       | (clear hg h1 h2
          go_wp2
          go_ret2
          exact ⟨rfl, rfl⟩)
      ·have s2 : (55296 : Int) ≤ (R : Int) := by omega
       have s3 : (R : Int) ≤ 57343 := by omega
       first
       | (exfalso; omega)
       | (clear hg h1 h2
          go_wp2
          go_ret2
          exact ⟨rfl, rfl⟩)
 ·have hlen : decide ((l.length : Int) < 4) = true := by simp; omega
  have hdf : decT l = (-1, 1) := by
   unfold decT; simp only
   repeat (first | rw [if_pos (by omega)] | rw [if_neg (by omega)])
  rw [hdf]
  clear hdf hixl
  generalize bt l 0 = c at *
  have g1 : ¬ (c.toNat : Int) < 128 := by omega
  have g2 : (194 : Int) ≤ (c.toNat : Int) := by omega
  have e1 : decide ((c.toNat : Int) ≤ 223) = decide (4 = 2) := by by_cases h : (c.toNat : Int) ≤ 223 <;> simp [h] <;> omega
  have e2 : decide ((224 : Int) ≤ (c.toNat : Int)) = decide (2 < 4) := by by_cases h : (224 : Int) ≤ (c.toNat : Int) <;> simp [h] <;> omega
  have e3 : decide ((c.toNat : Int) ≤ 239) = decide (4 < 4) := by by_cases h : (c.toNat : Int) ≤ 239 <;> simp [h] <;> omega
  have e4 : decide ((240 : Int) ≤ (c.toNat : Int)) = decide (3 < 4) := by by_cases h : (240 : Int) ≤ (c.toNat : Int) <;> simp [h] <;> omega
  have e5 : (c.toNat : Int) ≤ 244 := by omega
  simp only [decide_true, decide_false, Nat.lt_irrefl, Nat.reduceLT, Nat.reduceEqDiff, decide_eq_true_eq, decide_eq_false_iff_not] at e1 e2 e3 e4
  clear h1 h2
  go_enter Tryz.func107, Tryz.ntmps107
  go_wp2
  go_ret2
  exact ⟨rfl, rfl⟩
theorem rfirst_any (l : List UInt8) (h0 : 0 < l.length) (hl : l.length ≤ 100000) (w : World) : FirstP l w := by
 by_cases h1 : (bt l 0).toNat < 128
 ·have hix : ∀ W, (Instr.index 9 (Str l) (.int .i64 0)).run Tryz.prog W = .ok (Byt (bt l 0)) W := fun W => run_index_str Tryz.underlying9 l 0 _ rfl h0 W
  have HD := Lib.hid (show decT l = (((bt l 0).toNat : Int), 1) by unfold decT; simp only; rw [if_pos h1])
  unfold FirstP
  rw [HD.out]
  generalize bt l 0 = c at *
  have g1 : (c.toNat : Int) < 128 := by omega
  clear h1
  go_enter Tryz.func107, Tryz.ntmps107
  go_wp2
  go_ret2
  exact ⟨rfl, rfl⟩
 by_cases h2 : 194 ≤ (bt l 0).toNat ∧ (bt l 0).toNat ≤ 244
 ·by_cases h3 : (bt l 0).toNat ≤ 223
  ·exact rfirst_2 l h0 hl h2.1 h3 w
  ·by_cases h4 : (bt l 0).toNat ≤ 239
   ·exact rfirst_3 l h0 hl (by omega) h4 w
   ·exact rfirst_4 l h0 hl (by omega) h2.2 w
 ·have hix : ∀ W, (Instr.index 9 (Str l) (.int .i64 0)).run Tryz.prog W = .ok (Byt (bt l 0)) W := fun W => run_index_str Tryz.underlying9 l 0 _ rfl h0 W
  have hb := (bt l 0).toNat_lt
  have HD := Lib.hid (rfirst_no l h0 (by omega))
  unfold FirstP
  rw [HD.out]
  generalize bt l 0 = c at *
  have g1 : ¬ (c.toNat : Int) < 128 := by omega
  by_cases h5 : c.toNat < 194
  ·have g2 : ¬ (194 : Int) ≤ (c.toNat : Int) := by omega
   have g3 : ¬ (224 : Int) ≤ (c.toNat : Int) := by omega
   have g4 : ¬ (240 : Int) ≤ (c.toNat : Int) := by omega
   clear h1 h2 h5
   go_enter Tryz.func107, Tryz.ntmps107
   go_wp2
   go_ret2
   exact ⟨rfl, rfl⟩
  ·have g2 : (194 : Int) ≤ (c.toNat : Int) := by omega
   have g3 : (224 : Int) ≤ (c.toNat : Int) := by omega
   have g4 : (240 : Int) ≤ (c.toNat : Int) := by omega
   have g5 : ¬ (c.toNat : Int) ≤ 223 := by omega
   have g6 : ¬ (c.toNat : Int) ≤ 239 := by omega
   have g7 : ¬ (c.toNat : Int) ≤ 244 := by omega
   clear h1 h2 h5
   go_enter Tryz.func107, Tryz.ntmps107
   go_wp2
   go_ret2
   exact ⟨rfl, rfl⟩
@[reducible] def sgC (p : Nat × Int) : List Value := [.int .i64 (p.1 : Int), .int .i64 p.2]
def sgA (l : List UInt8) (k : Nat) : Nat × Int := (posT l k, runT l k)
def sgL (l : List UInt8) (n : Nat) : List (Nat × Int) := (List.range n).map (sgA l)
theorem sgL_snoc (l : List UInt8) (k : Nat) : sgL l (k + 1) = sgL l k ++ [sgA l k] := by simp [sgL, List.range_succ]
theorem sgL_len (l : List UInt8) (k : Nat) : (sgL l k).length = k := by simp [sgL]
theorem sgC_len (p : Nat × Int) : (sgC p).length = 2 := rfl
theorem infoSign : (Tryz.prog.info? 125).map (fun i => (i.zero, i.size, i.bytes)) = some (some (.agg #[.int .i64 0, .int .i64 0]), 2, 16) := by kernel_rfl
set_option maxHeartbeats 1000000 in
theorem Signs_any (l : List UInt8) (hl : l.length ≤ 100000) (w : World) :
    Calls Tryz.prog 91 #[Str l] w fun e w' => ∃ v, e = .returned v ∧ w'.ownsRow w.heap.size 125 2 v (numT l) ((sgL l (numT l)).flatMap sgC) ∧ Ext w w' := by
 have HSL := Lib.hid (fun n (h : n ≤ l.length) W => slice_from l n h W)
 have hnl := numT_le l
 go_enter Tryz.func91, Tryz.ntmps91
 go_wp2
 go_loopw [3, 4] (fun v i wr => ∃ k : Nat, k ≤ numT l ∧ i = .int .i64 (posT l k : Int) ∧ Hid (wr.ownsRow w.heap.size 125 2 v k ((sgL l k).flatMap sgC)) ∧ Hid (Ext w wr)) (fun _ i _ => l.length - (intOf i).toNat)
 case atStart => exact ⟨0, by omega, rfl, Lib.hid (by simpa [sgL] using World.ownsRow_nil _ _ _ _), Lib.hid (ext_refl w)⟩
 case round =>
  obtain ⟨k, hk, rfl, HO, HX⟩ := hrel
  by_cases hlt : k < numT l
  ·have hpl := (numT_spec l).1 k hlt
   have hst := posT_step l k hpl
   have HD := Lib.hid (fun W => rfirst_any (l.drop (posT l k)) (by simp; omega) (by simp; omega) W)
   have HPS := Lib.hid (show posT l (k + 1) = posT l k + (decT (l.drop (posT l k))).2 from rfl)
   have HSN := Lib.hid (show sgL l (k + 1) = sgL l k ++ [(posT l k, (decT (l.drop (posT l k))).1)] from sgL_snoc l k)
   have hsl := HSL.out (posT l k) (by omega)
   have hpl2 : (posT l k : Int) < (l.length : Int) := by omega
   rw [HPS.out] at hst
   unfold FirstP at HD
   generalize posT l k = pk at *
   generalize (decT (l.drop pk)).1 = rk at *
   generalize (decT (l.drop pk)).2 = nk at *
   generalize l.drop pk = dr at *
   obtain ⟨ao, cap, hv, hcap⟩ := ownz_shape HO.out
   subst hv
   have hsz : w.heap.size ≤ wr.heap.size := HX.out.size
   go_wp2_with (first | (go_at_call 107; refine (HD.out _).mono ?_; rintro e W1 ⟨he1, hw1⟩; subst he1; subst W1) | (at_builtin; refine wpList_pushz w.heap.size rfl _ _ 122 125 rfl Tryz.underlying122 infoSign rfl (by omega) (by omega) HO.out (sgC (pk, rk)) rfl (by intro c hc; simp only [sgC, List.mem_cons, List.not_mem_nil, or_false] at hc; rcases hc with rfl | rfl <;> rfl) (by omega) hsz rfl rfl ?_; rintro _ w1 ⟨g1, cap1, rfl⟩ hown1 hgr1; have HO1 := Lib.hid hown1; have HX1 := Lib.hid (ext_pushz HX.out HO.out hgr1); clear hown1 hgr1))
   go_roundw
   case rel => exact ⟨k + 1, by omega, by rw [HPS.out]; go_num, Lib.hid (by rw [HSN.out, List.flatMap_append]; simpa using HO1.out), HX1⟩
   case measure => simp [intOf] <;> omega
  ·obtain rfl : k = numT l := by omega
   have hpe := (numT_spec l).2
   rw [hpe]
   go_wp2
   go_ret
   exact ⟨_, rfl, HO.out, HX.out⟩
def posB (r : Int) : Bool := decide (0 < r) && (r != 44)
def valR (l : List UInt8) : Bool := (sgL l (numT l)).all (fun p => posB p.2) && decide (0 < l.length)
theorem formT_ok (d : List UInt8) (n lead least : Nat) (h1 : 192 ≤ (bt d 0).toNat) (h3 : 128 ≤ least) (hn : 1 ≤ n) (hl : n ≤ d.length) :
    (((formT d n lead least).1 != -1) && (d.take (formT d n lead least).2).all okC) = posB (formT d n lead least).1 := by
 unfold formT
 split
 ·rename_i h
  simp only [Bool.and_eq_true, decide_eq_true_eq] at h
  have hd : d.take n = bt d 0 :: (d.drop 1).take (n - 1) := by
   match d, n, hl, hn with
   | c :: r, m + 1, _, _ => simp [bt]
  have ho : (d.take n).all okC = true := by
   rw [hd, List.all_cons, Bool.and_eq_true]
   refine ⟨by simp [okC]; omega, List.all_eq_true.2 fun x hx => ?_⟩
   have := List.all_eq_true.1 h.1 x hx
   simp [tlB] at this
   simp [okC]; omega
  simp only [ho, posB]
  have hge := h.2.1
  generalize accT ((bt d 0).toNat - lead) ((d.drop 1).take (n - 1)) = R at *
  have e1 : ((R : Int) != -1) = true := by simp <;> omega
  have e2 : decide (0 < (R : Int)) = true := by simp <;> omega
  have e3 : ((R : Int) != 44) = true := by simp <;> omega
  rw [e1, e2, e3]
 ·rfl
theorem decT_ok (d : List UInt8) (h0 : 0 < d.length) : (((decT d).1 != -1) && (d.take (decT d).2).all okC) = posB (decT d).1 := by
 unfold decT
 simp only
 split
 ·rename_i h
  match d, h0 with
  | c :: r, _ =>
    simp only [bt, List.getD_cons_zero, List.take_succ_cons, List.take_zero, List.all_cons, List.all_nil, Bool.and_true, okC, posB]
    have e1 : ((c.toNat : Int) != -1) = true := by simp <;> omega
    have q1 : decide (0 < (c.toNat : Int)) = (c.toNat != 0) := by rw [Bool.eq_iff_iff]; simp <;> omega
    have q2 : ((c.toNat : Int) != 44) = (c.toNat != 44) := by rw [Bool.eq_iff_iff]; simp <;> omega
    rw [e1, Bool.true_and, q1, q2]
 ·split
  ·rename_i h; exact formT_ok d 2 _ _ (by omega) (by omega) (by omega) h.2.2
  ·split
   ·rename_i h; exact formT_ok d 3 _ _ (by omega) (by omega) (by omega) h.2.2
   ·split
    ·rename_i h; exact formT_ok d 4 _ _ (by omega) (by omega) (by omega) h.2.2
    ·rfl
theorem take_posT (l : List UInt8) (k : Nat) : l.take (posT l (k + 1)) = l.take (posT l k) ++ (l.drop (posT l k)).take (decT (l.drop (posT l k))).2 := by
 rw [show posT l (k + 1) = posT l k + (decT (l.drop (posT l k))).2 from rfl, List.take_add]
theorem val_upto (l : List UInt8) : ∀ k, k ≤ numT l → ((List.range k).all (fun j => runT l j != -1) && (l.take (posT l k)).all okC) = (sgL l k).all (fun p => posB p.2)
 | 0, _ => by simp [posT, sgL]
 | k + 1, h => by
   have ih := val_upto l k (by omega)
   have hp := (numT_spec l).1 k (by omega)
   have hd := decT_ok (l.drop (posT l k)) (by rw [List.length_drop]; omega)
   rw [sgL_snoc, List.all_append, ← ih, take_posT, List.all_append, List.range_succ, List.all_append]
   simp only [List.all_cons, List.all_nil, Bool.and_true, sgA, runT]
   rw [← hd]
   simp only [Bool.and_assoc]
   congr 1
   rw [Bool.and_left_comm]
theorem valR_eq (l : List UInt8) : valR l = valB l := by
 have h := val_upto l (numT l) (Nat.le_refl _)
 rw [(numT_spec l).2, List.take_length] at h
 unfold valR valB validT
 rw [← h, Bool.and_comm]
 congr 1
 cases l <;> simp
theorem elemSign : Tryz.prog.elem 122 = 125 := by kernel_rfl
theorem index_sign (g o n cap j : Nat) (hn : j < n) (W : World) : (Instr.indexAt 122 (.slice (some ⟨g, o, none⟩) n cap) (.int .i64 (j : Int))).run Tryz.prog W = .ok (.pointer (some ⟨g, o + 2 * j, none⟩)) W := by
 rw [run_indexAt_slice (h := by rw [elemSign]; exact Tryz.underlying122), if_pos (by omega), elemSign]
 simp [Tryz.sizeOf125, Result.andThen, Addr.add, Nat.mul_comm]
set_option maxHeartbeats 2000000 in
theorem rValue_any (l : List UInt8) (hl : l.length ≤ 100000) (w : World) :
    Calls Tryz.prog 59 #[Str l] w fun e w' => e = .returned (.bool (valB l)) ∧ Ext w w' := by
 rw [← valR_eq]
 have HVR := Lib.hid (show valR l = ((sgL l (numT l)).all (fun p => posB p.2) && decide (0 < l.length)) from rfl)
 have HS := Lib.hid (Signs_any l hl w)
 have hnl := numT_le l
 have hln := sgL_len l (numT l)
 have hll : decide (0 < (l.length : Int)) = decide (0 < l.length) := by simp
 generalize valR l = vr at *
 generalize sgL l (numT l) = sg at *
 generalize numT l = n at *
 subst n
 go_enter Tryz.func59, Tryz.ntmps59
 go_wp2_with fail
 refine HS.out.mono ?_
 rintro e W1 ⟨v, rfl, hown, hx⟩
 have hr := rowC_of_own sgC_len hown
 have HX1 := Lib.hid hx
 obtain ⟨ao, cap, hv, h0, h1, h2, h3⟩ := hr
 subst hv
 have H3 := Lib.hid h3
 unfold maxLen at h2
 clear hown hx h3 h0 HS
 go_wp2_with fail
 go_loopw [8] (fun i wr => ∃ k : Nat, k ≤ sg.length ∧ i = .int .i64 k ∧ Hid ((sg.take k).all (fun p => posB p.2) = true) ∧ Hid (Ext W1 wr)) (fun i _ => sg.length - (intOf i).toNat)
 case atStart => exact ⟨0, by omega, rfl, Lib.hid rfl, Lib.hid (ext_refl _)⟩
 case round =>
  obtain ⟨k, hk, rfl, HALL, HXR⟩ := hrel
  by_cases h3 : k < sg.length
  ·obtain ⟨g, o, hao, hcc⟩ := H3.out (fun e => by rw [e] at h3; simp at h3)
   subst hao
   obtain ⟨p, hp⟩ : ∃ p, sg[k] = p := ⟨_, rfl⟩
   have hgk : sg[k]? = some p := by rw [← hp]; exact List.getElem?_eq_getElem h3
   have a0 := ext_cell HXR.out (hcc k p hgk 0 _ rfl)
   have a1 := ext_cell HXR.out (hcc k p hgk 1 _ rfl)
   have hmem : p ∈ sg := by rw [← hp]; exact List.getElem_mem _
   have HTS := Lib.hid (show (sg.take (k + 1)).all (fun p => posB p.2) = ((sg.take k).all (fun p => posB p.2) && posB p.2) by rw [List.take_succ_eq_append_getElem h3, List.all_append, hp]; simp)
   have HBAD := Lib.hid (show posB p.2 = false → vr = false from fun h => by
    rw [HVR.out, show sg.all (fun p => posB p.2) = false from List.all_eq_false.2 ⟨p, hmem, by simp [h]⟩]; rfl)
   have i1 := index_sign g o sg.length cap k h3
   obtain ⟨p1, p2⟩ := p
   simp only [Nat.add_zero] at a0 HTS HBAD
   replace a1 : wr.cell? ⟨g, o + 2 * k + 1, none⟩ = some (.int .i64 p2) := by rw [Nat.add_assoc]; exact a1
   have HPB := Lib.hid (show posB p2 = (decide (0 < p2) && (p2 != 44)) from rfl)
   obtain ⟨W5, hW5⟩ : ∃ W5, wr.alloc (.cells #[.int .i64 (p1 : Int), .int .i64 p2] 125) = W5 := ⟨_, rfl⟩
   have hx5 : Ext wr W5 := by rw [← hW5]; exact Below.alloc (Below.refl _ _) (Nat.le_refl _) _
   have n1 : W5.heap[wr.heap.size]? = some (.cells #[.int .i64 (p1 : Int), .int .i64 p2] 125 (0, 0)) := by rw [← hW5]; exact Array.getElem?_push_size
   have k1 : W5.cell? ⟨wr.heap.size, 1, none⟩ = some (.int .i64 p2) := by simp [World.cell?, n1]
   have HX5 := Lib.hid (ext_trans HXR.out hx5)
   clear hcc hp hgk hmem hx5 n1
   generalize o + 2 * k = q at *
   by_cases hp0 : 0 < p2
   ·have g1 : ¬ p2 ≤ 0 := by omega
    by_cases h44 : p2 = 44
    ·have HF := Lib.hid (HBAD.out (by rw [HPB.out]; simp [h44]))
     subst h44
     clear HPB HTS HBAD
     go_wp2
     try rw [hW5]
     go_ret
     exact ⟨by rw [HF.out]; rfl, ext_trans HX1.out HX5.out⟩
    ·have g2 : (p2 == 44) = false := by simp [h44]
     have HT := Lib.hid (show (sg.take (k + 1)).all (fun p => posB p.2) = true by rw [HTS.out, HALL.out, HPB.out]; simp [hp0, h44])
     clear HPB HTS HBAD
     go_wp2
     try rw [hW5]
     go_roundw
     case rel => exact ⟨k + 1, by omega, by go_num, HT, HX5⟩
     case measure => simp [intOf] <;> omega
   ·have g1 : p2 ≤ 0 := by omega
    have HF := Lib.hid (HBAD.out (by rw [HPB.out]; simp [hp0]))
    clear HPB HTS HBAD
    go_wp2
    try rw [hW5]
    go_ret
    exact ⟨by rw [HF.out]; rfl, ext_trans HX1.out HX5.out⟩
  ·obtain rfl : k = sg.length := by omega
   rw [List.take_length] at HALL
   have HE := Lib.hid (show vr = decide (0 < l.length) by rw [HVR.out, HALL.out]; rfl)
   clear HVR
   go_wp2
   go_ret
   exact ⟨by rw [HE.out]; simp, ext_trans HX1.out HXR.out⟩
attribute [local go_sem] Oper.semAt_some
theorem slice_mid (l : List UInt8) (a b : Nat) (hab : a ≤ b) (hb : b ≤ l.length) (W : World) :
    (Instr.slice 9 (Str l) (some (.int .i64 (a : Int))) (some (.int .i64 (b : Int))) none).run Tryz.prog W = .ok (Str ((l.drop a).take (b - a))) W := by
 have h := run_slice_string (P := Tryz.prog) (w := W) 9 ⟨l.toArray⟩ .i64 .i64 (a : Int) (b : Int) Tryz.underlying9 (by omega) (by omega) (by rw [size_list]; omega)
 rw [h]
 simp [extract_list, List.drop_take]
theorem drop_one (l : List UInt8) (k : Nat) (h : k < l.length) : (l.drop k).take 1 = [bt l k] := by
 rw [drop_cons l k h]; rfl
set_option maxHeartbeats 1000000 in
theorem rEscape_any (l : List UInt8) (hl : l.length ≤ 10000) (w : World) :
    Calls Tryz.prog 75 #[Str l] w fun e w' => e = .returned (Str (escF l)) ∧ w' = w := by
 have hixl : ∀ i, i < l.length → ∀ W, (Instr.index 9 (Str l) (.int .i64 (i : Int))).run Tryz.prog W = .ok (Byt (bt l i)) W := fun i hi W => run_index_str Tryz.underlying9 l i _ rfl hi W
 have HI := Lib.hid hixl; clear hixl
 have HSL := Lib.hid (fun k (h : k < l.length) W => (show (Instr.slice 9 (Str l) (some (.int .i64 (k : Int))) (some (.int .i64 ((k : Int) + 1))) none).run Tryz.prog W = .ok (Str [bt l k]) W by
  have := slice_mid l k (k + 1) (by omega) (by omega) W
  rw [show k + 1 - k = 1 by omega, drop_one l k h] at this
  exact this))
 go_enter Tryz.func75, Tryz.ntmps75
 go_wp2
 go_loop [3, 4] (fun o i => ∃ k : Nat, k ≤ l.length ∧ i = .int .i64 k ∧ o = Str (escF (l.take k))) (fun _ i => l.length - (intOf i).toNat)
 case atStart => exact ⟨0, by omega, rfl, rfl⟩
 case round =>
  obtain ⟨k, hk, rfl, rfl⟩ := hrel
  by_cases h3 : k < l.length
  ·have hix := HI.out k h3
   have hsl := HSL.out k h3
   have Ht := Lib.hid (show escF (l.take (k + 1)) = escF (l.take k) ++ esc1 (bt l k) by rw [take_snoc l k h3, escF_snoc])
   have hlen : (escF (l.take k)).length ≤ 40000 := by have := escF_len (l.take k); rw [List.length_take] at this; omega
   generalize bt l k = c at *
   generalize escF (l.take k) = bs at *
   by_cases h44 : c = 44
   ·have he := Ht.out
    rw [show esc1 c = [61, 50, 67] by simp [esc1, h44]] at he
    have He := Lib.hid he
    subst h44
    clear he Ht
    go_wp2
    go_round
    case rel => exact ⟨k + 1, by omega, by go_num, by rw [He.out]⟩
    case measure => simp [intOf] <;> omega
   ·have h44n : ((c.toNat : Int) == 44) = false := by
      have : c.toNat ≠ 44 := fun h => h44 (UInt8.toNat_inj.1 h)
      simp; omega
    by_cases h61 : c = 61
    ·have he := Ht.out
     rw [show esc1 c = [61, 51, 68] by simp [esc1, h61]] at he
     have He := Lib.hid he
     subst h61
     clear he Ht
     go_wp2
     go_round
     case rel => exact ⟨k + 1, by omega, by go_num, by rw [He.out]⟩
     case measure => simp [intOf] <;> omega
    ·have h61n : ((c.toNat : Int) == 61) = false := by
       have : c.toNat ≠ 61 := fun h => h61 (UInt8.toNat_inj.1 h)
       simp; omega
     have he := Ht.out
     rw [show esc1 c = [c] by simp [esc1, h44, h61]] at he
     have He := Lib.hid he
     clear he Ht h44 h61
     go_wp2
     go_round
     case rel => exact ⟨k + 1, by omega, by go_num, by rw [He.out]⟩
     case measure => simp [intOf] <;> omega
  ·obtain rfl : k = l.length := by omega
   rw [List.take_length]
   go_wp2
   go_ret
   exact ⟨rfl, rfl⟩
set_option maxHeartbeats 2000000 in
theorem rUnescape_any (l : List UInt8) (hl : l.length ≤ 10000) (w : World) :
    Calls Tryz.prog 92 #[Str l] w fun e w' => e = .returned (.tuple #[Str (unV l).1, .int .i64 (unV l).2]) ∧ w' = w := by
 have hixl : ∀ i, i < l.length → ∀ W, (Instr.index 9 (Str l) (.int .i64 (i : Int))).run Tryz.prog W = .ok (Byt (bt l i)) W := fun i hi W => run_index_str Tryz.underlying9 l i _ rfl hi W
 have hixl1 : ∀ i, i + 1 < l.length → ∀ W, (Instr.index 9 (Str l) (.int .i64 ((i : Int) + 1))).run Tryz.prog W = .ok (Byt (bt l (i + 1))) W := fun i hi W => run_index_str Tryz.underlying9 l (i + 1) _ (by omega) hi W
 have HI := Lib.hid hixl; have HI1 := Lib.hid hixl1; clear hixl hixl1
 have HSL := Lib.hid (fun k (h : k < l.length) W => (show (Instr.slice 9 (Str l) (some (.int .i64 (k : Int))) (some (.int .i64 ((k : Int) + 1))) none).run Tryz.prog W = .ok (Str [bt l k]) W by
  have := slice_mid l k (k + 1) (by omega) (by omega) W
  rw [show k + 1 - k = 1 by omega, drop_one l k h] at this
  exact this))
 have HS3 := Lib.hid (fun k (h : k + 3 ≤ l.length) W => (show (Instr.slice 9 (Str l) (some (.int .i64 (k : Int))) (some (.int .i64 ((k : Int) + 3))) none).run Tryz.prog W = .ok (Str ((l.drop k).take 3)) W by
  have := slice_mid l k (k + 3) (by omega) (by omega) W
  rw [show k + 3 - k = 3 by omega] at this
  exact this))
 have HDC := Lib.hid (fun k h => drop_cons l k h)
 obtain ⟨un, hun⟩ : ∃ un, unV l = un := ⟨_, rfl⟩
 have HUN := Lib.hid (show (match unG l with | none => ([], 4) | some (t, true) => ([], 5) | some (t, false) => (t, 0)) = un from hun)
 rw [hun]
 clear hun
 go_enter Tryz.func92, Tryz.ntmps92
 go_wp2
 go_loop [4, 5, 6] (fun o c i => ∃ (k f : Nat) (bs ot : List UInt8) (cm : Bool), k ≤ l.length ∧ i = .int .i64 k ∧ c = .bool cm ∧ o = Str ot ∧ ot.length ≤ k ∧ l.length ≤ k + f ∧ Hid (cm = false → ot = bs) ∧ Hid (unG l = comb bs cm (unN f (l.drop k)))) (fun _ _ i => l.length - (intOf i).toNat)
 case atStart => exact ⟨0, l.length, [], [], false, by omega, rfl, rfl, rfl, by simp, by omega, Lib.hid (fun _ => rfl), Lib.hid (by unfold unG comb; rw [List.drop_zero]; cases unN l.length l <;> simp)⟩
 case round =>
  obtain ⟨k, f, bs, ot, cm, hk, rfl, rfl, rfl, hok, hf, HOT, HU⟩ := hrel
  by_cases h3 : k < l.length
  ·have hix := HI.out k h3
   have hsl := HSL.out k h3
   obtain ⟨f1, rfl⟩ : ∃ f1, f = f1 + 1 := ⟨f - 1, by omega⟩
   have hu := HU.out
   rw [HDC.out k h3] at hu
   have hdd : (l.drop (k + 1)).drop 2 = l.drop (k + 3) := by rw [List.drop_drop]
   have hdl : (l.drop (k + 1)).length + (k + 1) = l.length := by rw [List.length_drop]; omega
   have hs3 := fun h W => HS3.out k h W
   rw [HDC.out k h3] at hs3
   obtain ⟨c, hc⟩ : ∃ c, bt l k = c := ⟨_, rfl⟩
   rw [hc] at hix hsl hu hs3
   obtain ⟨dr, hdr⟩ : ∃ dr, l.drop (k + 1) = dr := ⟨_, rfl⟩
   have HDR := Lib.hid hdr
   rw [hdr] at hu hdd hdl hs3
   have HDD := Lib.hid hdd
   have hc0 := c.toNat_lt
   clear hdr hdd HU
   by_cases h61 : c = 61
   ·subst h61
    by_cases hk3 : k + 3 ≤ l.length
    ·have s3 := fun W => hs3 hk3 W
     have hi1 := HI1.out k (by omega)
     have t0 : ¬ (l.length : Int) < (k : Int) + 3 := by omega
     have hb1 : bt l (k + 1) = dr.getD 0 0 := by rw [← HDR.out]; simp [bt, List.getD]
     rw [hb1] at hi1
     have hdr2 : 2 ≤ dr.length := by omega
     obtain ⟨d0, d1, dt, hdd2⟩ : ∃ d0 d1 dt, dr = d0 :: d1 :: dt := by
      match dr, hdr2 with
      | a :: b :: t, _ => exact ⟨a, b, t, rfl⟩
     have hx3 : ((61 :: dr : List UInt8).take 3) = [61, d0, d1] := by rw [hdd2]; rfl
     have hg0 : dr.getD 0 0 = d0 := by rw [hdd2]; rfl
     rw [hg0] at hi1
     rw [hx3] at s3
     by_cases q1 : d0 = 50 ∧ d1 = 67
     ·have hu2 : unG l = comb (bs ++ [44]) cm (unN f1 (l.drop (k + 3))) := by
        rw [hu]; simp only [unN]; rw [if_neg (by decide), if_neg (by decide), if_pos (by simp [pre3, hx3, q1.1, q1.2]; omega), comb_byte, HDD.out]
      have HU2 := Lib.hid hu2
      obtain ⟨rfl, rfl⟩ := q1
      clear hu hu2 hs3 hx3 hg0 hb1 hdd2
      go_wp2
      go_round
      case rel => exact ⟨k + 3, f1, bs ++ [44], ot ++ [44], cm, by omega, by go_num, rfl, rfl, by simp; omega, by omega, Lib.hid (fun h => by rw [HOT.out h]), HU2⟩
      case measure => simp [intOf] <;> omega
     ·by_cases q2 : d0 = 51 ∧ d1 = 68
      ·have hu2 : unG l = comb (bs ++ [61]) cm (unN f1 (l.drop (k + 3))) := by
         rw [hu]; simp only [unN]; rw [if_neg (by decide), if_neg (by decide), if_neg (by simp [pre3, hx3]; intro _ h1 h2; exact q1 ⟨h1, h2⟩), if_pos (by simp [pre3, hx3, q2.1, q2.2]; omega), comb_byte, HDD.out]
       have HU2 := Lib.hid hu2
       obtain ⟨rfl, rfl⟩ := q2
       clear hu hu2 hs3 hx3 hg0 hb1 hdd2 q1
       go_wp2
       go_round
       case rel => exact ⟨k + 3, f1, bs ++ [61], ot ++ [61], cm, by omega, by go_num, rfl, rfl, by simp; omega, by omega, Lib.hid (fun h => by rw [HOT.out h]), HU2⟩
       case measure => simp [intOf] <;> omega
      ·have hu2 : unG l = none := by
         rw [hu]; simp only [unN]; rw [if_neg (by decide), if_neg (by decide), if_neg (by simp [pre3, hx3]; intro _ h1 h2; exact q1 ⟨h1, h2⟩), if_neg (by simp [pre3, hx3]; intro _ h1 h2; exact q2 ⟨h1, h2⟩)]; rfl
       have hd : un = ([], 4) := by rw [← HUN.out, hu2]
       have z1 : (([61, d0, d1] : List UInt8) != [61, 50, 67]) = true := by simp; intro h1 h2; exact q1 ⟨h1, h2⟩
       have z2 : (([61, d0, d1] : List UInt8) != [61, 51, 68]) = true := by simp; intro h1 h2; exact q2 ⟨h1, h2⟩
       have z3 : (([61, d0, d1] : List UInt8) == [61, 50, 67]) = false := by simp; intro h1 h2; exact q1 ⟨h1, h2⟩
       have z4 : (([61, d0, d1] : List UInt8) == [61, 51, 68]) = false := by simp; intro h1 h2; exact q2 ⟨h1, h2⟩
       subst hd
       generalize ([61, d0, d1] : List UInt8) = x3 at *
       clear hu hu2 hs3 hx3 hg0 hb1 hdd2 q1 q2
       go_wp2
       go_ret2
       exact ⟨rfl, rfl⟩
    ·have t0 : (l.length : Int) < (k : Int) + 3 := by omega
     have hp1 : ∀ a b c, pre3 (61 :: dr) a b c = false := fun a b c => by
      have : ¬ 3 ≤ (61 :: dr).length := by simp; omega
      unfold pre3
      rw [decide_eq_false this]; rfl
     have hu2 : unG l = none := by
      rw [hu]; simp only [unN]; rw [if_neg (by decide), if_neg (by decide), if_neg (by rw [hp1]; simp), if_neg (by rw [hp1]; simp)]; rfl
     have hd : un = ([], 4) := by rw [← HUN.out, hu2]
     subst hd
     clear hu hu2 hs3 hp1
     go_wp2
     go_ret2
     exact ⟨rfl, rfl⟩
   ·have h61n : ((c.toNat : Int) == 61) = false := by
      have : c.toNat ≠ 61 := fun h => h61 (UInt8.toNat_inj.1 h)
      simp; omega
    by_cases h44 : c = 44
    ·have hu2 : unG l = comb bs true (unN f1 dr) := by rw [hu]; simp only [unN]; rw [if_pos h44, comb_comma]
     have HU2 := Lib.hid hu2
     subst h44
     clear hu hu2 hs3
     cases cm <;> (go_wp2; go_round; exact ⟨k + 1, f1, bs, ot ++ [44], true, by omega, by go_num, rfl, rfl, by simp; omega, by omega, Lib.hid (fun h => by cases h), Lib.hid (by rw [HU2.out, HDR.out])⟩; simp [intOf] <;> omega)
    ·have h44n : ((c.toNat : Int) == 44) = false := by
       have : c.toNat ≠ 44 := fun h => h44 (UInt8.toNat_inj.1 h)
       simp; omega
     have hu2 : unG l = comb (bs ++ [c]) cm (unN f1 dr) := by rw [hu]; simp only [unN]; rw [if_neg h44, if_pos h61, comb_byte]
     have HU2 := Lib.hid hu2
     clear hu hu2 hs3 h44 h61
     cases cm <;> (go_wp2; go_round; exact ⟨k + 1, f1, bs ++ [c], ot ++ [c], _, by omega, by go_num, rfl, rfl, by simp; omega, by omega, Lib.hid (fun h => by rw [HOT.out h]), Lib.hid (by rw [HU2.out, HDR.out])⟩; simp [intOf] <;> omega)
  ·obtain rfl : k = l.length := by omega
   have hu2 : unG l = some (bs, cm) := by
    rw [HU.out, List.drop_length]
    cases f <;> simp [unN, comb]
   have hd := HUN.out
   rw [hu2] at hd
   clear hu2 HU
   cases cm with
   | true =>
     have hd2 : un = ([], 5) := hd.symm
     subst hd2
     clear hd
     go_wp2
     go_ret2
     exact ⟨rfl, rfl⟩
   | false =>
     have hd2 : un = (bs, 0) := hd.symm
     subst hd2
     have := HOT.out rfl
     subst this
     clear hd
     go_wp2
     go_ret2
     exact ⟨rfl, rfl⟩
attribute [local go_sem] Oper.semAt_some
theorem letB_n : ∀ n : Nat, n < 256 → letB (UInt8.ofNat n) = ((decide (97 ≤ n) && decide (n ≤ 122)) || (decide (65 ≤ n) && decide (n ≤ 90))) := by decide +kernel
theorem letB_eq (c : UInt8) : letB c = ((decide (97 ≤ c.toNat) && decide (c.toNat ≤ 122)) || (decide (65 ≤ c.toNat) && decide (c.toNat ≤ 90))) := by
 have := letB_n c.toNat c.toNat_lt
 rwa [UInt8.ofNat_toNat] at this
theorem rLetter_any (c : UInt8) (w : World) : Calls Tryz.prog 77 #[Byt c] w fun e w' => e = .returned (.bool (letB c)) ∧ w' = w := by
 have HL := Lib.hid (letB_eq c)
 have hb := c.toNat_lt
 generalize letB c = lb at *
 by_cases h1 : 97 ≤ c.toNat ∧ c.toNat ≤ 122
 ·have g1 : (97 : Int) ≤ (c.toNat : Int) := by omega
  have g2 : (c.toNat : Int) ≤ 122 := by omega
  have HR := Lib.hid (show lb = true by rw [HL.out]; simp [h1.1, h1.2])
  clear h1 HL
  go_enter Tryz.func77, Tryz.ntmps77
  go_wp2
  all_goals (go_ret; exact ⟨by rw [HR.out]; rfl, rfl⟩)
 ·by_cases h2 : 65 ≤ c.toNat ∧ c.toNat ≤ 90
  ·have g1 : ¬ (97 : Int) ≤ (c.toNat : Int) := by omega
   have g3 : (65 : Int) ≤ (c.toNat : Int) := by omega
   have g4 : (c.toNat : Int) ≤ 90 := by omega
   have HR := Lib.hid (show lb = true by rw [HL.out]; simp [h2.1, h2.2])
   clear h1 h2 HL
   go_enter Tryz.func77, Tryz.ntmps77
   go_wp2
   all_goals (go_ret; exact ⟨by rw [HR.out]; rfl, rfl⟩)
  ·have HR := Lib.hid (show lb = false by rw [HL.out]; rw [Bool.eq_false_iff]; simp; omega)
   clear HL
   by_cases g1 : (97 : Int) ≤ (c.toNat : Int)
   ·have g2 : ¬ (c.toNat : Int) ≤ 122 := by omega
    have g3 : (65 : Int) ≤ (c.toNat : Int) := by omega
    have g4 : ¬ (c.toNat : Int) ≤ 90 := by omega
    clear h1 h2
    go_enter Tryz.func77, Tryz.ntmps77
    go_wp2
    all_goals (go_ret; exact ⟨by rw [HR.out]; rfl, rfl⟩)
   ·by_cases g3 : (65 : Int) ≤ (c.toNat : Int)
    ·have g4 : ¬ (c.toNat : Int) ≤ 90 := by omega
     clear h1 h2
     go_enter Tryz.func77, Tryz.ntmps77
     go_wp2
     all_goals (go_ret; exact ⟨by rw [HR.out]; rfl, rfl⟩)
    ·clear h1 h2
     go_enter Tryz.func77, Tryz.ntmps77
     go_wp2
     all_goals (go_ret; exact ⟨by rw [HR.out]; rfl, rfl⟩)
def beh (s : List UInt8) (a b : UInt8) : List UInt8 × Bool := if s.take 2 = [a, b] then (s.drop 2, true) else ([], false)
set_option maxHeartbeats 1000000 in
theorem behind_any (s : List UInt8) (a b : UInt8) (w : World) :
    Calls Tryz.prog 58 #[Str s, Str [a, b]] w fun e w' => e = .returned (.tuple #[Str (beh s a b).1, .bool (beh s a b).2]) ∧ w' = w := by
 have HB := Lib.hid (show beh s a b = if s.take 2 = [a, b] then (s.drop 2, true) else ([], false) from rfl)
 generalize beh s a b = r at *
 by_cases hl : s.length < 2
 ·have hr := HB.out
  rw [if_neg (fun h => by have := congrArg List.length h; rw [List.length_take] at this; simp at this; omega)] at hr
  subst hr
  have g1 : (s.length : Int) < 2 := by omega
  go_enter Tryz.func58, Tryz.ntmps58
  go_wp2
  all_goals (go_ret2; exact ⟨rfl, rfl⟩)
 ·have g1 : ¬ (s.length : Int) < 2 := by omega
  have s1 : ∀ W, (Instr.slice 9 (Str s) none (some (.int .i64 2)) none).run Tryz.prog W = .ok (Str (s.take 2)) W := fun W => slice_to s 2 (by omega) W
  have s2 : ∀ W, (Instr.slice 9 (Str s) (some (.int .i64 2)) none none).run Tryz.prog W = .ok (Str (s.drop 2)) W := fun W => slice_from s 2 (by omega) W
  by_cases hp : s.take 2 = [a, b]
  ·have hr := HB.out
   rw [if_pos hp] at hr
   subst hr
   have e1 : (s.take 2 != [a, b]) = false := by simp [hp]
   have e2 : (s.take 2 == [a, b]) = true := by simp [hp]
   generalize s.take 2 = q1 at *
   generalize s.drop 2 = q2 at *
   clear hp
   go_enter Tryz.func58, Tryz.ntmps58
   go_wp2
   all_goals (go_ret2; exact ⟨rfl, rfl⟩)
  ·have hr := HB.out
   rw [if_neg hp] at hr
   subst hr
   have e1 : (s.take 2 != [a, b]) = true := by simp [hp]
   have e2 : (s.take 2 == [a, b]) = false := by simp [hp]
   generalize s.take 2 = q1 at *
   generalize s.drop 2 = q2 at *
   clear hp
   go_enter Tryz.func58, Tryz.ntmps58
   go_wp2
   all_goals (go_ret2; exact ⟨rfl, rfl⟩)
set_option maxHeartbeats 1000000 in
theorem rescaped_any (l : List UInt8) (hl : l.length ≤ 10000) (w : World) :
    Calls Tryz.prog 60 #[Str l] w fun e w' => e = .returned (.tuple #[Str (unV l).1, .bool (escB l)]) ∧ Ext w w' := by
 have HU := Lib.hid (fun W => rUnescape_any l hl W)
 have HV := Lib.hid (fun W => rValue_any l (by omega) W)
 obtain ⟨eb, heb⟩ : ∃ eb, escB l = eb := ⟨_, rfl⟩
 have HEB := Lib.hid (show (valB l && decide ((unV l).2 = 0)) = eb from heb)
 rw [heb]
 clear heb
 generalize valB l = vb at *
 generalize unV l = un at *
 obtain ⟨t, c⟩ := un
 simp only at HU HEB ⊢
 go_enter Tryz.func60, Tryz.ntmps60
 go_wp2_with fail
 refine (HU.out _).mono ?_
 rintro e W1 ⟨rfl, hw⟩
 subst W1
 by_cases hc : c = 0
 ·have hd : eb = vb := by rw [← HEB.out]; simp [hc]
  subst hd; subst hc
  go_wp2_with fail
  refine (HV.out _).mono ?_
  rintro e W2 ⟨rfl, hx⟩
  have HX2 := Lib.hid hx
  clear hx
  go_wp2
  go_ret2
  exact ⟨rfl, HX2.out⟩
 ·have hd : eb = false := by rw [← HEB.out]; simp [hc]
  have hc2 : (c == 0) = false := by simp [hc]
  subst hd
  clear hc
  go_wp2
  go_ret2
  exact ⟨rfl, ext_refl _⟩
def rflF (s : List UInt8) : List UInt8 := if (flF s).2 then (flF s).1 else []
theorem flC_eq (c : UInt8) : flC c = (letB c || ((decide (48 ≤ c.toNat) && decide (c.toNat ≤ 57)) || ((c.toNat == 46) || (c.toNat == 45)))) := rfl
theorem hasP2 (s : List UInt8) (a b : UInt8) : Lib.hasPrefix s [a, b] = decide (s.take 2 = [a, b]) := by
 match s with
 | [] => simp [Lib.hasPrefix]
 | [x] =>
   have : Lib.hasPrefix [x] [a, b] = ((a == x) && false) := rfl
   rw [this]; simp
 | x :: y :: t =>
   have : Lib.hasPrefix (x :: y :: t) [a, b] = ((a == x) && ((b == y) && true)) := rfl
   rw [this, Bool.eq_iff_iff]
   simp only [Bool.and_eq_true, beq_iff_eq, and_true, decide_eq_true_eq, List.take_succ_cons, List.take_zero, List.cons.injEq]
   constructor
   ·rintro ⟨rfl, rfl⟩; exact ⟨rfl, rfl⟩
   ·rintro ⟨rfl, rfl⟩; exact ⟨rfl, rfl⟩
theorem trimP2 (s : List UInt8) (a b : UInt8) : Lib.trimPrefix s [a, b] = if s.take 2 = [a, b] then s.drop 2 else s := by
 unfold Lib.trimPrefix
 rw [hasP2]
 by_cases h : s.take 2 = [a, b] <;> simp [h]
def flR (s : List UInt8) : Bool := decide (3 ≤ s.length) && (decide (s.take 2 = [112, 61]) && (s.drop 2).all flC)
theorem flF_long (s : List UInt8) (h1 : s ≠ [110]) (h2 : s ≠ [121]) : rflF s = if flR s then [112] else [] := by
 have hf : flF s = ([112], (Lib.hasPrefix s [112, 61] && (Lib.trimPrefix s [112, 61]).all flC) && decide (Lib.trimPrefix s [112, 61] ≠ [])) := by
  unfold flF
  rw [if_neg]
  rintro (h | h)
  ·exact h1 h
  ·exact h2 h
 unfold rflF flR
 rw [hf, hasP2, trimP2]
 by_cases hp : s.take 2 = [112, 61]
 ·have hl : 2 ≤ s.length := by have := congrArg List.length hp; rw [List.length_take] at this; simp at this; omega
  have hd : (decide (s.drop 2 ≠ [])) = decide (3 ≤ s.length) := by
   match s, hl with
   | a :: b :: t, _ => cases t <;> simp
  rw [decide_eq_true hp, if_pos hp, hd]
  simp only [Bool.true_and]
  rw [Bool.and_comm]
 ·rw [decide_eq_false hp]; simp
set_option maxHeartbeats 2000000 in
theorem rflag_any (s : List UInt8) (hl : s.length ≤ 100000) (w : World) :
    Calls Tryz.prog 90 #[Str s] w fun e w' => e = .returned (Str (rflF s)) ∧ w' = w := by
 by_cases h1 : s = [110]
 ·subst h1
  go_enter Tryz.func90, Tryz.ntmps90
  go_wp2
  go_ret
  exact ⟨rfl, rfl⟩
 by_cases h2 : s = [121]
 ·subst h2
  go_enter Tryz.func90, Tryz.ntmps90
  go_wp2
  go_ret
  exact ⟨rfl, rfl⟩
 have HR := Lib.hid (flF_long s h1 h2)
 have n1 : (s == [110]) = false := by simp [h1]
 have n2 : (s == [121]) = false := by simp [h2]
 have HRR := Lib.hid (show flR s = (decide (3 ≤ s.length) && (decide (s.take 2 = [112, 61]) && (s.drop 2).all flC)) from rfl)
 have hixl : ∀ i, i < s.length → ∀ W, (Instr.index 9 (Str s) (.int .i64 (i : Int))).run Tryz.prog W = .ok (Byt (bt s i)) W := fun i hi W => run_index_str Tryz.underlying9 s i _ rfl hi W
 have HI := Lib.hid hixl
 generalize rflF s = rf at *
 clear h1 h2 hixl
 have HF := Lib.hid (show flR s = false → rf = [] from fun h => by rw [HR.out, h]; rfl)
 by_cases h3 : 3 ≤ s.length
 ·have g1 : ¬ (s.length : Int) < 3 := by omega
  have s1 : ∀ W, (Instr.slice 9 (Str s) none (some (.int .i64 2)) none).run Tryz.prog W = .ok (Str (s.take 2)) W := fun W => slice_to s 2 (by omega) W
  by_cases hp : s.take 2 = [112, 61]
  ·rw [hp] at s1
   rw [decide_eq_true h3, decide_eq_true hp, Bool.true_and, Bool.true_and] at HRR
   have HBB := Lib.hid (fun k (h1 : 2 ≤ k) (h : k < s.length) => (show bt s k ∈ s.drop 2 by
    have : s.drop 2 = s.drop 2 := rfl
    rw [show bt s k = (s.drop 2)[k - 2]'(by rw [List.length_drop]; omega) by rw [List.getElem_drop, bt_get s k h]; congr 1; omega]
    exact List.getElem_mem _))
   clear hp
   go_enter Tryz.func90, Tryz.ntmps90
   go_wp2
   go_loop [3] (fun i => ∃ k : Nat, 2 ≤ k ∧ k ≤ s.length ∧ i = .int .i64 k ∧ Hid (∀ j, 2 ≤ j → j < k → flC (bt s j) = true)) (fun i => s.length - (intOf i).toNat)
   case atStart => exact ⟨2, by omega, by omega, rfl, Lib.hid fun j h1 h2 => by omega⟩
   case round =>
    obtain ⟨k, hk2, hk, rfl, HK⟩ := hrel
    by_cases h4 : k < s.length
    ·have hix := HI.out k h4
     have HL := Lib.hid (fun W => rLetter_any (bt s k) W)
     have HBAD := Lib.hid (show flC (bt s k) = false → rf = [] from fun h => HF.out (by rw [HRR.out]; exact List.all_eq_false.2 ⟨_, HBB.out k hk2 h4, by simp [h]⟩))
     have HG := Lib.hid (show flC (bt s k) = true → ∀ j, 2 ≤ j → j < k + 1 → flC (bt s j) = true from fun h j h1 h2 => by
      rcases Nat.lt_succ_iff_lt_or_eq.1 h2 with h2 | rfl
      ·exact HK.out j h1 h2
      ·exact h)
     have HFC := Lib.hid (flC_eq (bt s k))
     have hc := (bt s k).toNat_lt
     generalize bt s k = c at *
     generalize letB c = lb at *
     generalize flC c = fc at *
     cases lb with
     | true =>
       have HK2 := Lib.hid (HG.out (by rw [HFC.out]; rfl))
       clear HFC HG HBAD
       go_wp2_with (go_at_call 77; refine (HL.out _).mono ?_; rintro e W1 ⟨he1, hw1⟩; subst he1; subst W1)
       all_goals (go_round; exact ⟨k + 1, by omega, by omega, by go_num, HK2⟩; simp [intOf] <;> omega)
     | false =>
       by_cases q1 : (c.toNat : Int) < 48
       ·by_cases q3 : c.toNat = 46
        ·have e3 : ((c.toNat : Int) == 46) = true := by simp; omega
         have e3n : ((c.toNat : Int) != 46) = false := by simp; omega
         have HK2 := Lib.hid (HG.out (by rw [HFC.out]; simp [q3]))
         clear HFC HG HBAD
         go_wp2_with (go_at_call 77; refine (HL.out _).mono ?_; rintro e W1 ⟨he1, hw1⟩; subst he1; subst W1)
         all_goals (go_round; exact ⟨k + 1, by omega, by omega, by go_num, HK2⟩; simp [intOf] <;> omega)
        ·have e3 : ((c.toNat : Int) == 46) = false := by simp; omega
         have e3n : ((c.toNat : Int) != 46) = true := by simp; omega
         by_cases q4 : c.toNat = 45
         ·have e4 : ((c.toNat : Int) == 45) = true := by simp; omega
          have e4n : ((c.toNat : Int) != 45) = false := by simp; omega
          have HK2 := Lib.hid (HG.out (by rw [HFC.out]; simp [q4]))
          clear HFC HG HBAD
          go_wp2_with (go_at_call 77; refine (HL.out _).mono ?_; rintro e W1 ⟨he1, hw1⟩; subst he1; subst W1)
          all_goals (go_round; exact ⟨k + 1, by omega, by omega, by go_num, HK2⟩; simp [intOf] <;> omega)
         ·have e4 : ((c.toNat : Int) == 45) = false := by simp; omega
          have e4n : ((c.toNat : Int) != 45) = true := by simp; omega
          have hr := HBAD.out (by rw [HFC.out]; simp [q3, q4]; omega)
          subst hr
          clear HFC HG HBAD
          go_wp2_with (go_at_call 77; refine (HL.out _).mono ?_; rintro e W1 ⟨he1, hw1⟩; subst he1; subst W1)
          all_goals (go_ret; exact ⟨rfl, rfl⟩)
       ·by_cases q2 : (57 : Int) < (c.toNat : Int)
        ·have e3 : ((c.toNat : Int) == 46) = false := by simp; omega
         have e3n : ((c.toNat : Int) != 46) = true := by simp; omega
         have e4 : ((c.toNat : Int) == 45) = false := by simp; omega
         have e4n : ((c.toNat : Int) != 45) = true := by simp; omega
         have hr := HBAD.out (by rw [HFC.out]; rw [Bool.eq_false_iff]; simp; omega)
         subst hr
         clear HFC HG HBAD
         go_wp2_with (go_at_call 77; refine (HL.out _).mono ?_; rintro e W1 ⟨he1, hw1⟩; subst he1; subst W1)
         all_goals (go_ret; exact ⟨rfl, rfl⟩)
        ·have HK2 := Lib.hid (HG.out (by rw [HFC.out]; simp; omega))
         clear HFC HG HBAD
         go_wp2_with (go_at_call 77; refine (HL.out _).mono ?_; rintro e W1 ⟨he1, hw1⟩; subst he1; subst W1)
         all_goals (go_round; exact ⟨k + 1, by omega, by omega, by go_num, HK2⟩; simp [intOf] <;> omega)
    ·obtain rfl : k = s.length := by omega
     have hall : (s.drop 2).all flC = true := by
      rw [List.all_eq_true]
      intro c hc
      obtain ⟨j, hj, rfl⟩ := List.getElem_of_mem hc
      rw [List.length_drop] at hj
      have := HK.out (2 + j) (by omega) (by omega)
      rw [List.getElem_drop]
      rwa [bt_get s (2 + j) (by omega)] at this
     have hr := HR.out
     rw [HRR.out, hall, if_pos rfl] at hr
     subst hr
     go_wp2
     go_ret
     exact ⟨rfl, rfl⟩
  ·have hr := HF.out (by rw [HRR.out, decide_eq_false hp]; simp)
   subst hr
   have e1 : (s.take 2 == [112, 61]) = false := by simp [hp]
   have e2 : (s.take 2 != [112, 61]) = true := by simp [hp]
   generalize s.take 2 = q1 at *
   clear hp
   go_enter Tryz.func90, Tryz.ntmps90
   go_wp2
   all_goals (go_ret; exact ⟨rfl, rfl⟩)
 ·have hr := HF.out (by rw [HRR.out, decide_eq_false h3]; rfl)
  subst hr
  have g1 : (s.length : Int) < 3 := by omega
  go_enter Tryz.func90, Tryz.ntmps90
  go_wp2
  all_goals (go_ret; exact ⟨rfl, rfl⟩)
def rhdF (one two : List UInt8) : List UInt8 × List UInt8 × Bool :=
 if rflF one = [] then ([], [], false) else if two = [] then (rflF one, [], true)
 else (rflF one, (unV (beh two 97 61).1).1, (beh two 97 61).2 && escB (beh two 97 61).1)
theorem beh_len (s : List UInt8) (a b : UInt8) : (beh s a b).1.length ≤ s.length := by unfold beh; split <;> simp
set_option maxHeartbeats 1000000 in
theorem rhead_any (one two : List UInt8) (h1 : one.length ≤ 10000) (h2 : two.length ≤ 10000) (w : World) :
    Calls Tryz.prog 57 #[Str one, Str two] w fun e w' => e = .returned (.tuple #[Str (rhdF one two).1, Str (rhdF one two).2.1, .bool (rhdF one two).2.2]) ∧ Ext w w' := by
 have HF := Lib.hid (fun W => rflag_any one (by omega) W)
 have HB := Lib.hid (fun W => behind_any two 97 61 W)
 have hbl := beh_len two 97 61
 have HE := Lib.hid (fun W => rescaped_any (beh two 97 61).1 (by omega) W)
 have HR := Lib.hid (show rhdF one two = if rflF one = [] then ([], [], false) else if two = [] then (rflF one, [], true) else (rflF one, (unV (beh two 97 61).1).1, (beh two 97 61).2 && escB (beh two 97 61).1) from rfl)
 generalize rhdF one two = r at *
 generalize rflF one = f at *
 generalize beh two 97 61 = b at *
 obtain ⟨b1, b2⟩ := b
 simp only at HB HE HR hbl
 generalize (unV b1).1 = u at *
 generalize escB b1 = eb at *
 by_cases hf : f = []
 ·have hr := HR.out
  rw [if_pos hf] at hr
  subst hr
  subst hf
  go_enter Tryz.func57, Tryz.ntmps57
  go_wp2_with fail
  refine (HF.out _).mono ?_
  rintro e W1 ⟨rfl, hw⟩
  subst W1
  go_wp2
  go_ret3
  exact ⟨rfl, ext_refl _⟩
 ·have e1 : (f == []) = false := by simp [hf]
  by_cases h2 : two = []
  ·have hr := HR.out
   rw [if_neg hf, if_pos h2] at hr
   subst hr
   subst h2
   clear hf
   go_enter Tryz.func57, Tryz.ntmps57
   go_wp2_with fail
   refine (HF.out _).mono ?_
   rintro e W1 ⟨rfl, hw⟩
   subst W1
   go_wp2
   go_ret3
   exact ⟨rfl, ext_refl _⟩
  ·have hr := HR.out
   rw [if_neg hf, if_neg h2] at hr
   subst hr
   have e2 : (two == []) = false := by simp [h2]
   clear hf h2 HR
   go_enter Tryz.func57, Tryz.ntmps57
   go_wp2_with fail
   refine (HF.out _).mono ?_
   rintro e W1 ⟨rfl, hw⟩
   subst W1
   go_wp2_with fail
   refine (HB.out _).mono ?_
   rintro e W1 ⟨rfl, hw⟩
   subst W1
   go_wp2_with fail
   refine (HE.out _).mono ?_
   rintro e W1 ⟨rfl, hx⟩
   have HX := Lib.hid hx
   clear hx
   cases b2 <;> (go_wp2; go_ret3; exact ⟨rfl, HX.out⟩)
attribute [local go_sem] Oper.semAt_some
def okE (p : List UInt8) : Bool := isAt p && (letB (bt p 0) && valB (p.drop 2))
def mB (p : List UInt8) : Bool := bt p 0 == 109
def extsV (l : List (List UInt8)) : List Pr × Bool × Bool := if l.all okE = true then (l.map atPr, true, l.any mB) else ([], false, false)
set_option maxHeartbeats 4000000 in
theorem exts_any (v : Value) (l : List (List UInt8)) (hn : l.length ≤ 10000) (hl : ∀ p ∈ l, p.length ≤ 10000) (w : World) (hv : Sl w v (l.map Str)) :
    Calls Tryz.prog 61 #[v] w fun e w' => ∃ ev, e = .returned (.tuple #[ev, .bool (extsV l).2.1, .bool (extsV l).2.2]) ∧ w'.ownsRow w.heap.size 64 2 ev (extsV l).1.length ((extsV l).1.flatMap prC) ∧ Ext w w' := by
 obtain ⟨a1, c1, rfl, hc1, hm1, hn1, hcell1⟩ := hv
 rw [List.length_map] at *
 have i1 := run_index_adr (P := Tryz.prog) Tryz.underlying88 Tryz.sizeOf9 hn1 hc1
 have HC1 := Lib.hid hcell1
 have HEV := Lib.hid (show extsV l = if l.all okE = true then (l.map atPr, true, l.any mB) else ([], false, false) from rfl)
 have HL0 := Lib.hid hl
 obtain ⟨n, hnn⟩ : ∃ n, l.length = n := ⟨_, rfl⟩
 rw [hnn] at hn hc1 i1 ⊢
 have Hn := Lib.hid hnn
 have HBAD := Lib.hid (show ∀ p ∈ l, okE p = false → extsV l = ([], false, false) from fun p hp h => by
  rw [HEV.out, if_neg]
  intro ha
  rw [List.all_eq_true.1 ha p hp] at h; cases h)
 generalize extsV l = ev at *
 clear hcell1 hn1 hc1 hnn hl
 go_enter Tryz.func61, Tryz.ntmps61
 go_wp2
 go_loopw [5, 6, 11] (fun v5 m i wr => ∃ k : Nat, k ≤ n ∧ i = .int .i64 k ∧ m = .bool ((l.take k).any mB) ∧ Hid ((l.take k).all okE = true) ∧ Hid (wr.ownsRow w.heap.size 64 2 v5 k (((l.take k).map atPr).flatMap prC)) ∧ Hid (Ext w wr)) (fun _ _ i _ => n - (intOf i).toNat)
 case atStart => exact ⟨0, by omega, rfl, rfl, Lib.hid rfl, Lib.hid (World.ownsRow_nil _ _ _ _), Lib.hid (ext_refl w)⟩
 case round =>
  obtain ⟨k, hk, rfl, rfl, HA, HO, HX⟩ := hrel
  by_cases h3 : k < n
  ·have hkl : k < l.length := by rw [Hn.out]; exact h3
   obtain ⟨p, hp⟩ : ∃ p, l[k] = p := ⟨_, rfl⟩
   have e1 := ext_cell HX.out (HC1.out k (Str p) (by rw [List.getElem?_map, List.getElem?_eq_getElem hkl, hp]; rfl))
   have hmem : p ∈ l := by rw [← hp]; exact List.getElem_mem _
   have hpl := HL0.out p hmem
   have hb := HBAD.out p hmem
   have HB := Lib.hid (show okE p = false → ev = ([], false, false) from hb)
   have htk : l.take (k + 1) = l.take k ++ [p] := by rw [List.take_succ_eq_append_getElem hkl, hp]
   have HTA := Lib.hid (show okE p = true → (l.take (k + 1)).all okE = true from fun h => by rw [htk, List.all_append, HA.out]; simp [h])
   have HTM := Lib.hid (show (l.take (k + 1)).any mB = ((l.take k).any mB || mB p) by rw [htk, List.any_append]; simp)
   have HTC := Lib.hid (show ((l.take (k + 1)).map atPr).flatMap prC = ((l.take k).map atPr).flatMap prC ++ [Str (p.take 1), Str (p.drop 2)] by rw [htk, List.map_append, List.flatMap_append]; simp [atPr, prC])
   have HOK := Lib.hid (show okE p = ((decide (2 ≤ p.length) && (bt p 1 == 61)) && (letB (bt p 0) && valB (p.drop 2))) from rfl)
   have HMB := Lib.hid (show mB p = (bt p 0 == 109) from rfl)
   clear hp hmem hb htk
   generalize okE p = op at *
   generalize mB p = mp at *
   generalize (l.take k).any mB = m0 at *
   by_cases hl2 : 2 ≤ p.length
   ·have g1 : ¬ (p.length : Int) < 2 := by omega
    have x1 : ∀ W, (Instr.index 9 (Str p) (.int .i64 1)).run Tryz.prog W = .ok (Byt (bt p 1)) W := fun W => run_index_str Tryz.underlying9 p 1 _ rfl (by omega) W
    have x0 : ∀ W, (Instr.index 9 (Str p) (.int .i64 0)).run Tryz.prog W = .ok (Byt (bt p 0)) W := fun W => run_index_str Tryz.underlying9 p 0 _ rfl (by omega) W
    have y1 : ∀ W, (Instr.slice 9 (Str p) none (some (.int .i64 1)) none).run Tryz.prog W = .ok (Str (p.take 1)) W := fun W => slice_to p 1 (by omega) W
    have y2 : ∀ W, (Instr.slice 9 (Str p) (some (.int .i64 2)) none none).run Tryz.prog W = .ok (Str (p.drop 2)) W := fun W => slice_from p 2 (by omega) W
    rw [decide_eq_true hl2, Bool.true_and] at HOK
    have HLT := Lib.hid (fun W => rLetter_any (bt p 0) W)
    have HVL := Lib.hid (fun W => rValue_any (p.drop 2) (by simp; omega) W)
    generalize bt p 0 = c0 at *
    generalize bt p 1 = c1' at *
    generalize p.take 1 = q1 at *
    generalize p.drop 2 = q2 at *
    by_cases h61 : c1' = 61
    ·subst h61
     generalize letB c0 = lb at *
     generalize valB q2 = vb at *
     cases lb with
     | false =>
       have he := HB.out (by rw [HOK.out]; simp)
       subst he
       clear HTA HTM HTC HOK HMB HB
       go_wp2_with (go_at_call 77; refine (HLT.out _).mono ?_; rintro e W1 ⟨he1, hw1⟩; subst he1; subst W1)
       go_ret3
       exact ⟨_, rfl, World.ownsRow_nil _ _ _ _, HX.out⟩
     | true =>
       cases vb with
       | false =>
         have he := HB.out (by rw [HOK.out]; rfl)
         subst he
         clear HTA HTM HTC HOK HMB HB
         go_wp2_with (go_at_call 77; refine (HLT.out _).mono ?_; rintro e W1 ⟨he1, hw1⟩; subst he1; subst W1)
         go_wp2_with fail
         refine (HVL.out _).mono ?_
         rintro e W1 ⟨rfl, hx1⟩
         have HX1 := Lib.hid (ext_trans HX.out hx1)
         clear hx1
         go_wp2
         go_ret3
         exact ⟨_, rfl, World.ownsRow_nil _ _ _ _, HX1.out⟩
       | true =>
         have HA2 := Lib.hid (HTA.out (by rw [HOK.out]; rfl))
         clear HTA HOK HB
         go_wp2_with (go_at_call 77; refine (HLT.out _).mono ?_; rintro e W1 ⟨he1, hw1⟩; subst he1; subst W1)
         go_wp2_with fail
         refine (HVL.out _).mono ?_
         rintro e W1 ⟨rfl, hx1⟩
         have HX1 := Lib.hid (ext_trans HX.out hx1)
         have HO1 := Lib.hid (ownz_ext HO.out hx1)
         clear hx1
         obtain ⟨po, pcap, hpv, hpc⟩ := ownz_shape HO1.out
         subst hpv
         have HM2 := Lib.hid (show (l.take (k + 1)).any mB = (m0 || (c0 == 109)) by rw [HTM.out, HMB.out])
         clear HTM HMB
         go_upto_region 8 with fail
         go_cut [6] (fun s6 wx => wx = W1 ∧ s6 = .bool (m0 || (c0 == 109)))
         case first =>
          cases m0 with
          | true =>
            go_wp2
            go_meet
            exact ⟨rfl, rfl⟩
          | false =>
            by_cases h9 : c0 = 109
            ·subst h9
             go_wp2
             go_meet
             exact ⟨rfl, rfl⟩
            ·have h9n : ((c0.toNat : Int) == 109) = false := by
               have : c0.toNat ≠ 109 := fun h => h9 (UInt8.toNat_inj.1 h)
               simp; omega
             have h9m : (c0 == 109) = false := by simp [h9]
             have HM9 := Lib.hid h9m
             clear h9 h9m
             go_wp2
             go_meet
             exact ⟨rfl, by rw [HM9.out]; rfl⟩
         case rest =>
          obtain ⟨hwc, rfl⟩ := hcut
          subst wc
          generalize (m0 || (c0 == 109)) = m2 at *
          go_upto_region 9 with fail
          refine wp_region_any (by kernel_rfl) ?_
          change wpAny _ _ _ _ _ _ _ (World.drew _)
          refine wpAny_inv (n := 9) [41, 42, 43, 44, 45, 46, 47, 48, 5] (fun u L w' =>
              (L 0 = true → u 41 = .slice po k pcap) ∧
              (L 1 = true → u 42 = Str p) ∧
              (L 2 = true → u 43 = Str q1) ∧
              (L 3 = true → u 44 = Str p) ∧
              (L 4 = true → u 45 = Str q2) ∧
              (L 5 = true → u 46 = .agg #[Str q1, Str q2]) ∧
              (L 6 = true → L 7 = false → ∃ g', u 47 = .slice (some ⟨g', 0, none⟩) 1 1 ∧ w'.heap[g']? = some (.cells #[Str q1, Str q2] 64 (0, 0))) ∧
              (L 7 = true → w'.ownsRow (w.heap.size) 64 2 (u 48) (k + 1) ((((l.take k).map atPr).flatMap prC) ++ [Str q1, Str q2])) ∧
              (L 8 = true → u 5 = u 48) ∧
              (L 8 = false → u 5 = .slice po k pcap) ∧
              (Ext w w') ∧
              (L 7 = false → w'.ownsRow w.heap.size 64 2 (.slice po k pcap) k (((l.take k).map atPr).flatMap prC)))
           (by rfl) (by kernel_rfl) (by kernel_rfl) (by rfl) ?_ ?_ ?_
          ·exact ⟨(fun h => by cases h), (fun h => by cases h), (fun h => by cases h), (fun h => by cases h), (fun h => by cases h), (fun h => by cases h), (fun h => by cases h), (fun h => by cases h), (fun h => by cases h), (fun _ => rfl), Below.drew HX1.out, fun _ => ownz_ext HO1.out (Below.drew (Below.refl _ _))⟩
          ·refine ⟨⟨⟨⟨⟨⟨⟨⟨⟨trivial, ?_⟩, ?_⟩, ?_⟩, ?_⟩, ?_⟩, ?_⟩, ?_⟩, ?_⟩, ?_⟩
           ·refine stepOk_some (i := 0) (by rfl) (by rfl) ?_
            rintro u L T w' hT hu hL hp hcl ⟨C0, C1, C2, C3, C4, C5, C6, C7, C8, Z8, E0, D⟩ K hK
            have e1 := Z8 (hcl.not 8 (by kernel_rfl) hL)
            go_simp
            refine hK _ _ ?_
            exact ⟨fun _ => rfl, U C1, U C2, U C3, U C4, U C5, V C6, U C7, U C8, U Z8, E0, U D⟩
           ·refine stepOk_some (i := 1) (by rfl) (by rfl) ?_
            rintro u L T w' hT hu hL hp hcl ⟨C0, C1, C2, C3, C4, C5, C6, C7, C8, Z8, E0, D⟩ K hK
            have e1 : u 8 = Str p := hu 8 (by decide)
            go_simp
            refine hK _ _ ?_
            exact ⟨U C0, fun _ => rfl, U C2, U C3, U C4, U C5, V C6, U C7, U C8, U Z8, E0, U D⟩
           ·refine stepOk_some (i := 2) (by rfl) (by rfl) ?_
            rintro u L T w' hT hu hL hp hcl ⟨C0, C1, C2, C3, C4, C5, C6, C7, C8, Z8, E0, D⟩ K hK
            have e1 := C1 (hp.of 1 (by kernel_rfl))
            go_simp
            try go_bits
            try (rw [if_neg (by omega)]; go_simp)
            try (rw [if_pos (by omega)]; go_simp)
            refine hK _ _ ?_
            exact ⟨U C0, U C1, fun _ => rfl, U C3, U C4, U C5, V C6, U C7, U C8, U Z8, E0, U D⟩
           ·refine stepOk_some (i := 3) (by rfl) (by rfl) ?_
            rintro u L T w' hT hu hL hp hcl ⟨C0, C1, C2, C3, C4, C5, C6, C7, C8, Z8, E0, D⟩ K hK
            have e1 : u 8 = Str p := hu 8 (by decide)
            go_simp
            refine hK _ _ ?_
            exact ⟨U C0, U C1, U C2, fun _ => rfl, U C4, U C5, V C6, U C7, U C8, U Z8, E0, U D⟩
           ·refine stepOk_some (i := 4) (by rfl) (by rfl) ?_
            rintro u L T w' hT hu hL hp hcl ⟨C0, C1, C2, C3, C4, C5, C6, C7, C8, Z8, E0, D⟩ K hK
            have e3 := C3 (hp.of 3 (by kernel_rfl))
            go_simp
            try go_bits
            try (rw [if_neg (by omega)]; go_simp)
            try (rw [if_pos (by omega)]; go_simp)
            refine hK _ _ ?_
            exact ⟨U C0, U C1, U C2, U C3, fun _ => rfl, U C5, V C6, U C7, U C8, U Z8, E0, U D⟩
           ·refine stepOk_some (i := 5) (by rfl) (by rfl) ?_
            rintro u L T w' hT hu hL hp hcl ⟨C0, C1, C2, C3, C4, C5, C6, C7, C8, Z8, E0, D⟩ K hK
            have e2 := C2 (hp.of 2 (by kernel_rfl))
            have e4 := C4 (hp.of 4 (by kernel_rfl))
            go_simp
            try go_bits
            try (rw [if_neg (by omega)]; go_simp)
            try (rw [if_pos (by omega)]; go_simp)
            refine hK _ _ ?_
            exact ⟨U C0, U C1, U C2, U C3, U C4, fun _ => rfl, V C6, U C7, U C8, U Z8, E0, U D⟩
           ·refine stepOk_some (i := 6) (by rfl) (by rfl) ?_
            rintro u L T w' hT hu hL hp hcl ⟨C0, C1, C2, C3, C4, C5, C6, C7, C8, Z8, E0, D⟩ K hK
            have e5 := C5 (hp.of 5 (by kernel_rfl))
            go_simp
            have hx1 : Ext w' (w'.alloc (.cells #[Str q1, Str q2] 64)) := Below.alloc (Below.refl _ _) (Nat.le_refl _) _
            refine hK _ _ ?_
            exact ⟨U C0, U C1, U C2, U C3, U C4, U C5, fun _ _ => ⟨_, rfl, Array.getElem?_push_size⟩, fun h => ownz_ext (C7 (up h)) hx1, U C8, U Z8, ext_trans (E0) hx1, fun h => ownz_ext (D (up h)) hx1⟩
           ·refine stepOk_some (i := 7) (by rfl) (by rfl) ?_
            rintro u L T w' hT hu hL hp hcl ⟨C0, C1, C2, C3, C4, C5, C6, C7, C8, Z8, E0, D⟩ K hK
            have e0 := C0 (hp.of 0 (by kernel_rfl))
            obtain ⟨g', e2, hg'⟩ := C6 (hp.of 6 (by kernel_rfl)) hL
            have hown := D hL
            refine step_pushC (w.heap.size) rfl _ _ 24 64 (by rfl) Tryz.underlying24 infoPair rfl (by omega) (by omega) (us := [Str q1, Str q2]) hown rfl (by simp [Str, Value.oneCell']) (by omega) E0.size (by exact (hT _).trans e0) (by exact (hT _).trans e2) hg' ?_
            rintro v' w1 hown1 hgr1
            have hx1 := ext_pushz E0 hown hgr1
            refine hK _ _ ?_
            exact ⟨U C0, U C1, U C2, U C3, U C4, U C5, fun h h2 => absurd h2 (by simp), fun _ => hown1, fun h => absurd h (by simp [hcl.not 8 (by kernel_rfl) hL]), U Z8, hx1, fun h => absurd h (by simp)⟩
           ·refine stepOk_some (i := 8) (by rfl) (by rfl) ?_
            rintro u L T w' hT hu hL hp hcl ⟨C0, C1, C2, C3, C4, C5, C6, C7, C8, Z8, E0, D⟩ K hK
            have e7 := C7 (hp.of 7 (by kernel_rfl))
            go_simp
            refine hK _ _ ?_
            exact ⟨U C0, U C1, U C2, U C3, U C4, U C5, V C6, U C7, fun _ => rfl, fun h => absurd h (by simp), E0, U D⟩
          ·rintro u L w' hall hu ⟨C0, C1, C2, C3, C4, C5, C6, C7, C8, Z8, E0, D⟩
           replace C0 := C0 (hall 0 (by omega))
           replace C1 := C1 (hall 1 (by omega))
           replace C2 := C2 (hall 2 (by omega))
           replace C3 := C3 (hall 3 (by omega))
           replace C4 := C4 (hall 4 (by omega))
           replace C5 := C5 (hall 5 (by omega))
           replace C7 := C7 (hall 7 (by omega))
           replace C8 := C8 (hall 8 (by omega))
           simp only [fill, List.setIfInBounds_toArray, List.set_cons_succ, List.set_cons_zero, C0, C1, C2, C3, C4, C5, C8]
           generalize u 47 = s0 at *
           generalize u 48 = s1 at *
           clear C0 C1 C2 C3 C4 C5 C6 C8 Z8 hu hall
           have HO2 := Lib.hid C7; have HX2 := Lib.hid E0
           clear E0 D
           go_wp2
           go_roundw
           case rel => exact ⟨k + 1, by omega, by go_num, by rw [HM2.out], HA2, Lib.hid (by rw [HTC.out]; exact HO2.out), HX2⟩
           case measure => simp [intOf] <;> omega
    ·have h61n : ((c1'.toNat : Int) == 61) = false := by
       have : c1'.toNat ≠ 61 := fun h => h61 (UInt8.toNat_inj.1 h)
       simp; omega
     have h61m : ((c1'.toNat : Int) != 61) = true := by simpa using h61n
     have he := HB.out (by rw [HOK.out]; simp [h61])
     subst he
     clear HTA HTM HTC HOK HMB HB h61
     go_wp2
     go_ret3
     exact ⟨_, rfl, World.ownsRow_nil _ _ _ _, HX.out⟩
   ·have g1 : (p.length : Int) < 2 := by omega
    have he := HB.out (by rw [HOK.out, decide_eq_false hl2]; rfl)
    subst he
    clear HTA HTM HTC HOK HMB HB
    go_wp2
    go_ret3
    exact ⟨_, rfl, World.ownsRow_nil _ _ _ _, HX.out⟩
  ·obtain rfl : k = n := by omega
   have htn : l.take k = l := List.take_of_length_le (by rw [Hn.out]; omega)
   rw [htn] at HA HO
   have he := HEV.out
   rw [if_pos HA.out] at he
   subst he
   rw [htn]
   have HR := Lib.hid (show wr.ownsRow w.heap.size 64 2 _ l.length ((l.map atPr).flatMap prC) by rw [Hn.out]; exact HO.out)
   clear HO htn HA
   go_wp2
   go_ret3
   exact ⟨_, rfl, HR.out, HX.out⟩
end Go.Proofs.YtjkbigecejogdaaGreatDoor
