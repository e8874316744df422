/-
  ScramLong's four texts: what the law's parse answers of each.
-/
import Derived.Test.YteickmohloglhaaGreatDoorRows
import Derived.Test.YteickmohloglhaaGreatDoorLpa
import Derived.Test.YteickmohloglhaaGreatDoorPfx
import Derived.Test.YteickmohloglhaaGreatDoorPve
import Derived.Test.YteickmohloglhaaGreatDoorPfn
namespace Go.Proofs.YteickmohloglhaaGreatDoor
open Go.RowKit
set_option maxRecDepth 100000
set_option linter.unusedVariables false
set_option linter.unusedSimpArgs false
theorem pln_ys (m : Nat) : pln (ys m) := by
  intro c hc
  rw [ys_mem hc]; decide
theorem ys_ne {m : Nat} (h : 0 < m) : ys m ≠ [] := by
  intro e
  have := congrArg List.length e
  rw [ys_len] at this
  simp at this; omega
theorem value_ys (m : Nat) (h0 : 0 < m) (h1 : m ≤ 10000) (W : World) (hF : FormsAt W) : Calls Tryz.prog 21 #[Str (ys m)] W fun e w' => e = .returned (.bool true) ∧ Ext W w' :=
  value_pln (ys m) (by rw [ys_len]; exact h1) (ys_ne h0) (pln_ys m) W hF
def vT (_ : List UInt8) : Bool := true
theorem ok_x (m : Nat) : [xP m].all (okA vT) = true := by
  have h : letB 120 = true := by decide +kernel
  simp [okA, vT, xP, bt, h]
theorem den_x (m : Nat) : denB [xP m] = false := by simp [denB, xP]
theorem one_x (m : Nat) : ∀ p ∈ [xP m], 1 ≤ p.length := by
  intro p hp
  rw [List.mem_singleton] at hp
  subst hp
  simp [xP]
theorem val_x (m : Nat) (h0 : 0 < m) (h1 : m ≤ 10000) : ∀ p ∈ [xP m], ∀ W, FormsAt W → Calls Tryz.prog 21 #[Str (p.drop 2)] W fun e w' => e = .returned (.bool (vT p)) ∧ Ext W w' := by
  intro p hp W hF
  rw [List.mem_singleton] at hp
  subst hp
  exact value_ys m h0 h1 W hF
def F1 : List UInt8 := [110, 44, 44, 110, 61, 117, 44, 114, 61, 97, 44, 120, 61]
def F2 : List UInt8 := [114, 61, 97, 44, 115, 61, 65, 65, 61, 61, 44, 105, 61, 49, 44, 120, 61]
def F3 : List UInt8 := [99, 61, 98, 105, 119, 115, 44, 114, 61, 97, 44, 120, 61]
def F4 : List UInt8 := [101, 61, 120, 44, 120, 61]
def E32 : List UInt8 := List.replicate 43 65 ++ [61]
def B3 : List UInt8 := 44 :: 112 :: 61 :: E32
theorem bare1_eq (m : Nat) : [110, 61, 117, 44, 114, 61, 97, 44, 120, 61] ++ ys m = [110, 61, 117] ++ 44 :: ([114, 61, 97] ++ 44 :: xP m) := rfl
theorem spl1 (m : Nat) : spl ([110, 61, 117, 44, 114, 61, 97, 44, 120, 61] ++ ys m) = [[110, 61, 117], [114, 61, 97], xP m] := by
  rw [bare1_eq, spl_app, spl_app, spl_one _ (xP_nc m), spl_one _ (by decide), spl_one _ (by decide)]; rfl
theorem spl2 (m : Nat) : spl (F2 ++ ys m ++ []) = [[114, 61, 97], [115, 61, 65, 65, 61, 61], [105, 61, 49], xP m] := by
  rw [show F2 ++ ys m ++ [] = [114, 61, 97] ++ 44 :: ([115, 61, 65, 65, 61, 61] ++ 44 :: ([105, 61, 49] ++ 44 :: xP m)) by rw [List.append_nil]; rfl, spl_app, spl_app, spl_app, spl_one _ (xP_nc m), spl_one _ (by decide), spl_one _ (by decide), spl_one _ (by decide)]; rfl
theorem spl4 (m : Nat) : spl (F4 ++ ys m ++ []) = [[101, 61, 120], xP m] := by
  rw [show F4 ++ ys m ++ [] = [101, 61, 120] ++ 44 :: xP m by rw [List.append_nil]; rfl, spl_app, spl_one _ (xP_nc m), spl_one _ (by decide)]; rfl
theorem spl3 (m : Nat) : spl (F3 ++ ys m ++ B3) = [[99, 61, 98, 105, 119, 115], [114, 61, 97], xP m, 112 :: 61 :: E32] := by
  rw [show F3 ++ ys m ++ B3 = [99, 61, 98, 105, 119, 115] ++ 44 :: ([114, 61, 97] ++ 44 :: (xP m ++ 44 :: (112 :: 61 :: E32))) by simp [F3, B3, xP], spl_app, spl_app, spl_app, spl_one _ (xP_nc m), spl_one _ (by decide), spl_one _ (by decide), spl_one _ (by decide)]; rfl
theorem at_c (c : UInt8) (t : List UInt8) : isAt (c :: 61 :: t) = true := by simp [isAt, bt]
def codeOf (Z : Nat) : Int := if 4096 < Z then 3 else 0
theorem codeOf_or (Z : Nat) : codeOf Z = 0 ∨ codeOf Z = 3 := by unfold codeOf; split <;> simp
theorem text_1 (m Z : Nat) (hZ : F1.length + m + ([] : List UInt8).length = Z) (h1 : 4000 ≤ Z) (h2 : Z ≤ 5000) (w : World) (hM : MaxAt w) (hF : FormsAt w) (hT : TabW w) :
    Calls Tryz.prog 6 #[.int .i64 1, Str (F1 ++ ys m ++ [])] w fun e w' => (∃ v, e = .returned (.tuple #[v, .int .i64 (codeOf Z)]) ∧ MsgV v) ∧ Ext w w' := by
  have hl : (F1 ++ ys m ++ []).length = Z := by rw [List.length_append, List.length_append, ys_len]; exact hZ
  have hF1 : F1.length = 13 := rfl
  have hm : 0 < m := by simp at hZ; omega
  have hm2 : m ≤ 10000 := by simp at hZ; omega
  refine parse_1 _ _ (codeOf_or Z) w fun W hx => ?_
  by_cases hz : 4096 < Z
  · rw [show codeOf Z = 3 by simp [codeOf, hz]]
    exact (ParseFirst_long _ (by omega) (by omega) W).mono fun e w' h => ⟨⟨[], [], [], [], none, 0, 0, h.1⟩, h.2⟩
  · rw [show codeOf Z = 0 by simp [codeOf, hz]]
    refine (ParseFirst_ok vT (F1 ++ ys m ++ []) (44 :: ([110, 61, 117, 44, 114, 61, 97, 44, 120, 61] ++ ys m)) ([110, 61, 117, 44, 114, 61, 97, 44, 120, 61] ++ ys m) [117] [97] [xP m] (by omega) ?_ ?_ ?_ ?_ ?_ ?_ (by simp) (by simp) ?_ (by simp) (by decide +kernel) (one_x m) (ok_x m) (den_x m) (val_x m hm hm2) W (hM.ext hx) (hF.ext hx)).mono fun e w' ⟨⟨a, b, c, he⟩, hx'⟩ => ⟨⟨_, _, _, _, a, b, c, he⟩, hx'⟩
    · rw [List.append_nil]
      exact cut_at [110] (44 :: ([110, 61, 117, 44, 114, 61, 97, 44, 120, 61] ++ ys m)) (by decide)
    · exact cut_at [] ([110, 61, 117, 44, 114, 61, 97, 44, 120, 61] ++ ys m) (by simp)
    · simp [ys_len]; omega
    · simp [ys_len]; omega
    · unfold attsP; rw [spl1]; simp [List.takeWhile, at_c, xP_at]
    · rw [spl1]; rfl
    · intro c hc; rw [List.mem_singleton] at hc; subst hc; decide
theorem text_2 (m Z : Nat) (hZ : F2.length + m + ([] : List UInt8).length = Z) (h1 : 4000 ≤ Z) (h2 : Z ≤ 5000) (w : World) (hM : MaxAt w) (hF : FormsAt w) (hT : TabW w) :
    Calls Tryz.prog 6 #[.int .i64 2, Str (F2 ++ ys m ++ [])] w fun e w' => (∃ v, e = .returned (.tuple #[v, .int .i64 (codeOf Z)]) ∧ MsgV v) ∧ Ext w w' := by
  have hl : (F2 ++ ys m ++ []).length = Z := by rw [List.length_append, List.length_append, ys_len]; exact hZ
  have hF2 : F2.length = 17 := rfl
  have hm : 0 < m := by simp at hZ; omega
  have hm2 : m ≤ 10000 := by simp at hZ; omega
  refine parse_2 _ _ (codeOf_or Z) w fun W hx => ?_
  by_cases hz : 4096 < Z
  · rw [show codeOf Z = 3 by simp [codeOf, hz]]
    exact (ParseChallenge_long _ (by omega) (by omega) W).mono fun e w' h => ⟨⟨[], none, 0, 0, 0, none, 0, 0, h.1⟩, h.2⟩
  · rw [show codeOf Z = 0 by simp [codeOf, hz]]
    refine (ParseChallenge_ok vT (F2 ++ ys m ++ []) [97] [65, 65, 61, 61] [xP m] (by omega) ?_ ?_ (by simp) (by decide +kernel) (by simp) (by decide +kernel) (one_x m) (ok_x m) (den_x m) (val_x m hm hm2) W (hM.ext hx) (hF.ext hx) (hT.ext hx)).mono fun e w' ⟨⟨a, b, c, a2, b2, c2, he⟩, hx'⟩ => ⟨⟨_, a, b, c, _, a2, b2, c2, he⟩, hx'⟩
    · unfold attsP; rw [spl2]; simp [List.takeWhile, at_c, xP_at]
    · rw [spl2]; rfl
theorem text_3 (m Z : Nat) (hZ : F3.length + m + B3.length = Z) (h1 : 4000 ≤ Z) (h2 : Z ≤ 5000) (w : World) (hM : MaxAt w) (hF : FormsAt w) (hT : TabW w) :
    Calls Tryz.prog 6 #[.int .i64 3, Str (F3 ++ ys m ++ B3)] w fun e w' => (∃ v, e = .returned (.tuple #[v, .int .i64 (codeOf Z)]) ∧ MsgV v) ∧ Ext w w' := by
  have hl : (F3 ++ ys m ++ B3).length = Z := by rw [List.length_append, List.length_append, ys_len]; exact hZ
  have hF3 : F3.length = 13 := rfl
  have hB3 : B3.length = 47 := rfl
  have hm : 0 < m := by omega
  have hm2 : m ≤ 10000 := by omega
  refine parse_3 _ _ (codeOf_or Z) w fun W hx => ?_
  by_cases hz : 4096 < Z
  · rw [show codeOf Z = 3 by simp [codeOf, hz]]
    exact (ParseFinal_long _ (by omega) (by omega) W).mono fun e w' h => ⟨⟨[], [], none, 0, 0, none, 0, 0, h.1⟩, h.2⟩
  · rw [show codeOf Z = 0 by simp [codeOf, hz]]
    refine (ParseFinal_ok vT (F3 ++ ys m ++ B3) [98, 105, 119, 115] [97] E32 [xP m] (by omega) ?_ ?_ (by simp) (by decide +kernel) (by decide +kernel) (by simp) (by decide +kernel) (by decide) (by decide +kernel) (one_x m) (ok_x m) (den_x m) ?_ (val_x m hm hm2) W (hM.ext hx) (hF.ext hx)).mono fun e w' ⟨⟨a, b, c, a2, b2, c2, he⟩, hx'⟩ => ⟨⟨_, _, a, b, c, a2, b2, c2, he⟩, hx'⟩
    · unfold attsP; rw [spl3]; simp [List.takeWhile, at_c, xP_at]
    · rw [spl3]; rfl
    · intro p hp; rw [List.mem_singleton] at hp; subst hp; rfl
theorem text_4 (m Z : Nat) (hZ : F4.length + m + ([] : List UInt8).length = Z) (h1 : 4000 ≤ Z) (h2 : Z ≤ 5000) (w : World) (hM : MaxAt w) (hF : FormsAt w) (hT : TabW w) :
    Calls Tryz.prog 6 #[.int .i64 4, Str (F4 ++ ys m ++ [])] w fun e w' => (∃ v, e = .returned (.tuple #[v, .int .i64 (codeOf Z)]) ∧ MsgV v) ∧ Ext w w' := by
  have hl : (F4 ++ ys m ++ []).length = Z := by rw [List.length_append, List.length_append, ys_len]; exact hZ
  have hF4 : F4.length = 6 := rfl
  have hm : 0 < m := by simp at hZ; omega
  have hm2 : m ≤ 10000 := by simp at hZ; omega
  refine parse_4 _ _ (codeOf_or Z) w fun W hx => ?_
  by_cases hz : 4096 < Z
  · rw [show codeOf Z = 3 by simp [codeOf, hz]]
    exact (ParseVerdict_long _ (by omega) (by omega) W).mono fun e w' h => ⟨⟨[], none, 0, 0, none, 0, 0, h.1⟩, h.2⟩
  · rw [show codeOf Z = 0 by simp [codeOf, hz]]
    refine (ParseVerdict_ok vT (F4 ++ ys m ++ []) [120] [xP m] (by omega) ?_ ?_ (fun W hF => value_pln [120] (by simp) (by simp) (fun c hc => by rw [List.mem_singleton] at hc; subst hc; decide) W hF) (one_x m) (ok_x m) (den_x m) (val_x m hm hm2) W (hM.ext hx) (hF.ext hx)).mono fun e w' ⟨⟨a, b, c, he⟩, hx'⟩ => ⟨⟨_, none, 0, 0, a, b, c, he⟩, hx'⟩
    · unfold attsP; rw [spl4]; simp [List.takeWhile, at_c, xP_at]
    · rw [spl4]; rfl
end Go.Proofs.YteickmohloglhaaGreatDoor
