/-
  The walk of B64Lines.
-/
import Derived.Test.YtkfhbahgoemnpaaDoorRows
import Derived.Test.YtkfhbahgoemnpaaDoorAwk
import Derived.Test.YtkfhbahgoemnpaaDoorUnw
namespace Go.Proofs.YtkfhbahgoemnpaaDoor
open Go.RowKit
set_option linter.unusedVariables false
set_option linter.unusedSimpArgs false

theorem unl_take (l : List UInt8) (k : Nat) (h : k < l.length) : unl (l.take (k + 1)) = unl (l.take k) ++ (if bt l k != 10 then [bt l k] else []) := by
  rw [take_snoc l k h, unl, List.filter_append]
  congr 1
  simp [List.filter]
  split <;> simp_all

set_option maxHeartbeats 2000000 in
theorem lines_any (l0 : List UInt8) (z m : Int) (w : World) (hm : w.cell? ⟨0, 0, none⟩ = some (.int .i64 m)) :
    Calls Tryd.prog 3 #[Str l0, .int .i64 z] w fun e w' => e = .returned (.bool true) ∧ Ext w w' := by
  have HM := Lib.hid hm; clear hm
  go_enter Tryd.func3, Tryd.ntmps3
  go_wp2_with fail
  refine (awake_any w).mono ?_
  rintro e W1 ⟨rfl, hx1⟩
  go_wp2_with fail
  refine (cutText_any l0 200 W1 (by omega)).mono ?_
  rintro e W ⟨he, hw⟩
  subst he; subst hw
  have hl : (l0.take 200).length ≤ 200 := by simp; omega
  generalize l0.take 200 = x at *
  have T := Lib.hid hx1
  clear hx1
  obtain ⟨pa, na, qa⟩ : ∃ p n, unwR z x = (p, n) := ⟨_, _, rfl⟩
  have hE := unwrap_any x z m W (by omega) (ext_cell T.out HM.out)
  rw [qa] at hE
  have HE := Lib.hid hE; have QA := Lib.hid qa
  clear hE qa
  go_wp2_with fail
  refine HE.out.mono ?_
  rintro e W2 ⟨he, hx⟩
  try dsimp only at he
  subst he
  replace T := Lib.hid (T.out.trans (hx.mono T.out.size))
  clear hx HE
  have hf := QA.out
  unfold unwR at hf
  by_cases hz : z < 1
  · rw [if_pos hz] at hf
    cases hf
    have hz1 : decide (z < 1) = true := by simp; omega
    clear hz QA
    go_wp2_with fail
    go_ret
    exact ⟨rfl, T.out⟩
  · rw [if_neg hz] at hf
    have hz1 : decide (z < 1) = false := by simp; omega
    clear hz
    have hixl : ∀ i, i < x.length → ∀ W, (Instr.index 9 (Str x) (.int .i64 (i : Int))).run Tryd.prog W = .ok (Byt (bt x i)) W := fun i hi W => run_index_str Tryd.underlying9 x i _ rfl hi W
    have HI := Lib.hid hixl; clear hixl
    have HF := Lib.hid hf; clear hf
    go_wp2_with fail
    go_loop [7, 8] (fun s i => ∃ k : Nat, k ≤ x.length ∧ i = .int .i64 k ∧ s = Str (unl (x.take k))) (fun _ i => x.length - (intOf i).toNat)
    case atStart => exact ⟨0, by omega, rfl, rfl⟩
    case round =>
      obtain ⟨k, hk, rfl, rfl⟩ := hrel
      by_cases h3 : k < x.length
      · have hix := HI.out k h3
        have hu := unl_take x k h3
        have hcut := cut_one x k h3
        have hlu : (unl (x.take k)).length ≤ 200 := by have := unl_len (x.take k); simp at this; omega
        have hc := (bt x k).toNat_lt
        have h10 : (bt x k != 10) = ((bt x k).toNat != 10) := by
          rw [Bool.eq_iff_iff]; simp only [bne_iff_ne, ne_eq]
          constructor
          · intro h e; exact h (UInt8.toNat_inj.1 (by rw [e]; rfl))
          · intro h e; exact h (by rw [e]; rfl)
        rw [h10] at hu
        generalize bt x k = c at *
        generalize unl (x.take k) = s at *
        clear h10
        by_cases he : c.toNat = 10
        · have hb : (((c.toNat : Int)) != 10) = false := by simp; omega
          rw [show (c.toNat != 10) = false by simp [he]] at hu
          have HU := Lib.hid hu; clear hu he hcut
          go_wp2_with fail
          go_round
          case rel => exact ⟨k + 1, by omega, by go_num, by rw [HU.out]; simp⟩
          case measure => simp [intOf] <;> omega
        · have hb : (((c.toNat : Int)) != 10) = true := by simp; omega
          rw [show (c.toNat != 10) = true by simp [he]] at hu
          have HU := Lib.hid hu; have HC := Lib.hid hcut; clear hu he hcut
          go_wp2_with fail
          go_round
          case rel => exact ⟨k + 1, by omega, by go_num, by rw [HU.out, HC.out]; simp [Str]⟩
          case measure => simp [intOf] <;> omega
      · obtain rfl : k = x.length := by omega
        rw [List.take_length]
        have hul := unl_len x
        have hL := letters_any (unl x) W2 (by omega)
        have hRW := fun U => refWrap_any (unl x) z U (by omega)
        have hW := fun U => wrap_any (unl x) z U (by omega)
        have hf := HF.out
        have HUN := Lib.hid (fun U h => unwrap_any x z m U (by omega) h)
        rw [QA.out] at HUN
        generalize unl x = t at *
        cases hok : okF t with
        | false =>
          rw [hok, if_neg (by simp)] at hf
          rw [hok] at hL
          cases hf
          have HL := Lib.hid hL; clear hL hRW hW hok
          go_wp2_with fail
          refine HL.out.mono ?_
          rintro e W3 ⟨he, hw⟩
          subst he; subst hw
          go_wp2_with fail
          go_ret
          exact ⟨rfl, T.out⟩
        | true =>
          rw [hok, if_pos rfl] at hf
          rw [hok] at hL
          have HL := Lib.hid hL; have HRW := Lib.hid hRW; have HW := Lib.hid hW
          clear hL hRW hW hok
          by_cases heq : linesL (grpL z t) = x
          · rw [if_pos heq] at hf
            rw [heq] at HRW HW
            cases hf
            clear heq
            go_wp2_with fail
            refine HL.out.mono ?_
            rintro e W3 ⟨he, hw⟩
            subst he; subst hw
            go_wp2_with fail
            refine (HRW.out _).mono ?_
            rintro e W4 ⟨he, hx⟩
            subst he
            replace T := Lib.hid (T.out.trans (hx.mono T.out.size))
            clear hx
            go_wp2_with fail
            refine (HW.out _).mono ?_
            rintro e W5 ⟨he, hx⟩
            subst he
            replace T := Lib.hid (T.out.trans (hx.mono T.out.size))
            clear hx
            go_wp2_with fail
            refine (HUN.out _ (ext_cell T.out HM.out)).mono ?_
            rintro e W6 ⟨he, hx⟩
            try dsimp only at he
            subst he
            replace T := Lib.hid (T.out.trans (hx.mono T.out.size))
            clear hx
            go_wp2_with fail
            go_ret
            exact ⟨rfl, T.out⟩
          · rw [if_neg heq] at hf
            cases hf
            have hbq : (linesL (grpL z t) == x) = false := by simp [heq]
            clear heq
            generalize linesL (grpL z t) = L at *
            go_wp2_with fail
            refine HL.out.mono ?_
            rintro e W3 ⟨he, hw⟩
            subst he; subst hw
            go_wp2_with fail
            refine (HRW.out _).mono ?_
            rintro e W4 ⟨he, hx⟩
            subst he
            replace T := Lib.hid (T.out.trans (hx.mono T.out.size))
            clear hx
            go_wp2_with fail
            go_ret
            exact ⟨rfl, T.out⟩
end Go.Proofs.YtkfhbahgoemnpaaDoor
