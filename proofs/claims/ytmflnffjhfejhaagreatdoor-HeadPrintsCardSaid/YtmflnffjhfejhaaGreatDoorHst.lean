/-
  head.status.
-/
import Derived.BigGuardPart
import Derived.Test.YtmflnffjhfejhaaGreatDoorRows
import Derived.Test.YtmflnffjhfejhaaGreatDoorHch
import Derived.Test.YtmflnffjhfejhaaGreatDoorLbk
import Derived.Test.YtmflnffjhfejhaaGreatDoorPrt
namespace Go.Proofs.YtmflnffjhfejhaaGreatDoor
open Go.RowKit
set_option maxRecDepth 100000
set_option linter.unusedVariables false
set_option linter.unusedSimpArgs false

/-- A status of three digits; 0: it is none. -/
def statO (l : List UInt8) : Int := if canB l && (decide (100 ≤ valD 0 l) && decide (valD 0 l ≤ 999)) then (valD 0 l : Int) else 0
theorem statO_spec (l : List UInt8) : statO l = if atoiOk l && (decide (100 ≤ atoiV l) && (decide (atoiV l ≤ 999) && (Lib.itoa (atoiV l) == l))) then atoiV l else 0 := by
  by_cases h : canB l && (decide (100 ≤ valD 0 l) && decide (valD 0 l ≤ 999))
  · have h2 := h
    simp only [Bool.and_eq_true, decide_eq_true_eq] at h2
    obtain ⟨h3, h4⟩ := (atoi_itoa l (valD 0 l : Int) (by omega)).2 ⟨h2.1, rfl, by omega⟩
    have hv : atoiV l = (valD 0 l : Int) := by simp [atoiV, h3]
    have ho : atoiOk l = true := by simp [atoiOk, h3]
    unfold statO
    rw [if_pos h, if_pos, hv]
    rw [hv, ho, h4]
    simp; omega
  · unfold statO
    rw [if_neg h, if_neg]
    intro h5
    apply h
    simp only [Bool.and_eq_true, decide_eq_true_eq, beq_iff_eq] at h5 ⊢
    obtain ⟨h1, h2, h3, h4⟩ := h5
    have h6 : Lib.atoiAll l = .ok (atoiV l) := by
      unfold atoiOk at h1
      unfold atoiV
      split at h1
      · rename_i v e; rw [e]
      · cases h1
    obtain ⟨q1, q2, q3⟩ := (atoi_itoa l (atoiV l) (by omega)).1 ⟨h6, h4⟩
    exact ⟨q1, by omega, by omega⟩
theorem statO_bounds (l : List UInt8) : statO l = 0 ∨ (100 ≤ statO l ∧ statO l ≤ 999) := by
  unfold statO
  split
  · rename_i h
    simp only [Bool.and_eq_true, decide_eq_true_eq] at h
    right; omega
  · left; rfl
set_option maxHeartbeats 1000000 in
theorem status_any (l : List UInt8) (hl : l.length ≤ 100000) (w : World) (hL : Lb w) :
    Calls Tryz.prog 39 #[Str l] w fun e w' => e = .returned (.int .i64 (statO l)) ∧ Ext w w' := by
  have hs := statO_spec l
  have hA := Lib.hid (atoi_any l hl w hL)
  have hvb := atoiV_bounds l
  have hI := Lib.hid (fun W hW => itoa_any (atoiV l) hvb.1 hvb.2 W hW)
  have hb := str_beq (Lib.itoa (atoiV l)) l
  have HL := Lib.hid hL; clear hL
  generalize statO l = so at *
  generalize atoiOk l = ok at *
  generalize atoiV l = v at *
  obtain ⟨cn, hcn⟩ : ∃ cn, (Lib.itoa v == l) = cn := ⟨_, rfl⟩
  rw [hcn] at hs
  have HS := Lib.hid hs; clear hs
  go_enter Tryz.func39, Tryz.ntmps39
  go_wp2_with fail
  refine hA.out.mono ?_
  rintro e W1 ⟨⟨ev, he, hev⟩, hx1⟩
  subst he
  have HX1 := Lib.hid hx1; clear hx1
  rcases hev with ⟨hok, rfl⟩ | ⟨hok, t, p, rfl⟩
  · by_cases h1 : 100 ≤ v
    · by_cases h2 : v ≤ 999
      · have t1 : decide (v < 100) = false := by simp; omega
        have t2 : decide ((999 : Int) < v) = false := by simp; omega
        have HS2 : Hid (so = if cn then v else 0) := Lib.hid (by rw [HS.out, hok, decide_eq_true h1, decide_eq_true h2]; rfl)
        clear HS hok
        go_wp2_with fail
        refine (hI.out _ (HL.out.ext HX1.out)).mono ?_
        rintro e W4 ⟨he, hx4⟩
        subst he
        have HX4 := Lib.hid (ext_trans HX1.out hx4)
        clear hx4
        cases cn with
        | false =>
          go_wp2
          go_ret
          exact ⟨by rw [HS2.out]; rfl, HX4.out⟩
        | true =>
          go_wp2
          go_ret
          exact ⟨by rw [HS2.out]; rfl, HX4.out⟩
      · have t1 : decide (v < 100) = false := by simp; omega
        have t2 : decide ((999 : Int) < v) = true := by simp; omega
        have HS2 : Hid (so = 0) := Lib.hid (by rw [HS.out, hok, decide_eq_true h1, decide_eq_false h2]; rfl)
        clear HS hok
        go_wp2
        go_ret
        exact ⟨by rw [HS2.out]; rfl, HX1.out⟩
    · have t1 : decide (v < 100) = true := by simp; omega
      have HS2 : Hid (so = 0) := Lib.hid (by rw [HS.out, hok, decide_eq_false h1]; rfl)
      clear HS hok
      go_wp2
      go_ret
      exact ⟨by rw [HS2.out]; rfl, HX1.out⟩
  · have HS2 : Hid (so = 0) := Lib.hid (by rw [HS.out, hok]; rfl)
    clear HS hok
    go_wp2
    go_ret
    exact ⟨by rw [HS2.out]; rfl, HX1.out⟩
end Go.Proofs.YtmflnffjhfejhaaGreatDoor
