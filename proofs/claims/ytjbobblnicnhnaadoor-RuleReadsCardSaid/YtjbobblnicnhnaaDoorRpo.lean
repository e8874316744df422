/-
  ref16.port.
-/
import Derived.BigGuardPart
import Derived.Test.YtjbobblnicnhnaaDoorRows
import Derived.Test.YtjbobblnicnhnaaDoorLbk
import Derived.Test.YtjbobblnicnhnaaDoorDcm
import Derived.Test.YtjbobblnicnhnaaDoorChr
import Derived.Test.YtjbobblnicnhnaaDoorPrt
namespace Go.Proofs.YtjbobblnicnhnaaDoor
open Go.RowKit
set_option maxRecDepth 100000
set_option linter.unusedVariables false
set_option linter.unusedSimpArgs false

/-- The document's words for a port. -/
theorem portO_ref (l : List UInt8) : portO l = if 1 ≤ l.length ∧ l.length ≤ 5 ∧ bt l 0 ≠ 48 ∧ l.all digB = true ∧ valD 0 l ≤ 65535 then some (valD 0 l) else none := by
  unfold portO
  by_cases h : canB l && (decide (1 ≤ valD 0 l) && decide (valD 0 l ≤ 65535))
  · rw [if_pos h]
    simp only [Bool.and_eq_true, decide_eq_true_eq] at h
    obtain ⟨hc, h1, h2⟩ := h
    have hc2 := hc
    unfold canB at hc2
    simp only [Bool.and_eq_true, Bool.or_eq_true, decide_eq_true_eq] at hc2
    obtain ⟨hd, hz⟩ := hc2
    have hl1 : 1 ≤ l.length := by rcases hz with h | ⟨h, _⟩ <;> omega
    have hne : l ≠ [] := by intro h; subst h; simp at hl1
    have h0 : bt l 0 ≠ 48 := by
      intro h48
      match l, hne with
      | c :: r, _ =>
        have hc48 : c = 48 := by simpa [bt, List.getD] using h48
        subst hc48
        rcases hz with h | ⟨_, h⟩
        · have hr : r = [] := by cases r with | nil => rfl | cons _ _ => simp at h
          subst hr
          simp [valD] at h1
        · simp at h
    have hl5 : l.length ≤ 5 := by
      match l, hne with
      | c :: r, _ =>
        have hc1 : c ≠ 48 := by simpa [bt, List.getD] using h0
        simp only [List.all_cons, Bool.and_eq_true, digB, decide_eq_true_eq] at hd
        have hcn : c.toNat ≠ 48 := fun h => hc1 (UInt8.toNat_inj.1 (by simpa using h))
        have hge : 10 ^ r.length * (c.toNat - 48) ≤ valD 0 (c :: r) := by
          have : ∀ (r : List UInt8) (n : Nat), 10 ^ r.length * n ≤ valD n r := by
            intro r
            induction r with
            | nil => intro n; simp [valD]
            | cons d r ih =>
              intro n
              have := ih (10 * n + (d.toNat - 48))
              simp only [valD, List.foldl_cons] at this ⊢
              refine Nat.le_trans ?_ this
              rw [List.length_cons, Nat.pow_succ, Nat.mul_assoc]
              exact Nat.mul_le_mul_left _ (by omega)
          have := this r (c.toNat - 48)
          simpa [valD] using this
        have h10 : 10 ^ r.length ≤ 65535 := by
          have : 10 ^ r.length * 1 ≤ 10 ^ r.length * (c.toNat - 48) := Nat.mul_le_mul_left _ (by omega)
          omega
        have : r.length < 5 := by
          apply Classical.byContradiction
          intro hcon
          have : 10 ^ 5 ≤ 10 ^ r.length := Nat.pow_le_pow_right (by omega) (by omega)
          omega
        simp; omega
    rw [if_pos ⟨hl1, hl5, h0, hd, h2⟩]
  · rw [if_neg h, if_neg]
    rintro ⟨hl1, hl5, h0, hd, h2⟩
    apply h
    simp only [Bool.and_eq_true, decide_eq_true_eq]
    have hne : l ≠ [] := by intro h; subst h; simp at hl1
    have hhead : l.head? ≠ some 48 := by
      match l, hne with
      | c :: r, _ =>
        simp only [List.head?_cons, ne_eq, Option.some.injEq]
        simpa [bt, List.getD] using h0
    refine ⟨?_, ?_, h2⟩
    · unfold canB
      simp only [Bool.and_eq_true, Bool.or_eq_true, decide_eq_true_eq]
      exact ⟨hd, .inr ⟨by omega, hhead⟩⟩
    · match l, hne with
      | c :: r, _ =>
        have hc1 : c ≠ 48 := by simpa [bt, List.getD] using h0
        simp only [List.all_cons, Bool.and_eq_true, digB, decide_eq_true_eq] at hd
        have hcn : c.toNat ≠ 48 := fun h => hc1 (UInt8.toNat_inj.1 (by simpa using h))
        have := valD_ge r (c.toNat - 48)
        have e : valD 0 (c :: r) = valD (c.toNat - 48) r := by simp [valD]
        rw [e]; omega
/-- A port's number; 0: it is none. -/
def portN (l : List UInt8) : Nat := (portO l).getD 0
theorem portN_le (l : List UInt8) : portN l ≤ 65535 := by
  unfold portN
  cases h : portO l with
  | none => simp
  | some n => have := ((portO_spec l).2 n h).2.2; simpa using this
set_option maxHeartbeats 1000000 in
theorem portR_any (l : List UInt8) (hl : l.length ≤ 100000) (w : World) :
    Calls Tryd.prog 73 #[Str l] w fun e w' => e = .returned (.int .i64 (portN l : Int)) ∧ w' = w := by
  have hixl : ∀ i, i < l.length → ∀ W, (Instr.index 9 (Str l) (.int .i64 (i : Int))).run Tryd.prog W = .ok (Byt (bt l i)) W := fun i hi W => run_index_str Tryd.underlying9 l i _ rfl hi W
  have HI := Lib.hid hixl; clear hixl
  have HPR := Lib.hid (portO_ref l)
  have hzero : (¬ (1 ≤ l.length ∧ l.length ≤ 5 ∧ bt l 0 ≠ 48 ∧ l.all digB = true ∧ valD 0 l ≤ 65535)) → portN l = 0 := fun h => by unfold portN; rw [HPR.out, if_neg h]; rfl
  have HZ := Lib.hid hzero; clear hzero
  go_enter Tryd.func73, Tryd.ntmps73
  go_wp2
  go_loop [3, 4] (fun n i => ∃ k : Nat, k ≤ l.length ∧ k ≤ 5 ∧ i = .int .i64 k ∧ n = .int .i64 (valD 0 (l.take k) : Int) ∧ (l.take k).all digB = true ∧ (0 < k → bt l 0 ≠ 48)) (fun _ i => l.length - (intOf i).toNat)
  case atStart => exact ⟨0, by omega, by omega, rfl, by simp [valD], by simp, fun h => by omega⟩
  case round =>
    obtain ⟨k, hk, hk5, rfl, rfl, hall, hz0⟩ := hrel
    by_cases h3 : k < l.length
    · have hix := HI.out k h3
      have HB := Lib.hid (all_step digB l k h3 hall)
      have hvl := valD_lt (l.take k) 0 hall
      rw [List.length_take, Nat.min_eq_left hk] at hvl
      have hv5 : valD 0 (l.take k) < 100000 := by
        have : 10 ^ k ≤ 10 ^ 5 := Nat.pow_le_pow_right (by omega) hk5
        omega
      have HV := Lib.hid (valD_snoc 0 (l.take k) (bt l k))
      rw [← take_snoc l k h3] at HV
      have HZ0 := Lib.hid hz0
      have HK0 := Lib.hid (show k = 0 → bt l k = bt l 0 from fun h => by rw [h])
      have H3 := Lib.hid h3
      clear hall hvl hz0
      generalize valD 0 (l.take k) = v at *
      obtain ⟨c, hc⟩ : ∃ c, bt l k = c := ⟨_, rfl⟩
      rw [hc] at hix HB HV HK0
      have hcb := c.toNat_lt
      clear hc
      by_cases hdg : 48 ≤ c.toNat ∧ c.toNat ≤ 57
      · obtain ⟨g1, g2⟩ := hdg
        by_cases hk4 : k ≤ 4
        · have t4 : decide ((4 : Int) < (k : Int)) = false := by simp; omega
          by_cases hlead : k = 0 ∧ c = 48
          · obtain ⟨hk0, rfl⟩ := hlead
            have HZX := Lib.hid (HZ.out (fun h => h.2.2.1 (HK0.out hk0).symm))
            have t7 : ((k : Int) == 0) = true := by rw [hk0]; rfl
            simp only [Byt, show (48 : UInt8).toNat = 48 from rfl] at hix
            clear HB HV hk0 HK0 HZ0
            go_wp2
            go_ret
            exact ⟨by rw [HZX.out]; rfl, rfl⟩
          · have hlead2 : (((k : Int) == 0) = false) ∨ (((k : Int) == 0) = true ∧ ((c.toNat : Int) == 48) = false) := by
              by_cases h : k = 0
              · right
                refine ⟨by rw [h]; rfl, ?_⟩
                rw [beq_eq_false_iff_ne]; intro h'
                exact hlead ⟨h, UInt8.toNat_inj.1 (by simpa using (by omega : c.toNat = 48))⟩
              · left; rw [beq_eq_false_iff_ne]; omega
            have HN := Lib.hid (show 0 < k + 1 → bt l 0 ≠ 48 from fun _ h0 => by
              by_cases h : k = 0
              · exact hlead ⟨h, (HK0.out h).trans h0⟩
              · exact HZ0.out (by omega) h0)
            have HB2 := Lib.hid (HB.out.1 (by simp [digB, g1, g2]))
            clear HB hlead HZ0
            rcases hlead2 with t5 | ⟨t7, t5⟩
            · go_wp2
              all_goals first
                | (exfalso; omega)
                | (go_round
                   case rel => exact ⟨k + 1, by omega, by omega, by go_num, by rw [HV.out]; go_num, HB2.out, HN.out⟩
                   case measure => simp [intOf] <;> omega)
            · go_wp2
              all_goals first
                | (exfalso; omega)
                | (go_round
                   case rel => exact ⟨k + 1, by omega, by omega, by go_num, by rw [HV.out]; go_num, HB2.out, HN.out⟩
                   case measure => simp [intOf] <;> omega)
        · have t4 : decide ((4 : Int) < (k : Int)) = true := by simp; omega
          have HZX := Lib.hid (HZ.out (fun h => by omega))
          clear HB HV
          go_wp2
          all_goals first
            | (exfalso; omega)
            | (go_ret; exact ⟨by rw [HZX.out]; rfl, rfl⟩)
      · have HZX := Lib.hid (HZ.out (fun h => by
          have := HB.out.2 (by unfold digB; rw [Bool.eq_false_iff]; intro hh; simp at hh; exact hdg hh)
          rw [this] at h; exact absurd h.2.2.2.1 (by simp)))
        clear HB HV
        go_wp2
        all_goals first
          | (exfalso; omega)
          | (go_ret; exact ⟨by rw [HZX.out]; rfl, rfl⟩)
    · have hkl : k = l.length := by omega
      subst hkl
      rw [List.take_length] at hall ⊢
      have hvl := valD_lt l 0 hall
      have hv5 : valD 0 l < 100000 := by
        have : 10 ^ l.length ≤ 10 ^ 5 := Nat.pow_le_pow_right (by omega) hk5
        omega
      by_cases h65 : valD 0 l ≤ 65535
      · have t6 : decide ((65535 : Int) < (valD 0 l : Int)) = false := by simp; omega
        have HZX : Hid (portN l = valD 0 l) := Lib.hid (by
          by_cases h0 : l = []
          · subst h0; rfl
          · have hp := List.length_pos_iff.2 h0
            unfold portN
            rw [HPR.out, if_pos ⟨hp, hk5, hz0 hp, hall, h65⟩]; rfl)
        clear hall hvl hz0 h65
        generalize valD 0 l = v at *
        go_wp2
        go_ret
        exact ⟨by rw [HZX.out]; rfl, rfl⟩
      · have t6 : decide ((65535 : Int) < (valD 0 l : Int)) = true := by simp; omega
        have HZX := Lib.hid (HZ.out (fun h => h65 h.2.2.2.2))
        clear hall hvl hz0 h65
        generalize valD 0 l = v at *
        go_wp2
        go_ret
        exact ⟨by rw [HZX.out]; rfl, rfl⟩
end Go.Proofs.YtjbobblnicnhnaaDoor
