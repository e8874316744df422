/-
  head.Split, ref09.Split.
-/
import Derived.BigGuardPart
import Derived.Test.YtmflnffjhfejhaaGreatDoorRows
import Derived.Test.YtmflnffjhfejhaaGreatDoorHch
import Derived.Test.YtmflnffjhfejhaaGreatDoorLbk
import Derived.Test.YtmflnffjhfejhaaGreatDoorPrt
namespace Go.Proofs.YtmflnffjhfejhaaGreatDoor
open Go.RowKit
set_option maxRecDepth 100000
set_option linter.unusedVariables false
set_option linter.unusedSimpArgs false

/-- A target's host and port. -/
def splitO (l : List UInt8) : Option (List UInt8 × Nat) :=
  if (Lib.cut l [58]).2.2 && hostB (Lib.cut l [58]).1 then (portO (Lib.cut l [58]).2.1).map fun n => ((Lib.cut l [58]).1, n) else none
def SplitE (o : Option (List UInt8 × Nat)) : Ending := match o with
  | some (h, n) => .returned (.tuple #[Str h, .int .i64 (n : Int), .bool true])
  | none => .returned (.tuple #[Str [], .int .i64 0, .bool false])
set_option maxHeartbeats 2000000 in
theorem split_head (l : List UInt8) (hl : l.length ≤ 10000) (w : World) (hL : Lb w) :
    Calls Tryz.prog 17 #[Str l] w fun e w' => e = SplitE (splitO l) ∧ Ext w w' := by
  have hC := Lib.hid (scut_any l [58] (by omega) w hL)
  have hs := Lib.hid (show splitO l = if (Lib.cut l [58]).2.2 && hostB (Lib.cut l [58]).1 then (portO (Lib.cut l [58]).2.1).map fun n => ((Lib.cut l [58]).1, n) else none from rfl)
  have hlen : (Lib.cut l [58]).1.length ≤ 10000 ∧ (Lib.cut l [58]).2.1.length ≤ 10000 := by
    rcases cut_byte l 58 with ⟨p, q, hc, hl2, _⟩ | ⟨hc, _⟩
    · rw [hc]; subst hl2; simp at hl ⊢; omega
    · rw [hc]; simp; omega
  generalize Lib.cut l [58] = ct at *
  obtain ⟨h, r, ok⟩ := ct
  simp only at hC hs hlen
  obtain ⟨hl1, hl2⟩ := hlen
  have HH := Lib.hid (fun W => host_any h (by omega) W)
  have HA := Lib.hid (fun W hW => atoi_any r (by omega) W hW)
  have hpo := portO_spec r
  have hvb := atoiV_bounds r
  have HI := Lib.hid (fun W hW => itoa_any (atoiV r) hvb.1 hvb.2 W hW)
  have hb := str_beq (Lib.itoa (atoiV r)) r
  have HL := Lib.hid hL; clear hL
  generalize hostB h = hh at *
  generalize atoiOk r = aok at *
  generalize atoiV r = v at *
  obtain ⟨cn, hcn⟩ : ∃ cn, (Lib.itoa v == r) = cn := ⟨_, rfl⟩
  rw [hcn] at hpo
  generalize portO r = po at *
  have HPO := Lib.hid hpo; clear hpo
  have hfail : ∀ (o : Option (List UInt8 × Nat)), o = none → SplitE o = .returned (.tuple #[Str [], .int .i64 0, .bool false]) := fun o h => by rw [h]; rfl
  have HF := Lib.hid hfail; clear hfail
  cases ok with
  | false =>
    have HN := Lib.hid (show splitO l = none by rw [hs.out]; rfl)
    clear hs
    go_enter Tryz.func17, Tryz.ntmps17
    go_wp2_with fail
    refine hC.out.mono ?_
    rintro e W1 ⟨he, hx1⟩
    subst he
    have HX1 := Lib.hid hx1; clear hx1
    go_wp2_with fail
    refine (HA.out _ (HL.out.ext HX1.out)).mono ?_
    rintro e W2 ⟨⟨ev, he, hev⟩, hx2⟩
    subst he
    have HX2 := Lib.hid (ext_trans HX1.out hx2)
    clear hx2 hev
    go_wp2
    go_ret3
    exact ⟨by rw [HF.out _ HN.out]; rfl, HX2.out⟩
  | true =>
    cases hh with
    | false =>
      have HN := Lib.hid (show splitO l = none by rw [hs.out]; rfl)
      clear hs
      go_enter Tryz.func17, Tryz.ntmps17
      go_wp2_with fail
      refine hC.out.mono ?_
      rintro e W1 ⟨he, hx1⟩
      subst he
      have HX1 := Lib.hid hx1; clear hx1
      go_wp2_with fail
      refine (HA.out _ (HL.out.ext HX1.out)).mono ?_
      rintro e W2 ⟨⟨ev, he, hev⟩, hx2⟩
      subst he
      have HX2 := Lib.hid (ext_trans HX1.out hx2)
      clear hx2 hev
      go_wp2_with fail
      refine (HH.out _).mono ?_
      rintro e W3 ⟨he, hw⟩
      subst he; subst W3
      go_wp2
      go_ret3
      exact ⟨by rw [HF.out _ HN.out]; rfl, HX2.out⟩
    | true =>
      have HS := Lib.hid (show splitO l = po.map fun n => (h, n) by rw [hs.out]; rfl)
      clear hs
      go_enter Tryz.func17, Tryz.ntmps17
      go_wp2_with fail
      refine hC.out.mono ?_
      rintro e W1 ⟨he, hx1⟩
      subst he
      have HX1 := Lib.hid hx1; clear hx1
      go_wp2_with fail
      refine (HA.out _ (HL.out.ext HX1.out)).mono ?_
      rintro e W2 ⟨⟨ev, he, hev⟩, hx2⟩
      subst he
      have HX2 := Lib.hid (ext_trans HX1.out hx2)
      clear hx2
      rcases hev with ⟨hok, rfl⟩ | ⟨hok, t, p, rfl⟩
      · have HP1 : Hid (po.isSome = (decide (1 ≤ v) && (decide (v ≤ 65535) && cn))) := Lib.hid (by rw [HPO.out.1, hok, Bool.true_and])
        clear hok
        by_cases h1 : 1 ≤ v
        · by_cases h2 : v ≤ 65535
          · have t1 : decide (v < 1) = false := by simp; omega
            have t2 : decide ((65535 : Int) < v) = false := by simp; omega
            have HP2 : Hid (po.isSome = cn) := Lib.hid (by rw [HP1.out, decide_eq_true h1, decide_eq_true h2]; rfl)
            clear HP1
            go_wp2_with fail
            refine (HH.out _).mono ?_
            rintro e W3 ⟨he, hw⟩
            subst he; subst W3
            go_wp2_with fail
            refine (HI.out _ (HL.out.ext HX2.out)).mono ?_
            rintro e W4 ⟨he, hx4⟩
            subst he
            have HX4 := Lib.hid (ext_trans HX2.out hx4)
            clear hx4
            cases cn with
            | false =>
              have HN : Hid (splitO l = none) := Lib.hid (by
                rw [HS.out]
                cases po with
                | none => rfl
                | some n => have := HP2.out; simp at this)
              go_wp2
              go_ret3
              exact ⟨by rw [HF.out _ HN.out]; rfl, HX4.out⟩
            | true =>
              obtain ⟨n, hn⟩ : ∃ n, po = some n := by
                cases po with
                | none => have := HP2.out; simp at this
                | some n => exact ⟨n, rfl⟩
              have hv := (HPO.out.2 n hn).1
              have HN : Hid (SplitE (splitO l) = .returned (.tuple #[Str h, .int .i64 v, .bool true])) := Lib.hid (by rw [HS.out, hn, hv]; rfl)
              clear hv hn
              go_wp2
              go_ret3
              exact ⟨by rw [HN.out]; rfl, HX4.out⟩
          · have t2 : decide ((65535 : Int) < v) = true := by simp; omega
            have t1 : decide (v < 1) = false := by simp; omega
            have HN : Hid (splitO l = none) := Lib.hid (by
              rw [HS.out]
              cases po with
              | none => rfl
              | some n => have := HP1.out; simp [h2] at this)
            clear HP1
            go_wp2_with fail
            refine (HH.out _).mono ?_
            rintro e W3 ⟨he, hw⟩
            subst he; subst W3
            go_wp2
            go_ret3
            exact ⟨by rw [HF.out _ HN.out]; rfl, HX2.out⟩
        · have t1 : decide (v < 1) = true := by simp; omega
          have HN : Hid (splitO l = none) := Lib.hid (by
            rw [HS.out]
            cases po with
            | none => rfl
            | some n => have := HP1.out; simp [h1] at this)
          clear HP1
          go_wp2_with fail
          refine (HH.out _).mono ?_
          rintro e W3 ⟨he, hw⟩
          subst he; subst W3
          go_wp2
          go_ret3
          exact ⟨by rw [HF.out _ HN.out]; rfl, HX2.out⟩
      · have HN : Hid (splitO l = none) := Lib.hid (by
          rw [HS.out]
          cases po with
          | none => rfl
          | some n => have := HPO.out.1; rw [hok] at this; simp at this)
        clear hok
        go_wp2_with fail
        refine (HH.out _).mono ?_
        rintro e W3 ⟨he, hw⟩
        subst he; subst W3
        go_wp2
        go_ret3
        exact ⟨by rw [HF.out _ HN.out]; rfl, HX2.out⟩
/-- The document's words for a port. -/
theorem portO_ref (l : List UInt8) : portO l = if 1 ≤ l.length ∧ l.length ≤ 5 ∧ bt l 0 ≠ 48 ∧ l.all digB = true ∧ valD 0 l ≤ 65535 then some (valD 0 l) else none := by
  unfold portO
  by_cases h : canB l && (decide (1 ≤ valD 0 l) && decide (valD 0 l ≤ 65535))
  · rw [if_pos h]
    simp only [Bool.and_eq_true, decide_eq_true_eq] at h
    obtain ⟨hc, h1, h2⟩ := h
    have hc2 := hc
    unfold canB at hc2
    simp only [Bool.and_eq_true, Bool.or_eq_true, decide_eq_true_eq] at hc2
    obtain ⟨hd, hz⟩ := hc2
    have hl1 : 1 ≤ l.length := by rcases hz with h | ⟨h, _⟩ <;> omega
    have hne : l ≠ [] := by intro h; subst h; simp at hl1
    have h0 : bt l 0 ≠ 48 := by
      intro h48
      match l, hne with
      | c :: r, _ =>
        have hc48 : c = 48 := by simpa [bt, List.getD] using h48
        subst hc48
        rcases hz with h | ⟨_, h⟩
        · have hr : r = [] := by cases r with | nil => rfl | cons _ _ => simp at h
          subst hr
          simp [valD] at h1
        · simp at h
    have hl5 : l.length ≤ 5 := by
      match l, hne with
      | c :: r, _ =>
        have hc1 : c ≠ 48 := by simpa [bt, List.getD] using h0
        simp only [List.all_cons, Bool.and_eq_true, digB, decide_eq_true_eq] at hd
        have hcn : c.toNat ≠ 48 := fun h => hc1 (UInt8.toNat_inj.1 (by simpa using h))
        have hge : 10 ^ r.length * (c.toNat - 48) ≤ valD 0 (c :: r) := by
          have : ∀ (r : List UInt8) (n : Nat), 10 ^ r.length * n ≤ valD n r := by
            intro r
            induction r with
            | nil => intro n; simp [valD]
            | cons d r ih =>
              intro n
              have := ih (10 * n + (d.toNat - 48))
              simp only [valD, List.foldl_cons] at this ⊢
              refine Nat.le_trans ?_ this
              rw [List.length_cons, Nat.pow_succ, Nat.mul_assoc]
              exact Nat.mul_le_mul_left _ (by omega)
          have := this r (c.toNat - 48)
          simpa [valD] using this
        have h10 : 10 ^ r.length ≤ 65535 := by
          have : 10 ^ r.length * 1 ≤ 10 ^ r.length * (c.toNat - 48) := Nat.mul_le_mul_left _ (by omega)
          omega
        have : r.length < 5 := by
          apply Classical.byContradiction
          intro hcon
          have : 10 ^ 5 ≤ 10 ^ r.length := Nat.pow_le_pow_right (by omega) (by omega)
          omega
        simp; omega
    rw [if_pos ⟨hl1, hl5, h0, hd, h2⟩]
  · rw [if_neg h, if_neg]
    rintro ⟨hl1, hl5, h0, hd, h2⟩
    apply h
    simp only [Bool.and_eq_true, decide_eq_true_eq]
    have hne : l ≠ [] := by intro h; subst h; simp at hl1
    have hhead : l.head? ≠ some 48 := by
      match l, hne with
      | c :: r, _ =>
        simp only [List.head?_cons, ne_eq, Option.some.injEq]
        simpa [bt, List.getD] using h0
    refine ⟨?_, ?_, h2⟩
    · unfold canB
      simp only [Bool.and_eq_true, Bool.or_eq_true, decide_eq_true_eq]
      exact ⟨hd, .inr ⟨by omega, hhead⟩⟩
    · match l, hne with
      | c :: r, _ =>
        have hc1 : c ≠ 48 := by simpa [bt, List.getD] using h0
        simp only [List.all_cons, Bool.and_eq_true, digB, decide_eq_true_eq] at hd
        have hcn : c.toNat ≠ 48 := fun h => hc1 (UInt8.toNat_inj.1 (by simpa using h))
        have := valD_ge r (c.toNat - 48)
        have e : valD 0 (c :: r) = valD (c.toNat - 48) r := by simp [valD]
        rw [e]; omega
end Go.Proofs.YtmflnffjhfejhaaGreatDoor
