/-
  ref09.Split.
-/
import Derived.BigGuardPart
import Derived.Test.YtmflnffjhfejhaaDoorRows
import Derived.Test.YtmflnffjhfejhaaDoorHsp
namespace Go.Proofs.YtmflnffjhfejhaaDoor
open Go.RowKit
set_option maxRecDepth 100000
set_option linter.unusedVariables false
set_option linter.unusedSimpArgs false

theorem at_split (p q : List UInt8) (b : UInt8) (hp : b ∉ p) : atI (p ++ b :: q) b = (p.length : Int) := by
  unfold atI
  rcases index_one_cases (p ++ b :: q) b with ⟨_, h2⟩ | ⟨i, h1, h2, h4, h5⟩
  · exact absurd (by simp) h2
  · rw [h1]
    have hi : ¬ i < p.length := fun hik => by
      have h7 : (p ++ b :: q)[i]? = some b := by
        have h8 : ((p ++ b :: q).take i ++ b :: (p ++ b :: q).drop (i + 1))[i]? = some b := by
          rw [List.getElem?_append_right (by rw [List.length_take]; omega), List.length_take, Nat.min_eq_left (Nat.le_of_lt h2), Nat.sub_self]; rfl
        rwa [← h4] at h8
      rw [List.getElem?_append_left hik] at h7
      exact hp (List.mem_of_getElem? h7)
    have hi2 : ¬ p.length < i := fun hki => h5 (by
      rw [List.mem_take_iff_getElem]
      exact ⟨p.length, by simp; omega, by simp⟩)
    omega
theorem at_none (l : List UInt8) (b : UInt8) (h : b ∉ l) : atI l b = -1 := by
  unfold atI
  rcases index_one_cases l b with ⟨h1, _⟩ | ⟨i, h1, h2, h4, h5⟩
  · exact h1
  · exact absurd (by rw [h4]; simp) h
set_option maxHeartbeats 4000000 in
theorem split_ref (l : List UInt8) (hl : l.length ≤ 10000) (w : World) :
    Calls Tryd.prog 10 #[Str l] w fun e w' => e = SplitE (splitO l) ∧ Ext w w' := by
  have hs : splitO l = if (Lib.cut l [58]).2.2 && hostB (Lib.cut l [58]).1 then (portO (Lib.cut l [58]).2.1).map fun n => ((Lib.cut l [58]).1, n) else none := rfl
  have HA := Lib.hid (at_any l 58 (by omega) w)
  have hfail : splitO l = none → SplitE (splitO l) = .returned (.tuple #[Str [], .int .i64 0, .bool false]) := fun h => by rw [h]; rfl
  have HF := Lib.hid hfail; clear hfail
  rcases cut_byte l 58 with ⟨p, q, hc, hlq, hp⟩ | ⟨hc, hno⟩
  · rw [hc] at hs
    have hat : atI l 58 = (p.length : Int) := by rw [hlq]; exact at_split p q 58 hp
    rw [hat] at HA
    have e1 : l.take p.length = p := by rw [hlq]; simp
    have e2 : l.drop (p.length + 1) = q := by rw [hlq]; simp
    have hll : l.length = p.length + 1 + q.length := by rw [hlq]; simp; omega
    simp only at hs
    have HS : Hid (splitO l = if hostB p then (portO q).map fun n => (p, n) else none) := Lib.hid (by rw [hs]; rfl)
    clear hs hc hat hlq hp
    by_cases hlen : 1 ≤ p.length ∧ p.length ≤ 32
    · have t1 : decide ((p.length : Int) < 1) = false := by simp; omega
      have t2 : decide ((32 : Int) < (p.length : Int)) = false := by simp; omega
      have HHB : Hid (hostB p = p.all hostC) := Lib.hid (by unfold hostB; rw [decide_eq_true (by omega : 0 < p.length), decide_eq_true hlen.2]; simp)
      obtain ⟨cap, W1, hconv, hext, hc1, hc2, hcell, hfroz⟩ := bytes_own (P := Tryd.prog) w 9 27 5 p (by unfold maxLen; omega) Tryd.underlying9 Tryd.underlying27 Tryd.underlying5
      have hix := run_index_adr (P := Tryd.prog) Tryd.underlying27 Tryd.sizeOf5 (ao := some ⟨w.heap.size, 0, none⟩) (n := p.length) (cap := cap) (by simp) hc1
      simp only [adr_some, Nat.zero_add] at hix
      have HC := Lib.hid hcell; have HX := Lib.hid hext
      clear hcell hfroz hext
      obtain ⟨cap2, W2, hconv2, hext2, hc12, hc22, hcell2, hfroz2⟩ := bytes_own (P := Tryd.prog) W1 9 27 5 q (by unfold maxLen; omega) Tryd.underlying9 Tryd.underlying27 Tryd.underlying5
      have hix2 := run_index_adr (P := Tryd.prog) Tryd.underlying27 Tryd.sizeOf5 (ao := some ⟨W1.heap.size, 0, none⟩) (n := q.length) (cap := cap2) (by simp) hc12
      simp only [adr_some, Nat.zero_add] at hix2
      have HC2 := Lib.hid hcell2; have HX2 := Lib.hid (ext_trans HX.out hext2)
      clear hcell2 hfroz2 hext2
      have HL := Lib.hid hll
      have hb1 : p.length + 1 ≤ l.length := by omega
      have hqb : q.length ≤ 10000 := by omega
      have hq0 : ∀ (h : 0 < q.length) W, (Instr.index 9 (Str q) (.int .i64 0)).run Tryd.prog W = .ok (Byt (bt q 0)) W := fun h W => run_index_str Tryd.underlying9 q 0 _ rfl h W
      have HQ0 := Lib.hid hq0
      have HPR := Lib.hid (portO_ref q)
      clear hll hq0
      go_enter Tryd.func10, Tryd.ntmps10
      go_wp2_with (go_at_call 28; refine HA.out.mono ?_; rintro e w' ⟨rfl, rfl⟩)
      go_loop [25] (fun i => ∃ k : Nat, k ≤ p.length ∧ i = .int .i64 k ∧ (p.take k).all hostC = true) (fun i => p.length - (intOf i).toNat)
      case atStart => exact ⟨0, by omega, rfl, by simp⟩
      case round =>
        obtain ⟨k, hk, rfl, hall⟩ := hrel
        by_cases h3 : k < p.length
        · have hck := HC.out k h3
          have HB := Lib.hid (all_step hostC p k h3 hall)
          clear hall
          generalize bt p k = c at *
          have hcb := c.toNat_lt
          go_wp2
          all_goals first
            | (go_round
               case rel => exact ⟨k + 1, by omega, by go_num, HB.out.1 (decide_eq_true (by first | omega | (simp at *; omega)))⟩
               case measure => simp [intOf] <;> omega)
            | (go_ret3
               exact ⟨by rw [HF.out (by rw [HS.out, HHB.out, HB.out.2 (decide_eq_false (by first | omega | (simp at *; omega)))]; rfl)]; rfl, HX.out⟩)
        · have hkl : k = p.length := by omega
          subst hkl
          rw [List.take_length] at hall
          have HS2 : Hid (splitO l = (portO q).map fun n => (p, n)) := Lib.hid (by rw [HS.out, HHB.out, hall]; rfl)
          clear hall HS HHB
          have hq2 : ∀ x, portO q = none → x = splitO l → SplitE x = .returned (.tuple #[Str [], .int .i64 0, .bool false]) := fun x h hx => by rw [hx, HS2.out, h]; rfl
          have HQ2 := Lib.hid hq2
          clear hq2
          by_cases hq1 : 1 ≤ q.length
          · by_cases hq5 : q.length ≤ 5
            · have u1 : decide ((q.length : Int) < 1) = false := by simp; omega
              have u5 : decide ((5 : Int) < (q.length : Int)) = false := by simp; omega
              have hix0 := HQ0.out hq1
              by_cases hz : bt q 0 = 48
              · have hz2 : ∀ (W : World), (Instr.index 9 (Str q) (.int .i64 0)).run Tryd.prog W = .ok (.int .u8 48) W := fun W => by rw [hix0 W, hz]; rfl
                have HPN := Lib.hid (show portO q = none by rw [HPR.out, if_neg (fun h => h.2.2.1 hz)])
                clear hix0 hz
                go_wp2
                go_ret3
                exact ⟨by rw [HQ2.out _ HPN.out rfl]; rfl, HX.out⟩
              · have hz2 : (((bt q 0).toNat : Int) == 48) = false := by
                  rw [beq_eq_false_iff_ne]; intro h
                  exact hz (UInt8.toNat_inj.1 (by simpa using (by omega : (bt q 0).toNat = 48)))
                have HPR2 : Hid (portO q = if q.all digB = true ∧ valD 0 q ≤ 65535 then some (valD 0 q) else none) := Lib.hid (by
                  rw [HPR.out]
                  by_cases h : q.all digB = true ∧ valD 0 q ≤ 65535
                  · rw [if_pos h, if_pos ⟨hq1, hq5, hz, h.1, h.2⟩]
                  · rw [if_neg h, if_neg (fun h2 => h ⟨h2.2.2.2.1, h2.2.2.2.2⟩)])
                generalize bt q 0 = c0 at *
                have hc0 := c0.toNat_lt
                clear hz HPR
                go_wp2
                go_loop [8, 85] (fun n i => ∃ k : Nat, k ≤ q.length ∧ i = .int .i64 k ∧ n = .int .i64 (valD 0 (q.take k) : Nat) ∧ (q.take k).all digB = true) (fun _ i => q.length - (intOf i).toNat)
                case atStart => exact ⟨0, by omega, rfl, rfl, by simp⟩
                case round =>
                  obtain ⟨k, hk, rfl, rfl, hall⟩ := hrel
                  by_cases h3 : k < q.length
                  · have hck := HC2.out k h3
                    have HB := Lib.hid (all_step digB q k h3 hall)
                    have HV := Lib.hid (show valD 0 (q.take (k + 1)) = 10 * valD 0 (q.take k) + ((bt q k).toNat - 48) by rw [take_snoc q k h3, valD_snoc])
                    have hvb : valD 0 (q.take k) < 100000 := by
                      have h1 := valD_lt (q.take k) 0 hall
                      have h2 : 10 ^ (q.take k).length ≤ 10 ^ 5 := Nat.pow_le_pow_right (by omega) (by rw [List.length_take]; omega)
                      omega
                    clear hall
                    generalize bt q k = c at *
                    generalize valD 0 (q.take k) = n at *
                    have hcb := c.toNat_lt
                    by_cases hd : 48 ≤ c.toNat ∧ c.toNat ≤ 57
                    · have d1 : decide ((c.toNat : Int) < 48) = false := by simp; omega
                      have d2 : decide ((57 : Int) < (c.toNat : Int)) = false := by simp; omega
                      have hd1 : (48 : Int) ≤ (c.toNat : Int) := by omega
                      have HD := Lib.hid (HB.out.1 (by simp [digB, hd.1, hd.2]))
                      have HVV := Lib.hid (show ((valD 0 (q.take (k + 1)) : Nat) : Int) = 10 * (n : Int) + ((c.toNat : Int) - 48) by rw [HV.out]; omega)
                      go_wp2
                      go_round
                      case rel => exact ⟨k + 1, by omega, by go_num, by rw [HVV.out], HD.out⟩
                      case measure => simp [intOf] <;> omega
                    · have HPN : Hid (portO q = none) := Lib.hid (by
                        rw [HPR2.out, if_neg]
                        rintro ⟨h1, _⟩
                        rw [HB.out.2 (by simp [digB]; omega)] at h1
                        cases h1)
                      clear HB HV
                      go_wp2
                      all_goals first
                        | omega
                        | (go_ret3
                           exact ⟨by rw [HQ2.out _ HPN.out rfl]; rfl, HX2.out⟩)
                        | (exfalso; omega)
                  · have hkl : k = q.length := by omega
                    subst hkl
                    rw [List.take_length] at hall ⊢
                    have hvb : valD 0 q < 100000 := by
                      have h1 := valD_lt q 0 hall
                      have h2 : 10 ^ q.length ≤ 10 ^ 5 := Nat.pow_le_pow_right (by omega) (by omega)
                      omega
                    by_cases hv : valD 0 q ≤ 65535
                    · have v1 : decide ((65535 : Int) < ((valD 0 q : Nat) : Int)) = false := by simp; omega
                      have HPS := Lib.hid (show SplitE (splitO l) = .returned (.tuple #[Str p, .int .i64 (valD 0 q : Nat), .bool true]) by rw [HS2.out, HPR2.out, if_pos ⟨hall, hv⟩]; rfl)
                      clear hall
                      generalize valD 0 q = n at *
                      go_wp2
                      go_ret3
                      exact ⟨by rw [HPS.out]; rfl, HX2.out⟩
                    · have v1 : decide ((65535 : Int) < ((valD 0 q : Nat) : Int)) = true := by simp; omega
                      have HPN := Lib.hid (show portO q = none by rw [HPR2.out, if_neg (fun h => hv h.2)])
                      clear hall
                      generalize valD 0 q = n at *
                      go_wp2
                      go_ret3
                      exact ⟨by rw [HQ2.out _ HPN.out rfl]; rfl, HX2.out⟩
            · have u1 : decide ((q.length : Int) < 1) = false := by simp; omega
              have u5 : decide ((5 : Int) < (q.length : Int)) = true := by simp; omega
              have HPN := Lib.hid (show portO q = none by rw [HPR.out, if_neg (fun h => hq5 h.2.1)])
              go_wp2
              go_ret3
              exact ⟨by rw [HQ2.out _ HPN.out rfl]; rfl, HX.out⟩
          · have u1 : decide ((q.length : Int) < 1) = true := by first | (simp; omega) | simp | (simp at hq1; simp [hq1])
            have HPN := Lib.hid (show portO q = none by rw [HPR.out, if_neg (fun h => hq1 h.1)])
            go_wp2
            go_ret3
            exact ⟨by rw [HQ2.out _ HPN.out rfl]; rfl, HX.out⟩
    · have HN : Hid (splitO l = none) := Lib.hid (by
        rw [HS.out, if_neg]
        intro h
        unfold hostB at h
        simp only [Bool.and_eq_true, decide_eq_true_eq] at h
        omega)
      have hcase : decide ((p.length : Int) < 1) = true ∨ (decide ((p.length : Int) < 1) = false ∧ decide ((32 : Int) < (p.length : Int)) = true) := by
        by_cases h : p.length < 1
        · left; simp; omega
        · right; exact ⟨by simp; omega, by simp; omega⟩
      rcases hcase with t1 | ⟨t1, t2⟩
      all_goals
        go_enter Tryd.func10, Tryd.ntmps10
        go_wp2_with (go_at_call 28; refine HA.out.mono ?_; rintro e w' ⟨rfl, rfl⟩)
        go_ret3
        exact ⟨by rw [HF.out HN.out]; rfl, ext_refl _⟩
  · have HN := Lib.hid (show splitO l = none by rw [hs, hc]; rfl)
    rw [at_none l 58 hno] at HA
    clear hs hc hno
    go_enter Tryd.func10, Tryd.ntmps10
    go_wp2_with (go_at_call 28; refine HA.out.mono ?_; rintro e w' ⟨rfl, rfl⟩)
    go_ret3
    exact ⟨by rw [HF.out HN.out]; rfl, ext_refl _⟩
end Go.Proofs.YtmflnffjhfejhaaDoor
