/-
  ref09.answer: its walk; ref09.trim.
-/
import Derived.BigGuardPart
import Derived.RegionTactic
import Derived.Deep.DrawnRows
import Derived.Test.YtmflnffjhfejhaaGreatDoorRows
import Derived.Test.YtmflnffjhfejhaaGreatDoorHra
import Derived.Test.YtmflnffjhfejhaaGreatDoorHsr
import Derived.Test.YtmflnffjhfejhaaGreatDoorKit
namespace Go.Proofs.YtmflnffjhfejhaaGreatDoor
open Go.RowKit
set_option maxRecDepth 100000
attribute [local go_sem ↓] Go.wp_at_zero Go.wp_at_succ
set_option linter.unusedVariables false
set_option linter.unusedSimpArgs false

def AnsR (f : List UInt8) (e : Ending) : Prop := ∃ a n, e = .returned (.tuple #[.agg #[Str a, Str [], .int .i64 n, .slice none 0 0], .bool (rightA f)]) ∧ (rightA f = true → a = oneL false f ∧ n = stI false f)
set_option maxHeartbeats 2000000 in
theorem answer_any (f : List UInt8) (hl : f.length ≤ 10000) (w : World) :
    Calls Tryz.prog 21 #[Str f] w fun e w' => AnsR f e ∧ Ext w w' := by
  obtain ⟨W1, hW1⟩ : ∃ W1, w.alloc (.cells #[Str [], Str [], .int .i64 0, .slice none 0 0] 29) = W1 := ⟨_, rfl⟩
  have hx1 : Ext w W1 := by rw [← hW1]; exact Below.alloc (Below.refl _ _) (Nat.le_refl _) _
  have hc1 : W1.heap[w.heap.size]? = some (.cells #[Str [], Str [], .int .i64 0, .slice none 0 0] 29 (0, 0)) := by rw [← hW1]; exact Array.getElem?_push_size
  have hb1 := (Array.getElem?_eq_some_iff.1 hc1).1
  have HC1 := Lib.hid hc1; have HX1 := Lib.hid hx1
  have HW1 := Lib.hid hW1
  have hbad : ¬ ansG f → AnsR f (.returned (.tuple #[.agg #[Str [], Str [], .int .i64 0, .slice none 0 0], .bool false])) := fun h => ⟨[], 0, by rw [ans_bad h], fun h2 => by rw [ans_bad h] at h2; cases h2⟩
  have HBAD := Lib.hid hbad
  clear hbad
  by_cases h13 : 13 ≤ f.length
  · have t13 : decide ((f.length : Int) < 13) = false := by simp; omega
    have b9 : 9 ≤ f.length := by omega
    have b12 : 12 ≤ f.length := by omega
    have hix : ∀ W, (Instr.index 9 (Str f) (.int .i64 12)).run Tryz.prog W = .ok (Byt (bt f 12)) W := fun W => run_index_str Tryz.underlying9 f 12 _ rfl (by omega) W
    by_cases h9 : f.take 9 = ver9
    · have e9 : (f.take 9 == [72, 84, 84, 80, 47, 49, 46, 49, 32]) = true := by simpa [ver9] using h9
      by_cases h32 : bt f 12 = 32
      · have hg : ansG f := ⟨h13, h9, h32⟩
        have hix2 : ∀ W, (Instr.index 9 (Str f) (.int .i64 12)).run Tryz.prog W = .ok (.int .u8 32) W := fun W => by rw [hix W, h32]; rfl
        obtain ⟨hr, hh⟩ := ans_good hg
        have hd3 := (ansG_shape hg).1
        clear hix h32 h9 HBAD hg
        have b13 : 13 ≤ f.length := h13
        have HOK : Hid (∀ e, (∃ a n, e = Ending.returned (.tuple #[.agg #[Str a, Str [], .int .i64 n, .slice none 0 0], .bool (rightA f)]) ∧ (rightA f = true → a = oneL false f ∧ n = stI false f)) → AnsR f e) := Lib.hid (fun e h => h)
        obtain ⟨d, hd⟩ : ∃ d, (f.take 12).drop 9 = d := ⟨_, rfl⟩
        rw [hd] at hr hh hd3
        obtain ⟨r, hr2⟩ : ∃ r, f.drop 13 = r := ⟨_, rfl⟩
        rw [hr2] at hr hh
        have hrl : r.length ≤ 10000 := by rw [← hr2]; simp; omega
        have HTX := Lib.hid (textR_any r (by omega))
        have HR := Lib.hid hr; have HH := Lib.hid hh; have HD3 := Lib.hid hd3
        have hv3 : valD 0 d < 1000 ∨ d.all digB = false := by
          cases hda : d.all digB with
          | false => exact .inr rfl
          | true => left; have := valD_lt d 0 hda; rw [hd3] at this; omega
        clear hr hh
        obtain ⟨cap, W2, hconv, hext, hcp1, hcp2, hcell, hfroz⟩ := bytes_own (P := Tryz.prog) W1 9 22 5 d (by unfold maxLen; omega) Tryz.underlying9 Tryz.underlying22 Tryz.underlying5
        have hs1 : W1.heap.size = w.heap.size + 1 := by rw [← hW1]; show (w.heap.push _).size = _; rw [Array.size_push]
        rw [hd3] at hconv hcp1
        rw [hs1] at hcell hconv
        have hixd := run_index_adr (P := Tryz.prog) Tryz.underlying22 Tryz.sizeOf5 (ao := some ⟨w.heap.size + 1, 0, none⟩) (n := 3) (cap := cap) (by simp) hcp1
        simp only [adr_some, Nat.zero_add] at hixd
        have HC := Lib.hid hcell; have HX2 := Lib.hid (ext_trans hx1 hext)
        have HC2 := Lib.hid (ext_at hext hc1)
        have hb2 := (Array.getElem?_eq_some_iff.1 HC2.out).1
        have hf2 := frozen_row HC2.out
        obtain ⟨d0, d1, d2, d3⟩ := cells4 HC2.out
        rw [← hW1] at hconv
        clear hcell hfroz hext hW1 hc1 hx1 hd3 h13 hs1
        go_enter Tryz.func21, Tryz.ntmps21
        go_wp2
        go_loop [4, 25] (fun n i => ∃ k : Nat, k ≤ 3 ∧ i = .int .i64 k ∧ n = .int .i64 (valD 0 (d.take k) : Int) ∧ (d.take k).all digB = true) (fun _ i => 3 - (intOf i).toNat)
        case atStart => exact ⟨0, by omega, rfl, by simp [valD], by simp⟩
        case round =>
          obtain ⟨k, hk, rfl, rfl, hall⟩ := hrel
          by_cases h3 : k < 3
          · have hck := HC.out k (by rw [HD3.out]; exact h3)
            have HB := Lib.hid (all_step digB d k (by rw [HD3.out]; exact h3) hall)
            have HT := Lib.hid (take_snoc d k (by rw [HD3.out]; exact h3))
            have hvl := valD_lt (d.take k) 0 hall
            rw [List.length_take, HD3.out, Nat.min_eq_left hk] at hvl
            have hv100 : valD 0 (d.take k) < 100 := by
              have : 10 ^ k ≤ 10 ^ 2 := Nat.pow_le_pow_right (by omega) (by omega)
              omega
            have HV := Lib.hid (valD_snoc 0 (d.take k) (bt d k))
            rw [← HT.out] at HV
            clear hall hvl
            generalize valD 0 (d.take k) = v at *
            generalize bt d k = c at *
            have hcb := c.toNat_lt
            by_cases hdg : 48 ≤ c.toNat ∧ c.toNat ≤ 57
            · have HB2 := Lib.hid (HB.out.1 (by simp [digB, hdg.1, hdg.2]))
              obtain ⟨hdg1, hdg2⟩ := hdg
              clear HB
              go_wp2
              go_round
              case rel => exact ⟨k + 1, by omega, by go_num, by rw [HV.out]; go_num, HB2.out⟩
              case measure => simp [intOf] <;> omega
            · have hdn : digB c = false := by unfold digB; rw [Bool.eq_false_iff]; intro h; simp at h; exact hdg h
              have HF := Lib.hid (HB.out.2 hdn)
              have HBR : Hid (AnsR f (.returned (.tuple #[.agg #[Str [], Str [], .int .i64 0, .slice none 0 0], .bool false]))) := Lib.hid (by
                have hrf : rightA f = false := by rw [HR.out, HF.out]; rfl
                exact ⟨[], 0, by rw [hrf], fun h => by rw [hrf] at h; cases h⟩)
              clear HB hdn HF
              go_wp2
              all_goals first
                | (exfalso; omega)
                | (obtain ⟨W9, hW9, hst, hch⟩ := set4 HC2.out (.string ⟨#[]⟩) (.string ⟨#[]⟩) (.int .i64 0) (.slice none 0 0)
                   rw [hW9]
                   obtain ⟨e0', e1', e2', e3'⟩ := cells4 hst
                   exact bodyPost_ret (v := .tuple #[.agg #[Str [], Str [], .int .i64 0, .slice none 0 0], .bool false]) (by simp [results, Tryz.results21, go_sem, e0', e1', e2', e3']) rfl ⟨HBR.out, below_chg HX2.out hch (fun k hk => by have hk' : k = w.heap.size := hk; omega) (Nat.le_refl _)⟩)
          · have hkl : k = 3 := by omega
            subst hkl
            have htk3 : d.take 3 = d := List.take_of_length_le (by rw [HD3.out]; omega)
            rw [htk3] at hall ⊢
            have b13i : (13 : Int) ≤ (f.length : Int) := by omega
            clear htk3
            have HR2 : Hid (rightA f = (decide (100 ≤ valD 0 d) && textB r)) := Lib.hid (by rw [HR.out, hall, Bool.true_and])
            have HH2 := Lib.hid (HH.out hall)
            have hv4 : valD 0 d < 1000 := by rcases hv3 with h | h; exact h; rw [hall] at h; cases h
            clear hall HR HH hv3
            generalize textB r = b5 at *
            generalize valD 0 d = v at *
            by_cases hv : 100 ≤ v
            · have hd100 : decide ((100 : Int) ≤ (v : Int)) = true := by simp; omega
              have HR3 : Hid (rightA f = b5) := Lib.hid (by rw [HR2.out, decide_eq_true hv]; rfl)
              have HV := Lib.hid hv
              clear hv HR2
              go_wp2_with fail
              -- inv {'ops': [('mv', 43, 0, 'Str f'), ('op', 44, [0], 'Str r'), ('mv', 45, 4, '.int .i64 (v : Int)'), ('op', 46, [1, 2], '.agg #[Str r, Str [], .int .i64 (v : Int), .slice none 0 0]'), ('mv', 47, 4, '.int .i64 (v : Int)'), ('op', 48, [4], '.bool true'), ('mw', 49, 5, '.bool true'), ('mv', 50, 0, 'Str f'), ('op', 51, [7], 'Str r'), ('callq', 52, [8], "HTX.out w'", '.bool b5'), ('op', 53, [6, 9], '.bool b5'), ('st', None, [3], 'have e2 : u 2 = .pointer (some ⟨w.heap.size, 0, none⟩) := hu 2 (by decide); have hc9 : W2.drew.heap[w.heap.size]? = _ := HC2.out; have hf9 := frozen_row hc9; have hb9 := (Array.getElem?_eq_some_iff.1 hc9).1; obtain ⟨k0, k1, k2, k3⟩ := cells4 hc9'), ('mw', 3, 10, '.bool b5')], 'G': {7: (6, 'true'), 8: (6, 'true'), 9: (6, 'true')}, 'W': [('S0', "L 11 = false → w' = W2.drew", 'fun _ => rfl'), ('T0', "L 11 = true → w' = (((W2.drew.setCell ⟨w.heap.size, 0, none⟩ (Str r)).setCell ⟨w.heap.size, 1, none⟩ (Str [])).setCell ⟨w.heap.size, 2, none⟩ (.int .i64 (v : Int))).setCell ⟨w.heap.size, 3, none⟩ (.slice none 0 0)", 'fun h => by cases h')]}
              refine wp_region_any (by kernel_rfl) ?_
              change wpAny _ _ _ _ _ _ _ (World.drew _)
              refine wpAny_inv (n := 13) [43, 44, 45, 46, 47, 48, 49, 50, 51, 52, 53, 3] (fun u L w' =>
                  (L 0 = true → u 43 = Str f) ∧
                  (L 1 = true → u 44 = Str r) ∧
                  (L 2 = true → u 45 = .int .i64 (v : Int)) ∧
                  (L 3 = true → u 46 = .agg #[Str r, Str [], .int .i64 (v : Int), .slice none 0 0]) ∧
                  (L 4 = true → u 47 = .int .i64 (v : Int)) ∧
                  (L 5 = true → u 48 = .bool true) ∧
                  (L 6 = true → u 49 = .bool true) ∧
                  (L 7 = true → u 50 = Str f) ∧
                  (L 8 = true → u 51 = Str r) ∧
                  (L 9 = true → u 52 = .bool b5) ∧
                  (L 10 = true → u 53 = .bool b5) ∧
                  (L 12 = true → u 3 = .bool b5) ∧
                  (L 11 = false → w' = W2.drew) ∧
                  (L 11 = true → w' = (((W2.drew.setCell ⟨w.heap.size, 0, none⟩ (Str r)).setCell ⟨w.heap.size, 1, none⟩ (Str [])).setCell ⟨w.heap.size, 2, none⟩ (.int .i64 (v : Int))).setCell ⟨w.heap.size, 3, none⟩ (.slice none 0 0)))
                (by rfl) (by kernel_rfl) (by kernel_rfl) (by rfl) ?_ ?_ ?_
              · exact ⟨(fun h => by cases h), (fun h => by cases h), (fun h => by cases h), (fun h => by cases h), (fun h => by cases h), (fun h => by cases h), (fun h => by cases h), (fun h => by cases h), (fun h => by cases h), (fun h => by cases h), (fun h => by cases h), (fun h => by cases h), fun _ => rfl, fun h => by cases h⟩
              · refine ⟨⟨⟨⟨⟨⟨⟨⟨⟨⟨⟨⟨⟨trivial, ?_⟩, ?_⟩, ?_⟩, ?_⟩, ?_⟩, ?_⟩, ?_⟩, ?_⟩, ?_⟩, ?_⟩, ?_⟩, ?_⟩, ?_⟩
                · refine stepOk_some (i := 0) (by rfl) (by rfl) ?_
                  rintro u L T w' hT hu hL hp hcl ⟨C0, C1, C2, C3, C4, C5, C6, C7, C8, C9, C10, C12, S0, T0⟩ K hK
                  have e1 : u 0 = Str f := hu 0 (by decide)
                  go_simp
                  refine hK _ _ ?_
                  exact ⟨fun _ => rfl, fun h => C1 (by simpa using h), fun h => C2 (by simpa using h), fun h => C3 (by simpa using h), fun h => C4 (by simpa using h), fun h => C5 (by simpa using h), fun h => C6 (by simpa using h), fun h => C7 (by simpa using h), fun h => C8 (by simpa using h), fun h => C9 (by simpa using h), fun h => C10 (by simpa using h), fun h => C12 (by simpa using h), fun h => S0 (by simpa using h), fun h => T0 (by simpa using h)⟩
                · refine stepOk_some (i := 1) (by rfl) (by rfl) ?_
                  rintro u L T w' hT hu hL hp hcl ⟨C0, C1, C2, C3, C4, C5, C6, C7, C8, C9, C10, C12, S0, T0⟩ K hK
                  have e0 := C0 (hp.of 0 (by kernel_rfl))
                  go_simp
                  try go_bits
                  try (rw [if_neg (by omega)]; go_simp)
                  refine hK _ _ ?_
                  exact ⟨fun h => C0 (by simpa using h), fun _ => rfl, fun h => C2 (by simpa using h), fun h => C3 (by simpa using h), fun h => C4 (by simpa using h), fun h => C5 (by simpa using h), fun h => C6 (by simpa using h), fun h => C7 (by simpa using h), fun h => C8 (by simpa using h), fun h => C9 (by simpa using h), fun h => C10 (by simpa using h), fun h => C12 (by simpa using h), fun h => S0 (by simpa using h), fun h => T0 (by simpa using h)⟩
                · refine stepOk_some (i := 2) (by rfl) (by rfl) ?_
                  rintro u L T w' hT hu hL hp hcl ⟨C0, C1, C2, C3, C4, C5, C6, C7, C8, C9, C10, C12, S0, T0⟩ K hK
                  have e1 : u 4 = .int .i64 (v : Int) := hu 4 (by decide)
                  go_simp
                  refine hK _ _ ?_
                  exact ⟨fun h => C0 (by simpa using h), fun h => C1 (by simpa using h), fun _ => rfl, fun h => C3 (by simpa using h), fun h => C4 (by simpa using h), fun h => C5 (by simpa using h), fun h => C6 (by simpa using h), fun h => C7 (by simpa using h), fun h => C8 (by simpa using h), fun h => C9 (by simpa using h), fun h => C10 (by simpa using h), fun h => C12 (by simpa using h), fun h => S0 (by simpa using h), fun h => T0 (by simpa using h)⟩
                · refine stepOk_some (i := 3) (by rfl) (by rfl) ?_
                  rintro u L T w' hT hu hL hp hcl ⟨C0, C1, C2, C3, C4, C5, C6, C7, C8, C9, C10, C12, S0, T0⟩ K hK
                  have e1 := C1 (hp.of 1 (by kernel_rfl))
                  have e2 := C2 (hp.of 2 (by kernel_rfl))
                  go_simp
                  try go_bits
                  try (rw [if_neg (by omega)]; go_simp)
                  refine hK _ _ ?_
                  exact ⟨fun h => C0 (by simpa using h), fun h => C1 (by simpa using h), fun h => C2 (by simpa using h), fun _ => rfl, fun h => C4 (by simpa using h), fun h => C5 (by simpa using h), fun h => C6 (by simpa using h), fun h => C7 (by simpa using h), fun h => C8 (by simpa using h), fun h => C9 (by simpa using h), fun h => C10 (by simpa using h), fun h => C12 (by simpa using h), fun h => S0 (by simpa using h), fun h => T0 (by simpa using h)⟩
                · refine stepOk_some (i := 4) (by rfl) (by rfl) ?_
                  rintro u L T w' hT hu hL hp hcl ⟨C0, C1, C2, C3, C4, C5, C6, C7, C8, C9, C10, C12, S0, T0⟩ K hK
                  have e1 : u 4 = .int .i64 (v : Int) := hu 4 (by decide)
                  go_simp
                  refine hK _ _ ?_
                  exact ⟨fun h => C0 (by simpa using h), fun h => C1 (by simpa using h), fun h => C2 (by simpa using h), fun h => C3 (by simpa using h), fun _ => rfl, fun h => C5 (by simpa using h), fun h => C6 (by simpa using h), fun h => C7 (by simpa using h), fun h => C8 (by simpa using h), fun h => C9 (by simpa using h), fun h => C10 (by simpa using h), fun h => C12 (by simpa using h), fun h => S0 (by simpa using h), fun h => T0 (by simpa using h)⟩
                · refine stepOk_some (i := 5) (by rfl) (by rfl) ?_
                  rintro u L T w' hT hu hL hp hcl ⟨C0, C1, C2, C3, C4, C5, C6, C7, C8, C9, C10, C12, S0, T0⟩ K hK
                  have e4 := C4 (hp.of 4 (by kernel_rfl))
                  go_simp
                  try go_bits
                  try (rw [if_neg (by omega)]; go_simp)
                  refine hK _ _ ?_
                  exact ⟨fun h => C0 (by simpa using h), fun h => C1 (by simpa using h), fun h => C2 (by simpa using h), fun h => C3 (by simpa using h), fun h => C4 (by simpa using h), fun _ => rfl, fun h => C6 (by simpa using h), fun h => C7 (by simpa using h), fun h => C8 (by simpa using h), fun h => C9 (by simpa using h), fun h => C10 (by simpa using h), fun h => C12 (by simpa using h), fun h => S0 (by simpa using h), fun h => T0 (by simpa using h)⟩
                · refine stepOk_some (i := 6) (by rfl) (by rfl) ?_
                  rintro u L T w' hT hu hL hp hcl ⟨C0, C1, C2, C3, C4, C5, C6, C7, C8, C9, C10, C12, S0, T0⟩ K hK
                  have e5 := C5 (hp.of 5 (by kernel_rfl))
                  go_simp
                  refine hK _ _ ?_
                  exact ⟨fun h => C0 (by simpa using h), fun h => C1 (by simpa using h), fun h => C2 (by simpa using h), fun h => C3 (by simpa using h), fun h => C4 (by simpa using h), fun h => C5 (by simpa using h), fun _ => rfl, fun h => C7 (by simpa using h), fun h => C8 (by simpa using h), fun h => C9 (by simpa using h), fun h => C10 (by simpa using h), fun h => C12 (by simpa using h), fun h => S0 (by simpa using h), fun h => T0 (by simpa using h)⟩
                · refine stepOk_some (i := 7) (by rfl) (by rfl) ?_
                  rintro u L T w' hT hu hL hp hcl ⟨C0, C1, C2, C3, C4, C5, C6, C7, C8, C9, C10, C12, S0, T0⟩ K hK
                  have hg := getD_bool ((hT 49).trans (C6 (hp.of 6 (by kernel_rfl))))
                  have e1 : u 0 = Str f := hu 0 (by decide)
                  go_simp
                  refine hK _ _ ?_
                  exact ⟨fun h => C0 (by simpa using h), fun h => C1 (by simpa using h), fun h => C2 (by simpa using h), fun h => C3 (by simpa using h), fun h => C4 (by simpa using h), fun h => C5 (by simpa using h), fun h => C6 (by simpa using h), fun _ => rfl, fun h => C8 (by simpa using h), fun h => C9 (by simpa using h), fun h => C10 (by simpa using h), fun h => C12 (by simpa using h), fun h => S0 (by simpa using h), fun h => T0 (by simpa using h)⟩
                · refine stepOk_some (i := 8) (by rfl) (by rfl) ?_
                  rintro u L T w' hT hu hL hp hcl ⟨C0, C1, C2, C3, C4, C5, C6, C7, C8, C9, C10, C12, S0, T0⟩ K hK
                  have hg := getD_bool ((hT 49).trans (C6 (hp.of 6 (by kernel_rfl))))
                  have e7 := C7 (hp.of 7 (by kernel_rfl))
                  go_simp
                  try go_bits
                  try (rw [if_neg (by omega)]; go_simp)
                  refine hK _ _ ?_
                  exact ⟨fun h => C0 (by simpa using h), fun h => C1 (by simpa using h), fun h => C2 (by simpa using h), fun h => C3 (by simpa using h), fun h => C4 (by simpa using h), fun h => C5 (by simpa using h), fun h => C6 (by simpa using h), fun h => C7 (by simpa using h), fun _ => rfl, fun h => C9 (by simpa using h), fun h => C10 (by simpa using h), fun h => C12 (by simpa using h), fun h => S0 (by simpa using h), fun h => T0 (by simpa using h)⟩
                · refine stepOk_some (i := 9) (by rfl) (by rfl) ?_
                  rintro u L T w' hT hu hL hp hcl ⟨C0, C1, C2, C3, C4, C5, C6, C7, C8, C9, C10, C12, S0, T0⟩ K hK
                  have hg := getD_bool ((hT 49).trans (C6 (hp.of 6 (by kernel_rfl))))
                  have e8 := C8 (hp.of 8 (by kernel_rfl))
                  go_simp
                  refine (HTX.out w').mono ?_
                  rintro e w1 ⟨he, hx1⟩
                  subst w1
                  subst he
                  refine hK _ _ ?_
                  exact ⟨fun h => C0 (by simpa using h), fun h => C1 (by simpa using h), fun h => C2 (by simpa using h), fun h => C3 (by simpa using h), fun h => C4 (by simpa using h), fun h => C5 (by simpa using h), fun h => C6 (by simpa using h), fun h => C7 (by simpa using h), fun h => C8 (by simpa using h), fun _ => rfl, fun h => C10 (by simpa using h), fun h => C12 (by simpa using h), fun h => S0 (by simpa using h), fun h => T0 (by simpa using h)⟩
                · refine stepOk_some (i := 10) (by rfl) (by rfl) ?_
                  rintro u L T w' hT hu hL hp hcl ⟨C0, C1, C2, C3, C4, C5, C6, C7, C8, C9, C10, C12, S0, T0⟩ K hK
                  have e6 := C6 (hp.of 6 (by kernel_rfl))
                  have e9 := C9 (hp.of 9 (by kernel_rfl))
                  go_simp
                  try go_bits
                  try (rw [if_neg (by omega)]; go_simp)
                  refine hK _ _ ?_
                  exact ⟨fun h => C0 (by simpa using h), fun h => C1 (by simpa using h), fun h => C2 (by simpa using h), fun h => C3 (by simpa using h), fun h => C4 (by simpa using h), fun h => C5 (by simpa using h), fun h => C6 (by simpa using h), fun h => C7 (by simpa using h), fun h => C8 (by simpa using h), fun h => C9 (by simpa using h), fun _ => rfl, fun h => C12 (by simpa using h), fun h => S0 (by simpa using h), fun h => T0 (by simpa using h)⟩
                · refine stepOk_none (i := 11) (by rfl) (by rfl) ?_
                  rintro u L T w' hT hu hL hp hcl ⟨C0, C1, C2, C3, C4, C5, C6, C7, C8, C9, C10, C12, S0, T0⟩ K hK
                  have e3 := C3 (hp.of 3 (by kernel_rfl))
                  obtain rfl := S0 hL
                  have e2 : u 2 = .pointer (some ⟨w.heap.size, 0, none⟩) := hu 2 (by decide); have hc9 : W2.drew.heap[w.heap.size]? = _ := HC2.out; have hf9 := frozen_row hc9; have hb9 := (Array.getElem?_eq_some_iff.1 hc9).1; obtain ⟨k0, k1, k2, k3⟩ := cells4 hc9
                  go_simp
                  refine hK _ ?_
                  exact ⟨fun h => C0 (by simpa using h), fun h => C1 (by simpa using h), fun h => C2 (by simpa using h), fun h => C3 (by simpa using h), fun h => C4 (by simpa using h), fun h => C5 (by simpa using h), fun h => C6 (by simpa using h), fun h => C7 (by simpa using h), fun h => C8 (by simpa using h), fun h => C9 (by simpa using h), fun h => C10 (by simpa using h), fun h => C12 (by simpa using h), fun h => absurd h (by simp), fun _ => rfl⟩
                · refine stepOk_some (i := 12) (by rfl) (by rfl) ?_
                  rintro u L T w' hT hu hL hp hcl ⟨C0, C1, C2, C3, C4, C5, C6, C7, C8, C9, C10, C12, S0, T0⟩ K hK
                  have e10 := C10 (hp.of 10 (by kernel_rfl))
                  go_simp
                  refine hK _ _ ?_
                  exact ⟨fun h => C0 (by simpa using h), fun h => C1 (by simpa using h), fun h => C2 (by simpa using h), fun h => C3 (by simpa using h), fun h => C4 (by simpa using h), fun h => C5 (by simpa using h), fun h => C6 (by simpa using h), fun h => C7 (by simpa using h), fun h => C8 (by simpa using h), fun h => C9 (by simpa using h), fun h => C10 (by simpa using h), fun _ => rfl, fun h => S0 (by simpa using h), fun h => T0 (by simpa using h)⟩
              · rintro u L w' hall hu ⟨C0, C1, C2, C3, C4, C5, C6, C7, C8, C9, C10, C12, S0, T0⟩
                replace T0 := T0 (hall 11 (by omega))
                replace C0 := C0 (hall 0 (by omega))
                replace C1 := C1 (hall 1 (by omega))
                replace C2 := C2 (hall 2 (by omega))
                replace C3 := C3 (hall 3 (by omega))
                replace C4 := C4 (hall 4 (by omega))
                replace C5 := C5 (hall 5 (by omega))
                replace C6 := C6 (hall 6 (by omega))
                replace C7 := C7 (hall 7 (by omega))
                replace C8 := C8 (hall 8 (by omega))
                replace C9 := C9 (hall 9 (by omega))
                replace C10 := C10 (hall 10 (by omega))
                replace C12 := C12 (hall 12 (by omega))
                simp only [fill, List.setIfInBounds_toArray, List.set_cons_succ, List.set_cons_zero, C0, C1, C2, C3, C4, C5, C6, C7, C8, C9, C10, C12]
                clear C0 C1 C2 C3 C4 C5 C6 C7 C8 C9 C10 C12 hu hall
              -- end inv
                subst w'
                go_wp2_with fail
                obtain ⟨W9, hW9, hst, hch⟩ := set4 (show W2.drew.heap[w.heap.size]? = _ from HC2.out) (Str r) (Str []) (.int .i64 (v : Int)) (.slice none 0 0)
                rw [hW9]
                obtain ⟨e0', e1', e2', e3'⟩ := cells4 hst
                refine bodyPost_ret (v := .tuple #[.agg #[Str r, Str [], .int .i64 (v : Int), .slice none 0 0], .bool b5]) (by simp [results, Tryz.results21, go_sem, e0', e1', e2', e3']) rfl ⟨⟨r, v, by rw [HR3.out], fun _ => ⟨(HH2.out HV.out).1.symm, (HH2.out HV.out).2.symm⟩⟩, below_chg (Below.drew HX2.out) hch (fun k hk => by have hk' : k = w.heap.size := hk; omega) (Nat.le_refl _)⟩
            · have hd100 : decide ((100 : Int) ≤ (v : Int)) = false := by simp; omega
              have HR3 : Hid (rightA f = false) := Lib.hid (by rw [HR2.out, decide_eq_false hv]; rfl)
              have HV := Lib.hid hv
              clear hv HR2
              go_wp2_with fail
              -- inv {'ops': [('mv', 43, 0, 'Str f'), ('op', 44, [0], 'Str r'), ('mv', 45, 4, '.int .i64 (v : Int)'), ('op', 46, [1, 2], '.agg #[Str r, Str [], .int .i64 (v : Int), .slice none 0 0]'), ('mv', 47, 4, '.int .i64 (v : Int)'), ('op', 48, [4], '.bool false'), ('mw', 49, 5, '.bool false'), ('sk', 50), ('sk', 51), ('sk', 52), ('op', 53, [6], '.bool false'), ('st', None, [3], 'have e2 : u 2 = .pointer (some ⟨w.heap.size, 0, none⟩) := hu 2 (by decide); have hc9 : W2.drew.heap[w.heap.size]? = _ := HC2.out; have hf9 := frozen_row hc9; have hb9 := (Array.getElem?_eq_some_iff.1 hc9).1; obtain ⟨k0, k1, k2, k3⟩ := cells4 hc9'), ('mw', 3, 10, '.bool false')], 'G': {7: (6, 'false'), 8: (6, 'false'), 9: (6, 'false')}, 'W': [('S0', "L 11 = false → w' = W2.drew", 'fun _ => rfl'), ('T0', "L 11 = true → w' = (((W2.drew.setCell ⟨w.heap.size, 0, none⟩ (Str r)).setCell ⟨w.heap.size, 1, none⟩ (Str [])).setCell ⟨w.heap.size, 2, none⟩ (.int .i64 (v : Int))).setCell ⟨w.heap.size, 3, none⟩ (.slice none 0 0)", 'fun h => by cases h')]}
              refine wp_region_any (by kernel_rfl) ?_
              change wpAny _ _ _ _ _ _ _ (World.drew _)
              refine wpAny_inv (n := 13) [43, 44, 45, 46, 47, 48, 49, 50, 51, 52, 53, 3] (fun u L w' =>
                  (L 0 = true → u 43 = Str f) ∧
                  (L 1 = true → u 44 = Str r) ∧
                  (L 2 = true → u 45 = .int .i64 (v : Int)) ∧
                  (L 3 = true → u 46 = .agg #[Str r, Str [], .int .i64 (v : Int), .slice none 0 0]) ∧
                  (L 4 = true → u 47 = .int .i64 (v : Int)) ∧
                  (L 5 = true → u 48 = .bool false) ∧
                  (L 6 = true → u 49 = .bool false) ∧
                  (L 7 = true → True) ∧
                  (L 8 = true → True) ∧
                  (L 9 = true → True) ∧
                  (L 10 = true → u 53 = .bool false) ∧
                  (L 12 = true → u 3 = .bool false) ∧
                  (L 11 = false → w' = W2.drew) ∧
                  (L 11 = true → w' = (((W2.drew.setCell ⟨w.heap.size, 0, none⟩ (Str r)).setCell ⟨w.heap.size, 1, none⟩ (Str [])).setCell ⟨w.heap.size, 2, none⟩ (.int .i64 (v : Int))).setCell ⟨w.heap.size, 3, none⟩ (.slice none 0 0)))
                (by rfl) (by kernel_rfl) (by kernel_rfl) (by rfl) ?_ ?_ ?_
              · exact ⟨(fun h => by cases h), (fun h => by cases h), (fun h => by cases h), (fun h => by cases h), (fun h => by cases h), (fun h => by cases h), (fun h => by cases h), (fun h => by cases h), (fun h => by cases h), (fun h => by cases h), (fun h => by cases h), (fun h => by cases h), fun _ => rfl, fun h => by cases h⟩
              · refine ⟨⟨⟨⟨⟨⟨⟨⟨⟨⟨⟨⟨⟨trivial, ?_⟩, ?_⟩, ?_⟩, ?_⟩, ?_⟩, ?_⟩, ?_⟩, ?_⟩, ?_⟩, ?_⟩, ?_⟩, ?_⟩, ?_⟩
                · refine stepOk_some (i := 0) (by rfl) (by rfl) ?_
                  rintro u L T w' hT hu hL hp hcl ⟨C0, C1, C2, C3, C4, C5, C6, C7, C8, C9, C10, C12, S0, T0⟩ K hK
                  have e1 : u 0 = Str f := hu 0 (by decide)
                  go_simp
                  refine hK _ _ ?_
                  exact ⟨fun _ => rfl, fun h => C1 (by simpa using h), fun h => C2 (by simpa using h), fun h => C3 (by simpa using h), fun h => C4 (by simpa using h), fun h => C5 (by simpa using h), fun h => C6 (by simpa using h), fun h => C7 (by simpa using h), fun h => C8 (by simpa using h), fun h => C9 (by simpa using h), fun h => C10 (by simpa using h), fun h => C12 (by simpa using h), fun h => S0 (by simpa using h), fun h => T0 (by simpa using h)⟩
                · refine stepOk_some (i := 1) (by rfl) (by rfl) ?_
                  rintro u L T w' hT hu hL hp hcl ⟨C0, C1, C2, C3, C4, C5, C6, C7, C8, C9, C10, C12, S0, T0⟩ K hK
                  have e0 := C0 (hp.of 0 (by kernel_rfl))
                  go_simp
                  try go_bits
                  try (rw [if_neg (by omega)]; go_simp)
                  refine hK _ _ ?_
                  exact ⟨fun h => C0 (by simpa using h), fun _ => rfl, fun h => C2 (by simpa using h), fun h => C3 (by simpa using h), fun h => C4 (by simpa using h), fun h => C5 (by simpa using h), fun h => C6 (by simpa using h), fun h => C7 (by simpa using h), fun h => C8 (by simpa using h), fun h => C9 (by simpa using h), fun h => C10 (by simpa using h), fun h => C12 (by simpa using h), fun h => S0 (by simpa using h), fun h => T0 (by simpa using h)⟩
                · refine stepOk_some (i := 2) (by rfl) (by rfl) ?_
                  rintro u L T w' hT hu hL hp hcl ⟨C0, C1, C2, C3, C4, C5, C6, C7, C8, C9, C10, C12, S0, T0⟩ K hK
                  have e1 : u 4 = .int .i64 (v : Int) := hu 4 (by decide)
                  go_simp
                  refine hK _ _ ?_
                  exact ⟨fun h => C0 (by simpa using h), fun h => C1 (by simpa using h), fun _ => rfl, fun h => C3 (by simpa using h), fun h => C4 (by simpa using h), fun h => C5 (by simpa using h), fun h => C6 (by simpa using h), fun h => C7 (by simpa using h), fun h => C8 (by simpa using h), fun h => C9 (by simpa using h), fun h => C10 (by simpa using h), fun h => C12 (by simpa using h), fun h => S0 (by simpa using h), fun h => T0 (by simpa using h)⟩
                · refine stepOk_some (i := 3) (by rfl) (by rfl) ?_
                  rintro u L T w' hT hu hL hp hcl ⟨C0, C1, C2, C3, C4, C5, C6, C7, C8, C9, C10, C12, S0, T0⟩ K hK
                  have e1 := C1 (hp.of 1 (by kernel_rfl))
                  have e2 := C2 (hp.of 2 (by kernel_rfl))
                  go_simp
                  try go_bits
                  try (rw [if_neg (by omega)]; go_simp)
                  refine hK _ _ ?_
                  exact ⟨fun h => C0 (by simpa using h), fun h => C1 (by simpa using h), fun h => C2 (by simpa using h), fun _ => rfl, fun h => C4 (by simpa using h), fun h => C5 (by simpa using h), fun h => C6 (by simpa using h), fun h => C7 (by simpa using h), fun h => C8 (by simpa using h), fun h => C9 (by simpa using h), fun h => C10 (by simpa using h), fun h => C12 (by simpa using h), fun h => S0 (by simpa using h), fun h => T0 (by simpa using h)⟩
                · refine stepOk_some (i := 4) (by rfl) (by rfl) ?_
                  rintro u L T w' hT hu hL hp hcl ⟨C0, C1, C2, C3, C4, C5, C6, C7, C8, C9, C10, C12, S0, T0⟩ K hK
                  have e1 : u 4 = .int .i64 (v : Int) := hu 4 (by decide)
                  go_simp
                  refine hK _ _ ?_
                  exact ⟨fun h => C0 (by simpa using h), fun h => C1 (by simpa using h), fun h => C2 (by simpa using h), fun h => C3 (by simpa using h), fun _ => rfl, fun h => C5 (by simpa using h), fun h => C6 (by simpa using h), fun h => C7 (by simpa using h), fun h => C8 (by simpa using h), fun h => C9 (by simpa using h), fun h => C10 (by simpa using h), fun h => C12 (by simpa using h), fun h => S0 (by simpa using h), fun h => T0 (by simpa using h)⟩
                · refine stepOk_some (i := 5) (by rfl) (by rfl) ?_
                  rintro u L T w' hT hu hL hp hcl ⟨C0, C1, C2, C3, C4, C5, C6, C7, C8, C9, C10, C12, S0, T0⟩ K hK
                  have e4 := C4 (hp.of 4 (by kernel_rfl))
                  go_simp
                  try go_bits
                  try (rw [if_neg (by omega)]; go_simp)
                  refine hK _ _ ?_
                  exact ⟨fun h => C0 (by simpa using h), fun h => C1 (by simpa using h), fun h => C2 (by simpa using h), fun h => C3 (by simpa using h), fun h => C4 (by simpa using h), fun _ => rfl, fun h => C6 (by simpa using h), fun h => C7 (by simpa using h), fun h => C8 (by simpa using h), fun h => C9 (by simpa using h), fun h => C10 (by simpa using h), fun h => C12 (by simpa using h), fun h => S0 (by simpa using h), fun h => T0 (by simpa using h)⟩
                · refine stepOk_some (i := 6) (by rfl) (by rfl) ?_
                  rintro u L T w' hT hu hL hp hcl ⟨C0, C1, C2, C3, C4, C5, C6, C7, C8, C9, C10, C12, S0, T0⟩ K hK
                  have e5 := C5 (hp.of 5 (by kernel_rfl))
                  go_simp
                  refine hK _ _ ?_
                  exact ⟨fun h => C0 (by simpa using h), fun h => C1 (by simpa using h), fun h => C2 (by simpa using h), fun h => C3 (by simpa using h), fun h => C4 (by simpa using h), fun h => C5 (by simpa using h), fun _ => rfl, fun h => C7 (by simpa using h), fun h => C8 (by simpa using h), fun h => C9 (by simpa using h), fun h => C10 (by simpa using h), fun h => C12 (by simpa using h), fun h => S0 (by simpa using h), fun h => T0 (by simpa using h)⟩
                · refine stepOk_some (i := 7) (by rfl) (by rfl) ?_
                  rintro u L T w' hT hu hL hp hcl ⟨C0, C1, C2, C3, C4, C5, C6, C7, C8, C9, C10, C12, S0, T0⟩ K hK
                  have hg := getD_bool ((hT 49).trans (C6 (hp.of 6 (by kernel_rfl))))
                  go_simp
                  refine hK _ _ ?_
                  exact ⟨fun h => C0 (by simpa using h), fun h => C1 (by simpa using h), fun h => C2 (by simpa using h), fun h => C3 (by simpa using h), fun h => C4 (by simpa using h), fun h => C5 (by simpa using h), fun h => C6 (by simpa using h), fun _ => trivial, fun h => C8 (by simpa using h), fun h => C9 (by simpa using h), fun h => C10 (by simpa using h), fun h => C12 (by simpa using h), fun h => S0 (by simpa using h), fun h => T0 (by simpa using h)⟩
                · refine stepOk_some (i := 8) (by rfl) (by rfl) ?_
                  rintro u L T w' hT hu hL hp hcl ⟨C0, C1, C2, C3, C4, C5, C6, C7, C8, C9, C10, C12, S0, T0⟩ K hK
                  have hg := getD_bool ((hT 49).trans (C6 (hp.of 6 (by kernel_rfl))))
                  go_simp
                  refine hK _ _ ?_
                  exact ⟨fun h => C0 (by simpa using h), fun h => C1 (by simpa using h), fun h => C2 (by simpa using h), fun h => C3 (by simpa using h), fun h => C4 (by simpa using h), fun h => C5 (by simpa using h), fun h => C6 (by simpa using h), fun h => C7 (by simpa using h), fun _ => trivial, fun h => C9 (by simpa using h), fun h => C10 (by simpa using h), fun h => C12 (by simpa using h), fun h => S0 (by simpa using h), fun h => T0 (by simpa using h)⟩
                · refine stepOk_some (i := 9) (by rfl) (by rfl) ?_
                  rintro u L T w' hT hu hL hp hcl ⟨C0, C1, C2, C3, C4, C5, C6, C7, C8, C9, C10, C12, S0, T0⟩ K hK
                  have hg := getD_bool ((hT 49).trans (C6 (hp.of 6 (by kernel_rfl))))
                  go_simp
                  refine hK _ _ ?_
                  exact ⟨fun h => C0 (by simpa using h), fun h => C1 (by simpa using h), fun h => C2 (by simpa using h), fun h => C3 (by simpa using h), fun h => C4 (by simpa using h), fun h => C5 (by simpa using h), fun h => C6 (by simpa using h), fun h => C7 (by simpa using h), fun h => C8 (by simpa using h), fun _ => trivial, fun h => C10 (by simpa using h), fun h => C12 (by simpa using h), fun h => S0 (by simpa using h), fun h => T0 (by simpa using h)⟩
                · refine stepOk_some (i := 10) (by rfl) (by rfl) ?_
                  rintro u L T w' hT hu hL hp hcl ⟨C0, C1, C2, C3, C4, C5, C6, C7, C8, C9, C10, C12, S0, T0⟩ K hK
                  have e6 := C6 (hp.of 6 (by kernel_rfl))
                  go_simp
                  try go_bits
                  try (rw [if_neg (by omega)]; go_simp)
                  refine hK _ _ ?_
                  exact ⟨fun h => C0 (by simpa using h), fun h => C1 (by simpa using h), fun h => C2 (by simpa using h), fun h => C3 (by simpa using h), fun h => C4 (by simpa using h), fun h => C5 (by simpa using h), fun h => C6 (by simpa using h), fun h => C7 (by simpa using h), fun h => C8 (by simpa using h), fun h => C9 (by simpa using h), fun _ => rfl, fun h => C12 (by simpa using h), fun h => S0 (by simpa using h), fun h => T0 (by simpa using h)⟩
                · refine stepOk_none (i := 11) (by rfl) (by rfl) ?_
                  rintro u L T w' hT hu hL hp hcl ⟨C0, C1, C2, C3, C4, C5, C6, C7, C8, C9, C10, C12, S0, T0⟩ K hK
                  have e3 := C3 (hp.of 3 (by kernel_rfl))
                  obtain rfl := S0 hL
                  have e2 : u 2 = .pointer (some ⟨w.heap.size, 0, none⟩) := hu 2 (by decide); have hc9 : W2.drew.heap[w.heap.size]? = _ := HC2.out; have hf9 := frozen_row hc9; have hb9 := (Array.getElem?_eq_some_iff.1 hc9).1; obtain ⟨k0, k1, k2, k3⟩ := cells4 hc9
                  go_simp
                  refine hK _ ?_
                  exact ⟨fun h => C0 (by simpa using h), fun h => C1 (by simpa using h), fun h => C2 (by simpa using h), fun h => C3 (by simpa using h), fun h => C4 (by simpa using h), fun h => C5 (by simpa using h), fun h => C6 (by simpa using h), fun h => C7 (by simpa using h), fun h => C8 (by simpa using h), fun h => C9 (by simpa using h), fun h => C10 (by simpa using h), fun h => C12 (by simpa using h), fun h => absurd h (by simp), fun _ => rfl⟩
                · refine stepOk_some (i := 12) (by rfl) (by rfl) ?_
                  rintro u L T w' hT hu hL hp hcl ⟨C0, C1, C2, C3, C4, C5, C6, C7, C8, C9, C10, C12, S0, T0⟩ K hK
                  have e10 := C10 (hp.of 10 (by kernel_rfl))
                  go_simp
                  refine hK _ _ ?_
                  exact ⟨fun h => C0 (by simpa using h), fun h => C1 (by simpa using h), fun h => C2 (by simpa using h), fun h => C3 (by simpa using h), fun h => C4 (by simpa using h), fun h => C5 (by simpa using h), fun h => C6 (by simpa using h), fun h => C7 (by simpa using h), fun h => C8 (by simpa using h), fun h => C9 (by simpa using h), fun h => C10 (by simpa using h), fun _ => rfl, fun h => S0 (by simpa using h), fun h => T0 (by simpa using h)⟩
              · rintro u L w' hall hu ⟨C0, C1, C2, C3, C4, C5, C6, C7, C8, C9, C10, C12, S0, T0⟩
                replace T0 := T0 (hall 11 (by omega))
                replace C0 := C0 (hall 0 (by omega))
                replace C1 := C1 (hall 1 (by omega))
                replace C2 := C2 (hall 2 (by omega))
                replace C3 := C3 (hall 3 (by omega))
                replace C4 := C4 (hall 4 (by omega))
                replace C5 := C5 (hall 5 (by omega))
                replace C6 := C6 (hall 6 (by omega))
                replace C7 := C7 (hall 7 (by omega))
                replace C8 := C8 (hall 8 (by omega))
                replace C9 := C9 (hall 9 (by omega))
                replace C10 := C10 (hall 10 (by omega))
                replace C12 := C12 (hall 12 (by omega))
                simp only [fill, List.setIfInBounds_toArray, List.set_cons_succ, List.set_cons_zero, C0, C1, C2, C3, C4, C5, C6, C10, C12]
                generalize u 50 = s0 at *
                generalize u 51 = s1 at *
                generalize u 52 = s2 at *
                clear C0 C1 C2 C3 C4 C5 C6 C7 C8 C9 C10 C12 hu hall
              -- end inv
                subst w'
                go_wp2_with fail
                obtain ⟨W9, hW9, hst, hch⟩ := set4 (show W2.drew.heap[w.heap.size]? = _ from HC2.out) (Str r) (Str []) (.int .i64 (v : Int)) (.slice none 0 0)
                rw [hW9]
                obtain ⟨e0', e1', e2', e3'⟩ := cells4 hst
                refine bodyPost_ret (v := .tuple #[.agg #[Str r, Str [], .int .i64 (v : Int), .slice none 0 0], .bool false]) (by simp [results, Tryz.results21, go_sem, e0', e1', e2', e3']) rfl ⟨⟨r, v, by rw [HR3.out], fun h => by rw [HR3.out] at h; cases h⟩, below_chg (Below.drew HX2.out) hch (fun k hk => by have hk' : k = w.heap.size := hk; omega) (Nat.le_refl _)⟩
      · have HB := Lib.hid (HBAD.out (fun h => h32 h.2.2))
        have hc32 : (((bt f 12).toNat : Int) == 32) = false := by
          rw [beq_eq_false_iff_ne]; intro h
          exact h32 (UInt8.toNat_inj.1 (by simpa using (by omega : (bt f 12).toNat = 32)))
        generalize bt f 12 = c at *
        have hcb := c.toNat_lt
        have hf1 := frozen_row HC1.out
        obtain ⟨d0, d1, d2, d3⟩ := cells4 HC1.out
        clear h32 h9 HBAD h13 hc1 hx1 hW1
        go_enter Tryz.func21, Tryz.ntmps21
        go_wp2
        rw [HW1.out]
        obtain ⟨e0', e1', e2', e3'⟩ := cells4 HC1.out
        refine bodyPost_ret (v := .tuple #[.agg #[Str [], Str [], .int .i64 0, .slice none 0 0], .bool false]) (by simp [results, Tryz.results21, go_sem, e0', e1', e2', e3']) rfl ⟨HB.out, HX1.out⟩
    · have HB := Lib.hid (HBAD.out (fun h => h9 h.2.1))
      have e9 : (f.take 9 == [72, 84, 84, 80, 47, 49, 46, 49, 32]) = false := by have : (f.take 9 == ver9) = false := by simpa using h9
                                                                                 exact this
      clear h9 HBAD h13 hc1 hx1 hW1
      go_enter Tryz.func21, Tryz.ntmps21
      go_wp2
      rw [HW1.out]
      obtain ⟨e0', e1', e2', e3'⟩ := cells4 HC1.out
      refine bodyPost_ret (v := .tuple #[.agg #[Str [], Str [], .int .i64 0, .slice none 0 0], .bool false]) (by simp [results, Tryz.results21, go_sem, e0', e1', e2', e3']) rfl ⟨HB.out, HX1.out⟩
  · have HB := Lib.hid (HBAD.out (fun h => h13 h.1))
    have t13 : decide ((f.length : Int) < 13) = true := by simp; omega
    clear h13 HBAD hc1 hx1 hW1
    go_enter Tryz.func21, Tryz.ntmps21
    go_wp2
    rw [HW1.out]
    obtain ⟨e0', e1', e2', e3'⟩ := cells4 HC1.out
    refine bodyPost_ret (v := .tuple #[.agg #[Str [], Str [], .int .i64 0, .slice none 0 0], .bool false]) (by simp [results, Tryz.results21, go_sem, e0', e1', e2', e3']) rfl ⟨HB.out, HX1.out⟩
end Go.Proofs.YtmflnffjhfejhaaGreatDoor
