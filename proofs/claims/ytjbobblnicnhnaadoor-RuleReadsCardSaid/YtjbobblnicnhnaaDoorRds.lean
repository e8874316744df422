/-
  RuleReads.
-/
import Derived.BigGuardPart
import Derived.Deep.DrawnRows
import Derived.Test.YtjbobblnicnhnaaDoorRows
import Derived.Test.YtjbobblnicnhnaaDoorRpa
import Derived.Test.YtjbobblnicnhnaaDoorRdp
import Derived.Test.YtjbobblnicnhnaaDoorEqr
import Derived.Test.YtjbobblnicnhnaaDoorRll
import Derived.Test.YtjbobblnicnhnaaDoorIdl
import Derived.Test.YtjbobblnicnhnaaDoorTxr
import Derived.Test.YtjbobblnicnhnaaDoorPar
import Derived.Test.YtjbobblnicnhnaaDoorAwr
import Derived.Test.YtjbobblnicnhnaaDoorKit
namespace Go.Proofs.YtjbobblnicnhnaaDoor
open Go.RowKit
set_option maxRecDepth 100000
attribute [local go_sem ↓] Go.wp_at_zero Go.wp_at_succ
set_option linter.unusedVariables false
set_option linter.unusedSimpArgs false

def prN : PR → Int
  | .bad n => (n : Int)
  | _ => 0
def prC : PR → Int
  | .long => 3
  | .bad _ => 4
  | .full => 8
  | .ok _ => 0
def prL : PR → List Ru
  | .ok rs => rs
  | _ => []
theorem parse_c (l : List UInt8) (hl : l.length ≤ 100000) (w : World) (hL : Lb w) :
    Calls Tryd.prog 28 #[Str l] w fun e w' => ∃ po, e = .returned (.tuple #[.pointer po, .int .i64 (prN (parseR l)), .int .i64 (prC (parseR l))]) ∧ PolV w' po (prL (parseR l)) ∧
      ((po = none ∧ prC (parseR l) ≠ 0 ∧ prL (parseR l) = []) ∨ (∃ b, po = some ⟨b, 0, none⟩ ∧ prC (parseR l) = 0 ∧ parseR l = .ok (prL (parseR l)))) ∧ Ext w w' := by
  refine (parse_any l hl w hL).mono ?_
  rintro e w' ⟨h, hx⟩
  unfold ParR at h
  cases hp : parseR l <;> rw [hp] at h
  case ok rs =>
    obtain ⟨b, he, _, hpol⟩ := h
    exact ⟨_, he, .inr ⟨b, rfl, hpol⟩, .inr ⟨b, rfl, rfl, rfl⟩, hx⟩
  all_goals exact ⟨none, h, .inl ⟨rfl, rfl⟩, .inl ⟨rfl, by simp [prC], rfl⟩, hx⟩
theorem parseRf_c (l : List UInt8) (hl : l.length ≤ 10000) (w : World) :
    Calls Tryd.prog 29 #[Str l] w fun e w' => ∃ v, e = .returned (.tuple #[v, .int .i64 (prN (parseR l)), .int .i64 (prC (parseR l))]) ∧ RowU w' v (prL (parseR l)) ∧ Ext w w' := by
  refine (parseRf_any l hl w).mono ?_
  rintro e w' ⟨h, hx⟩
  cases hp : parseR l <;> rw [hp] at h
  case ok rs =>
    obtain ⟨v, he, hr⟩ := h
    exact ⟨_, he, rowC_of_own ruC_len hr, hx⟩
  all_goals exact ⟨_, h, rowC_of_own (B := 0) (e := 26) ruC_len (World.ownsRow_nil _ _ _ _), hx⟩
theorem ok_ruB {r : Ru} (h : ruOk r = true) : RuB r := by
  obtain ⟨h1, h2, h3, h4, h5, h6⟩ := ok_parts h
  have w1 := (word_facts h1).2.2; have w2 := (word_facts h2).2.2; have w3 := (pat_facts h3).2.2
  constructor <;> omega
theorem prL_facts {l : List UInt8} : (∀ r ∈ prL (parseR l), ruOk r = true) ∧ (prL (parseR l)).length ≤ 32 := by
  cases hp : parseR l
  case ok rs => exact parse_ok hp
  all_goals exact ⟨(fun r hr => absurd hr (by simp [prL])), Nat.zero_le _⟩
theorem rowC_headr {W : World} {v : Value} {xs : List Ru} (h : RowU W v xs) (k : Nat) (hk : k ≤ xs.length) : ∃ ao cap ao2, v = .slice ao xs.length cap ∧ xs.length ≤ cap ∧ RowU W (.slice ao2 k cap) (xs.take k) ∧
    ∀ W', (Instr.slice 34 (.slice ao xs.length cap) none (some (.int .i64 (k : Int))) none).run Tryd.prog W' = .ok (.slice ao2 k cap) W' := by
  obtain ⟨ao, cap, hv, h0, h1, h2, h3⟩ := h
  subst hv
  have hlen : (xs.take k).length = k := by simp; omega
  refine ⟨ao, cap, if cap = 0 then ao else ao.map (·.add 0), rfl, h1, ⟨_, cap, by rw [hlen], ?_, by omega, h2, fun hne => ?_⟩, fun W' => ?_⟩
  · rcases h0 with ⟨ha, hc⟩ | ⟨a, ha⟩
    · left; rw [if_pos hc]; exact ⟨ha, hc⟩
    · right; subst ha; split
      · exact ⟨_, rfl⟩
      · exact ⟨_, rfl⟩
  · have hne2 : xs ≠ [] := fun e => hne (by rw [e]; simp)
    obtain ⟨g, o, ha, hc⟩ := h3 hne2
    subst ha
    have hx := List.length_pos_iff.2 hne2
    refine ⟨g, o, by rw [if_neg (by omega)]; simp [Addr.add], fun j x hj i u hu => hc j x ?_ i u hu⟩
    rw [List.getElem?_take] at hj
    split at hj
    · exact hj
    · cases hj
  · have h1 := run_sliceBound (P := Tryd.prog) (w := W') .i64 (k : Int) cap .sliceAcap (by omega) (by omega)
    simp [Instr.slice, Instr.sliceBounds, run_underlying Tryd.underlying34, h1, Tryd.sizeOf26, Result.andThen]
set_option maxHeartbeats 4000000 in
theorem reads_any (l0 : List UInt8) (a1 : Int) (ha : 0 ≤ a1) (hb : a1 ≤ 255) (w : World) (hL : Lb w) :
    Calls Tryd.prog 7 #[Str l0, .int .u8 a1] w fun e w' => e = .returned (.bool true) ∧ Ext w w' := by
  have HL := Lib.hid hL
  have HA := Lib.hid (awake_law w hL)
  obtain ⟨j, hj, hj4⟩ : ∃ j : Nat, a1.tmod 4 = (j : Int) ∧ j < 4 := by
    refine ⟨(a1 % 4).toNat, ?_, ?_⟩
    · rw [Int.tmod_eq_emod_of_nonneg ha]; omega
    · omega
  have hj' : a1 % 4 = (j : Int) := by rw [← Int.tmod_eq_emod_of_nonneg ha]; exact hj
  clear hL
  go_enter Tryd.func7, Tryd.ntmps7
  go_wp2_with fail
  refine HA.out.mono ?_
  rintro e W1 ⟨he, hx⟩; subst he
  have HX := Lib.hid hx; clear hx HA
  go_wp2_with fail
  refine (cutText_any l0 4200 W1 (by omega)).mono ?_
  rintro e W2 ⟨he, hw⟩; subst he; subst W2
  have hl : (l0.take 4200).length ≤ 4200 := by rw [List.length_take]; omega
  generalize l0.take 4200 = l at *
  have HPC := Lib.hid (parse_c l (by omega) W1 (HL.out.ext HX.out))
  go_wp2_with fail
  refine HPC.out.mono ?_
  rintro e W2 ⟨po, he, hpv, hpc, hx⟩; subst he
  have HX2 := Lib.hid (ext_trans HX.out hx); have HPV := Lib.hid hpv; have HC := Lib.hid hpc
  clear hx hpv hpc HPC
  have HRF := Lib.hid (parseRf_c l (by omega) W2)
  go_wp2_with fail
  refine HRF.out.mono ?_
  rintro e W3 ⟨lv, he, hlr, hx⟩; subst he
  have HX3 := Lib.hid (ext_trans HX2.out hx); have HPV3 := Lib.hid (PolV.ext HPV.out hx); have HLR := Lib.hid hlr
  clear hx hlr HRF
  obtain ⟨hok, h32⟩ := prL_facts (l := l)
  have HOK := Lib.hid hok; clear hok
  have HPK : Hid (parseR (polT (prL (parseR l))) = .ok (prL (parseR l))) := Lib.hid (parse_pol _ HOK.out h32)
  have HRB : Hid (∀ r ∈ prL (parseR l), RuB r) := Lib.hid (fun r hr => ok_ruB (HOK.out r hr))
  generalize prL (parseR l) = rs at *
  generalize prN (parseR l) = n at *
  obtain ⟨c, hc⟩ : ∃ c, prC (parseR l) = c := ⟨_, rfl⟩
  simp only [hc]
  obtain ⟨b0, hb1, hb2⟩ : ∃ b0 : Bool, (c == 0) = b0 ∧ po.isSome = b0 := by
    rcases HC.out with ⟨h1, h2, h3⟩ | ⟨b, h1, h2, h3⟩
    · exact ⟨false, by simp [hc ▸ h2], by simp [h1]⟩
    · exact ⟨true, by simp [hc.symm.trans h2], by simp [h1]⟩
  have HR3 := Lib.hid (fun W hp => rulesL_any po rs (by omega) 1000 (by omega) (by omega) W hp)
  have HLN := Lib.hid (fun W hp => len_any po rs (by omega) W hp)
  have HCC := Lib.hid hc
  have HB := Lib.hid (And.intro hb1 hb2)
  clear hc hb1 hb2
  obtain ⟨hb1, hb2⟩ := HB.out
  go_wp2_with fail
  refine (HR3.out W3 HPV3.out).mono ?_
  rintro e W4 ⟨v4, he, ho4, hx⟩; subst he
  rw [List.take_of_length_le (by omega)] at ho4
  have hr4 := rowC_of_own ruC_len ho4
  clear ho4
  have hx4 := ext_trans HX3.out hx
  have hlr4 := RowC.ext HLR.out hx
  have hpv4 := PolV.ext HPV3.out hx
  go_wp2_with fail
  refine (equalRows_same _ _ rs W4 hr4 hlr4).mono ?_
  rintro e W5 ⟨he, hx5⟩; subst he
  have hrow := RowC.ext hlr4 hx5
  have HP5 := Lib.hid (PolV.ext hpv4 hx5); have HX5 := Lib.hid (ext_trans hx4 hx5)
  clear hx hr4 hlr4 hx4 hpv4 hx5
  obtain ⟨ao, cap, ao2, hv, hcap, hrow2, hrun⟩ := rowC_headr hrow (min rs.length (1 + j)) (Nat.min_le_left _ _)
  subst hv
  rw [show rs.take (min rs.length (1 + j)) = rs.take (1 + j) by rw [Nat.min_comm, List.take_eq_take_iff]; omega] at hrow2
  have hmin := run_min_nat Tryd.prog rs.length (1 + j) (1 + (j : Int)) (by omega)
  generalize min rs.length (1 + j) = mn at *
  have HR := Lib.hid hrow; have HR2 := Lib.hid hrow2
  clear hrow hrow2
  go_wp2_with fail
  refine (HLN.out W5 HP5.out).mono ?_
  rintro e W6 ⟨he, hw⟩; subst he; subst W6
  have HDW := Lib.hid (show Ext W5 W5.drew from Below.drew (Below.refl _ _))
  have HL5 := Lib.hid (HL.out.ext HX5.out)
  have HRL : Hid (∀ W, PolV W po rs → Calls Tryd.prog 31 #[.pointer po, .int .i64 (1 + (j : Int))] W fun e w' => ∃ v', e = .returned v' ∧ RowU w' v' (rs.take (1 + j)) ∧ Ext W w') := Lib.hid (fun W hp => by
    have h := rulesL_any po rs (by omega) (1 + j) (by omega) (by omega) W hp
    rw [show ((1 + j : Nat) : Int) = 1 + (j : Int) by omega] at h
    refine h.mono ?_
    rintro e w' ⟨v', he, hr, hx⟩
    exact ⟨v', he, rowC_of_own ruC_len hr, hx⟩)
  go_wp2_with fail
  -- inv {'ops': [('mv',64,5,'.pointer po'),('mv',65,11,'.int .i64 (1 + (j : Int))'),('callx',66,[0,1],"HRL.out w' L0","RowU w' (u 66) (rs.take (1 + j))"),('mv',67,8,'.slice ao rs.length cap'),('mv',68,8,'.slice ao rs.length cap'),('op',69,[4],'.int .i64 (rs.length : Int)'),('mv',70,11,'.int .i64 (1 + (j : Int))'),('op',71,[5,6],'.int .i64 (mn : Int)'),('op',72,[3,7],'.slice ao2 mn cap'),('call',73,[2,8],"equalRows_same _ _ _ w' (C2 (hp.of 2 (by kernel_rfl))) R1",'.bool true'),('op',74,[9],'.bool false')], 'G': {}, 'W': [('E0',"Ext w w'",'Below.drew HX5.out'),('L0',"PolV w' po rs",'PolV.ext HP5.out HDW.out'),('R0',"Lb w'",'HL5.out.ext HDW.out'),('R1',"RowU w' (.slice ao2 mn cap) (rs.take (1 + j))",'RowC.ext HR2.out HDW.out'),('R3',"RowU w' (.slice ao rs.length cap) rs",'RowC.ext HR.out HDW.out')]}
  refine wp_region_any (by kernel_rfl) ?_
  change wpAny _ _ _ _ _ _ _ (World.drew _)
  refine wpAny_inv (n := 11) [64, 65, 66, 67, 68, 69, 70, 71, 72, 73, 74] (fun u L w' =>
      (L 0 = true → u 64 = .pointer po) ∧
      (L 1 = true → u 65 = .int .i64 (1 + (j : Int))) ∧
      (L 2 = true → RowU w' (u 66) (rs.take (1 + j))) ∧
      (L 3 = true → u 67 = .slice ao rs.length cap) ∧
      (L 4 = true → u 68 = .slice ao rs.length cap) ∧
      (L 5 = true → u 69 = .int .i64 (rs.length : Int)) ∧
      (L 6 = true → u 70 = .int .i64 (1 + (j : Int))) ∧
      (L 7 = true → u 71 = .int .i64 (mn : Int)) ∧
      (L 8 = true → u 72 = .slice ao2 mn cap) ∧
      (L 9 = true → u 73 = .bool true) ∧
      (L 10 = true → u 74 = .bool false) ∧
      (Ext w w') ∧
      (PolV w' po rs) ∧
      (Lb w') ∧
      (RowU w' (.slice ao2 mn cap) (rs.take (1 + j))) ∧
      (RowU w' (.slice ao rs.length cap) rs))
    (by rfl) (by kernel_rfl) (by kernel_rfl) (by rfl) ?_ ?_ ?_
  · exact ⟨(fun h => by cases h), (fun h => by cases h), (fun h => by cases h), (fun h => by cases h), (fun h => by cases h), (fun h => by cases h), (fun h => by cases h), (fun h => by cases h), (fun h => by cases h), (fun h => by cases h), (fun h => by cases h), Below.drew HX5.out, PolV.ext HP5.out HDW.out, HL5.out.ext HDW.out, RowC.ext HR2.out HDW.out, RowC.ext HR.out HDW.out⟩
  · refine ⟨⟨⟨⟨⟨⟨⟨⟨⟨⟨⟨trivial, ?_⟩, ?_⟩, ?_⟩, ?_⟩, ?_⟩, ?_⟩, ?_⟩, ?_⟩, ?_⟩, ?_⟩, ?_⟩
    · refine stepOk_some (i := 0) (by rfl) (by rfl) ?_
      rintro u L T w' hT hu hL hp hcl ⟨C0, C1, C2, C3, C4, C5, C6, C7, C8, C9, C10, E0, L0, R0, R1, R3⟩ K hK
      have e1 : u 5 = .pointer po := hu 5 (by decide)
      go_simp
      refine hK _ _ ?_
      exact ⟨fun _ => rfl, fun h => C1 (by simpa using h), fun h => C2 (by simpa using h), fun h => C3 (by simpa using h), fun h => C4 (by simpa using h), fun h => C5 (by simpa using h), fun h => C6 (by simpa using h), fun h => C7 (by simpa using h), fun h => C8 (by simpa using h), fun h => C9 (by simpa using h), fun h => C10 (by simpa using h), E0, L0, R0, R1, R3⟩
    · refine stepOk_some (i := 1) (by rfl) (by rfl) ?_
      rintro u L T w' hT hu hL hp hcl ⟨C0, C1, C2, C3, C4, C5, C6, C7, C8, C9, C10, E0, L0, R0, R1, R3⟩ K hK
      have e1 : u 11 = .int .i64 (1 + (j : Int)) := hu 11 (by decide)
      go_simp
      refine hK _ _ ?_
      exact ⟨fun h => C0 (by simpa using h), fun _ => rfl, fun h => C2 (by simpa using h), fun h => C3 (by simpa using h), fun h => C4 (by simpa using h), fun h => C5 (by simpa using h), fun h => C6 (by simpa using h), fun h => C7 (by simpa using h), fun h => C8 (by simpa using h), fun h => C9 (by simpa using h), fun h => C10 (by simpa using h), E0, L0, R0, R1, R3⟩
    · refine stepOk_some (i := 2) (by rfl) (by rfl) ?_
      rintro u L T w' hT hu hL hp hcl ⟨C0, C1, C2, C3, C4, C5, C6, C7, C8, C9, C10, E0, L0, R0, R1, R3⟩ K hK
      have e0 := C0 (hp.of 0 (by kernel_rfl))
      have e1 := C1 (hp.of 1 (by kernel_rfl))
      go_simp
      refine Calls.mono (HRL.out w' L0) ?_
      rintro e w1 ⟨v1, he, hr1, hx1⟩
      subst he
      refine hK _ _ ?_
      exact ⟨fun h => C0 (by simpa using h), fun h => C1 (by simpa using h), fun _ => hr1, fun h => C3 (by simpa using h), fun h => C4 (by simpa using h), fun h => C5 (by simpa using h), fun h => C6 (by simpa using h), fun h => C7 (by simpa using h), fun h => C8 (by simpa using h), fun h => C9 (by simpa using h), fun h => C10 (by simpa using h), ext_trans (E0) hx1, (L0).ext hx1, (R0).ext hx1, (R1).ext hx1, (R3).ext hx1⟩
    · refine stepOk_some (i := 3) (by rfl) (by rfl) ?_
      rintro u L T w' hT hu hL hp hcl ⟨C0, C1, C2, C3, C4, C5, C6, C7, C8, C9, C10, E0, L0, R0, R1, R3⟩ K hK
      have e1 : u 8 = .slice ao rs.length cap := hu 8 (by decide)
      go_simp
      refine hK _ _ ?_
      exact ⟨fun h => C0 (by simpa using h), fun h => C1 (by simpa using h), fun h => C2 (by simpa using h), fun _ => rfl, fun h => C4 (by simpa using h), fun h => C5 (by simpa using h), fun h => C6 (by simpa using h), fun h => C7 (by simpa using h), fun h => C8 (by simpa using h), fun h => C9 (by simpa using h), fun h => C10 (by simpa using h), E0, L0, R0, R1, R3⟩
    · refine stepOk_some (i := 4) (by rfl) (by rfl) ?_
      rintro u L T w' hT hu hL hp hcl ⟨C0, C1, C2, C3, C4, C5, C6, C7, C8, C9, C10, E0, L0, R0, R1, R3⟩ K hK
      have e1 : u 8 = .slice ao rs.length cap := hu 8 (by decide)
      go_simp
      refine hK _ _ ?_
      exact ⟨fun h => C0 (by simpa using h), fun h => C1 (by simpa using h), fun h => C2 (by simpa using h), fun h => C3 (by simpa using h), fun _ => rfl, fun h => C5 (by simpa using h), fun h => C6 (by simpa using h), fun h => C7 (by simpa using h), fun h => C8 (by simpa using h), fun h => C9 (by simpa using h), fun h => C10 (by simpa using h), E0, L0, R0, R1, R3⟩
    · refine stepOk_some (i := 5) (by rfl) (by rfl) ?_
      rintro u L T w' hT hu hL hp hcl ⟨C0, C1, C2, C3, C4, C5, C6, C7, C8, C9, C10, E0, L0, R0, R1, R3⟩ K hK
      have e4 := C4 (hp.of 4 (by kernel_rfl))
      go_simp
      try go_bits
      try (rw [if_neg (by omega)]; go_simp)
      try (rw [if_pos (by omega)]; go_simp)
      refine hK _ _ ?_
      exact ⟨fun h => C0 (by simpa using h), fun h => C1 (by simpa using h), fun h => C2 (by simpa using h), fun h => C3 (by simpa using h), fun h => C4 (by simpa using h), fun _ => rfl, fun h => C6 (by simpa using h), fun h => C7 (by simpa using h), fun h => C8 (by simpa using h), fun h => C9 (by simpa using h), fun h => C10 (by simpa using h), E0, L0, R0, R1, R3⟩
    · refine stepOk_some (i := 6) (by rfl) (by rfl) ?_
      rintro u L T w' hT hu hL hp hcl ⟨C0, C1, C2, C3, C4, C5, C6, C7, C8, C9, C10, E0, L0, R0, R1, R3⟩ K hK
      have e1 : u 11 = .int .i64 (1 + (j : Int)) := hu 11 (by decide)
      go_simp
      refine hK _ _ ?_
      exact ⟨fun h => C0 (by simpa using h), fun h => C1 (by simpa using h), fun h => C2 (by simpa using h), fun h => C3 (by simpa using h), fun h => C4 (by simpa using h), fun h => C5 (by simpa using h), fun _ => rfl, fun h => C7 (by simpa using h), fun h => C8 (by simpa using h), fun h => C9 (by simpa using h), fun h => C10 (by simpa using h), E0, L0, R0, R1, R3⟩
    · refine stepOk_some (i := 7) (by rfl) (by rfl) ?_
      rintro u L T w' hT hu hL hp hcl ⟨C0, C1, C2, C3, C4, C5, C6, C7, C8, C9, C10, E0, L0, R0, R1, R3⟩ K hK
      have e5 := C5 (hp.of 5 (by kernel_rfl))
      have e6 := C6 (hp.of 6 (by kernel_rfl))
      go_simp
      try go_bits
      try (rw [if_neg (by omega)]; go_simp)
      try (rw [if_pos (by omega)]; go_simp)
      refine hK _ _ ?_
      exact ⟨fun h => C0 (by simpa using h), fun h => C1 (by simpa using h), fun h => C2 (by simpa using h), fun h => C3 (by simpa using h), fun h => C4 (by simpa using h), fun h => C5 (by simpa using h), fun h => C6 (by simpa using h), fun _ => rfl, fun h => C8 (by simpa using h), fun h => C9 (by simpa using h), fun h => C10 (by simpa using h), E0, L0, R0, R1, R3⟩
    · refine stepOk_some (i := 8) (by rfl) (by rfl) ?_
      rintro u L T w' hT hu hL hp hcl ⟨C0, C1, C2, C3, C4, C5, C6, C7, C8, C9, C10, E0, L0, R0, R1, R3⟩ K hK
      have e3 := C3 (hp.of 3 (by kernel_rfl))
      have e7 := C7 (hp.of 7 (by kernel_rfl))
      go_simp
      try go_bits
      try (rw [if_neg (by omega)]; go_simp)
      try (rw [if_pos (by omega)]; go_simp)
      refine hK _ _ ?_
      exact ⟨fun h => C0 (by simpa using h), fun h => C1 (by simpa using h), fun h => C2 (by simpa using h), fun h => C3 (by simpa using h), fun h => C4 (by simpa using h), fun h => C5 (by simpa using h), fun h => C6 (by simpa using h), fun h => C7 (by simpa using h), fun _ => rfl, fun h => C9 (by simpa using h), fun h => C10 (by simpa using h), E0, L0, R0, R1, R3⟩
    · refine stepOk_some (i := 9) (by rfl) (by rfl) ?_
      rintro u L T w' hT hu hL hp hcl ⟨C0, C1, C2, C3, C4, C5, C6, C7, C8, C9, C10, E0, L0, R0, R1, R3⟩ K hK
      have e2 := C2 (hp.of 2 (by kernel_rfl))
      have e8 := C8 (hp.of 8 (by kernel_rfl))
      go_simp
      refine (equalRows_same _ _ _ w' (C2 (hp.of 2 (by kernel_rfl))) R1).mono ?_
      rintro e w1 ⟨he, hx1⟩
      subst he
      refine hK _ _ ?_
      exact ⟨fun h => C0 (by simpa using h), fun h => C1 (by simpa using h), fun h => (C2 (by simpa using h)).ext hx1, fun h => C3 (by simpa using h), fun h => C4 (by simpa using h), fun h => C5 (by simpa using h), fun h => C6 (by simpa using h), fun h => C7 (by simpa using h), fun h => C8 (by simpa using h), fun _ => rfl, fun h => C10 (by simpa using h), ext_trans (E0) hx1, (L0).ext hx1, (R0).ext hx1, (R1).ext hx1, (R3).ext hx1⟩
    · refine stepOk_some (i := 10) (by rfl) (by rfl) ?_
      rintro u L T w' hT hu hL hp hcl ⟨C0, C1, C2, C3, C4, C5, C6, C7, C8, C9, C10, E0, L0, R0, R1, R3⟩ K hK
      have e9 := C9 (hp.of 9 (by kernel_rfl))
      go_simp
      try go_bits
      try (rw [if_neg (by omega)]; go_simp)
      try (rw [if_pos (by omega)]; go_simp)
      refine hK _ _ ?_
      exact ⟨fun h => C0 (by simpa using h), fun h => C1 (by simpa using h), fun h => C2 (by simpa using h), fun h => C3 (by simpa using h), fun h => C4 (by simpa using h), fun h => C5 (by simpa using h), fun h => C6 (by simpa using h), fun h => C7 (by simpa using h), fun h => C8 (by simpa using h), fun h => C9 (by simpa using h), fun _ => rfl, E0, L0, R0, R1, R3⟩
  · rintro u L w' hall hu ⟨C0, C1, C2, C3, C4, C5, C6, C7, C8, C9, C10, E0, L0, R0, R1, R3⟩
    replace C0 := C0 (hall 0 (by omega))
    replace C1 := C1 (hall 1 (by omega))
    replace C2 := C2 (hall 2 (by omega))
    replace C3 := C3 (hall 3 (by omega))
    replace C4 := C4 (hall 4 (by omega))
    replace C5 := C5 (hall 5 (by omega))
    replace C6 := C6 (hall 6 (by omega))
    replace C7 := C7 (hall 7 (by omega))
    replace C8 := C8 (hall 8 (by omega))
    replace C9 := C9 (hall 9 (by omega))
    replace C10 := C10 (hall 10 (by omega))
    simp only [fill, List.setIfInBounds_toArray, List.set_cons_succ, List.set_cons_zero, C0, C1, C3, C4, C5, C6, C7, C8, C9, C10]
    generalize u 66 = s0 at *
    clear C0 C1 C2 C3 C4 C5 C6 C7 C8 C9 C10 hu hall
  -- end inv
    rename_i w9
    have HX9 := Lib.hid E0; have HP9 := Lib.hid L0; have HL9 := Lib.hid R0; have HR9 := Lib.hid R3
    clear E0 L0 R0 R1 R3 HDW HR HR2 HRL HLN HP5 HX5 HL5
    rcases HC.out with ⟨h1, h2, h3⟩ | ⟨b, h1, h2, h3⟩
    · subst po
      rw [HCC.out] at h2
      have hb0 : b0 = false := by rw [← hb1]; simp [h2]
      subst hb0
      subst h3
      have HT := Lib.hid (fun W hW hp => polText_any none [] (by simp) (by simp) W hW hp)
      clear HC HCC
      go_wp2_with fail
      refine (HT.out _ HL9.out HP9.out).mono ?_
      rintro e W10 ⟨he, hx⟩; subst he
      have hfin := ext_trans HX9.out hx
      go_wp2_with fail
      go_ret
      exact ⟨rfl, hfin⟩
    · subst po
      have hb0 : b0 = true := by rw [← hb1]; simp [HCC.out.symm.trans h2]
      subst hb0
      have hc0 : c = 0 := HCC.out.symm.trans h2
      subst hc0
      have HT := Lib.hid (fun pq W hW hp => polText_any pq rs (by omega) HRB.out W hW hp)
      have hpl := pol_len rs HOK.out
      have HPC := Lib.hid (fun W hW => parse_c (polT rs) (by omega) W hW)
      rw [HPK.out] at HPC
      have HR1k := Lib.hid (fun pq W hp => rulesL_any pq rs (by omega) 1000 (by omega) (by omega) W hp)
      clear HC HCC hpl
      go_wp2_with fail
      refine (HT.out _ _ HL9.out HP9.out).mono ?_
      rintro e W10 ⟨he, hx⟩; subst he
      have HL10 := Lib.hid (HL9.out.ext hx); have HX10 := Lib.hid (ext_trans HX9.out hx); have HR10 := Lib.hid (RowC.ext HR9.out hx); have HP10 := Lib.hid (PolV.ext HP9.out hx)
      clear hx HL9 HX9 HR9 HP9
      go_wp2_with fail
      refine (HPC.out W10 HL10.out).mono ?_
      rintro e W11 ⟨qo, he, hq, _, hx⟩; subst he
      have hq' : PolV W11 qo rs := hq
      have HQ := Lib.hid hq'
      have HL11 := Lib.hid (HL10.out.ext hx); have HX11 := Lib.hid (ext_trans HX10.out hx); have HR11 := Lib.hid (RowC.ext HR10.out hx); have HP11 := Lib.hid (PolV.ext HP10.out hx)
      clear hx hq hq' HL10 HX10 HR10 HP10
      simp only [prN, prC]
      go_wp2_with fail
      refine (HR1k.out _ W11 HQ.out).mono ?_
      rintro e W12 ⟨v12, he, ho, hx⟩; subst he
      rw [List.take_of_length_le (by omega)] at ho
      have hr := rowC_of_own ruC_len ho
      have hr2 := RowC.ext HR11.out hx
      have HQ2 := Lib.hid (PolV.ext HQ.out hx); have HL12 := Lib.hid (HL11.out.ext hx); have HX12 := Lib.hid (ext_trans HX11.out hx); have HP12 := Lib.hid (PolV.ext HP11.out hx)
      clear hx ho HQ HL11 HX11 HR11 HP11
      go_wp2_with fail
      refine (equalRows_same _ _ rs W12 hr hr2).mono ?_
      rintro e W13 ⟨he, hx⟩; subst he
      have HQ3 := Lib.hid (PolV.ext HQ2.out hx); have HL13 := Lib.hid (HL12.out.ext hx); have HX13 := Lib.hid (ext_trans HX12.out hx); have HP13 := Lib.hid (PolV.ext HP12.out hx)
      clear hx hr hr2 HQ2 HL12 HX12 HP12
      go_wp2_with fail
      refine (HT.out _ W13 HL13.out HQ3.out).mono ?_
      rintro e W14 ⟨he, hx⟩; subst he
      have HL14 := Lib.hid (HL13.out.ext hx); have HX14 := Lib.hid (ext_trans HX13.out hx); have HP14 := Lib.hid (PolV.ext HP13.out hx)
      clear hx HQ3 HL13 HX13 HP13
      go_wp2_with fail
      refine (HT.out _ W14 HL14.out HP14.out).mono ?_
      rintro e W15 ⟨he, hx⟩; subst he
      have hfin := ext_trans HX14.out hx
      go_wp2_with fail
      go_ret
      exact ⟨rfl, hfin⟩
end Go.Proofs.YtjbobblnicnhnaaDoor
