/-
  HeadLines.
-/
import Derived.BigGuardPart
import Derived.Deep.DrawnRows
import Derived.Test.YtmflnffjhfejhaaDoorRows
import Derived.Test.YtmflnffjhfejhaaDoorHaw
import Derived.Test.YtmflnffjhfejhaaDoorHeq
import Derived.Test.YtmflnffjhfejhaaDoorHll
import Derived.Test.YtmflnffjhfejhaaDoorKit
import Derived.Test.YtmflnffjhfejhaaDoorOpb
namespace Go.Proofs.YtmflnffjhfejhaaDoor
open Go.RowKit
set_option maxRecDepth 100000
attribute [local go_sem ↓] Go.wp_at_zero Go.wp_at_succ
set_option linter.unusedVariables false
set_option linter.unusedSimpArgs false

theorem rowC_headm {W : World} {v : Value} {xs : List (List UInt8 × Bool)} (h : RowC 2 lnC W v xs) (k : Nat) (hk : k ≤ xs.length) : RowC 2 lnC W (headm v k) (xs.take k) := by
  obtain ⟨ao, cap, hv, h0, h1, h2, h3⟩ := h
  subst hv
  have hlen : (xs.take k).length = k := by simp; omega
  refine ⟨if cap = 0 then ao else ao.map (·.add 0), cap, by rw [headm_shape, hlen], ?_, by omega, h2, fun hne => ?_⟩
  · rcases h0 with ⟨ha, hc⟩ | ⟨a, ha⟩
    · left; rw [if_pos hc]; exact ⟨ha, hc⟩
    · right; subst ha; split
      · exact ⟨_, rfl⟩
      · exact ⟨_, rfl⟩
  · have hne2 : xs ≠ [] := fun e => hne (by rw [e]; simp)
    obtain ⟨g, o, ha, hc⟩ := h3 hne2
    subst ha
    have hx := List.length_pos_iff.2 hne2
    refine ⟨g, o, by rw [if_neg (by omega)]; simp [Addr.add], fun j x hj i u hu => hc j x ?_ i u hu⟩
    rw [List.getElem?_take] at hj
    split at hj
    · exact hj
    · cases hj
theorem run_headm2 {P : Program} {t e : TypeId} {z : Nat} (ht : P.underlying t = some (.slice e)) (hz : ∀ w, (Go.sizeOf e).run P w = .ok z w) {ao : Option Addr} {n cap : Nat} (hcap : n ≤ cap) :
    ∀ (W : World) (k : Nat), k ≤ n → (Instr.slice t (.slice ao n cap) none (some (.int .i64 (k : Int))) none).run P W = .ok (headm (.slice ao n cap) k) W := by
  intro W k hk
  have h1 := run_sliceBound (P := P) (w := W) .i64 (k : Int) cap .sliceAcap (by omega) (by omega)
  simp [Instr.slice, Instr.sliceBounds, run_underlying ht, h1, hz, Result.andThen, headm]
set_option maxHeartbeats 4000000 in
theorem lines_law (p : Value) (l0 : List UInt8) (a1 : Int) (ha : 0 ≤ a1) (hb : a1 ≤ 255) (w : World) (hL : Lb w) (hp : SlB w p l0) :
    Calls Tryd.prog 5 #[p, .int .u8 a1] w fun e w' => e = .returned (.bool true) ∧ Ext w w' := by
  have HL := Lib.hid hL
  have HAW := Lib.hid (awake_law w hL)
  have HP := Lib.hid hp
  obtain ⟨j, hj, hj4⟩ : ∃ j : Nat, a1.tmod 4 = (j : Int) ∧ j < 4 := by
    refine ⟨(a1 % 4).toNat, ?_, ?_⟩
    · rw [Int.tmod_eq_emod_of_nonneg ha]; omega
    · omega
  have hj' : a1 % 4 = (j : Int) := by rw [← Int.tmod_eq_emod_of_nonneg ha]; exact hj
  clear hL hp
  go_enter Tryd.func5, Tryd.ntmps5
  go_wp2_with (go_at_call 7; refine HAW.out.mono ?_; rintro e W1 ⟨he, hx⟩; subst he; have HX := Lib.hid hx; clear hx; refine Hid.out ?_)
  refine Lib.hid ?_
  have hL1 := HL.out.ext HX.out
  have hcut := cut_any p l0 200 W1 (HP.out.ext HX.out) (by omega)
  go_wp2_with fail
  refine Calls.mono hcut ?_
  rintro e W2 ⟨v, he, hown, hx2⟩
  subst he
  have hl : (l0.take 200).length ≤ 200 := by rw [List.length_take]; omega
  have hX2 := ext_trans HX.out hx2
  generalize l0.take 200 = l at *
  have hsl : SlB W2 v l := sl_of_own hown
  have hcv := run_str (P := Tryd.prog) (src := 27) (dst := 9) Tryd.underlying27 Tryd.underlying5 Tryd.underlying9 hsl
  have HSL := Lib.hid hsl; have HX2 := Lib.hid hX2
  have HRL := Lib.hid (refLines_any l (by omega) W2)
  clear hcut hown hx2 hX2 hsl hL1
  go_wp2_with fail
  refine Calls.mono HRL.out ?_
  rintro e W3 ⟨wv, he, hown, hx3⟩
  subst he
  have hrow := rowC_of_own lnC_len hown
  have hll := hlines_len _ l (Nat.le_refl _)
  have HLN1 : Hid (∀ W, Lb W → SlB W v l → Calls Tryd.prog 15 #[v, .int .i64 1000] W fun e w' => ∃ v', e = .returned v' ∧ RowC 2 lnC w' v' (hlines l) ∧ Ext W w') := Lib.hid (fun W hW hs => (linesL_any v l (by omega) 1000 (by omega) W hW hs).mono (by
    rintro e w' ⟨v', he, hr, hx⟩
    have hr2 := rowC_of_own lnC_len hr
    rw [List.take_of_length_le (by omega)] at hr2
    exact ⟨v', he, hr2, hx⟩))
  have HLN2 : Hid (∀ W, Lb W → SlB W v l → Calls Tryd.prog 15 #[v, .int .i64 (1 + (j : Int))] W fun e w' => ∃ v', e = .returned v' ∧ RowC 2 lnC w' v' ((hlines l).take (1 + j)) ∧ Ext W w') := Lib.hid (fun W hW hs => by
    have h := linesL_any v l (by omega) (1 + j) (by omega) W hW hs
    rw [show ((1 + j : Nat) : Int) = 1 + (j : Int) by omega] at h
    refine h.mono ?_
    rintro e w' ⟨v', he, hr, hx⟩
    exact ⟨v', he, rowC_of_own lnC_len hr, hx⟩)
  generalize hlines l = xs at *
  have hmin := run_min_nat Tryd.prog xs.length (1 + j) (1 + (j : Int)) (by omega)
  have hle : min xs.length (1 + j) ≤ xs.length := Nat.min_le_left _ _
  have hrow2 := rowC_headm hrow (min xs.length (1 + j)) hle
  rw [show xs.take (min xs.length (1 + j)) = xs.take (1 + j) by rw [Nat.min_comm, List.take_eq_take_iff]; omega] at hrow2
  obtain ⟨ao, cap, hv, _, hcap, _⟩ := id hrow
  subst hv
  have hrun := run_headm2 (P := Tryd.prog) Tryd.underlying36 Tryd.sizeOf40 (ao := ao) hcap
  have hL3 := HL.out.ext (ext_trans HX2.out hx3)
  have hs3 := HSL.out.ext hx3
  have hX3 := ext_trans HX2.out hx3
  generalize min xs.length (1 + j) = mn at *
  rw [headm_shape] at hrow2
  simp only [headm_shape] at hrun
  obtain ⟨ao2, hao2⟩ : ∃ ao2, (if cap = 0 then ao else ao.map (·.add 0)) = ao2 := ⟨_, rfl⟩
  rw [hao2] at hrow2
  simp only [hao2] at hrun
  have HDW := Lib.hid (show Ext W3 W3.drew from Below.drew (Below.refl _ _))
  have HX3 := Lib.hid hX3; have HL3 := Lib.hid hL3; have HS3 := Lib.hid hs3; have HR := Lib.hid hrow; have HR2 := Lib.hid hrow2
  clear hown hx3 hrow hrow2 hL3 hs3 hX3 HRL HSL HX2 HX HP HAW hao2 hcv
  go_wp2_with fail
  -- inv {'ops': [('mv',18,0,'v'),('callx',19,[0],"HLN1.out w' L0 R2","RowC 2 lnC w' (u 19) xs"),('mv',20,5,'.slice ao xs.length cap'),('call',21,[2],"equalLines_same _ _ xs w' (C1 (hp.of 1 (by kernel_rfl))) R0",'.bool true'),('mw',22,3,'.bool true'),('mv',23,0,'v'),('mv',24,6,'.int .i64 (1 + (j : Int))'),('callx',25,[5,6],"HLN2.out w' L0 R2","RowC 2 lnC w' (u 25) (xs.take (1 + j))"),('mv',26,5,'.slice ao xs.length cap'),('mv',27,5,'.slice ao xs.length cap'),('op',28,[9],'.int .i64 (xs.length : Int)'),('mv',29,6,'.int .i64 (1 + (j : Int))'),('op',30,[10,11],'.int .i64 (mn : Int)'),('op',31,[8,12],'.slice ao2 mn cap'),('call',32,[13],"equalLines_same _ _ _ w' (C7 (hp.of 7 (by kernel_rfl))) R1",'.bool true'),('op',33,[4,14],'.bool true'),('mw',4,15,'.bool true')], 'G': {5:(4,'true'),6:(4,'true'),7:(4,'true'),8:(4,'true'),9:(4,'true'),10:(4,'true'),11:(4,'true'),12:(4,'true'),13:(4,'true'),14:(4,'true')}, 'W': [('E0',"Ext w w'",'Below.drew HX3.out'),('L0',"Lb w'",'HL3.out.ext HDW.out'),('R2',"SlB w' v l",'HS3.out.ext HDW.out'),('R0',"RowC 2 lnC w' (.slice ao xs.length cap) xs",'HR.out.ext HDW.out'),('R1',"RowC 2 lnC w' (.slice ao2 mn cap) (xs.take (1 + j))",'HR2.out.ext HDW.out')]}
  refine wp_region_any (by kernel_rfl) ?_
  change wpAny _ _ _ _ _ _ _ (World.drew _)
  refine wpAny_inv (n := 17) [18, 19, 20, 21, 22, 23, 24, 25, 26, 27, 28, 29, 30, 31, 32, 33, 4] (fun u L w' =>
      (L 0 = true → u 18 = v) ∧
      (L 1 = true → RowC 2 lnC w' (u 19) xs) ∧
      (L 2 = true → u 20 = .slice ao xs.length cap) ∧
      (L 3 = true → u 21 = .bool true) ∧
      (L 4 = true → u 22 = .bool true) ∧
      (L 5 = true → u 23 = v) ∧
      (L 6 = true → u 24 = .int .i64 (1 + (j : Int))) ∧
      (L 7 = true → RowC 2 lnC w' (u 25) (xs.take (1 + j))) ∧
      (L 8 = true → u 26 = .slice ao xs.length cap) ∧
      (L 9 = true → u 27 = .slice ao xs.length cap) ∧
      (L 10 = true → u 28 = .int .i64 (xs.length : Int)) ∧
      (L 11 = true → u 29 = .int .i64 (1 + (j : Int))) ∧
      (L 12 = true → u 30 = .int .i64 (mn : Int)) ∧
      (L 13 = true → u 31 = .slice ao2 mn cap) ∧
      (L 14 = true → u 32 = .bool true) ∧
      (L 15 = true → u 33 = .bool true) ∧
      (L 16 = true → u 4 = .bool true) ∧
      (Ext w w') ∧
      (Lb w') ∧
      (SlB w' v l) ∧
      (RowC 2 lnC w' (.slice ao xs.length cap) xs) ∧
      (RowC 2 lnC w' (.slice ao2 mn cap) (xs.take (1 + j))))
    (by rfl) (by kernel_rfl) (by kernel_rfl) (by rfl) ?_ ?_ ?_
  · exact ⟨(fun h => by cases h), (fun h => by cases h), (fun h => by cases h), (fun h => by cases h), (fun h => by cases h), (fun h => by cases h), (fun h => by cases h), (fun h => by cases h), (fun h => by cases h), (fun h => by cases h), (fun h => by cases h), (fun h => by cases h), (fun h => by cases h), (fun h => by cases h), (fun h => by cases h), (fun h => by cases h), (fun h => by cases h), Below.drew HX3.out, HL3.out.ext HDW.out, HS3.out.ext HDW.out, HR.out.ext HDW.out, HR2.out.ext HDW.out⟩
  · refine ⟨⟨⟨⟨⟨⟨⟨⟨⟨⟨⟨⟨⟨⟨⟨⟨⟨trivial, ?_⟩, ?_⟩, ?_⟩, ?_⟩, ?_⟩, ?_⟩, ?_⟩, ?_⟩, ?_⟩, ?_⟩, ?_⟩, ?_⟩, ?_⟩, ?_⟩, ?_⟩, ?_⟩, ?_⟩
    · refine stepOk_some (i := 0) (by rfl) (by rfl) ?_
      rintro u L T w' hT hu hL hp hcl ⟨C0, C1, C2, C3, C4, C5, C6, C7, C8, C9, C10, C11, C12, C13, C14, C15, C16, E0, L0, R2, R0, R1⟩ K hK
      have e1 : u 0 = v := hu 0 (by decide)
      go_simp
      refine hK _ _ ?_
      exact ⟨fun _ => rfl, fun h => C1 (by simpa using h), fun h => C2 (by simpa using h), fun h => C3 (by simpa using h), fun h => C4 (by simpa using h), fun h => C5 (by simpa using h), fun h => C6 (by simpa using h), fun h => C7 (by simpa using h), fun h => C8 (by simpa using h), fun h => C9 (by simpa using h), fun h => C10 (by simpa using h), fun h => C11 (by simpa using h), fun h => C12 (by simpa using h), fun h => C13 (by simpa using h), fun h => C14 (by simpa using h), fun h => C15 (by simpa using h), fun h => C16 (by simpa using h), E0, L0, R2, R0, R1⟩
    · refine stepOk_some (i := 1) (by rfl) (by rfl) ?_
      rintro u L T w' hT hu hL hp hcl ⟨C0, C1, C2, C3, C4, C5, C6, C7, C8, C9, C10, C11, C12, C13, C14, C15, C16, E0, L0, R2, R0, R1⟩ K hK
      have e0 := C0 (hp.of 0 (by kernel_rfl))
      go_simp
      refine Calls.mono (HLN1.out w' L0 R2) ?_
      rintro e w1 ⟨v1, he, hr1, hx1⟩
      subst he
      refine hK _ _ ?_
      exact ⟨fun h => C0 (by simpa using h), fun _ => hr1, fun h => C2 (by simpa using h), fun h => C3 (by simpa using h), fun h => C4 (by simpa using h), fun h => C5 (by simpa using h), fun h => C6 (by simpa using h), fun h => (C7 (by simpa using h)).ext hx1, fun h => C8 (by simpa using h), fun h => C9 (by simpa using h), fun h => C10 (by simpa using h), fun h => C11 (by simpa using h), fun h => C12 (by simpa using h), fun h => C13 (by simpa using h), fun h => C14 (by simpa using h), fun h => C15 (by simpa using h), fun h => C16 (by simpa using h), ext_trans (E0) hx1, (L0).ext hx1, (R2).ext hx1, (R0).ext hx1, (R1).ext hx1⟩
    · refine stepOk_some (i := 2) (by rfl) (by rfl) ?_
      rintro u L T w' hT hu hL hp hcl ⟨C0, C1, C2, C3, C4, C5, C6, C7, C8, C9, C10, C11, C12, C13, C14, C15, C16, E0, L0, R2, R0, R1⟩ K hK
      have e1 : u 5 = .slice ao xs.length cap := hu 5 (by decide)
      go_simp
      refine hK _ _ ?_
      exact ⟨fun h => C0 (by simpa using h), fun h => C1 (by simpa using h), fun _ => rfl, fun h => C3 (by simpa using h), fun h => C4 (by simpa using h), fun h => C5 (by simpa using h), fun h => C6 (by simpa using h), fun h => C7 (by simpa using h), fun h => C8 (by simpa using h), fun h => C9 (by simpa using h), fun h => C10 (by simpa using h), fun h => C11 (by simpa using h), fun h => C12 (by simpa using h), fun h => C13 (by simpa using h), fun h => C14 (by simpa using h), fun h => C15 (by simpa using h), fun h => C16 (by simpa using h), E0, L0, R2, R0, R1⟩
    · refine stepOk_some (i := 3) (by rfl) (by rfl) ?_
      rintro u L T w' hT hu hL hp hcl ⟨C0, C1, C2, C3, C4, C5, C6, C7, C8, C9, C10, C11, C12, C13, C14, C15, C16, E0, L0, R2, R0, R1⟩ K hK
      have e2 := C2 (hp.of 2 (by kernel_rfl))
      go_simp
      refine (equalLines_same _ _ xs w' (C1 (hp.of 1 (by kernel_rfl))) R0).mono ?_
      rintro e w1 ⟨he, hx1⟩
      subst he
      refine hK _ _ ?_
      exact ⟨fun h => C0 (by simpa using h), fun h => (C1 (by simpa using h)).ext hx1, fun h => C2 (by simpa using h), fun _ => rfl, fun h => C4 (by simpa using h), fun h => C5 (by simpa using h), fun h => C6 (by simpa using h), fun h => (C7 (by simpa using h)).ext hx1, fun h => C8 (by simpa using h), fun h => C9 (by simpa using h), fun h => C10 (by simpa using h), fun h => C11 (by simpa using h), fun h => C12 (by simpa using h), fun h => C13 (by simpa using h), fun h => C14 (by simpa using h), fun h => C15 (by simpa using h), fun h => C16 (by simpa using h), ext_trans (E0) hx1, (L0).ext hx1, (R2).ext hx1, (R0).ext hx1, (R1).ext hx1⟩
    · refine stepOk_some (i := 4) (by rfl) (by rfl) ?_
      rintro u L T w' hT hu hL hp hcl ⟨C0, C1, C2, C3, C4, C5, C6, C7, C8, C9, C10, C11, C12, C13, C14, C15, C16, E0, L0, R2, R0, R1⟩ K hK
      have e3 := C3 (hp.of 3 (by kernel_rfl))
      go_simp
      refine hK _ _ ?_
      exact ⟨fun h => C0 (by simpa using h), fun h => C1 (by simpa using h), fun h => C2 (by simpa using h), fun h => C3 (by simpa using h), fun _ => rfl, fun h => C5 (by simpa using h), fun h => C6 (by simpa using h), fun h => C7 (by simpa using h), fun h => C8 (by simpa using h), fun h => C9 (by simpa using h), fun h => C10 (by simpa using h), fun h => C11 (by simpa using h), fun h => C12 (by simpa using h), fun h => C13 (by simpa using h), fun h => C14 (by simpa using h), fun h => C15 (by simpa using h), fun h => C16 (by simpa using h), E0, L0, R2, R0, R1⟩
    · refine stepOk_some (i := 5) (by rfl) (by rfl) ?_
      rintro u L T w' hT hu hL hp hcl ⟨C0, C1, C2, C3, C4, C5, C6, C7, C8, C9, C10, C11, C12, C13, C14, C15, C16, E0, L0, R2, R0, R1⟩ K hK
      have hg := getD_bool ((hT 22).trans (C4 (hp.of 4 (by kernel_rfl))))
      have e1 : u 0 = v := hu 0 (by decide)
      go_simp
      refine hK _ _ ?_
      exact ⟨fun h => C0 (by simpa using h), fun h => C1 (by simpa using h), fun h => C2 (by simpa using h), fun h => C3 (by simpa using h), fun h => C4 (by simpa using h), fun _ => rfl, fun h => C6 (by simpa using h), fun h => C7 (by simpa using h), fun h => C8 (by simpa using h), fun h => C9 (by simpa using h), fun h => C10 (by simpa using h), fun h => C11 (by simpa using h), fun h => C12 (by simpa using h), fun h => C13 (by simpa using h), fun h => C14 (by simpa using h), fun h => C15 (by simpa using h), fun h => C16 (by simpa using h), E0, L0, R2, R0, R1⟩
    · refine stepOk_some (i := 6) (by rfl) (by rfl) ?_
      rintro u L T w' hT hu hL hp hcl ⟨C0, C1, C2, C3, C4, C5, C6, C7, C8, C9, C10, C11, C12, C13, C14, C15, C16, E0, L0, R2, R0, R1⟩ K hK
      have hg := getD_bool ((hT 22).trans (C4 (hp.of 4 (by kernel_rfl))))
      have e1 : u 6 = .int .i64 (1 + (j : Int)) := hu 6 (by decide)
      go_simp
      refine hK _ _ ?_
      exact ⟨fun h => C0 (by simpa using h), fun h => C1 (by simpa using h), fun h => C2 (by simpa using h), fun h => C3 (by simpa using h), fun h => C4 (by simpa using h), fun h => C5 (by simpa using h), fun _ => rfl, fun h => C7 (by simpa using h), fun h => C8 (by simpa using h), fun h => C9 (by simpa using h), fun h => C10 (by simpa using h), fun h => C11 (by simpa using h), fun h => C12 (by simpa using h), fun h => C13 (by simpa using h), fun h => C14 (by simpa using h), fun h => C15 (by simpa using h), fun h => C16 (by simpa using h), E0, L0, R2, R0, R1⟩
    · refine stepOk_some (i := 7) (by rfl) (by rfl) ?_
      rintro u L T w' hT hu hL hp hcl ⟨C0, C1, C2, C3, C4, C5, C6, C7, C8, C9, C10, C11, C12, C13, C14, C15, C16, E0, L0, R2, R0, R1⟩ K hK
      have hg := getD_bool ((hT 22).trans (C4 (hp.of 4 (by kernel_rfl))))
      have e5 := C5 (hp.of 5 (by kernel_rfl))
      have e6 := C6 (hp.of 6 (by kernel_rfl))
      go_simp
      refine Calls.mono (HLN2.out w' L0 R2) ?_
      rintro e w1 ⟨v1, he, hr1, hx1⟩
      subst he
      refine hK _ _ ?_
      exact ⟨fun h => C0 (by simpa using h), fun h => (C1 (by simpa using h)).ext hx1, fun h => C2 (by simpa using h), fun h => C3 (by simpa using h), fun h => C4 (by simpa using h), fun h => C5 (by simpa using h), fun h => C6 (by simpa using h), fun _ => hr1, fun h => C8 (by simpa using h), fun h => C9 (by simpa using h), fun h => C10 (by simpa using h), fun h => C11 (by simpa using h), fun h => C12 (by simpa using h), fun h => C13 (by simpa using h), fun h => C14 (by simpa using h), fun h => C15 (by simpa using h), fun h => C16 (by simpa using h), ext_trans (E0) hx1, (L0).ext hx1, (R2).ext hx1, (R0).ext hx1, (R1).ext hx1⟩
    · refine stepOk_some (i := 8) (by rfl) (by rfl) ?_
      rintro u L T w' hT hu hL hp hcl ⟨C0, C1, C2, C3, C4, C5, C6, C7, C8, C9, C10, C11, C12, C13, C14, C15, C16, E0, L0, R2, R0, R1⟩ K hK
      have hg := getD_bool ((hT 22).trans (C4 (hp.of 4 (by kernel_rfl))))
      have e1 : u 5 = .slice ao xs.length cap := hu 5 (by decide)
      go_simp
      refine hK _ _ ?_
      exact ⟨fun h => C0 (by simpa using h), fun h => C1 (by simpa using h), fun h => C2 (by simpa using h), fun h => C3 (by simpa using h), fun h => C4 (by simpa using h), fun h => C5 (by simpa using h), fun h => C6 (by simpa using h), fun h => C7 (by simpa using h), fun _ => rfl, fun h => C9 (by simpa using h), fun h => C10 (by simpa using h), fun h => C11 (by simpa using h), fun h => C12 (by simpa using h), fun h => C13 (by simpa using h), fun h => C14 (by simpa using h), fun h => C15 (by simpa using h), fun h => C16 (by simpa using h), E0, L0, R2, R0, R1⟩
    · refine stepOk_some (i := 9) (by rfl) (by rfl) ?_
      rintro u L T w' hT hu hL hp hcl ⟨C0, C1, C2, C3, C4, C5, C6, C7, C8, C9, C10, C11, C12, C13, C14, C15, C16, E0, L0, R2, R0, R1⟩ K hK
      have hg := getD_bool ((hT 22).trans (C4 (hp.of 4 (by kernel_rfl))))
      have e1 : u 5 = .slice ao xs.length cap := hu 5 (by decide)
      go_simp
      refine hK _ _ ?_
      exact ⟨fun h => C0 (by simpa using h), fun h => C1 (by simpa using h), fun h => C2 (by simpa using h), fun h => C3 (by simpa using h), fun h => C4 (by simpa using h), fun h => C5 (by simpa using h), fun h => C6 (by simpa using h), fun h => C7 (by simpa using h), fun h => C8 (by simpa using h), fun _ => rfl, fun h => C10 (by simpa using h), fun h => C11 (by simpa using h), fun h => C12 (by simpa using h), fun h => C13 (by simpa using h), fun h => C14 (by simpa using h), fun h => C15 (by simpa using h), fun h => C16 (by simpa using h), E0, L0, R2, R0, R1⟩
    · refine stepOk_some (i := 10) (by rfl) (by rfl) ?_
      rintro u L T w' hT hu hL hp hcl ⟨C0, C1, C2, C3, C4, C5, C6, C7, C8, C9, C10, C11, C12, C13, C14, C15, C16, E0, L0, R2, R0, R1⟩ K hK
      have hg := getD_bool ((hT 22).trans (C4 (hp.of 4 (by kernel_rfl))))
      have e9 := C9 (hp.of 9 (by kernel_rfl))
      go_simp
      try go_bits
      try (rw [if_neg (by omega)]; go_simp)
      refine hK _ _ ?_
      exact ⟨fun h => C0 (by simpa using h), fun h => C1 (by simpa using h), fun h => C2 (by simpa using h), fun h => C3 (by simpa using h), fun h => C4 (by simpa using h), fun h => C5 (by simpa using h), fun h => C6 (by simpa using h), fun h => C7 (by simpa using h), fun h => C8 (by simpa using h), fun h => C9 (by simpa using h), fun _ => rfl, fun h => C11 (by simpa using h), fun h => C12 (by simpa using h), fun h => C13 (by simpa using h), fun h => C14 (by simpa using h), fun h => C15 (by simpa using h), fun h => C16 (by simpa using h), E0, L0, R2, R0, R1⟩
    · refine stepOk_some (i := 11) (by rfl) (by rfl) ?_
      rintro u L T w' hT hu hL hp hcl ⟨C0, C1, C2, C3, C4, C5, C6, C7, C8, C9, C10, C11, C12, C13, C14, C15, C16, E0, L0, R2, R0, R1⟩ K hK
      have hg := getD_bool ((hT 22).trans (C4 (hp.of 4 (by kernel_rfl))))
      have e1 : u 6 = .int .i64 (1 + (j : Int)) := hu 6 (by decide)
      go_simp
      refine hK _ _ ?_
      exact ⟨fun h => C0 (by simpa using h), fun h => C1 (by simpa using h), fun h => C2 (by simpa using h), fun h => C3 (by simpa using h), fun h => C4 (by simpa using h), fun h => C5 (by simpa using h), fun h => C6 (by simpa using h), fun h => C7 (by simpa using h), fun h => C8 (by simpa using h), fun h => C9 (by simpa using h), fun h => C10 (by simpa using h), fun _ => rfl, fun h => C12 (by simpa using h), fun h => C13 (by simpa using h), fun h => C14 (by simpa using h), fun h => C15 (by simpa using h), fun h => C16 (by simpa using h), E0, L0, R2, R0, R1⟩
    · refine stepOk_some (i := 12) (by rfl) (by rfl) ?_
      rintro u L T w' hT hu hL hp hcl ⟨C0, C1, C2, C3, C4, C5, C6, C7, C8, C9, C10, C11, C12, C13, C14, C15, C16, E0, L0, R2, R0, R1⟩ K hK
      have hg := getD_bool ((hT 22).trans (C4 (hp.of 4 (by kernel_rfl))))
      have e10 := C10 (hp.of 10 (by kernel_rfl))
      have e11 := C11 (hp.of 11 (by kernel_rfl))
      go_simp
      try go_bits
      try (rw [if_neg (by omega)]; go_simp)
      refine hK _ _ ?_
      exact ⟨fun h => C0 (by simpa using h), fun h => C1 (by simpa using h), fun h => C2 (by simpa using h), fun h => C3 (by simpa using h), fun h => C4 (by simpa using h), fun h => C5 (by simpa using h), fun h => C6 (by simpa using h), fun h => C7 (by simpa using h), fun h => C8 (by simpa using h), fun h => C9 (by simpa using h), fun h => C10 (by simpa using h), fun h => C11 (by simpa using h), fun _ => rfl, fun h => C13 (by simpa using h), fun h => C14 (by simpa using h), fun h => C15 (by simpa using h), fun h => C16 (by simpa using h), E0, L0, R2, R0, R1⟩
    · refine stepOk_some (i := 13) (by rfl) (by rfl) ?_
      rintro u L T w' hT hu hL hp hcl ⟨C0, C1, C2, C3, C4, C5, C6, C7, C8, C9, C10, C11, C12, C13, C14, C15, C16, E0, L0, R2, R0, R1⟩ K hK
      have hg := getD_bool ((hT 22).trans (C4 (hp.of 4 (by kernel_rfl))))
      have e8 := C8 (hp.of 8 (by kernel_rfl))
      have e12 := C12 (hp.of 12 (by kernel_rfl))
      go_simp
      try go_bits
      try (rw [if_neg (by omega)]; go_simp)
      refine hK _ _ ?_
      exact ⟨fun h => C0 (by simpa using h), fun h => C1 (by simpa using h), fun h => C2 (by simpa using h), fun h => C3 (by simpa using h), fun h => C4 (by simpa using h), fun h => C5 (by simpa using h), fun h => C6 (by simpa using h), fun h => C7 (by simpa using h), fun h => C8 (by simpa using h), fun h => C9 (by simpa using h), fun h => C10 (by simpa using h), fun h => C11 (by simpa using h), fun h => C12 (by simpa using h), fun _ => rfl, fun h => C14 (by simpa using h), fun h => C15 (by simpa using h), fun h => C16 (by simpa using h), E0, L0, R2, R0, R1⟩
    · refine stepOk_some (i := 14) (by rfl) (by rfl) ?_
      rintro u L T w' hT hu hL hp hcl ⟨C0, C1, C2, C3, C4, C5, C6, C7, C8, C9, C10, C11, C12, C13, C14, C15, C16, E0, L0, R2, R0, R1⟩ K hK
      have hg := getD_bool ((hT 22).trans (C4 (hp.of 4 (by kernel_rfl))))
      have e13 := C13 (hp.of 13 (by kernel_rfl))
      go_simp
      refine (equalLines_same _ _ _ w' (C7 (hp.of 7 (by kernel_rfl))) R1).mono ?_
      rintro e w1 ⟨he, hx1⟩
      subst he
      refine hK _ _ ?_
      exact ⟨fun h => C0 (by simpa using h), fun h => (C1 (by simpa using h)).ext hx1, fun h => C2 (by simpa using h), fun h => C3 (by simpa using h), fun h => C4 (by simpa using h), fun h => C5 (by simpa using h), fun h => C6 (by simpa using h), fun h => (C7 (by simpa using h)).ext hx1, fun h => C8 (by simpa using h), fun h => C9 (by simpa using h), fun h => C10 (by simpa using h), fun h => C11 (by simpa using h), fun h => C12 (by simpa using h), fun h => C13 (by simpa using h), fun _ => rfl, fun h => C15 (by simpa using h), fun h => C16 (by simpa using h), ext_trans (E0) hx1, (L0).ext hx1, (R2).ext hx1, (R0).ext hx1, (R1).ext hx1⟩
    · refine stepOk_some (i := 15) (by rfl) (by rfl) ?_
      rintro u L T w' hT hu hL hp hcl ⟨C0, C1, C2, C3, C4, C5, C6, C7, C8, C9, C10, C11, C12, C13, C14, C15, C16, E0, L0, R2, R0, R1⟩ K hK
      have e4 := C4 (hp.of 4 (by kernel_rfl))
      have e14 := C14 (hp.of 14 (by kernel_rfl))
      go_simp
      try go_bits
      try (rw [if_neg (by omega)]; go_simp)
      refine hK _ _ ?_
      exact ⟨fun h => C0 (by simpa using h), fun h => C1 (by simpa using h), fun h => C2 (by simpa using h), fun h => C3 (by simpa using h), fun h => C4 (by simpa using h), fun h => C5 (by simpa using h), fun h => C6 (by simpa using h), fun h => C7 (by simpa using h), fun h => C8 (by simpa using h), fun h => C9 (by simpa using h), fun h => C10 (by simpa using h), fun h => C11 (by simpa using h), fun h => C12 (by simpa using h), fun h => C13 (by simpa using h), fun h => C14 (by simpa using h), fun _ => rfl, fun h => C16 (by simpa using h), E0, L0, R2, R0, R1⟩
    · refine stepOk_some (i := 16) (by rfl) (by rfl) ?_
      rintro u L T w' hT hu hL hp hcl ⟨C0, C1, C2, C3, C4, C5, C6, C7, C8, C9, C10, C11, C12, C13, C14, C15, C16, E0, L0, R2, R0, R1⟩ K hK
      have e15 := C15 (hp.of 15 (by kernel_rfl))
      go_simp
      refine hK _ _ ?_
      exact ⟨fun h => C0 (by simpa using h), fun h => C1 (by simpa using h), fun h => C2 (by simpa using h), fun h => C3 (by simpa using h), fun h => C4 (by simpa using h), fun h => C5 (by simpa using h), fun h => C6 (by simpa using h), fun h => C7 (by simpa using h), fun h => C8 (by simpa using h), fun h => C9 (by simpa using h), fun h => C10 (by simpa using h), fun h => C11 (by simpa using h), fun h => C12 (by simpa using h), fun h => C13 (by simpa using h), fun h => C14 (by simpa using h), fun h => C15 (by simpa using h), fun _ => rfl, E0, L0, R2, R0, R1⟩
  · rintro u L w' hall hu ⟨C0, C1, C2, C3, C4, C5, C6, C7, C8, C9, C10, C11, C12, C13, C14, C15, C16, E0, L0, R2, R0, R1⟩
    replace C0 := C0 (hall 0 (by omega))
    replace C1 := C1 (hall 1 (by omega))
    replace C2 := C2 (hall 2 (by omega))
    replace C3 := C3 (hall 3 (by omega))
    replace C4 := C4 (hall 4 (by omega))
    replace C5 := C5 (hall 5 (by omega))
    replace C6 := C6 (hall 6 (by omega))
    replace C7 := C7 (hall 7 (by omega))
    replace C8 := C8 (hall 8 (by omega))
    replace C9 := C9 (hall 9 (by omega))
    replace C10 := C10 (hall 10 (by omega))
    replace C11 := C11 (hall 11 (by omega))
    replace C12 := C12 (hall 12 (by omega))
    replace C13 := C13 (hall 13 (by omega))
    replace C14 := C14 (hall 14 (by omega))
    replace C15 := C15 (hall 15 (by omega))
    replace C16 := C16 (hall 16 (by omega))
    simp only [fill, List.setIfInBounds_toArray, List.set_cons_succ, List.set_cons_zero, C0, C2, C3, C4, C5, C6, C8, C9, C10, C11, C12, C13, C14, C15, C16]
    generalize u 19 = s0 at *
    generalize u 25 = s1 at *
    clear C0 C1 C2 C3 C4 C5 C6 C7 C8 C9 C10 C11 C12 C13 C14 C15 C16 hu hall
  -- end inv
    go_wp2_with fail
    go_ret
    exact ⟨rfl, E0⟩
theorem lines_card (w : World) (v : Value) (ls : List UInt8) (hr : SlB w v ls) (hb : ∀ x ∈ ls, TrueW x) (a1 : Int) (h0 : 0 ≤ a1) (h1 : a1 ≤ 255) (hL : Lb w) :
    Calls Tryd.prog 5 #[v, .int .u8 a1] w fun e w' => e = .returned (.bool true) ∧ Ext w w' := lines_law v ls a1 h0 h1 w hL hr
end Go.Proofs.YtmflnffjhfejhaaDoor
