/-
  scram.ParseChallenge where it is right.
-/
import Derived.Test.YteickmohloglhaaGreatDoorRows
import Derived.Test.YteickmohloglhaaGreatDoorPbx
namespace Go.Proofs.YteickmohloglhaaGreatDoor
open Go.RowKit
set_option maxRecDepth 100000
attribute [local go_sem] Oper.semAt_some
set_option linter.unusedVariables false
set_option linter.unusedSimpArgs false
theorem cells4s {Z : World} {s t : Nat} {a0 a1 a2 a3 : Value} (h : Z.heap[s]? = some (.cells [a0, a1, a2, a3].toArray t (0, 0))) : Z.cell? ⟨s, 0, none⟩ = some a0 ∧ Z.cell? ⟨s, 1, none⟩ = some a1 ∧ Z.cell? ⟨s, 2, none⟩ = some a2 ∧ Z.cell? ⟨s, 3, none⟩ = some a3 := by
  simp [World.cell?, h]
theorem set4 {W w : World} {t : Nat} {a0 a1 a2 a3 : Value} (h : W.heap[w.heap.size]? = some (.cells [a0, a1, a2, a3].toArray t (0, 0))) (hb : Below w.heap.size w W) (u0 u1 u2 u3 : Value) :
    ∃ Z, (((W.setCell ⟨w.heap.size, 0, none⟩ u0).setCell ⟨w.heap.size, 1, none⟩ u1).setCell ⟨w.heap.size, 2, none⟩ u2).setCell ⟨w.heap.size, 3, none⟩ u3 = Z ∧ Z.cell? ⟨w.heap.size, 0, none⟩ = some u0 ∧ Z.cell? ⟨w.heap.size, 1, none⟩ = some u1 ∧ Z.cell? ⟨w.heap.size, 2, none⟩ = some u2 ∧ Z.cell? ⟨w.heap.size, 3, none⟩ = some u3 ∧ Ext w Z := by
  have hZ := set_at (j := 3) (u := u3) (set_at (j := 2) (u := u2) (set_at (j := 1) (u := u1) (set_at (j := 0) (u := u0) h)))
  refine ⟨_, rfl, ?_, ?_, ?_, ?_, ?_⟩
  · simp [World.cell?, hZ]
  · simp [World.cell?, hZ]
  · simp [World.cell?, hZ]
  · simp [World.cell?, hZ]
  · exact Below.setCell (Below.setCell (Below.setCell (Below.setCell hb (Nat.le_refl _) _) (Nat.le_refl _) _) (Nat.le_refl _) _) (Nat.le_refl _) _
set_option maxHeartbeats 4000000 in
theorem ParseChallenge_ok (vB : List UInt8 → Bool) (s no sa : List UInt8) (xs : List (List UInt8)) (hs : s.length ≤ 4096) (hA : attsP s = (114 :: 61 :: no) :: (115 :: 61 :: sa) :: (105 :: 61 :: [49]) :: xs) (hS : (spl s).length = 3 + xs.length)
    (hnl : no.length ≤ 1000) (hno : nonF no = true) (hsl : sa.length ≤ 1000) (hsa : byB sa 1 32 = true) (hx2 : ∀ p ∈ xs, 1 ≤ p.length) (hok : xs.all (okA vB) = true) (hden : denB xs = false)
    (hv : ∀ p ∈ xs, ∀ W, FormsAt W → Calls Tryz.prog 21 #[Str (p.drop 2)] W fun e w' => e = .returned (.bool (vB p)) ∧ Ext W w') (w : World) (hM : MaxAt w) (hF : FormsAt w) (hT : TabW w) :
    Calls Tryz.prog 11 #[Str s] w fun e w' => (∃ a b c a2 b2 c2, e = .returned (.tuple #[.agg #[Str no, .slice a b c, .int .i64 1, .slice a2 b2 c2], .int .i64 0])) ∧ Ext w w' := by
  have hlen : decide ((4096 : Int) < (s.length : Int)) = false := by simp; omega
  have hxl : xs.length ≤ 100000 := by have := spl_len s; omega
  have HA := Lib.hid hA; have HS := Lib.hid hS; have HM := Lib.hid hM; have HF := Lib.hid hF; have HT := Lib.hid hT; have HNO := Lib.hid hno; have HSA := Lib.hid hsa; have HX2 := Lib.hid hx2; have HOK := Lib.hid hok; have HDEN := Lib.hid hden; have HV := Lib.hid hv
  have hfg : 1 < w.heap.size := by obtain ⟨fr, hf⟩ := hF; exact (Array.getElem?_eq_some_iff.1 hf).1
  clear hA hS hM hF hT hno hsa hx2 hok hden hv
  go_enter Tryz.func11, Tryz.ntmps11
  obtain ⟨W0, hW0⟩ : ∃ W0, w.alloc (.cells #[Str [], .slice none 0 0, .int .i64 0, .slice none 0 0] 42) = W0 := ⟨_, rfl⟩
  have x0 : Ext w W0 := by rw [← hW0]; exact Below.alloc (Below.refl _ _) (Nat.le_refl _) _
  have r0 : W0.heap[w.heap.size]? = some (.cells #[Str [], .slice none 0 0, .int .i64 0, .slice none 0 0] 42 (0, 0)) := by rw [← hW0]; exact Array.getElem?_push_size
  have HX0 := Lib.hid x0; have HR0 := Lib.hid r0
  clear x0 r0
  go_wp2_with fail
  clear hW0
  refine (read_any s (by omega) W0 (HM.out.ext HX0.out)).mono ?_
  rintro e W3 ⟨bm, v, rfl, hbm, hmsg, hown, hx⟩
  rw [HA.out, HS.out] at hmsg
  rw [HA.out] at hown
  rw [show decide ((((114 :: 61 :: no) :: (115 :: 61 :: sa) :: (105 :: 61 :: [49]) :: xs : List (List UInt8))).length < 3 + xs.length) = false by simp; omega] at hmsg
  have hsb : w.heap.size < bm := Nat.lt_of_lt_of_le (Array.getElem?_eq_some_iff.1 HR0.out).1 hbm
  have HMS := Lib.hid (show Msg bm W3.heap.size false _ W3 from ⟨v, hmsg, row2_of_own hown (by omega) (Nat.le_refl _)⟩)
  have HX3 := Lib.hid (ext_trans HX0.out hx)
  have HR3 := Lib.hid (ext_at hx HR0.out)
  have hbq : bm < W3.heap.size := HMS.out.lt
  clear hx hmsg hown HX0 HR0 hbm
  obtain ⟨W4, hW4⟩ : ∃ W4, W3.alloc (.cells #[Str [], .slice none 0 0, .int .i64 0, .slice none 0 0] 42) = W4 := ⟨_, rfl⟩
  have hx4 : Ext W3 W4 := by rw [← hW4]; exact Below.alloc (Below.refl _ _) (Nat.le_refl _) _
  have HP := Lib.hid (show PB w w.heap.size bm W3.heap.size 42 [Str [], .slice none 0 0, .int .i64 0, .slice none 0 0] [Str [], .slice none 0 0, .int .i64 0, .slice none 0 0] false _ W4 from
    ⟨ext_trans HX3.out hx4, HMS.out.ext hx4, by rw [← hW4]; exact Array.getElem?_push_size, ext_at hx4 HR3.out, rfl, hsb, hbq⟩)
  clear hx4 HMS HX3 HR3
  go_wp2_with fail
  clear hW4
  obtain ⟨q, hq⟩ : ∃ q, W3.heap.size = q := ⟨_, rfl⟩
  rw [hq] at HP hbq ⊢
  clear hq
  have hqf : 1 < q := by omega
  refine (next_at bm q false 114 no _ W4 HP.out.msg).mono ?_
  rintro e V1 ⟨rfl, hm, hz⟩
  have HP1 := Lib.hid (HP.out.bz hz hm)
  clear hm hz HP
  go_wp2_with fail
  refine (nonceM_ok bm q false _ no (by omega) HNO.out _ HP1.out.msg).mono ?_
  rintro e V2 ⟨rfl, hm, hz⟩
  have HP2 := Lib.hid (HP1.out.bz hz hm)
  clear hm hz HP1
  obtain ⟨c0, f0⟩ := HP2.out.cell 0 _ rfl
  go_wp2_with fail
  have HP3 := Lib.hid (HP2.out.store 0 (Str no) (cs' := [Str no, .slice none 0 0, .int .i64 0, .slice none 0 0]) rfl)
  clear c0 f0 HP2
  refine (next_at bm q false 115 sa _ _ HP3.out.msg).mono ?_
  rintro e V4 ⟨rfl, hm, hz⟩
  have HP4 := Lib.hid (HP3.out.bz hz hm)
  clear hm hz HP3
  go_wp2_with fail
  refine (bytesOf_any bm q false _ sa (by omega) 1 32 (by omega) (by omega) _ HP4.out.msg (Nat.le_of_lt HP4.out.lt)).mono ?_
  rintro e V5 ⟨sv, rfl, hown, hm, hz⟩
  rw [HSA.out, show (false || !true) = false from rfl] at hm
  have hsv : ∃ a n c, sv = .slice a n c := by
    rcases hown.2 with ⟨hv, h0⟩ | ⟨g, cap, _, hv, _⟩
    · exact ⟨_, _, _, hv⟩
    · exact ⟨_, _, _, hv⟩
  obtain ⟨sa1, sa2, sa3, rfl⟩ := hsv
  have HP5 := Lib.hid (HP4.out.bz hz hm)
  clear hm hz HP4 hown
  obtain ⟨c0, f0⟩ := HP5.out.cell 1 _ rfl
  go_wp2_with fail
  have HP6 := Lib.hid (HP5.out.store 1 (.slice sa1 sa2 sa3) (cs' := [Str no, .slice sa1 sa2 sa3, .int .i64 0, .slice none 0 0]) rfl)
  clear c0 f0 HP5
  refine (next_at bm q false 105 [49] _ _ HP6.out.msg).mono ?_
  rintro e V7 ⟨rfl, hm, hz⟩
  have HP7 := Lib.hid (HP6.out.bz hz hm)
  clear hm hz HP6
  go_wp2_with fail
  refine (rounds_one _ (HT.out.ext HP7.out.bel)).mono ?_
  rintro e V8 ⟨rfl, hx⟩
  have HP8 := Lib.hid (HP7.out.ext hx)
  clear hx HP7
  obtain ⟨c0, f0⟩ := HP8.out.cell 2 _ rfl
  go_wp2_with fail
  have HP9 := Lib.hid (HP8.out.store 2 (.int .i64 1) (cs' := [Str no, .slice sa1 sa2 sa3, .int .i64 1, .slice none 0 0]) rfl)
  clear c0 f0 HP8
  refine (fine_ok bm q false _ _ HP9.out.msg).mono ?_
  rintro e V10 ⟨rfl, hm, hz⟩
  have HP10 := Lib.hid (HP9.out.bz hz hm)
  clear hm hz HP9
  go_wp2_with fail
  refine (rest_ok vB bm q xs hxl _ HP10.out.msg (Nat.le_of_lt HP10.out.lt) HX2.out HOK.out (HF.out.ext HP10.out.bel) hqf (by omega) HV.out).mono ?_
  rintro e V11 ⟨xv, rfl, hown, hm, hz⟩
  have hxv : ∃ a n c, xv = .slice a n c := by
    rcases hown.2 with ⟨hv, h0⟩ | ⟨g, cap, _, hv, _⟩
    · exact ⟨_, _, _, hv⟩
    · exact ⟨_, _, _, hv⟩
  obtain ⟨xa1, xa2, xa3, rfl⟩ := hxv
  have HP11 := Lib.hid (HP10.out.bz hz hm)
  have HO := Lib.hid (hown.set q 3 (.slice xa1 xa2 xa3) HP10.out.lt)
  clear hm hz HP10 hown
  obtain ⟨c0, f0⟩ := HP11.out.cell 3 _ rfl
  go_wp2_with fail
  have HP12 := Lib.hid (HP11.out.store 3 (.slice xa1 xa2 xa3) (cs' := [Str no, .slice sa1 sa2 sa3, .int .i64 1, .slice xa1 xa2 xa3]) rfl)
  clear c0 f0 HP11
  refine (denied_any _ _ xs hxl _ HO.out).mono ?_
  rintro e V13 ⟨he, hx⟩
  rw [HDEN.out] at he
  subst he
  have HP13 := Lib.hid (HP12.out.ext hx)
  clear hx HP12 HO
  go_wp2_with fail
  refine (ended_ok bm q _ HP13.out.msg).mono ?_
  rintro e V14 ⟨rfl, hw⟩
  subst V14
  obtain ⟨c0, -⟩ := HP13.out.cell 0 _ rfl
  obtain ⟨c1, -⟩ := HP13.out.cell 1 _ rfl
  obtain ⟨c2, -⟩ := HP13.out.cell 2 _ rfl
  obtain ⟨c3, -⟩ := HP13.out.cell 3 _ rfl
  have hr := HP13.out.res
  obtain ⟨z0, z1, z2, z3⟩ := cells4s hr
  have zf : ∀ j, V13.frozen? ⟨w.heap.size, j, none⟩ = false := fun j => by simp [World.frozen?, hr]
  have z4 := zf 0; have z5 := zf 1; have z6 := zf 2; have z7 := zf 3
  have hbel := HP13.out.bel
  have HR := Lib.hid hr; have HB := Lib.hid hbel
  clear hr hbel zf HP13
  go_wp2_with fail
  obtain ⟨Z, hZ, d0, d1, d2, d3, hX⟩ := set4 HR.out HB.out (Str no) (.slice sa1 sa2 sa3) (.int .i64 1) (.slice xa1 xa2 xa3)
  rw [hZ]
  refine bodyPost_ret (v := .tuple #[.agg #[Str no, .slice sa1 sa2 sa3, .int .i64 1, .slice xa1 xa2 xa3], .int .i64 0]) ?_ rfl ⟨⟨_, _, _, _, _, _, rfl⟩, hX⟩
  clear c0 c1 c2 c3 z0 z1 z2 z3 z4 z5 z6 z7
  simp [results, loadVar, loadCells, Tryz.isAgg42, Tryz.sizeOf42, Tryz.results11, go_sem, d0, d1, d2, d3]
end Go.Proofs.YteickmohloglhaaGreatDoor
