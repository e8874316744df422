/-
  scram.ParseFirst where it is right, of a flag n, with extensions.
-/
import Derived.Test.YteickmohloglhaaGreatDoorRows
import Derived.Test.YteickmohloglhaaGreatDoorPbx
namespace Go.Proofs.YteickmohloglhaaGreatDoor
open Go.RowKit
set_option maxRecDepth 100000
attribute [local go_sem] Oper.semAt_some
set_option linter.unusedVariables false
set_option linter.unusedSimpArgs false
theorem cells5s {Z : World} {s t : Nat} {a0 a1 a2 a3 a4 : Value} (h : Z.heap[s]? = some (.cells [a0, a1, a2, a3, a4].toArray t (0, 0))) : Z.cell? ⟨s, 0, none⟩ = some a0 ∧ Z.cell? ⟨s, 1, none⟩ = some a1 ∧ Z.cell? ⟨s, 2, none⟩ = some a2 ∧ Z.cell? ⟨s, 3, none⟩ = some a3 ∧ Z.cell? ⟨s, 4, none⟩ = some a4 := by
  simp [World.cell?, h]
theorem set5s {W w : World} {t : Nat} {a0 a1 a2 a3 a4 : Value} (h : W.heap[w.heap.size]? = some (.cells [a0, a1, a2, a3, a4].toArray t (0, 0))) (hb : Below w.heap.size w W) (u0 u1 u2 u3 u4 : Value) :
    ∃ Z, ((((W.setCell ⟨w.heap.size, 0, none⟩ u0).setCell ⟨w.heap.size, 1, none⟩ u1).setCell ⟨w.heap.size, 2, none⟩ u2).setCell ⟨w.heap.size, 3, none⟩ u3).setCell ⟨w.heap.size, 4, none⟩ u4 = Z ∧ Z.cell? ⟨w.heap.size, 0, none⟩ = some u0 ∧ Z.cell? ⟨w.heap.size, 1, none⟩ = some u1 ∧ Z.cell? ⟨w.heap.size, 2, none⟩ = some u2 ∧ Z.cell? ⟨w.heap.size, 3, none⟩ = some u3 ∧ Z.cell? ⟨w.heap.size, 4, none⟩ = some u4 ∧ Ext w Z := by
  have hZ := set_at (j := 4) (u := u4) (set_at (j := 3) (u := u3) (set_at (j := 2) (u := u2) (set_at (j := 1) (u := u1) (set_at (j := 0) (u := u0) h))))
  refine ⟨_, rfl, ?_, ?_, ?_, ?_, ?_, ?_⟩
  · simp [World.cell?, hZ]
  · simp [World.cell?, hZ]
  · simp [World.cell?, hZ]
  · simp [World.cell?, hZ]
  · simp [World.cell?, hZ]
  · exact Below.setCell (Below.setCell (Below.setCell (Below.setCell (Below.setCell hb (Nat.le_refl _) _) (Nat.le_refl _) _) (Nat.le_refl _) _) (Nat.le_refl _) _) (Nat.le_refl _) _
set_option maxHeartbeats 4000000 in
theorem ParseFirst_ok (vB : List UInt8 → Bool) (s r1 bare us no : List UInt8) (xs : List (List UInt8)) (hs : s.length ≤ 4096) (hc1 : Lib.cut s [44] = ([110], r1, true)) (hc2 : Lib.cut r1 [44] = ([], bare, true)) (hr1 : r1.length ≤ 4096) (hbl : bare.length ≤ 4096)
    (hA : attsP bare = (110 :: 61 :: us) :: (114 :: 61 :: no) :: xs) (hS : (spl bare).length = 2 + xs.length)
    (hu0 : us ≠ []) (hul : us.length ≤ 1000) (hup : pln us) (hnl : no.length ≤ 1000) (hno : nonF no = true) (hx2 : ∀ p ∈ xs, 1 ≤ p.length) (hok : xs.all (okA vB) = true) (hden : denB xs = false)
    (hv : ∀ p ∈ xs, ∀ W, FormsAt W → Calls Tryz.prog 21 #[Str (p.drop 2)] W fun e w' => e = .returned (.bool (vB p)) ∧ Ext W w') (w : World) (hM : MaxAt w) (hF : FormsAt w) :
    Calls Tryz.prog 7 #[Str s] w fun e w' => (∃ a b c, e = .returned (.tuple #[.agg #[Str [110], Str [], Str us, Str no, .slice a b c], .int .i64 0])) ∧ Ext w w' := by
  have hlen : decide ((4096 : Int) < (s.length : Int)) = false := by simp; omega
  have hxl : xs.length ≤ 100000 := by have := spl_len bare; omega
  obtain ⟨m, hm⟩ := id hM
  have H1 := Lib.hid hc1; have H2 := Lib.hid hc2; have Hm := Lib.hid hm; have HU0 := Lib.hid hu0; have HUP := Lib.hid hup
  have HA := Lib.hid hA; have HS := Lib.hid hS; have HM := Lib.hid hM; have HF := Lib.hid hF; have HNO := Lib.hid hno; have HX2 := Lib.hid hx2; have HOK := Lib.hid hok; have HDEN := Lib.hid hden; have HV := Lib.hid hv
  have hfg : 1 < w.heap.size := by obtain ⟨fr, hf⟩ := hF; exact (Array.getElem?_eq_some_iff.1 hf).1
  clear hA hS hM hF hno hx2 hok hden hv hc1 hc2 hm hu0 hup
  go_enter Tryz.func7, Tryz.ntmps7
  obtain ⟨W0, hW0⟩ : ∃ W0, w.alloc (.cells #[Str [], Str [], Str [], Str [], .slice none 0 0] 34) = W0 := ⟨_, rfl⟩
  have x0 : Ext w W0 := by rw [← hW0]; exact Below.alloc (Below.refl _ _) (Nat.le_refl _) _
  have r0 : W0.heap[w.heap.size]? = some (.cells #[Str [], Str [], Str [], Str [], .slice none 0 0] 34 (0, 0)) := by rw [← hW0]; exact Array.getElem?_push_size
  have HX0 := Lib.hid x0; have HR0 := Lib.hid r0
  clear x0 r0
  go_wp2_with fail
  clear hW0
  refine (cut_of s m [110] r1 H1.out hs W0 (ext_cell HX0.out Hm.out)).mono ?_
  rintro e W1 ⟨rfl, hx⟩
  have HX1 := Lib.hid (ext_trans HX0.out hx); have HR1 := Lib.hid (ext_at hx HR0.out)
  clear hx HX0 HR0
  go_wp2_with fail
  refine (cut_of r1 m [] bare H2.out hr1 W1 (ext_cell HX1.out Hm.out)).mono ?_
  rintro e W2 ⟨rfl, hx⟩
  have HX2' := Lib.hid (ext_trans HX1.out hx); have HR2 := Lib.hid (ext_at hx HR1.out)
  clear hx HX1 HR1
  go_wp2_with fail
  refine (read_any bare (by omega) W2 (HM.out.ext HX2'.out)).mono ?_
  rintro e W3 ⟨bm, v, rfl, hbm, hmsg, hown, hx⟩
  rw [HA.out, HS.out] at hmsg
  rw [HA.out] at hown
  rw [show decide ((((110 :: 61 :: us) :: (114 :: 61 :: no) :: xs : List (List UInt8))).length < 2 + xs.length) = false by simp; omega] at hmsg
  have hsb : w.heap.size < bm := Nat.lt_of_lt_of_le (Array.getElem?_eq_some_iff.1 HR2.out).1 hbm
  have HMS := Lib.hid (show Msg bm W3.heap.size false _ W3 from ⟨v, hmsg, row2_of_own hown (by omega) (Nat.le_refl _)⟩)
  have HX3 := Lib.hid (ext_trans HX2'.out hx)
  have HR3 := Lib.hid (ext_at hx HR2.out)
  have hbq : bm < W3.heap.size := HMS.out.lt
  clear hx hmsg hown HX2' HR2 hbm
  go_wp2_with fail
  refine (fine_ok bm _ false _ _ HMS.out).mono ?_
  rintro e W4 ⟨rfl, hm4, hz4⟩
  have hsz4 := hz4.size
  have HMS4 := Lib.hid (hm4.mono hsz4)
  have HX4 := Lib.hid (hz4.below HX3.out (by omega) (Nat.le_refl _))
  have HR4 := Lib.hid ((hz4.block _ (Array.getElem?_eq_some_iff.1 HR3.out).1 (by omega)).trans HR3.out)
  clear hm4 hz4 HMS HX3 HR3
  obtain ⟨W5, hW5⟩ : ∃ W5, W4.alloc (.cells #[Str [], Str [], Str [], Str [], .slice none 0 0] 34) = W5 := ⟨_, rfl⟩
  have hx5 : Ext W4 W5 := by rw [← hW5]; exact Below.alloc (Below.refl _ _) (Nat.le_refl _) _
  have HP := Lib.hid (show PB w w.heap.size bm W4.heap.size 34 [Str [], Str [], Str [], Str [], .slice none 0 0] [Str [], Str [], Str [], Str [], .slice none 0 0] false _ W5 from
    ⟨ext_trans HX4.out hx5, HMS4.out.ext hx5, by rw [← hW5]; exact Array.getElem?_push_size, ext_at hx5 HR4.out, rfl, hsb, by omega⟩)
  have hbq4 : bm < W4.heap.size := by omega
  clear hx5 HMS4 HX4 HR4
  go_wp2_with fail
  clear hW5
  obtain ⟨q, hq⟩ : ∃ q, W4.heap.size = q := ⟨_, rfl⟩
  rw [hq] at HP hbq4 ⊢
  clear hq
  have hqf : 1 < q := by omega
  refine (flag_n _).mono ?_
  rintro e V0 ⟨rfl, hw⟩
  subst V0
  obtain ⟨c0, f0⟩ := HP.out.cell 0 _ rfl
  go_wp2_with fail
  have HP1 := Lib.hid (HP.out.store 0 (Str [110]) (cs' := [Str [110], Str [], Str [], Str [], .slice none 0 0]) rfl)
  clear c0 f0 HP
  refine (fine_ok bm q false _ _ HP1.out.msg).mono ?_
  rintro e V2 ⟨rfl, hm, hz⟩
  have HP2 := Lib.hid (HP1.out.bz hz hm)
  clear hm hz HP1
  obtain ⟨c0, f0⟩ := HP2.out.cell 0 _ rfl
  have hbp : (([110] : List UInt8) == [112]) = false := by decide
  go_wp2_with fail
  clear c0 f0 hbp
  refine (has_any bm q false _ [109] _ HP2.out.msg).mono ?_
  rintro e V3 ⟨he, hw⟩
  subst V3
  rw [show hasF [109] ((110 :: 61 :: us) :: (114 :: 61 :: no) :: xs) = false from rfl] at he
  subst he
  go_wp2_with fail
  refine (next_at bm q false 110 us _ _ HP2.out.msg).mono ?_
  rintro e V4 ⟨rfl, hm, hz⟩
  have HP4 := Lib.hid (HP2.out.bz hz hm)
  clear hm hz HP2
  go_wp2_with fail
  refine (escaped_pln us (by omega) HU0.out HUP.out _ (HF.out.ext HP4.out.bel)).mono ?_
  rintro e V5 ⟨rfl, hx⟩
  have HP5 := Lib.hid (HP4.out.ext hx)
  clear hx HP4
  obtain ⟨c0, f0⟩ := HP5.out.cell 2 _ rfl
  go_wp2_with fail
  have HP6 := Lib.hid (HP5.out.store 2 (Str us) (cs' := [Str [110], Str [], Str us, Str [], .slice none 0 0]) rfl)
  clear c0 f0 HP5
  refine (fine_ok bm q false _ _ HP6.out.msg).mono ?_
  rintro e V7 ⟨rfl, hm, hz⟩
  have HP7 := Lib.hid (HP6.out.bz hz hm)
  clear hm hz HP6
  go_wp2_with fail
  refine (next_at bm q false 114 no _ _ HP7.out.msg).mono ?_
  rintro e V8 ⟨rfl, hm, hz⟩
  have HP8 := Lib.hid (HP7.out.bz hz hm)
  clear hm hz HP7
  go_wp2_with fail
  refine (nonceM_ok bm q false _ no (by omega) HNO.out _ HP8.out.msg).mono ?_
  rintro e V9 ⟨rfl, hm, hz⟩
  have HP9 := Lib.hid (HP8.out.bz hz hm)
  clear hm hz HP8
  obtain ⟨c0, f0⟩ := HP9.out.cell 3 _ rfl
  go_wp2_with fail
  have HP10 := Lib.hid (HP9.out.store 3 (Str no) (cs' := [Str [110], Str [], Str us, Str no, .slice none 0 0]) rfl)
  clear c0 f0 HP9
  refine (rest_ok vB bm q xs hxl _ HP10.out.msg (Nat.le_of_lt HP10.out.lt) HX2.out HOK.out (HF.out.ext HP10.out.bel) hqf (by omega) HV.out).mono ?_
  rintro e V11 ⟨xv, rfl, hown, hm, hz⟩
  have hxv : ∃ a n c, xv = .slice a n c := by
    rcases hown.2 with ⟨hv, h0⟩ | ⟨g, cap, _, hv, _⟩
    · exact ⟨_, _, _, hv⟩
    · exact ⟨_, _, _, hv⟩
  obtain ⟨xa1, xa2, xa3, rfl⟩ := hxv
  have HP11 := Lib.hid (HP10.out.bz hz hm)
  have HO := Lib.hid (hown.set q 4 (.slice xa1 xa2 xa3) HP10.out.lt)
  clear hm hz HP10 hown
  obtain ⟨c0, f0⟩ := HP11.out.cell 4 _ rfl
  go_wp2_with fail
  have HP12 := Lib.hid (HP11.out.store 4 (.slice xa1 xa2 xa3) (cs' := [Str [110], Str [], Str us, Str no, .slice xa1 xa2 xa3]) rfl)
  clear c0 f0 HP11
  refine (denied_any _ _ xs hxl _ HO.out).mono ?_
  rintro e V13 ⟨he, hx⟩
  rw [HDEN.out] at he
  subst he
  have HP13 := Lib.hid (HP12.out.ext hx)
  clear hx HP12 HO
  go_wp2_with fail
  refine (ended_ok bm q _ HP13.out.msg).mono ?_
  rintro e V14 ⟨rfl, hw⟩
  subst V14
  obtain ⟨c0, -⟩ := HP13.out.cell 0 _ rfl
  obtain ⟨c1, -⟩ := HP13.out.cell 1 _ rfl
  obtain ⟨c2, -⟩ := HP13.out.cell 2 _ rfl
  obtain ⟨c3, -⟩ := HP13.out.cell 3 _ rfl
  obtain ⟨c4, -⟩ := HP13.out.cell 4 _ rfl
  have hr := HP13.out.res
  obtain ⟨z0, z1, z2, z3, z3'⟩ := cells5s hr
  have zf : ∀ j, V13.frozen? ⟨w.heap.size, j, none⟩ = false := fun j => by simp [World.frozen?, hr]
  have z4 := zf 0; have z5 := zf 1; have z6 := zf 2; have z7 := zf 3; have z8 := zf 4
  have hbel := HP13.out.bel
  have HR := Lib.hid hr; have HB := Lib.hid hbel
  clear hr hbel zf HP13
  go_wp2_with fail
  obtain ⟨Z, hZ, d0, d1, d2, d3, d4, hX⟩ := set5s HR.out HB.out (Str [110]) (Str []) (Str us) (Str no) (.slice xa1 xa2 xa3)
  rw [hZ]
  refine bodyPost_ret (v := .tuple #[.agg #[Str [110], Str [], Str us, Str no, .slice xa1 xa2 xa3], .int .i64 0]) ?_ rfl ⟨⟨_, _, _, rfl⟩, hX⟩
  clear c0 c1 c2 c3 c4 z0 z1 z2 z3 z3' z4 z5 z6 z7 z8
  simp [results, loadVar, loadCells, Tryz.isAgg34, Tryz.sizeOf34, Tryz.results7, go_sem, d0, d1, d2, d3, d4]
end Go.Proofs.YteickmohloglhaaGreatDoor
