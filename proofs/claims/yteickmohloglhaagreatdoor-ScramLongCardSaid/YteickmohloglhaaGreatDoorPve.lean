/-
  scram.ParseVerdict where it tells an error's code rightly.
-/
import Derived.Test.YteickmohloglhaaGreatDoorRows
import Derived.Test.YteickmohloglhaaGreatDoorPbx
namespace Go.Proofs.YteickmohloglhaaGreatDoor
open Go.RowKit
set_option maxRecDepth 100000
attribute [local go_sem] Oper.semAt_some
set_option linter.unusedVariables false
set_option linter.unusedSimpArgs false
theorem cells3s {Z : World} {s t : Nat} {a0 a1 a2 : Value} (h : Z.heap[s]? = some (.cells [a0, a1, a2].toArray t (0, 0))) : Z.cell? ⟨s, 0, none⟩ = some a0 ∧ Z.cell? ⟨s, 1, none⟩ = some a1 ∧ Z.cell? ⟨s, 2, none⟩ = some a2 := by
  simp [World.cell?, h]
theorem set3 {W w : World} {t : Nat} {a0 a1 a2 : Value} (h : W.heap[w.heap.size]? = some (.cells [a0, a1, a2].toArray t (0, 0))) (hb : Below w.heap.size w W) (u0 u1 u2 : Value) :
    ∃ Z, ((W.setCell ⟨w.heap.size, 0, none⟩ u0).setCell ⟨w.heap.size, 1, none⟩ u1).setCell ⟨w.heap.size, 2, none⟩ u2 = Z ∧ Z.cell? ⟨w.heap.size, 0, none⟩ = some u0 ∧ Z.cell? ⟨w.heap.size, 1, none⟩ = some u1 ∧ Z.cell? ⟨w.heap.size, 2, none⟩ = some u2 ∧ Ext w Z := by
  have hZ := set_at (j := 2) (u := u2) (set_at (j := 1) (u := u1) (set_at (j := 0) (u := u0) h))
  refine ⟨_, rfl, ?_, ?_, ?_, ?_⟩
  · simp [World.cell?, hZ]
  · simp [World.cell?, hZ]
  · simp [World.cell?, hZ]
  · exact Below.setCell (Below.setCell (Below.setCell hb (Nat.le_refl _) _) (Nat.le_refl _) _) (Nat.le_refl _) _
set_option maxHeartbeats 4000000 in
theorem ParseVerdict_ok (vB : List UInt8 → Bool) (s co : List UInt8) (xs : List (List UInt8)) (hs : s.length ≤ 4096) (hA : attsP s = (101 :: 61 :: co) :: xs) (hS : (spl s).length = 1 + xs.length)
    (hvc : ∀ W, FormsAt W → Calls Tryz.prog 21 #[Str co] W fun e w' => e = .returned (.bool true) ∧ Ext W w') (hx2 : ∀ p ∈ xs, 1 ≤ p.length) (hok : xs.all (okA vB) = true) (hden : denB xs = false)
    (hv : ∀ p ∈ xs, ∀ W, FormsAt W → Calls Tryz.prog 21 #[Str (p.drop 2)] W fun e w' => e = .returned (.bool (vB p)) ∧ Ext W w') (w : World) (hM : MaxAt w) (hF : FormsAt w) :
    Calls Tryz.prog 13 #[Str s] w fun e w' => (∃ a b c, e = .returned (.tuple #[.agg #[.slice none 0 0, Str co, .slice a b c], .int .i64 0])) ∧ Ext w w' := by
  have hlen : decide ((4096 : Int) < (s.length : Int)) = false := by simp; omega
  have hxl : xs.length ≤ 100000 := by have := spl_len s; omega
  have HA := Lib.hid hA; have HS := Lib.hid hS; have HM := Lib.hid hM; have HF := Lib.hid hF; have HVC := Lib.hid hvc; have HX2 := Lib.hid hx2; have HOK := Lib.hid hok; have HDEN := Lib.hid hden; have HV := Lib.hid hv
  have hfg : 1 < w.heap.size := by obtain ⟨fr, hf⟩ := hF; exact (Array.getElem?_eq_some_iff.1 hf).1
  clear hA hS hM hF hvc hx2 hok hden hv
  go_enter Tryz.func13, Tryz.ntmps13
  obtain ⟨W0, hW0⟩ : ∃ W0, w.alloc (.cells #[.slice none 0 0, Str [], .slice none 0 0] 50) = W0 := ⟨_, rfl⟩
  have x0 : Ext w W0 := by rw [← hW0]; exact Below.alloc (Below.refl _ _) (Nat.le_refl _) _
  have r0 : W0.heap[w.heap.size]? = some (.cells #[.slice none 0 0, Str [], .slice none 0 0] 50 (0, 0)) := by rw [← hW0]; exact Array.getElem?_push_size
  have HX0 := Lib.hid x0; have HR0 := Lib.hid r0
  clear x0 r0
  go_wp2_with fail
  clear hW0
  refine (read_any s (by omega) W0 (HM.out.ext HX0.out)).mono ?_
  rintro e W3 ⟨bm, v, rfl, hbm, hmsg, hown, hx⟩
  rw [HA.out, HS.out] at hmsg
  rw [HA.out] at hown
  rw [show decide ((((101 :: 61 :: co) :: xs : List (List UInt8))).length < 1 + xs.length) = false by simp; omega] at hmsg
  have hsb : w.heap.size < bm := Nat.lt_of_lt_of_le (Array.getElem?_eq_some_iff.1 HR0.out).1 hbm
  have HMS := Lib.hid (show Msg bm W3.heap.size false _ W3 from ⟨v, hmsg, row2_of_own hown (by omega) (Nat.le_refl _)⟩)
  have HX3 := Lib.hid (ext_trans HX0.out hx)
  have HR3 := Lib.hid (ext_at hx HR0.out)
  have hbq : bm < W3.heap.size := HMS.out.lt
  clear hx hmsg hown HX0 HR0 hbm
  obtain ⟨W4, hW4⟩ : ∃ W4, W3.alloc (.cells #[.slice none 0 0, Str [], .slice none 0 0] 50) = W4 := ⟨_, rfl⟩
  have hx4 : Ext W3 W4 := by rw [← hW4]; exact Below.alloc (Below.refl _ _) (Nat.le_refl _) _
  have HP := Lib.hid (show PB w w.heap.size bm W3.heap.size 50 [.slice none 0 0, Str [], .slice none 0 0] [.slice none 0 0, Str [], .slice none 0 0] false _ W4 from
    ⟨ext_trans HX3.out hx4, HMS.out.ext hx4, by rw [← hW4]; exact Array.getElem?_push_size, ext_at hx4 HR3.out, rfl, hsb, hbq⟩)
  clear hx4 HMS HX3 HR3
  go_wp2_with fail
  clear hW4
  obtain ⟨q, hq⟩ : ∃ q, W3.heap.size = q := ⟨_, rfl⟩
  rw [hq] at HP hbq ⊢
  clear hq
  have hqf : 1 < q := by omega
  refine (has_any bm q false _ [101] W4 HP.out.msg).mono ?_
  rintro e V0 ⟨he, hw⟩
  subst V0
  rw [show hasF [101] ((101 :: 61 :: co) :: xs) = true from rfl] at he
  subst he
  go_wp2_with fail
  refine (next_at bm q false 101 co _ W4 HP.out.msg).mono ?_
  rintro e V1 ⟨rfl, hm, hz⟩
  have HP1 := Lib.hid (HP.out.bz hz hm)
  clear hm hz HP
  obtain ⟨c0, f0⟩ := HP1.out.cell 1 _ rfl
  go_wp2_with fail
  have HP2 := Lib.hid (HP1.out.store 1 (Str co) (cs' := [.slice none 0 0, Str co, .slice none 0 0]) rfl)
  clear c0 f0 HP1
  refine (HVC.out _ (HF.out.ext HP2.out.bel)).mono ?_
  rintro e V3 ⟨rfl, hx⟩
  have HP3 := Lib.hid (HP2.out.ext hx)
  clear hx HP2
  go_wp2_with fail
  refine (fine_ok bm q false _ _ HP3.out.msg).mono ?_
  rintro e V10 ⟨rfl, hm, hz⟩
  have HP10 := Lib.hid (HP3.out.bz hz hm)
  clear hm hz HP3
  go_wp2_with fail
  refine (rest_ok vB bm q xs hxl _ HP10.out.msg (Nat.le_of_lt HP10.out.lt) HX2.out HOK.out (HF.out.ext HP10.out.bel) hqf (by omega) HV.out).mono ?_
  rintro e V11 ⟨xv, rfl, hown, hm, hz⟩
  have hxv : ∃ a n c, xv = .slice a n c := by
    rcases hown.2 with ⟨hv, h0⟩ | ⟨g, cap, _, hv, _⟩
    · exact ⟨_, _, _, hv⟩
    · exact ⟨_, _, _, hv⟩
  obtain ⟨xa1, xa2, xa3, rfl⟩ := hxv
  have HP11 := Lib.hid (HP10.out.bz hz hm)
  have HO := Lib.hid (hown.set q 2 (.slice xa1 xa2 xa3) HP10.out.lt)
  clear hm hz HP10 hown
  obtain ⟨c0, f0⟩ := HP11.out.cell 2 _ rfl
  go_wp2_with fail
  have HP12 := Lib.hid (HP11.out.store 2 (.slice xa1 xa2 xa3) (cs' := [.slice none 0 0, Str co, .slice xa1 xa2 xa3]) rfl)
  clear c0 f0 HP11
  refine (denied_any _ _ xs hxl _ HO.out).mono ?_
  rintro e V13 ⟨he, hx⟩
  rw [HDEN.out] at he
  subst he
  have HP13 := Lib.hid (HP12.out.ext hx)
  clear hx HP12 HO
  go_wp2_with fail
  refine (ended_ok bm q _ HP13.out.msg).mono ?_
  rintro e V14 ⟨rfl, hw⟩
  subst V14
  obtain ⟨c0, -⟩ := HP13.out.cell 0 _ rfl
  obtain ⟨c1, -⟩ := HP13.out.cell 1 _ rfl
  obtain ⟨c2, -⟩ := HP13.out.cell 2 _ rfl
  have hr := HP13.out.res
  obtain ⟨z0, z1, z2⟩ := cells3s hr
  have zf : ∀ j, V13.frozen? ⟨w.heap.size, j, none⟩ = false := fun j => by simp [World.frozen?, hr]
  have z4 := zf 0; have z5 := zf 1; have z6 := zf 2
  have hbel := HP13.out.bel
  have HR := Lib.hid hr; have HB := Lib.hid hbel
  clear hr hbel zf HP13
  go_wp2_with fail
  obtain ⟨Z, hZ, d0, d1, d2, hX⟩ := set3 HR.out HB.out (.slice none 0 0) (Str co) (.slice xa1 xa2 xa3)
  rw [hZ]
  refine bodyPost_ret (v := .tuple #[.agg #[.slice none 0 0, Str co, .slice xa1 xa2 xa3], .int .i64 0]) ?_ rfl ⟨⟨_, _, _, rfl⟩, hX⟩
  clear c0 c1 c2 z0 z1 z2 z4 z5 z6
  simp [results, loadVar, loadCells, Tryz.isAgg50, Tryz.sizeOf50, Tryz.results13, go_sem, d0, d1, d2]
end Go.Proofs.YteickmohloglhaaGreatDoor
