/-
  scram.First's texts, at a message without extensions.
-/
import Derived.Test.YteickmohloglhaaGreatDoorRows
import Derived.Test.YteickmohloglhaaGreatDoorPfi
import Derived.Test.YteickmohloglhaaGreatDoorKit
namespace Go.Proofs.YteickmohloglhaaGreatDoor
open Go.RowKit Go.Shelf
set_option maxRecDepth 100000
set_option linter.unusedVariables false
set_option linter.unusedSimpArgs false

set_option maxHeartbeats 400000 in
theorem extended_nil (t : List UInt8) (w : World) :
    Calls Tryz.prog 57 #[.slice none 0 0, Str t] w fun e w' => e = .returned (.bool true) ∧ Ext w w' := by
  go_enter Tryz.func57, Tryz.ntmps57
  go_wp2
  go_loop [9] (fun i => i = .int .i64 0) (fun _ => 0)
  case atStart => rfl
  case round =>
    subst hrel
    go_wp2
    go_ret
    exact ⟨rfl, ext_refl _⟩
set_option maxHeartbeats 400000 in
theorem extensions_nil (w : World) :
    Calls Tryz.prog 43 #[.slice none 0 0] w fun e w' => e = .returned (Str []) ∧ Ext w w' := by
  have hB := Lib.hid (bld_new (w.heap.size + 1) w)
  go_enter Tryz.func43, Tryz.ntmps43
  go_wp2
  obtain ⟨W1, hW1⟩ : ∃ W1, w.alloc (.cells #[.pointer none, .slice none 0 0] 89) = W1 := ⟨_, rfl⟩
  have hx : Ext w W1 := by rw [← hW1]; exact Below.alloc (Below.refl _ _) (Nat.le_refl _) _
  rw [hW1] at hB ⊢
  have hsz : W1.heap.size = w.heap.size + 1 := by rw [← hW1]; exact Array.size_push _
  clear hW1
  go_loop [8] (fun i => i = .int .i64 0) (fun _ => 0)
  case atStart => rfl
  case round =>
    subst hrel
    go_wp2_with fail
    refine (String_any (w.heap.size + 1) w.heap.size [] _ hB.out).mono ?_
    rintro e W2 ⟨he, hf⟩
    subst he
    go_wp2_with fail
    go_ret
    exact ⟨rfl, hx.trans (hf.below (B := w.heap.size) (by omega) (Nat.le_refl _) (by omega))⟩
set_option maxHeartbeats 400000 in
theorem sized_ok (s : List UInt8) (hs : s.length ≤ 4096) (w : World) :
    Calls Tryz.prog 41 #[Str s, .bool true] w fun e w' => e = .returned (.tuple #[Str s, .int .i64 0]) ∧ Ext w w' := by
  have hlen : decide ((4096 : Int) < (s.length : Int)) = false := by simp; omega
  go_enter Tryz.func41, Tryz.ntmps41
  go_wp2
  go_ret2
  exact ⟨rfl, ext_refl _⟩
/-- A first without more. -/
def firA (fl us no : List UInt8) : Value := .agg #[Str fl, Str [], Str us, Str no, .slice none 0 0]
set_option maxHeartbeats 400000 in
theorem Head_plain (fl us no : List UInt8) (hfl : fl.length ≤ 10000) (w : World) :
    Calls Tryz.prog 9 #[firA fl us no] w fun e w' => e = .returned (Str (fl ++ [44, 44])) ∧ Ext w w' := by
  unfold firA
  go_enter Tryz.func9, Tryz.ntmps9
  go_wp2
  go_ret
  exact ⟨rfl, Below.alloc (Below.refl _ _) (Nat.le_refl _) _⟩
set_option maxHeartbeats 400000 in
theorem bare_plain (fl us no : List UInt8) (hul : us.length ≤ 10000) (hup : pln us) (hnl : no.length ≤ 10000) (w : World) :
    Calls Tryz.prog 28 #[firA fl us no] w fun e w' => e = .returned (Str (110 :: 61 :: us ++ 44 :: 114 :: 61 :: no)) ∧ Ext w w' := by
  unfold firA
  have HUP := Lib.hid hup
  clear hup
  go_enter Tryz.func28, Tryz.ntmps28
  go_wp2
  obtain ⟨W1, hW1⟩ : ∃ W1, w.alloc (.cells #[Str fl, Str [], Str us, Str no, .slice none 0 0] 34) = W1 := ⟨_, rfl⟩
  have hx : Ext w W1 := by rw [← hW1]; exact Below.alloc (Below.refl _ _) (Nat.le_refl _) _
  have hc : W1.heap[w.heap.size]? = some (.cells #[Str fl, Str [], Str us, Str no, .slice none 0 0] 34 (0, 0)) := by rw [← hW1]; exact Array.getElem?_push_size
  rw [hW1]
  obtain ⟨c0, c1, c2, c3, c4⟩ := cells5 hc
  have HX := Lib.hid hx
  clear hW1 hc hx
  have d2 := ExtW.cell c2; have d3 := ExtW.cell c3; have d4 := ExtW.cell c4
  clear c0 c1 c2 c3 c4
  refine wp_region_ext (by kernel_rfl) (by kernel_rfl) ?_
  repeat (first
    | go_big_quiet_skip
    | (go_big_quiet_want; go_big_quiet_op; (try go_bits); first | go_big_quiet_on | go_big_quiet_call (first | exact Calls.ext_of _ (Escape_pln us hul HUP.out _) | exact Calls.ext_of _ (extensions_nil _))))
  refine wpQuiet_nil ?_
  intro _ hw'
  obtain ⟨nq, hw''⟩ := hw'
  subst hw''
  go_wp2
  go_ret
  exact ⟨rfl, ext_trans HX.out nq.h⟩
set_option maxHeartbeats 1000000 in
theorem right_plain (us no : List UInt8) (hul : us.length ≤ 10000) (hu0 : us ≠ []) (hup : pln us) (hnl : no.length ≤ 10000) (hno : nonF no = true) (w : World) (hF : FormsAt w) :
    Calls Tryz.prog 42 #[firA [110] us no] w fun e w' => e = .returned (.bool true) ∧ Ext w w' := by
  unfold firA
  have HUP := Lib.hid hup; have HU0 := Lib.hid hu0; have HNO := Lib.hid hno; have HF := Lib.hid hF
  clear hup hu0 hno hF
  generalize hfl : ([110] : List UInt8) = fl
  go_enter Tryz.func42, Tryz.ntmps42
  go_wp2_with fail
  obtain ⟨W1, hW1⟩ : ∃ W1, w.alloc (.cells #[Str fl, Str [], Str us, Str no, .slice none 0 0] 34) = W1 := ⟨_, rfl⟩
  have hx : Ext w W1 := by rw [← hW1]; exact Below.alloc (Below.refl _ _) (Nat.le_refl _) _
  have hc : W1.heap[w.heap.size]? = some (.cells #[Str fl, Str [], Str us, Str no, .slice none 0 0] 34 (0, 0)) := by rw [← hW1]; exact Array.getElem?_push_size
  rw [hW1]
  obtain ⟨c0, c1, c2, c3, c4⟩ := cells5 hc
  have HX := Lib.hid hx
  have HC := Lib.hid hc
  clear hW1 hc hx
  go_wp2_with fail
  refine (Escape_pln us hul HUP.out _).mono ?_
  rintro e W2 ⟨he, hx2⟩
  subst he
  go_wp2_with fail
  refine (value_pln us hul HU0.out HUP.out W2 ((HF.out.ext HX.out).ext hx2)).mono ?_
  rintro e W3 ⟨he, hx3⟩
  subst he
  have hx13 := ext_trans hx2 hx3
  have HX3 := Lib.hid (ext_trans HX.out hx13)
  have d0 := ext_cell hx13 c0; have d1 := ext_cell hx13 c1; have d3 := ext_cell hx13 c3; have d4 := ext_cell hx13 c4
  clear hx2 hx3 hx13 c0 c1 c2 c3 c4 HC
  have hfe : (fl == [110]) = true := by rw [← hfl]; rfl
  clear hfl
  go_wp2_with fail
  refine (nonce_scram no (by omega) _).mono ?_
  rintro e W4 ⟨he, hw⟩
  rw [HNO.out] at he
  subst he; subst hw
  go_wp2_with fail
  refine (extended_nil [] _).mono ?_
  rintro e W5 ⟨he, hx5⟩
  subst he
  go_wp2_with fail
  go_ret
  exact ⟨rfl, ext_trans HX3.out hx5⟩
set_option maxHeartbeats 1000000 in
theorem TextF_plain (us no : List UInt8) (hul : us.length ≤ 1000) (hu0 : us ≠ []) (hup : pln us) (hnl : no.length ≤ 1000) (hno : nonF no = true) (w : World) (hF : FormsAt w) :
    Calls Tryz.prog 27 #[firA [110] us no] w fun e w' => e = .returned (.tuple #[Str (110 :: 44 :: 44 :: 110 :: 61 :: (us ++ 44 :: 114 :: 61 :: no)), .int .i64 0]) ∧ Ext w w' := by
  have HUP := Lib.hid hup; have HU0 := Lib.hid hu0; have HNO := Lib.hid hno; have HF := Lib.hid hF
  clear hup hu0 hno hF
  have HH := Lib.hid (fun W => Head_plain [110] us no (by simp) W)
  have HB := Lib.hid (fun W => bare_plain [110] us no (by omega) HUP.out (by omega) W)
  have HR := Lib.hid (fun W hW => right_plain us no (by omega) HU0.out HUP.out (by omega) HNO.out W hW)
  unfold firA at HH HB HR ⊢
  generalize hfl : ([110] : List UInt8) = fl at HH HB HR ⊢
  have hlen : fl.length ≤ 1000 := by rw [← hfl]; simp
  obtain ⟨ba, hba⟩ : ∃ ba, 110 :: 61 :: us ++ 44 :: 114 :: 61 :: no = ba := ⟨_, rfl⟩
  obtain ⟨he, hhe⟩ : ∃ he, fl ++ [44, 44] = he := ⟨_, rfl⟩
  have hbl : ba.length ≤ 2010 := by rw [← hba]; simp; omega
  have hhl : he.length ≤ 1010 := by rw [← hhe]; simp; omega
  have hre : 110 :: 44 :: 44 :: 110 :: 61 :: (us ++ 44 :: 114 :: 61 :: no) = he ++ ba := by rw [← hhe, ← hba, ← hfl]; simp
  rw [hre]
  rw [hba] at HB; rw [hhe] at HH
  have HS := Lib.hid (fun W => sized_ok (he ++ ba) (by simp; omega) W)
  clear hre hba hhe hfl
  go_enter Tryz.func27, Tryz.ntmps27
  go_wp2
  obtain ⟨W1, hW1⟩ : ∃ W1, w.alloc (.cells #[Str fl, Str [], Str us, Str no, .slice none 0 0] 34) = W1 := ⟨_, rfl⟩
  have hx : Ext w W1 := by rw [← hW1]; exact Below.alloc (Below.refl _ _) (Nat.le_refl _) _
  have hc : W1.heap[w.heap.size]? = some (.cells #[Str fl, Str [], Str us, Str no, .slice none 0 0] 34 (0, 0)) := by rw [← hW1]; exact Array.getElem?_push_size
  rw [hW1]
  obtain ⟨c0, c1, c2, c3, c4⟩ := cells5 hc
  have HX := Lib.hid hx
  have HC := Lib.hid hc
  clear hW1 hc hx
  have d0 := ExtW.cell c0; have d1 := ExtW.cell c1; have d2 := ExtW.cell c2; have d3 := ExtW.cell c3; have d4 := ExtW.cell c4
  clear c0 c1 c2 c3 c4
  refine wp_region_ext (by kernel_rfl) (by kernel_rfl) ?_
  repeat (first
    | go_big_quiet_skip
    | (go_big_quiet_want; go_big_quiet_op; (try go_bits); first | go_big_quiet_on | go_big_quiet_call (first | exact Calls.ext_of _ (HH.out _) | exact Calls.ext_of _ (HB.out _) | exact Calls.ext_of _ (HS.out _) | exact Calls.ext_of (W := W1) _ (HR.out _ ((HF.out.ext HX.out).ext (ExtW.h _))))))
  refine wpQuiet_nil ?_
  intro _ hw'
  obtain ⟨nq, hw''⟩ := hw'
  subst hw''
  go_wp2
  go_ret2
  exact ⟨rfl, ext_trans HX.out nq.h⟩
set_option maxHeartbeats 1000000 in
theorem BareF_plain (us no : List UInt8) (hul : us.length ≤ 1000) (hu0 : us ≠ []) (hup : pln us) (hnl : no.length ≤ 1000) (hno : nonF no = true) (w : World) (hF : FormsAt w) :
    Calls Tryz.prog 8 #[firA [110] us no] w fun e w' => e = .returned (.tuple #[Str (110 :: 61 :: (us ++ 44 :: 114 :: 61 :: no)), .int .i64 0]) ∧ Ext w w' := by
  have HUP := Lib.hid hup; have HU0 := Lib.hid hu0; have HNO := Lib.hid hno; have HF := Lib.hid hF
  clear hup hu0 hno hF
  have HB := Lib.hid (fun W => bare_plain [110] us no (by omega) HUP.out (by omega) W)
  have HT := Lib.hid (fun W hW => TextF_plain us no (by omega) HU0.out HUP.out (by omega) HNO.out W hW)
  unfold firA at HB HT ⊢
  generalize hfl : ([110] : List UInt8) = fl at HB HT ⊢
  obtain ⟨ba, hba⟩ : ∃ ba, 110 :: 61 :: us ++ 44 :: 114 :: 61 :: no = ba := ⟨_, rfl⟩
  have hre : 110 :: 61 :: (us ++ 44 :: 114 :: 61 :: no) = ba := hba
  rw [hba] at HB; rw [hre] at HT; rw [hre]
  clear hba hre hfl
  obtain ⟨tx, htx⟩ : ∃ tx, 110 :: 44 :: 44 :: ba = tx := ⟨_, rfl⟩
  rw [htx] at HT
  clear htx
  go_enter Tryz.func8, Tryz.ntmps8
  go_wp2_with fail
  obtain ⟨W1, hW1⟩ : ∃ W1, w.alloc (.cells #[Str fl, Str [], Str us, Str no, .slice none 0 0] 34) = W1 := ⟨_, rfl⟩
  have hx : Ext w W1 := by rw [← hW1]; exact Below.alloc (Below.refl _ _) (Nat.le_refl _) _
  have hc : W1.heap[w.heap.size]? = some (.cells #[Str fl, Str [], Str us, Str no, .slice none 0 0] 34 (0, 0)) := by rw [← hW1]; exact Array.getElem?_push_size
  rw [hW1]
  obtain ⟨c0, c1, c2, c3, c4⟩ := cells5 hc
  have HX := Lib.hid hx
  have HC := Lib.hid hc
  clear hW1 hc hx
  refine (HT.out _ (HF.out.ext HX.out)).mono ?_
  rintro e W2 ⟨he, hx2⟩
  subst he
  have d0 := ext_cell hx2 c0; have d1 := ext_cell hx2 c1; have d2 := ext_cell hx2 c2; have d3 := ext_cell hx2 c3; have d4 := ext_cell hx2 c4
  clear c0 c1 c2 c3 c4 HC
  go_wp2_with fail
  refine (HB.out _).mono ?_
  rintro e W3 ⟨he, hx3⟩
  subst he
  go_wp2_with fail
  go_ret2
  exact ⟨rfl, ext_trans HX.out (ext_trans hx2 hx3)⟩
end Go.Proofs.YteickmohloglhaaGreatDoor
