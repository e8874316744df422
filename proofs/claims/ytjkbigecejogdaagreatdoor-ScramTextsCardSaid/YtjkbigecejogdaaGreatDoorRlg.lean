/-
 ref07.readLong: of a message whose text is too long, is each of its parts right?
-/
import Derived.BigGuardPart
import Derived.BigQuiet
import Derived.RegionTactic
import Derived.Deep.DrawnRows
import Derived.Deep.CutBlock
import Derived.Deep.DeepCutAuto
import Derived.Test.YtjkbigecejogdaaGreatDoorRows
import Derived.Test.YtjkbigecejogdaaGreatDoorRtg
namespace Go.Proofs.YtjkbigecejogdaaGreatDoor
open Go.RowKit
set_option maxRecDepth 100000
attribute [local go_sem ↓] Go.wp_at_zero Go.wp_at_succ
set_option linter.unusedVariables false
set_option linter.unusedSimpArgs false
structure RlS (w Z : World) (r0 r2 : Array Value) : Prop where
 x : Ext w Z
 b0 : Z.heap[w.heap.size]? = some (.cells r0 27 (0, 0))
 b1 : Z.heap[w.heap.size + 1]? = some (.cells zerM 27 (0, 0))
 b2 : Z.heap[w.heap.size + 2]? = some (.cells r2 27 (0, 0))
theorem RlS.ext {w A C : World} {r0 r2 : Array Value} (h : RlS w A r0 r2) (he : Ext A C) : RlS w C r0 r2 := ⟨ext_trans h.x he, ext_at he h.b0, ext_at he h.b1, ext_at he h.b2⟩
theorem RlS.st {w A : World} {r0 r2 : Array Value} (h : RlS w A r0 r2) (i : Nat) (u : Value) : RlS w (A.setCell ⟨w.heap.size + 2, i, none⟩ u) r0 (r2.setIfInBounds i u) :=
 ⟨ext_set h.x (by omega), (Below.heap_setCell _ _ _ _ (by show _ ≠ w.heap.size + 2; omega)).trans h.b0, (Below.heap_setCell _ _ _ _ (by show _ ≠ w.heap.size + 2; omega)).trans h.b1, setCell_row h.b2 i u⟩
set_option maxHeartbeats 8000000 in
theorem rlong_any (m : Ms) (hf : MsF m) (hn : m.ext.all nmB = true) (B : Nat) (e s p : Value) (w : World) (hr : MsR B w e s p m) (hL : LwS w) : RlP m e s p w := by
 unfold RlP
 obtain ⟨a1, n1, k1, a2, n2, k2, a3, n3, k3, rfl, rfl, rfl⟩ := hr.shape
 have hkd := kind_of m hf
 have hshl := sh_len m hf
 have htv := txtV_sh m hf
 have HTX := Lib.hid (fun Z (h : MsR B Z (.slice none 0 0) (.slice a2 n2 k2) (.slice a3 n3 k3) (shM m)) (hl : LwS Z) => rtext_gen (shM m) (msF_sh m hf) B _ _ _ Z h hl (fun h => absurd h (by omega)))
 have HRB0 := Lib.hid (show rlB m = (m.ext.all (lnB m.kind) && (loB m && txtB (shM m))) from rfl)
 have hau := hf.au; have hus := hf.us; have hhd := hf.hd; have hco := hf.co
 have hx2 := hf.x2
 have hok := (msF_ok m hf).ext
 have HRX := Lib.hid hr; have HLW := Lib.hid hL
 clear hf hshl
 obtain ⟨kind, flag, authz, user, nonce, ls, salt, iter, head, proof, code⟩ := m
 simp only at hkd hn hau hus hhd hco hx2 hok HRB0
 have hre := HRX.out.ext
 obtain ⟨ao, cap, hv, hcap, hmax, hcl⟩ := rowP_shape hre
 simp only at hv hcap hcl
 injection hv with hv1 hv2 hv3
 subst hv1 hv2 hv3
 have hps := slice_len HRX.out.proof
 simp only at hps
 subst hps
 have HCL := Lib.hid hcl
 have HIX := Lib.hid (fun g o j h W => index_pair g o ls.length k1 j h W)
 clear hre hcl hr hL
 unfold maxLen at hmax
 generalize rlB ⟨kind, flag, authz, user, nonce, ls, salt, iter, head, proof, code⟩ = rb at *
 obtain ⟨av, hav⟩ : ∃ v, (if rb = true then Value.agg (msA ⟨kind, flag, authz, user, nonce, ls, salt, iter, head, proof, code⟩ (.slice a1 ls.length k1) (.slice a2 n2 k2) (.slice a3 proof.length k3)) else .agg zerM) = v := ⟨_, rfl⟩
 obtain ⟨ac, hac⟩ : ∃ c, (if rb = true then (0 : Int) else 4) = c := ⟨_, rfl⟩
 have HA1 := Lib.hid (show rb = false → av = .agg zerM ∧ ac = 4 from fun h => by rw [← hav, ← hac, h]; exact ⟨rfl, rfl⟩)
 have HA2 := Lib.hid (show rb = true → av = .agg (msA ⟨kind, flag, authz, user, nonce, ls, salt, iter, head, proof, code⟩ (.slice a1 ls.length k1) (.slice a2 n2 k2) (.slice a3 proof.length k3)) ∧ ac = 0 from fun h => by rw [← hav, ← hac, h]; exact ⟨rfl, rfl⟩)
 rw [hav, hac]
 clear hav hac
 obtain ⟨W1, hW1⟩ : ∃ W1, w.alloc (.cells #[.int .i64 kind, Str flag, Str authz, Str user, Str nonce, .slice a1 ls.length k1, .slice a2 n2 k2, .int .i64 iter, Str head, .slice a3 proof.length k3, Str code] 27) = W1 := ⟨_, rfl⟩
 have x1 : Ext w W1 := by rw [← hW1]; exact Below.alloc (Below.refl _ _) (Nat.le_refl _) _
 have r1 : W1.heap[w.heap.size]? = some (.cells #[.int .i64 kind, Str flag, Str authz, Str user, Str nonce, .slice a1 ls.length k1, .slice a2 n2 k2, .int .i64 iter, Str head, .slice a3 proof.length k3, Str code] 27 (0, 0)) := by rw [← hW1]; exact Array.getElem?_push_size
 have s1 : W1.heap.size = w.heap.size + 1 := by rw [← hW1]; exact Array.size_push _
 obtain ⟨W2, hW2⟩ : ∃ W2, W1.alloc (.cells zerM 27) = W2 := ⟨_, rfl⟩
 have x2 : Ext W1 W2 := by rw [← hW2]; exact Below.alloc (Below.refl _ _) (Nat.le_refl _) _
 have r2 : W2.heap[w.heap.size + 1]? = some (.cells zerM 27 (0, 0)) := by rw [← hW2, ← s1]; exact Array.getElem?_push_size
 have s2 : W2.heap.size = w.heap.size + 2 := by rw [← hW2, show w.heap.size + 2 = W1.heap.size + 1 by omega]; exact Array.size_push _
 obtain ⟨W3, hW3⟩ : ∃ W3, W2.alloc (.cells zerM 27) = W3 := ⟨_, rfl⟩
 have x3 : Ext W2 W3 := by rw [← hW3]; exact Below.alloc (Below.refl _ _) (Nat.le_refl _) _
 have r3 : W3.heap[w.heap.size + 2]? = some (.cells zerM 27 (0, 0)) := by rw [← hW3, ← s2]; exact Array.getElem?_push_size
 obtain ⟨Z3, hZ3, hq3, hb3⟩ := set11 r3 (.int .i64 kind) (Str flag) (Str authz) (Str user) (Str nonce) (.slice a1 ls.length k1) (.slice a2 n2 k2) (.int .i64 iter) (Str head) (.slice a3 proof.length k3) (Str code)
 have xa : Ext w W3 := ext_trans x1 (ext_trans x2 x3)
 have xz : Ext W2 Z3 := hb3.below x3 (by omega) (Nat.le_refl _)
 have HS3 := Lib.hid (show RlS w Z3 #[.int .i64 kind, Str flag, Str authz, Str user, Str nonce, .slice a1 ls.length k1, .slice a2 n2 k2, .int .i64 iter, Str head, .slice a3 proof.length k3, Str code] #[.int .i64 kind, Str flag, Str authz, Str user, Str nonce, .slice a1 ls.length k1, .slice a2 n2 k2, .int .i64 iter, Str head, .slice a3 proof.length k3, Str code] from ⟨ext_trans (ext_trans x1 x2) xz, ext_at xz (ext_at x2 r1), ext_at xz r2, hq3⟩)
 obtain ⟨c0, c1, c2, c3, c4, c5, c6, c7, c8, c9, c10⟩ := cells11 (ext_at x2 r1)
 obtain ⟨d0, d1, d2, d3, d4, d5, d6, d7, d8, d9, d10⟩ := cells11 r3
 obtain ⟨f0, f1, f2, f3, f4, f5, f6, f7, f8, f9, f10⟩ := frozen11 r3
 have HZ3 := Lib.hid hZ3
 have HSB := Lib.hid s1; have HSC := Lib.hid s2
 clear x1 x2 x3 r1 r2 r3 hZ3 hq3 hb3 xa xz
 go_enter Tryz.func36, Tryz.ntmps36
 go_upto_region 2 with fail
 try rw [hW3]
 try rw [HZ3.out]
 clear hW1 hW2 hW3 HZ3 c0 c1 c2 c3 c4 c5 c6 c7 c8 c9 c10 d0 d1 d2 d3 d4 d5 d6 d7 d8 d9 d10 f0 f1 f2 f3 f4 f5 f6 f7 f8 f9 f10 s1 s2
 try rw [HSC.out]
 try rw [HSB.out]
 obtain ⟨c0, c1, c2, c3, c4, c5, c6, c7, c8, c9, c10⟩ := cells11 HS3.out.b0
 go_wp2
 clear c0 c1 c2 c3 c4 c5 c6 c7 c8 c9 c10
 go_loopw [16] (fun i wr => ∃ k : Nat, k ≤ ls.length ∧ i = .int .i64 k ∧ Hid ((ls.take k).all (lnB kind) = true) ∧ Hid (RlS w wr #[.int .i64 kind, Str flag, Str authz, Str user, Str nonce, .slice a1 ls.length k1, .slice a2 n2 k2, .int .i64 iter, Str head, .slice a3 proof.length k3, Str code] #[.int .i64 kind, Str flag, Str authz, Str user, Str nonce, .slice a1 ls.length k1, .slice a2 n2 k2, .int .i64 iter, Str head, .slice a3 proof.length k3, Str code])) (fun i _ => ls.length - (intOf i).toNat)
 case atStart => exact ⟨0, by omega, rfl, Lib.hid rfl, HS3⟩
 case round =>
  obtain ⟨k, hk, rfl, HAL, HSR⟩ := hrel
  by_cases h3 : k < ls.length
  ·rcases HCL.out with h | ⟨g, o, rfl, hcc⟩
   ·subst h; simp at h3
   obtain ⟨v0, v1⟩ := hcc k h3
   replace v0 := ext_cell HSR.out.x v0; replace v1 := ext_cell HSR.out.x v1
   have i1 := HIX.out g o k h3
   have hpm : ls.getD k prD ∈ ls := by
    rw [show ls.getD k prD = ls[k] by simp [List.getD, h3]]; exact List.getElem_mem h3
   have hp1 := List.all_eq_true.1 hn _ hpm
   have hp2 := hx2 _ hpm
   have HSN := Lib.hid (show (ls.take (k + 1)).all (lnB kind) = ((ls.take k).all (lnB kind) && lnB kind (ls.getD k prD)) by
    rw [List.take_succ_eq_append_getElem h3, List.all_append, show ls.getD k prD = ls[k] by simp [List.getD, h3]]; simp)
   have HBD := Lib.hid (show lnB kind (ls.getD k prD) = false → rb = false from fun h => by
    have : ls.all (lnB kind) = false := by
     rw [Bool.eq_false_iff]; intro h2
     rw [List.all_eq_true.1 h2 _ hpm] at h; cases h
    rw [HRB0.out, this]; rfl)
   clear hpm
   generalize ls.getD k prD = p at *
   generalize o + 2 * k = q at *
   obtain ⟨pn, pv⟩ := p
   simp only at v0 v1 hp2
   unfold nmB at hp1
   simp only [Bool.and_eq_true, decide_eq_true_eq] at hp1
   have hp1 := hp1.1
   have HLE := Lib.hid (show lnB kind ⟨pn, pv⟩ = (letB (bt pn 0) && (valB pv && !(decide (kind = 3) && (pn == [112])))) from rfl)
   have HLT := Lib.hid (fun W => rLetter_any (bt pn 0) W)
   have HVL := Lib.hid (fun W => rValue_any pv (by omega) W)
   have hix : ∀ W, (Instr.index 9 (Str pn) (.int .i64 0)).run Tryz.prog W = .ok (Byt (bt pn 0)) W := fun W => run_index_str Tryz.underlying9 pn 0 _ rfl (by omega) W
   generalize bt pn 0 = ch at *
   generalize letB ch = lt at *
   generalize valB pv = vb at *
   have hps : ∀ z, pn == z ↔ True ∧ pn == z := fun z => by simp
   clear hps
   obtain ⟨W5, hW5⟩ : ∃ W5, wr.alloc (.cells #[Str pn, Str pv] 64) = W5 := ⟨_, rfl⟩
   have hx5 : Ext wr W5 := by rw [← hW5]; exact Below.alloc (Below.refl _ _) (Nat.le_refl _) _
   have n1 : W5.heap[wr.heap.size]? = some (.cells #[Str pn, Str pv] 64 (0, 0)) := by rw [← hW5]; exact Array.getElem?_push_size
   have HS5 := Lib.hid (HSR.out.ext hx5)
   obtain ⟨b0, b1⟩ := cells2 n1
   clear hx5 n1 hcc
   go_wp2_with fail
   try rw [hW5]
   refine (HLT.out _).mono ?_
   rintro e V ⟨rfl, hw⟩
   subst V
   clear hW5 v0 v1 i1
   obtain ⟨c0, c1, c2, c3, c4, c5, c6, c7, c8, c9, c10⟩ := cells11 HS5.out.b0
   cases lt with
   | false =>
     have HRF := Lib.hid (HBD.out (by rw [HLE.out]; rfl))
     clear HSN HBD HLE
     go_wp2_with fail
     refine (none_any 4 _).mono ?_
     rintro e W9 ⟨rfl, hx9⟩
     have HS9 := Lib.hid (HS5.out.ext hx9)
     clear hx9
     obtain ⟨f0, f1, f2, f3, f4, f5, f6, f7, f8, f9, f10⟩ := frozen11 HS9.out.b1
     obtain ⟨d0, d1, d2, d3, d4, d5, d6, d7, d8, d9, d10⟩ := cells11 HS9.out.b1
     obtain ⟨Z9, hZ9, hr9, hb9⟩ := set11 HS9.out.b1 (.int .i64 0) (Str []) (Str []) (Str []) (Str []) (.slice none 0 0) (.slice none 0 0) (.int .i64 0) (Str []) (.slice none 0 0) (Str [])
     have HZ9 := Lib.hid hZ9; have HR9 := Lib.hid hr9; have HB9 := Lib.hid hb9
     clear hZ9 hr9 hb9
     go_wp2
     rw [HZ9.out]
     refine bodyPost_ret (v := .tuple #[.agg zerM, .int .i64 4]) ?_ rfl ⟨by obtain ⟨q1, q2⟩ := HA1.out (HRF.out); subst q1 q2; rfl, HB9.out.below HS9.out.x (by omega) (Nat.le_refl _)⟩
     obtain ⟨g0, g1, g2, g3, g4, g5, g6, g7, g8, g9, g10⟩ := cells11 HR9.out
     clear d0 d1 d2 d3 d4 d5 d6 d7 d8 d9 d10 f0 f1 f2 f3 f4 f5 f6 f7 f8 f9 f10
     simp [results, loadVar, loadCells, Tryz.isAgg27, Tryz.sizeOf27, Tryz.results36, go_sem, g0, g1, g2, g3, g4, g5, g6, g7, g8, g9, g10]
   | true =>
     go_wp2_with fail
     refine (HVL.out _).mono ?_
     rintro e W6 ⟨rfl, hx6⟩
     have HS6 := Lib.hid (HS5.out.ext hx6)
     replace b0 := ext_cell hx6 b0; replace b1 := ext_cell hx6 b1
     replace c0 := ext_cell hx6 c0
     clear hx6 HS5 c1 c2 c3 c4 c5 c6 c7 c8 c9 c10
     cases vb with
     | false =>
       have HRF := Lib.hid (HBD.out (by rw [HLE.out]; rfl))
       clear HSN HBD HLE
       go_wp2_with fail
       refine (none_any 4 _).mono ?_
       rintro e W9 ⟨rfl, hx9⟩
       have HS9 := Lib.hid (HS6.out.ext hx9)
       clear hx9
       obtain ⟨f0, f1, f2, f3, f4, f5, f6, f7, f8, f9, f10⟩ := frozen11 HS9.out.b1
       obtain ⟨d0, d1, d2, d3, d4, d5, d6, d7, d8, d9, d10⟩ := cells11 HS9.out.b1
       obtain ⟨Z9, hZ9, hr9, hb9⟩ := set11 HS9.out.b1 (.int .i64 0) (Str []) (Str []) (Str []) (Str []) (.slice none 0 0) (.slice none 0 0) (.int .i64 0) (Str []) (.slice none 0 0) (Str [])
       have HZ9 := Lib.hid hZ9; have HR9 := Lib.hid hr9; have HB9 := Lib.hid hb9
       clear hZ9 hr9 hb9
       go_wp2
       rw [HZ9.out]
       refine bodyPost_ret (v := .tuple #[.agg zerM, .int .i64 4]) ?_ rfl ⟨by obtain ⟨q1, q2⟩ := HA1.out (HRF.out); subst q1 q2; rfl, HB9.out.below HS9.out.x (by omega) (Nat.le_refl _)⟩
       obtain ⟨g0, g1, g2, g3, g4, g5, g6, g7, g8, g9, g10⟩ := cells11 HR9.out
       clear d0 d1 d2 d3 d4 d5 d6 d7 d8 d9 d10 f0 f1 f2 f3 f4 f5 f6 f7 f8 f9 f10
       simp [results, loadVar, loadCells, Tryz.isAgg27, Tryz.sizeOf27, Tryz.results36, go_sem, g0, g1, g2, g3, g4, g5, g6, g7, g8, g9, g10]
     | true =>
       by_cases q3 : kind = 3
       ·have e3 : (kind == 3) = true := by simp [q3]
        by_cases q4 : pn = [112]
        ·have e4 : (pn == [112]) = true := by simp [q4]
         have HRF := Lib.hid (HBD.out (by rw [HLE.out]; simp [q3, q4]))
         clear HSN HBD HLE q3 q4
         go_wp2_with fail
         refine (none_any 4 _).mono ?_
         rintro e W9 ⟨rfl, hx9⟩
         have HS9 := Lib.hid (HS6.out.ext hx9)
         clear hx9
         obtain ⟨f0, f1, f2, f3, f4, f5, f6, f7, f8, f9, f10⟩ := frozen11 HS9.out.b1
         obtain ⟨d0, d1, d2, d3, d4, d5, d6, d7, d8, d9, d10⟩ := cells11 HS9.out.b1
         obtain ⟨Z9, hZ9, hr9, hb9⟩ := set11 HS9.out.b1 (.int .i64 0) (Str []) (Str []) (Str []) (Str []) (.slice none 0 0) (.slice none 0 0) (.int .i64 0) (Str []) (.slice none 0 0) (Str [])
         have HZ9 := Lib.hid hZ9; have HR9 := Lib.hid hr9; have HB9 := Lib.hid hb9
         clear hZ9 hr9 hb9
         go_wp2
         rw [HZ9.out]
         refine bodyPost_ret (v := .tuple #[.agg zerM, .int .i64 4]) ?_ rfl ⟨by obtain ⟨q1, q2⟩ := HA1.out (HRF.out); subst q1 q2; rfl, HB9.out.below HS9.out.x (by omega) (Nat.le_refl _)⟩
         obtain ⟨g0, g1, g2, g3, g4, g5, g6, g7, g8, g9, g10⟩ := cells11 HR9.out
         clear d0 d1 d2 d3 d4 d5 d6 d7 d8 d9 d10 f0 f1 f2 f3 f4 f5 f6 f7 f8 f9 f10
         simp [results, loadVar, loadCells, Tryz.isAgg27, Tryz.sizeOf27, Tryz.results36, go_sem, g0, g1, g2, g3, g4, g5, g6, g7, g8, g9, g10]
        ·have e4 : (pn == [112]) = false := by simp [q4]
         have HN := Lib.hid (show (ls.take (k + 1)).all (lnB kind) = true by rw [HSN.out, HAL.out, HLE.out]; simp [q4])
         clear HSN HBD HLE q3 q4
         go_wp2
         go_roundw
         case rel => exact ⟨k + 1, by omega, by go_num, HN, HS6⟩
         case measure => simp [intOf] <;> omega
       ·have e3 : (kind == 3) = false := by simp [q3]
        have HN := Lib.hid (show (ls.take (k + 1)).all (lnB kind) = true by rw [HSN.out, HAL.out, HLE.out]; simp [q3])
        clear HSN HBD HLE q3
        go_wp2
        go_roundw
        case rel => exact ⟨k + 1, by omega, by go_num, HN, HS6⟩
        case measure => simp [intOf] <;> omega
  ·have hkl : k = ls.length := by omega
   subst hkl
   have hnm : ls.all (lnB kind) = true := by have := HAL.out; rwa [List.take_length] at this
   have HRB1 := Lib.hid (show rb = (loB ⟨kind, flag, authz, user, nonce, ls, salt, iter, head, proof, code⟩ && txtB (shM ⟨kind, flag, authz, user, nonce, ls, salt, iter, head, proof, code⟩)) by rw [HRB0.out, hnm]; rfl)
   clear HCL HIX hk h3 HAL hnm HRB0 HS3 hn
   rw [htv] at HTX
   clear htv
   obtain ⟨f0, f1, f2, f3, f4, f5, f6, f7, f8, f9, f10⟩ := frozen11 HSR.out.b2
   obtain ⟨d0, d1, d2, d3, d4, d5, d6, d7, d8, d9, d10⟩ := cells11 HSR.out.b2
   go_upto_region 9 with fail
   obtain ⟨Z4, hZ4⟩ : ∃ Z, wr.setCell ⟨w.heap.size + 2, 5, none⟩ (.slice none 0 0) = Z := ⟨_, rfl⟩
   have HS4 := Lib.hid (show RlS w Z4 _ #[.int .i64 kind, Str flag, Str authz, Str user, Str nonce, .slice none 0 0, .slice a2 n2 k2, .int .i64 iter, Str head, .slice a3 proof.length k3, Str code] by rw [← hZ4]; exact HSR.out.st 5 _)
   rw [hZ4]
   clear hZ4 HSR f0 f1 f2 f3 f4 f5 f6 f7 f8 f9 f10 d0 d1 d2 d3 d4 d5 d6 d7 d8 d9 d10
   rcases hkd with rfl | rfl | rfl | rfl
   ·have HO := Lib.hid (show loB ⟨1, flag, authz, user, nonce, ls, salt, iter, head, proof, code⟩ = (valB (escF user) && (decide (authz = []) || valB (escF authz))) from rfl)
    rw [show shM ⟨1, flag, authz, user, nonce, ls, salt, iter, head, proof, code⟩ = ⟨1, flag, [], [117], nonce, [], salt, iter, head, proof, code⟩ by simp [shM]] at HTX HRB1
    rw [HO.out] at HRB1
    have HRB := Lib.hid HRB1.out
    clear HO HRB1
    generalize txtB ⟨1, flag, [], [117], nonce, [], salt, iter, head, proof, code⟩ = tb at *
    have hel := escF_len user; have hea := escF_len authz
    have HEU := Lib.hid (fun W => rEscape_any user (by omega) W)
    have HEA := Lib.hid (fun W => rEscape_any authz (by omega) W)
    have HVU := Lib.hid (fun W => rValue_any (escF user) (by omega) W)
    have HVA := Lib.hid (fun W => rValue_any (escF authz) (by omega) W)
    generalize valB (escF user) = vu at *
    generalize valB (escF authz) = va at *
    generalize escF user = eu at *
    generalize escF authz = ea at *
    clear hel hea
    obtain ⟨c0, c1, c2, c3, c4, c5, c6, c7, c8, c9, c10⟩ := cells11 HS4.out.b0
    go_upto_region 11 with fail
    go_cut [7] from 8 (fun s7 wx => s7 = .bool (vu && (decide (authz = []) || va)) ∧ Hid (Ext Z4 wx))
    case first =>
     go_wp2_with fail
     refine (HEU.out _).mono ?_
     rintro e V ⟨rfl, hw⟩
     subst V
     go_wp2_with fail
     refine (HVU.out _).mono ?_
     rintro e W5 ⟨rfl, hx5⟩
     have HX5 := Lib.hid hx5
     replace c2 := ext_cell hx5 c2
     clear hx5 c0 c1 c3 c4 c5 c6 c7 c8 c9 c10
     cases vu with
     | false =>
       go_wp2
       go_meet
       exact ⟨rfl, HX5⟩
     | true =>
       by_cases q : authz = []
       ·have e1 : (authz == []) = true := by simp [q]
        have HD := Lib.hid (decide_eq_true q)
        clear q
        go_wp2
        go_meet
        exact ⟨by rw [HD.out]; rfl, HX5⟩
       ·have e1 : (authz == []) = false := by simp [q]
        have HD := Lib.hid (decide_eq_false q)
        clear q
        go_wp2_with fail
        refine (HEA.out _).mono ?_
        rintro e V ⟨rfl, hw⟩
        subst V
        go_wp2_with fail
        refine (HVA.out _).mono ?_
        rintro e W6 ⟨rfl, hx6⟩
        have HX6 := Lib.hid (ext_trans HX5.out hx6)
        clear hx6 c2
        go_wp2
        go_meet
        exact ⟨by rw [HD.out]; rfl, HX6⟩
    case rest =>
    obtain ⟨rfl, HXC⟩ := hcut
    have HS5 := Lib.hid (HS4.out.ext HXC.out)
    clear HXC HS4 c0 c1 c2 c3 c4 c5 c6 c7 c8 c9 c10 HEU HEA HVU HVA
    generalize (vu && (decide (authz = []) || va)) = ok at *
    obtain ⟨c0, c1, c2, c3, c4, c5, c6, c7, c8, c9, c10⟩ := cells11 HS5.out.b0
    obtain ⟨f0, f1, f2, f3, f4, f5, f6, f7, f8, f9, f10⟩ := frozen11 HS5.out.b2
    obtain ⟨d0, d1, d2, d3, d4, d5, d6, d7, d8, d9, d10⟩ := cells11 HS5.out.b2
    go_upto_region 13 with fail
    obtain ⟨Z5, hZ5⟩ : ∃ Z, (wc.setCell ⟨w.heap.size + 2, 3, none⟩ (.string ⟨#[117]⟩)).setCell ⟨w.heap.size + 2, 2, none⟩ (.string ⟨#[]⟩) = Z := ⟨_, rfl⟩
    have HS6 := Lib.hid (show RlS w Z5 _ #[.int .i64 1, Str flag, Str [], Str [117], Str nonce, .slice none 0 0, .slice a2 n2 k2, .int .i64 iter, Str head, .slice a3 proof.length k3, Str code] by rw [← hZ5]; exact (HS5.out.st 3 _).st 2 _)
    rw [hZ5]
    clear hZ5 HS5 c0 c1 c2 c3 c4 c5 c6 c7 c8 c9 c10 f0 f1 f2 f3 f4 f5 f6 f7 f8 f9 f10 d0 d1 d2 d3 d4 d5 d6 d7 d8 d9 d10
    obtain ⟨c0, c1, c2, c3, c4, c5, c6, c7, c8, c9, c10⟩ := cells11 HS6.out.b0
    obtain ⟨d0, d1, d2, d3, d4, d5, d6, d7, d8, d9, d10⟩ := cells11 HS6.out.b2
    go_wp2_with fail
    refine (HTX.out _ ⟨rowP_nil _, (HRX.out.grow HS6.out.x).salt, (HRX.out.grow HS6.out.x).proof, nil_rblk, HRX.out.bs, HRX.out.bp⟩ (HLW.out.ext HS6.out.x)).mono ?_
    rintro e W7 ⟨rfl, hx7⟩
    have HS7 := Lib.hid (HS6.out.ext hx7)
    clear hx7
    cases tb with
    | false =>
      have HRF := Lib.hid (show rb = false by rw [HRB.out]; simp)
      simp only [Bool.false_eq_true, if_false]
      go_wp2_with fail
      refine (none_any 4 _).mono ?_
      rintro e W9 ⟨rfl, hx9⟩
      have HS9 := Lib.hid (HS7.out.ext hx9)
      clear hx9
      obtain ⟨f0, f1, f2, f3, f4, f5, f6, f7, f8, f9, f10⟩ := frozen11 HS9.out.b1
      obtain ⟨d0, d1, d2, d3, d4, d5, d6, d7, d8, d9, d10⟩ := cells11 HS9.out.b1
      obtain ⟨Z9, hZ9, hr9, hb9⟩ := set11 HS9.out.b1 (.int .i64 0) (Str []) (Str []) (Str []) (Str []) (.slice none 0 0) (.slice none 0 0) (.int .i64 0) (Str []) (.slice none 0 0) (Str [])
      have HZ9 := Lib.hid hZ9; have HR9 := Lib.hid hr9; have HB9 := Lib.hid hb9
      clear hZ9 hr9 hb9
      go_wp2
      rw [HZ9.out]
      refine bodyPost_ret (v := .tuple #[.agg zerM, .int .i64 4]) ?_ rfl ⟨by obtain ⟨q1, q2⟩ := HA1.out (HRF.out); subst q1 q2; rfl, HB9.out.below HS9.out.x (by omega) (Nat.le_refl _)⟩
      obtain ⟨g0, g1, g2, g3, g4, g5, g6, g7, g8, g9, g10⟩ := cells11 HR9.out
      clear d0 d1 d2 d3 d4 d5 d6 d7 d8 d9 d10 f0 f1 f2 f3 f4 f5 f6 f7 f8 f9 f10
      simp [results, loadVar, loadCells, Tryz.isAgg27, Tryz.sizeOf27, Tryz.results36, go_sem, g0, g1, g2, g3, g4, g5, g6, g7, g8, g9, g10]
    | true =>
      simp only [if_true]
      cases ok with
      | false =>
        have HRF := Lib.hid (show rb = false by rw [HRB.out]; simp)
        go_wp2_with fail
        refine (none_any 4 _).mono ?_
        rintro e W9 ⟨rfl, hx9⟩
        have HS9 := Lib.hid (HS7.out.ext hx9)
        clear hx9
        obtain ⟨f0, f1, f2, f3, f4, f5, f6, f7, f8, f9, f10⟩ := frozen11 HS9.out.b1
        obtain ⟨d0, d1, d2, d3, d4, d5, d6, d7, d8, d9, d10⟩ := cells11 HS9.out.b1
        obtain ⟨Z9, hZ9, hr9, hb9⟩ := set11 HS9.out.b1 (.int .i64 0) (Str []) (Str []) (Str []) (Str []) (.slice none 0 0) (.slice none 0 0) (.int .i64 0) (Str []) (.slice none 0 0) (Str [])
        have HZ9 := Lib.hid hZ9; have HR9 := Lib.hid hr9; have HB9 := Lib.hid hb9
        clear hZ9 hr9 hb9
        go_wp2
        rw [HZ9.out]
        refine bodyPost_ret (v := .tuple #[.agg zerM, .int .i64 4]) ?_ rfl ⟨by obtain ⟨q1, q2⟩ := HA1.out (HRF.out); subst q1 q2; rfl, HB9.out.below HS9.out.x (by omega) (Nat.le_refl _)⟩
        obtain ⟨g0, g1, g2, g3, g4, g5, g6, g7, g8, g9, g10⟩ := cells11 HR9.out
        clear d0 d1 d2 d3 d4 d5 d6 d7 d8 d9 d10 f0 f1 f2 f3 f4 f5 f6 f7 f8 f9 f10
        simp [results, loadVar, loadCells, Tryz.isAgg27, Tryz.sizeOf27, Tryz.results36, go_sem, g0, g1, g2, g3, g4, g5, g6, g7, g8, g9, g10]
      | true =>
        have HRF := Lib.hid (show rb = true by rw [HRB.out]; rfl)
        obtain ⟨c0, c1, c2, c3, c4, c5, c6, c7, c8, c9, c10⟩ := cells11 HS7.out.b0
        obtain ⟨f0, f1, f2, f3, f4, f5, f6, f7, f8, f9, f10⟩ := frozen11 HS7.out.b1
        obtain ⟨d0, d1, d2, d3, d4, d5, d6, d7, d8, d9, d10⟩ := cells11 HS7.out.b1
        obtain ⟨Z9, hZ9, hr9, hb9⟩ := set11 HS7.out.b1 (.int .i64 1) (Str flag) (Str authz) (Str user) (Str nonce) (.slice a1 ls.length k1) (.slice a2 n2 k2) (.int .i64 iter) (Str head) (.slice a3 proof.length k3) (Str code)
        have HZ9 := Lib.hid hZ9; have HR9 := Lib.hid hr9; have HB9 := Lib.hid hb9
        clear hZ9 hr9 hb9
        go_wp2
        rw [HZ9.out]
        refine bodyPost_ret (v := .tuple #[.agg #[.int .i64 1, Str flag, Str authz, Str user, Str nonce, .slice a1 ls.length k1, .slice a2 n2 k2, .int .i64 iter, Str head, .slice a3 proof.length k3, Str code], .int .i64 0]) ?_ rfl ⟨by obtain ⟨q1, q2⟩ := HA2.out HRF.out; subst q1 q2; rfl, HB9.out.below HS7.out.x (by omega) (Nat.le_refl _)⟩
        obtain ⟨g0, g1, g2, g3, g4, g5, g6, g7, g8, g9, g10⟩ := cells11 HR9.out
        clear c0 c1 c2 c3 c4 c5 c6 c7 c8 c9 c10 d0 d1 d2 d3 d4 d5 d6 d7 d8 d9 d10 f0 f1 f2 f3 f4 f5 f6 f7 f8 f9 f10
        simp [results, loadVar, loadCells, Tryz.isAgg27, Tryz.sizeOf27, Tryz.results36, go_sem, g0, g1, g2, g3, g4, g5, g6, g7, g8, g9, g10]
   ·have HO := Lib.hid (show loB ⟨2, flag, authz, user, nonce, ls, salt, iter, head, proof, code⟩ = true from rfl)
    rw [show shM ⟨2, flag, authz, user, nonce, ls, salt, iter, head, proof, code⟩ = ⟨2, flag, authz, user, nonce, [], salt, iter, head, proof, code⟩ by simp [shM]] at HTX HRB1
    rw [HO.out] at HRB1
    have HRB2 := Lib.hid HRB1.out
    clear HO HRB1
    generalize txtB ⟨2, flag, authz, user, nonce, [], salt, iter, head, proof, code⟩ = tb at *
    obtain ⟨ok, hok2⟩ : ∃ b, true = b := ⟨_, rfl⟩
    have HRB := Lib.hid (show rb = (ok && tb) by rw [← hok2]; exact HRB2.out)
    have HOK := Lib.hid hok2
    clear hok2 HRB2
    obtain ⟨c0, c1, c2, c3, c4, c5, c6, c7, c8, c9, c10⟩ := cells11 HS4.out.b0
    obtain ⟨d0, d1, d2, d3, d4, d5, d6, d7, d8, d9, d10⟩ := cells11 HS4.out.b2
    go_cut [7] from 8 (fun s7 wx => s7 = .bool ok ∧ wx = Z4)
    case first =>
     go_wp2
     go_meet
     exact ⟨by rw [← HOK.out], rfl⟩
    case rest =>
    obtain ⟨rfl, hwc⟩ := hcut
    subst wc
    clear HOK
    go_wp2_with fail
    refine (HTX.out _ ⟨rowP_nil _, (HRX.out.grow HS4.out.x).salt, (HRX.out.grow HS4.out.x).proof, nil_rblk, HRX.out.bs, HRX.out.bp⟩ (HLW.out.ext HS4.out.x)).mono ?_
    rintro e W7 ⟨rfl, hx7⟩
    have HS7 := Lib.hid (HS4.out.ext hx7)
    clear hx7
    cases tb with
    | false =>
      have HRF := Lib.hid (show rb = false by rw [HRB.out]; simp)
      simp only [Bool.false_eq_true, if_false]
      go_wp2_with fail
      refine (none_any 4 _).mono ?_
      rintro e W9 ⟨rfl, hx9⟩
      have HS9 := Lib.hid (HS7.out.ext hx9)
      clear hx9
      obtain ⟨f0, f1, f2, f3, f4, f5, f6, f7, f8, f9, f10⟩ := frozen11 HS9.out.b1
      obtain ⟨d0, d1, d2, d3, d4, d5, d6, d7, d8, d9, d10⟩ := cells11 HS9.out.b1
      obtain ⟨Z9, hZ9, hr9, hb9⟩ := set11 HS9.out.b1 (.int .i64 0) (Str []) (Str []) (Str []) (Str []) (.slice none 0 0) (.slice none 0 0) (.int .i64 0) (Str []) (.slice none 0 0) (Str [])
      have HZ9 := Lib.hid hZ9; have HR9 := Lib.hid hr9; have HB9 := Lib.hid hb9
      clear hZ9 hr9 hb9
      go_wp2
      rw [HZ9.out]
      refine bodyPost_ret (v := .tuple #[.agg zerM, .int .i64 4]) ?_ rfl ⟨by obtain ⟨q1, q2⟩ := HA1.out (HRF.out); subst q1 q2; rfl, HB9.out.below HS9.out.x (by omega) (Nat.le_refl _)⟩
      obtain ⟨g0, g1, g2, g3, g4, g5, g6, g7, g8, g9, g10⟩ := cells11 HR9.out
      clear d0 d1 d2 d3 d4 d5 d6 d7 d8 d9 d10 f0 f1 f2 f3 f4 f5 f6 f7 f8 f9 f10
      simp [results, loadVar, loadCells, Tryz.isAgg27, Tryz.sizeOf27, Tryz.results36, go_sem, g0, g1, g2, g3, g4, g5, g6, g7, g8, g9, g10]
    | true =>
      simp only [if_true]
      cases ok with
      | false =>
        have HRF := Lib.hid (show rb = false by rw [HRB.out]; simp)
        go_wp2_with fail
        refine (none_any 4 _).mono ?_
        rintro e W9 ⟨rfl, hx9⟩
        have HS9 := Lib.hid (HS7.out.ext hx9)
        clear hx9
        obtain ⟨f0, f1, f2, f3, f4, f5, f6, f7, f8, f9, f10⟩ := frozen11 HS9.out.b1
        obtain ⟨d0, d1, d2, d3, d4, d5, d6, d7, d8, d9, d10⟩ := cells11 HS9.out.b1
        obtain ⟨Z9, hZ9, hr9, hb9⟩ := set11 HS9.out.b1 (.int .i64 0) (Str []) (Str []) (Str []) (Str []) (.slice none 0 0) (.slice none 0 0) (.int .i64 0) (Str []) (.slice none 0 0) (Str [])
        have HZ9 := Lib.hid hZ9; have HR9 := Lib.hid hr9; have HB9 := Lib.hid hb9
        clear hZ9 hr9 hb9
        go_wp2
        rw [HZ9.out]
        refine bodyPost_ret (v := .tuple #[.agg zerM, .int .i64 4]) ?_ rfl ⟨by obtain ⟨q1, q2⟩ := HA1.out (HRF.out); subst q1 q2; rfl, HB9.out.below HS9.out.x (by omega) (Nat.le_refl _)⟩
        obtain ⟨g0, g1, g2, g3, g4, g5, g6, g7, g8, g9, g10⟩ := cells11 HR9.out
        clear d0 d1 d2 d3 d4 d5 d6 d7 d8 d9 d10 f0 f1 f2 f3 f4 f5 f6 f7 f8 f9 f10
        simp [results, loadVar, loadCells, Tryz.isAgg27, Tryz.sizeOf27, Tryz.results36, go_sem, g0, g1, g2, g3, g4, g5, g6, g7, g8, g9, g10]
      | true =>
        have HRF := Lib.hid (show rb = true by rw [HRB.out]; rfl)
        obtain ⟨c0, c1, c2, c3, c4, c5, c6, c7, c8, c9, c10⟩ := cells11 HS7.out.b0
        obtain ⟨f0, f1, f2, f3, f4, f5, f6, f7, f8, f9, f10⟩ := frozen11 HS7.out.b1
        obtain ⟨d0, d1, d2, d3, d4, d5, d6, d7, d8, d9, d10⟩ := cells11 HS7.out.b1
        obtain ⟨Z9, hZ9, hr9, hb9⟩ := set11 HS7.out.b1 (.int .i64 2) (Str flag) (Str authz) (Str user) (Str nonce) (.slice a1 ls.length k1) (.slice a2 n2 k2) (.int .i64 iter) (Str head) (.slice a3 proof.length k3) (Str code)
        have HZ9 := Lib.hid hZ9; have HR9 := Lib.hid hr9; have HB9 := Lib.hid hb9
        clear hZ9 hr9 hb9
        go_wp2
        rw [HZ9.out]
        refine bodyPost_ret (v := .tuple #[.agg #[.int .i64 2, Str flag, Str authz, Str user, Str nonce, .slice a1 ls.length k1, .slice a2 n2 k2, .int .i64 iter, Str head, .slice a3 proof.length k3, Str code], .int .i64 0]) ?_ rfl ⟨by obtain ⟨q1, q2⟩ := HA2.out HRF.out; subst q1 q2; rfl, HB9.out.below HS7.out.x (by omega) (Nat.le_refl _)⟩
        obtain ⟨g0, g1, g2, g3, g4, g5, g6, g7, g8, g9, g10⟩ := cells11 HR9.out
        clear c0 c1 c2 c3 c4 c5 c6 c7 c8 c9 c10 d0 d1 d2 d3 d4 d5 d6 d7 d8 d9 d10 f0 f1 f2 f3 f4 f5 f6 f7 f8 f9 f10
        simp [results, loadVar, loadCells, Tryz.isAgg27, Tryz.sizeOf27, Tryz.results36, go_sem, g0, g1, g2, g3, g4, g5, g6, g7, g8, g9, g10]
   ·have HO := Lib.hid (show loB ⟨3, flag, authz, user, nonce, ls, salt, iter, head, proof, code⟩ = ((rHdF head).1 && !(rHdF head).2) from rfl)
    rw [show shM ⟨3, flag, authz, user, nonce, ls, salt, iter, head, proof, code⟩ = ⟨3, flag, authz, user, nonce, [], salt, iter, [110, 44, 44], proof, code⟩ by simp [shM]] at HTX HRB1
    rw [HO.out] at HRB1
    have HRB := Lib.hid HRB1.out
    clear HO HRB1
    generalize txtB ⟨3, flag, authz, user, nonce, [], salt, iter, [110, 44, 44], proof, code⟩ = tb at *
    have HHD := Lib.hid (fun W => rHead_any head (by omega) W)
    generalize (rHdF head).1 = h1 at *
    generalize (rHdF head).2 = h2 at *
    obtain ⟨c0, c1, c2, c3, c4, c5, c6, c7, c8, c9, c10⟩ := cells11 HS4.out.b0
    go_wp2_with fail
    refine (HHD.out _).mono ?_
    rintro e W5 ⟨rfl, hx5⟩
    have HS5 := Lib.hid (HS4.out.ext hx5)
    clear hx5 HS4 c0 c1 c2 c3 c4 c5 c6 c7 c8 c9 c10
    obtain ⟨c0, c1, c2, c3, c4, c5, c6, c7, c8, c9, c10⟩ := cells11 HS5.out.b0
    obtain ⟨f0, f1, f2, f3, f4, f5, f6, f7, f8, f9, f10⟩ := frozen11 HS5.out.b2
    obtain ⟨d0, d1, d2, d3, d4, d5, d6, d7, d8, d9, d10⟩ := cells11 HS5.out.b2
    go_upto_region 15 with fail
    go_cut [7] from 12 (fun s7 wx => s7 = .bool (h1 && !h2) ∧ wx = W5)
    case first =>
     cases h1 <;> cases h2 <;> (go_wp2; go_meet; exact ⟨rfl, rfl⟩)
    case rest =>
    obtain ⟨rfl, hwc⟩ := hcut
    subst wc
    generalize (h1 && !h2) = ok at *
    go_upto_region 17 with fail
    obtain ⟨Z5, hZ5⟩ : ∃ Z, W5.setCell ⟨w.heap.size + 2, 8, none⟩ (.string ⟨#[110, 44, 44]⟩) = Z := ⟨_, rfl⟩
    have HS6 := Lib.hid (show RlS w Z5 _ #[.int .i64 3, Str flag, Str authz, Str user, Str nonce, .slice none 0 0, .slice a2 n2 k2, .int .i64 iter, Str [110, 44, 44], .slice a3 proof.length k3, Str code] by rw [← hZ5]; exact HS5.out.st 8 _)
    rw [hZ5]
    clear hZ5 HS5 c0 c1 c2 c3 c4 c5 c6 c7 c8 c9 c10 f0 f1 f2 f3 f4 f5 f6 f7 f8 f9 f10 d0 d1 d2 d3 d4 d5 d6 d7 d8 d9 d10
    obtain ⟨c0, c1, c2, c3, c4, c5, c6, c7, c8, c9, c10⟩ := cells11 HS6.out.b0
    obtain ⟨d0, d1, d2, d3, d4, d5, d6, d7, d8, d9, d10⟩ := cells11 HS6.out.b2
    go_wp2_with fail
    refine (HTX.out _ ⟨rowP_nil _, (HRX.out.grow HS6.out.x).salt, (HRX.out.grow HS6.out.x).proof, nil_rblk, HRX.out.bs, HRX.out.bp⟩ (HLW.out.ext HS6.out.x)).mono ?_
    rintro e W7 ⟨rfl, hx7⟩
    have HS7 := Lib.hid (HS6.out.ext hx7)
    clear hx7
    cases tb with
    | false =>
      have HRF := Lib.hid (show rb = false by rw [HRB.out]; simp)
      simp only [Bool.false_eq_true, if_false]
      go_wp2_with fail
      refine (none_any 4 _).mono ?_
      rintro e W9 ⟨rfl, hx9⟩
      have HS9 := Lib.hid (HS7.out.ext hx9)
      clear hx9
      obtain ⟨f0, f1, f2, f3, f4, f5, f6, f7, f8, f9, f10⟩ := frozen11 HS9.out.b1
      obtain ⟨d0, d1, d2, d3, d4, d5, d6, d7, d8, d9, d10⟩ := cells11 HS9.out.b1
      obtain ⟨Z9, hZ9, hr9, hb9⟩ := set11 HS9.out.b1 (.int .i64 0) (Str []) (Str []) (Str []) (Str []) (.slice none 0 0) (.slice none 0 0) (.int .i64 0) (Str []) (.slice none 0 0) (Str [])
      have HZ9 := Lib.hid hZ9; have HR9 := Lib.hid hr9; have HB9 := Lib.hid hb9
      clear hZ9 hr9 hb9
      go_wp2
      rw [HZ9.out]
      refine bodyPost_ret (v := .tuple #[.agg zerM, .int .i64 4]) ?_ rfl ⟨by obtain ⟨q1, q2⟩ := HA1.out (HRF.out); subst q1 q2; rfl, HB9.out.below HS9.out.x (by omega) (Nat.le_refl _)⟩
      obtain ⟨g0, g1, g2, g3, g4, g5, g6, g7, g8, g9, g10⟩ := cells11 HR9.out
      clear d0 d1 d2 d3 d4 d5 d6 d7 d8 d9 d10 f0 f1 f2 f3 f4 f5 f6 f7 f8 f9 f10
      simp [results, loadVar, loadCells, Tryz.isAgg27, Tryz.sizeOf27, Tryz.results36, go_sem, g0, g1, g2, g3, g4, g5, g6, g7, g8, g9, g10]
    | true =>
      simp only [if_true]
      cases ok with
      | false =>
        have HRF := Lib.hid (show rb = false by rw [HRB.out]; simp)
        go_wp2_with fail
        refine (none_any 4 _).mono ?_
        rintro e W9 ⟨rfl, hx9⟩
        have HS9 := Lib.hid (HS7.out.ext hx9)
        clear hx9
        obtain ⟨f0, f1, f2, f3, f4, f5, f6, f7, f8, f9, f10⟩ := frozen11 HS9.out.b1
        obtain ⟨d0, d1, d2, d3, d4, d5, d6, d7, d8, d9, d10⟩ := cells11 HS9.out.b1
        obtain ⟨Z9, hZ9, hr9, hb9⟩ := set11 HS9.out.b1 (.int .i64 0) (Str []) (Str []) (Str []) (Str []) (.slice none 0 0) (.slice none 0 0) (.int .i64 0) (Str []) (.slice none 0 0) (Str [])
        have HZ9 := Lib.hid hZ9; have HR9 := Lib.hid hr9; have HB9 := Lib.hid hb9
        clear hZ9 hr9 hb9
        go_wp2
        rw [HZ9.out]
        refine bodyPost_ret (v := .tuple #[.agg zerM, .int .i64 4]) ?_ rfl ⟨by obtain ⟨q1, q2⟩ := HA1.out (HRF.out); subst q1 q2; rfl, HB9.out.below HS9.out.x (by omega) (Nat.le_refl _)⟩
        obtain ⟨g0, g1, g2, g3, g4, g5, g6, g7, g8, g9, g10⟩ := cells11 HR9.out
        clear d0 d1 d2 d3 d4 d5 d6 d7 d8 d9 d10 f0 f1 f2 f3 f4 f5 f6 f7 f8 f9 f10
        simp [results, loadVar, loadCells, Tryz.isAgg27, Tryz.sizeOf27, Tryz.results36, go_sem, g0, g1, g2, g3, g4, g5, g6, g7, g8, g9, g10]
      | true =>
        have HRF := Lib.hid (show rb = true by rw [HRB.out]; rfl)
        obtain ⟨c0, c1, c2, c3, c4, c5, c6, c7, c8, c9, c10⟩ := cells11 HS7.out.b0
        obtain ⟨f0, f1, f2, f3, f4, f5, f6, f7, f8, f9, f10⟩ := frozen11 HS7.out.b1
        obtain ⟨d0, d1, d2, d3, d4, d5, d6, d7, d8, d9, d10⟩ := cells11 HS7.out.b1
        obtain ⟨Z9, hZ9, hr9, hb9⟩ := set11 HS7.out.b1 (.int .i64 3) (Str flag) (Str authz) (Str user) (Str nonce) (.slice a1 ls.length k1) (.slice a2 n2 k2) (.int .i64 iter) (Str head) (.slice a3 proof.length k3) (Str code)
        have HZ9 := Lib.hid hZ9; have HR9 := Lib.hid hr9; have HB9 := Lib.hid hb9
        clear hZ9 hr9 hb9
        go_wp2
        rw [HZ9.out]
        refine bodyPost_ret (v := .tuple #[.agg #[.int .i64 3, Str flag, Str authz, Str user, Str nonce, .slice a1 ls.length k1, .slice a2 n2 k2, .int .i64 iter, Str head, .slice a3 proof.length k3, Str code], .int .i64 0]) ?_ rfl ⟨by obtain ⟨q1, q2⟩ := HA2.out HRF.out; subst q1 q2; rfl, HB9.out.below HS7.out.x (by omega) (Nat.le_refl _)⟩
        obtain ⟨g0, g1, g2, g3, g4, g5, g6, g7, g8, g9, g10⟩ := cells11 HR9.out
        clear c0 c1 c2 c3 c4 c5 c6 c7 c8 c9 c10 d0 d1 d2 d3 d4 d5 d6 d7 d8 d9 d10 f0 f1 f2 f3 f4 f5 f6 f7 f8 f9 f10
        simp [results, loadVar, loadCells, Tryz.isAgg27, Tryz.sizeOf27, Tryz.results36, go_sem, g0, g1, g2, g3, g4, g5, g6, g7, g8, g9, g10]
   ·by_cases hpp : proof = []
    ·have HO := Lib.hid (show loB ⟨4, flag, authz, user, nonce, ls, salt, iter, head, proof, code⟩ = valB code by unfold loB; simp [hpp])
     rw [show shM ⟨4, flag, authz, user, nonce, ls, salt, iter, head, proof, code⟩ = ⟨4, flag, authz, user, nonce, [], salt, iter, head, proof, [120]⟩ by simp [shM, hpp]] at HTX HRB1
     rw [HO.out] at HRB1
     have HRB := Lib.hid HRB1.out
     clear HO HRB1
     generalize txtB ⟨4, flag, authz, user, nonce, [], salt, iter, head, proof, [120]⟩ = tb at *
     have HVC := Lib.hid (fun W => rValue_any code (by omega) W)
     generalize valB code = ok at *
     have g1 : ((proof.length : Int) == 0) = true := by rw [hpp]; rfl
     have g2 : (proof.length : Int) = 0 := by rw [hpp]; rfl
     clear hpp
     obtain ⟨c0, c1, c2, c3, c4, c5, c6, c7, c8, c9, c10⟩ := cells11 HS4.out.b0
     go_wp2_with fail
     refine (HVC.out _).mono ?_
     rintro e W5 ⟨rfl, hx5⟩
     have HS5 := Lib.hid (HS4.out.ext hx5)
     clear hx5 HS4 c0 c1 c2 c3 c4 c5 c6 c7 c8 c9 c10
     obtain ⟨f0, f1, f2, f3, f4, f5, f6, f7, f8, f9, f10⟩ := frozen11 HS5.out.b2
     obtain ⟨d0, d1, d2, d3, d4, d5, d6, d7, d8, d9, d10⟩ := cells11 HS5.out.b2
     go_upto_region 20 with fail
     obtain ⟨Z5, hZ5⟩ : ∃ Z, W5.setCell ⟨w.heap.size + 2, 10, none⟩ (.string ⟨#[120]⟩) = Z := ⟨_, rfl⟩
     have HS6 := Lib.hid (show RlS w Z5 _ #[.int .i64 4, Str flag, Str authz, Str user, Str nonce, .slice none 0 0, .slice a2 n2 k2, .int .i64 iter, Str head, .slice a3 proof.length k3, Str [120]] by rw [← hZ5]; exact HS5.out.st 10 _)
     rw [hZ5]
     clear hZ5 HS5 f0 f1 f2 f3 f4 f5 f6 f7 f8 f9 f10 d0 d1 d2 d3 d4 d5 d6 d7 d8 d9 d10
     obtain ⟨d0, d1, d2, d3, d4, d5, d6, d7, d8, d9, d10⟩ := cells11 HS6.out.b2
     go_wp2_with fail
     refine (HTX.out _ ⟨rowP_nil _, (HRX.out.grow HS6.out.x).salt, (HRX.out.grow HS6.out.x).proof, nil_rblk, HRX.out.bs, HRX.out.bp⟩ (HLW.out.ext HS6.out.x)).mono ?_
     rintro e W7 ⟨rfl, hx7⟩
     have HS7 := Lib.hid (HS6.out.ext hx7)
     clear hx7
     cases tb with
     | false =>
       have HRF := Lib.hid (show rb = false by rw [HRB.out]; simp)
       simp only [Bool.false_eq_true, if_false]
       go_wp2_with fail
       refine (none_any 4 _).mono ?_
       rintro e W9 ⟨rfl, hx9⟩
       have HS9 := Lib.hid (HS7.out.ext hx9)
       clear hx9
       obtain ⟨f0, f1, f2, f3, f4, f5, f6, f7, f8, f9, f10⟩ := frozen11 HS9.out.b1
       obtain ⟨d0, d1, d2, d3, d4, d5, d6, d7, d8, d9, d10⟩ := cells11 HS9.out.b1
       obtain ⟨Z9, hZ9, hr9, hb9⟩ := set11 HS9.out.b1 (.int .i64 0) (Str []) (Str []) (Str []) (Str []) (.slice none 0 0) (.slice none 0 0) (.int .i64 0) (Str []) (.slice none 0 0) (Str [])
       have HZ9 := Lib.hid hZ9; have HR9 := Lib.hid hr9; have HB9 := Lib.hid hb9
       clear hZ9 hr9 hb9
       go_wp2
       rw [HZ9.out]
       refine bodyPost_ret (v := .tuple #[.agg zerM, .int .i64 4]) ?_ rfl ⟨by obtain ⟨q1, q2⟩ := HA1.out (HRF.out); subst q1 q2; rfl, HB9.out.below HS9.out.x (by omega) (Nat.le_refl _)⟩
       obtain ⟨g0, g1, g2, g3, g4, g5, g6, g7, g8, g9, g10⟩ := cells11 HR9.out
       clear d0 d1 d2 d3 d4 d5 d6 d7 d8 d9 d10 f0 f1 f2 f3 f4 f5 f6 f7 f8 f9 f10
       simp [results, loadVar, loadCells, Tryz.isAgg27, Tryz.sizeOf27, Tryz.results36, go_sem, g0, g1, g2, g3, g4, g5, g6, g7, g8, g9, g10]
     | true =>
       simp only [if_true]
       cases ok with
       | false =>
         have HRF := Lib.hid (show rb = false by rw [HRB.out]; simp)
         go_wp2_with fail
         refine (none_any 4 _).mono ?_
         rintro e W9 ⟨rfl, hx9⟩
         have HS9 := Lib.hid (HS7.out.ext hx9)
         clear hx9
         obtain ⟨f0, f1, f2, f3, f4, f5, f6, f7, f8, f9, f10⟩ := frozen11 HS9.out.b1
         obtain ⟨d0, d1, d2, d3, d4, d5, d6, d7, d8, d9, d10⟩ := cells11 HS9.out.b1
         obtain ⟨Z9, hZ9, hr9, hb9⟩ := set11 HS9.out.b1 (.int .i64 0) (Str []) (Str []) (Str []) (Str []) (.slice none 0 0) (.slice none 0 0) (.int .i64 0) (Str []) (.slice none 0 0) (Str [])
         have HZ9 := Lib.hid hZ9; have HR9 := Lib.hid hr9; have HB9 := Lib.hid hb9
         clear hZ9 hr9 hb9
         go_wp2
         rw [HZ9.out]
         refine bodyPost_ret (v := .tuple #[.agg zerM, .int .i64 4]) ?_ rfl ⟨by obtain ⟨q1, q2⟩ := HA1.out (HRF.out); subst q1 q2; rfl, HB9.out.below HS9.out.x (by omega) (Nat.le_refl _)⟩
         obtain ⟨g0, g1, g2, g3, g4, g5, g6, g7, g8, g9, g10⟩ := cells11 HR9.out
         clear d0 d1 d2 d3 d4 d5 d6 d7 d8 d9 d10 f0 f1 f2 f3 f4 f5 f6 f7 f8 f9 f10
         simp [results, loadVar, loadCells, Tryz.isAgg27, Tryz.sizeOf27, Tryz.results36, go_sem, g0, g1, g2, g3, g4, g5, g6, g7, g8, g9, g10]
       | true =>
         have HRF := Lib.hid (show rb = true by rw [HRB.out]; rfl)
         obtain ⟨c0, c1, c2, c3, c4, c5, c6, c7, c8, c9, c10⟩ := cells11 HS7.out.b0
         obtain ⟨f0, f1, f2, f3, f4, f5, f6, f7, f8, f9, f10⟩ := frozen11 HS7.out.b1
         obtain ⟨d0, d1, d2, d3, d4, d5, d6, d7, d8, d9, d10⟩ := cells11 HS7.out.b1
         obtain ⟨Z9, hZ9, hr9, hb9⟩ := set11 HS7.out.b1 (.int .i64 4) (Str flag) (Str authz) (Str user) (Str nonce) (.slice a1 ls.length k1) (.slice a2 n2 k2) (.int .i64 iter) (Str head) (.slice a3 proof.length k3) (Str code)
         have HZ9 := Lib.hid hZ9; have HR9 := Lib.hid hr9; have HB9 := Lib.hid hb9
         clear hZ9 hr9 hb9
         go_wp2
         rw [HZ9.out]
         refine bodyPost_ret (v := .tuple #[.agg #[.int .i64 4, Str flag, Str authz, Str user, Str nonce, .slice a1 ls.length k1, .slice a2 n2 k2, .int .i64 iter, Str head, .slice a3 proof.length k3, Str code], .int .i64 0]) ?_ rfl ⟨by obtain ⟨q1, q2⟩ := HA2.out HRF.out; subst q1 q2; rfl, HB9.out.below HS7.out.x (by omega) (Nat.le_refl _)⟩
         obtain ⟨g0, g1, g2, g3, g4, g5, g6, g7, g8, g9, g10⟩ := cells11 HR9.out
         clear c0 c1 c2 c3 c4 c5 c6 c7 c8 c9 c10 d0 d1 d2 d3 d4 d5 d6 d7 d8 d9 d10 f0 f1 f2 f3 f4 f5 f6 f7 f8 f9 f10
         simp [results, loadVar, loadCells, Tryz.isAgg27, Tryz.sizeOf27, Tryz.results36, go_sem, g0, g1, g2, g3, g4, g5, g6, g7, g8, g9, g10]
    ·have HO := Lib.hid (show loB ⟨4, flag, authz, user, nonce, ls, salt, iter, head, proof, code⟩ = true by unfold loB; simp [hpp])
     rw [show shM ⟨4, flag, authz, user, nonce, ls, salt, iter, head, proof, code⟩ = ⟨4, flag, authz, user, nonce, [], salt, iter, head, proof, code⟩ by simp [shM, hpp]] at HTX HRB1
     rw [HO.out] at HRB1
     have HRB2 := Lib.hid HRB1.out
     clear HO HRB1
     generalize txtB ⟨4, flag, authz, user, nonce, [], salt, iter, head, proof, code⟩ = tb at *
     obtain ⟨ok, hok2⟩ : ∃ b, true = b := ⟨_, rfl⟩
     have HRB := Lib.hid (show rb = (ok && tb) by rw [← hok2]; exact HRB2.out)
     have HOK := Lib.hid hok2
     clear hok2 HRB2
     have hpl : ¬ proof.length = 0 := fun e => hpp (List.eq_nil_of_length_eq_zero e)
     have g1 : ((proof.length : Int) == 0) = false := by simp only [beq_eq_false_iff_ne, ne_eq]; omega
     have g2 : ¬ (proof.length : Int) = 0 := by omega
     clear hpp hpl
     obtain ⟨c0, c1, c2, c3, c4, c5, c6, c7, c8, c9, c10⟩ := cells11 HS4.out.b0
     obtain ⟨d0, d1, d2, d3, d4, d5, d6, d7, d8, d9, d10⟩ := cells11 HS4.out.b2
     go_cut [7] from 8 (fun s7 wx => s7 = .bool ok ∧ wx = Z4)
     case first =>
      go_wp2
      go_meet
      exact ⟨by rw [← HOK.out], rfl⟩
     case rest =>
     obtain ⟨rfl, hwc⟩ := hcut
     subst wc
     clear HOK
     go_wp2_with fail
     refine (HTX.out _ ⟨rowP_nil _, (HRX.out.grow HS4.out.x).salt, (HRX.out.grow HS4.out.x).proof, nil_rblk, HRX.out.bs, HRX.out.bp⟩ (HLW.out.ext HS4.out.x)).mono ?_
     rintro e W7 ⟨rfl, hx7⟩
     have HS7 := Lib.hid (HS4.out.ext hx7)
     clear hx7
     cases tb with
     | false =>
       have HRF := Lib.hid (show rb = false by rw [HRB.out]; simp)
       simp only [Bool.false_eq_true, if_false]
       go_wp2_with fail
       refine (none_any 4 _).mono ?_
       rintro e W9 ⟨rfl, hx9⟩
       have HS9 := Lib.hid (HS7.out.ext hx9)
       clear hx9
       obtain ⟨f0, f1, f2, f3, f4, f5, f6, f7, f8, f9, f10⟩ := frozen11 HS9.out.b1
       obtain ⟨d0, d1, d2, d3, d4, d5, d6, d7, d8, d9, d10⟩ := cells11 HS9.out.b1
       obtain ⟨Z9, hZ9, hr9, hb9⟩ := set11 HS9.out.b1 (.int .i64 0) (Str []) (Str []) (Str []) (Str []) (.slice none 0 0) (.slice none 0 0) (.int .i64 0) (Str []) (.slice none 0 0) (Str [])
       have HZ9 := Lib.hid hZ9; have HR9 := Lib.hid hr9; have HB9 := Lib.hid hb9
       clear hZ9 hr9 hb9
       go_wp2
       rw [HZ9.out]
       refine bodyPost_ret (v := .tuple #[.agg zerM, .int .i64 4]) ?_ rfl ⟨by obtain ⟨q1, q2⟩ := HA1.out (HRF.out); subst q1 q2; rfl, HB9.out.below HS9.out.x (by omega) (Nat.le_refl _)⟩
       obtain ⟨g0, g1, g2, g3, g4, g5, g6, g7, g8, g9, g10⟩ := cells11 HR9.out
       clear d0 d1 d2 d3 d4 d5 d6 d7 d8 d9 d10 f0 f1 f2 f3 f4 f5 f6 f7 f8 f9 f10
       simp [results, loadVar, loadCells, Tryz.isAgg27, Tryz.sizeOf27, Tryz.results36, go_sem, g0, g1, g2, g3, g4, g5, g6, g7, g8, g9, g10]
     | true =>
       simp only [if_true]
       cases ok with
       | false =>
         have HRF := Lib.hid (show rb = false by rw [HRB.out]; simp)
         go_wp2_with fail
         refine (none_any 4 _).mono ?_
         rintro e W9 ⟨rfl, hx9⟩
         have HS9 := Lib.hid (HS7.out.ext hx9)
         clear hx9
         obtain ⟨f0, f1, f2, f3, f4, f5, f6, f7, f8, f9, f10⟩ := frozen11 HS9.out.b1
         obtain ⟨d0, d1, d2, d3, d4, d5, d6, d7, d8, d9, d10⟩ := cells11 HS9.out.b1
         obtain ⟨Z9, hZ9, hr9, hb9⟩ := set11 HS9.out.b1 (.int .i64 0) (Str []) (Str []) (Str []) (Str []) (.slice none 0 0) (.slice none 0 0) (.int .i64 0) (Str []) (.slice none 0 0) (Str [])
         have HZ9 := Lib.hid hZ9; have HR9 := Lib.hid hr9; have HB9 := Lib.hid hb9
         clear hZ9 hr9 hb9
         go_wp2
         rw [HZ9.out]
         refine bodyPost_ret (v := .tuple #[.agg zerM, .int .i64 4]) ?_ rfl ⟨by obtain ⟨q1, q2⟩ := HA1.out (HRF.out); subst q1 q2; rfl, HB9.out.below HS9.out.x (by omega) (Nat.le_refl _)⟩
         obtain ⟨g0, g1, g2, g3, g4, g5, g6, g7, g8, g9, g10⟩ := cells11 HR9.out
         clear d0 d1 d2 d3 d4 d5 d6 d7 d8 d9 d10 f0 f1 f2 f3 f4 f5 f6 f7 f8 f9 f10
         simp [results, loadVar, loadCells, Tryz.isAgg27, Tryz.sizeOf27, Tryz.results36, go_sem, g0, g1, g2, g3, g4, g5, g6, g7, g8, g9, g10]
       | true =>
         have HRF := Lib.hid (show rb = true by rw [HRB.out]; rfl)
         obtain ⟨c0, c1, c2, c3, c4, c5, c6, c7, c8, c9, c10⟩ := cells11 HS7.out.b0
         obtain ⟨f0, f1, f2, f3, f4, f5, f6, f7, f8, f9, f10⟩ := frozen11 HS7.out.b1
         obtain ⟨d0, d1, d2, d3, d4, d5, d6, d7, d8, d9, d10⟩ := cells11 HS7.out.b1
         obtain ⟨Z9, hZ9, hr9, hb9⟩ := set11 HS7.out.b1 (.int .i64 4) (Str flag) (Str authz) (Str user) (Str nonce) (.slice a1 ls.length k1) (.slice a2 n2 k2) (.int .i64 iter) (Str head) (.slice a3 proof.length k3) (Str code)
         have HZ9 := Lib.hid hZ9; have HR9 := Lib.hid hr9; have HB9 := Lib.hid hb9
         clear hZ9 hr9 hb9
         go_wp2
         rw [HZ9.out]
         refine bodyPost_ret (v := .tuple #[.agg #[.int .i64 4, Str flag, Str authz, Str user, Str nonce, .slice a1 ls.length k1, .slice a2 n2 k2, .int .i64 iter, Str head, .slice a3 proof.length k3, Str code], .int .i64 0]) ?_ rfl ⟨by obtain ⟨q1, q2⟩ := HA2.out HRF.out; subst q1 q2; rfl, HB9.out.below HS7.out.x (by omega) (Nat.le_refl _)⟩
         obtain ⟨g0, g1, g2, g3, g4, g5, g6, g7, g8, g9, g10⟩ := cells11 HR9.out
         clear c0 c1 c2 c3 c4 c5 c6 c7 c8 c9 c10 d0 d1 d2 d3 d4 d5 d6 d7 d8 d9 d10 f0 f1 f2 f3 f4 f5 f6 f7 f8 f9 f10
         simp [results, loadVar, loadCells, Tryz.isAgg27, Tryz.sizeOf27, Tryz.results36, go_sem, g0, g1, g2, g3, g4, g5, g6, g7, g8, g9, g10]
theorem rtext_any (m : Ms) (hf : MsF m) (B : Nat) (e s p : Value) (w : World) (hr : MsR B w e s p m) (hL : LwS w) :
    Calls Tryz.prog 13 #[.agg (msA m e s p)] w fun r w' => r = .returned (.tuple #[Str (txtV m).1, .int .i64 (txtV m).2]) ∧ Ext w w' :=
 rtext_gen m hf B e s p w hr hL fun _ hn W h hl => rlong_any m hf hn B e s p W h hl
end Go.Proofs.YtjkbigecejogdaaGreatDoor
