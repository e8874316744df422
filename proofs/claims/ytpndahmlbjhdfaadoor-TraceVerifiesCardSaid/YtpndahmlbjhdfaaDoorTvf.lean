/-
  TraceVerifies: the law's walk (printed by wip/tools/trace_verifies.py).
-/
import Derived.BigGuardPart
import Derived.Test.YtpndahmlbjhdfaaDoorRows
import Derived.Test.YtpndahmlbjhdfaaDoorTbu
import Derived.Test.YtpndahmlbjhdfaaDoorTbk
import Derived.Test.YtpndahmlbjhdfaaDoorTfi
import Derived.Test.YtpndahmlbjhdfaaDoorTgl
import Derived.Test.YtpndahmlbjhdfaaDoorVrf
import Derived.Test.YtpndahmlbjhdfaaDoorIns
import Derived.Test.YtpndahmlbjhdfaaDoorRel
namespace Go.Proofs.YtpndahmlbjhdfaaDoor
open Go.RowKit
set_option maxRecDepth 100000
attribute [local go_sem] Oper.semAt_some
set_option linter.unusedVariables false
set_option linter.unusedSimpArgs false
theorem make32_run (w C : World) (h : w.alloc zeroObj = C) : (Instr.makeSlice 45 (.int .i64 32) (.int .i64 32)).run Tryd.prog w = .ok (.slice (some ⟨w.heap.size, 0, none⟩) 32 32) C := by
  rw [← h]; exact run_make32 w
theorem verB_all {L : List Ev} (h : goodL L) (f : List UInt8) (K : List Ev) (hs : ∀ e ∈ K, e ∈ L) : verB K f (chainR f K) = true := by
  have : K.all Ev.right = true := List.all_eq_true.2 fun e he => by
    obtain ⟨j, hj, hx⟩ := List.getElem_of_mem (hs e he)
    exact (h j e (by rw [← hx]; exact List.getElem?_eq_getElem hj)).1
  simp [verB, this]
theorem chainR_app (f : List UInt8) (K M : List Ev) : chainR (chainR f K) M = chainR f (K ++ M) := by
  simp [chainR, List.foldl_append]
theorem one_sl (w : World) (b : UInt8) : SlB (w.alloc (.cells #[.int .u8 (b.toNat : Int)] 5)) (.slice (some ⟨w.heap.size, 0, none⟩) 1 1) [b] := by
  have ho : OwnB w.heap.size (.slice (some ⟨w.heap.size, 0, none⟩) 1 1) [b] (w.alloc (.cells #[.int .u8 (b.toNat : Int)] 5)) := own_built w w.heap.size 5 [Byt b] (Nat.le_refl _) (by simp)
  exact ho.sl
theorem split_at' (L : List Ev) (k : Nat) (h : k < L.length) : L = L.take k ++ L.getD k evD :: L.drop (k + 1) := by
  have e : L.getD k evD = L[k] := by simp [List.getD, h]
  rw [e, ← List.drop_eq_getElem_cons h, List.take_append_drop]
theorem set_atE {W : World} {g : Nat} {L : List Value} {t : TypeId} (h : W.heap[g]? = some (.cells L.toArray t (0, 0))) (j : Nat) (v : Value) : (W.setCell ⟨g, j, none⟩ v).heap[g]? = some (.cells (L.set j v).toArray t (0, 0)) := by
  rw [setCell_eq_setRow W g j _ t (0, 0) v h]
  have := setRow_heap W g _ (L.toArray.setIfInBounds j v) t (0, 0) h
  rw [this]; simp
theorem set_text (FA R : List Value) (k n tk : Nat) (kind : List UInt8) (conn : Int) (t t' : List UInt8) (h : FA.length = k * 5) :
    (FA ++ (evL ⟨n, tk, kind, conn, t⟩ ++ R)).set (5 * k + 4) (Str t') = FA ++ (evL ⟨n, tk, kind, conn, t'⟩ ++ R) := by
  rw [List.set_append_right _ _ (by omega), show 5 * k + 4 - FA.length = 4 by omega]
  simp [evL]
set_option maxHeartbeats 4000000 in
theorem verifies_any (v : Value) (os : List OpE) (hok : ∀ o ∈ os, o.ok) (ii jj : Int) (b8 : UInt8) (hi0 : 0 ≤ ii) (hi1 : ii ≤ 255) (hj0 : 0 ≤ jj) (hj1 : jj ≤ 255) (w : World) (hv : RowO w v os) (hT : Tw w) (hW : WordsAt w) :
    Calls Tryd.prog 6 #[v, .int .u8 ii, .int .u8 jj, .int .u8 (b8.toNat : Int)] w fun e w' => e = .returned (.bool true) ∧ Ext w w' := by
  have HAW := Lib.hid (awake_law w hT)
  have HT := Lib.hid hT; have HV := Lib.hid hv; have HW := Lib.hid hW
  obtain ⟨ao, cap, rfl, -⟩ := id hv
  have HBU := Lib.hid (show ∀ W, Ext w W → Calls Tryd.prog 9 #[.int .i64 40, .slice ao os.length cap] W (BuildR 40 os W) from fun W (hx : Ext w W) =>
    build_any 40 (by omega) (by omega) _ os hok W (hv.ext hx) (hT.ext hx))
  clear hT hv hok hW
  go_enter Tryd.func6, Tryd.ntmps6
  go_wp2_with (go_at_call 8; refine HAW.out.mono ?_; rintro e W1 ⟨rfl, hx1⟩)
  refine (HBU.out W1 hx1).mono ?_
  rintro e W2 ⟨p, q, lv, cv, xv, rfl, htr, hrf, hx2⟩
  have hg := bldL_good (os.take 40)
  have hLl : (bldL (os.take 40)).length ≤ 40 := by have := hg.2; rw [List.length_take] at this; omega
  have HG := Lib.hid hg.1
  have HX2 := Lib.hid (ext_trans hx1 hx2)
  clear hx1 hx2 hg HBU HAW
  generalize bldL (os.take 40) = Ls at *
  obtain ⟨xao, xcap, rfl, -⟩ := id (show RowE W2 xv Ls from rowC_of_own evL_len hrf.row)
  have HTR := Lib.hid htr; have HRF := Lib.hid hrf
  have hevs : (stOf 40 Ls).evs = Ls := by
    show Ls.drop (Ls.length - 40) = Ls
    rw [show Ls.length - 40 = 0 by omega]; rfl
  have HOK := Lib.hid (fun e (he : e ∈ Ls) => (goodL_mem HG.out he).1)
  have HSI := Lib.hid (since_any 0 (by omega) W1.heap.size p lv cv (stOf 40 Ls) (by rw [hevs]; omega) (by rw [hevs]; exact HOK.out) W2 htr)
  rw [hevs, qSince_zero Ls (fun e he => (goodL_mem HG.out he).2)] at HSI
  have HCH := Lib.hid (fun W (hx : Ext W2 W) => (Chain_any W1.heap.size p lv cv (stOf 40 Ls) (chainR_len Ls _ (by simp [zero32])) W (HTR.out.ext hx)).mono (fun e w' ⟨v', he, ho, hx'⟩ => (⟨v', he, ho.sl, hx'⟩ : ∃ v', e = Ending.returned v' ∧ SlB w' v' (chainR zero32 Ls) ∧ Ext W w')))
  clear htr hrf hevs
  go_wp2_with fail
  refine HSI.out.mono ?_
  rintro e W3 ⟨f3, rfl, hsq, hx⟩
  have HX3 := Lib.hid hx
  have HC := Lib.hid (collectS_any f3 _ (by omega) _ W3 hsq)
  clear hsq hx HSI
  go_wp2_with fail
  refine HC.out.mono ?_
  rintro e W4 ⟨va, rfl, ho, hx⟩
  obtain ⟨aa, ac, rfl, -⟩ := id ho.row
  have HX4 := Lib.hid (ext_trans HX3.out hx)
  have HA4 := Lib.hid ho.row
  obtain ⟨W5, hW5⟩ : ∃ W5, W4.alloc zeroObj = W5 := ⟨_, rfl⟩
  have hmk := make32_run W4 W5 hW5
  have hx5 : Ext W4 W5 := by rw [← hW5]; exact Below.alloc (Below.refl _ _) (Nat.le_refl _) _
  have HN5 := Lib.hid (by rw [← hW5]; exact make32_sl W4 : SlB W5 (.slice (some ⟨W4.heap.size, 0, none⟩) 32 32) zero32)
  obtain ⟨nv, hnv⟩ : ∃ nv, Value.slice (some ⟨W4.heap.size, 0, none⟩) 32 32 = nv := ⟨_, rfl⟩
  rw [hnv] at HN5 hmk
  have HX5 := Lib.hid (ext_trans HX4.out hx5)
  have HA5 := Lib.hid (HA4.out.ext hx5)
  clear ho hx hx5 HC hW5 hnv
  go_wp2_with fail
  clear hmk
  refine (HCH.out W5 HX5.out).mono ?_
  rintro e W6 ⟨c6, rfl, hs6, hx⟩
  have HX6 := Lib.hid (ext_trans HX5.out hx)
  have HV6 := Lib.hid (verify_any nv c6 _ zero32 (chainR zero32 Ls) (by simp [zero32]) Ls (by omega) HOK.out W6 (HN5.out.ext hx) hs6 (HA5.out.ext hx) (HT.out.ext (ext_trans HX2.out HX6.out)))
  rw [verB_all HG.out zero32 Ls (fun _ h => h)] at HV6
  have HN6 := Lib.hid (HN5.out.ext hx); have HA6 := Lib.hid (HA5.out.ext hx)
  clear hx hs6 HN5 HA5
  go_wp2_with fail
  refine HV6.out.mono ?_
  rintro e W7 ⟨rfl, hx⟩
  have HX7 := Lib.hid (ext_trans HX6.out hx)
  have HN7 := Lib.hid (HN6.out.ext hx); have HA7 := Lib.hid (HA6.out.ext hx)
  clear hx HV6 HN6 HA6
  obtain ⟨W8, hW8⟩ : ∃ W8, W7.alloc zeroObj = W8 := ⟨_, rfl⟩
  have hmk := make32_run W7 W8 hW8
  have hx : Ext W7 W8 := by rw [← hW8]; exact Below.alloc (Below.refl _ _) (Nat.le_refl _) _
  have HSM := Lib.hid (same_any nv _ zero32 zero32 W8 (HN7.out.ext hx) (by rw [← hW8]; exact make32_sl W7))
  have HX8 := Lib.hid (ext_trans HX7.out hx)
  have HN8 := Lib.hid (HN7.out.ext hx); have HA8 := Lib.hid (HA7.out.ext hx)
  clear hx hW8 HN7 HA7
  go_wp2_with fail
  clear hmk
  refine HSM.out.mono ?_
  rintro e W9 ⟨rfl, hw9⟩
  subst W9
  rw [show (zero32 == zero32) = true by simp]
  by_cases hL0 : Ls = []
  · subst hL0
    have HV9 := Lib.hid (verify_any nv nv (.slice none 0 0) zero32 zero32 (by simp [zero32]) [] (by simp) (fun e he => by simp at he) W8 HN8.out HN8.out (rowC_of_own evL_len (World.ownsRow_nil W8 0 37 5)) (HT.out.ext (ext_trans HX2.out HX8.out)))
    rw [show verB [] zero32 zero32 = true by simp [verB, chainR]] at HV9
    rw [show ([] : List Ev).length = 0 from rfl]
    go_wp2_with fail
    refine HV9.out.mono ?_
    rintro e W10 ⟨rfl, hx⟩
    have HX10 := Lib.hid (ext_trans HX2.out (ext_trans HX8.out hx))
    clear hx
    go_wp2
    go_ret
    exact ⟨rfl, HX10.out⟩
  have hLp : 0 < Ls.length := List.length_pos_iff.2 hL0
  obtain ⟨k, hk, hkn⟩ : ∃ k : Nat, ii.tmod (Ls.length : Int) = (k : Int) ∧ k < Ls.length := by
    refine ⟨(ii % (Ls.length : Int)).toNat, ?_, ?_⟩
    · rw [Int.tmod_eq_emod_of_nonneg hi0]
      have := Int.emod_nonneg ii (show (Ls.length : Int) ≠ 0 by omega)
      omega
    · have := Int.emod_nonneg ii (show (Ls.length : Int) ≠ 0 by omega)
      have := Int.emod_lt_of_pos ii (show (0 : Int) < (Ls.length : Int) by omega)
      omega
  have hk' : ii % (Ls.length : Int) = (k : Int) := by rw [← Int.tmod_eq_emod_of_nonneg hi0]; exact hk
  have hn0 : ¬ (Ls.length : Int) = 0 := by omega
  obtain ⟨jr, hjr, hjr3⟩ : ∃ jr : Nat, jj.tmod 3 = (jr : Int) ∧ jr < 3 := by
    refine ⟨(jj % 3).toNat, ?_, ?_⟩
    · rw [Int.tmod_eq_emod_of_nonneg hj0]; omega
    · omega
  have hjr' : jj % 3 = (jr : Int) := by rw [← Int.tmod_eq_emod_of_nonneg hj0]; exact hjr
  have hrf8 := HRF.out.ext HX8.out
  obtain ⟨c0, c1⟩ := cells2 hrf8.blk
  obtain ⟨ka, kc, hkr, -, hks⟩ := row_to Tryd.underlying29 Tryd.sizeOf32 (show RowE W8 (.slice xao Ls.length xcap) Ls from rowC_of_own evL_len hrf8.row) (k := k) (by omega)
  obtain ⟨da, dc, hdr, -, hds⟩ := row_from Tryd.underlying35 Tryd.sizeOf37 (show RowE W8 (.slice aa Ls.length ac) Ls from HA8.out) (k := k) (by omega)
  have HRC := Lib.hid (rchain_any nv (.slice ka k kc) zero32 (Ls.take k) (by simp [zero32]) (by rw [List.length_take]; omega) (fun e he => HOK.out e (List.mem_of_mem_take he)) W8 HN8.out hkr (HW.out.ext (ext_trans HX2.out HX8.out)))
  have HDR := Lib.hid (show RowE W8 _ _ from hdr)
  clear hkr hdr hrf8
  go_wp2_with fail
  clear c0 c1 hks
  refine HRC.out.mono ?_
  rintro e W10 ⟨mv, rfl, hs10, hx⟩
  have HX10 := Lib.hid (ext_trans HX8.out hx)
  have HVM := Lib.hid (fun a W (hx : Ext W10 W) (h : SlB W a (chainR zero32 Ls)) => verify_any mv a (.slice da (Ls.length - k) dc) (chainR zero32 (Ls.take k)) (chainR zero32 Ls) (chainR_len _ _ (by simp [zero32])) (Ls.drop k) (by rw [List.length_drop]; omega) (fun e he => HOK.out e (List.mem_of_mem_drop he)) W (hs10.ext hx) h (HDR.out.ext (ext_trans ‹Ext W8 W10› hx)) (HT.out.ext (ext_trans HX2.out (ext_trans HX10.out hx))))
  rw [show verB (Ls.drop k) (chainR zero32 (Ls.take k)) (chainR zero32 Ls) = true by
    have := verB_all HG.out (chainR zero32 (Ls.take k)) (Ls.drop k) (fun e he => List.mem_of_mem_drop he)
    rw [chainR_app, List.take_append_drop] at this
    exact this] at HVM
  have HA10 := Lib.hid (HA8.out.ext hx); have HN10 := Lib.hid (HN8.out.ext hx)
  clear hx hs10 HRC
  go_wp2_with fail
  -- inv {'ops': [('mv', 67, 15, 'mv'), ('mv', 68, 9, '.pointer (some ⟨p, 0, none⟩)'), ('callx', 69, [1], "HCH.out w' (ext_trans HX10.out E0)", "SlB w' (u 69) (chainR zero32 Ls)"), ('mv', 70, 12, '.slice aa Ls.length ac'), ('mv', 71, 14, '.int .i64 (k : Int)'), ('op', 72, [3, 4], '.slice da (Ls.length - k) dc'), ('raw', 73, [0, 5], "have c2 := C2 (hp.of 2 (by kernel_rfl));; have e2 := hT 69;; go_simp;; refine (HVM.out _ w' E0 c2).mono ?_;; rintro e w1 ⟨he, hx1⟩;; subst he", '.bool true'), ('op', 74, [6], '.bool false')], 'W': [('E0', "Ext W10 w'", 'Below.drew (Below.refl _ _)')], 'over': {6: {'E0': 'ext_trans E0 hx1', 'C2': 'fun h => (C2 (by simpa using h)).ext hx1'}}}
  refine wp_region_any (by kernel_rfl) ?_
  change wpAny _ _ _ _ _ _ _ (World.drew _)
  refine wpAny_inv (n := 8) [67, 68, 69, 70, 71, 72, 73, 74] (fun u L w' =>
      (L 0 = true → u 67 = mv) ∧
      (L 1 = true → u 68 = .pointer (some ⟨p, 0, none⟩)) ∧
      (L 2 = true → SlB w' (u 69) (chainR zero32 Ls)) ∧
      (L 3 = true → u 70 = .slice aa Ls.length ac) ∧
      (L 4 = true → u 71 = .int .i64 (k : Int)) ∧
      (L 5 = true → u 72 = .slice da (Ls.length - k) dc) ∧
      (L 6 = true → u 73 = .bool true) ∧
      (L 7 = true → u 74 = .bool false) ∧
      (Ext W10 w'))
    (by rfl) (by kernel_rfl) (by kernel_rfl) (by rfl) ?_ ?_ ?_
  · exact ⟨(fun h => by cases h), (fun h => by cases h), (fun h => by cases h), (fun h => by cases h), (fun h => by cases h), (fun h => by cases h), (fun h => by cases h), (fun h => by cases h), Below.drew (Below.refl _ _)⟩
  · refine ⟨⟨⟨⟨⟨⟨⟨⟨trivial, ?_⟩, ?_⟩, ?_⟩, ?_⟩, ?_⟩, ?_⟩, ?_⟩, ?_⟩
    · refine stepOk_some (i := 0) (by rfl) (by rfl) ?_
      rintro u L T w' hT hu hL hp hcl ⟨C0, C1, C2, C3, C4, C5, C6, C7, E0⟩ K hK
      have e1 : u 15 = mv := hu 15 (by decide)
      go_simp
      refine hK _ _ ?_
      exact ⟨fun _ => rfl, fun h => C1 (by simpa using h), fun h => C2 (by simpa using h), fun h => C3 (by simpa using h), fun h => C4 (by simpa using h), fun h => C5 (by simpa using h), fun h => C6 (by simpa using h), fun h => C7 (by simpa using h), E0⟩
    · refine stepOk_some (i := 1) (by rfl) (by rfl) ?_
      rintro u L T w' hT hu hL hp hcl ⟨C0, C1, C2, C3, C4, C5, C6, C7, E0⟩ K hK
      have e1 : u 9 = .pointer (some ⟨p, 0, none⟩) := hu 9 (by decide)
      go_simp
      refine hK _ _ ?_
      exact ⟨fun h => C0 (by simpa using h), fun _ => rfl, fun h => C2 (by simpa using h), fun h => C3 (by simpa using h), fun h => C4 (by simpa using h), fun h => C5 (by simpa using h), fun h => C6 (by simpa using h), fun h => C7 (by simpa using h), E0⟩
    · refine stepOk_some (i := 2) (by rfl) (by rfl) ?_
      rintro u L T w' hT hu hL hp hcl ⟨C0, C1, C2, C3, C4, C5, C6, C7, E0⟩ K hK
      have e1 := C1 (hp.of 1 (by kernel_rfl))
      go_simp
      refine Calls.mono (HCH.out w' (ext_trans HX10.out E0)) ?_
      rintro e w1 ⟨v1, he, hr1, hx1⟩
      subst he
      refine hK _ _ ?_
      exact ⟨fun h => C0 (by simpa using h), fun h => C1 (by simpa using h), fun _ => hr1, fun h => C3 (by simpa using h), fun h => C4 (by simpa using h), fun h => C5 (by simpa using h), fun h => C6 (by simpa using h), fun h => C7 (by simpa using h), ext_trans (E0) hx1⟩
    · refine stepOk_some (i := 3) (by rfl) (by rfl) ?_
      rintro u L T w' hT hu hL hp hcl ⟨C0, C1, C2, C3, C4, C5, C6, C7, E0⟩ K hK
      have e1 : u 12 = .slice aa Ls.length ac := hu 12 (by decide)
      go_simp
      refine hK _ _ ?_
      exact ⟨fun h => C0 (by simpa using h), fun h => C1 (by simpa using h), fun h => C2 (by simpa using h), fun _ => rfl, fun h => C4 (by simpa using h), fun h => C5 (by simpa using h), fun h => C6 (by simpa using h), fun h => C7 (by simpa using h), E0⟩
    · refine stepOk_some (i := 4) (by rfl) (by rfl) ?_
      rintro u L T w' hT hu hL hp hcl ⟨C0, C1, C2, C3, C4, C5, C6, C7, E0⟩ K hK
      have e1 : u 14 = .int .i64 (k : Int) := hu 14 (by decide)
      go_simp
      refine hK _ _ ?_
      exact ⟨fun h => C0 (by simpa using h), fun h => C1 (by simpa using h), fun h => C2 (by simpa using h), fun h => C3 (by simpa using h), fun _ => rfl, fun h => C5 (by simpa using h), fun h => C6 (by simpa using h), fun h => C7 (by simpa using h), E0⟩
    · refine stepOk_some (i := 5) (by rfl) (by rfl) ?_
      rintro u L T w' hT hu hL hp hcl ⟨C0, C1, C2, C3, C4, C5, C6, C7, E0⟩ K hK
      have e3 := C3 (hp.of 3 (by kernel_rfl))
      have e4 := C4 (hp.of 4 (by kernel_rfl))
      go_simp
      try go_bits
      try (rw [if_neg (by omega)]; go_simp)
      try (rw [if_pos (by omega)]; go_simp)
      refine hK _ _ ?_
      exact ⟨fun h => C0 (by simpa using h), fun h => C1 (by simpa using h), fun h => C2 (by simpa using h), fun h => C3 (by simpa using h), fun h => C4 (by simpa using h), fun _ => rfl, fun h => C6 (by simpa using h), fun h => C7 (by simpa using h), E0⟩
    · refine stepOk_some (i := 6) (by rfl) (by rfl) ?_
      rintro u L T w' hT hu hL hp hcl ⟨C0, C1, C2, C3, C4, C5, C6, C7, E0⟩ K hK
      have e0 := C0 (hp.of 0 (by kernel_rfl))
      have e5 := C5 (hp.of 5 (by kernel_rfl))
      have c2 := C2 (hp.of 2 (by kernel_rfl))
      have e2 := hT 69
      go_simp
      refine (HVM.out _ w' E0 c2).mono ?_
      rintro e w1 ⟨he, hx1⟩
      subst he
      refine hK _ _ ?_
      exact ⟨fun h => C0 (by simpa using h), fun h => C1 (by simpa using h), fun h => (C2 (by simpa using h)).ext hx1, fun h => C3 (by simpa using h), fun h => C4 (by simpa using h), fun h => C5 (by simpa using h), fun _ => rfl, fun h => C7 (by simpa using h), ext_trans E0 hx1⟩
    · refine stepOk_some (i := 7) (by rfl) (by rfl) ?_
      rintro u L T w' hT hu hL hp hcl ⟨C0, C1, C2, C3, C4, C5, C6, C7, E0⟩ K hK
      have e6 := C6 (hp.of 6 (by kernel_rfl))
      go_simp
      try go_bits
      try (rw [if_neg (by omega)]; go_simp)
      try (rw [if_pos (by omega)]; go_simp)
      refine hK _ _ ?_
      exact ⟨fun h => C0 (by simpa using h), fun h => C1 (by simpa using h), fun h => C2 (by simpa using h), fun h => C3 (by simpa using h), fun h => C4 (by simpa using h), fun h => C5 (by simpa using h), fun h => C6 (by simpa using h), fun _ => rfl, E0⟩
  · rintro u L w' hall hu ⟨C0, C1, C2, C3, C4, C5, C6, C7, E0⟩
    replace C0 := C0 (hall 0 (by omega))
    replace C1 := C1 (hall 1 (by omega))
    replace C2 := C2 (hall 2 (by omega))
    replace C3 := C3 (hall 3 (by omega))
    replace C4 := C4 (hall 4 (by omega))
    replace C5 := C5 (hall 5 (by omega))
    replace C6 := C6 (hall 6 (by omega))
    replace C7 := C7 (hall 7 (by omega))
    simp only [fill, List.setIfInBounds_toArray, List.set_cons_succ, List.set_cons_zero, C0, C1, C3, C4, C5, C6, C7]
    generalize u 69 = s0 at *
    clear C0 C1 C2 C3 C4 C5 C6 C7 hu hall
  -- end inv
    rename World => Wc
    clear hds
    have HX11 := Lib.hid (ext_trans HX10.out E0)
    have HA11 := Lib.hid (HA10.out.ext E0); have HN11 := Lib.hid (HN10.out.ext E0)
    have HCL := Lib.hid (cloneE_any _ Ls Wc HA11.out (by omega))
    go_wp2_with fail
    refine HCL.out.mono ?_
    rintro e W12 ⟨ov, rfl, ho12, hx12⟩
    have HX12 := Lib.hid hx12
    have hsplit := split_at' Ls k hkn
    have HSP := Lib.hid hsplit
    have hevok := HOK.out (Ls.getD k evD) (by simp [List.getD, hkn])
    have hevr : (Ls.getD k evD).right = true := (HG.out k _ (by simp [List.getD, hkn])).1
    have hkl : (Ls.take k).length = k := by rw [List.length_take]; omega
    have hdl : (Ls.drop (k + 1)).length + (k + 1) = Ls.length := by rw [List.length_drop]; omega
    have ho12' := (congrArg (fun l => OwnE Wc.heap.size ov l W12) hsplit).mp ho12
    have HO12 := Lib.hid ho12; have HO12' := Lib.hid ho12'
    clear ho12 ho12' hx12 HCL hsplit hk hk' 
    generalize hev : Ls.getD k evD = ev at *
    have hj : jr = 0 ∨ jr = 1 ∨ jr = 2 := by omega
    rcases hj with rfl | rfl | rfl
    · have hj0 : jj.tmod 3 = 0 := hjr
      have hj0' : jj % 3 = 0 := hjr'
      have HD := Lib.hid (delete_any Wc.heap.size ov (Ls.take k) ev (Ls.drop (k + 1)) k hkl W12 HO12'.out)
      clear hjr hjr'
      go_wp2_with fail
      refine HD.out.mono ?_
      rintro e W13 ⟨ov3, rfl, ho13, hbel⟩
      have hes : ∀ e ∈ Ls.take k ++ Ls.drop (k + 1), e.ok := fun e he => by
        rcases List.mem_append.1 he with he | he
        · exact HOK.out e (List.mem_of_mem_take he)
        · exact HOK.out e (List.mem_of_mem_drop he)
      have hel : (Ls.take k ++ Ls.drop (k + 1)).length ≤ 41 := by rw [List.length_append]; omega
      generalize Ls.take k ++ Ls.drop (k + 1) = es at *
      have HO := Lib.hid ho13; have HES := Lib.hid hes
      have HXE := Lib.hid (show Ext Wc W13 from Below.trans HX12.out hbel)
      clear ho13 hes hbel HO12 HO12' HX12 HSP hevok
      obtain ⟨oa, oc, rfl, -⟩ := id HO.out.row
      have HR := Lib.hid HO.out.row
      have HX13 := Lib.hid (ext_trans HX11.out HXE.out)
      have HN13 := Lib.hid (HN11.out.ext HXE.out)
      go_wp2_with fail
      go_loopw [17, 109] (fun v i wr => ∃ k2 : Nat, k2 ≤ es.length ∧ i = .int .i64 k2 ∧ v = .bool ((es.take k2).all Ev.right) ∧ Ext W13 wr) (fun _ i _ => es.length - (intOf i).toNat)
      case atStart => exact ⟨0, by omega, rfl, rfl, ext_refl _⟩
      case round =>
        obtain ⟨k2, hk2, rfl, rfl, hx⟩ := hrel
        obtain ⟨ba, hba⟩ : ∃ ba, (es.take k2).all Ev.right = ba := ⟨_, rfl⟩
        by_cases hlt : k2 < es.length
        · obtain ⟨g2, o2, cap2, hv2, hcl2⟩ := row_cells ((HR.out).ext hx) (by intro h; rw [h] at hlt; simp at hlt)
          cases hv2
          obtain ⟨d0, d1, d2, d3, d4⟩ := hcl2 k2 hlt
          have hix2 := index_ev g2 o2 es.length oc k2 hlt
          have hgl2 : g2 < wr.heap.size := by
            have := d0
            unfold World.cell? at this
            exact Nat.lt_of_not_le fun h => by rw [Array.getElem?_eq_none h] at this; cases this
          have hvok := HES.out (es.getD k2 evD) (by simp [List.getD, hlt])
          have hall : (es.take (k2 + 1)).all Ev.right = (ba && (es.getD k2 evD).right) := by rw [take_evs' es k2 hlt, List.all_append, hba]; simp
          have HRL := Lib.hid (fun W => rline_any (es.getD k2 evD) hvok W)
          clear hcl2 hvok
          generalize es.getD k2 evD = xe at *
          obtain ⟨b, hb⟩ : ∃ b, xe.right = b := ⟨_, rfl⟩
          rw [hb] at HRL hall
          rw [show evC xe = #[.int .u64 (xe.n : Int), .int .u64 (xe.tk : Int), Str xe.kind, .int .i64 xe.conn, Str xe.text] from rfl] at HRL
          have HALL := Lib.hid hall
          clear hb hall
          obtain ⟨ln, hln⟩ : ∃ ln, xe.line = ln := ⟨_, rfl⟩
          rw [hln] at HRL
          clear hln
          obtain ⟨xn, xk, xkind, xconn, xtext⟩ := xe
          simp only at d0 d1 d2 d3 d4 HRL
          obtain ⟨Wb, hWb⟩ : ∃ Wb, wr.alloc (.cells #[.int .u64 (xn : Int), .int .u64 (xk : Int), Str xkind, .int .i64 xconn, Str xtext] 37) = Wb := ⟨_, rfl⟩
          have hxb : Ext wr Wb := by rw [← hWb]; exact Below.alloc (Below.refl _ _) (Nat.le_refl _) _
          have hbb : Wb.heap[wr.heap.size]? = some (.cells #[.int .u64 (xn : Int), .int .u64 (xk : Int), Str xkind, .int .i64 xconn, Str xtext] 37 (0, 0)) := by rw [← hWb]; exact Array.getElem?_push_size
          obtain ⟨q0, q1, q2, q3, q4⟩ := cells5 hbb
          have HXb := Lib.hid (ext_trans hx hxb)
          have HBA := Lib.hid hba
          rw [hba]
          clear hxb hbb hx hba
          go_wp2_with fail
          refine (HRL.out Wb).mono ?_
          rintro r W14 ⟨rfl, hx⟩
          have HX14 := Lib.hid (ext_trans HXb.out hx)
          clear hx HRL
          cases b with
          | false =>
            simp only [Bool.false_eq_true, if_false]
            go_wp2
            go_roundw
            case rel => exact ⟨k2 + 1, by omega, by go_num, by rw [HALL.out]; simp, HX14.out⟩
            case measure => simp [intOf]; omega
          | true =>
            simp only [if_true]
            go_wp2
            go_roundw
            case rel => exact ⟨k2 + 1, by omega, by go_num, by rw [HALL.out]; simp, HX14.out⟩
            case measure => simp [intOf]; omega
        · obtain rfl : k2 = es.length := by omega
          rw [List.take_length] at hba ⊢
          have HXr := Lib.hid (ext_trans HX13.out hx)
          have HNr := Lib.hid (HN13.out.ext hx); have HRr := Lib.hid (HR.out.ext hx)
          rw [hba]
          have HBAR := Lib.hid hba
          clear hx hba
          cases ba with
          | false =>
            have hvf : verB es zero32 (chainR zero32 Ls) = false := by unfold verB; rw [HBAR.out]; rfl
            go_wp2_with fail
            refine (HCH.out wr HXr.out).mono ?_
            rintro r W15 ⟨c15, rfl, hs15, hx⟩
            have HVL := Lib.hid (verify_any nv c15 (.slice oa es.length oc) zero32 (chainR zero32 Ls) (by simp [zero32]) es (by omega) HES.out W15 (HNr.out.ext hx) hs15 (HRr.out.ext hx) (HT.out.ext (ext_trans HX2.out (ext_trans HXr.out hx))))
            rw [hvf] at HVL
            have HX15 := Lib.hid (ext_trans HXr.out hx)
            clear hx hs15 hvf
            go_wp2_with fail
            refine HVL.out.mono ?_
            rintro r W16 ⟨rfl, hx⟩
            have HX16 := Lib.hid (ext_trans HX15.out hx)
            clear hx
            go_wp2
            go_ret
            exact ⟨rfl, ext_trans HX2.out HX16.out⟩
          | true =>
            obtain ⟨qe, hqe⟩ : ∃ qe, decide (chainR zero32 es = chainR zero32 Ls) = qe := ⟨_, rfl⟩
            have hvf : verB es zero32 (chainR zero32 Ls) = qe := by unfold verB; rw [HBAR.out, hqe]; rfl
            have hbq : (chainR zero32 es == chainR zero32 Ls) = qe := by rw [← hqe, Bool.eq_iff_iff]; simp
            have HQ := Lib.hid (And.intro hvf hbq)
            clear hvf hbq hqe
            have HBK := Lib.hid (back_any (.slice oa es.length oc) es (by omega) wr HRr.out)
            go_wp2_with fail
            refine HBK.out.mono ?_
            rintro r W14 ⟨bv, rfl, hob, hx⟩
            have HX14 := Lib.hid (ext_trans HXr.out hx)
            have HN14 := Lib.hid (HNr.out.ext hx); have HR14 := Lib.hid (HRr.out.ext hx)
            have HRC := Lib.hid (rchain_any nv bv zero32 es (by simp [zero32]) (by omega) HES.out W14 HN14.out (rowC_of_own evL_len hob) (HW.out.ext (ext_trans HX2.out HX14.out)))
            clear hx hob HBK
            go_wp2_with fail
            refine HRC.out.mono ?_
            rintro r W15 ⟨c15, rfl, hs15, hx⟩
            have HX15 := Lib.hid (ext_trans HX14.out hx)
            have HN15 := Lib.hid (HN14.out.ext hx); have HR15 := Lib.hid (HR14.out.ext hx); have HS15 := Lib.hid hs15
            clear hx hs15 HRC
            go_wp2_with fail
            refine (HCH.out W15 HX15.out).mono ?_
            rintro r W16 ⟨c16, rfl, hs16, hx⟩
            have HX16 := Lib.hid (ext_trans HX15.out hx)
            have HN16 := Lib.hid (HN15.out.ext hx); have HR16 := Lib.hid (HR15.out.ext hx)
            have HSM := Lib.hid (same_any c15 c16 _ _ W16 (HS15.out.ext hx) hs16)
            rw [HQ.out.2] at HSM
            clear hx hs16
            go_wp2_with fail
            refine HSM.out.mono ?_
            rintro r W17 ⟨rfl, hw17⟩
            subst W17
            go_wp2_with fail
            refine (HCH.out W16 HX16.out).mono ?_
            rintro r W18 ⟨c18, rfl, hs18, hx⟩
            have HVL := Lib.hid (verify_any nv c18 (.slice oa es.length oc) zero32 (chainR zero32 Ls) (by simp [zero32]) es (by omega) HES.out W18 (HN16.out.ext hx) hs18 (HR16.out.ext hx) (HT.out.ext (ext_trans HX2.out (ext_trans HX16.out hx))))
            rw [HQ.out.1] at HVL
            have HX18 := Lib.hid (ext_trans HX16.out hx)
            clear hx hs18
            go_wp2_with fail
            refine HVL.out.mono ?_
            rintro r W19 ⟨rfl, hx⟩
            have HX19 := Lib.hid (ext_trans HX18.out hx)
            clear hx
            cases qe <;> (go_wp2; go_ret; exact ⟨rfl, ext_trans HX2.out HX19.out⟩)
    · have hj0 : jj.tmod 3 = 1 := hjr
      have hj0' : jj % 3 = 1 := hjr'
      clear hjr hjr' hevr
      obtain ⟨g3, o3, cap3, hv3, hcl3⟩ := row_cells (HA11.out.ext HX12.out) hL0
      cases hv3
      obtain ⟨d0, d1, d2, d3, d4⟩ := hcl3 k hkn
      rw [hev] at d0 d1 d2 d3 d4
      have hix3 := index_ev g3 o3 Ls.length ac k hkn
      have hgl3 : g3 < W12.heap.size := by
        have := d0
        unfold World.cell? at this
        exact Nat.lt_of_not_le fun h => by rw [Array.getElem?_eq_none h] at this; cases this
      have hes : ∀ e ∈ Ls.take k ++ ev :: Ls.drop k, e.ok := fun e he => by
        rcases List.mem_append.1 he with he | he
        · exact HOK.out e (List.mem_of_mem_take he)
        · rcases List.mem_cons.1 he with rfl | he
          · exact hevok
          · exact HOK.out e (List.mem_of_mem_drop he)
      have hel : (Ls.take k ++ ev :: Ls.drop k).length ≤ 41 := by rw [List.length_append, List.length_cons, List.length_drop]; omega
      clear hcl3 hev
      obtain ⟨en, ek, ekind, econn, etext⟩ := ev
      simp only at d0 d1 d2 d3 d4
      obtain ⟨Wb, hWb⟩ : ∃ Wb, W12.alloc (.cells #[.int .u64 (en : Int), .int .u64 (ek : Int), Str ekind, .int .i64 econn, Str etext] 37) = Wb := ⟨_, rfl⟩
      have hxb : Ext W12 Wb := by rw [← hWb]; exact Below.alloc (Below.refl _ _) (Nat.le_refl _) _
      have hbb : Wb.heap[W12.heap.size]? = some (.cells (evL ⟨en, ek, ekind, econn, etext⟩).toArray 37 (0, 0)) := by rw [← hWb]; exact Array.getElem?_push_size
      have HD := Lib.hid (insert_any Wc.heap.size ov (Ls.take k) ⟨en, ek, ekind, econn, etext⟩ (Ls.drop k) k hkl (by rw [List.length_drop]; omega) (by rw [List.take_append_drop]; omega) W12.heap.size Wb (Nat.le_trans HX12.out.size hxb.size)
        ((congrArg (fun l => OwnE Wc.heap.size ov l Wb) (List.take_append_drop k Ls).symm).mp (HO12.out.ext hxb)) hbb (fun e => by have := (own_lt HO12.out e).2.1; omega))
      have HXB := Lib.hid (show Below Wc.heap.size W12 Wb from hxb.mono HX12.out.size)
      clear hxb hbb
      go_wp2_with fail
      clear hWb
      refine HD.out.mono ?_
      rintro e W13 ⟨ov3, rfl, ho13, hbel⟩
      replace hbel := Below.trans HXB.out hbel
      generalize Ls.take k ++ (⟨en, ek, ekind, econn, etext⟩ : Ev) :: Ls.drop k = es at *
      have HO := Lib.hid ho13; have HES := Lib.hid hes
      have HXE := Lib.hid (show Ext Wc W13 from Below.trans HX12.out hbel)
      clear ho13 hes hbel HO12 HO12' HX12 HSP hevok
      obtain ⟨oa, oc, rfl, -⟩ := id HO.out.row
      have HR := Lib.hid HO.out.row
      have HX13 := Lib.hid (ext_trans HX11.out HXE.out)
      have HN13 := Lib.hid (HN11.out.ext HXE.out)
      go_wp2_with fail
      go_loopw [17, 109] (fun v i wr => ∃ k2 : Nat, k2 ≤ es.length ∧ i = .int .i64 k2 ∧ v = .bool ((es.take k2).all Ev.right) ∧ Ext W13 wr) (fun _ i _ => es.length - (intOf i).toNat)
      case atStart => exact ⟨0, by omega, rfl, rfl, ext_refl _⟩
      case round =>
        obtain ⟨k2, hk2, rfl, rfl, hx⟩ := hrel
        obtain ⟨ba, hba⟩ : ∃ ba, (es.take k2).all Ev.right = ba := ⟨_, rfl⟩
        by_cases hlt : k2 < es.length
        · obtain ⟨g2, o2, cap2, hv2, hcl2⟩ := row_cells ((HR.out).ext hx) (by intro h; rw [h] at hlt; simp at hlt)
          cases hv2
          obtain ⟨d0, d1, d2, d3, d4⟩ := hcl2 k2 hlt
          have hix2 := index_ev g2 o2 es.length oc k2 hlt
          have hgl2 : g2 < wr.heap.size := by
            have := d0
            unfold World.cell? at this
            exact Nat.lt_of_not_le fun h => by rw [Array.getElem?_eq_none h] at this; cases this
          have hvok := HES.out (es.getD k2 evD) (by simp [List.getD, hlt])
          have hall : (es.take (k2 + 1)).all Ev.right = (ba && (es.getD k2 evD).right) := by rw [take_evs' es k2 hlt, List.all_append, hba]; simp
          have HRL := Lib.hid (fun W => rline_any (es.getD k2 evD) hvok W)
          clear hcl2 hvok
          generalize es.getD k2 evD = xe at *
          obtain ⟨b, hb⟩ : ∃ b, xe.right = b := ⟨_, rfl⟩
          rw [hb] at HRL hall
          rw [show evC xe = #[.int .u64 (xe.n : Int), .int .u64 (xe.tk : Int), Str xe.kind, .int .i64 xe.conn, Str xe.text] from rfl] at HRL
          have HALL := Lib.hid hall
          clear hb hall
          obtain ⟨ln, hln⟩ : ∃ ln, xe.line = ln := ⟨_, rfl⟩
          rw [hln] at HRL
          clear hln
          obtain ⟨xn, xk, xkind, xconn, xtext⟩ := xe
          simp only at d0 d1 d2 d3 d4 HRL
          obtain ⟨Wb, hWb⟩ : ∃ Wb, wr.alloc (.cells #[.int .u64 (xn : Int), .int .u64 (xk : Int), Str xkind, .int .i64 xconn, Str xtext] 37) = Wb := ⟨_, rfl⟩
          have hxb : Ext wr Wb := by rw [← hWb]; exact Below.alloc (Below.refl _ _) (Nat.le_refl _) _
          have hbb : Wb.heap[wr.heap.size]? = some (.cells #[.int .u64 (xn : Int), .int .u64 (xk : Int), Str xkind, .int .i64 xconn, Str xtext] 37 (0, 0)) := by rw [← hWb]; exact Array.getElem?_push_size
          obtain ⟨q0, q1, q2, q3, q4⟩ := cells5 hbb
          have HXb := Lib.hid (ext_trans hx hxb)
          have HBA := Lib.hid hba
          rw [hba]
          clear hxb hbb hx hba
          go_wp2_with fail
          refine (HRL.out Wb).mono ?_
          rintro r W14 ⟨rfl, hx⟩
          have HX14 := Lib.hid (ext_trans HXb.out hx)
          clear hx HRL
          cases b with
          | false =>
            simp only [Bool.false_eq_true, if_false]
            go_wp2
            go_roundw
            case rel => exact ⟨k2 + 1, by omega, by go_num, by rw [HALL.out]; simp, HX14.out⟩
            case measure => simp [intOf]; omega
          | true =>
            simp only [if_true]
            go_wp2
            go_roundw
            case rel => exact ⟨k2 + 1, by omega, by go_num, by rw [HALL.out]; simp, HX14.out⟩
            case measure => simp [intOf]; omega
        · obtain rfl : k2 = es.length := by omega
          rw [List.take_length] at hba ⊢
          have HXr := Lib.hid (ext_trans HX13.out hx)
          have HNr := Lib.hid (HN13.out.ext hx); have HRr := Lib.hid (HR.out.ext hx)
          rw [hba]
          have HBAR := Lib.hid hba
          clear hx hba
          cases ba with
          | false =>
            have hvf : verB es zero32 (chainR zero32 Ls) = false := by unfold verB; rw [HBAR.out]; rfl
            go_wp2_with fail
            refine (HCH.out wr HXr.out).mono ?_
            rintro r W15 ⟨c15, rfl, hs15, hx⟩
            have HVL := Lib.hid (verify_any nv c15 (.slice oa es.length oc) zero32 (chainR zero32 Ls) (by simp [zero32]) es (by omega) HES.out W15 (HNr.out.ext hx) hs15 (HRr.out.ext hx) (HT.out.ext (ext_trans HX2.out (ext_trans HXr.out hx))))
            rw [hvf] at HVL
            have HX15 := Lib.hid (ext_trans HXr.out hx)
            clear hx hs15 hvf
            go_wp2_with fail
            refine HVL.out.mono ?_
            rintro r W16 ⟨rfl, hx⟩
            have HX16 := Lib.hid (ext_trans HX15.out hx)
            clear hx
            go_wp2
            go_ret
            exact ⟨rfl, ext_trans HX2.out HX16.out⟩
          | true =>
            obtain ⟨qe, hqe⟩ : ∃ qe, decide (chainR zero32 es = chainR zero32 Ls) = qe := ⟨_, rfl⟩
            have hvf : verB es zero32 (chainR zero32 Ls) = qe := by unfold verB; rw [HBAR.out, hqe]; rfl
            have hbq : (chainR zero32 es == chainR zero32 Ls) = qe := by rw [← hqe, Bool.eq_iff_iff]; simp
            have HQ := Lib.hid (And.intro hvf hbq)
            clear hvf hbq hqe
            have HBK := Lib.hid (back_any (.slice oa es.length oc) es (by omega) wr HRr.out)
            go_wp2_with fail
            refine HBK.out.mono ?_
            rintro r W14 ⟨bv, rfl, hob, hx⟩
            have HX14 := Lib.hid (ext_trans HXr.out hx)
            have HN14 := Lib.hid (HNr.out.ext hx); have HR14 := Lib.hid (HRr.out.ext hx)
            have HRC := Lib.hid (rchain_any nv bv zero32 es (by simp [zero32]) (by omega) HES.out W14 HN14.out (rowC_of_own evL_len hob) (HW.out.ext (ext_trans HX2.out HX14.out)))
            clear hx hob HBK
            go_wp2_with fail
            refine HRC.out.mono ?_
            rintro r W15 ⟨c15, rfl, hs15, hx⟩
            have HX15 := Lib.hid (ext_trans HX14.out hx)
            have HN15 := Lib.hid (HN14.out.ext hx); have HR15 := Lib.hid (HR14.out.ext hx); have HS15 := Lib.hid hs15
            clear hx hs15 HRC
            go_wp2_with fail
            refine (HCH.out W15 HX15.out).mono ?_
            rintro r W16 ⟨c16, rfl, hs16, hx⟩
            have HX16 := Lib.hid (ext_trans HX15.out hx)
            have HN16 := Lib.hid (HN15.out.ext hx); have HR16 := Lib.hid (HR15.out.ext hx)
            have HSM := Lib.hid (same_any c15 c16 _ _ W16 (HS15.out.ext hx) hs16)
            rw [HQ.out.2] at HSM
            clear hx hs16
            go_wp2_with fail
            refine HSM.out.mono ?_
            rintro r W17 ⟨rfl, hw17⟩
            subst W17
            go_wp2_with fail
            refine (HCH.out W16 HX16.out).mono ?_
            rintro r W18 ⟨c18, rfl, hs18, hx⟩
            have HVL := Lib.hid (verify_any nv c18 (.slice oa es.length oc) zero32 (chainR zero32 Ls) (by simp [zero32]) es (by omega) HES.out W18 (HN16.out.ext hx) hs18 (HR16.out.ext hx) (HT.out.ext (ext_trans HX2.out (ext_trans HX16.out hx))))
            rw [HQ.out.1] at HVL
            have HX18 := Lib.hid (ext_trans HX16.out hx)
            clear hx hs18
            go_wp2_with fail
            refine HVL.out.mono ?_
            rintro r W19 ⟨rfl, hx⟩
            have HX19 := Lib.hid (ext_trans HX18.out hx)
            clear hx
            cases qe <;> (go_wp2; go_ret; exact ⟨rfl, ext_trans HX2.out HX19.out⟩)
    · have hj0 : jj.tmod 3 = 2 := hjr
      have hj0' : jj % 3 = 2 := hjr'
      clear hjr hjr' hev
      obtain ⟨g, cap, tl, hov, hBg, hg, hnc, hcm, htl⟩ := ownE_open HO12.out hL0
      subst hov
      obtain ⟨en, ek, ekind, econn, et⟩ := ev
      have het : et.length ≤ 200 := by
        simp only [Ev.right, Bool.and_eq_true, decide_eq_true_eq] at hevr
        exact hevr.1.1.2
      obtain ⟨FA, hFA⟩ : ∃ FA, (Ls.take k).flatMap evL = FA := ⟨_, rfl⟩
      obtain ⟨FC, hFC⟩ : ∃ FC, (Ls.drop (k + 1)).flatMap evL = FC := ⟨_, rfl⟩
      have hFAl : FA.length = k * 5 := by rw [← hFA, flatE_len, hkl]
      have hcur : Ls.flatMap evL ++ tl = FA ++ (evL ⟨en, ek, ekind, econn, et⟩ ++ (FC ++ tl)) := by
        rw [← hFA, ← hFC]
        conv => lhs; rw [HSP.out]
        simp
      rw [hcur] at hg
      have hc4 : ∀ W : World, W.heap[g]? = some (.cells (FA ++ (evL ⟨en, ek, ekind, econn, et⟩ ++ (FC ++ tl))).toArray 37 (0, 0)) → W.cell? ⟨g, 5 * k + 4, none⟩ = some (Str et) := fun W hW => by
        rw [cell_list hW, List.getElem?_append_right (by omega), show 5 * k + 4 - FA.length = 4 by omega]
        simp [evL]
      have hix3 : ∀ W, (Instr.indexAt 35 (.slice (some ⟨g, 0, none⟩) Ls.length cap) (.int .i64 (k : Int))).run Tryd.prog W = .ok (.pointer (some ⟨g, 5 * k, none⟩)) W := fun W => (index_ev g 0 Ls.length cap k hkn W).trans (by rw [Nat.zero_add])
      have HC4 := Lib.hid hc4; have HG12 := Lib.hid hg
      have hBs := HX12.out.size
      have HF := Lib.hid (show _ ∧ _ ∧ _ ∧ _ ∧ _ ∧ _ from ⟨hFA, hFC, hcm, htl, hFAl, hnc⟩)
      have hok2 : (⟨en, ek, ekind, econn, et ++ [b8]⟩ : Ev).ok := ⟨hevok.n, hevok.tk, hevok.lo, hevok.hi, hevok.kind, by show (et ++ [b8]).length ≤ 1000; rw [List.length_append]; simp; omega⟩
      have HOK2 := Lib.hid hok2
      clear hc4 hg hFA hFC hcm htl hFAl hcur hevr hok2
      go_wp2_with fail
      -- inv {'ops': [('mv', 79, 16, '.slice (some ⟨g, 0, none⟩) Ls.length cap'), ('mv', 80, 14, '.int .i64 (k : Int)'), ('op', 81, [0, 1], '.pointer (some ⟨g, 5 * k, none⟩)'), ('op', 82, [2], '.pointer (some ⟨g, 5 * k + 4, none⟩)'), ('lf', 83, 3, 'Str et', "have c1 := HC4.out w' (PP (hcl.not 11 (by kernel_rfl) hL))"), ('mv', 84, 3, '.int .u8 (b8.toNat : Int)'), ('callx', 85, [5], "RAW:have e5 := C5 (hp.of 5 (by kernel_rfl));; have t5 := hT 84;; rw [e5] at t5;; go_simp;; have hx1 : Ext w' (w'.alloc (.cells #[.int .u8 (b8.toNat : Int)] 5)) := Below.alloc (Below.refl _ _) (Nat.le_refl _) _;; have hr1 := one_sl w' b8", "SlB w' (u 85) [b8]", 7), ('raw', 86, [], 'have c6 := C6 (hp.of 6 (by kernel_rfl)) hL;; have e6 := hT 85;; have hcv := str_of_sl c6;; go_simp', 'Str [b8]'), ('op', 87, [4, 7], 'Str (et ++ [b8])'), ('op', 88, [0, 1], '.pointer (some ⟨g, 5 * k, none⟩)'), ('op', 89, [9], '.pointer (some ⟨g, 5 * k + 4, none⟩)'), ('raw', None, [8, 10], "have c1 := HC4.out w' (PP hL);; have hfr : w'.frozen? ⟨g, 5 * k + 4, none⟩ = false := by simp [World.frozen?, PP hL];; go_simp", None)], 'W': [('PP', "L 11 = false → w'.heap[g]? = some (.cells (FA ++ (evL ⟨en, ek, ekind, econn, et⟩ ++ (FC ++ tl))).toArray 37 (0, 0))", '(fun _ => HG12.out)'), ('PQ', "L 11 = true → w'.heap[g]? = some (.cells (FA ++ (evL ⟨en, ek, ekind, econn, et ++ [b8]⟩ ++ (FC ++ tl))).toArray 37 (0, 0))", '(fun h => by cases h)'), ('E0', "Below Wc.heap.size W12 w'", 'Below.drew (Below.refl _ _)')], 'over': {6: {'PP': 'fun h => ext_at hx1 (PP (by simpa using h))', 'PQ': 'fun h => ext_at hx1 (PQ (by simpa using h))', 'E0': 'E0.trans (hx1.mono (Nat.le_trans hBs E0.size))'}, 11: {'PP': 'fun h => by simp at h', 'PQ': 'fun _ => (set_atE (PP hL) (5 * k + 4) (Str (et ++ [b8]))).trans (by rw [set_text FA (FC ++ tl) k en ek ekind econn et (et ++ [b8]) HF.out.2.2.2.2.1])', 'E0': 'E0.setCell (p := ⟨g, 5 * k + 4, none⟩) hBg _', 'C6': 'fun h h2 => (by have h3 := hcl.not 8 (by kernel_rfl) (show L 7 = false by simpa using h2); have h4 := hp.of 8 (by kernel_rfl); rw [h3] at h4; cases h4)'}}, 'fin': [('PQ', 11)]}
      refine wp_region_any (by kernel_rfl) ?_
      change wpAny _ _ _ _ _ _ _ (World.drew _)
      refine wpAny_inv (n := 12) [79, 80, 81, 82, 83, 84, 85, 86, 87, 88, 89] (fun u L w' =>
          (L 0 = true → u 79 = .slice (some ⟨g, 0, none⟩) Ls.length cap) ∧
          (L 1 = true → u 80 = .int .i64 (k : Int)) ∧
          (L 2 = true → u 81 = .pointer (some ⟨g, 5 * k, none⟩)) ∧
          (L 3 = true → u 82 = .pointer (some ⟨g, 5 * k + 4, none⟩)) ∧
          (L 4 = true → u 83 = Str et) ∧
          (L 5 = true → u 84 = .int .u8 (b8.toNat : Int)) ∧
          (L 6 = true → L 7 = false → SlB w' (u 85) [b8]) ∧
          (L 7 = true → u 86 = Str [b8]) ∧
          (L 8 = true → u 87 = Str (et ++ [b8])) ∧
          (L 9 = true → u 88 = .pointer (some ⟨g, 5 * k, none⟩)) ∧
          (L 10 = true → u 89 = .pointer (some ⟨g, 5 * k + 4, none⟩)) ∧
          (L 11 = false → w'.heap[g]? = some (.cells (FA ++ (evL ⟨en, ek, ekind, econn, et⟩ ++ (FC ++ tl))).toArray 37 (0, 0))) ∧
          (L 11 = true → w'.heap[g]? = some (.cells (FA ++ (evL ⟨en, ek, ekind, econn, et ++ [b8]⟩ ++ (FC ++ tl))).toArray 37 (0, 0))) ∧
          (Below Wc.heap.size W12 w'))
        (by rfl) (by kernel_rfl) (by kernel_rfl) (by rfl) ?_ ?_ ?_
      · exact ⟨(fun h => by cases h), (fun h => by cases h), (fun h => by cases h), (fun h => by cases h), (fun h => by cases h), (fun h => by cases h), (fun h => by cases h), (fun h => by cases h), (fun h => by cases h), (fun h => by cases h), (fun h => by cases h), (fun _ => HG12.out), (fun h => by cases h), Below.drew (Below.refl _ _)⟩
      · refine ⟨⟨⟨⟨⟨⟨⟨⟨⟨⟨⟨⟨trivial, ?_⟩, ?_⟩, ?_⟩, ?_⟩, ?_⟩, ?_⟩, ?_⟩, ?_⟩, ?_⟩, ?_⟩, ?_⟩, ?_⟩
        · refine stepOk_some (i := 0) (by rfl) (by rfl) ?_
          rintro u L T w' hT hu hL hp hcl ⟨C0, C1, C2, C3, C4, C5, C6, C7, C8, C9, C10, PP, PQ, E0⟩ K hK
          have e1 : u 16 = .slice (some ⟨g, 0, none⟩) Ls.length cap := hu 16 (by decide)
          go_simp
          refine hK _ _ ?_
          exact ⟨fun _ => rfl, fun h => C1 (by simpa using h), fun h => C2 (by simpa using h), fun h => C3 (by simpa using h), fun h => C4 (by simpa using h), fun h => C5 (by simpa using h), fun h h2 => C6 (by simpa using h) (by simpa using h2), fun h => C7 (by simpa using h), fun h => C8 (by simpa using h), fun h => C9 (by simpa using h), fun h => C10 (by simpa using h), fun h => PP (by simpa using h), fun h => PQ (by simpa using h), E0⟩
        · refine stepOk_some (i := 1) (by rfl) (by rfl) ?_
          rintro u L T w' hT hu hL hp hcl ⟨C0, C1, C2, C3, C4, C5, C6, C7, C8, C9, C10, PP, PQ, E0⟩ K hK
          have e1 : u 14 = .int .i64 (k : Int) := hu 14 (by decide)
          go_simp
          refine hK _ _ ?_
          exact ⟨fun h => C0 (by simpa using h), fun _ => rfl, fun h => C2 (by simpa using h), fun h => C3 (by simpa using h), fun h => C4 (by simpa using h), fun h => C5 (by simpa using h), fun h h2 => C6 (by simpa using h) (by simpa using h2), fun h => C7 (by simpa using h), fun h => C8 (by simpa using h), fun h => C9 (by simpa using h), fun h => C10 (by simpa using h), fun h => PP (by simpa using h), fun h => PQ (by simpa using h), E0⟩
        · refine stepOk_some (i := 2) (by rfl) (by rfl) ?_
          rintro u L T w' hT hu hL hp hcl ⟨C0, C1, C2, C3, C4, C5, C6, C7, C8, C9, C10, PP, PQ, E0⟩ K hK
          have e0 := C0 (hp.of 0 (by kernel_rfl))
          have e1 := C1 (hp.of 1 (by kernel_rfl))
          go_simp
          try go_bits
          try (rw [if_neg (by omega)]; go_simp)
          try (rw [if_pos (by omega)]; go_simp)
          refine hK _ _ ?_
          exact ⟨fun h => C0 (by simpa using h), fun h => C1 (by simpa using h), fun _ => rfl, fun h => C3 (by simpa using h), fun h => C4 (by simpa using h), fun h => C5 (by simpa using h), fun h h2 => C6 (by simpa using h) (by simpa using h2), fun h => C7 (by simpa using h), fun h => C8 (by simpa using h), fun h => C9 (by simpa using h), fun h => C10 (by simpa using h), fun h => PP (by simpa using h), fun h => PQ (by simpa using h), E0⟩
        · refine stepOk_some (i := 3) (by rfl) (by rfl) ?_
          rintro u L T w' hT hu hL hp hcl ⟨C0, C1, C2, C3, C4, C5, C6, C7, C8, C9, C10, PP, PQ, E0⟩ K hK
          have e2 := C2 (hp.of 2 (by kernel_rfl))
          go_simp
          try go_bits
          try (rw [if_neg (by omega)]; go_simp)
          try (rw [if_pos (by omega)]; go_simp)
          refine hK _ _ ?_
          exact ⟨fun h => C0 (by simpa using h), fun h => C1 (by simpa using h), fun h => C2 (by simpa using h), fun _ => rfl, fun h => C4 (by simpa using h), fun h => C5 (by simpa using h), fun h h2 => C6 (by simpa using h) (by simpa using h2), fun h => C7 (by simpa using h), fun h => C8 (by simpa using h), fun h => C9 (by simpa using h), fun h => C10 (by simpa using h), fun h => PP (by simpa using h), fun h => PQ (by simpa using h), E0⟩
        · refine stepOk_some (i := 4) (by rfl) (by rfl) ?_
          rintro u L T w' hT hu hL hp hcl ⟨C0, C1, C2, C3, C4, C5, C6, C7, C8, C9, C10, PP, PQ, E0⟩ K hK
          have e3 := C3 (hp.of 3 (by kernel_rfl))
          have c1 := HC4.out w' (PP (hcl.not 11 (by kernel_rfl) hL))
          go_simp
          refine hK _ _ ?_
          exact ⟨fun h => C0 (by simpa using h), fun h => C1 (by simpa using h), fun h => C2 (by simpa using h), fun h => C3 (by simpa using h), fun _ => rfl, fun h => C5 (by simpa using h), fun h h2 => C6 (by simpa using h) (by simpa using h2), fun h => C7 (by simpa using h), fun h => C8 (by simpa using h), fun h => C9 (by simpa using h), fun h => C10 (by simpa using h), fun h => PP (by simpa using h), fun h => PQ (by simpa using h), E0⟩
        · refine stepOk_some (i := 5) (by rfl) (by rfl) ?_
          rintro u L T w' hT hu hL hp hcl ⟨C0, C1, C2, C3, C4, C5, C6, C7, C8, C9, C10, PP, PQ, E0⟩ K hK
          have e1 : u 3 = .int .u8 (b8.toNat : Int) := hu 3 (by decide)
          go_simp
          refine hK _ _ ?_
          exact ⟨fun h => C0 (by simpa using h), fun h => C1 (by simpa using h), fun h => C2 (by simpa using h), fun h => C3 (by simpa using h), fun h => C4 (by simpa using h), fun _ => rfl, fun h h2 => C6 (by simpa using h) (by simpa using h2), fun h => C7 (by simpa using h), fun h => C8 (by simpa using h), fun h => C9 (by simpa using h), fun h => C10 (by simpa using h), fun h => PP (by simpa using h), fun h => PQ (by simpa using h), E0⟩
        · refine stepOk_some (i := 6) (by rfl) (by rfl) ?_
          rintro u L T w' hT hu hL hp hcl ⟨C0, C1, C2, C3, C4, C5, C6, C7, C8, C9, C10, PP, PQ, E0⟩ K hK
          have e5 := C5 (hp.of 5 (by kernel_rfl))
          have e5 := C5 (hp.of 5 (by kernel_rfl))
          have t5 := hT 84
          rw [e5] at t5
          go_simp
          have hx1 : Ext w' (w'.alloc (.cells #[.int .u8 (b8.toNat : Int)] 5)) := Below.alloc (Below.refl _ _) (Nat.le_refl _) _
          have hr1 := one_sl w' b8
          refine hK _ _ ?_
          exact ⟨fun h => C0 (by simpa using h), fun h => C1 (by simpa using h), fun h => C2 (by simpa using h), fun h => C3 (by simpa using h), fun h => C4 (by simpa using h), fun h => C5 (by simpa using h), fun _ _ => hr1, fun h => C7 (by simpa using h), fun h => C8 (by simpa using h), fun h => C9 (by simpa using h), fun h => C10 (by simpa using h), fun h => ext_at hx1 (PP (by simpa using h)), fun h => ext_at hx1 (PQ (by simpa using h)), E0.trans (hx1.mono (Nat.le_trans hBs E0.size))⟩
        · refine stepOk_some (i := 7) (by rfl) (by rfl) ?_
          rintro u L T w' hT hu hL hp hcl ⟨C0, C1, C2, C3, C4, C5, C6, C7, C8, C9, C10, PP, PQ, E0⟩ K hK
          have c6 := C6 (hp.of 6 (by kernel_rfl)) hL
          have e6 := hT 85
          have hcv := str_of_sl c6
          go_simp
          refine hK _ _ ?_
          exact ⟨fun h => C0 (by simpa using h), fun h => C1 (by simpa using h), fun h => C2 (by simpa using h), fun h => C3 (by simpa using h), fun h => C4 (by simpa using h), fun h => C5 (by simpa using h), fun h h2 => absurd h2 (by simp), fun _ => rfl, fun h => C8 (by simpa using h), fun h => C9 (by simpa using h), fun h => C10 (by simpa using h), fun h => PP (by simpa using h), fun h => PQ (by simpa using h), E0⟩
        · refine stepOk_some (i := 8) (by rfl) (by rfl) ?_
          rintro u L T w' hT hu hL hp hcl ⟨C0, C1, C2, C3, C4, C5, C6, C7, C8, C9, C10, PP, PQ, E0⟩ K hK
          have e4 := C4 (hp.of 4 (by kernel_rfl))
          have e7 := C7 (hp.of 7 (by kernel_rfl))
          go_simp
          try go_bits
          try (rw [if_neg (by omega)]; go_simp)
          try (rw [if_pos (by omega)]; go_simp)
          refine hK _ _ ?_
          exact ⟨fun h => C0 (by simpa using h), fun h => C1 (by simpa using h), fun h => C2 (by simpa using h), fun h => C3 (by simpa using h), fun h => C4 (by simpa using h), fun h => C5 (by simpa using h), fun h h2 => C6 (by simpa using h) (by simpa using h2), fun h => C7 (by simpa using h), fun _ => rfl, fun h => C9 (by simpa using h), fun h => C10 (by simpa using h), fun h => PP (by simpa using h), fun h => PQ (by simpa using h), E0⟩
        · refine stepOk_some (i := 9) (by rfl) (by rfl) ?_
          rintro u L T w' hT hu hL hp hcl ⟨C0, C1, C2, C3, C4, C5, C6, C7, C8, C9, C10, PP, PQ, E0⟩ K hK
          have e0 := C0 (hp.of 0 (by kernel_rfl))
          have e1 := C1 (hp.of 1 (by kernel_rfl))
          go_simp
          try go_bits
          try (rw [if_neg (by omega)]; go_simp)
          try (rw [if_pos (by omega)]; go_simp)
          refine hK _ _ ?_
          exact ⟨fun h => C0 (by simpa using h), fun h => C1 (by simpa using h), fun h => C2 (by simpa using h), fun h => C3 (by simpa using h), fun h => C4 (by simpa using h), fun h => C5 (by simpa using h), fun h h2 => C6 (by simpa using h) (by simpa using h2), fun h => C7 (by simpa using h), fun h => C8 (by simpa using h), fun _ => rfl, fun h => C10 (by simpa using h), fun h => PP (by simpa using h), fun h => PQ (by simpa using h), E0⟩
        · refine stepOk_some (i := 10) (by rfl) (by rfl) ?_
          rintro u L T w' hT hu hL hp hcl ⟨C0, C1, C2, C3, C4, C5, C6, C7, C8, C9, C10, PP, PQ, E0⟩ K hK
          have e9 := C9 (hp.of 9 (by kernel_rfl))
          go_simp
          try go_bits
          try (rw [if_neg (by omega)]; go_simp)
          try (rw [if_pos (by omega)]; go_simp)
          refine hK _ _ ?_
          exact ⟨fun h => C0 (by simpa using h), fun h => C1 (by simpa using h), fun h => C2 (by simpa using h), fun h => C3 (by simpa using h), fun h => C4 (by simpa using h), fun h => C5 (by simpa using h), fun h h2 => C6 (by simpa using h) (by simpa using h2), fun h => C7 (by simpa using h), fun h => C8 (by simpa using h), fun h => C9 (by simpa using h), fun _ => rfl, fun h => PP (by simpa using h), fun h => PQ (by simpa using h), E0⟩
        · refine stepOk_none (i := 11) (by rfl) (by rfl) ?_
          rintro u L T w' hT hu hL hp hcl ⟨C0, C1, C2, C3, C4, C5, C6, C7, C8, C9, C10, PP, PQ, E0⟩ K hK
          have e8 := C8 (hp.of 8 (by kernel_rfl))
          have e10 := C10 (hp.of 10 (by kernel_rfl))
          have c1 := HC4.out w' (PP hL)
          have hfr : w'.frozen? ⟨g, 5 * k + 4, none⟩ = false := by simp [World.frozen?, PP hL]
          go_simp
          refine hK _ ?_
          exact ⟨fun h => C0 (by simpa using h), fun h => C1 (by simpa using h), fun h => C2 (by simpa using h), fun h => C3 (by simpa using h), fun h => C4 (by simpa using h), fun h => C5 (by simpa using h), fun h h2 => (by have h3 := hcl.not 8 (by kernel_rfl) (show L 7 = false by simpa using h2); have h4 := hp.of 8 (by kernel_rfl); rw [h3] at h4; cases h4), fun h => C7 (by simpa using h), fun h => C8 (by simpa using h), fun h => C9 (by simpa using h), fun h => C10 (by simpa using h), fun h => by simp at h, fun _ => (set_atE (PP hL) (5 * k + 4) (Str (et ++ [b8]))).trans (by rw [set_text FA (FC ++ tl) k en ek ekind econn et (et ++ [b8]) HF.out.2.2.2.2.1]), E0.setCell (p := ⟨g, 5 * k + 4, none⟩) hBg _⟩
      · rintro u L w' hall hu ⟨C0, C1, C2, C3, C4, C5, C6, C7, C8, C9, C10, PP, PQ, E0⟩
        replace PQ := PQ (hall 11 (by omega))
        replace C0 := C0 (hall 0 (by omega))
        replace C1 := C1 (hall 1 (by omega))
        replace C2 := C2 (hall 2 (by omega))
        replace C3 := C3 (hall 3 (by omega))
        replace C4 := C4 (hall 4 (by omega))
        replace C5 := C5 (hall 5 (by omega))
        replace C7 := C7 (hall 7 (by omega))
        replace C8 := C8 (hall 8 (by omega))
        replace C9 := C9 (hall 9 (by omega))
        replace C10 := C10 (hall 10 (by omega))
        simp only [fill, List.setIfInBounds_toArray, List.set_cons_succ, List.set_cons_zero, C0, C1, C2, C3, C4, C5, C7, C8, C9, C10]
        generalize u 85 = s0 at *
        clear C0 C1 C2 C3 C4 C5 C6 C7 C8 C9 C10 hu hall
      -- end inv
        rename World => W13
        obtain ⟨hFA, hFC, hcm, htl, hFAl, hnc⟩ := HF.out
        have hes : ∀ e ∈ Ls.take k ++ (⟨en, ek, ekind, econn, et ++ [b8]⟩ : Ev) :: Ls.drop (k + 1), e.ok := fun e he => by
          rcases List.mem_append.1 he with he | he
          · exact HOK.out e (List.mem_of_mem_take he)
          · rcases List.mem_cons.1 he with rfl | he
            · exact HOK2.out
            · exact HOK.out e (List.mem_of_mem_drop he)
        have hell : (Ls.take k ++ (⟨en, ek, ekind, econn, et ++ [b8]⟩ : Ev) :: Ls.drop (k + 1)).length = Ls.length := by rw [List.length_append, List.length_cons]; omega
        have hel : (Ls.take k ++ (⟨en, ek, ekind, econn, et ++ [b8]⟩ : Ev) :: Ls.drop (k + 1)).length ≤ 41 := by omega
        have ho13 : OwnE Wc.heap.size (.slice (some ⟨g, 0, none⟩) (Ls.take k ++ (⟨en, ek, ekind, econn, et ++ [b8]⟩ : Ev) :: Ls.drop (k + 1)).length cap) (Ls.take k ++ (⟨en, ek, ekind, econn, et ++ [b8]⟩ : Ev) :: Ls.drop (k + 1)) W13 :=
          ownE_close (tl := tl) hBg (by rw [show (Ls.take k ++ (⟨en, ek, ekind, econn, et ++ [b8]⟩ : Ev) :: Ls.drop (k + 1)).flatMap evL ++ tl = FA ++ (evL ⟨en, ek, ekind, econn, et ++ [b8]⟩ ++ (FC ++ tl)) by rw [← hFA, ← hFC]; simp]; exact PQ) (by omega) hcm (by omega)
        rw [hell] at ho13
        have hbel := E0
        clear HF hFA hFC hcm htl hFAl hell PQ E0 HC4 HG12 hix3
        obtain ⟨ov3, hov3⟩ : ∃ ov3, Value.slice (some ⟨g, 0, none⟩) Ls.length cap = ov3 := ⟨_, rfl⟩
        rw [hov3] at ho13
        generalize Ls.take k ++ (⟨en, ek, ekind, econn, et ++ [b8]⟩ : Ev) :: Ls.drop (k + 1) = es at *
        try rw [hov3]
        have HO := Lib.hid ho13; have HES := Lib.hid hes
        have HXE := Lib.hid (show Ext Wc W13 from Below.trans HX12.out hbel)
        clear ho13 hes hbel HO12 HO12' HX12 HSP hevok
        obtain ⟨oa, oc, rfl, -⟩ := id HO.out.row
        have HR := Lib.hid HO.out.row
        have HX13 := Lib.hid (ext_trans HX11.out HXE.out)
        have HN13 := Lib.hid (HN11.out.ext HXE.out)
        go_wp2_with fail
        go_loopw [17, 109] (fun v i wr => ∃ k2 : Nat, k2 ≤ es.length ∧ i = .int .i64 k2 ∧ v = .bool ((es.take k2).all Ev.right) ∧ Ext W13 wr) (fun _ i _ => es.length - (intOf i).toNat)
        case atStart => exact ⟨0, by omega, rfl, rfl, ext_refl _⟩
        case round =>
          obtain ⟨k2, hk2, rfl, rfl, hx⟩ := hrel
          obtain ⟨ba, hba⟩ : ∃ ba, (es.take k2).all Ev.right = ba := ⟨_, rfl⟩
          by_cases hlt : k2 < es.length
          · obtain ⟨g2, o2, cap2, hv2, hcl2⟩ := row_cells ((HR.out).ext hx) (by intro h; rw [h] at hlt; simp at hlt)
            cases hv2
            obtain ⟨d0, d1, d2, d3, d4⟩ := hcl2 k2 hlt
            have hix2 := index_ev g2 o2 es.length oc k2 hlt
            have hgl2 : g2 < wr.heap.size := by
              have := d0
              unfold World.cell? at this
              exact Nat.lt_of_not_le fun h => by rw [Array.getElem?_eq_none h] at this; cases this
            have hvok := HES.out (es.getD k2 evD) (by simp [List.getD, hlt])
            have hall : (es.take (k2 + 1)).all Ev.right = (ba && (es.getD k2 evD).right) := by rw [take_evs' es k2 hlt, List.all_append, hba]; simp
            have HRL := Lib.hid (fun W => rline_any (es.getD k2 evD) hvok W)
            clear hcl2 hvok
            generalize es.getD k2 evD = xe at *
            obtain ⟨b, hb⟩ : ∃ b, xe.right = b := ⟨_, rfl⟩
            rw [hb] at HRL hall
            rw [show evC xe = #[.int .u64 (xe.n : Int), .int .u64 (xe.tk : Int), Str xe.kind, .int .i64 xe.conn, Str xe.text] from rfl] at HRL
            have HALL := Lib.hid hall
            clear hb hall
            obtain ⟨ln, hln⟩ : ∃ ln, xe.line = ln := ⟨_, rfl⟩
            rw [hln] at HRL
            clear hln
            obtain ⟨xn, xk, xkind, xconn, xtext⟩ := xe
            simp only at d0 d1 d2 d3 d4 HRL
            obtain ⟨Wb, hWb⟩ : ∃ Wb, wr.alloc (.cells #[.int .u64 (xn : Int), .int .u64 (xk : Int), Str xkind, .int .i64 xconn, Str xtext] 37) = Wb := ⟨_, rfl⟩
            have hxb : Ext wr Wb := by rw [← hWb]; exact Below.alloc (Below.refl _ _) (Nat.le_refl _) _
            have hbb : Wb.heap[wr.heap.size]? = some (.cells #[.int .u64 (xn : Int), .int .u64 (xk : Int), Str xkind, .int .i64 xconn, Str xtext] 37 (0, 0)) := by rw [← hWb]; exact Array.getElem?_push_size
            obtain ⟨q0, q1, q2, q3, q4⟩ := cells5 hbb
            have HXb := Lib.hid (ext_trans hx hxb)
            have HBA := Lib.hid hba
            rw [hba]
            clear hxb hbb hx hba
            go_wp2_with fail
            refine (HRL.out Wb).mono ?_
            rintro r W14 ⟨rfl, hx⟩
            have HX14 := Lib.hid (ext_trans HXb.out hx)
            clear hx HRL
            cases b with
            | false =>
              simp only [Bool.false_eq_true, if_false]
              go_wp2
              go_roundw
              case rel => exact ⟨k2 + 1, by omega, by go_num, by rw [HALL.out]; simp, HX14.out⟩
              case measure => simp [intOf]; omega
            | true =>
              simp only [if_true]
              go_wp2
              go_roundw
              case rel => exact ⟨k2 + 1, by omega, by go_num, by rw [HALL.out]; simp, HX14.out⟩
              case measure => simp [intOf]; omega
          · obtain rfl : k2 = es.length := by omega
            rw [List.take_length] at hba ⊢
            have HXr := Lib.hid (ext_trans HX13.out hx)
            have HNr := Lib.hid (HN13.out.ext hx); have HRr := Lib.hid (HR.out.ext hx)
            rw [hba]
            have HBAR := Lib.hid hba
            clear hx hba
            cases ba with
            | false =>
              have hvf : verB es zero32 (chainR zero32 Ls) = false := by unfold verB; rw [HBAR.out]; rfl
              go_wp2_with fail
              refine (HCH.out wr HXr.out).mono ?_
              rintro r W15 ⟨c15, rfl, hs15, hx⟩
              have HVL := Lib.hid (verify_any nv c15 (.slice oa es.length oc) zero32 (chainR zero32 Ls) (by simp [zero32]) es (by omega) HES.out W15 (HNr.out.ext hx) hs15 (HRr.out.ext hx) (HT.out.ext (ext_trans HX2.out (ext_trans HXr.out hx))))
              rw [hvf] at HVL
              have HX15 := Lib.hid (ext_trans HXr.out hx)
              clear hx hs15 hvf
              go_wp2_with fail
              refine HVL.out.mono ?_
              rintro r W16 ⟨rfl, hx⟩
              have HX16 := Lib.hid (ext_trans HX15.out hx)
              clear hx
              go_wp2
              go_ret
              exact ⟨rfl, ext_trans HX2.out HX16.out⟩
            | true =>
              obtain ⟨qe, hqe⟩ : ∃ qe, decide (chainR zero32 es = chainR zero32 Ls) = qe := ⟨_, rfl⟩
              have hvf : verB es zero32 (chainR zero32 Ls) = qe := by unfold verB; rw [HBAR.out, hqe]; rfl
              have hbq : (chainR zero32 es == chainR zero32 Ls) = qe := by rw [← hqe, Bool.eq_iff_iff]; simp
              have HQ := Lib.hid (And.intro hvf hbq)
              clear hvf hbq hqe
              have HBK := Lib.hid (back_any (.slice oa es.length oc) es (by omega) wr HRr.out)
              go_wp2_with fail
              refine HBK.out.mono ?_
              rintro r W14 ⟨bv, rfl, hob, hx⟩
              have HX14 := Lib.hid (ext_trans HXr.out hx)
              have HN14 := Lib.hid (HNr.out.ext hx); have HR14 := Lib.hid (HRr.out.ext hx)
              have HRC := Lib.hid (rchain_any nv bv zero32 es (by simp [zero32]) (by omega) HES.out W14 HN14.out (rowC_of_own evL_len hob) (HW.out.ext (ext_trans HX2.out HX14.out)))
              clear hx hob HBK
              go_wp2_with fail
              refine HRC.out.mono ?_
              rintro r W15 ⟨c15, rfl, hs15, hx⟩
              have HX15 := Lib.hid (ext_trans HX14.out hx)
              have HN15 := Lib.hid (HN14.out.ext hx); have HR15 := Lib.hid (HR14.out.ext hx); have HS15 := Lib.hid hs15
              clear hx hs15 HRC
              go_wp2_with fail
              refine (HCH.out W15 HX15.out).mono ?_
              rintro r W16 ⟨c16, rfl, hs16, hx⟩
              have HX16 := Lib.hid (ext_trans HX15.out hx)
              have HN16 := Lib.hid (HN15.out.ext hx); have HR16 := Lib.hid (HR15.out.ext hx)
              have HSM := Lib.hid (same_any c15 c16 _ _ W16 (HS15.out.ext hx) hs16)
              rw [HQ.out.2] at HSM
              clear hx hs16
              go_wp2_with fail
              refine HSM.out.mono ?_
              rintro r W17 ⟨rfl, hw17⟩
              subst W17
              go_wp2_with fail
              refine (HCH.out W16 HX16.out).mono ?_
              rintro r W18 ⟨c18, rfl, hs18, hx⟩
              have HVL := Lib.hid (verify_any nv c18 (.slice oa es.length oc) zero32 (chainR zero32 Ls) (by simp [zero32]) es (by omega) HES.out W18 (HN16.out.ext hx) hs18 (HR16.out.ext hx) (HT.out.ext (ext_trans HX2.out (ext_trans HX16.out hx))))
              rw [HQ.out.1] at HVL
              have HX18 := Lib.hid (ext_trans HX16.out hx)
              clear hx hs18
              go_wp2_with fail
              refine HVL.out.mono ?_
              rintro r W19 ⟨rfl, hx⟩
              have HX19 := Lib.hid (ext_trans HX18.out hx)
              clear hx
              cases qe <;> (go_wp2; go_ret; exact ⟨rfl, ext_trans HX2.out HX19.out⟩)
end Go.Proofs.YtpndahmlbjhdfaaDoor
