/-
  TraceKeeps: the law's walk.
-/
import Derived.Test.YtpndahmlbjhdfaaDoorRows
import Derived.Test.YtpndahmlbjhdfaaDoorTbu
import Derived.Test.YtpndahmlbjhdfaaDoorTbk
import Derived.Test.YtpndahmlbjhdfaaDoorTeq
import Derived.Test.YtpndahmlbjhdfaaDoorRkn
import Derived.Test.YtpndahmlbjhdfaaDoorTfi
import Derived.Test.YtpndahmlbjhdfaaDoorTgl
import Derived.Test.YtpndahmlbjhdfaaDoorKit
namespace Go.Proofs.YtpndahmlbjhdfaaDoor
open Go.RowKit
set_option maxRecDepth 100000
attribute [local go_sem] Oper.semAt_some
set_option linter.unusedVariables false
set_option linter.unusedSimpArgs false
set_option maxHeartbeats 2000000 in
theorem keeps_any (room : Int) (hr0 : 0 ≤ room) (hr1 : room ≤ 255) (v : Value) (os : List OpE) (hok : ∀ o ∈ os, o.ok) (since : Int) (hs0 : 0 ≤ since) (hs1 : since ≤ 18446744073709551615) (w : World) (hv : RowO w v os) (hT : Tw w) (hW : WordsAt w) :
    Calls Tryd.prog 3 #[.int .u8 room, v, .int .u64 since] w fun e w' => e = .returned (.bool true) ∧ Ext w w' := by
  obtain ⟨m, rfl⟩ : ∃ m : Nat, since = (m : Int) := ⟨since.toNat, by omega⟩
  obtain ⟨rr, hrr, hrr12⟩ : ∃ rr : Nat, room.tmod 12 = (rr : Int) ∧ rr < 12 := by
    refine ⟨(room % 12).toNat, ?_, ?_⟩
    · rw [Int.tmod_eq_emod_of_nonneg hr0]; omega
    · omega
  have hrr' : room % 12 = (rr : Int) := by rw [← Int.tmod_eq_emod_of_nonneg hr0]; exact hrr
  have HAW := Lib.hid (awake_law w hT)
  have HT := Lib.hid hT; have HW := Lib.hid hW; have HV := Lib.hid hv
  obtain ⟨ao, cap, rfl, -⟩ := id hv
  have HBU := Lib.hid (show ∀ W, Ext w W → Calls Tryd.prog 9 #[.int .i64 (1 + (rr : Int)), .slice ao os.length cap] W (BuildR (1 + rr) os W) from fun W (hx : Ext w W) => by
    have h := build_any (1 + rr) (by omega) (by omega) _ os hok W (hv.ext hx) (hT.ext hx)
    rw [show ((1 + rr : Nat) : Int) = 1 + (rr : Int) by omega] at h
    exact h)
  clear hT hW hv hok
  go_enter Tryd.func3, Tryd.ntmps3
  go_wp2_with (go_at_call 8; refine HAW.out.mono ?_; rintro e W1 ⟨rfl, hx1⟩)
  refine (HBU.out W1 hx1).mono ?_
  rintro e W2 ⟨p, q, lv, cv, xv, rfl, htr, hrf, hx2⟩
  have hg := bldL_good (os.take 40)
  have hLl : (bldL (os.take 40)).length ≤ 40 := by have := hg.2; rw [List.length_take] at this; omega
  have HG := Lib.hid hg.1
  have HX2 := Lib.hid (ext_trans hx1 hx2)
  clear hx1 hx2 hg HBU HAW
  generalize bldL (os.take 40) = Ls at *
  have HTR := Lib.hid htr; have HRF := Lib.hid hrf
  obtain ⟨kk, hkk⟩ : ∃ kk, 1 + rr = kk := ⟨_, rfl⟩
  rw [hkk] at HTR HRF
  have hk1 : 1 ≤ kk ∧ kk ≤ 12 := by omega
  have HKN := Lib.hid (fun W hx => known_any W1.heap.size q xv kk Ls (by omega) (by omega) W (HRF.out.ext hx))
  clear htr hrf hkk
  go_wp2_with fail
  refine (HKN.out W2 (ext_refl _)).mono ?_
  rintro e W3 ⟨yv, rfl, hy, hx3⟩
  obtain ⟨Kn, hK⟩ : ∃ Kn, Ls.drop (Ls.length - kk) = Kn := ⟨_, rfl⟩
  rw [hK] at hy HKN
  have HKd := Lib.hid hK
  have hKl : Kn.length ≤ 40 := by rw [← hK, List.length_drop]; omega
  obtain ⟨ya, yc, rfl, -⟩ := id hy
  have HY := Lib.hid hy; have HX3 := Lib.hid hx3
  clear hy hx3 hK
  go_wp2_with fail
  go_loopw [11, 34] (fun v i wr => ∃ k : Nat, k ≤ Kn.length ∧ i = .int .i64 k ∧ Hid (OwnF W3.heap.size v ((Kn.take k).filter (qSince m)) wr) ∧ Ext W3 wr) (fun _ i _ => Kn.length - (intOf i).toNat)
  case atStart => exact ⟨0, by omega, rfl, Lib.hid (World.ownsRow_nil _ _ _ _), ext_refl _⟩
  case round =>
    obtain ⟨k, hk, rfl, HO, hx⟩ := hrel
    by_cases h3 : k < Kn.length
    · obtain ⟨g, o, cap', hv, hcl⟩ := row_cells ((HY.out).ext hx) (by intro h; rw [h] at h3; simp at h3)
      cases hv
      obtain ⟨d0, d1, d2, d3, d4⟩ := hcl k h3
      have hix := index_evR g o Kn.length yc k h3
      have hlt : g < wr.heap.size := by
        have := d0
        unfold World.cell? at this
        exact Nat.lt_of_not_le fun h => by rw [Array.getElem?_eq_none h] at this; cases this
      have HFT := Lib.hid (filter_take (q := qSince m) Kn k h3)
      have hfl : ((Kn.take k).filter (qSince m)).length ≤ 40 := by
        have h1 := List.length_filter_le (qSince m) (Kn.take k)
        rw [List.length_take] at h1; omega
      clear hcl
      generalize Kn.getD k evD = ev at *
      obtain ⟨en, ek, ekind, econn, etext⟩ := ev
      have HQ := Lib.hid (show qSince m ⟨en, ek, ekind, econn, etext⟩ = decide (m < en) from rfl)
      simp only at d0 d1 d2 d3 d4
      obtain ⟨Wb, hWb⟩ : ∃ Wb, wr.alloc (.cells #[.int .u64 (en : Int), .int .u64 (ek : Int), Str ekind, .int .i64 econn, Str etext] 32) = Wb := ⟨_, rfl⟩
      have hxb : Ext wr Wb := by rw [← hWb]; exact Below.alloc (Below.refl _ _) (Nat.le_refl _) _
      have hbb : Wb.heap[wr.heap.size]? = some (.cells #[.int .u64 (en : Int), .int .u64 (ek : Int), Str ekind, .int .i64 econn, Str etext] 32 (0, 0)) := by rw [← hWb]; exact Array.getElem?_push_size
      have HX := Lib.hid (ext_trans hx hxb)
      have hsz := HX.out.size
      have HO6 := Lib.hid (show Wb.ownsRow W3.heap.size 32 5 _ ((Kn.take k).filter (qSince m)).length (((Kn.take k).filter (qSince m)).flatMap evL) from ownz_ext HO.out hxb)
      obtain ⟨q0, q1, q2, q3, q4⟩ := cells5 hbb
      clear hxb hbb hx HO
      generalize (Kn.take k).filter (qSince m) = out at *
      by_cases hc : m < en
      · have hfn := HFT.out
        rw [HQ.out, decide_eq_true hc, if_pos rfl] at hfn
        have HFN := Lib.hid hfn
        clear hfn HFT HQ
        go_wp2_with (at_builtin; refine wpList_pushz W3.heap.size rfl _ _ 29 32 rfl Tryd.underlying29 infoEvR rfl (by omega) (by omega) HO6.out [.int .u64 (en : Int), .int .u64 (ek : Int), Str ekind, .int .i64 econn, Str etext] rfl (by simp [Str, Value.oneCell']) (by omega) hsz rfl rfl ?_; rintro _ w1 ⟨g1, cap1, rfl⟩ hown1 hgr1; have HO1 := Lib.hid hown1; have HX1 := Lib.hid (ext_pushz HX.out HO6.out hgr1); clear hown1 hgr1)
        go_roundw
        case rel => exact ⟨k + 1, by omega, by go_num, Lib.hid (by rw [HFN.out]; unfold OwnF; rw [List.length_append, List.flatMap_append]; exact HO1.out), HX1.out⟩
        case measure => simp [intOf]; omega
      · have hfn := HFT.out
        rw [HQ.out, decide_eq_false hc, if_neg (by simp), List.append_nil] at hfn
        have HFN := Lib.hid hfn
        clear hfn HFT HQ
        go_wp2
        go_roundw
        case rel => exact ⟨k + 1, by omega, by go_num, Lib.hid (by rw [HFN.out]; exact HO6.out), HX.out⟩
        case measure => simp [intOf]; omega
    · obtain rfl : k = Kn.length := by omega
      have hO := HO.out
      rw [List.take_length] at hO
      obtain ⟨rao, rcap, rfl, -⟩ := id (show RowE wr _ (Kn.filter (qSince m)) from rowC_of_own evL_len hO)
      have HWANT := Lib.hid (show RowE wr (.slice rao (Kn.filter (qSince m)).length rcap) (Kn.filter (qSince m)) from rowC_of_own evL_len hO)
      have HXr := Lib.hid (ext_trans HX3.out hx)
      clear hO HO hx
      -- TAILS
      have HSI := Lib.hid (fun W (hx : Ext wr W) => since_any m (by omega) W1.heap.size p lv cv (stOf kk Ls) (by rw [show (stOf kk Ls).evs = Kn from HKd.out]; omega) (fun e he => (goodL_mem HG.out (List.mem_of_mem_drop he)).1) W (HTR.out.ext (ext_trans HXr.out hx)))
      have HFI := Lib.hid (fun W (hx : Ext wr W) => First_any W1.heap.size p lv cv (stOf kk Ls) (by rw [show (stOf kk Ls).evs = Kn from HKd.out]; omega) (fun e he => (goodL_mem HG.out (List.mem_of_mem_drop he)).1) (fun e he => (goodL_mem HG.out (List.mem_of_mem_drop he)).2) W (HTR.out.ext (ext_trans HXr.out hx)))
      have HLA := Lib.hid (fun W (hx : Ext wr W) => Last_any W1.heap.size p lv cv (stOf kk Ls) (by show Ls.length ≤ 1000000; omega) W (HTR.out.ext (ext_trans HXr.out hx)))
      rw [show (stOf kk Ls).evs = Kn from HKd.out] at HSI HFI
      rw [show (stOf kk Ls).last = Ls.length from rfl] at HLA
      have hfl : (Kn.filter (qSince m)).length ≤ 40 := Nat.le_trans (List.length_filter_le _ _) hKl
      obtain ⟨xao, xcap, rfl, -⟩ := id (show RowE W2 xv Ls from rowC_of_own evL_len HRF.out.row)
      have HRQ := Lib.hid (fun W (hx : Ext wr W) => (HRF.out.ext (ext_trans HXr.out hx)).blk)
      have HXL := Lib.hid (fun W (hx : Ext wr W) => (show RowE W _ Ls from rowC_of_own evL_len (HRF.out.ext (ext_trans HXr.out hx)).row))
      have HCH := Lib.hid (fun W (hx : Ext wr W) => (Chain_any W1.heap.size p lv cv (stOf kk Ls) (chainR_len Ls _ (by simp [zero32])) W (HTR.out.ext (ext_trans HXr.out hx))).mono (fun e w' ⟨v', he, ho, hx'⟩ => (⟨v', he, ho.sl, hx'⟩ : ∃ v', e = Ending.returned v' ∧ SlB w' v' (chainR zero32 Ls) ∧ Ext W w')))
      have HRC := Lib.hid (fun vz W (hx : Ext wr W) (hz : SlB W vz zero32) => rchain_any vz _ zero32 Ls (by simp [zero32]) (by omega) (fun e he => (goodL_mem HG.out he).1) W hz (HXL.out W hx) (HW.out.ext (ext_trans HX2.out (ext_trans HXr.out hx))))
      have HSM := Lib.hid (fun a b W (ha : SlB W a (chainR zero32 Ls)) (hb : SlB W b (chainR zero32 Ls)) => (same_any a b _ _ W ha hb).mono (fun e w' h => (⟨by rw [h.1]; simp, h.2⟩ : e = Ending.returned (.bool true) ∧ w' = W)))
      have HSE := Lib.hid (fun W (hx : Ext wr W) => (HSI.out W hx).mono (fun e w' ⟨f, he, hs, hx'⟩ => (⟨f, he, ⟨_, hs⟩, hx'⟩ : ∃ v', e = Ending.returned v' ∧ SeqE v' (Kn.filter (qSince m)) w' ∧ Ext W w')))
      have HCO := Lib.hid (fun f W (h : SeqE f (Kn.filter (qSince m)) W) => (collectE_any f _ (by omega) W h))
      have HBA := Lib.hid (fun a W (h : RowE W a (Kn.filter (qSince m))) => (back_any a _ (by omega) W h).mono (fun e w' ⟨v', he, ho, hx'⟩ => (⟨v', he, rowC_of_own evL_len ho, hx'⟩ : ∃ v', e = Ending.returned v' ∧ RowE w' v' (Kn.filter (qSince m)) ∧ Ext W w')))
      have HEQ := Lib.hid (fun a W (h : RowE W a (Kn.filter (qSince m))) (hx : Ext wr W) => equalE_same a _ _ (by omega) W h (HWANT.out.ext hx))
      generalize Kn.filter (qSince m) = F at *
      go_wp2_with fail
      refine (HKN.out wr HXr.out).mono ?_
      rintro e W4 ⟨yv4, rfl, hy4, hx4⟩
      have HX4 := Lib.hid hx4
      clear hx4 HKN
      by_cases hK0 : Kn = []
      · subst hK0
        obtain ⟨ya4, yc4, rfl, -⟩ := hy4
        rw [show ([] : List Ev).length = 0 from rfl]
        go_wp2_with fail
        -- inv {'ops': [('mv', 56, 8, '.pointer (some ⟨p, 0, none⟩)'), ('mv', 57, 2, '.int .u64 (m : Int)'), ('callx', 58, [0, 1], "HSE.out w' E0", "SeqE (u 58) F w'"), ('callx', 59, [], "RAW:have c2 := C2 (hp.of 2 (by kernel_rfl));; have e2 := hT 58;; go_simp;; refine Calls.mono (HCO.out _ w' c2) ?_;; rintro e w1 ⟨v1, he, hr1, hx1⟩;; subst he", "RowE w' (u 59) F"), ('callx', 60, [], "RAW:have c3 := C3 (hp.of 3 (by kernel_rfl));; have e3 := hT 59;; go_simp;; refine Calls.mono (HBA.out _ w' c3) ?_;; rintro e w1 ⟨v1, he, hr1, hx1⟩;; subst he", "RowE w' (u 60) F"), ('mv', 61, 11, '.slice rao F.length rcap'), ('raw', 62, [5], "have c4 := C4 (hp.of 4 (by kernel_rfl));; have e4 := hT 60;; go_simp;; refine (HEQ.out _ w' c4 E0).mono ?_;; rintro e w1 ⟨he, hx1⟩;; subst he", '.bool true'), ('mw', 63, 6, '.bool true'), ('mv', 64, 8, '.pointer (some ⟨p, 0, none⟩)'), ('call', 65, [8], "HFI.out w' E0", '.int .u64 (firstN ([] : List Ev) : Int)'), ('mv', 66, 14, '.int .u64 (firstN ([] : List Ev) : Int)'), ('op', 67, [9, 10], '.bool true'), ('op', 68, [7, 11], '.bool true'), ('mw', 69, 12, '.bool true'), ('mv', 70, 8, '.pointer (some ⟨p, 0, none⟩)'), ('callq', 71, [14], "HLA.out w' E0", '.int .u64 (Ls.length : Int)'), ('mv', 72, 9, '.pointer (some ⟨q, 0, none⟩)'), ('op', 73, [16], '.pointer (some ⟨q, 0, none⟩)'), ('op', 74, [17], '.pointer (some ⟨q, 1, none⟩)'), ('lf', 75, 18, '.slice xao Ls.length xcap', "have c1 := (cells2 (HRQ.out w' E0)).2"), ('op', 76, [19], '.int .i64 (Ls.length : Int)'), ('op', 77, [20], '.int .u64 (Ls.length : Int)'), ('op', 78, [15, 21], '.bool true'), ('op', 79, [13, 22], '.bool true'), ('mw', 80, 23, '.bool true'), ('mv', 81, 8, '.pointer (some ⟨p, 0, none⟩)'), ('callx', 82, [25], "HCH.out w' E0", "SlB w' (u 82) (chainR zero32 Ls)"), ('callx', 83, [], "RAW:have hmk := run_make32 w';; go_simp;; have hx1 : Ext w' (w'.alloc zeroObj) := Below.alloc (Below.refl _ _) (Nat.le_refl _) _;; have hr1 := make32_sl w'", "SlB w' (u 83) zero32"), ('mv', 84, 9, '.pointer (some ⟨q, 0, none⟩)'), ('op', 85, [28], '.pointer (some ⟨q, 0, none⟩)'), ('op', 86, [29], '.pointer (some ⟨q, 1, none⟩)'), ('lf', 87, 30, '.slice xao Ls.length xcap', "have c1 := (cells2 (HRQ.out w' E0)).2"), ('callx', 88, [31], "RAW:have c27 := C27 (hp.of 27 (by kernel_rfl));; have e27 := hT 83;; go_simp;; refine Calls.mono (HRC.out _ w' E0 c27) ?_;; rintro e w1 ⟨v1, he, hr1, hx1⟩;; subst he", "SlB w' (u 88) (chainR zero32 Ls)"), ('raw', 89, [], "have c26 := C26 (hp.of 26 (by kernel_rfl));; have c32 := C32 (hp.of 32 (by kernel_rfl));; have e26 := hT 82;; have e32 := hT 88;; go_simp;; refine (HSM.out _ _ w' c26 c32).mono ?_;; rintro e w1 ⟨he, hx1⟩;; subst w1;; subst he", '.bool true'), ('op', 90, [24, 33], '.bool true'), ('mw', 6, 34, '.bool true')], 'G': {8: (7, 'true'), 9: (7, 'true'), 10: (7, 'true'), 11: (7, 'true'), 14: (13, 'true'), 15: (13, 'true'), 16: (13, 'true'), 17: (13, 'true'), 18: (13, 'true'), 19: (13, 'true'), 20: (13, 'true'), 21: (13, 'true'), 22: (13, 'true'), 25: (24, 'true'), 26: (24, 'true'), 27: (24, 'true'), 28: (24, 'true'), 29: (24, 'true'), 30: (24, 'true'), 31: (24, 'true'), 32: (24, 'true'), 33: (24, 'true')}, 'W': [('E0', "Ext wr w'", 'Below.drew HX4.out')], 'over': {6: {'E0': 'ext_trans E0 hx1', 'C2': 'fun h => (C2 (by simpa using h)).ext hx1', 'C3': 'fun h => (C3 (by simpa using h)).ext hx1', 'C4': 'fun h => (C4 (by simpa using h)).ext hx1', 'C26': 'fun h => (C26 (by simpa using h)).ext hx1', 'C27': 'fun h => (C27 (by simpa using h)).ext hx1', 'C32': 'fun h => (C32 (by simpa using h)).ext hx1'}}}
        refine wp_region_any (by kernel_rfl) ?_
        change wpAny _ _ _ _ _ _ _ (World.drew _)
        refine wpAny_inv (n := 36) [56, 57, 58, 59, 60, 61, 62, 63, 64, 65, 66, 67, 68, 69, 70, 71, 72, 73, 74, 75, 76, 77, 78, 79, 80, 81, 82, 83, 84, 85, 86, 87, 88, 89, 90, 6] (fun u L w' =>
            (L 0 = true → u 56 = .pointer (some ⟨p, 0, none⟩)) ∧
            (L 1 = true → u 57 = .int .u64 (m : Int)) ∧
            (L 2 = true → SeqE (u 58) F w') ∧
            (L 3 = true → RowE w' (u 59) F) ∧
            (L 4 = true → RowE w' (u 60) F) ∧
            (L 5 = true → u 61 = .slice rao F.length rcap) ∧
            (L 6 = true → u 62 = .bool true) ∧
            (L 7 = true → u 63 = .bool true) ∧
            (L 8 = true → u 64 = .pointer (some ⟨p, 0, none⟩)) ∧
            (L 9 = true → u 65 = .int .u64 (firstN ([] : List Ev) : Int)) ∧
            (L 10 = true → u 66 = .int .u64 (firstN ([] : List Ev) : Int)) ∧
            (L 11 = true → u 67 = .bool true) ∧
            (L 12 = true → u 68 = .bool true) ∧
            (L 13 = true → u 69 = .bool true) ∧
            (L 14 = true → u 70 = .pointer (some ⟨p, 0, none⟩)) ∧
            (L 15 = true → u 71 = .int .u64 (Ls.length : Int)) ∧
            (L 16 = true → u 72 = .pointer (some ⟨q, 0, none⟩)) ∧
            (L 17 = true → u 73 = .pointer (some ⟨q, 0, none⟩)) ∧
            (L 18 = true → u 74 = .pointer (some ⟨q, 1, none⟩)) ∧
            (L 19 = true → u 75 = .slice xao Ls.length xcap) ∧
            (L 20 = true → u 76 = .int .i64 (Ls.length : Int)) ∧
            (L 21 = true → u 77 = .int .u64 (Ls.length : Int)) ∧
            (L 22 = true → u 78 = .bool true) ∧
            (L 23 = true → u 79 = .bool true) ∧
            (L 24 = true → u 80 = .bool true) ∧
            (L 25 = true → u 81 = .pointer (some ⟨p, 0, none⟩)) ∧
            (L 26 = true → SlB w' (u 82) (chainR zero32 Ls)) ∧
            (L 27 = true → SlB w' (u 83) zero32) ∧
            (L 28 = true → u 84 = .pointer (some ⟨q, 0, none⟩)) ∧
            (L 29 = true → u 85 = .pointer (some ⟨q, 0, none⟩)) ∧
            (L 30 = true → u 86 = .pointer (some ⟨q, 1, none⟩)) ∧
            (L 31 = true → u 87 = .slice xao Ls.length xcap) ∧
            (L 32 = true → SlB w' (u 88) (chainR zero32 Ls)) ∧
            (L 33 = true → u 89 = .bool true) ∧
            (L 34 = true → u 90 = .bool true) ∧
            (L 35 = true → u 6 = .bool true) ∧
            (Ext wr w'))
          (by rfl) (by kernel_rfl) (by kernel_rfl) (by rfl) ?_ ?_ ?_
        · exact ⟨(fun h => by cases h), (fun h => by cases h), (fun h => by cases h), (fun h => by cases h), (fun h => by cases h), (fun h => by cases h), (fun h => by cases h), (fun h => by cases h), (fun h => by cases h), (fun h => by cases h), (fun h => by cases h), (fun h => by cases h), (fun h => by cases h), (fun h => by cases h), (fun h => by cases h), (fun h => by cases h), (fun h => by cases h), (fun h => by cases h), (fun h => by cases h), (fun h => by cases h), (fun h => by cases h), (fun h => by cases h), (fun h => by cases h), (fun h => by cases h), (fun h => by cases h), (fun h => by cases h), (fun h => by cases h), (fun h => by cases h), (fun h => by cases h), (fun h => by cases h), (fun h => by cases h), (fun h => by cases h), (fun h => by cases h), (fun h => by cases h), (fun h => by cases h), (fun h => by cases h), Below.drew HX4.out⟩
        · refine ⟨⟨⟨⟨⟨⟨⟨⟨⟨⟨⟨⟨⟨⟨⟨⟨⟨⟨⟨⟨⟨⟨⟨⟨⟨⟨⟨⟨⟨⟨⟨⟨⟨⟨⟨⟨trivial, ?_⟩, ?_⟩, ?_⟩, ?_⟩, ?_⟩, ?_⟩, ?_⟩, ?_⟩, ?_⟩, ?_⟩, ?_⟩, ?_⟩, ?_⟩, ?_⟩, ?_⟩, ?_⟩, ?_⟩, ?_⟩, ?_⟩, ?_⟩, ?_⟩, ?_⟩, ?_⟩, ?_⟩, ?_⟩, ?_⟩, ?_⟩, ?_⟩, ?_⟩, ?_⟩, ?_⟩, ?_⟩, ?_⟩, ?_⟩, ?_⟩, ?_⟩
          · refine stepOk_some (i := 0) (by rfl) (by rfl) ?_
            rintro u L T w' hT hu hL hp hcl ⟨C0, C1, C2, C3, C4, C5, C6, C7, C8, C9, C10, C11, C12, C13, C14, C15, C16, C17, C18, C19, C20, C21, C22, C23, C24, C25, C26, C27, C28, C29, C30, C31, C32, C33, C34, C35, E0⟩ K hK
            have e1 : u 8 = .pointer (some ⟨p, 0, none⟩) := hu 8 (by decide)
            go_simp
            refine hK _ _ ?_
            exact ⟨fun _ => rfl, fun h => C1 (by simpa using h), fun h => C2 (by simpa using h), fun h => C3 (by simpa using h), fun h => C4 (by simpa using h), fun h => C5 (by simpa using h), fun h => C6 (by simpa using h), fun h => C7 (by simpa using h), fun h => C8 (by simpa using h), fun h => C9 (by simpa using h), fun h => C10 (by simpa using h), fun h => C11 (by simpa using h), fun h => C12 (by simpa using h), fun h => C13 (by simpa using h), fun h => C14 (by simpa using h), fun h => C15 (by simpa using h), fun h => C16 (by simpa using h), fun h => C17 (by simpa using h), fun h => C18 (by simpa using h), fun h => C19 (by simpa using h), fun h => C20 (by simpa using h), fun h => C21 (by simpa using h), fun h => C22 (by simpa using h), fun h => C23 (by simpa using h), fun h => C24 (by simpa using h), fun h => C25 (by simpa using h), fun h => C26 (by simpa using h), fun h => C27 (by simpa using h), fun h => C28 (by simpa using h), fun h => C29 (by simpa using h), fun h => C30 (by simpa using h), fun h => C31 (by simpa using h), fun h => C32 (by simpa using h), fun h => C33 (by simpa using h), fun h => C34 (by simpa using h), fun h => C35 (by simpa using h), E0⟩
          · refine stepOk_some (i := 1) (by rfl) (by rfl) ?_
            rintro u L T w' hT hu hL hp hcl ⟨C0, C1, C2, C3, C4, C5, C6, C7, C8, C9, C10, C11, C12, C13, C14, C15, C16, C17, C18, C19, C20, C21, C22, C23, C24, C25, C26, C27, C28, C29, C30, C31, C32, C33, C34, C35, E0⟩ K hK
            have e1 : u 2 = .int .u64 (m : Int) := hu 2 (by decide)
            go_simp
            refine hK _ _ ?_
            exact ⟨fun h => C0 (by simpa using h), fun _ => rfl, fun h => C2 (by simpa using h), fun h => C3 (by simpa using h), fun h => C4 (by simpa using h), fun h => C5 (by simpa using h), fun h => C6 (by simpa using h), fun h => C7 (by simpa using h), fun h => C8 (by simpa using h), fun h => C9 (by simpa using h), fun h => C10 (by simpa using h), fun h => C11 (by simpa using h), fun h => C12 (by simpa using h), fun h => C13 (by simpa using h), fun h => C14 (by simpa using h), fun h => C15 (by simpa using h), fun h => C16 (by simpa using h), fun h => C17 (by simpa using h), fun h => C18 (by simpa using h), fun h => C19 (by simpa using h), fun h => C20 (by simpa using h), fun h => C21 (by simpa using h), fun h => C22 (by simpa using h), fun h => C23 (by simpa using h), fun h => C24 (by simpa using h), fun h => C25 (by simpa using h), fun h => C26 (by simpa using h), fun h => C27 (by simpa using h), fun h => C28 (by simpa using h), fun h => C29 (by simpa using h), fun h => C30 (by simpa using h), fun h => C31 (by simpa using h), fun h => C32 (by simpa using h), fun h => C33 (by simpa using h), fun h => C34 (by simpa using h), fun h => C35 (by simpa using h), E0⟩
          · refine stepOk_some (i := 2) (by rfl) (by rfl) ?_
            rintro u L T w' hT hu hL hp hcl ⟨C0, C1, C2, C3, C4, C5, C6, C7, C8, C9, C10, C11, C12, C13, C14, C15, C16, C17, C18, C19, C20, C21, C22, C23, C24, C25, C26, C27, C28, C29, C30, C31, C32, C33, C34, C35, E0⟩ K hK
            have e0 := C0 (hp.of 0 (by kernel_rfl))
            have e1 := C1 (hp.of 1 (by kernel_rfl))
            go_simp
            refine Calls.mono (HSE.out w' E0) ?_
            rintro e w1 ⟨v1, he, hr1, hx1⟩
            subst he
            refine hK _ _ ?_
            exact ⟨fun h => C0 (by simpa using h), fun h => C1 (by simpa using h), fun _ => hr1, fun h => (C3 (by simpa using h)).ext hx1, fun h => (C4 (by simpa using h)).ext hx1, fun h => C5 (by simpa using h), fun h => C6 (by simpa using h), fun h => C7 (by simpa using h), fun h => C8 (by simpa using h), fun h => C9 (by simpa using h), fun h => C10 (by simpa using h), fun h => C11 (by simpa using h), fun h => C12 (by simpa using h), fun h => C13 (by simpa using h), fun h => C14 (by simpa using h), fun h => C15 (by simpa using h), fun h => C16 (by simpa using h), fun h => C17 (by simpa using h), fun h => C18 (by simpa using h), fun h => C19 (by simpa using h), fun h => C20 (by simpa using h), fun h => C21 (by simpa using h), fun h => C22 (by simpa using h), fun h => C23 (by simpa using h), fun h => C24 (by simpa using h), fun h => C25 (by simpa using h), fun h => (C26 (by simpa using h)).ext hx1, fun h => (C27 (by simpa using h)).ext hx1, fun h => C28 (by simpa using h), fun h => C29 (by simpa using h), fun h => C30 (by simpa using h), fun h => C31 (by simpa using h), fun h => (C32 (by simpa using h)).ext hx1, fun h => C33 (by simpa using h), fun h => C34 (by simpa using h), fun h => C35 (by simpa using h), ext_trans (E0) hx1⟩
          · refine stepOk_some (i := 3) (by rfl) (by rfl) ?_
            rintro u L T w' hT hu hL hp hcl ⟨C0, C1, C2, C3, C4, C5, C6, C7, C8, C9, C10, C11, C12, C13, C14, C15, C16, C17, C18, C19, C20, C21, C22, C23, C24, C25, C26, C27, C28, C29, C30, C31, C32, C33, C34, C35, E0⟩ K hK
            have c2 := C2 (hp.of 2 (by kernel_rfl))
            have e2 := hT 58
            go_simp
            refine Calls.mono (HCO.out _ w' c2) ?_
            rintro e w1 ⟨v1, he, hr1, hx1⟩
            subst he
            refine hK _ _ ?_
            exact ⟨fun h => C0 (by simpa using h), fun h => C1 (by simpa using h), fun h => (C2 (by simpa using h)).ext hx1, fun _ => hr1, fun h => (C4 (by simpa using h)).ext hx1, fun h => C5 (by simpa using h), fun h => C6 (by simpa using h), fun h => C7 (by simpa using h), fun h => C8 (by simpa using h), fun h => C9 (by simpa using h), fun h => C10 (by simpa using h), fun h => C11 (by simpa using h), fun h => C12 (by simpa using h), fun h => C13 (by simpa using h), fun h => C14 (by simpa using h), fun h => C15 (by simpa using h), fun h => C16 (by simpa using h), fun h => C17 (by simpa using h), fun h => C18 (by simpa using h), fun h => C19 (by simpa using h), fun h => C20 (by simpa using h), fun h => C21 (by simpa using h), fun h => C22 (by simpa using h), fun h => C23 (by simpa using h), fun h => C24 (by simpa using h), fun h => C25 (by simpa using h), fun h => (C26 (by simpa using h)).ext hx1, fun h => (C27 (by simpa using h)).ext hx1, fun h => C28 (by simpa using h), fun h => C29 (by simpa using h), fun h => C30 (by simpa using h), fun h => C31 (by simpa using h), fun h => (C32 (by simpa using h)).ext hx1, fun h => C33 (by simpa using h), fun h => C34 (by simpa using h), fun h => C35 (by simpa using h), ext_trans (E0) hx1⟩
          · refine stepOk_some (i := 4) (by rfl) (by rfl) ?_
            rintro u L T w' hT hu hL hp hcl ⟨C0, C1, C2, C3, C4, C5, C6, C7, C8, C9, C10, C11, C12, C13, C14, C15, C16, C17, C18, C19, C20, C21, C22, C23, C24, C25, C26, C27, C28, C29, C30, C31, C32, C33, C34, C35, E0⟩ K hK
            have c3 := C3 (hp.of 3 (by kernel_rfl))
            have e3 := hT 59
            go_simp
            refine Calls.mono (HBA.out _ w' c3) ?_
            rintro e w1 ⟨v1, he, hr1, hx1⟩
            subst he
            refine hK _ _ ?_
            exact ⟨fun h => C0 (by simpa using h), fun h => C1 (by simpa using h), fun h => (C2 (by simpa using h)).ext hx1, fun h => (C3 (by simpa using h)).ext hx1, fun _ => hr1, fun h => C5 (by simpa using h), fun h => C6 (by simpa using h), fun h => C7 (by simpa using h), fun h => C8 (by simpa using h), fun h => C9 (by simpa using h), fun h => C10 (by simpa using h), fun h => C11 (by simpa using h), fun h => C12 (by simpa using h), fun h => C13 (by simpa using h), fun h => C14 (by simpa using h), fun h => C15 (by simpa using h), fun h => C16 (by simpa using h), fun h => C17 (by simpa using h), fun h => C18 (by simpa using h), fun h => C19 (by simpa using h), fun h => C20 (by simpa using h), fun h => C21 (by simpa using h), fun h => C22 (by simpa using h), fun h => C23 (by simpa using h), fun h => C24 (by simpa using h), fun h => C25 (by simpa using h), fun h => (C26 (by simpa using h)).ext hx1, fun h => (C27 (by simpa using h)).ext hx1, fun h => C28 (by simpa using h), fun h => C29 (by simpa using h), fun h => C30 (by simpa using h), fun h => C31 (by simpa using h), fun h => (C32 (by simpa using h)).ext hx1, fun h => C33 (by simpa using h), fun h => C34 (by simpa using h), fun h => C35 (by simpa using h), ext_trans (E0) hx1⟩
          · refine stepOk_some (i := 5) (by rfl) (by rfl) ?_
            rintro u L T w' hT hu hL hp hcl ⟨C0, C1, C2, C3, C4, C5, C6, C7, C8, C9, C10, C11, C12, C13, C14, C15, C16, C17, C18, C19, C20, C21, C22, C23, C24, C25, C26, C27, C28, C29, C30, C31, C32, C33, C34, C35, E0⟩ K hK
            have e1 : u 11 = .slice rao F.length rcap := hu 11 (by decide)
            go_simp
            refine hK _ _ ?_
            exact ⟨fun h => C0 (by simpa using h), fun h => C1 (by simpa using h), fun h => C2 (by simpa using h), fun h => C3 (by simpa using h), fun h => C4 (by simpa using h), fun _ => rfl, fun h => C6 (by simpa using h), fun h => C7 (by simpa using h), fun h => C8 (by simpa using h), fun h => C9 (by simpa using h), fun h => C10 (by simpa using h), fun h => C11 (by simpa using h), fun h => C12 (by simpa using h), fun h => C13 (by simpa using h), fun h => C14 (by simpa using h), fun h => C15 (by simpa using h), fun h => C16 (by simpa using h), fun h => C17 (by simpa using h), fun h => C18 (by simpa using h), fun h => C19 (by simpa using h), fun h => C20 (by simpa using h), fun h => C21 (by simpa using h), fun h => C22 (by simpa using h), fun h => C23 (by simpa using h), fun h => C24 (by simpa using h), fun h => C25 (by simpa using h), fun h => C26 (by simpa using h), fun h => C27 (by simpa using h), fun h => C28 (by simpa using h), fun h => C29 (by simpa using h), fun h => C30 (by simpa using h), fun h => C31 (by simpa using h), fun h => C32 (by simpa using h), fun h => C33 (by simpa using h), fun h => C34 (by simpa using h), fun h => C35 (by simpa using h), E0⟩
          · refine stepOk_some (i := 6) (by rfl) (by rfl) ?_
            rintro u L T w' hT hu hL hp hcl ⟨C0, C1, C2, C3, C4, C5, C6, C7, C8, C9, C10, C11, C12, C13, C14, C15, C16, C17, C18, C19, C20, C21, C22, C23, C24, C25, C26, C27, C28, C29, C30, C31, C32, C33, C34, C35, E0⟩ K hK
            have e5 := C5 (hp.of 5 (by kernel_rfl))
            have c4 := C4 (hp.of 4 (by kernel_rfl))
            have e4 := hT 60
            go_simp
            refine (HEQ.out _ w' c4 E0).mono ?_
            rintro e w1 ⟨he, hx1⟩
            subst he
            refine hK _ _ ?_
            exact ⟨fun h => C0 (by simpa using h), fun h => C1 (by simpa using h), fun h => (C2 (by simpa using h)).ext hx1, fun h => (C3 (by simpa using h)).ext hx1, fun h => (C4 (by simpa using h)).ext hx1, fun h => C5 (by simpa using h), fun _ => rfl, fun h => C7 (by simpa using h), fun h => C8 (by simpa using h), fun h => C9 (by simpa using h), fun h => C10 (by simpa using h), fun h => C11 (by simpa using h), fun h => C12 (by simpa using h), fun h => C13 (by simpa using h), fun h => C14 (by simpa using h), fun h => C15 (by simpa using h), fun h => C16 (by simpa using h), fun h => C17 (by simpa using h), fun h => C18 (by simpa using h), fun h => C19 (by simpa using h), fun h => C20 (by simpa using h), fun h => C21 (by simpa using h), fun h => C22 (by simpa using h), fun h => C23 (by simpa using h), fun h => C24 (by simpa using h), fun h => C25 (by simpa using h), fun h => (C26 (by simpa using h)).ext hx1, fun h => (C27 (by simpa using h)).ext hx1, fun h => C28 (by simpa using h), fun h => C29 (by simpa using h), fun h => C30 (by simpa using h), fun h => C31 (by simpa using h), fun h => (C32 (by simpa using h)).ext hx1, fun h => C33 (by simpa using h), fun h => C34 (by simpa using h), fun h => C35 (by simpa using h), ext_trans E0 hx1⟩
          · refine stepOk_some (i := 7) (by rfl) (by rfl) ?_
            rintro u L T w' hT hu hL hp hcl ⟨C0, C1, C2, C3, C4, C5, C6, C7, C8, C9, C10, C11, C12, C13, C14, C15, C16, C17, C18, C19, C20, C21, C22, C23, C24, C25, C26, C27, C28, C29, C30, C31, C32, C33, C34, C35, E0⟩ K hK
            have e6 := C6 (hp.of 6 (by kernel_rfl))
            go_simp
            refine hK _ _ ?_
            exact ⟨fun h => C0 (by simpa using h), fun h => C1 (by simpa using h), fun h => C2 (by simpa using h), fun h => C3 (by simpa using h), fun h => C4 (by simpa using h), fun h => C5 (by simpa using h), fun h => C6 (by simpa using h), fun _ => rfl, fun h => C8 (by simpa using h), fun h => C9 (by simpa using h), fun h => C10 (by simpa using h), fun h => C11 (by simpa using h), fun h => C12 (by simpa using h), fun h => C13 (by simpa using h), fun h => C14 (by simpa using h), fun h => C15 (by simpa using h), fun h => C16 (by simpa using h), fun h => C17 (by simpa using h), fun h => C18 (by simpa using h), fun h => C19 (by simpa using h), fun h => C20 (by simpa using h), fun h => C21 (by simpa using h), fun h => C22 (by simpa using h), fun h => C23 (by simpa using h), fun h => C24 (by simpa using h), fun h => C25 (by simpa using h), fun h => C26 (by simpa using h), fun h => C27 (by simpa using h), fun h => C28 (by simpa using h), fun h => C29 (by simpa using h), fun h => C30 (by simpa using h), fun h => C31 (by simpa using h), fun h => C32 (by simpa using h), fun h => C33 (by simpa using h), fun h => C34 (by simpa using h), fun h => C35 (by simpa using h), E0⟩
          · refine stepOk_some (i := 8) (by rfl) (by rfl) ?_
            rintro u L T w' hT hu hL hp hcl ⟨C0, C1, C2, C3, C4, C5, C6, C7, C8, C9, C10, C11, C12, C13, C14, C15, C16, C17, C18, C19, C20, C21, C22, C23, C24, C25, C26, C27, C28, C29, C30, C31, C32, C33, C34, C35, E0⟩ K hK
            have hg := getD_bool ((hT 63).trans (C7 (hp.of 7 (by kernel_rfl))))
            have e1 : u 8 = .pointer (some ⟨p, 0, none⟩) := hu 8 (by decide)
            go_simp
            refine hK _ _ ?_
            exact ⟨fun h => C0 (by simpa using h), fun h => C1 (by simpa using h), fun h => C2 (by simpa using h), fun h => C3 (by simpa using h), fun h => C4 (by simpa using h), fun h => C5 (by simpa using h), fun h => C6 (by simpa using h), fun h => C7 (by simpa using h), fun _ => rfl, fun h => C9 (by simpa using h), fun h => C10 (by simpa using h), fun h => C11 (by simpa using h), fun h => C12 (by simpa using h), fun h => C13 (by simpa using h), fun h => C14 (by simpa using h), fun h => C15 (by simpa using h), fun h => C16 (by simpa using h), fun h => C17 (by simpa using h), fun h => C18 (by simpa using h), fun h => C19 (by simpa using h), fun h => C20 (by simpa using h), fun h => C21 (by simpa using h), fun h => C22 (by simpa using h), fun h => C23 (by simpa using h), fun h => C24 (by simpa using h), fun h => C25 (by simpa using h), fun h => C26 (by simpa using h), fun h => C27 (by simpa using h), fun h => C28 (by simpa using h), fun h => C29 (by simpa using h), fun h => C30 (by simpa using h), fun h => C31 (by simpa using h), fun h => C32 (by simpa using h), fun h => C33 (by simpa using h), fun h => C34 (by simpa using h), fun h => C35 (by simpa using h), E0⟩
          · refine stepOk_some (i := 9) (by rfl) (by rfl) ?_
            rintro u L T w' hT hu hL hp hcl ⟨C0, C1, C2, C3, C4, C5, C6, C7, C8, C9, C10, C11, C12, C13, C14, C15, C16, C17, C18, C19, C20, C21, C22, C23, C24, C25, C26, C27, C28, C29, C30, C31, C32, C33, C34, C35, E0⟩ K hK
            have hg := getD_bool ((hT 63).trans (C7 (hp.of 7 (by kernel_rfl))))
            have e8 := C8 (hp.of 8 (by kernel_rfl))
            go_simp
            refine (HFI.out w' E0).mono ?_
            rintro e w1 ⟨he, hx1⟩
            subst he
            refine hK _ _ ?_
            exact ⟨fun h => C0 (by simpa using h), fun h => C1 (by simpa using h), fun h => (C2 (by simpa using h)).ext hx1, fun h => (C3 (by simpa using h)).ext hx1, fun h => (C4 (by simpa using h)).ext hx1, fun h => C5 (by simpa using h), fun h => C6 (by simpa using h), fun h => C7 (by simpa using h), fun h => C8 (by simpa using h), fun _ => rfl, fun h => C10 (by simpa using h), fun h => C11 (by simpa using h), fun h => C12 (by simpa using h), fun h => C13 (by simpa using h), fun h => C14 (by simpa using h), fun h => C15 (by simpa using h), fun h => C16 (by simpa using h), fun h => C17 (by simpa using h), fun h => C18 (by simpa using h), fun h => C19 (by simpa using h), fun h => C20 (by simpa using h), fun h => C21 (by simpa using h), fun h => C22 (by simpa using h), fun h => C23 (by simpa using h), fun h => C24 (by simpa using h), fun h => C25 (by simpa using h), fun h => (C26 (by simpa using h)).ext hx1, fun h => (C27 (by simpa using h)).ext hx1, fun h => C28 (by simpa using h), fun h => C29 (by simpa using h), fun h => C30 (by simpa using h), fun h => C31 (by simpa using h), fun h => (C32 (by simpa using h)).ext hx1, fun h => C33 (by simpa using h), fun h => C34 (by simpa using h), fun h => C35 (by simpa using h), ext_trans (E0) hx1⟩
          · refine stepOk_some (i := 10) (by rfl) (by rfl) ?_
            rintro u L T w' hT hu hL hp hcl ⟨C0, C1, C2, C3, C4, C5, C6, C7, C8, C9, C10, C11, C12, C13, C14, C15, C16, C17, C18, C19, C20, C21, C22, C23, C24, C25, C26, C27, C28, C29, C30, C31, C32, C33, C34, C35, E0⟩ K hK
            have hg := getD_bool ((hT 63).trans (C7 (hp.of 7 (by kernel_rfl))))
            have e1 : u 14 = .int .u64 (firstN ([] : List Ev) : Int) := hu 14 (by decide)
            go_simp
            refine hK _ _ ?_
            exact ⟨fun h => C0 (by simpa using h), fun h => C1 (by simpa using h), fun h => C2 (by simpa using h), fun h => C3 (by simpa using h), fun h => C4 (by simpa using h), fun h => C5 (by simpa using h), fun h => C6 (by simpa using h), fun h => C7 (by simpa using h), fun h => C8 (by simpa using h), fun h => C9 (by simpa using h), fun _ => rfl, fun h => C11 (by simpa using h), fun h => C12 (by simpa using h), fun h => C13 (by simpa using h), fun h => C14 (by simpa using h), fun h => C15 (by simpa using h), fun h => C16 (by simpa using h), fun h => C17 (by simpa using h), fun h => C18 (by simpa using h), fun h => C19 (by simpa using h), fun h => C20 (by simpa using h), fun h => C21 (by simpa using h), fun h => C22 (by simpa using h), fun h => C23 (by simpa using h), fun h => C24 (by simpa using h), fun h => C25 (by simpa using h), fun h => C26 (by simpa using h), fun h => C27 (by simpa using h), fun h => C28 (by simpa using h), fun h => C29 (by simpa using h), fun h => C30 (by simpa using h), fun h => C31 (by simpa using h), fun h => C32 (by simpa using h), fun h => C33 (by simpa using h), fun h => C34 (by simpa using h), fun h => C35 (by simpa using h), E0⟩
          · refine stepOk_some (i := 11) (by rfl) (by rfl) ?_
            rintro u L T w' hT hu hL hp hcl ⟨C0, C1, C2, C3, C4, C5, C6, C7, C8, C9, C10, C11, C12, C13, C14, C15, C16, C17, C18, C19, C20, C21, C22, C23, C24, C25, C26, C27, C28, C29, C30, C31, C32, C33, C34, C35, E0⟩ K hK
            have hg := getD_bool ((hT 63).trans (C7 (hp.of 7 (by kernel_rfl))))
            have e9 := C9 (hp.of 9 (by kernel_rfl))
            have e10 := C10 (hp.of 10 (by kernel_rfl))
            go_simp
            try go_bits
            try (rw [if_neg (by omega)]; go_simp)
            try (rw [if_pos (by omega)]; go_simp)
            refine hK _ _ ?_
            exact ⟨fun h => C0 (by simpa using h), fun h => C1 (by simpa using h), fun h => C2 (by simpa using h), fun h => C3 (by simpa using h), fun h => C4 (by simpa using h), fun h => C5 (by simpa using h), fun h => C6 (by simpa using h), fun h => C7 (by simpa using h), fun h => C8 (by simpa using h), fun h => C9 (by simpa using h), fun h => C10 (by simpa using h), fun _ => rfl, fun h => C12 (by simpa using h), fun h => C13 (by simpa using h), fun h => C14 (by simpa using h), fun h => C15 (by simpa using h), fun h => C16 (by simpa using h), fun h => C17 (by simpa using h), fun h => C18 (by simpa using h), fun h => C19 (by simpa using h), fun h => C20 (by simpa using h), fun h => C21 (by simpa using h), fun h => C22 (by simpa using h), fun h => C23 (by simpa using h), fun h => C24 (by simpa using h), fun h => C25 (by simpa using h), fun h => C26 (by simpa using h), fun h => C27 (by simpa using h), fun h => C28 (by simpa using h), fun h => C29 (by simpa using h), fun h => C30 (by simpa using h), fun h => C31 (by simpa using h), fun h => C32 (by simpa using h), fun h => C33 (by simpa using h), fun h => C34 (by simpa using h), fun h => C35 (by simpa using h), E0⟩
          · refine stepOk_some (i := 12) (by rfl) (by rfl) ?_
            rintro u L T w' hT hu hL hp hcl ⟨C0, C1, C2, C3, C4, C5, C6, C7, C8, C9, C10, C11, C12, C13, C14, C15, C16, C17, C18, C19, C20, C21, C22, C23, C24, C25, C26, C27, C28, C29, C30, C31, C32, C33, C34, C35, E0⟩ K hK
            have e7 := C7 (hp.of 7 (by kernel_rfl))
            have e11 := C11 (hp.of 11 (by kernel_rfl))
            go_simp
            try go_bits
            try (rw [if_neg (by omega)]; go_simp)
            try (rw [if_pos (by omega)]; go_simp)
            refine hK _ _ ?_
            exact ⟨fun h => C0 (by simpa using h), fun h => C1 (by simpa using h), fun h => C2 (by simpa using h), fun h => C3 (by simpa using h), fun h => C4 (by simpa using h), fun h => C5 (by simpa using h), fun h => C6 (by simpa using h), fun h => C7 (by simpa using h), fun h => C8 (by simpa using h), fun h => C9 (by simpa using h), fun h => C10 (by simpa using h), fun h => C11 (by simpa using h), fun _ => rfl, fun h => C13 (by simpa using h), fun h => C14 (by simpa using h), fun h => C15 (by simpa using h), fun h => C16 (by simpa using h), fun h => C17 (by simpa using h), fun h => C18 (by simpa using h), fun h => C19 (by simpa using h), fun h => C20 (by simpa using h), fun h => C21 (by simpa using h), fun h => C22 (by simpa using h), fun h => C23 (by simpa using h), fun h => C24 (by simpa using h), fun h => C25 (by simpa using h), fun h => C26 (by simpa using h), fun h => C27 (by simpa using h), fun h => C28 (by simpa using h), fun h => C29 (by simpa using h), fun h => C30 (by simpa using h), fun h => C31 (by simpa using h), fun h => C32 (by simpa using h), fun h => C33 (by simpa using h), fun h => C34 (by simpa using h), fun h => C35 (by simpa using h), E0⟩
          · refine stepOk_some (i := 13) (by rfl) (by rfl) ?_
            rintro u L T w' hT hu hL hp hcl ⟨C0, C1, C2, C3, C4, C5, C6, C7, C8, C9, C10, C11, C12, C13, C14, C15, C16, C17, C18, C19, C20, C21, C22, C23, C24, C25, C26, C27, C28, C29, C30, C31, C32, C33, C34, C35, E0⟩ K hK
            have e12 := C12 (hp.of 12 (by kernel_rfl))
            go_simp
            refine hK _ _ ?_
            exact ⟨fun h => C0 (by simpa using h), fun h => C1 (by simpa using h), fun h => C2 (by simpa using h), fun h => C3 (by simpa using h), fun h => C4 (by simpa using h), fun h => C5 (by simpa using h), fun h => C6 (by simpa using h), fun h => C7 (by simpa using h), fun h => C8 (by simpa using h), fun h => C9 (by simpa using h), fun h => C10 (by simpa using h), fun h => C11 (by simpa using h), fun h => C12 (by simpa using h), fun _ => rfl, fun h => C14 (by simpa using h), fun h => C15 (by simpa using h), fun h => C16 (by simpa using h), fun h => C17 (by simpa using h), fun h => C18 (by simpa using h), fun h => C19 (by simpa using h), fun h => C20 (by simpa using h), fun h => C21 (by simpa using h), fun h => C22 (by simpa using h), fun h => C23 (by simpa using h), fun h => C24 (by simpa using h), fun h => C25 (by simpa using h), fun h => C26 (by simpa using h), fun h => C27 (by simpa using h), fun h => C28 (by simpa using h), fun h => C29 (by simpa using h), fun h => C30 (by simpa using h), fun h => C31 (by simpa using h), fun h => C32 (by simpa using h), fun h => C33 (by simpa using h), fun h => C34 (by simpa using h), fun h => C35 (by simpa using h), E0⟩
          · refine stepOk_some (i := 14) (by rfl) (by rfl) ?_
            rintro u L T w' hT hu hL hp hcl ⟨C0, C1, C2, C3, C4, C5, C6, C7, C8, C9, C10, C11, C12, C13, C14, C15, C16, C17, C18, C19, C20, C21, C22, C23, C24, C25, C26, C27, C28, C29, C30, C31, C32, C33, C34, C35, E0⟩ K hK
            have hg := getD_bool ((hT 69).trans (C13 (hp.of 13 (by kernel_rfl))))
            have e1 : u 8 = .pointer (some ⟨p, 0, none⟩) := hu 8 (by decide)
            go_simp
            refine hK _ _ ?_
            exact ⟨fun h => C0 (by simpa using h), fun h => C1 (by simpa using h), fun h => C2 (by simpa using h), fun h => C3 (by simpa using h), fun h => C4 (by simpa using h), fun h => C5 (by simpa using h), fun h => C6 (by simpa using h), fun h => C7 (by simpa using h), fun h => C8 (by simpa using h), fun h => C9 (by simpa using h), fun h => C10 (by simpa using h), fun h => C11 (by simpa using h), fun h => C12 (by simpa using h), fun h => C13 (by simpa using h), fun _ => rfl, fun h => C15 (by simpa using h), fun h => C16 (by simpa using h), fun h => C17 (by simpa using h), fun h => C18 (by simpa using h), fun h => C19 (by simpa using h), fun h => C20 (by simpa using h), fun h => C21 (by simpa using h), fun h => C22 (by simpa using h), fun h => C23 (by simpa using h), fun h => C24 (by simpa using h), fun h => C25 (by simpa using h), fun h => C26 (by simpa using h), fun h => C27 (by simpa using h), fun h => C28 (by simpa using h), fun h => C29 (by simpa using h), fun h => C30 (by simpa using h), fun h => C31 (by simpa using h), fun h => C32 (by simpa using h), fun h => C33 (by simpa using h), fun h => C34 (by simpa using h), fun h => C35 (by simpa using h), E0⟩
          · refine stepOk_some (i := 15) (by rfl) (by rfl) ?_
            rintro u L T w' hT hu hL hp hcl ⟨C0, C1, C2, C3, C4, C5, C6, C7, C8, C9, C10, C11, C12, C13, C14, C15, C16, C17, C18, C19, C20, C21, C22, C23, C24, C25, C26, C27, C28, C29, C30, C31, C32, C33, C34, C35, E0⟩ K hK
            have hg := getD_bool ((hT 69).trans (C13 (hp.of 13 (by kernel_rfl))))
            have e14 := C14 (hp.of 14 (by kernel_rfl))
            go_simp
            refine (HLA.out w' E0).mono ?_
            rintro e w1 ⟨he, hx1⟩
            subst w1
            subst he
            refine hK _ _ ?_
            exact ⟨fun h => C0 (by simpa using h), fun h => C1 (by simpa using h), fun h => C2 (by simpa using h), fun h => C3 (by simpa using h), fun h => C4 (by simpa using h), fun h => C5 (by simpa using h), fun h => C6 (by simpa using h), fun h => C7 (by simpa using h), fun h => C8 (by simpa using h), fun h => C9 (by simpa using h), fun h => C10 (by simpa using h), fun h => C11 (by simpa using h), fun h => C12 (by simpa using h), fun h => C13 (by simpa using h), fun h => C14 (by simpa using h), fun _ => rfl, fun h => C16 (by simpa using h), fun h => C17 (by simpa using h), fun h => C18 (by simpa using h), fun h => C19 (by simpa using h), fun h => C20 (by simpa using h), fun h => C21 (by simpa using h), fun h => C22 (by simpa using h), fun h => C23 (by simpa using h), fun h => C24 (by simpa using h), fun h => C25 (by simpa using h), fun h => C26 (by simpa using h), fun h => C27 (by simpa using h), fun h => C28 (by simpa using h), fun h => C29 (by simpa using h), fun h => C30 (by simpa using h), fun h => C31 (by simpa using h), fun h => C32 (by simpa using h), fun h => C33 (by simpa using h), fun h => C34 (by simpa using h), fun h => C35 (by simpa using h), E0⟩
          · refine stepOk_some (i := 16) (by rfl) (by rfl) ?_
            rintro u L T w' hT hu hL hp hcl ⟨C0, C1, C2, C3, C4, C5, C6, C7, C8, C9, C10, C11, C12, C13, C14, C15, C16, C17, C18, C19, C20, C21, C22, C23, C24, C25, C26, C27, C28, C29, C30, C31, C32, C33, C34, C35, E0⟩ K hK
            have hg := getD_bool ((hT 69).trans (C13 (hp.of 13 (by kernel_rfl))))
            have e1 : u 9 = .pointer (some ⟨q, 0, none⟩) := hu 9 (by decide)
            go_simp
            refine hK _ _ ?_
            exact ⟨fun h => C0 (by simpa using h), fun h => C1 (by simpa using h), fun h => C2 (by simpa using h), fun h => C3 (by simpa using h), fun h => C4 (by simpa using h), fun h => C5 (by simpa using h), fun h => C6 (by simpa using h), fun h => C7 (by simpa using h), fun h => C8 (by simpa using h), fun h => C9 (by simpa using h), fun h => C10 (by simpa using h), fun h => C11 (by simpa using h), fun h => C12 (by simpa using h), fun h => C13 (by simpa using h), fun h => C14 (by simpa using h), fun h => C15 (by simpa using h), fun _ => rfl, fun h => C17 (by simpa using h), fun h => C18 (by simpa using h), fun h => C19 (by simpa using h), fun h => C20 (by simpa using h), fun h => C21 (by simpa using h), fun h => C22 (by simpa using h), fun h => C23 (by simpa using h), fun h => C24 (by simpa using h), fun h => C25 (by simpa using h), fun h => C26 (by simpa using h), fun h => C27 (by simpa using h), fun h => C28 (by simpa using h), fun h => C29 (by simpa using h), fun h => C30 (by simpa using h), fun h => C31 (by simpa using h), fun h => C32 (by simpa using h), fun h => C33 (by simpa using h), fun h => C34 (by simpa using h), fun h => C35 (by simpa using h), E0⟩
          · refine stepOk_some (i := 17) (by rfl) (by rfl) ?_
            rintro u L T w' hT hu hL hp hcl ⟨C0, C1, C2, C3, C4, C5, C6, C7, C8, C9, C10, C11, C12, C13, C14, C15, C16, C17, C18, C19, C20, C21, C22, C23, C24, C25, C26, C27, C28, C29, C30, C31, C32, C33, C34, C35, E0⟩ K hK
            have hg := getD_bool ((hT 69).trans (C13 (hp.of 13 (by kernel_rfl))))
            have e16 := C16 (hp.of 16 (by kernel_rfl))
            go_simp
            try go_bits
            try (rw [if_neg (by omega)]; go_simp)
            try (rw [if_pos (by omega)]; go_simp)
            refine hK _ _ ?_
            exact ⟨fun h => C0 (by simpa using h), fun h => C1 (by simpa using h), fun h => C2 (by simpa using h), fun h => C3 (by simpa using h), fun h => C4 (by simpa using h), fun h => C5 (by simpa using h), fun h => C6 (by simpa using h), fun h => C7 (by simpa using h), fun h => C8 (by simpa using h), fun h => C9 (by simpa using h), fun h => C10 (by simpa using h), fun h => C11 (by simpa using h), fun h => C12 (by simpa using h), fun h => C13 (by simpa using h), fun h => C14 (by simpa using h), fun h => C15 (by simpa using h), fun h => C16 (by simpa using h), fun _ => rfl, fun h => C18 (by simpa using h), fun h => C19 (by simpa using h), fun h => C20 (by simpa using h), fun h => C21 (by simpa using h), fun h => C22 (by simpa using h), fun h => C23 (by simpa using h), fun h => C24 (by simpa using h), fun h => C25 (by simpa using h), fun h => C26 (by simpa using h), fun h => C27 (by simpa using h), fun h => C28 (by simpa using h), fun h => C29 (by simpa using h), fun h => C30 (by simpa using h), fun h => C31 (by simpa using h), fun h => C32 (by simpa using h), fun h => C33 (by simpa using h), fun h => C34 (by simpa using h), fun h => C35 (by simpa using h), E0⟩
          · refine stepOk_some (i := 18) (by rfl) (by rfl) ?_
            rintro u L T w' hT hu hL hp hcl ⟨C0, C1, C2, C3, C4, C5, C6, C7, C8, C9, C10, C11, C12, C13, C14, C15, C16, C17, C18, C19, C20, C21, C22, C23, C24, C25, C26, C27, C28, C29, C30, C31, C32, C33, C34, C35, E0⟩ K hK
            have hg := getD_bool ((hT 69).trans (C13 (hp.of 13 (by kernel_rfl))))
            have e17 := C17 (hp.of 17 (by kernel_rfl))
            go_simp
            try go_bits
            try (rw [if_neg (by omega)]; go_simp)
            try (rw [if_pos (by omega)]; go_simp)
            refine hK _ _ ?_
            exact ⟨fun h => C0 (by simpa using h), fun h => C1 (by simpa using h), fun h => C2 (by simpa using h), fun h => C3 (by simpa using h), fun h => C4 (by simpa using h), fun h => C5 (by simpa using h), fun h => C6 (by simpa using h), fun h => C7 (by simpa using h), fun h => C8 (by simpa using h), fun h => C9 (by simpa using h), fun h => C10 (by simpa using h), fun h => C11 (by simpa using h), fun h => C12 (by simpa using h), fun h => C13 (by simpa using h), fun h => C14 (by simpa using h), fun h => C15 (by simpa using h), fun h => C16 (by simpa using h), fun h => C17 (by simpa using h), fun _ => rfl, fun h => C19 (by simpa using h), fun h => C20 (by simpa using h), fun h => C21 (by simpa using h), fun h => C22 (by simpa using h), fun h => C23 (by simpa using h), fun h => C24 (by simpa using h), fun h => C25 (by simpa using h), fun h => C26 (by simpa using h), fun h => C27 (by simpa using h), fun h => C28 (by simpa using h), fun h => C29 (by simpa using h), fun h => C30 (by simpa using h), fun h => C31 (by simpa using h), fun h => C32 (by simpa using h), fun h => C33 (by simpa using h), fun h => C34 (by simpa using h), fun h => C35 (by simpa using h), E0⟩
          · refine stepOk_some (i := 19) (by rfl) (by rfl) ?_
            rintro u L T w' hT hu hL hp hcl ⟨C0, C1, C2, C3, C4, C5, C6, C7, C8, C9, C10, C11, C12, C13, C14, C15, C16, C17, C18, C19, C20, C21, C22, C23, C24, C25, C26, C27, C28, C29, C30, C31, C32, C33, C34, C35, E0⟩ K hK
            have hg := getD_bool ((hT 69).trans (C13 (hp.of 13 (by kernel_rfl))))
            have e18 := C18 (hp.of 18 (by kernel_rfl))
            have c1 := (cells2 (HRQ.out w' E0)).2
            go_simp
            refine hK _ _ ?_
            exact ⟨fun h => C0 (by simpa using h), fun h => C1 (by simpa using h), fun h => C2 (by simpa using h), fun h => C3 (by simpa using h), fun h => C4 (by simpa using h), fun h => C5 (by simpa using h), fun h => C6 (by simpa using h), fun h => C7 (by simpa using h), fun h => C8 (by simpa using h), fun h => C9 (by simpa using h), fun h => C10 (by simpa using h), fun h => C11 (by simpa using h), fun h => C12 (by simpa using h), fun h => C13 (by simpa using h), fun h => C14 (by simpa using h), fun h => C15 (by simpa using h), fun h => C16 (by simpa using h), fun h => C17 (by simpa using h), fun h => C18 (by simpa using h), fun _ => rfl, fun h => C20 (by simpa using h), fun h => C21 (by simpa using h), fun h => C22 (by simpa using h), fun h => C23 (by simpa using h), fun h => C24 (by simpa using h), fun h => C25 (by simpa using h), fun h => C26 (by simpa using h), fun h => C27 (by simpa using h), fun h => C28 (by simpa using h), fun h => C29 (by simpa using h), fun h => C30 (by simpa using h), fun h => C31 (by simpa using h), fun h => C32 (by simpa using h), fun h => C33 (by simpa using h), fun h => C34 (by simpa using h), fun h => C35 (by simpa using h), E0⟩
          · refine stepOk_some (i := 20) (by rfl) (by rfl) ?_
            rintro u L T w' hT hu hL hp hcl ⟨C0, C1, C2, C3, C4, C5, C6, C7, C8, C9, C10, C11, C12, C13, C14, C15, C16, C17, C18, C19, C20, C21, C22, C23, C24, C25, C26, C27, C28, C29, C30, C31, C32, C33, C34, C35, E0⟩ K hK
            have hg := getD_bool ((hT 69).trans (C13 (hp.of 13 (by kernel_rfl))))
            have e19 := C19 (hp.of 19 (by kernel_rfl))
            go_simp
            try go_bits
            try (rw [if_neg (by omega)]; go_simp)
            try (rw [if_pos (by omega)]; go_simp)
            refine hK _ _ ?_
            exact ⟨fun h => C0 (by simpa using h), fun h => C1 (by simpa using h), fun h => C2 (by simpa using h), fun h => C3 (by simpa using h), fun h => C4 (by simpa using h), fun h => C5 (by simpa using h), fun h => C6 (by simpa using h), fun h => C7 (by simpa using h), fun h => C8 (by simpa using h), fun h => C9 (by simpa using h), fun h => C10 (by simpa using h), fun h => C11 (by simpa using h), fun h => C12 (by simpa using h), fun h => C13 (by simpa using h), fun h => C14 (by simpa using h), fun h => C15 (by simpa using h), fun h => C16 (by simpa using h), fun h => C17 (by simpa using h), fun h => C18 (by simpa using h), fun h => C19 (by simpa using h), fun _ => rfl, fun h => C21 (by simpa using h), fun h => C22 (by simpa using h), fun h => C23 (by simpa using h), fun h => C24 (by simpa using h), fun h => C25 (by simpa using h), fun h => C26 (by simpa using h), fun h => C27 (by simpa using h), fun h => C28 (by simpa using h), fun h => C29 (by simpa using h), fun h => C30 (by simpa using h), fun h => C31 (by simpa using h), fun h => C32 (by simpa using h), fun h => C33 (by simpa using h), fun h => C34 (by simpa using h), fun h => C35 (by simpa using h), E0⟩
          · refine stepOk_some (i := 21) (by rfl) (by rfl) ?_
            rintro u L T w' hT hu hL hp hcl ⟨C0, C1, C2, C3, C4, C5, C6, C7, C8, C9, C10, C11, C12, C13, C14, C15, C16, C17, C18, C19, C20, C21, C22, C23, C24, C25, C26, C27, C28, C29, C30, C31, C32, C33, C34, C35, E0⟩ K hK
            have hg := getD_bool ((hT 69).trans (C13 (hp.of 13 (by kernel_rfl))))
            have e20 := C20 (hp.of 20 (by kernel_rfl))
            go_simp
            try go_bits
            try (rw [if_neg (by omega)]; go_simp)
            try (rw [if_pos (by omega)]; go_simp)
            refine hK _ _ ?_
            exact ⟨fun h => C0 (by simpa using h), fun h => C1 (by simpa using h), fun h => C2 (by simpa using h), fun h => C3 (by simpa using h), fun h => C4 (by simpa using h), fun h => C5 (by simpa using h), fun h => C6 (by simpa using h), fun h => C7 (by simpa using h), fun h => C8 (by simpa using h), fun h => C9 (by simpa using h), fun h => C10 (by simpa using h), fun h => C11 (by simpa using h), fun h => C12 (by simpa using h), fun h => C13 (by simpa using h), fun h => C14 (by simpa using h), fun h => C15 (by simpa using h), fun h => C16 (by simpa using h), fun h => C17 (by simpa using h), fun h => C18 (by simpa using h), fun h => C19 (by simpa using h), fun h => C20 (by simpa using h), fun _ => rfl, fun h => C22 (by simpa using h), fun h => C23 (by simpa using h), fun h => C24 (by simpa using h), fun h => C25 (by simpa using h), fun h => C26 (by simpa using h), fun h => C27 (by simpa using h), fun h => C28 (by simpa using h), fun h => C29 (by simpa using h), fun h => C30 (by simpa using h), fun h => C31 (by simpa using h), fun h => C32 (by simpa using h), fun h => C33 (by simpa using h), fun h => C34 (by simpa using h), fun h => C35 (by simpa using h), E0⟩
          · refine stepOk_some (i := 22) (by rfl) (by rfl) ?_
            rintro u L T w' hT hu hL hp hcl ⟨C0, C1, C2, C3, C4, C5, C6, C7, C8, C9, C10, C11, C12, C13, C14, C15, C16, C17, C18, C19, C20, C21, C22, C23, C24, C25, C26, C27, C28, C29, C30, C31, C32, C33, C34, C35, E0⟩ K hK
            have hg := getD_bool ((hT 69).trans (C13 (hp.of 13 (by kernel_rfl))))
            have e15 := C15 (hp.of 15 (by kernel_rfl))
            have e21 := C21 (hp.of 21 (by kernel_rfl))
            go_simp
            try go_bits
            try (rw [if_neg (by omega)]; go_simp)
            try (rw [if_pos (by omega)]; go_simp)
            refine hK _ _ ?_
            exact ⟨fun h => C0 (by simpa using h), fun h => C1 (by simpa using h), fun h => C2 (by simpa using h), fun h => C3 (by simpa using h), fun h => C4 (by simpa using h), fun h => C5 (by simpa using h), fun h => C6 (by simpa using h), fun h => C7 (by simpa using h), fun h => C8 (by simpa using h), fun h => C9 (by simpa using h), fun h => C10 (by simpa using h), fun h => C11 (by simpa using h), fun h => C12 (by simpa using h), fun h => C13 (by simpa using h), fun h => C14 (by simpa using h), fun h => C15 (by simpa using h), fun h => C16 (by simpa using h), fun h => C17 (by simpa using h), fun h => C18 (by simpa using h), fun h => C19 (by simpa using h), fun h => C20 (by simpa using h), fun h => C21 (by simpa using h), fun _ => rfl, fun h => C23 (by simpa using h), fun h => C24 (by simpa using h), fun h => C25 (by simpa using h), fun h => C26 (by simpa using h), fun h => C27 (by simpa using h), fun h => C28 (by simpa using h), fun h => C29 (by simpa using h), fun h => C30 (by simpa using h), fun h => C31 (by simpa using h), fun h => C32 (by simpa using h), fun h => C33 (by simpa using h), fun h => C34 (by simpa using h), fun h => C35 (by simpa using h), E0⟩
          · refine stepOk_some (i := 23) (by rfl) (by rfl) ?_
            rintro u L T w' hT hu hL hp hcl ⟨C0, C1, C2, C3, C4, C5, C6, C7, C8, C9, C10, C11, C12, C13, C14, C15, C16, C17, C18, C19, C20, C21, C22, C23, C24, C25, C26, C27, C28, C29, C30, C31, C32, C33, C34, C35, E0⟩ K hK
            have e13 := C13 (hp.of 13 (by kernel_rfl))
            have e22 := C22 (hp.of 22 (by kernel_rfl))
            go_simp
            try go_bits
            try (rw [if_neg (by omega)]; go_simp)
            try (rw [if_pos (by omega)]; go_simp)
            refine hK _ _ ?_
            exact ⟨fun h => C0 (by simpa using h), fun h => C1 (by simpa using h), fun h => C2 (by simpa using h), fun h => C3 (by simpa using h), fun h => C4 (by simpa using h), fun h => C5 (by simpa using h), fun h => C6 (by simpa using h), fun h => C7 (by simpa using h), fun h => C8 (by simpa using h), fun h => C9 (by simpa using h), fun h => C10 (by simpa using h), fun h => C11 (by simpa using h), fun h => C12 (by simpa using h), fun h => C13 (by simpa using h), fun h => C14 (by simpa using h), fun h => C15 (by simpa using h), fun h => C16 (by simpa using h), fun h => C17 (by simpa using h), fun h => C18 (by simpa using h), fun h => C19 (by simpa using h), fun h => C20 (by simpa using h), fun h => C21 (by simpa using h), fun h => C22 (by simpa using h), fun _ => rfl, fun h => C24 (by simpa using h), fun h => C25 (by simpa using h), fun h => C26 (by simpa using h), fun h => C27 (by simpa using h), fun h => C28 (by simpa using h), fun h => C29 (by simpa using h), fun h => C30 (by simpa using h), fun h => C31 (by simpa using h), fun h => C32 (by simpa using h), fun h => C33 (by simpa using h), fun h => C34 (by simpa using h), fun h => C35 (by simpa using h), E0⟩
          · refine stepOk_some (i := 24) (by rfl) (by rfl) ?_
            rintro u L T w' hT hu hL hp hcl ⟨C0, C1, C2, C3, C4, C5, C6, C7, C8, C9, C10, C11, C12, C13, C14, C15, C16, C17, C18, C19, C20, C21, C22, C23, C24, C25, C26, C27, C28, C29, C30, C31, C32, C33, C34, C35, E0⟩ K hK
            have e23 := C23 (hp.of 23 (by kernel_rfl))
            go_simp
            refine hK _ _ ?_
            exact ⟨fun h => C0 (by simpa using h), fun h => C1 (by simpa using h), fun h => C2 (by simpa using h), fun h => C3 (by simpa using h), fun h => C4 (by simpa using h), fun h => C5 (by simpa using h), fun h => C6 (by simpa using h), fun h => C7 (by simpa using h), fun h => C8 (by simpa using h), fun h => C9 (by simpa using h), fun h => C10 (by simpa using h), fun h => C11 (by simpa using h), fun h => C12 (by simpa using h), fun h => C13 (by simpa using h), fun h => C14 (by simpa using h), fun h => C15 (by simpa using h), fun h => C16 (by simpa using h), fun h => C17 (by simpa using h), fun h => C18 (by simpa using h), fun h => C19 (by simpa using h), fun h => C20 (by simpa using h), fun h => C21 (by simpa using h), fun h => C22 (by simpa using h), fun h => C23 (by simpa using h), fun _ => rfl, fun h => C25 (by simpa using h), fun h => C26 (by simpa using h), fun h => C27 (by simpa using h), fun h => C28 (by simpa using h), fun h => C29 (by simpa using h), fun h => C30 (by simpa using h), fun h => C31 (by simpa using h), fun h => C32 (by simpa using h), fun h => C33 (by simpa using h), fun h => C34 (by simpa using h), fun h => C35 (by simpa using h), E0⟩
          · refine stepOk_some (i := 25) (by rfl) (by rfl) ?_
            rintro u L T w' hT hu hL hp hcl ⟨C0, C1, C2, C3, C4, C5, C6, C7, C8, C9, C10, C11, C12, C13, C14, C15, C16, C17, C18, C19, C20, C21, C22, C23, C24, C25, C26, C27, C28, C29, C30, C31, C32, C33, C34, C35, E0⟩ K hK
            have hg := getD_bool ((hT 80).trans (C24 (hp.of 24 (by kernel_rfl))))
            have e1 : u 8 = .pointer (some ⟨p, 0, none⟩) := hu 8 (by decide)
            go_simp
            refine hK _ _ ?_
            exact ⟨fun h => C0 (by simpa using h), fun h => C1 (by simpa using h), fun h => C2 (by simpa using h), fun h => C3 (by simpa using h), fun h => C4 (by simpa using h), fun h => C5 (by simpa using h), fun h => C6 (by simpa using h), fun h => C7 (by simpa using h), fun h => C8 (by simpa using h), fun h => C9 (by simpa using h), fun h => C10 (by simpa using h), fun h => C11 (by simpa using h), fun h => C12 (by simpa using h), fun h => C13 (by simpa using h), fun h => C14 (by simpa using h), fun h => C15 (by simpa using h), fun h => C16 (by simpa using h), fun h => C17 (by simpa using h), fun h => C18 (by simpa using h), fun h => C19 (by simpa using h), fun h => C20 (by simpa using h), fun h => C21 (by simpa using h), fun h => C22 (by simpa using h), fun h => C23 (by simpa using h), fun h => C24 (by simpa using h), fun _ => rfl, fun h => C26 (by simpa using h), fun h => C27 (by simpa using h), fun h => C28 (by simpa using h), fun h => C29 (by simpa using h), fun h => C30 (by simpa using h), fun h => C31 (by simpa using h), fun h => C32 (by simpa using h), fun h => C33 (by simpa using h), fun h => C34 (by simpa using h), fun h => C35 (by simpa using h), E0⟩
          · refine stepOk_some (i := 26) (by rfl) (by rfl) ?_
            rintro u L T w' hT hu hL hp hcl ⟨C0, C1, C2, C3, C4, C5, C6, C7, C8, C9, C10, C11, C12, C13, C14, C15, C16, C17, C18, C19, C20, C21, C22, C23, C24, C25, C26, C27, C28, C29, C30, C31, C32, C33, C34, C35, E0⟩ K hK
            have hg := getD_bool ((hT 80).trans (C24 (hp.of 24 (by kernel_rfl))))
            have e25 := C25 (hp.of 25 (by kernel_rfl))
            go_simp
            refine Calls.mono (HCH.out w' E0) ?_
            rintro e w1 ⟨v1, he, hr1, hx1⟩
            subst he
            refine hK _ _ ?_
            exact ⟨fun h => C0 (by simpa using h), fun h => C1 (by simpa using h), fun h => (C2 (by simpa using h)).ext hx1, fun h => (C3 (by simpa using h)).ext hx1, fun h => (C4 (by simpa using h)).ext hx1, fun h => C5 (by simpa using h), fun h => C6 (by simpa using h), fun h => C7 (by simpa using h), fun h => C8 (by simpa using h), fun h => C9 (by simpa using h), fun h => C10 (by simpa using h), fun h => C11 (by simpa using h), fun h => C12 (by simpa using h), fun h => C13 (by simpa using h), fun h => C14 (by simpa using h), fun h => C15 (by simpa using h), fun h => C16 (by simpa using h), fun h => C17 (by simpa using h), fun h => C18 (by simpa using h), fun h => C19 (by simpa using h), fun h => C20 (by simpa using h), fun h => C21 (by simpa using h), fun h => C22 (by simpa using h), fun h => C23 (by simpa using h), fun h => C24 (by simpa using h), fun h => C25 (by simpa using h), fun _ => hr1, fun h => (C27 (by simpa using h)).ext hx1, fun h => C28 (by simpa using h), fun h => C29 (by simpa using h), fun h => C30 (by simpa using h), fun h => C31 (by simpa using h), fun h => (C32 (by simpa using h)).ext hx1, fun h => C33 (by simpa using h), fun h => C34 (by simpa using h), fun h => C35 (by simpa using h), ext_trans (E0) hx1⟩
          · refine stepOk_some (i := 27) (by rfl) (by rfl) ?_
            rintro u L T w' hT hu hL hp hcl ⟨C0, C1, C2, C3, C4, C5, C6, C7, C8, C9, C10, C11, C12, C13, C14, C15, C16, C17, C18, C19, C20, C21, C22, C23, C24, C25, C26, C27, C28, C29, C30, C31, C32, C33, C34, C35, E0⟩ K hK
            have hg := getD_bool ((hT 80).trans (C24 (hp.of 24 (by kernel_rfl))))
            have hmk := run_make32 w'
            go_simp
            have hx1 : Ext w' (w'.alloc zeroObj) := Below.alloc (Below.refl _ _) (Nat.le_refl _) _
            have hr1 := make32_sl w'
            refine hK _ _ ?_
            exact ⟨fun h => C0 (by simpa using h), fun h => C1 (by simpa using h), fun h => (C2 (by simpa using h)).ext hx1, fun h => (C3 (by simpa using h)).ext hx1, fun h => (C4 (by simpa using h)).ext hx1, fun h => C5 (by simpa using h), fun h => C6 (by simpa using h), fun h => C7 (by simpa using h), fun h => C8 (by simpa using h), fun h => C9 (by simpa using h), fun h => C10 (by simpa using h), fun h => C11 (by simpa using h), fun h => C12 (by simpa using h), fun h => C13 (by simpa using h), fun h => C14 (by simpa using h), fun h => C15 (by simpa using h), fun h => C16 (by simpa using h), fun h => C17 (by simpa using h), fun h => C18 (by simpa using h), fun h => C19 (by simpa using h), fun h => C20 (by simpa using h), fun h => C21 (by simpa using h), fun h => C22 (by simpa using h), fun h => C23 (by simpa using h), fun h => C24 (by simpa using h), fun h => C25 (by simpa using h), fun h => (C26 (by simpa using h)).ext hx1, fun _ => hr1, fun h => C28 (by simpa using h), fun h => C29 (by simpa using h), fun h => C30 (by simpa using h), fun h => C31 (by simpa using h), fun h => (C32 (by simpa using h)).ext hx1, fun h => C33 (by simpa using h), fun h => C34 (by simpa using h), fun h => C35 (by simpa using h), ext_trans (E0) hx1⟩
          · refine stepOk_some (i := 28) (by rfl) (by rfl) ?_
            rintro u L T w' hT hu hL hp hcl ⟨C0, C1, C2, C3, C4, C5, C6, C7, C8, C9, C10, C11, C12, C13, C14, C15, C16, C17, C18, C19, C20, C21, C22, C23, C24, C25, C26, C27, C28, C29, C30, C31, C32, C33, C34, C35, E0⟩ K hK
            have hg := getD_bool ((hT 80).trans (C24 (hp.of 24 (by kernel_rfl))))
            have e1 : u 9 = .pointer (some ⟨q, 0, none⟩) := hu 9 (by decide)
            go_simp
            refine hK _ _ ?_
            exact ⟨fun h => C0 (by simpa using h), fun h => C1 (by simpa using h), fun h => C2 (by simpa using h), fun h => C3 (by simpa using h), fun h => C4 (by simpa using h), fun h => C5 (by simpa using h), fun h => C6 (by simpa using h), fun h => C7 (by simpa using h), fun h => C8 (by simpa using h), fun h => C9 (by simpa using h), fun h => C10 (by simpa using h), fun h => C11 (by simpa using h), fun h => C12 (by simpa using h), fun h => C13 (by simpa using h), fun h => C14 (by simpa using h), fun h => C15 (by simpa using h), fun h => C16 (by simpa using h), fun h => C17 (by simpa using h), fun h => C18 (by simpa using h), fun h => C19 (by simpa using h), fun h => C20 (by simpa using h), fun h => C21 (by simpa using h), fun h => C22 (by simpa using h), fun h => C23 (by simpa using h), fun h => C24 (by simpa using h), fun h => C25 (by simpa using h), fun h => C26 (by simpa using h), fun h => C27 (by simpa using h), fun _ => rfl, fun h => C29 (by simpa using h), fun h => C30 (by simpa using h), fun h => C31 (by simpa using h), fun h => C32 (by simpa using h), fun h => C33 (by simpa using h), fun h => C34 (by simpa using h), fun h => C35 (by simpa using h), E0⟩
          · refine stepOk_some (i := 29) (by rfl) (by rfl) ?_
            rintro u L T w' hT hu hL hp hcl ⟨C0, C1, C2, C3, C4, C5, C6, C7, C8, C9, C10, C11, C12, C13, C14, C15, C16, C17, C18, C19, C20, C21, C22, C23, C24, C25, C26, C27, C28, C29, C30, C31, C32, C33, C34, C35, E0⟩ K hK
            have hg := getD_bool ((hT 80).trans (C24 (hp.of 24 (by kernel_rfl))))
            have e28 := C28 (hp.of 28 (by kernel_rfl))
            go_simp
            try go_bits
            try (rw [if_neg (by omega)]; go_simp)
            try (rw [if_pos (by omega)]; go_simp)
            refine hK _ _ ?_
            exact ⟨fun h => C0 (by simpa using h), fun h => C1 (by simpa using h), fun h => C2 (by simpa using h), fun h => C3 (by simpa using h), fun h => C4 (by simpa using h), fun h => C5 (by simpa using h), fun h => C6 (by simpa using h), fun h => C7 (by simpa using h), fun h => C8 (by simpa using h), fun h => C9 (by simpa using h), fun h => C10 (by simpa using h), fun h => C11 (by simpa using h), fun h => C12 (by simpa using h), fun h => C13 (by simpa using h), fun h => C14 (by simpa using h), fun h => C15 (by simpa using h), fun h => C16 (by simpa using h), fun h => C17 (by simpa using h), fun h => C18 (by simpa using h), fun h => C19 (by simpa using h), fun h => C20 (by simpa using h), fun h => C21 (by simpa using h), fun h => C22 (by simpa using h), fun h => C23 (by simpa using h), fun h => C24 (by simpa using h), fun h => C25 (by simpa using h), fun h => C26 (by simpa using h), fun h => C27 (by simpa using h), fun h => C28 (by simpa using h), fun _ => rfl, fun h => C30 (by simpa using h), fun h => C31 (by simpa using h), fun h => C32 (by simpa using h), fun h => C33 (by simpa using h), fun h => C34 (by simpa using h), fun h => C35 (by simpa using h), E0⟩
          · refine stepOk_some (i := 30) (by rfl) (by rfl) ?_
            rintro u L T w' hT hu hL hp hcl ⟨C0, C1, C2, C3, C4, C5, C6, C7, C8, C9, C10, C11, C12, C13, C14, C15, C16, C17, C18, C19, C20, C21, C22, C23, C24, C25, C26, C27, C28, C29, C30, C31, C32, C33, C34, C35, E0⟩ K hK
            have hg := getD_bool ((hT 80).trans (C24 (hp.of 24 (by kernel_rfl))))
            have e29 := C29 (hp.of 29 (by kernel_rfl))
            go_simp
            try go_bits
            try (rw [if_neg (by omega)]; go_simp)
            try (rw [if_pos (by omega)]; go_simp)
            refine hK _ _ ?_
            exact ⟨fun h => C0 (by simpa using h), fun h => C1 (by simpa using h), fun h => C2 (by simpa using h), fun h => C3 (by simpa using h), fun h => C4 (by simpa using h), fun h => C5 (by simpa using h), fun h => C6 (by simpa using h), fun h => C7 (by simpa using h), fun h => C8 (by simpa using h), fun h => C9 (by simpa using h), fun h => C10 (by simpa using h), fun h => C11 (by simpa using h), fun h => C12 (by simpa using h), fun h => C13 (by simpa using h), fun h => C14 (by simpa using h), fun h => C15 (by simpa using h), fun h => C16 (by simpa using h), fun h => C17 (by simpa using h), fun h => C18 (by simpa using h), fun h => C19 (by simpa using h), fun h => C20 (by simpa using h), fun h => C21 (by simpa using h), fun h => C22 (by simpa using h), fun h => C23 (by simpa using h), fun h => C24 (by simpa using h), fun h => C25 (by simpa using h), fun h => C26 (by simpa using h), fun h => C27 (by simpa using h), fun h => C28 (by simpa using h), fun h => C29 (by simpa using h), fun _ => rfl, fun h => C31 (by simpa using h), fun h => C32 (by simpa using h), fun h => C33 (by simpa using h), fun h => C34 (by simpa using h), fun h => C35 (by simpa using h), E0⟩
          · refine stepOk_some (i := 31) (by rfl) (by rfl) ?_
            rintro u L T w' hT hu hL hp hcl ⟨C0, C1, C2, C3, C4, C5, C6, C7, C8, C9, C10, C11, C12, C13, C14, C15, C16, C17, C18, C19, C20, C21, C22, C23, C24, C25, C26, C27, C28, C29, C30, C31, C32, C33, C34, C35, E0⟩ K hK
            have hg := getD_bool ((hT 80).trans (C24 (hp.of 24 (by kernel_rfl))))
            have e30 := C30 (hp.of 30 (by kernel_rfl))
            have c1 := (cells2 (HRQ.out w' E0)).2
            go_simp
            refine hK _ _ ?_
            exact ⟨fun h => C0 (by simpa using h), fun h => C1 (by simpa using h), fun h => C2 (by simpa using h), fun h => C3 (by simpa using h), fun h => C4 (by simpa using h), fun h => C5 (by simpa using h), fun h => C6 (by simpa using h), fun h => C7 (by simpa using h), fun h => C8 (by simpa using h), fun h => C9 (by simpa using h), fun h => C10 (by simpa using h), fun h => C11 (by simpa using h), fun h => C12 (by simpa using h), fun h => C13 (by simpa using h), fun h => C14 (by simpa using h), fun h => C15 (by simpa using h), fun h => C16 (by simpa using h), fun h => C17 (by simpa using h), fun h => C18 (by simpa using h), fun h => C19 (by simpa using h), fun h => C20 (by simpa using h), fun h => C21 (by simpa using h), fun h => C22 (by simpa using h), fun h => C23 (by simpa using h), fun h => C24 (by simpa using h), fun h => C25 (by simpa using h), fun h => C26 (by simpa using h), fun h => C27 (by simpa using h), fun h => C28 (by simpa using h), fun h => C29 (by simpa using h), fun h => C30 (by simpa using h), fun _ => rfl, fun h => C32 (by simpa using h), fun h => C33 (by simpa using h), fun h => C34 (by simpa using h), fun h => C35 (by simpa using h), E0⟩
          · refine stepOk_some (i := 32) (by rfl) (by rfl) ?_
            rintro u L T w' hT hu hL hp hcl ⟨C0, C1, C2, C3, C4, C5, C6, C7, C8, C9, C10, C11, C12, C13, C14, C15, C16, C17, C18, C19, C20, C21, C22, C23, C24, C25, C26, C27, C28, C29, C30, C31, C32, C33, C34, C35, E0⟩ K hK
            have hg := getD_bool ((hT 80).trans (C24 (hp.of 24 (by kernel_rfl))))
            have e31 := C31 (hp.of 31 (by kernel_rfl))
            have c27 := C27 (hp.of 27 (by kernel_rfl))
            have e27 := hT 83
            go_simp
            refine Calls.mono (HRC.out _ w' E0 c27) ?_
            rintro e w1 ⟨v1, he, hr1, hx1⟩
            subst he
            refine hK _ _ ?_
            exact ⟨fun h => C0 (by simpa using h), fun h => C1 (by simpa using h), fun h => (C2 (by simpa using h)).ext hx1, fun h => (C3 (by simpa using h)).ext hx1, fun h => (C4 (by simpa using h)).ext hx1, fun h => C5 (by simpa using h), fun h => C6 (by simpa using h), fun h => C7 (by simpa using h), fun h => C8 (by simpa using h), fun h => C9 (by simpa using h), fun h => C10 (by simpa using h), fun h => C11 (by simpa using h), fun h => C12 (by simpa using h), fun h => C13 (by simpa using h), fun h => C14 (by simpa using h), fun h => C15 (by simpa using h), fun h => C16 (by simpa using h), fun h => C17 (by simpa using h), fun h => C18 (by simpa using h), fun h => C19 (by simpa using h), fun h => C20 (by simpa using h), fun h => C21 (by simpa using h), fun h => C22 (by simpa using h), fun h => C23 (by simpa using h), fun h => C24 (by simpa using h), fun h => C25 (by simpa using h), fun h => (C26 (by simpa using h)).ext hx1, fun h => (C27 (by simpa using h)).ext hx1, fun h => C28 (by simpa using h), fun h => C29 (by simpa using h), fun h => C30 (by simpa using h), fun h => C31 (by simpa using h), fun _ => hr1, fun h => C33 (by simpa using h), fun h => C34 (by simpa using h), fun h => C35 (by simpa using h), ext_trans (E0) hx1⟩
          · refine stepOk_some (i := 33) (by rfl) (by rfl) ?_
            rintro u L T w' hT hu hL hp hcl ⟨C0, C1, C2, C3, C4, C5, C6, C7, C8, C9, C10, C11, C12, C13, C14, C15, C16, C17, C18, C19, C20, C21, C22, C23, C24, C25, C26, C27, C28, C29, C30, C31, C32, C33, C34, C35, E0⟩ K hK
            have hg := getD_bool ((hT 80).trans (C24 (hp.of 24 (by kernel_rfl))))
            have c26 := C26 (hp.of 26 (by kernel_rfl))
            have c32 := C32 (hp.of 32 (by kernel_rfl))
            have e26 := hT 82
            have e32 := hT 88
            go_simp
            refine (HSM.out _ _ w' c26 c32).mono ?_
            rintro e w1 ⟨he, hx1⟩
            subst w1
            subst he
            refine hK _ _ ?_
            exact ⟨fun h => C0 (by simpa using h), fun h => C1 (by simpa using h), fun h => C2 (by simpa using h), fun h => C3 (by simpa using h), fun h => C4 (by simpa using h), fun h => C5 (by simpa using h), fun h => C6 (by simpa using h), fun h => C7 (by simpa using h), fun h => C8 (by simpa using h), fun h => C9 (by simpa using h), fun h => C10 (by simpa using h), fun h => C11 (by simpa using h), fun h => C12 (by simpa using h), fun h => C13 (by simpa using h), fun h => C14 (by simpa using h), fun h => C15 (by simpa using h), fun h => C16 (by simpa using h), fun h => C17 (by simpa using h), fun h => C18 (by simpa using h), fun h => C19 (by simpa using h), fun h => C20 (by simpa using h), fun h => C21 (by simpa using h), fun h => C22 (by simpa using h), fun h => C23 (by simpa using h), fun h => C24 (by simpa using h), fun h => C25 (by simpa using h), fun h => C26 (by simpa using h), fun h => C27 (by simpa using h), fun h => C28 (by simpa using h), fun h => C29 (by simpa using h), fun h => C30 (by simpa using h), fun h => C31 (by simpa using h), fun h => C32 (by simpa using h), fun _ => rfl, fun h => C34 (by simpa using h), fun h => C35 (by simpa using h), E0⟩
          · refine stepOk_some (i := 34) (by rfl) (by rfl) ?_
            rintro u L T w' hT hu hL hp hcl ⟨C0, C1, C2, C3, C4, C5, C6, C7, C8, C9, C10, C11, C12, C13, C14, C15, C16, C17, C18, C19, C20, C21, C22, C23, C24, C25, C26, C27, C28, C29, C30, C31, C32, C33, C34, C35, E0⟩ K hK
            have e24 := C24 (hp.of 24 (by kernel_rfl))
            have e33 := C33 (hp.of 33 (by kernel_rfl))
            go_simp
            try go_bits
            try (rw [if_neg (by omega)]; go_simp)
            try (rw [if_pos (by omega)]; go_simp)
            refine hK _ _ ?_
            exact ⟨fun h => C0 (by simpa using h), fun h => C1 (by simpa using h), fun h => C2 (by simpa using h), fun h => C3 (by simpa using h), fun h => C4 (by simpa using h), fun h => C5 (by simpa using h), fun h => C6 (by simpa using h), fun h => C7 (by simpa using h), fun h => C8 (by simpa using h), fun h => C9 (by simpa using h), fun h => C10 (by simpa using h), fun h => C11 (by simpa using h), fun h => C12 (by simpa using h), fun h => C13 (by simpa using h), fun h => C14 (by simpa using h), fun h => C15 (by simpa using h), fun h => C16 (by simpa using h), fun h => C17 (by simpa using h), fun h => C18 (by simpa using h), fun h => C19 (by simpa using h), fun h => C20 (by simpa using h), fun h => C21 (by simpa using h), fun h => C22 (by simpa using h), fun h => C23 (by simpa using h), fun h => C24 (by simpa using h), fun h => C25 (by simpa using h), fun h => C26 (by simpa using h), fun h => C27 (by simpa using h), fun h => C28 (by simpa using h), fun h => C29 (by simpa using h), fun h => C30 (by simpa using h), fun h => C31 (by simpa using h), fun h => C32 (by simpa using h), fun h => C33 (by simpa using h), fun _ => rfl, fun h => C35 (by simpa using h), E0⟩
          · refine stepOk_some (i := 35) (by rfl) (by rfl) ?_
            rintro u L T w' hT hu hL hp hcl ⟨C0, C1, C2, C3, C4, C5, C6, C7, C8, C9, C10, C11, C12, C13, C14, C15, C16, C17, C18, C19, C20, C21, C22, C23, C24, C25, C26, C27, C28, C29, C30, C31, C32, C33, C34, C35, E0⟩ K hK
            have e34 := C34 (hp.of 34 (by kernel_rfl))
            go_simp
            refine hK _ _ ?_
            exact ⟨fun h => C0 (by simpa using h), fun h => C1 (by simpa using h), fun h => C2 (by simpa using h), fun h => C3 (by simpa using h), fun h => C4 (by simpa using h), fun h => C5 (by simpa using h), fun h => C6 (by simpa using h), fun h => C7 (by simpa using h), fun h => C8 (by simpa using h), fun h => C9 (by simpa using h), fun h => C10 (by simpa using h), fun h => C11 (by simpa using h), fun h => C12 (by simpa using h), fun h => C13 (by simpa using h), fun h => C14 (by simpa using h), fun h => C15 (by simpa using h), fun h => C16 (by simpa using h), fun h => C17 (by simpa using h), fun h => C18 (by simpa using h), fun h => C19 (by simpa using h), fun h => C20 (by simpa using h), fun h => C21 (by simpa using h), fun h => C22 (by simpa using h), fun h => C23 (by simpa using h), fun h => C24 (by simpa using h), fun h => C25 (by simpa using h), fun h => C26 (by simpa using h), fun h => C27 (by simpa using h), fun h => C28 (by simpa using h), fun h => C29 (by simpa using h), fun h => C30 (by simpa using h), fun h => C31 (by simpa using h), fun h => C32 (by simpa using h), fun h => C33 (by simpa using h), fun h => C34 (by simpa using h), fun _ => rfl, E0⟩
        · rintro u L w' hall hu ⟨C0, C1, C2, C3, C4, C5, C6, C7, C8, C9, C10, C11, C12, C13, C14, C15, C16, C17, C18, C19, C20, C21, C22, C23, C24, C25, C26, C27, C28, C29, C30, C31, C32, C33, C34, C35, E0⟩
          replace C0 := C0 (hall 0 (by omega))
          replace C1 := C1 (hall 1 (by omega))
          replace C2 := C2 (hall 2 (by omega))
          replace C3 := C3 (hall 3 (by omega))
          replace C4 := C4 (hall 4 (by omega))
          replace C5 := C5 (hall 5 (by omega))
          replace C6 := C6 (hall 6 (by omega))
          replace C7 := C7 (hall 7 (by omega))
          replace C8 := C8 (hall 8 (by omega))
          replace C9 := C9 (hall 9 (by omega))
          replace C10 := C10 (hall 10 (by omega))
          replace C11 := C11 (hall 11 (by omega))
          replace C12 := C12 (hall 12 (by omega))
          replace C13 := C13 (hall 13 (by omega))
          replace C14 := C14 (hall 14 (by omega))
          replace C15 := C15 (hall 15 (by omega))
          replace C16 := C16 (hall 16 (by omega))
          replace C17 := C17 (hall 17 (by omega))
          replace C18 := C18 (hall 18 (by omega))
          replace C19 := C19 (hall 19 (by omega))
          replace C20 := C20 (hall 20 (by omega))
          replace C21 := C21 (hall 21 (by omega))
          replace C22 := C22 (hall 22 (by omega))
          replace C23 := C23 (hall 23 (by omega))
          replace C24 := C24 (hall 24 (by omega))
          replace C25 := C25 (hall 25 (by omega))
          replace C26 := C26 (hall 26 (by omega))
          replace C27 := C27 (hall 27 (by omega))
          replace C28 := C28 (hall 28 (by omega))
          replace C29 := C29 (hall 29 (by omega))
          replace C30 := C30 (hall 30 (by omega))
          replace C31 := C31 (hall 31 (by omega))
          replace C32 := C32 (hall 32 (by omega))
          replace C33 := C33 (hall 33 (by omega))
          replace C34 := C34 (hall 34 (by omega))
          replace C35 := C35 (hall 35 (by omega))
          simp only [fill, List.setIfInBounds_toArray, List.set_cons_succ, List.set_cons_zero, C0, C1, C5, C6, C7, C8, C9, C10, C11, C12, C13, C14, C15, C16, C17, C18, C19, C20, C21, C22, C23, C24, C25, C28, C29, C30, C31, C33, C34, C35]
          generalize u 58 = s0 at *
          generalize u 59 = s1 at *
          generalize u 60 = s2 at *
          generalize u 82 = s3 at *
          generalize u 83 = s4 at *
          generalize u 88 = s5 at *
          clear C0 C1 C2 C3 C4 C5 C6 C7 C8 C9 C10 C11 C12 C13 C14 C15 C16 C17 C18 C19 C20 C21 C22 C23 C24 C25 C26 C27 C28 C29 C30 C31 C32 C33 C34 C35 hu hall
        -- end inv
          go_wp2
          go_ret
          exact ⟨rfl, ext_trans HX2.out (ext_trans HXr.out E0)⟩
      · obtain ⟨g4, o4, c4, rfl, hc4⟩ := row_cells hy4 hK0
        have hK1 : 0 < Kn.length := List.length_pos_iff.2 hK0
        have hy0 := (hc4 0 hK1).1
        have hfN : ((Kn.getD 0 evD).n : Int) = (firstN Kn : Int) := by
          cases Kn with
          | nil => exact absurd rfl hK0
          | cons a b => rfl
        rw [hfN] at hy0
        simp only [Nat.mul_zero, Nat.add_zero] at hy0
        have hix4 := index_evR g4 o4 Kn.length c4 0 hK1
        simp only [Nat.mul_zero, Nat.add_zero, Int.natCast_zero, Int.ofNat_zero] at hix4
        have t1 : decide ((0 : Int) < (Kn.length : Int)) = true := decide_eq_true (by omega)
        clear hc4 hy4 hfN
        go_wp2_with fail
        -- inv {'ops': [('mv', 56, 8, '.pointer (some ⟨p, 0, none⟩)'), ('mv', 57, 2, '.int .u64 (m : Int)'), ('callx', 58, [0, 1], "HSE.out w' E0", "SeqE (u 58) F w'"), ('callx', 59, [], "RAW:have c2 := C2 (hp.of 2 (by kernel_rfl));; have e2 := hT 58;; go_simp;; refine Calls.mono (HCO.out _ w' c2) ?_;; rintro e w1 ⟨v1, he, hr1, hx1⟩;; subst he", "RowE w' (u 59) F"), ('callx', 60, [], "RAW:have c3 := C3 (hp.of 3 (by kernel_rfl));; have e3 := hT 59;; go_simp;; refine Calls.mono (HBA.out _ w' c3) ?_;; rintro e w1 ⟨v1, he, hr1, hx1⟩;; subst he", "RowE w' (u 60) F"), ('mv', 61, 11, '.slice rao F.length rcap'), ('raw', 62, [5], "have c4 := C4 (hp.of 4 (by kernel_rfl));; have e4 := hT 60;; go_simp;; refine (HEQ.out _ w' c4 E0).mono ?_;; rintro e w1 ⟨he, hx1⟩;; subst he", '.bool true'), ('mw', 63, 6, '.bool true'), ('mv', 64, 8, '.pointer (some ⟨p, 0, none⟩)'), ('call', 65, [8], "HFI.out w' E0", '.int .u64 (firstN Kn : Int)'), ('mv', 66, 14, '.int .u64 (firstN Kn : Int)'), ('op', 67, [9, 10], '.bool true'), ('op', 68, [7, 11], '.bool true'), ('mw', 69, 12, '.bool true'), ('mv', 70, 8, '.pointer (some ⟨p, 0, none⟩)'), ('callq', 71, [14], "HLA.out w' E0", '.int .u64 (Ls.length : Int)'), ('mv', 72, 9, '.pointer (some ⟨q, 0, none⟩)'), ('op', 73, [16], '.pointer (some ⟨q, 0, none⟩)'), ('op', 74, [17], '.pointer (some ⟨q, 1, none⟩)'), ('lf', 75, 18, '.slice xao Ls.length xcap', "have c1 := (cells2 (HRQ.out w' E0)).2"), ('op', 76, [19], '.int .i64 (Ls.length : Int)'), ('op', 77, [20], '.int .u64 (Ls.length : Int)'), ('op', 78, [15, 21], '.bool true'), ('op', 79, [13, 22], '.bool true'), ('mw', 80, 23, '.bool true'), ('mv', 81, 8, '.pointer (some ⟨p, 0, none⟩)'), ('callx', 82, [25], "HCH.out w' E0", "SlB w' (u 82) (chainR zero32 Ls)"), ('callx', 83, [], "RAW:have hmk := run_make32 w';; go_simp;; have hx1 : Ext w' (w'.alloc zeroObj) := Below.alloc (Below.refl _ _) (Nat.le_refl _) _;; have hr1 := make32_sl w'", "SlB w' (u 83) zero32"), ('mv', 84, 9, '.pointer (some ⟨q, 0, none⟩)'), ('op', 85, [28], '.pointer (some ⟨q, 0, none⟩)'), ('op', 86, [29], '.pointer (some ⟨q, 1, none⟩)'), ('lf', 87, 30, '.slice xao Ls.length xcap', "have c1 := (cells2 (HRQ.out w' E0)).2"), ('callx', 88, [31], "RAW:have c27 := C27 (hp.of 27 (by kernel_rfl));; have e27 := hT 83;; go_simp;; refine Calls.mono (HRC.out _ w' E0 c27) ?_;; rintro e w1 ⟨v1, he, hr1, hx1⟩;; subst he", "SlB w' (u 88) (chainR zero32 Ls)"), ('raw', 89, [], "have c26 := C26 (hp.of 26 (by kernel_rfl));; have c32 := C32 (hp.of 32 (by kernel_rfl));; have e26 := hT 82;; have e32 := hT 88;; go_simp;; refine (HSM.out _ _ w' c26 c32).mono ?_;; rintro e w1 ⟨he, hx1⟩;; subst w1;; subst he", '.bool true'), ('op', 90, [24, 33], '.bool true'), ('mw', 6, 34, '.bool true')], 'G': {8: (7, 'true'), 9: (7, 'true'), 10: (7, 'true'), 11: (7, 'true'), 14: (13, 'true'), 15: (13, 'true'), 16: (13, 'true'), 17: (13, 'true'), 18: (13, 'true'), 19: (13, 'true'), 20: (13, 'true'), 21: (13, 'true'), 22: (13, 'true'), 25: (24, 'true'), 26: (24, 'true'), 27: (24, 'true'), 28: (24, 'true'), 29: (24, 'true'), 30: (24, 'true'), 31: (24, 'true'), 32: (24, 'true'), 33: (24, 'true')}, 'W': [('E0', "Ext wr w'", 'Below.drew HX4.out')], 'over': {6: {'E0': 'ext_trans E0 hx1', 'C2': 'fun h => (C2 (by simpa using h)).ext hx1', 'C3': 'fun h => (C3 (by simpa using h)).ext hx1', 'C4': 'fun h => (C4 (by simpa using h)).ext hx1', 'C26': 'fun h => (C26 (by simpa using h)).ext hx1', 'C27': 'fun h => (C27 (by simpa using h)).ext hx1', 'C32': 'fun h => (C32 (by simpa using h)).ext hx1'}}}
        refine wp_region_any (by kernel_rfl) ?_
        change wpAny _ _ _ _ _ _ _ (World.drew _)
        refine wpAny_inv (n := 36) [56, 57, 58, 59, 60, 61, 62, 63, 64, 65, 66, 67, 68, 69, 70, 71, 72, 73, 74, 75, 76, 77, 78, 79, 80, 81, 82, 83, 84, 85, 86, 87, 88, 89, 90, 6] (fun u L w' =>
            (L 0 = true → u 56 = .pointer (some ⟨p, 0, none⟩)) ∧
            (L 1 = true → u 57 = .int .u64 (m : Int)) ∧
            (L 2 = true → SeqE (u 58) F w') ∧
            (L 3 = true → RowE w' (u 59) F) ∧
            (L 4 = true → RowE w' (u 60) F) ∧
            (L 5 = true → u 61 = .slice rao F.length rcap) ∧
            (L 6 = true → u 62 = .bool true) ∧
            (L 7 = true → u 63 = .bool true) ∧
            (L 8 = true → u 64 = .pointer (some ⟨p, 0, none⟩)) ∧
            (L 9 = true → u 65 = .int .u64 (firstN Kn : Int)) ∧
            (L 10 = true → u 66 = .int .u64 (firstN Kn : Int)) ∧
            (L 11 = true → u 67 = .bool true) ∧
            (L 12 = true → u 68 = .bool true) ∧
            (L 13 = true → u 69 = .bool true) ∧
            (L 14 = true → u 70 = .pointer (some ⟨p, 0, none⟩)) ∧
            (L 15 = true → u 71 = .int .u64 (Ls.length : Int)) ∧
            (L 16 = true → u 72 = .pointer (some ⟨q, 0, none⟩)) ∧
            (L 17 = true → u 73 = .pointer (some ⟨q, 0, none⟩)) ∧
            (L 18 = true → u 74 = .pointer (some ⟨q, 1, none⟩)) ∧
            (L 19 = true → u 75 = .slice xao Ls.length xcap) ∧
            (L 20 = true → u 76 = .int .i64 (Ls.length : Int)) ∧
            (L 21 = true → u 77 = .int .u64 (Ls.length : Int)) ∧
            (L 22 = true → u 78 = .bool true) ∧
            (L 23 = true → u 79 = .bool true) ∧
            (L 24 = true → u 80 = .bool true) ∧
            (L 25 = true → u 81 = .pointer (some ⟨p, 0, none⟩)) ∧
            (L 26 = true → SlB w' (u 82) (chainR zero32 Ls)) ∧
            (L 27 = true → SlB w' (u 83) zero32) ∧
            (L 28 = true → u 84 = .pointer (some ⟨q, 0, none⟩)) ∧
            (L 29 = true → u 85 = .pointer (some ⟨q, 0, none⟩)) ∧
            (L 30 = true → u 86 = .pointer (some ⟨q, 1, none⟩)) ∧
            (L 31 = true → u 87 = .slice xao Ls.length xcap) ∧
            (L 32 = true → SlB w' (u 88) (chainR zero32 Ls)) ∧
            (L 33 = true → u 89 = .bool true) ∧
            (L 34 = true → u 90 = .bool true) ∧
            (L 35 = true → u 6 = .bool true) ∧
            (Ext wr w'))
          (by rfl) (by kernel_rfl) (by kernel_rfl) (by rfl) ?_ ?_ ?_
        · exact ⟨(fun h => by cases h), (fun h => by cases h), (fun h => by cases h), (fun h => by cases h), (fun h => by cases h), (fun h => by cases h), (fun h => by cases h), (fun h => by cases h), (fun h => by cases h), (fun h => by cases h), (fun h => by cases h), (fun h => by cases h), (fun h => by cases h), (fun h => by cases h), (fun h => by cases h), (fun h => by cases h), (fun h => by cases h), (fun h => by cases h), (fun h => by cases h), (fun h => by cases h), (fun h => by cases h), (fun h => by cases h), (fun h => by cases h), (fun h => by cases h), (fun h => by cases h), (fun h => by cases h), (fun h => by cases h), (fun h => by cases h), (fun h => by cases h), (fun h => by cases h), (fun h => by cases h), (fun h => by cases h), (fun h => by cases h), (fun h => by cases h), (fun h => by cases h), (fun h => by cases h), Below.drew HX4.out⟩
        · refine ⟨⟨⟨⟨⟨⟨⟨⟨⟨⟨⟨⟨⟨⟨⟨⟨⟨⟨⟨⟨⟨⟨⟨⟨⟨⟨⟨⟨⟨⟨⟨⟨⟨⟨⟨⟨trivial, ?_⟩, ?_⟩, ?_⟩, ?_⟩, ?_⟩, ?_⟩, ?_⟩, ?_⟩, ?_⟩, ?_⟩, ?_⟩, ?_⟩, ?_⟩, ?_⟩, ?_⟩, ?_⟩, ?_⟩, ?_⟩, ?_⟩, ?_⟩, ?_⟩, ?_⟩, ?_⟩, ?_⟩, ?_⟩, ?_⟩, ?_⟩, ?_⟩, ?_⟩, ?_⟩, ?_⟩, ?_⟩, ?_⟩, ?_⟩, ?_⟩, ?_⟩
          · refine stepOk_some (i := 0) (by rfl) (by rfl) ?_
            rintro u L T w' hT hu hL hp hcl ⟨C0, C1, C2, C3, C4, C5, C6, C7, C8, C9, C10, C11, C12, C13, C14, C15, C16, C17, C18, C19, C20, C21, C22, C23, C24, C25, C26, C27, C28, C29, C30, C31, C32, C33, C34, C35, E0⟩ K hK
            have e1 : u 8 = .pointer (some ⟨p, 0, none⟩) := hu 8 (by decide)
            go_simp
            refine hK _ _ ?_
            exact ⟨fun _ => rfl, fun h => C1 (by simpa using h), fun h => C2 (by simpa using h), fun h => C3 (by simpa using h), fun h => C4 (by simpa using h), fun h => C5 (by simpa using h), fun h => C6 (by simpa using h), fun h => C7 (by simpa using h), fun h => C8 (by simpa using h), fun h => C9 (by simpa using h), fun h => C10 (by simpa using h), fun h => C11 (by simpa using h), fun h => C12 (by simpa using h), fun h => C13 (by simpa using h), fun h => C14 (by simpa using h), fun h => C15 (by simpa using h), fun h => C16 (by simpa using h), fun h => C17 (by simpa using h), fun h => C18 (by simpa using h), fun h => C19 (by simpa using h), fun h => C20 (by simpa using h), fun h => C21 (by simpa using h), fun h => C22 (by simpa using h), fun h => C23 (by simpa using h), fun h => C24 (by simpa using h), fun h => C25 (by simpa using h), fun h => C26 (by simpa using h), fun h => C27 (by simpa using h), fun h => C28 (by simpa using h), fun h => C29 (by simpa using h), fun h => C30 (by simpa using h), fun h => C31 (by simpa using h), fun h => C32 (by simpa using h), fun h => C33 (by simpa using h), fun h => C34 (by simpa using h), fun h => C35 (by simpa using h), E0⟩
          · refine stepOk_some (i := 1) (by rfl) (by rfl) ?_
            rintro u L T w' hT hu hL hp hcl ⟨C0, C1, C2, C3, C4, C5, C6, C7, C8, C9, C10, C11, C12, C13, C14, C15, C16, C17, C18, C19, C20, C21, C22, C23, C24, C25, C26, C27, C28, C29, C30, C31, C32, C33, C34, C35, E0⟩ K hK
            have e1 : u 2 = .int .u64 (m : Int) := hu 2 (by decide)
            go_simp
            refine hK _ _ ?_
            exact ⟨fun h => C0 (by simpa using h), fun _ => rfl, fun h => C2 (by simpa using h), fun h => C3 (by simpa using h), fun h => C4 (by simpa using h), fun h => C5 (by simpa using h), fun h => C6 (by simpa using h), fun h => C7 (by simpa using h), fun h => C8 (by simpa using h), fun h => C9 (by simpa using h), fun h => C10 (by simpa using h), fun h => C11 (by simpa using h), fun h => C12 (by simpa using h), fun h => C13 (by simpa using h), fun h => C14 (by simpa using h), fun h => C15 (by simpa using h), fun h => C16 (by simpa using h), fun h => C17 (by simpa using h), fun h => C18 (by simpa using h), fun h => C19 (by simpa using h), fun h => C20 (by simpa using h), fun h => C21 (by simpa using h), fun h => C22 (by simpa using h), fun h => C23 (by simpa using h), fun h => C24 (by simpa using h), fun h => C25 (by simpa using h), fun h => C26 (by simpa using h), fun h => C27 (by simpa using h), fun h => C28 (by simpa using h), fun h => C29 (by simpa using h), fun h => C30 (by simpa using h), fun h => C31 (by simpa using h), fun h => C32 (by simpa using h), fun h => C33 (by simpa using h), fun h => C34 (by simpa using h), fun h => C35 (by simpa using h), E0⟩
          · refine stepOk_some (i := 2) (by rfl) (by rfl) ?_
            rintro u L T w' hT hu hL hp hcl ⟨C0, C1, C2, C3, C4, C5, C6, C7, C8, C9, C10, C11, C12, C13, C14, C15, C16, C17, C18, C19, C20, C21, C22, C23, C24, C25, C26, C27, C28, C29, C30, C31, C32, C33, C34, C35, E0⟩ K hK
            have e0 := C0 (hp.of 0 (by kernel_rfl))
            have e1 := C1 (hp.of 1 (by kernel_rfl))
            go_simp
            refine Calls.mono (HSE.out w' E0) ?_
            rintro e w1 ⟨v1, he, hr1, hx1⟩
            subst he
            refine hK _ _ ?_
            exact ⟨fun h => C0 (by simpa using h), fun h => C1 (by simpa using h), fun _ => hr1, fun h => (C3 (by simpa using h)).ext hx1, fun h => (C4 (by simpa using h)).ext hx1, fun h => C5 (by simpa using h), fun h => C6 (by simpa using h), fun h => C7 (by simpa using h), fun h => C8 (by simpa using h), fun h => C9 (by simpa using h), fun h => C10 (by simpa using h), fun h => C11 (by simpa using h), fun h => C12 (by simpa using h), fun h => C13 (by simpa using h), fun h => C14 (by simpa using h), fun h => C15 (by simpa using h), fun h => C16 (by simpa using h), fun h => C17 (by simpa using h), fun h => C18 (by simpa using h), fun h => C19 (by simpa using h), fun h => C20 (by simpa using h), fun h => C21 (by simpa using h), fun h => C22 (by simpa using h), fun h => C23 (by simpa using h), fun h => C24 (by simpa using h), fun h => C25 (by simpa using h), fun h => (C26 (by simpa using h)).ext hx1, fun h => (C27 (by simpa using h)).ext hx1, fun h => C28 (by simpa using h), fun h => C29 (by simpa using h), fun h => C30 (by simpa using h), fun h => C31 (by simpa using h), fun h => (C32 (by simpa using h)).ext hx1, fun h => C33 (by simpa using h), fun h => C34 (by simpa using h), fun h => C35 (by simpa using h), ext_trans (E0) hx1⟩
          · refine stepOk_some (i := 3) (by rfl) (by rfl) ?_
            rintro u L T w' hT hu hL hp hcl ⟨C0, C1, C2, C3, C4, C5, C6, C7, C8, C9, C10, C11, C12, C13, C14, C15, C16, C17, C18, C19, C20, C21, C22, C23, C24, C25, C26, C27, C28, C29, C30, C31, C32, C33, C34, C35, E0⟩ K hK
            have c2 := C2 (hp.of 2 (by kernel_rfl))
            have e2 := hT 58
            go_simp
            refine Calls.mono (HCO.out _ w' c2) ?_
            rintro e w1 ⟨v1, he, hr1, hx1⟩
            subst he
            refine hK _ _ ?_
            exact ⟨fun h => C0 (by simpa using h), fun h => C1 (by simpa using h), fun h => (C2 (by simpa using h)).ext hx1, fun _ => hr1, fun h => (C4 (by simpa using h)).ext hx1, fun h => C5 (by simpa using h), fun h => C6 (by simpa using h), fun h => C7 (by simpa using h), fun h => C8 (by simpa using h), fun h => C9 (by simpa using h), fun h => C10 (by simpa using h), fun h => C11 (by simpa using h), fun h => C12 (by simpa using h), fun h => C13 (by simpa using h), fun h => C14 (by simpa using h), fun h => C15 (by simpa using h), fun h => C16 (by simpa using h), fun h => C17 (by simpa using h), fun h => C18 (by simpa using h), fun h => C19 (by simpa using h), fun h => C20 (by simpa using h), fun h => C21 (by simpa using h), fun h => C22 (by simpa using h), fun h => C23 (by simpa using h), fun h => C24 (by simpa using h), fun h => C25 (by simpa using h), fun h => (C26 (by simpa using h)).ext hx1, fun h => (C27 (by simpa using h)).ext hx1, fun h => C28 (by simpa using h), fun h => C29 (by simpa using h), fun h => C30 (by simpa using h), fun h => C31 (by simpa using h), fun h => (C32 (by simpa using h)).ext hx1, fun h => C33 (by simpa using h), fun h => C34 (by simpa using h), fun h => C35 (by simpa using h), ext_trans (E0) hx1⟩
          · refine stepOk_some (i := 4) (by rfl) (by rfl) ?_
            rintro u L T w' hT hu hL hp hcl ⟨C0, C1, C2, C3, C4, C5, C6, C7, C8, C9, C10, C11, C12, C13, C14, C15, C16, C17, C18, C19, C20, C21, C22, C23, C24, C25, C26, C27, C28, C29, C30, C31, C32, C33, C34, C35, E0⟩ K hK
            have c3 := C3 (hp.of 3 (by kernel_rfl))
            have e3 := hT 59
            go_simp
            refine Calls.mono (HBA.out _ w' c3) ?_
            rintro e w1 ⟨v1, he, hr1, hx1⟩
            subst he
            refine hK _ _ ?_
            exact ⟨fun h => C0 (by simpa using h), fun h => C1 (by simpa using h), fun h => (C2 (by simpa using h)).ext hx1, fun h => (C3 (by simpa using h)).ext hx1, fun _ => hr1, fun h => C5 (by simpa using h), fun h => C6 (by simpa using h), fun h => C7 (by simpa using h), fun h => C8 (by simpa using h), fun h => C9 (by simpa using h), fun h => C10 (by simpa using h), fun h => C11 (by simpa using h), fun h => C12 (by simpa using h), fun h => C13 (by simpa using h), fun h => C14 (by simpa using h), fun h => C15 (by simpa using h), fun h => C16 (by simpa using h), fun h => C17 (by simpa using h), fun h => C18 (by simpa using h), fun h => C19 (by simpa using h), fun h => C20 (by simpa using h), fun h => C21 (by simpa using h), fun h => C22 (by simpa using h), fun h => C23 (by simpa using h), fun h => C24 (by simpa using h), fun h => C25 (by simpa using h), fun h => (C26 (by simpa using h)).ext hx1, fun h => (C27 (by simpa using h)).ext hx1, fun h => C28 (by simpa using h), fun h => C29 (by simpa using h), fun h => C30 (by simpa using h), fun h => C31 (by simpa using h), fun h => (C32 (by simpa using h)).ext hx1, fun h => C33 (by simpa using h), fun h => C34 (by simpa using h), fun h => C35 (by simpa using h), ext_trans (E0) hx1⟩
          · refine stepOk_some (i := 5) (by rfl) (by rfl) ?_
            rintro u L T w' hT hu hL hp hcl ⟨C0, C1, C2, C3, C4, C5, C6, C7, C8, C9, C10, C11, C12, C13, C14, C15, C16, C17, C18, C19, C20, C21, C22, C23, C24, C25, C26, C27, C28, C29, C30, C31, C32, C33, C34, C35, E0⟩ K hK
            have e1 : u 11 = .slice rao F.length rcap := hu 11 (by decide)
            go_simp
            refine hK _ _ ?_
            exact ⟨fun h => C0 (by simpa using h), fun h => C1 (by simpa using h), fun h => C2 (by simpa using h), fun h => C3 (by simpa using h), fun h => C4 (by simpa using h), fun _ => rfl, fun h => C6 (by simpa using h), fun h => C7 (by simpa using h), fun h => C8 (by simpa using h), fun h => C9 (by simpa using h), fun h => C10 (by simpa using h), fun h => C11 (by simpa using h), fun h => C12 (by simpa using h), fun h => C13 (by simpa using h), fun h => C14 (by simpa using h), fun h => C15 (by simpa using h), fun h => C16 (by simpa using h), fun h => C17 (by simpa using h), fun h => C18 (by simpa using h), fun h => C19 (by simpa using h), fun h => C20 (by simpa using h), fun h => C21 (by simpa using h), fun h => C22 (by simpa using h), fun h => C23 (by simpa using h), fun h => C24 (by simpa using h), fun h => C25 (by simpa using h), fun h => C26 (by simpa using h), fun h => C27 (by simpa using h), fun h => C28 (by simpa using h), fun h => C29 (by simpa using h), fun h => C30 (by simpa using h), fun h => C31 (by simpa using h), fun h => C32 (by simpa using h), fun h => C33 (by simpa using h), fun h => C34 (by simpa using h), fun h => C35 (by simpa using h), E0⟩
          · refine stepOk_some (i := 6) (by rfl) (by rfl) ?_
            rintro u L T w' hT hu hL hp hcl ⟨C0, C1, C2, C3, C4, C5, C6, C7, C8, C9, C10, C11, C12, C13, C14, C15, C16, C17, C18, C19, C20, C21, C22, C23, C24, C25, C26, C27, C28, C29, C30, C31, C32, C33, C34, C35, E0⟩ K hK
            have e5 := C5 (hp.of 5 (by kernel_rfl))
            have c4 := C4 (hp.of 4 (by kernel_rfl))
            have e4 := hT 60
            go_simp
            refine (HEQ.out _ w' c4 E0).mono ?_
            rintro e w1 ⟨he, hx1⟩
            subst he
            refine hK _ _ ?_
            exact ⟨fun h => C0 (by simpa using h), fun h => C1 (by simpa using h), fun h => (C2 (by simpa using h)).ext hx1, fun h => (C3 (by simpa using h)).ext hx1, fun h => (C4 (by simpa using h)).ext hx1, fun h => C5 (by simpa using h), fun _ => rfl, fun h => C7 (by simpa using h), fun h => C8 (by simpa using h), fun h => C9 (by simpa using h), fun h => C10 (by simpa using h), fun h => C11 (by simpa using h), fun h => C12 (by simpa using h), fun h => C13 (by simpa using h), fun h => C14 (by simpa using h), fun h => C15 (by simpa using h), fun h => C16 (by simpa using h), fun h => C17 (by simpa using h), fun h => C18 (by simpa using h), fun h => C19 (by simpa using h), fun h => C20 (by simpa using h), fun h => C21 (by simpa using h), fun h => C22 (by simpa using h), fun h => C23 (by simpa using h), fun h => C24 (by simpa using h), fun h => C25 (by simpa using h), fun h => (C26 (by simpa using h)).ext hx1, fun h => (C27 (by simpa using h)).ext hx1, fun h => C28 (by simpa using h), fun h => C29 (by simpa using h), fun h => C30 (by simpa using h), fun h => C31 (by simpa using h), fun h => (C32 (by simpa using h)).ext hx1, fun h => C33 (by simpa using h), fun h => C34 (by simpa using h), fun h => C35 (by simpa using h), ext_trans E0 hx1⟩
          · refine stepOk_some (i := 7) (by rfl) (by rfl) ?_
            rintro u L T w' hT hu hL hp hcl ⟨C0, C1, C2, C3, C4, C5, C6, C7, C8, C9, C10, C11, C12, C13, C14, C15, C16, C17, C18, C19, C20, C21, C22, C23, C24, C25, C26, C27, C28, C29, C30, C31, C32, C33, C34, C35, E0⟩ K hK
            have e6 := C6 (hp.of 6 (by kernel_rfl))
            go_simp
            refine hK _ _ ?_
            exact ⟨fun h => C0 (by simpa using h), fun h => C1 (by simpa using h), fun h => C2 (by simpa using h), fun h => C3 (by simpa using h), fun h => C4 (by simpa using h), fun h => C5 (by simpa using h), fun h => C6 (by simpa using h), fun _ => rfl, fun h => C8 (by simpa using h), fun h => C9 (by simpa using h), fun h => C10 (by simpa using h), fun h => C11 (by simpa using h), fun h => C12 (by simpa using h), fun h => C13 (by simpa using h), fun h => C14 (by simpa using h), fun h => C15 (by simpa using h), fun h => C16 (by simpa using h), fun h => C17 (by simpa using h), fun h => C18 (by simpa using h), fun h => C19 (by simpa using h), fun h => C20 (by simpa using h), fun h => C21 (by simpa using h), fun h => C22 (by simpa using h), fun h => C23 (by simpa using h), fun h => C24 (by simpa using h), fun h => C25 (by simpa using h), fun h => C26 (by simpa using h), fun h => C27 (by simpa using h), fun h => C28 (by simpa using h), fun h => C29 (by simpa using h), fun h => C30 (by simpa using h), fun h => C31 (by simpa using h), fun h => C32 (by simpa using h), fun h => C33 (by simpa using h), fun h => C34 (by simpa using h), fun h => C35 (by simpa using h), E0⟩
          · refine stepOk_some (i := 8) (by rfl) (by rfl) ?_
            rintro u L T w' hT hu hL hp hcl ⟨C0, C1, C2, C3, C4, C5, C6, C7, C8, C9, C10, C11, C12, C13, C14, C15, C16, C17, C18, C19, C20, C21, C22, C23, C24, C25, C26, C27, C28, C29, C30, C31, C32, C33, C34, C35, E0⟩ K hK
            have hg := getD_bool ((hT 63).trans (C7 (hp.of 7 (by kernel_rfl))))
            have e1 : u 8 = .pointer (some ⟨p, 0, none⟩) := hu 8 (by decide)
            go_simp
            refine hK _ _ ?_
            exact ⟨fun h => C0 (by simpa using h), fun h => C1 (by simpa using h), fun h => C2 (by simpa using h), fun h => C3 (by simpa using h), fun h => C4 (by simpa using h), fun h => C5 (by simpa using h), fun h => C6 (by simpa using h), fun h => C7 (by simpa using h), fun _ => rfl, fun h => C9 (by simpa using h), fun h => C10 (by simpa using h), fun h => C11 (by simpa using h), fun h => C12 (by simpa using h), fun h => C13 (by simpa using h), fun h => C14 (by simpa using h), fun h => C15 (by simpa using h), fun h => C16 (by simpa using h), fun h => C17 (by simpa using h), fun h => C18 (by simpa using h), fun h => C19 (by simpa using h), fun h => C20 (by simpa using h), fun h => C21 (by simpa using h), fun h => C22 (by simpa using h), fun h => C23 (by simpa using h), fun h => C24 (by simpa using h), fun h => C25 (by simpa using h), fun h => C26 (by simpa using h), fun h => C27 (by simpa using h), fun h => C28 (by simpa using h), fun h => C29 (by simpa using h), fun h => C30 (by simpa using h), fun h => C31 (by simpa using h), fun h => C32 (by simpa using h), fun h => C33 (by simpa using h), fun h => C34 (by simpa using h), fun h => C35 (by simpa using h), E0⟩
          · refine stepOk_some (i := 9) (by rfl) (by rfl) ?_
            rintro u L T w' hT hu hL hp hcl ⟨C0, C1, C2, C3, C4, C5, C6, C7, C8, C9, C10, C11, C12, C13, C14, C15, C16, C17, C18, C19, C20, C21, C22, C23, C24, C25, C26, C27, C28, C29, C30, C31, C32, C33, C34, C35, E0⟩ K hK
            have hg := getD_bool ((hT 63).trans (C7 (hp.of 7 (by kernel_rfl))))
            have e8 := C8 (hp.of 8 (by kernel_rfl))
            go_simp
            refine (HFI.out w' E0).mono ?_
            rintro e w1 ⟨he, hx1⟩
            subst he
            refine hK _ _ ?_
            exact ⟨fun h => C0 (by simpa using h), fun h => C1 (by simpa using h), fun h => (C2 (by simpa using h)).ext hx1, fun h => (C3 (by simpa using h)).ext hx1, fun h => (C4 (by simpa using h)).ext hx1, fun h => C5 (by simpa using h), fun h => C6 (by simpa using h), fun h => C7 (by simpa using h), fun h => C8 (by simpa using h), fun _ => rfl, fun h => C10 (by simpa using h), fun h => C11 (by simpa using h), fun h => C12 (by simpa using h), fun h => C13 (by simpa using h), fun h => C14 (by simpa using h), fun h => C15 (by simpa using h), fun h => C16 (by simpa using h), fun h => C17 (by simpa using h), fun h => C18 (by simpa using h), fun h => C19 (by simpa using h), fun h => C20 (by simpa using h), fun h => C21 (by simpa using h), fun h => C22 (by simpa using h), fun h => C23 (by simpa using h), fun h => C24 (by simpa using h), fun h => C25 (by simpa using h), fun h => (C26 (by simpa using h)).ext hx1, fun h => (C27 (by simpa using h)).ext hx1, fun h => C28 (by simpa using h), fun h => C29 (by simpa using h), fun h => C30 (by simpa using h), fun h => C31 (by simpa using h), fun h => (C32 (by simpa using h)).ext hx1, fun h => C33 (by simpa using h), fun h => C34 (by simpa using h), fun h => C35 (by simpa using h), ext_trans (E0) hx1⟩
          · refine stepOk_some (i := 10) (by rfl) (by rfl) ?_
            rintro u L T w' hT hu hL hp hcl ⟨C0, C1, C2, C3, C4, C5, C6, C7, C8, C9, C10, C11, C12, C13, C14, C15, C16, C17, C18, C19, C20, C21, C22, C23, C24, C25, C26, C27, C28, C29, C30, C31, C32, C33, C34, C35, E0⟩ K hK
            have hg := getD_bool ((hT 63).trans (C7 (hp.of 7 (by kernel_rfl))))
            have e1 : u 14 = .int .u64 (firstN Kn : Int) := hu 14 (by decide)
            go_simp
            refine hK _ _ ?_
            exact ⟨fun h => C0 (by simpa using h), fun h => C1 (by simpa using h), fun h => C2 (by simpa using h), fun h => C3 (by simpa using h), fun h => C4 (by simpa using h), fun h => C5 (by simpa using h), fun h => C6 (by simpa using h), fun h => C7 (by simpa using h), fun h => C8 (by simpa using h), fun h => C9 (by simpa using h), fun _ => rfl, fun h => C11 (by simpa using h), fun h => C12 (by simpa using h), fun h => C13 (by simpa using h), fun h => C14 (by simpa using h), fun h => C15 (by simpa using h), fun h => C16 (by simpa using h), fun h => C17 (by simpa using h), fun h => C18 (by simpa using h), fun h => C19 (by simpa using h), fun h => C20 (by simpa using h), fun h => C21 (by simpa using h), fun h => C22 (by simpa using h), fun h => C23 (by simpa using h), fun h => C24 (by simpa using h), fun h => C25 (by simpa using h), fun h => C26 (by simpa using h), fun h => C27 (by simpa using h), fun h => C28 (by simpa using h), fun h => C29 (by simpa using h), fun h => C30 (by simpa using h), fun h => C31 (by simpa using h), fun h => C32 (by simpa using h), fun h => C33 (by simpa using h), fun h => C34 (by simpa using h), fun h => C35 (by simpa using h), E0⟩
          · refine stepOk_some (i := 11) (by rfl) (by rfl) ?_
            rintro u L T w' hT hu hL hp hcl ⟨C0, C1, C2, C3, C4, C5, C6, C7, C8, C9, C10, C11, C12, C13, C14, C15, C16, C17, C18, C19, C20, C21, C22, C23, C24, C25, C26, C27, C28, C29, C30, C31, C32, C33, C34, C35, E0⟩ K hK
            have hg := getD_bool ((hT 63).trans (C7 (hp.of 7 (by kernel_rfl))))
            have e9 := C9 (hp.of 9 (by kernel_rfl))
            have e10 := C10 (hp.of 10 (by kernel_rfl))
            go_simp
            try go_bits
            try (rw [if_neg (by omega)]; go_simp)
            try (rw [if_pos (by omega)]; go_simp)
            refine hK _ _ ?_
            exact ⟨fun h => C0 (by simpa using h), fun h => C1 (by simpa using h), fun h => C2 (by simpa using h), fun h => C3 (by simpa using h), fun h => C4 (by simpa using h), fun h => C5 (by simpa using h), fun h => C6 (by simpa using h), fun h => C7 (by simpa using h), fun h => C8 (by simpa using h), fun h => C9 (by simpa using h), fun h => C10 (by simpa using h), fun _ => rfl, fun h => C12 (by simpa using h), fun h => C13 (by simpa using h), fun h => C14 (by simpa using h), fun h => C15 (by simpa using h), fun h => C16 (by simpa using h), fun h => C17 (by simpa using h), fun h => C18 (by simpa using h), fun h => C19 (by simpa using h), fun h => C20 (by simpa using h), fun h => C21 (by simpa using h), fun h => C22 (by simpa using h), fun h => C23 (by simpa using h), fun h => C24 (by simpa using h), fun h => C25 (by simpa using h), fun h => C26 (by simpa using h), fun h => C27 (by simpa using h), fun h => C28 (by simpa using h), fun h => C29 (by simpa using h), fun h => C30 (by simpa using h), fun h => C31 (by simpa using h), fun h => C32 (by simpa using h), fun h => C33 (by simpa using h), fun h => C34 (by simpa using h), fun h => C35 (by simpa using h), E0⟩
          · refine stepOk_some (i := 12) (by rfl) (by rfl) ?_
            rintro u L T w' hT hu hL hp hcl ⟨C0, C1, C2, C3, C4, C5, C6, C7, C8, C9, C10, C11, C12, C13, C14, C15, C16, C17, C18, C19, C20, C21, C22, C23, C24, C25, C26, C27, C28, C29, C30, C31, C32, C33, C34, C35, E0⟩ K hK
            have e7 := C7 (hp.of 7 (by kernel_rfl))
            have e11 := C11 (hp.of 11 (by kernel_rfl))
            go_simp
            try go_bits
            try (rw [if_neg (by omega)]; go_simp)
            try (rw [if_pos (by omega)]; go_simp)
            refine hK _ _ ?_
            exact ⟨fun h => C0 (by simpa using h), fun h => C1 (by simpa using h), fun h => C2 (by simpa using h), fun h => C3 (by simpa using h), fun h => C4 (by simpa using h), fun h => C5 (by simpa using h), fun h => C6 (by simpa using h), fun h => C7 (by simpa using h), fun h => C8 (by simpa using h), fun h => C9 (by simpa using h), fun h => C10 (by simpa using h), fun h => C11 (by simpa using h), fun _ => rfl, fun h => C13 (by simpa using h), fun h => C14 (by simpa using h), fun h => C15 (by simpa using h), fun h => C16 (by simpa using h), fun h => C17 (by simpa using h), fun h => C18 (by simpa using h), fun h => C19 (by simpa using h), fun h => C20 (by simpa using h), fun h => C21 (by simpa using h), fun h => C22 (by simpa using h), fun h => C23 (by simpa using h), fun h => C24 (by simpa using h), fun h => C25 (by simpa using h), fun h => C26 (by simpa using h), fun h => C27 (by simpa using h), fun h => C28 (by simpa using h), fun h => C29 (by simpa using h), fun h => C30 (by simpa using h), fun h => C31 (by simpa using h), fun h => C32 (by simpa using h), fun h => C33 (by simpa using h), fun h => C34 (by simpa using h), fun h => C35 (by simpa using h), E0⟩
          · refine stepOk_some (i := 13) (by rfl) (by rfl) ?_
            rintro u L T w' hT hu hL hp hcl ⟨C0, C1, C2, C3, C4, C5, C6, C7, C8, C9, C10, C11, C12, C13, C14, C15, C16, C17, C18, C19, C20, C21, C22, C23, C24, C25, C26, C27, C28, C29, C30, C31, C32, C33, C34, C35, E0⟩ K hK
            have e12 := C12 (hp.of 12 (by kernel_rfl))
            go_simp
            refine hK _ _ ?_
            exact ⟨fun h => C0 (by simpa using h), fun h => C1 (by simpa using h), fun h => C2 (by simpa using h), fun h => C3 (by simpa using h), fun h => C4 (by simpa using h), fun h => C5 (by simpa using h), fun h => C6 (by simpa using h), fun h => C7 (by simpa using h), fun h => C8 (by simpa using h), fun h => C9 (by simpa using h), fun h => C10 (by simpa using h), fun h => C11 (by simpa using h), fun h => C12 (by simpa using h), fun _ => rfl, fun h => C14 (by simpa using h), fun h => C15 (by simpa using h), fun h => C16 (by simpa using h), fun h => C17 (by simpa using h), fun h => C18 (by simpa using h), fun h => C19 (by simpa using h), fun h => C20 (by simpa using h), fun h => C21 (by simpa using h), fun h => C22 (by simpa using h), fun h => C23 (by simpa using h), fun h => C24 (by simpa using h), fun h => C25 (by simpa using h), fun h => C26 (by simpa using h), fun h => C27 (by simpa using h), fun h => C28 (by simpa using h), fun h => C29 (by simpa using h), fun h => C30 (by simpa using h), fun h => C31 (by simpa using h), fun h => C32 (by simpa using h), fun h => C33 (by simpa using h), fun h => C34 (by simpa using h), fun h => C35 (by simpa using h), E0⟩
          · refine stepOk_some (i := 14) (by rfl) (by rfl) ?_
            rintro u L T w' hT hu hL hp hcl ⟨C0, C1, C2, C3, C4, C5, C6, C7, C8, C9, C10, C11, C12, C13, C14, C15, C16, C17, C18, C19, C20, C21, C22, C23, C24, C25, C26, C27, C28, C29, C30, C31, C32, C33, C34, C35, E0⟩ K hK
            have hg := getD_bool ((hT 69).trans (C13 (hp.of 13 (by kernel_rfl))))
            have e1 : u 8 = .pointer (some ⟨p, 0, none⟩) := hu 8 (by decide)
            go_simp
            refine hK _ _ ?_
            exact ⟨fun h => C0 (by simpa using h), fun h => C1 (by simpa using h), fun h => C2 (by simpa using h), fun h => C3 (by simpa using h), fun h => C4 (by simpa using h), fun h => C5 (by simpa using h), fun h => C6 (by simpa using h), fun h => C7 (by simpa using h), fun h => C8 (by simpa using h), fun h => C9 (by simpa using h), fun h => C10 (by simpa using h), fun h => C11 (by simpa using h), fun h => C12 (by simpa using h), fun h => C13 (by simpa using h), fun _ => rfl, fun h => C15 (by simpa using h), fun h => C16 (by simpa using h), fun h => C17 (by simpa using h), fun h => C18 (by simpa using h), fun h => C19 (by simpa using h), fun h => C20 (by simpa using h), fun h => C21 (by simpa using h), fun h => C22 (by simpa using h), fun h => C23 (by simpa using h), fun h => C24 (by simpa using h), fun h => C25 (by simpa using h), fun h => C26 (by simpa using h), fun h => C27 (by simpa using h), fun h => C28 (by simpa using h), fun h => C29 (by simpa using h), fun h => C30 (by simpa using h), fun h => C31 (by simpa using h), fun h => C32 (by simpa using h), fun h => C33 (by simpa using h), fun h => C34 (by simpa using h), fun h => C35 (by simpa using h), E0⟩
          · refine stepOk_some (i := 15) (by rfl) (by rfl) ?_
            rintro u L T w' hT hu hL hp hcl ⟨C0, C1, C2, C3, C4, C5, C6, C7, C8, C9, C10, C11, C12, C13, C14, C15, C16, C17, C18, C19, C20, C21, C22, C23, C24, C25, C26, C27, C28, C29, C30, C31, C32, C33, C34, C35, E0⟩ K hK
            have hg := getD_bool ((hT 69).trans (C13 (hp.of 13 (by kernel_rfl))))
            have e14 := C14 (hp.of 14 (by kernel_rfl))
            go_simp
            refine (HLA.out w' E0).mono ?_
            rintro e w1 ⟨he, hx1⟩
            subst w1
            subst he
            refine hK _ _ ?_
            exact ⟨fun h => C0 (by simpa using h), fun h => C1 (by simpa using h), fun h => C2 (by simpa using h), fun h => C3 (by simpa using h), fun h => C4 (by simpa using h), fun h => C5 (by simpa using h), fun h => C6 (by simpa using h), fun h => C7 (by simpa using h), fun h => C8 (by simpa using h), fun h => C9 (by simpa using h), fun h => C10 (by simpa using h), fun h => C11 (by simpa using h), fun h => C12 (by simpa using h), fun h => C13 (by simpa using h), fun h => C14 (by simpa using h), fun _ => rfl, fun h => C16 (by simpa using h), fun h => C17 (by simpa using h), fun h => C18 (by simpa using h), fun h => C19 (by simpa using h), fun h => C20 (by simpa using h), fun h => C21 (by simpa using h), fun h => C22 (by simpa using h), fun h => C23 (by simpa using h), fun h => C24 (by simpa using h), fun h => C25 (by simpa using h), fun h => C26 (by simpa using h), fun h => C27 (by simpa using h), fun h => C28 (by simpa using h), fun h => C29 (by simpa using h), fun h => C30 (by simpa using h), fun h => C31 (by simpa using h), fun h => C32 (by simpa using h), fun h => C33 (by simpa using h), fun h => C34 (by simpa using h), fun h => C35 (by simpa using h), E0⟩
          · refine stepOk_some (i := 16) (by rfl) (by rfl) ?_
            rintro u L T w' hT hu hL hp hcl ⟨C0, C1, C2, C3, C4, C5, C6, C7, C8, C9, C10, C11, C12, C13, C14, C15, C16, C17, C18, C19, C20, C21, C22, C23, C24, C25, C26, C27, C28, C29, C30, C31, C32, C33, C34, C35, E0⟩ K hK
            have hg := getD_bool ((hT 69).trans (C13 (hp.of 13 (by kernel_rfl))))
            have e1 : u 9 = .pointer (some ⟨q, 0, none⟩) := hu 9 (by decide)
            go_simp
            refine hK _ _ ?_
            exact ⟨fun h => C0 (by simpa using h), fun h => C1 (by simpa using h), fun h => C2 (by simpa using h), fun h => C3 (by simpa using h), fun h => C4 (by simpa using h), fun h => C5 (by simpa using h), fun h => C6 (by simpa using h), fun h => C7 (by simpa using h), fun h => C8 (by simpa using h), fun h => C9 (by simpa using h), fun h => C10 (by simpa using h), fun h => C11 (by simpa using h), fun h => C12 (by simpa using h), fun h => C13 (by simpa using h), fun h => C14 (by simpa using h), fun h => C15 (by simpa using h), fun _ => rfl, fun h => C17 (by simpa using h), fun h => C18 (by simpa using h), fun h => C19 (by simpa using h), fun h => C20 (by simpa using h), fun h => C21 (by simpa using h), fun h => C22 (by simpa using h), fun h => C23 (by simpa using h), fun h => C24 (by simpa using h), fun h => C25 (by simpa using h), fun h => C26 (by simpa using h), fun h => C27 (by simpa using h), fun h => C28 (by simpa using h), fun h => C29 (by simpa using h), fun h => C30 (by simpa using h), fun h => C31 (by simpa using h), fun h => C32 (by simpa using h), fun h => C33 (by simpa using h), fun h => C34 (by simpa using h), fun h => C35 (by simpa using h), E0⟩
          · refine stepOk_some (i := 17) (by rfl) (by rfl) ?_
            rintro u L T w' hT hu hL hp hcl ⟨C0, C1, C2, C3, C4, C5, C6, C7, C8, C9, C10, C11, C12, C13, C14, C15, C16, C17, C18, C19, C20, C21, C22, C23, C24, C25, C26, C27, C28, C29, C30, C31, C32, C33, C34, C35, E0⟩ K hK
            have hg := getD_bool ((hT 69).trans (C13 (hp.of 13 (by kernel_rfl))))
            have e16 := C16 (hp.of 16 (by kernel_rfl))
            go_simp
            try go_bits
            try (rw [if_neg (by omega)]; go_simp)
            try (rw [if_pos (by omega)]; go_simp)
            refine hK _ _ ?_
            exact ⟨fun h => C0 (by simpa using h), fun h => C1 (by simpa using h), fun h => C2 (by simpa using h), fun h => C3 (by simpa using h), fun h => C4 (by simpa using h), fun h => C5 (by simpa using h), fun h => C6 (by simpa using h), fun h => C7 (by simpa using h), fun h => C8 (by simpa using h), fun h => C9 (by simpa using h), fun h => C10 (by simpa using h), fun h => C11 (by simpa using h), fun h => C12 (by simpa using h), fun h => C13 (by simpa using h), fun h => C14 (by simpa using h), fun h => C15 (by simpa using h), fun h => C16 (by simpa using h), fun _ => rfl, fun h => C18 (by simpa using h), fun h => C19 (by simpa using h), fun h => C20 (by simpa using h), fun h => C21 (by simpa using h), fun h => C22 (by simpa using h), fun h => C23 (by simpa using h), fun h => C24 (by simpa using h), fun h => C25 (by simpa using h), fun h => C26 (by simpa using h), fun h => C27 (by simpa using h), fun h => C28 (by simpa using h), fun h => C29 (by simpa using h), fun h => C30 (by simpa using h), fun h => C31 (by simpa using h), fun h => C32 (by simpa using h), fun h => C33 (by simpa using h), fun h => C34 (by simpa using h), fun h => C35 (by simpa using h), E0⟩
          · refine stepOk_some (i := 18) (by rfl) (by rfl) ?_
            rintro u L T w' hT hu hL hp hcl ⟨C0, C1, C2, C3, C4, C5, C6, C7, C8, C9, C10, C11, C12, C13, C14, C15, C16, C17, C18, C19, C20, C21, C22, C23, C24, C25, C26, C27, C28, C29, C30, C31, C32, C33, C34, C35, E0⟩ K hK
            have hg := getD_bool ((hT 69).trans (C13 (hp.of 13 (by kernel_rfl))))
            have e17 := C17 (hp.of 17 (by kernel_rfl))
            go_simp
            try go_bits
            try (rw [if_neg (by omega)]; go_simp)
            try (rw [if_pos (by omega)]; go_simp)
            refine hK _ _ ?_
            exact ⟨fun h => C0 (by simpa using h), fun h => C1 (by simpa using h), fun h => C2 (by simpa using h), fun h => C3 (by simpa using h), fun h => C4 (by simpa using h), fun h => C5 (by simpa using h), fun h => C6 (by simpa using h), fun h => C7 (by simpa using h), fun h => C8 (by simpa using h), fun h => C9 (by simpa using h), fun h => C10 (by simpa using h), fun h => C11 (by simpa using h), fun h => C12 (by simpa using h), fun h => C13 (by simpa using h), fun h => C14 (by simpa using h), fun h => C15 (by simpa using h), fun h => C16 (by simpa using h), fun h => C17 (by simpa using h), fun _ => rfl, fun h => C19 (by simpa using h), fun h => C20 (by simpa using h), fun h => C21 (by simpa using h), fun h => C22 (by simpa using h), fun h => C23 (by simpa using h), fun h => C24 (by simpa using h), fun h => C25 (by simpa using h), fun h => C26 (by simpa using h), fun h => C27 (by simpa using h), fun h => C28 (by simpa using h), fun h => C29 (by simpa using h), fun h => C30 (by simpa using h), fun h => C31 (by simpa using h), fun h => C32 (by simpa using h), fun h => C33 (by simpa using h), fun h => C34 (by simpa using h), fun h => C35 (by simpa using h), E0⟩
          · refine stepOk_some (i := 19) (by rfl) (by rfl) ?_
            rintro u L T w' hT hu hL hp hcl ⟨C0, C1, C2, C3, C4, C5, C6, C7, C8, C9, C10, C11, C12, C13, C14, C15, C16, C17, C18, C19, C20, C21, C22, C23, C24, C25, C26, C27, C28, C29, C30, C31, C32, C33, C34, C35, E0⟩ K hK
            have hg := getD_bool ((hT 69).trans (C13 (hp.of 13 (by kernel_rfl))))
            have e18 := C18 (hp.of 18 (by kernel_rfl))
            have c1 := (cells2 (HRQ.out w' E0)).2
            go_simp
            refine hK _ _ ?_
            exact ⟨fun h => C0 (by simpa using h), fun h => C1 (by simpa using h), fun h => C2 (by simpa using h), fun h => C3 (by simpa using h), fun h => C4 (by simpa using h), fun h => C5 (by simpa using h), fun h => C6 (by simpa using h), fun h => C7 (by simpa using h), fun h => C8 (by simpa using h), fun h => C9 (by simpa using h), fun h => C10 (by simpa using h), fun h => C11 (by simpa using h), fun h => C12 (by simpa using h), fun h => C13 (by simpa using h), fun h => C14 (by simpa using h), fun h => C15 (by simpa using h), fun h => C16 (by simpa using h), fun h => C17 (by simpa using h), fun h => C18 (by simpa using h), fun _ => rfl, fun h => C20 (by simpa using h), fun h => C21 (by simpa using h), fun h => C22 (by simpa using h), fun h => C23 (by simpa using h), fun h => C24 (by simpa using h), fun h => C25 (by simpa using h), fun h => C26 (by simpa using h), fun h => C27 (by simpa using h), fun h => C28 (by simpa using h), fun h => C29 (by simpa using h), fun h => C30 (by simpa using h), fun h => C31 (by simpa using h), fun h => C32 (by simpa using h), fun h => C33 (by simpa using h), fun h => C34 (by simpa using h), fun h => C35 (by simpa using h), E0⟩
          · refine stepOk_some (i := 20) (by rfl) (by rfl) ?_
            rintro u L T w' hT hu hL hp hcl ⟨C0, C1, C2, C3, C4, C5, C6, C7, C8, C9, C10, C11, C12, C13, C14, C15, C16, C17, C18, C19, C20, C21, C22, C23, C24, C25, C26, C27, C28, C29, C30, C31, C32, C33, C34, C35, E0⟩ K hK
            have hg := getD_bool ((hT 69).trans (C13 (hp.of 13 (by kernel_rfl))))
            have e19 := C19 (hp.of 19 (by kernel_rfl))
            go_simp
            try go_bits
            try (rw [if_neg (by omega)]; go_simp)
            try (rw [if_pos (by omega)]; go_simp)
            refine hK _ _ ?_
            exact ⟨fun h => C0 (by simpa using h), fun h => C1 (by simpa using h), fun h => C2 (by simpa using h), fun h => C3 (by simpa using h), fun h => C4 (by simpa using h), fun h => C5 (by simpa using h), fun h => C6 (by simpa using h), fun h => C7 (by simpa using h), fun h => C8 (by simpa using h), fun h => C9 (by simpa using h), fun h => C10 (by simpa using h), fun h => C11 (by simpa using h), fun h => C12 (by simpa using h), fun h => C13 (by simpa using h), fun h => C14 (by simpa using h), fun h => C15 (by simpa using h), fun h => C16 (by simpa using h), fun h => C17 (by simpa using h), fun h => C18 (by simpa using h), fun h => C19 (by simpa using h), fun _ => rfl, fun h => C21 (by simpa using h), fun h => C22 (by simpa using h), fun h => C23 (by simpa using h), fun h => C24 (by simpa using h), fun h => C25 (by simpa using h), fun h => C26 (by simpa using h), fun h => C27 (by simpa using h), fun h => C28 (by simpa using h), fun h => C29 (by simpa using h), fun h => C30 (by simpa using h), fun h => C31 (by simpa using h), fun h => C32 (by simpa using h), fun h => C33 (by simpa using h), fun h => C34 (by simpa using h), fun h => C35 (by simpa using h), E0⟩
          · refine stepOk_some (i := 21) (by rfl) (by rfl) ?_
            rintro u L T w' hT hu hL hp hcl ⟨C0, C1, C2, C3, C4, C5, C6, C7, C8, C9, C10, C11, C12, C13, C14, C15, C16, C17, C18, C19, C20, C21, C22, C23, C24, C25, C26, C27, C28, C29, C30, C31, C32, C33, C34, C35, E0⟩ K hK
            have hg := getD_bool ((hT 69).trans (C13 (hp.of 13 (by kernel_rfl))))
            have e20 := C20 (hp.of 20 (by kernel_rfl))
            go_simp
            try go_bits
            try (rw [if_neg (by omega)]; go_simp)
            try (rw [if_pos (by omega)]; go_simp)
            refine hK _ _ ?_
            exact ⟨fun h => C0 (by simpa using h), fun h => C1 (by simpa using h), fun h => C2 (by simpa using h), fun h => C3 (by simpa using h), fun h => C4 (by simpa using h), fun h => C5 (by simpa using h), fun h => C6 (by simpa using h), fun h => C7 (by simpa using h), fun h => C8 (by simpa using h), fun h => C9 (by simpa using h), fun h => C10 (by simpa using h), fun h => C11 (by simpa using h), fun h => C12 (by simpa using h), fun h => C13 (by simpa using h), fun h => C14 (by simpa using h), fun h => C15 (by simpa using h), fun h => C16 (by simpa using h), fun h => C17 (by simpa using h), fun h => C18 (by simpa using h), fun h => C19 (by simpa using h), fun h => C20 (by simpa using h), fun _ => rfl, fun h => C22 (by simpa using h), fun h => C23 (by simpa using h), fun h => C24 (by simpa using h), fun h => C25 (by simpa using h), fun h => C26 (by simpa using h), fun h => C27 (by simpa using h), fun h => C28 (by simpa using h), fun h => C29 (by simpa using h), fun h => C30 (by simpa using h), fun h => C31 (by simpa using h), fun h => C32 (by simpa using h), fun h => C33 (by simpa using h), fun h => C34 (by simpa using h), fun h => C35 (by simpa using h), E0⟩
          · refine stepOk_some (i := 22) (by rfl) (by rfl) ?_
            rintro u L T w' hT hu hL hp hcl ⟨C0, C1, C2, C3, C4, C5, C6, C7, C8, C9, C10, C11, C12, C13, C14, C15, C16, C17, C18, C19, C20, C21, C22, C23, C24, C25, C26, C27, C28, C29, C30, C31, C32, C33, C34, C35, E0⟩ K hK
            have hg := getD_bool ((hT 69).trans (C13 (hp.of 13 (by kernel_rfl))))
            have e15 := C15 (hp.of 15 (by kernel_rfl))
            have e21 := C21 (hp.of 21 (by kernel_rfl))
            go_simp
            try go_bits
            try (rw [if_neg (by omega)]; go_simp)
            try (rw [if_pos (by omega)]; go_simp)
            refine hK _ _ ?_
            exact ⟨fun h => C0 (by simpa using h), fun h => C1 (by simpa using h), fun h => C2 (by simpa using h), fun h => C3 (by simpa using h), fun h => C4 (by simpa using h), fun h => C5 (by simpa using h), fun h => C6 (by simpa using h), fun h => C7 (by simpa using h), fun h => C8 (by simpa using h), fun h => C9 (by simpa using h), fun h => C10 (by simpa using h), fun h => C11 (by simpa using h), fun h => C12 (by simpa using h), fun h => C13 (by simpa using h), fun h => C14 (by simpa using h), fun h => C15 (by simpa using h), fun h => C16 (by simpa using h), fun h => C17 (by simpa using h), fun h => C18 (by simpa using h), fun h => C19 (by simpa using h), fun h => C20 (by simpa using h), fun h => C21 (by simpa using h), fun _ => rfl, fun h => C23 (by simpa using h), fun h => C24 (by simpa using h), fun h => C25 (by simpa using h), fun h => C26 (by simpa using h), fun h => C27 (by simpa using h), fun h => C28 (by simpa using h), fun h => C29 (by simpa using h), fun h => C30 (by simpa using h), fun h => C31 (by simpa using h), fun h => C32 (by simpa using h), fun h => C33 (by simpa using h), fun h => C34 (by simpa using h), fun h => C35 (by simpa using h), E0⟩
          · refine stepOk_some (i := 23) (by rfl) (by rfl) ?_
            rintro u L T w' hT hu hL hp hcl ⟨C0, C1, C2, C3, C4, C5, C6, C7, C8, C9, C10, C11, C12, C13, C14, C15, C16, C17, C18, C19, C20, C21, C22, C23, C24, C25, C26, C27, C28, C29, C30, C31, C32, C33, C34, C35, E0⟩ K hK
            have e13 := C13 (hp.of 13 (by kernel_rfl))
            have e22 := C22 (hp.of 22 (by kernel_rfl))
            go_simp
            try go_bits
            try (rw [if_neg (by omega)]; go_simp)
            try (rw [if_pos (by omega)]; go_simp)
            refine hK _ _ ?_
            exact ⟨fun h => C0 (by simpa using h), fun h => C1 (by simpa using h), fun h => C2 (by simpa using h), fun h => C3 (by simpa using h), fun h => C4 (by simpa using h), fun h => C5 (by simpa using h), fun h => C6 (by simpa using h), fun h => C7 (by simpa using h), fun h => C8 (by simpa using h), fun h => C9 (by simpa using h), fun h => C10 (by simpa using h), fun h => C11 (by simpa using h), fun h => C12 (by simpa using h), fun h => C13 (by simpa using h), fun h => C14 (by simpa using h), fun h => C15 (by simpa using h), fun h => C16 (by simpa using h), fun h => C17 (by simpa using h), fun h => C18 (by simpa using h), fun h => C19 (by simpa using h), fun h => C20 (by simpa using h), fun h => C21 (by simpa using h), fun h => C22 (by simpa using h), fun _ => rfl, fun h => C24 (by simpa using h), fun h => C25 (by simpa using h), fun h => C26 (by simpa using h), fun h => C27 (by simpa using h), fun h => C28 (by simpa using h), fun h => C29 (by simpa using h), fun h => C30 (by simpa using h), fun h => C31 (by simpa using h), fun h => C32 (by simpa using h), fun h => C33 (by simpa using h), fun h => C34 (by simpa using h), fun h => C35 (by simpa using h), E0⟩
          · refine stepOk_some (i := 24) (by rfl) (by rfl) ?_
            rintro u L T w' hT hu hL hp hcl ⟨C0, C1, C2, C3, C4, C5, C6, C7, C8, C9, C10, C11, C12, C13, C14, C15, C16, C17, C18, C19, C20, C21, C22, C23, C24, C25, C26, C27, C28, C29, C30, C31, C32, C33, C34, C35, E0⟩ K hK
            have e23 := C23 (hp.of 23 (by kernel_rfl))
            go_simp
            refine hK _ _ ?_
            exact ⟨fun h => C0 (by simpa using h), fun h => C1 (by simpa using h), fun h => C2 (by simpa using h), fun h => C3 (by simpa using h), fun h => C4 (by simpa using h), fun h => C5 (by simpa using h), fun h => C6 (by simpa using h), fun h => C7 (by simpa using h), fun h => C8 (by simpa using h), fun h => C9 (by simpa using h), fun h => C10 (by simpa using h), fun h => C11 (by simpa using h), fun h => C12 (by simpa using h), fun h => C13 (by simpa using h), fun h => C14 (by simpa using h), fun h => C15 (by simpa using h), fun h => C16 (by simpa using h), fun h => C17 (by simpa using h), fun h => C18 (by simpa using h), fun h => C19 (by simpa using h), fun h => C20 (by simpa using h), fun h => C21 (by simpa using h), fun h => C22 (by simpa using h), fun h => C23 (by simpa using h), fun _ => rfl, fun h => C25 (by simpa using h), fun h => C26 (by simpa using h), fun h => C27 (by simpa using h), fun h => C28 (by simpa using h), fun h => C29 (by simpa using h), fun h => C30 (by simpa using h), fun h => C31 (by simpa using h), fun h => C32 (by simpa using h), fun h => C33 (by simpa using h), fun h => C34 (by simpa using h), fun h => C35 (by simpa using h), E0⟩
          · refine stepOk_some (i := 25) (by rfl) (by rfl) ?_
            rintro u L T w' hT hu hL hp hcl ⟨C0, C1, C2, C3, C4, C5, C6, C7, C8, C9, C10, C11, C12, C13, C14, C15, C16, C17, C18, C19, C20, C21, C22, C23, C24, C25, C26, C27, C28, C29, C30, C31, C32, C33, C34, C35, E0⟩ K hK
            have hg := getD_bool ((hT 80).trans (C24 (hp.of 24 (by kernel_rfl))))
            have e1 : u 8 = .pointer (some ⟨p, 0, none⟩) := hu 8 (by decide)
            go_simp
            refine hK _ _ ?_
            exact ⟨fun h => C0 (by simpa using h), fun h => C1 (by simpa using h), fun h => C2 (by simpa using h), fun h => C3 (by simpa using h), fun h => C4 (by simpa using h), fun h => C5 (by simpa using h), fun h => C6 (by simpa using h), fun h => C7 (by simpa using h), fun h => C8 (by simpa using h), fun h => C9 (by simpa using h), fun h => C10 (by simpa using h), fun h => C11 (by simpa using h), fun h => C12 (by simpa using h), fun h => C13 (by simpa using h), fun h => C14 (by simpa using h), fun h => C15 (by simpa using h), fun h => C16 (by simpa using h), fun h => C17 (by simpa using h), fun h => C18 (by simpa using h), fun h => C19 (by simpa using h), fun h => C20 (by simpa using h), fun h => C21 (by simpa using h), fun h => C22 (by simpa using h), fun h => C23 (by simpa using h), fun h => C24 (by simpa using h), fun _ => rfl, fun h => C26 (by simpa using h), fun h => C27 (by simpa using h), fun h => C28 (by simpa using h), fun h => C29 (by simpa using h), fun h => C30 (by simpa using h), fun h => C31 (by simpa using h), fun h => C32 (by simpa using h), fun h => C33 (by simpa using h), fun h => C34 (by simpa using h), fun h => C35 (by simpa using h), E0⟩
          · refine stepOk_some (i := 26) (by rfl) (by rfl) ?_
            rintro u L T w' hT hu hL hp hcl ⟨C0, C1, C2, C3, C4, C5, C6, C7, C8, C9, C10, C11, C12, C13, C14, C15, C16, C17, C18, C19, C20, C21, C22, C23, C24, C25, C26, C27, C28, C29, C30, C31, C32, C33, C34, C35, E0⟩ K hK
            have hg := getD_bool ((hT 80).trans (C24 (hp.of 24 (by kernel_rfl))))
            have e25 := C25 (hp.of 25 (by kernel_rfl))
            go_simp
            refine Calls.mono (HCH.out w' E0) ?_
            rintro e w1 ⟨v1, he, hr1, hx1⟩
            subst he
            refine hK _ _ ?_
            exact ⟨fun h => C0 (by simpa using h), fun h => C1 (by simpa using h), fun h => (C2 (by simpa using h)).ext hx1, fun h => (C3 (by simpa using h)).ext hx1, fun h => (C4 (by simpa using h)).ext hx1, fun h => C5 (by simpa using h), fun h => C6 (by simpa using h), fun h => C7 (by simpa using h), fun h => C8 (by simpa using h), fun h => C9 (by simpa using h), fun h => C10 (by simpa using h), fun h => C11 (by simpa using h), fun h => C12 (by simpa using h), fun h => C13 (by simpa using h), fun h => C14 (by simpa using h), fun h => C15 (by simpa using h), fun h => C16 (by simpa using h), fun h => C17 (by simpa using h), fun h => C18 (by simpa using h), fun h => C19 (by simpa using h), fun h => C20 (by simpa using h), fun h => C21 (by simpa using h), fun h => C22 (by simpa using h), fun h => C23 (by simpa using h), fun h => C24 (by simpa using h), fun h => C25 (by simpa using h), fun _ => hr1, fun h => (C27 (by simpa using h)).ext hx1, fun h => C28 (by simpa using h), fun h => C29 (by simpa using h), fun h => C30 (by simpa using h), fun h => C31 (by simpa using h), fun h => (C32 (by simpa using h)).ext hx1, fun h => C33 (by simpa using h), fun h => C34 (by simpa using h), fun h => C35 (by simpa using h), ext_trans (E0) hx1⟩
          · refine stepOk_some (i := 27) (by rfl) (by rfl) ?_
            rintro u L T w' hT hu hL hp hcl ⟨C0, C1, C2, C3, C4, C5, C6, C7, C8, C9, C10, C11, C12, C13, C14, C15, C16, C17, C18, C19, C20, C21, C22, C23, C24, C25, C26, C27, C28, C29, C30, C31, C32, C33, C34, C35, E0⟩ K hK
            have hg := getD_bool ((hT 80).trans (C24 (hp.of 24 (by kernel_rfl))))
            have hmk := run_make32 w'
            go_simp
            have hx1 : Ext w' (w'.alloc zeroObj) := Below.alloc (Below.refl _ _) (Nat.le_refl _) _
            have hr1 := make32_sl w'
            refine hK _ _ ?_
            exact ⟨fun h => C0 (by simpa using h), fun h => C1 (by simpa using h), fun h => (C2 (by simpa using h)).ext hx1, fun h => (C3 (by simpa using h)).ext hx1, fun h => (C4 (by simpa using h)).ext hx1, fun h => C5 (by simpa using h), fun h => C6 (by simpa using h), fun h => C7 (by simpa using h), fun h => C8 (by simpa using h), fun h => C9 (by simpa using h), fun h => C10 (by simpa using h), fun h => C11 (by simpa using h), fun h => C12 (by simpa using h), fun h => C13 (by simpa using h), fun h => C14 (by simpa using h), fun h => C15 (by simpa using h), fun h => C16 (by simpa using h), fun h => C17 (by simpa using h), fun h => C18 (by simpa using h), fun h => C19 (by simpa using h), fun h => C20 (by simpa using h), fun h => C21 (by simpa using h), fun h => C22 (by simpa using h), fun h => C23 (by simpa using h), fun h => C24 (by simpa using h), fun h => C25 (by simpa using h), fun h => (C26 (by simpa using h)).ext hx1, fun _ => hr1, fun h => C28 (by simpa using h), fun h => C29 (by simpa using h), fun h => C30 (by simpa using h), fun h => C31 (by simpa using h), fun h => (C32 (by simpa using h)).ext hx1, fun h => C33 (by simpa using h), fun h => C34 (by simpa using h), fun h => C35 (by simpa using h), ext_trans (E0) hx1⟩
          · refine stepOk_some (i := 28) (by rfl) (by rfl) ?_
            rintro u L T w' hT hu hL hp hcl ⟨C0, C1, C2, C3, C4, C5, C6, C7, C8, C9, C10, C11, C12, C13, C14, C15, C16, C17, C18, C19, C20, C21, C22, C23, C24, C25, C26, C27, C28, C29, C30, C31, C32, C33, C34, C35, E0⟩ K hK
            have hg := getD_bool ((hT 80).trans (C24 (hp.of 24 (by kernel_rfl))))
            have e1 : u 9 = .pointer (some ⟨q, 0, none⟩) := hu 9 (by decide)
            go_simp
            refine hK _ _ ?_
            exact ⟨fun h => C0 (by simpa using h), fun h => C1 (by simpa using h), fun h => C2 (by simpa using h), fun h => C3 (by simpa using h), fun h => C4 (by simpa using h), fun h => C5 (by simpa using h), fun h => C6 (by simpa using h), fun h => C7 (by simpa using h), fun h => C8 (by simpa using h), fun h => C9 (by simpa using h), fun h => C10 (by simpa using h), fun h => C11 (by simpa using h), fun h => C12 (by simpa using h), fun h => C13 (by simpa using h), fun h => C14 (by simpa using h), fun h => C15 (by simpa using h), fun h => C16 (by simpa using h), fun h => C17 (by simpa using h), fun h => C18 (by simpa using h), fun h => C19 (by simpa using h), fun h => C20 (by simpa using h), fun h => C21 (by simpa using h), fun h => C22 (by simpa using h), fun h => C23 (by simpa using h), fun h => C24 (by simpa using h), fun h => C25 (by simpa using h), fun h => C26 (by simpa using h), fun h => C27 (by simpa using h), fun _ => rfl, fun h => C29 (by simpa using h), fun h => C30 (by simpa using h), fun h => C31 (by simpa using h), fun h => C32 (by simpa using h), fun h => C33 (by simpa using h), fun h => C34 (by simpa using h), fun h => C35 (by simpa using h), E0⟩
          · refine stepOk_some (i := 29) (by rfl) (by rfl) ?_
            rintro u L T w' hT hu hL hp hcl ⟨C0, C1, C2, C3, C4, C5, C6, C7, C8, C9, C10, C11, C12, C13, C14, C15, C16, C17, C18, C19, C20, C21, C22, C23, C24, C25, C26, C27, C28, C29, C30, C31, C32, C33, C34, C35, E0⟩ K hK
            have hg := getD_bool ((hT 80).trans (C24 (hp.of 24 (by kernel_rfl))))
            have e28 := C28 (hp.of 28 (by kernel_rfl))
            go_simp
            try go_bits
            try (rw [if_neg (by omega)]; go_simp)
            try (rw [if_pos (by omega)]; go_simp)
            refine hK _ _ ?_
            exact ⟨fun h => C0 (by simpa using h), fun h => C1 (by simpa using h), fun h => C2 (by simpa using h), fun h => C3 (by simpa using h), fun h => C4 (by simpa using h), fun h => C5 (by simpa using h), fun h => C6 (by simpa using h), fun h => C7 (by simpa using h), fun h => C8 (by simpa using h), fun h => C9 (by simpa using h), fun h => C10 (by simpa using h), fun h => C11 (by simpa using h), fun h => C12 (by simpa using h), fun h => C13 (by simpa using h), fun h => C14 (by simpa using h), fun h => C15 (by simpa using h), fun h => C16 (by simpa using h), fun h => C17 (by simpa using h), fun h => C18 (by simpa using h), fun h => C19 (by simpa using h), fun h => C20 (by simpa using h), fun h => C21 (by simpa using h), fun h => C22 (by simpa using h), fun h => C23 (by simpa using h), fun h => C24 (by simpa using h), fun h => C25 (by simpa using h), fun h => C26 (by simpa using h), fun h => C27 (by simpa using h), fun h => C28 (by simpa using h), fun _ => rfl, fun h => C30 (by simpa using h), fun h => C31 (by simpa using h), fun h => C32 (by simpa using h), fun h => C33 (by simpa using h), fun h => C34 (by simpa using h), fun h => C35 (by simpa using h), E0⟩
          · refine stepOk_some (i := 30) (by rfl) (by rfl) ?_
            rintro u L T w' hT hu hL hp hcl ⟨C0, C1, C2, C3, C4, C5, C6, C7, C8, C9, C10, C11, C12, C13, C14, C15, C16, C17, C18, C19, C20, C21, C22, C23, C24, C25, C26, C27, C28, C29, C30, C31, C32, C33, C34, C35, E0⟩ K hK
            have hg := getD_bool ((hT 80).trans (C24 (hp.of 24 (by kernel_rfl))))
            have e29 := C29 (hp.of 29 (by kernel_rfl))
            go_simp
            try go_bits
            try (rw [if_neg (by omega)]; go_simp)
            try (rw [if_pos (by omega)]; go_simp)
            refine hK _ _ ?_
            exact ⟨fun h => C0 (by simpa using h), fun h => C1 (by simpa using h), fun h => C2 (by simpa using h), fun h => C3 (by simpa using h), fun h => C4 (by simpa using h), fun h => C5 (by simpa using h), fun h => C6 (by simpa using h), fun h => C7 (by simpa using h), fun h => C8 (by simpa using h), fun h => C9 (by simpa using h), fun h => C10 (by simpa using h), fun h => C11 (by simpa using h), fun h => C12 (by simpa using h), fun h => C13 (by simpa using h), fun h => C14 (by simpa using h), fun h => C15 (by simpa using h), fun h => C16 (by simpa using h), fun h => C17 (by simpa using h), fun h => C18 (by simpa using h), fun h => C19 (by simpa using h), fun h => C20 (by simpa using h), fun h => C21 (by simpa using h), fun h => C22 (by simpa using h), fun h => C23 (by simpa using h), fun h => C24 (by simpa using h), fun h => C25 (by simpa using h), fun h => C26 (by simpa using h), fun h => C27 (by simpa using h), fun h => C28 (by simpa using h), fun h => C29 (by simpa using h), fun _ => rfl, fun h => C31 (by simpa using h), fun h => C32 (by simpa using h), fun h => C33 (by simpa using h), fun h => C34 (by simpa using h), fun h => C35 (by simpa using h), E0⟩
          · refine stepOk_some (i := 31) (by rfl) (by rfl) ?_
            rintro u L T w' hT hu hL hp hcl ⟨C0, C1, C2, C3, C4, C5, C6, C7, C8, C9, C10, C11, C12, C13, C14, C15, C16, C17, C18, C19, C20, C21, C22, C23, C24, C25, C26, C27, C28, C29, C30, C31, C32, C33, C34, C35, E0⟩ K hK
            have hg := getD_bool ((hT 80).trans (C24 (hp.of 24 (by kernel_rfl))))
            have e30 := C30 (hp.of 30 (by kernel_rfl))
            have c1 := (cells2 (HRQ.out w' E0)).2
            go_simp
            refine hK _ _ ?_
            exact ⟨fun h => C0 (by simpa using h), fun h => C1 (by simpa using h), fun h => C2 (by simpa using h), fun h => C3 (by simpa using h), fun h => C4 (by simpa using h), fun h => C5 (by simpa using h), fun h => C6 (by simpa using h), fun h => C7 (by simpa using h), fun h => C8 (by simpa using h), fun h => C9 (by simpa using h), fun h => C10 (by simpa using h), fun h => C11 (by simpa using h), fun h => C12 (by simpa using h), fun h => C13 (by simpa using h), fun h => C14 (by simpa using h), fun h => C15 (by simpa using h), fun h => C16 (by simpa using h), fun h => C17 (by simpa using h), fun h => C18 (by simpa using h), fun h => C19 (by simpa using h), fun h => C20 (by simpa using h), fun h => C21 (by simpa using h), fun h => C22 (by simpa using h), fun h => C23 (by simpa using h), fun h => C24 (by simpa using h), fun h => C25 (by simpa using h), fun h => C26 (by simpa using h), fun h => C27 (by simpa using h), fun h => C28 (by simpa using h), fun h => C29 (by simpa using h), fun h => C30 (by simpa using h), fun _ => rfl, fun h => C32 (by simpa using h), fun h => C33 (by simpa using h), fun h => C34 (by simpa using h), fun h => C35 (by simpa using h), E0⟩
          · refine stepOk_some (i := 32) (by rfl) (by rfl) ?_
            rintro u L T w' hT hu hL hp hcl ⟨C0, C1, C2, C3, C4, C5, C6, C7, C8, C9, C10, C11, C12, C13, C14, C15, C16, C17, C18, C19, C20, C21, C22, C23, C24, C25, C26, C27, C28, C29, C30, C31, C32, C33, C34, C35, E0⟩ K hK
            have hg := getD_bool ((hT 80).trans (C24 (hp.of 24 (by kernel_rfl))))
            have e31 := C31 (hp.of 31 (by kernel_rfl))
            have c27 := C27 (hp.of 27 (by kernel_rfl))
            have e27 := hT 83
            go_simp
            refine Calls.mono (HRC.out _ w' E0 c27) ?_
            rintro e w1 ⟨v1, he, hr1, hx1⟩
            subst he
            refine hK _ _ ?_
            exact ⟨fun h => C0 (by simpa using h), fun h => C1 (by simpa using h), fun h => (C2 (by simpa using h)).ext hx1, fun h => (C3 (by simpa using h)).ext hx1, fun h => (C4 (by simpa using h)).ext hx1, fun h => C5 (by simpa using h), fun h => C6 (by simpa using h), fun h => C7 (by simpa using h), fun h => C8 (by simpa using h), fun h => C9 (by simpa using h), fun h => C10 (by simpa using h), fun h => C11 (by simpa using h), fun h => C12 (by simpa using h), fun h => C13 (by simpa using h), fun h => C14 (by simpa using h), fun h => C15 (by simpa using h), fun h => C16 (by simpa using h), fun h => C17 (by simpa using h), fun h => C18 (by simpa using h), fun h => C19 (by simpa using h), fun h => C20 (by simpa using h), fun h => C21 (by simpa using h), fun h => C22 (by simpa using h), fun h => C23 (by simpa using h), fun h => C24 (by simpa using h), fun h => C25 (by simpa using h), fun h => (C26 (by simpa using h)).ext hx1, fun h => (C27 (by simpa using h)).ext hx1, fun h => C28 (by simpa using h), fun h => C29 (by simpa using h), fun h => C30 (by simpa using h), fun h => C31 (by simpa using h), fun _ => hr1, fun h => C33 (by simpa using h), fun h => C34 (by simpa using h), fun h => C35 (by simpa using h), ext_trans (E0) hx1⟩
          · refine stepOk_some (i := 33) (by rfl) (by rfl) ?_
            rintro u L T w' hT hu hL hp hcl ⟨C0, C1, C2, C3, C4, C5, C6, C7, C8, C9, C10, C11, C12, C13, C14, C15, C16, C17, C18, C19, C20, C21, C22, C23, C24, C25, C26, C27, C28, C29, C30, C31, C32, C33, C34, C35, E0⟩ K hK
            have hg := getD_bool ((hT 80).trans (C24 (hp.of 24 (by kernel_rfl))))
            have c26 := C26 (hp.of 26 (by kernel_rfl))
            have c32 := C32 (hp.of 32 (by kernel_rfl))
            have e26 := hT 82
            have e32 := hT 88
            go_simp
            refine (HSM.out _ _ w' c26 c32).mono ?_
            rintro e w1 ⟨he, hx1⟩
            subst w1
            subst he
            refine hK _ _ ?_
            exact ⟨fun h => C0 (by simpa using h), fun h => C1 (by simpa using h), fun h => C2 (by simpa using h), fun h => C3 (by simpa using h), fun h => C4 (by simpa using h), fun h => C5 (by simpa using h), fun h => C6 (by simpa using h), fun h => C7 (by simpa using h), fun h => C8 (by simpa using h), fun h => C9 (by simpa using h), fun h => C10 (by simpa using h), fun h => C11 (by simpa using h), fun h => C12 (by simpa using h), fun h => C13 (by simpa using h), fun h => C14 (by simpa using h), fun h => C15 (by simpa using h), fun h => C16 (by simpa using h), fun h => C17 (by simpa using h), fun h => C18 (by simpa using h), fun h => C19 (by simpa using h), fun h => C20 (by simpa using h), fun h => C21 (by simpa using h), fun h => C22 (by simpa using h), fun h => C23 (by simpa using h), fun h => C24 (by simpa using h), fun h => C25 (by simpa using h), fun h => C26 (by simpa using h), fun h => C27 (by simpa using h), fun h => C28 (by simpa using h), fun h => C29 (by simpa using h), fun h => C30 (by simpa using h), fun h => C31 (by simpa using h), fun h => C32 (by simpa using h), fun _ => rfl, fun h => C34 (by simpa using h), fun h => C35 (by simpa using h), E0⟩
          · refine stepOk_some (i := 34) (by rfl) (by rfl) ?_
            rintro u L T w' hT hu hL hp hcl ⟨C0, C1, C2, C3, C4, C5, C6, C7, C8, C9, C10, C11, C12, C13, C14, C15, C16, C17, C18, C19, C20, C21, C22, C23, C24, C25, C26, C27, C28, C29, C30, C31, C32, C33, C34, C35, E0⟩ K hK
            have e24 := C24 (hp.of 24 (by kernel_rfl))
            have e33 := C33 (hp.of 33 (by kernel_rfl))
            go_simp
            try go_bits
            try (rw [if_neg (by omega)]; go_simp)
            try (rw [if_pos (by omega)]; go_simp)
            refine hK _ _ ?_
            exact ⟨fun h => C0 (by simpa using h), fun h => C1 (by simpa using h), fun h => C2 (by simpa using h), fun h => C3 (by simpa using h), fun h => C4 (by simpa using h), fun h => C5 (by simpa using h), fun h => C6 (by simpa using h), fun h => C7 (by simpa using h), fun h => C8 (by simpa using h), fun h => C9 (by simpa using h), fun h => C10 (by simpa using h), fun h => C11 (by simpa using h), fun h => C12 (by simpa using h), fun h => C13 (by simpa using h), fun h => C14 (by simpa using h), fun h => C15 (by simpa using h), fun h => C16 (by simpa using h), fun h => C17 (by simpa using h), fun h => C18 (by simpa using h), fun h => C19 (by simpa using h), fun h => C20 (by simpa using h), fun h => C21 (by simpa using h), fun h => C22 (by simpa using h), fun h => C23 (by simpa using h), fun h => C24 (by simpa using h), fun h => C25 (by simpa using h), fun h => C26 (by simpa using h), fun h => C27 (by simpa using h), fun h => C28 (by simpa using h), fun h => C29 (by simpa using h), fun h => C30 (by simpa using h), fun h => C31 (by simpa using h), fun h => C32 (by simpa using h), fun h => C33 (by simpa using h), fun _ => rfl, fun h => C35 (by simpa using h), E0⟩
          · refine stepOk_some (i := 35) (by rfl) (by rfl) ?_
            rintro u L T w' hT hu hL hp hcl ⟨C0, C1, C2, C3, C4, C5, C6, C7, C8, C9, C10, C11, C12, C13, C14, C15, C16, C17, C18, C19, C20, C21, C22, C23, C24, C25, C26, C27, C28, C29, C30, C31, C32, C33, C34, C35, E0⟩ K hK
            have e34 := C34 (hp.of 34 (by kernel_rfl))
            go_simp
            refine hK _ _ ?_
            exact ⟨fun h => C0 (by simpa using h), fun h => C1 (by simpa using h), fun h => C2 (by simpa using h), fun h => C3 (by simpa using h), fun h => C4 (by simpa using h), fun h => C5 (by simpa using h), fun h => C6 (by simpa using h), fun h => C7 (by simpa using h), fun h => C8 (by simpa using h), fun h => C9 (by simpa using h), fun h => C10 (by simpa using h), fun h => C11 (by simpa using h), fun h => C12 (by simpa using h), fun h => C13 (by simpa using h), fun h => C14 (by simpa using h), fun h => C15 (by simpa using h), fun h => C16 (by simpa using h), fun h => C17 (by simpa using h), fun h => C18 (by simpa using h), fun h => C19 (by simpa using h), fun h => C20 (by simpa using h), fun h => C21 (by simpa using h), fun h => C22 (by simpa using h), fun h => C23 (by simpa using h), fun h => C24 (by simpa using h), fun h => C25 (by simpa using h), fun h => C26 (by simpa using h), fun h => C27 (by simpa using h), fun h => C28 (by simpa using h), fun h => C29 (by simpa using h), fun h => C30 (by simpa using h), fun h => C31 (by simpa using h), fun h => C32 (by simpa using h), fun h => C33 (by simpa using h), fun h => C34 (by simpa using h), fun _ => rfl, E0⟩
        · rintro u L w' hall hu ⟨C0, C1, C2, C3, C4, C5, C6, C7, C8, C9, C10, C11, C12, C13, C14, C15, C16, C17, C18, C19, C20, C21, C22, C23, C24, C25, C26, C27, C28, C29, C30, C31, C32, C33, C34, C35, E0⟩
          replace C0 := C0 (hall 0 (by omega))
          replace C1 := C1 (hall 1 (by omega))
          replace C2 := C2 (hall 2 (by omega))
          replace C3 := C3 (hall 3 (by omega))
          replace C4 := C4 (hall 4 (by omega))
          replace C5 := C5 (hall 5 (by omega))
          replace C6 := C6 (hall 6 (by omega))
          replace C7 := C7 (hall 7 (by omega))
          replace C8 := C8 (hall 8 (by omega))
          replace C9 := C9 (hall 9 (by omega))
          replace C10 := C10 (hall 10 (by omega))
          replace C11 := C11 (hall 11 (by omega))
          replace C12 := C12 (hall 12 (by omega))
          replace C13 := C13 (hall 13 (by omega))
          replace C14 := C14 (hall 14 (by omega))
          replace C15 := C15 (hall 15 (by omega))
          replace C16 := C16 (hall 16 (by omega))
          replace C17 := C17 (hall 17 (by omega))
          replace C18 := C18 (hall 18 (by omega))
          replace C19 := C19 (hall 19 (by omega))
          replace C20 := C20 (hall 20 (by omega))
          replace C21 := C21 (hall 21 (by omega))
          replace C22 := C22 (hall 22 (by omega))
          replace C23 := C23 (hall 23 (by omega))
          replace C24 := C24 (hall 24 (by omega))
          replace C25 := C25 (hall 25 (by omega))
          replace C26 := C26 (hall 26 (by omega))
          replace C27 := C27 (hall 27 (by omega))
          replace C28 := C28 (hall 28 (by omega))
          replace C29 := C29 (hall 29 (by omega))
          replace C30 := C30 (hall 30 (by omega))
          replace C31 := C31 (hall 31 (by omega))
          replace C32 := C32 (hall 32 (by omega))
          replace C33 := C33 (hall 33 (by omega))
          replace C34 := C34 (hall 34 (by omega))
          replace C35 := C35 (hall 35 (by omega))
          simp only [fill, List.setIfInBounds_toArray, List.set_cons_succ, List.set_cons_zero, C0, C1, C5, C6, C7, C8, C9, C10, C11, C12, C13, C14, C15, C16, C17, C18, C19, C20, C21, C22, C23, C24, C25, C28, C29, C30, C31, C33, C34, C35]
          generalize u 58 = s0 at *
          generalize u 59 = s1 at *
          generalize u 60 = s2 at *
          generalize u 82 = s3 at *
          generalize u 83 = s4 at *
          generalize u 88 = s5 at *
          clear C0 C1 C2 C3 C4 C5 C6 C7 C8 C9 C10 C11 C12 C13 C14 C15 C16 C17 C18 C19 C20 C21 C22 C23 C24 C25 C26 C27 C28 C29 C30 C31 C32 C33 C34 C35 hu hall
        -- end inv
          go_wp2
          go_ret
          exact ⟨rfl, ext_trans HX2.out (ext_trans HXr.out E0)⟩
end Go.Proofs.YtpndahmlbjhdfaaDoor
