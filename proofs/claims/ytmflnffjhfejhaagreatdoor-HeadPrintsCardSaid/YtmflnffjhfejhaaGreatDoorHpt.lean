/-
  head.print, head.fielded, head.sized.
-/
import Derived.BigGuardPart
import Derived.BigQuiet
import Derived.RegionTactic
import Derived.Deep.DrawnRows
import Derived.Deep.LoopGhost
import Derived.Deep.CutBlock
import Derived.Deep.DeepCutAuto
import Derived.Test.YtmflnffjhfejhaaGreatDoorRows
import Derived.Test.YtmflnffjhfejhaaGreatDoorHrb
namespace Go.Proofs.YtmflnffjhfejhaaGreatDoor
open Go.RowKit
set_option maxRecDepth 100000
attribute [local go_sem ↓] Go.wp_at_zero Go.wp_at_succ
set_option linter.unusedVariables false
set_option linter.unusedSimpArgs false

set_option maxHeartbeats 4000000 in
theorem print_any (f : List UInt8) (v : Value) (fs : List Pr) (hf : f.length ≤ 15100) (hl : fs.length ≤ 100) (hb : ∀ p ∈ fs, p.n.length ≤ 5000 ∧ p.v.length ≤ 5000) (w : World) (hr : RowC 2 prC w v fs) :
    Calls Tryz.prog 44 #[Str f, v] w fun e w' => (∃ a cap, e = .returned (.slice (some a) (bytesL f fs).length cap) ∧ SlB w' (.slice (some a) (bytesL f fs).length cap) (bytesL f fs)) ∧ Ext w w' := by
  obtain ⟨ao, cap, hv, hcap, hmax, hcl⟩ := rowP_shape hr
  unfold maxLen at hmax
  subst hv
  have HCL := Lib.hid hcl
  have HIX := Lib.hid (fun g o j h W => index_pair g o fs.length cap j h W)
  have HB := Lib.hid hb
  have hbl := bodyL_len fs hb
  have HBY := Lib.hid (bytesL_body f fs)
  obtain ⟨W1, hW1⟩ : ∃ W1, w.alloc (.cells #[.pointer none, .slice none 0 0] 97) = W1 := ⟨_, rfl⟩
  have hx1 : Ext w W1 := by rw [← hW1]; exact Below.alloc (Below.refl _ _) (Nat.le_refl _) _
  have hB1 : Bld (w.heap.size + 1) W1 w.heap.size [] := by rw [← hW1]; exact bld_new _ _
  have hs1 : W1.heap.size = w.heap.size + 1 := by rw [← hW1]; show (w.heap.push _).size = _; rw [Array.size_push]
  have HW := Lib.hid (WriteString_any (w.heap.size + 1) w.heap.size [] (f ++ [13, 10]) W1 hB1 (by simp; omega) (by omega))
  have HX1 := Lib.hid hx1; have HS1 := Lib.hid hs1
  clear hcl hr hb hx1 hB1 hs1
  go_enter Tryz.func44, Tryz.ntmps44
  go_wp2_with fail
  try rw [hW1]
  clear hW1
  refine HW.out.mono ?_
  rintro e W2 ⟨he, hB2, hf2⟩
  subst he
  have HX2 := Lib.hid (HX1.out.trans (hf2.below (by omega) (by omega) (by have := HS1.out; omega)))
  have hsz2 : w.heap.size + 1 ≤ W2.heap.size := by have := hf2.size; have := HS1.out; omega
  have HB2 := Lib.hid hB2
  clear hB2 hf2 HW
  go_wp2_with fail
  go_loopg [13] fs.length (fun gh s13 wx => ∃ k : Nat, k ≤ fs.length ∧ s13 = .int .i64 (k : Int) ∧ gh = fs.length - k ∧ Hid (Bld (w.heap.size + 1) wx w.heap.size (f ++ [13, 10] ++ bodyL (fs.take k))) ∧ Hid (Ext w wx) ∧ w.heap.size + 1 ≤ wx.heap.size)
  case atStart => exact ⟨0, by omega, rfl, by omega, Lib.hid (by simpa [bodyL] using HB2.out), HX2, hsz2⟩
  case round =>
    obtain ⟨k, hk, rfl, rfl, HBK, HXR, hszr⟩ := hrel
    by_cases h3 : k < fs.length
    · rcases HCL.out with h | ⟨g, o, rfl, hcc⟩
      · subst h; simp at h3
      obtain ⟨a0, a1⟩ := hcc k h3
      replace a0 := ext_cell HXR.out a0; replace a1 := ext_cell HXR.out a1
      have i1 := HIX.out g o k h3
      have hmem : fs.getD k prD ∈ fs := by simp [List.getD, h3]
      obtain ⟨hpl1, hpl2⟩ := HB.out _ hmem
      have HSN := Lib.hid (bodyL_snoc fs k h3)
      have hbk : (bodyL (fs.take k)).length ≤ 10010 * fs.length := by
        have := bodyL_len (fs.take k) (fun p hp => HB.out p (List.mem_of_mem_take hp))
        rw [List.length_take] at this
        have h9 : 10010 * min k fs.length ≤ 10010 * fs.length := Nat.mul_le_mul_left _ (by omega)
        omega
      obtain ⟨bk, hbke⟩ : ∃ l, f ++ [13, 10] ++ bodyL (fs.take k) = l := ⟨_, rfl⟩
      rw [hbke] at HBK
      have hbkl : bk.length ≤ 2000000 := by rw [← hbke]; simp; omega
      have HBKE := Lib.hid hbke
      clear hcc hbke hbk
      generalize fs.getD k prD = p at *
      generalize o + 2 * k = q at *
      obtain ⟨pn, pv⟩ := p
      simp only at a0 a1 hpl1 hpl2
      have HFL := Lib.hid (show fldL ⟨pn, pv⟩ ++ [13, 10] = pn ++ 58 :: 32 :: (pv ++ [13, 10]) by simp [fldL])
      obtain ⟨W5, hW5⟩ : ∃ W5, wr.alloc (.cells #[Str pn, Str pv] 53) = W5 := ⟨_, rfl⟩
      have hx5 : Ext wr W5 := by rw [← hW5]; exact Below.alloc (Below.refl _ _) (Nat.le_refl _) _
      have n1 : W5.heap[wr.heap.size]? = some (.cells #[Str pn, Str pv] 53 (0, 0)) := by rw [← hW5]; exact Array.getElem?_push_size
      obtain ⟨k0, k1⟩ := cells2 n1
      have hs5 := hx5.size
      have HX5 := Lib.hid (ext_trans HXR.out hx5)
      have HW5 := Lib.hid (WriteString_any (w.heap.size + 1) w.heap.size bk (pn ++ 58 :: 32 :: (pv ++ [13, 10])) W5 (HBK.out.ext hx5) (by simp; omega) (by omega))
      clear hx5 n1
      go_wp2_with fail
      try rw [hW5]
      refine HW5.out.mono ?_
      rintro e W6 ⟨he, hB6, hf6⟩
      subst he
      have HX6 := Lib.hid (HX5.out.trans (hf6.below (by omega) (by omega) (by omega)))
      have hsz6 : w.heap.size + 1 ≤ W6.heap.size := by have := hf6.size; omega
      have HB6 := Lib.hid hB6
      clear hB6 hf6 HW5 hW5 k0 k1
      go_wp2_with fail
      go_roundg (fs.length - (k + 1))
      case measure => omega
      case rel => exact ⟨k + 1, by omega, by go_num, rfl, Lib.hid (by rw [HSN.out, ← List.append_assoc (f ++ [13, 10]), HBKE.out, HFL.out]; exact HB6.out), HX6, hsz6⟩
    · have hkl : k = fs.length := by omega
      subst hkl
      rw [List.take_length] at HBK
      obtain ⟨bk, hbke⟩ : ∃ l, f ++ [13, 10] ++ bodyL fs = l := ⟨_, rfl⟩
      rw [hbke] at HBK HBY
      have hbkl : bk.length ≤ 2000000 := by rw [← hbke]; simp; omega
      have HW3 := Lib.hid (WriteString_any (w.heap.size + 1) w.heap.size bk [13, 10] wr HBK.out (by simp; omega) (by omega))
      clear hbke h3
      go_wp2_with fail
      refine HW3.out.mono ?_
      rintro e W3 ⟨he, hB3, hf3⟩
      subst he
      have HX3 := Lib.hid (HXR.out.trans (hf3.below (by omega) (by omega) (by omega)))
      have hsz3 : w.heap.size + 1 ≤ W3.heap.size := by have := hf3.size; omega
      have HS3 := Lib.hid (String_any (w.heap.size + 1) w.heap.size _ W3 hB3)
      clear hB3 hf3 HW3
      go_wp2_with fail
      refine HS3.out.mono ?_
      rintro e W4 ⟨he, hf4⟩
      subst he
      have HX4 := Lib.hid (HX3.out.trans (hf4.below (by omega) (by omega) (by omega)))
      clear hf4 HS3
      have hLN : (bk ++ [13, 10]).length = bk.length + 2 := by simp
      have HLN := Lib.hid hLN
      clear hLN
      obtain ⟨cp9, W9, hconv, hx9, hcc1, hcc2, hcell, _⟩ := bytes_own (P := Tryz.prog) W4 9 22 5 (bk ++ [13, 10]) (by rw [HLN.out]; unfold maxLen; omega) Tryz.underlying9 Tryz.underlying22 Tryz.underlying5
      have HSL := Lib.hid (sl_cells (w := W9) (g := W4.heap.size) (l := (bk ++ [13, 10]).map Byt) (by rw [List.length_map]) hcc1 hcc2 (fun j u hu => by
        rw [List.getElem?_map] at hu
        have hj : j < (bk ++ [13, 10]).length := by
          rcases Nat.lt_or_ge j (bk ++ [13, 10]).length with h | h
          · exact h
          · rw [List.getElem?_eq_none h] at hu; cases hu
        rw [hcell j hj, ← hu, bt_some _ j hj]; rfl))
      have HX9 := Lib.hid (ext_trans HX4.out hx9)
      clear hcell hx9 hcc1 hcc2
      go_wp2_with fail
      go_ret
      exact ⟨by rw [HBY.out]; exact ⟨_, _, by rw [HLN.out]; rfl, HSL.out⟩, HX9.out⟩
set_option maxHeartbeats 4000000 in
theorem fielded_any (v : Value) (fs : List Pr) (hb : ∀ p ∈ fs, p.n.length ≤ 5000 ∧ p.v.length ≤ 5000) (w : World) (hr : RowC 2 prC w v fs) :
    Calls Tryz.prog 56 #[v] w fun e w' => e = .returned (.bool (fs.all rightF)) ∧ Ext w w' := by
  obtain ⟨ao, cap, hv, hcap, hmax, hcl⟩ := rowP_shape hr
  unfold maxLen at hmax
  subst hv
  have HCL := Lib.hid hcl
  have HIX := Lib.hid (fun g o j h W => index_pair g o fs.length cap j h W)
  have HB := Lib.hid hb
  clear hcl hr hb
  go_enter Tryz.func56, Tryz.ntmps56
  go_wp2_with fail
  go_loopw [7] (fun i wr => ∃ k : Nat, k ≤ fs.length ∧ i = .int .i64 k ∧ Hid ((fs.take k).all rightF = true) ∧ Hid (Ext w wr)) (fun i _ => fs.length - (intOf i).toNat)
  case atStart => exact ⟨0, by omega, rfl, Lib.hid rfl, Lib.hid (Below.refl _ _)⟩
  case round =>
    obtain ⟨k, hk, rfl, HALL, HXR⟩ := hrel
    by_cases h3 : k < fs.length
    · rcases HCL.out with h | ⟨g, o, rfl, hcc⟩
      · subst h; simp at h3
      obtain ⟨a0, a1⟩ := hcc k h3
      replace a0 := ext_cell HXR.out a0; replace a1 := ext_cell HXR.out a1
      have i1 := HIX.out g o k h3
      have hmem : fs.getD k prD ∈ fs := by simp [List.getD, h3]
      have HMEM := Lib.hid hmem
      obtain ⟨hpl1, hpl2⟩ := HB.out _ hmem
      have HTS := Lib.hid (show (fs.take (k + 1)).all rightF = ((fs.take k).all rightF && rightF (fs.getD k prD)) by rw [List.take_succ_eq_append_getElem h3, List.all_append, show fs.getD k prD = fs[k] by simp [List.getD, h3]]; simp)
      have hbad : rightF (fs.getD k prD) = false → fs.all rightF = false := fun h => by
        rw [Bool.eq_false_iff]; intro ha
        rw [List.all_eq_true.1 ha _ hmem] at h; cases h
      have HBAD := Lib.hid hbad
      clear hcc hmem hbad
      generalize fs.getD k prD = p at *
      generalize o + 2 * k = q at *
      obtain ⟨pn, pv⟩ := p
      simp only at a0 a1 hpl1 hpl2
      have HRF := Lib.hid (show rightF ⟨pn, pv⟩ = (tokenB pn && (textB pv && (Lib.trimS pv [32, 9] == pv))) from rfl)
      have HT2 := Lib.hid (token_any pn (by omega)); have HX2 := Lib.hid (text_any pv (by omega)); have HM2 := Lib.hid (trim_any pv (by omega))
      obtain ⟨W5, hW5⟩ : ∃ W5, wr.alloc (.cells #[Str pn, Str pv] 53) = W5 := ⟨_, rfl⟩
      have hx5 : Ext wr W5 := by rw [← hW5]; exact Below.alloc (Below.refl _ _) (Nat.le_refl _) _
      have n1 : W5.heap[wr.heap.size]? = some (.cells #[Str pn, Str pv] 53 (0, 0)) := by rw [← hW5]; exact Array.getElem?_push_size
      obtain ⟨k0, k1⟩ := cells2 n1
      have HX5 := Lib.hid (ext_trans HXR.out hx5)
      generalize Lib.trimS pv [32, 9] = tv at *
      have k2 := ExtW.cell k0; have k3 := ExtW.cell k1
      clear hx5 n1 k0 k1
      cases ht : tokenB pn with
      | false =>
        rw [ht] at HT2
        have HFX := Lib.hid (HBAD.out (by rw [HRF.out, ht]; rfl))
        clear HRF HTS
        go_wp2
        clear hW5
        refine wp_region_ext (by kernel_rfl) (by kernel_rfl) ?_
        repeat (first
          | go_big_quiet_skip
          | (go_big_quiet_want; go_big_quiet_op; (try go_bits); first | go_big_quiet_on | go_big_quiet_call (first | exact Calls.ext_same _ (HT2.out _) | exact Calls.ext_same _ (HX2.out _) | exact Calls.ext_of _ (HM2.out _))))
        refine wpQuiet_nil ?_
        intro _ hw'
        obtain ⟨nq, hw''⟩ := hw'
        subst hw''
        go_wp2
        go_ret
        exact ⟨by rw [HFX.out]; rfl, ext_trans HX5.out nq.h⟩
      | true =>
        rw [ht] at HT2
        cases hx : textB pv with
        | false =>
          rw [hx] at HX2
          have HFX := Lib.hid (HBAD.out (by rw [HRF.out, ht, hx]; rfl))
          clear HRF HTS
          go_wp2
          clear hW5
          refine wp_region_ext (by kernel_rfl) (by kernel_rfl) ?_
          repeat (first
            | go_big_quiet_skip
            | (go_big_quiet_want; go_big_quiet_op; (try go_bits); first | go_big_quiet_on | go_big_quiet_call (first | exact Calls.ext_same _ (HT2.out _) | exact Calls.ext_same _ (HX2.out _) | exact Calls.ext_of _ (HM2.out _))))
          refine wpQuiet_nil ?_
          intro _ hw'
          obtain ⟨nq, hw''⟩ := hw'
          subst hw''
          go_wp2
          go_ret
          exact ⟨by rw [HFX.out]; rfl, ext_trans HX5.out nq.h⟩
        | true =>
          rw [hx] at HX2
          cases hm : (tv == pv) with
          | false =>
            have HFX := Lib.hid (HBAD.out (by rw [HRF.out, ht, hx, hm]; rfl))
            have hm2 : (tv != pv) = true := by simp [bne, hm]
            clear HRF HTS
            go_wp2
            clear hW5
            refine wp_region_ext (by kernel_rfl) (by kernel_rfl) ?_
            repeat (first
              | go_big_quiet_skip
              | (go_big_quiet_want; go_big_quiet_op; (try go_bits); first | go_big_quiet_on | go_big_quiet_call (first | exact Calls.ext_same _ (HT2.out _) | exact Calls.ext_same _ (HX2.out _) | exact Calls.ext_of _ (HM2.out _))))
            refine wpQuiet_nil ?_
            intro _ hw'
            obtain ⟨nq, hw''⟩ := hw'
            subst hw''
            go_wp2
            go_ret
            exact ⟨by rw [HFX.out]; rfl, ext_trans HX5.out nq.h⟩
          | true =>
            have HT := Lib.hid (show (fs.take (k + 1)).all rightF = true by rw [HTS.out, HALL.out, HRF.out, ht, hx, hm]; rfl)
            have hm2 : (tv != pv) = false := by simp [bne, hm]
            clear HRF HTS HBAD
            go_wp2
            clear hW5
            refine wp_region_ext (by kernel_rfl) (by kernel_rfl) ?_
            repeat (first
              | go_big_quiet_skip
              | (go_big_quiet_want; go_big_quiet_op; (try go_bits); first | go_big_quiet_on | go_big_quiet_call (first | exact Calls.ext_same _ (HT2.out _) | exact Calls.ext_same _ (HX2.out _) | exact Calls.ext_of _ (HM2.out _))))
            refine wpQuiet_nil ?_
            intro _ hw'
            obtain ⟨nq, hw''⟩ := hw'
            subst hw''
            go_wp2
            go_roundw
            case rel => exact ⟨k + 1, by omega, by go_num, HT, Lib.hid (ext_trans HX5.out nq.h)⟩
            case measure => simp [intOf] <;> omega
    · have hkl : k = fs.length := by omega
      subst hkl
      have HA := Lib.hid (show fs.all rightF = true by have := HALL.out; rwa [List.take_length] at this)
      go_wp2
      go_ret
      exact ⟨by rw [HA.out]; rfl, HXR.out⟩
def sizedE (right : Bool) (n : Nat) (v : Value) (fs : List Pr) : Value := if right && fs.all rightF then (if 4096 < n ∨ 24 < fs.length then .tuple #[.slice none 0 0, .int .i64 3] else .tuple #[v, .int .i64 0]) else .tuple #[.slice none 0 0, .int .i64 4]
set_option maxHeartbeats 2000000 in
theorem sized_any (po : Option Addr) (n pcap : Nat) (right : Bool) (v : Value) (fs : List Pr) (hn : n ≤ 100000000) (hb : ∀ p ∈ fs, p.n.length ≤ 5000 ∧ p.v.length ≤ 5000) (w : World) (hr : RowC 2 prC w v fs) :
    Calls Tryz.prog 43 #[.slice po n pcap, .bool right, v] w fun e w' => e = .returned (sizedE right n (.slice po n pcap) fs) ∧ Ext w w' := by
  have HF := Lib.hid (fielded_any v fs hb w hr)
  have hE : sizedE right n (.slice po n pcap) fs = if right && fs.all rightF then (if 4096 < n ∨ 24 < fs.length then .tuple #[.slice none 0 0, .int .i64 3] else .tuple #[.slice po n pcap, .int .i64 0]) else .tuple #[.slice none 0 0, .int .i64 4] := rfl
  have HE := Lib.hid hE
  obtain ⟨ao, cap, hv, hcap, hmax, hcl⟩ := rowP_shape hr
  unfold maxLen at hmax
  subst hv
  clear hcl hr hb hE
  generalize fs.all rightF = b at *
  cases right with
  | false =>
    go_enter Tryz.func43, Tryz.ntmps43
    go_wp2
    go_ret2
    exact ⟨by rw [HE.out]; rfl, Below.refl _ _⟩
  | true =>
    cases b with
    | false =>
      go_enter Tryz.func43, Tryz.ntmps43
      go_wp2_with fail
      refine HF.out.mono ?_
      rintro e W1 ⟨he, hx⟩
      subst he
      have HX := Lib.hid hx
      clear hx
      go_wp2
      go_ret2
      exact ⟨by rw [HE.out]; rfl, HX.out⟩
    | true =>
      by_cases h40 : 4096 < n
      · have t1 : decide ((4096 : Int) < (n : Int)) = true := by simp; omega
        have HE2 := Lib.hid (HE.out.trans ((if_pos rfl).trans (if_pos (.inl h40))))
        clear h40
        go_enter Tryz.func43, Tryz.ntmps43
        go_wp2_with fail
        refine HF.out.mono ?_
        rintro e W1 ⟨he, hx⟩
        subst he
        have HX := Lib.hid hx
        clear hx
        go_wp2
        go_ret2
        exact ⟨by rw [HE2.out]; rfl, HX.out⟩
      · have t1 : decide ((4096 : Int) < (n : Int)) = false := by simp; omega
        by_cases h24 : 24 < fs.length
        · have t2 : decide ((24 : Int) < (fs.length : Int)) = true := by simp; omega
          have HE2 := Lib.hid (HE.out.trans ((if_pos rfl).trans (if_pos (.inr h24))))
          clear h40 h24
          go_enter Tryz.func43, Tryz.ntmps43
          go_wp2_with fail
          refine HF.out.mono ?_
          rintro e W1 ⟨he, hx⟩
          subst he
          have HX := Lib.hid hx
          clear hx
          go_wp2
          go_ret2
          exact ⟨by rw [HE2.out]; rfl, HX.out⟩
        · have t2 : decide ((24 : Int) < (fs.length : Int)) = false := by simp; omega
          have HE2 := Lib.hid (HE.out.trans ((if_pos rfl).trans (if_neg (by omega))))
          clear h40 h24
          go_enter Tryz.func43, Tryz.ntmps43
          go_wp2_with fail
          refine HF.out.mono ?_
          rintro e W1 ⟨he, hx⟩
          subst he
          have HX := Lib.hid hx
          clear hx
          go_wp2
          go_ret2
          exact ⟨by rw [HE2.out]; rfl, HX.out⟩
end Go.Proofs.YtmflnffjhfejhaaGreatDoor
