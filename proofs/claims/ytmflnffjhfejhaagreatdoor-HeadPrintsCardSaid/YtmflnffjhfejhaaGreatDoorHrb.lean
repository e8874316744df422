/-
  ref09.Bytes.
-/
import Derived.BigGuardPart
import Derived.BigQuiet
import Derived.RegionTactic
import Derived.Deep.DrawnRows
import Derived.Deep.LoopGhost
import Derived.Deep.CutBlock
import Derived.Deep.DeepCutAuto
import Derived.Test.YtmflnffjhfejhaaGreatDoorRows
import Derived.Test.YtmflnffjhfejhaaGreatDoorHpl
import Derived.Test.YtmflnffjhfejhaaGreatDoorHfe
import Derived.Test.YtmflnffjhfejhaaGreatDoorKit
namespace Go.Proofs.YtmflnffjhfejhaaGreatDoor
open Go.RowKit
set_option maxRecDepth 100000
attribute [local go_sem ↓] Go.wp_at_zero Go.wp_at_succ
set_option linter.unusedVariables false
set_option linter.unusedSimpArgs false

def BytesV (o : Int ⊕ List UInt8) (w' : World) (e : Ending) : Prop := match o with
  | .inl c => e = .returned (.tuple #[.slice none 0 0, .int .i64 c])
  | .inr l => ∃ a cap, e = .returned (.tuple #[.slice (some a) l.length cap, .int .i64 0]) ∧ SlB w' (.slice (some a) l.length cap) l
def bodyL (fs : List Pr) : List UInt8 := fs.flatMap fun p => fldL p ++ [13, 10]
theorem bytesL_body (f : List UInt8) (fs : List Pr) : bytesL f fs = f ++ [13, 10] ++ bodyL fs ++ [13, 10] := by
  unfold bytesL hdL linL bodyL
  rw [List.flatMap_cons, List.flatMap_map]
theorem bodyL_snoc (fs : List Pr) (k : Nat) (h : k < fs.length) : bodyL (fs.take (k + 1)) = bodyL (fs.take k) ++ (fldL (fs.getD k prD) ++ [13, 10]) := by
  unfold bodyL
  rw [List.take_succ_eq_append_getElem h, List.flatMap_append, show fs.getD k prD = fs[k] by simp [List.getD, h]]
  simp
theorem bodyL_len (fs : List Pr) (h : ∀ p ∈ fs, p.n.length ≤ 5000 ∧ p.v.length ≤ 5000) : (bodyL fs).length ≤ 10010 * fs.length := by
  induction fs with
  | nil => simp [bodyL]
  | cons p fs ih =>
    have h1 := h p (by simp)
    have h2 := ih (fun q hq => h q (by simp [hq]))
    unfold bodyL at *
    rw [List.flatMap_cons, List.length_append]
    simp [fldL] at *
    omega
def digs : List UInt8 := [48, 49, 50, 51, 52, 53, 54, 55, 56, 57]
theorem digs_lit : (⟨#[48, 49, 50, 51, 52, 53, 54, 55, 56, 57]⟩ : ByteArray) = ⟨digs.toArray⟩ := rfl
theorem digs_len : digs.length = 10 := rfl
theorem bt_digs (r : Nat) (h : r < 10) : bt digs r = UInt8.ofNat (48 + r) := by
  have : ∀ r, r < 10 → bt digs r = UInt8.ofNat (48 + r) := by decide +kernel
  exact this r h
theorem Calls.ext_same {P : Program} {f : FuncId} {args : Array Value} {W : World} {v : Value} (x : ExtW W) (h : Calls P f args x.w fun e w' => e = .returned v ∧ w' = x.w) :
    Calls P f args x.w fun e w'' => e = .returned v ∧ ∃ y : ExtW W, w'' = y.w :=
  h.mono fun _ w' ⟨he, hx⟩ => ⟨he, x, hx⟩
set_option maxHeartbeats 4000000 in
theorem refBytes_any (one two : List UInt8) (st : Int) (v : Value) (fs : List Pr) (asks : Bool) (h1 : one.length ≤ 5000) (h2 : two.length ≤ 5000) (hs0 : -9223372036854775808 ≤ st) (hs1 : st ≤ 9223372036854775807) (hl : fs.length ≤ 100) (hb : ∀ p ∈ fs, p.n.length ≤ 5000 ∧ p.v.length ≤ 5000) (w : World) (hr : RowC 2 prC w v fs) :
    Calls Tryz.prog 13 #[.agg #[Str one, Str two, .int .i64 st, v], .bool asks] w fun e w' => BytesV (bytesO asks one two st fs) w' e ∧ Ext w w' := by
  obtain ⟨ao, cap, hv, hcap, hmax, hcl⟩ := rowP_shape hr
  unfold maxLen at hmax
  subst hv
  have HCL := Lib.hid hcl
  have HIX := Lib.hid (fun g o j h W => index_pair g o fs.length cap j h W)
  obtain ⟨W1, hW1⟩ : ∃ W1, w.alloc (.cells #[Str one, Str two, .int .i64 st, .slice ao fs.length cap] 29) = W1 := ⟨_, rfl⟩
  have hx1 : Ext w W1 := by rw [← hW1]; exact Below.alloc (Below.refl _ _) (Nat.le_refl _) _
  have hc1 : W1.heap[w.heap.size]? = some (.cells #[Str one, Str two, .int .i64 st, .slice ao fs.length cap] 29 (0, 0)) := by rw [← hW1]; exact Array.getElem?_push_size
  obtain ⟨d0, d1, d2, d3⟩ := cells4 hc1
  have HC1 := Lib.hid hc1; have HX1 := Lib.hid hx1
  have HTK := Lib.hid (tokenR_any one (by omega)); have HTG := Lib.hid (targetR_any two (by omega)); have HTX := Lib.hid (textR_any one (by omega))
  clear hcl hr hx1 hc1
  go_enter Tryz.func13, Tryz.ntmps13
  go_upto_region 2 with fail
  clear hW1
  go_cut [7] from 18 (fun s7 wx => wx = W1 ∧ s7 = .bool (tokenB one && targetB two))
  case first =>
    cases htk : tokenB one with
    | false =>
      rw [htk] at HTK
      go_wp2_with (go_at_call 23; refine (HTK.out _).mono ?_; rintro e w' ⟨rfl, hw⟩; subst w')
      go_meet
      exact ⟨rfl, by rw [htk]; rfl⟩
    | true =>
      rw [htk] at HTK
      go_wp2_with (first | (go_at_call 23; refine (HTK.out _).mono ?_; rintro e w' ⟨rfl, hw⟩; subst w') | (go_at_call 26; refine (HTG.out _).mono ?_; rintro e w' ⟨rfl, hw⟩; subst w'))
      go_meet
      exact ⟨rfl, by rw [htk]; rfl⟩
  case rest =>
    obtain ⟨hwx, rfl⟩ := hcut
    subst wc
    clear HTK HTG
    go_upto_if 27 with fail
    go_cut [6, 7] from 28 (fun s6 s7 wx => Ext W1 wx ∧ s7 = .bool (rightHd asks one two st) ∧ ∃ s0, s6 = Str s0 ∧ s0.length ≤ 15100 ∧ (rightHd asks one two st = true → s0 = firstL asks one two st))
    case first =>
      cases asks with
      | true =>
        clear HTX
        go_wp2
        go_meet
        exact ⟨Below.refl _ _, rfl, _, rfl, by simp; omega, fun _ => rfl⟩
      | false =>
        have hgl : (one ++ 32 :: (two ++ [32, 72, 84, 84, 80, 47, 49, 46, 49])).length ≤ 15100 := by simp; omega
        have HR := Lib.hid (show rightHd false one two st = (decide (100 ≤ st) && (decide (st ≤ 999) && textB one)) from rfl)
        by_cases hs100 : 100 ≤ st
        · have t1 : decide (100 ≤ st) = true := decide_eq_true hs100
          by_cases hs999 : st ≤ 999
          · have t2 : decide (st ≤ 999) = true := decide_eq_true hs999
            cases htx : textB one with
            | true =>
              rw [htx] at HTX
              have HR2 := Lib.hid (show rightHd false one two st = true by rw [HR.out, t1, t2, htx]; rfl)
              obtain ⟨n, hn⟩ : ∃ n : Nat, st = (n : Int) := ⟨st.toNat, by omega⟩
              have HN := Lib.hid hn
              have HF := Lib.hid (show firstL false one two st = verL ++ 32 :: (dig3 n ++ 32 :: one) by rw [hn]; rfl)
              obtain ⟨q1, hq1⟩ : ∃ q, n / 100 = q := ⟨_, rfl⟩
              obtain ⟨q2, hq2⟩ : ∃ q, n / 10 = q := ⟨_, rfl⟩
              obtain ⟨q3, hq3⟩ : ∃ q, q2 % 10 = q := ⟨_, rfl⟩
              obtain ⟨q4, hq4⟩ : ∃ q, n % 10 = q := ⟨_, rfl⟩
              have e1 : st / 100 = (q1 : Int) := by omega
              have e2 : st / 10 = (q2 : Int) := by omega
              have e3 : (q2 : Int) % 10 = (q3 : Int) := by omega
              have e4 : st % 10 = (q4 : Int) := by omega
              have b1 : q1 < 10 := by omega
              have b3 : q3 < 10 := by omega
              have b4 : q4 < 10 := by omega
              have b2 : q2 < 100 := by omega
              have HD := Lib.hid (show dig3 n = [UInt8.ofNat (48 + q1), UInt8.ofNat (48 + q3), UInt8.ofNat (48 + q4)] by unfold dig3; rw [hq1, hq2, hq3, hq4])
              have hl := digs_lit; have hll := digs_len
              clear HR hn hq1 hq2 hq3 hq4 htx hs100 hs999
              go_wp2_with (go_at_call 24; refine (HTX.out _).mono ?_; rintro e w' ⟨rfl, hw⟩; subst w')
              refine wp_region_quiet_lit (by kernel_rfl) (by kernel_rfl) ?_
              repeat (first
                | go_big_quiet_skip
                | (go_big_quiet_want; go_big_quiet_op; (try go_bits); first | go_big_quiet_on | go_big_quiet_call (fail)))
              refine wpQuiet_nil ?_
              intro _ hw'
              obtain ⟨nq, hw''⟩ := hw'
              subst hw''
              go_wp2
              go_meet
              rw [cut_one _ _ (by omega), cut_one _ _ (by omega), cut_one _ _ (by omega), bt_digs _ b1, bt_digs _ b3, bt_digs _ b4]
              exact ⟨Below.drewN (Below.refl _ _) _, by rw [HR2.out], _, rfl, by simp; omega, fun _ => by rw [HF.out, HD.out]; rfl⟩
            | false =>
              rw [htx] at HTX
              have HR2 := Lib.hid (show rightHd false one two st = false by rw [HR.out, t1, t2, htx]; rfl)
              clear HR
              go_wp2_with (go_at_call 24; refine (HTX.out _).mono ?_; rintro e w' ⟨rfl, hw⟩; subst w')
              go_meet
              exact ⟨Below.refl _ _, by rw [HR2.out], _, rfl, hgl, fun h => by rw [HR2.out] at h; cases h⟩
          · have t2 : decide (st ≤ 999) = false := decide_eq_false hs999
            have HR2 := Lib.hid (show rightHd false one two st = false by rw [HR.out, t1, t2]; rfl)
            clear HR
            go_wp2
            go_meet
            exact ⟨Below.refl _ _, by rw [HR2.out], _, rfl, hgl, fun h => by rw [HR2.out] at h; cases h⟩
        · have t1 : decide (100 ≤ st) = false := decide_eq_false hs100
          have HR2 := Lib.hid (show rightHd false one two st = false by rw [HR.out, t1]; rfl)
          clear HR
          go_wp2
          go_meet
          exact ⟨Below.refl _ _, by rw [HR2.out], _, rfl, hgl, fun h => by rw [HR2.out] at h; cases h⟩
    case rest =>
      obtain ⟨hxc, rfl, s0, rfl, hs0l, hfirst⟩ := hcut
      have HFI := Lib.hid hfirst
      have HXC := Lib.hid hxc
      obtain ⟨d0, d1, d2, d3⟩ := cells4 (ext_at hxc HC1.out)
      obtain ⟨rh, hrh⟩ : ∃ b, rightHd asks one two st = b := ⟨_, rfl⟩
      rw [hrh]
      rw [hrh] at HFI
      have HRH := Lib.hid hrh
      have hbl := bodyL_len fs hb
      have HB := Lib.hid hb
      clear hrh hfirst hxc HTX hb
      go_wp2
      go_loopg [6, 7, 83] fs.length (fun gh s6 s7 s83 wx => ∃ k : Nat, k ≤ fs.length ∧ s83 = .int .i64 (k : Int) ∧ gh = fs.length - k ∧ s6 = Str (s0 ++ [13, 10] ++ bodyL (fs.take k)) ∧ s7 = .bool (rh && (fs.take k).all rightF) ∧ Hid (Ext W1 wx))
      case atStart => exact ⟨0, by omega, rfl, by omega, by simp [bodyL], by simp, HXC⟩
      case round =>
        obtain ⟨k, hk, rfl, rfl, rfl, rfl, HXR⟩ := hrel
        by_cases h3 : k < fs.length
        · rcases HCL.out with h | ⟨g, o, rfl, hcc⟩
          · subst h; simp at h3
          obtain ⟨a0, a1⟩ := hcc k h3
          have hx9 := ext_trans HX1.out HXR.out
          replace a0 := ext_cell hx9 a0; replace a1 := ext_cell hx9 a1
          have i1 := HIX.out g o k h3
          have hmem : fs.getD k prD ∈ fs := by simp [List.getD, h3]
          obtain ⟨hpl1, hpl2⟩ := HB.out _ hmem
          have HSN := Lib.hid (bodyL_snoc fs k h3)
          have HTS := Lib.hid (show (fs.take (k + 1)).all rightF = ((fs.take k).all rightF && rightF (fs.getD k prD)) by rw [List.take_succ_eq_append_getElem h3, List.all_append, show fs.getD k prD = fs[k] by simp [List.getD, h3]]; simp)
          have hbk : (bodyL (fs.take k)).length ≤ 10010 * fs.length := by
            have := bodyL_len (fs.take k) (fun p hp => HB.out p (List.mem_of_mem_take hp))
            rw [List.length_take] at this
            have h9 : 10010 * min k fs.length ≤ 10010 * fs.length := Nat.mul_le_mul_left _ (by omega)
            omega
          obtain ⟨bk, hbke⟩ : ∃ l, s0 ++ [13, 10] ++ bodyL (fs.take k) = l := ⟨_, rfl⟩
          rw [hbke]
          have hbkl : bk.length ≤ 2000000 := by rw [← hbke]; simp; omega
          have HBK := Lib.hid hbke
          obtain ⟨ok, hok⟩ : ∃ b, (rh && (fs.take k).all rightF) = b := ⟨_, rfl⟩
          rw [hok]
          have HOK := Lib.hid (show (rh && (fs.take (k + 1)).all rightF) = (ok && rightF (fs.getD k prD)) by rw [HTS.out, ← Bool.and_assoc, hok])
          clear hcc hx9 hbke hok hbk
          generalize fs.getD k prD = p at *
          generalize o + 2 * k = q at *
          obtain ⟨pn, pv⟩ := p
          simp only at a0 a1 hpl1 hpl2
          have HRF := Lib.hid (show rightF ⟨pn, pv⟩ = (tokenB pn && (textB pv && (Lib.trimS pv [32, 9] == pv))) from rfl)
          have HFL := Lib.hid (show bk ++ (fldL ⟨pn, pv⟩ ++ [13, 10]) = bk ++ (pn ++ 58 :: 32 :: (pv ++ [13, 10])) by simp [fldL])
          have HT2 := Lib.hid (tokenR_any pn (by omega)); have HX2 := Lib.hid (textR_any pv (by omega)); have HM2 := Lib.hid (trimR_any pv (by omega))
          have htl : (Lib.trimS pv [32, 9]).length ≤ pv.length := trimS_len _ _
          obtain ⟨W5, hW5⟩ : ∃ W5, wr.alloc (.cells #[Str pn, Str pv] 53) = W5 := ⟨_, rfl⟩
          have hx5 : Ext wr W5 := by rw [← hW5]; exact Below.alloc (Below.refl _ _) (Nat.le_refl _) _
          have n1 : W5.heap[wr.heap.size]? = some (.cells #[Str pn, Str pv] 53 (0, 0)) := by rw [← hW5]; exact Array.getElem?_push_size
          obtain ⟨k0, k1⟩ := cells2 n1
          have HX5 := Lib.hid (ext_trans HXR.out hx5)
          generalize Lib.trimS pv [32, 9] = tv at *
          clear hx5 n1
          go_upto_region 12 with fail
          clear hW5
          go_cut [7] (fun s7 wx => Ext W5 wx ∧ s7 = .bool (ok && rightF ⟨pn, pv⟩))
          case first =>
            have k2 := ExtW.cell k0; have k3 := ExtW.cell k1
            clear k0 k1
            cases ok with
            | false =>
              go_wp2
              refine wp_region_ext (by kernel_rfl) (by kernel_rfl) ?_
              repeat (first
                | go_big_quiet_skip
                | (go_big_quiet_want; go_big_quiet_op; (try go_bits); first | go_big_quiet_on | go_big_quiet_call (fail)))
              refine wpQuiet_nil ?_
              intro _ hw'
              obtain ⟨nq, hw''⟩ := hw'
              subst hw''
              go_wp2
              go_meet
              exact ⟨nq.h, rfl⟩
            | true =>
              cases ht : tokenB pn with
              | false =>
                rw [ht] at HT2
                have HR2 := Lib.hid (show rightF ⟨pn, pv⟩ = false by rw [HRF.out, ht]; rfl)
                clear HRF
                go_wp2
                refine wp_region_ext (by kernel_rfl) (by kernel_rfl) ?_
                repeat (first
                  | go_big_quiet_skip
                  | (go_big_quiet_want; go_big_quiet_op; (try go_bits); first | go_big_quiet_on | go_big_quiet_call (first | exact Calls.ext_same _ (HT2.out _) | exact Calls.ext_same _ (HX2.out _) | exact Calls.ext_same _ (HM2.out _))))
                refine wpQuiet_nil ?_
                intro _ hw'
                obtain ⟨nq, hw''⟩ := hw'
                subst hw''
                go_wp2
                go_meet
                exact ⟨nq.h, by rw [HR2.out]; rfl⟩
              | true =>
                rw [ht] at HT2
                cases hx : textB pv with
                | false =>
                  rw [hx] at HX2
                  have HR2 := Lib.hid (show rightF ⟨pn, pv⟩ = false by rw [HRF.out, ht, hx]; rfl)
                  clear HRF
                  go_wp2
                  refine wp_region_ext (by kernel_rfl) (by kernel_rfl) ?_
                  repeat (first
                    | go_big_quiet_skip
                    | (go_big_quiet_want; go_big_quiet_op; (try go_bits); first | go_big_quiet_on | go_big_quiet_call (first | exact Calls.ext_same _ (HT2.out _) | exact Calls.ext_same _ (HX2.out _) | exact Calls.ext_same _ (HM2.out _))))
                  refine wpQuiet_nil ?_
                  intro _ hw'
                  obtain ⟨nq, hw''⟩ := hw'
                  subst hw''
                  go_wp2
                  go_meet
                  exact ⟨nq.h, by rw [HR2.out]; rfl⟩
                | true =>
                  rw [hx] at HX2
                  have HR2 := Lib.hid (show rightF ⟨pn, pv⟩ = (tv == pv) by rw [HRF.out, ht, hx]; rfl)
                  clear HRF
                  go_wp2
                  refine wp_region_ext (by kernel_rfl) (by kernel_rfl) ?_
                  repeat (first
                    | go_big_quiet_skip
                    | (go_big_quiet_want; go_big_quiet_op; (try go_bits); first | go_big_quiet_on | go_big_quiet_call (first | exact Calls.ext_same _ (HT2.out _) | exact Calls.ext_same _ (HX2.out _) | exact Calls.ext_same _ (HM2.out _))))
                  refine wpQuiet_nil ?_
                  intro _ hw'
                  obtain ⟨nq, hw''⟩ := hw'
                  subst hw''
                  go_wp2
                  go_meet
                  exact ⟨nq.h, by rw [HR2.out]; rfl⟩
          case rest =>
            obtain ⟨hxd, rfl⟩ := hcut
            have HXD := Lib.hid (ext_trans HX5.out hxd)
            replace k0 := ext_cell hxd k0; replace k1 := ext_cell hxd k1
            clear hxd
            go_wp2
            go_roundg (fs.length - (k + 1))
            case measure => omega
            case rel => exact ⟨k + 1, by omega, by go_num, rfl, by rw [HSN.out, ← List.append_assoc (s0 ++ [13, 10]), HBK.out, HFL.out], by rw [HOK.out], HXD⟩
        · have hkl : k = fs.length := by omega
          subst hkl
          rw [List.take_length]
          have hBY := bytesL_body s0 fs
          obtain ⟨bk, hbk⟩ : ∃ l, s0 ++ [13, 10] ++ bodyL fs = l := ⟨_, rfl⟩
          rw [hbk] at hBY ⊢
          have hbl2 : bk.length ≤ 2000000 := by rw [← hbk]; simp; omega
          have HBY := Lib.hid hBY
          obtain ⟨d0', d1', d2', d3'⟩ := cells4 (ext_at HXR.out HC1.out)
          have hxw := ext_trans HX1.out HXR.out
          have HXW := Lib.hid hxw
          clear hBY hbk hxw h3
          cases hra : (rh && fs.all rightF) with
          | false =>
            have HO := Lib.hid (show bytesO asks one two st fs = .inl 4 by unfold bytesO; rw [HRH.out, hra]; rfl)
            go_wp2
            go_ret2
            exact ⟨by rw [HO.out]; rfl, HXW.out⟩
          | true =>
            have hrt : rh = true := by cases rh; cases hra; rfl
            subst hrt
            have HS0 := Lib.hid (HFI.out rfl)
            have HO := Lib.hid (show bytesO asks one two st fs = if 4096 < (bk ++ [13, 10]).length ∨ 24 < fs.length then .inl 3 else .inr (bk ++ [13, 10]) by unfold bytesO; rw [HRH.out, hra, ← HS0.out, HBY.out]; rfl)
            have HLN := Lib.hid (show (bk ++ [13, 10]).length = bk.length + 2 by simp)
            by_cases h40 : 4096 < bk.length + 2
            · have t1 : decide ((4096 : Int) < (bk.length : Int) + 2) = true := by simp; omega
              have HO2 := Lib.hid (HO.out.trans (if_pos (.inl (by rw [HLN.out]; exact h40))))
              clear h40
              go_wp2
              go_ret2
              exact ⟨by rw [HO2.out]; rfl, HXW.out⟩
            · have t1 : decide ((4096 : Int) < (bk.length : Int) + 2) = false := by simp; omega
              by_cases h24 : 24 < fs.length
              · have t2 : decide ((24 : Int) < (fs.length : Int)) = true := by simp; omega
                have HO2 := Lib.hid (HO.out.trans (if_pos (.inr h24)))
                clear h40 h24
                go_wp2
                go_ret2
                exact ⟨by rw [HO2.out]; rfl, HXW.out⟩
              · have t2 : decide ((24 : Int) < (fs.length : Int)) = false := by simp; omega
                have HO2 := Lib.hid (HO.out.trans (if_neg (by rw [HLN.out]; omega)))
                clear h40 h24
                obtain ⟨cp9, W9, hconv, hx9, hcc1, hcc2, hcell, _⟩ := bytes_own (P := Tryz.prog) wr 9 22 5 (bk ++ [13, 10]) (by rw [HLN.out]; unfold maxLen; omega) Tryz.underlying9 Tryz.underlying22 Tryz.underlying5
                have HSL := Lib.hid (sl_cells (w := W9) (g := wr.heap.size) (l := (bk ++ [13, 10]).map Byt) (by rw [List.length_map]) hcc1 hcc2 (fun j u hu => by
                  rw [List.getElem?_map] at hu
                  have hj : j < (bk ++ [13, 10]).length := by
                    rcases Nat.lt_or_ge j (bk ++ [13, 10]).length with h | h
                    · exact h
                    · rw [List.getElem?_eq_none h] at hu; cases hu
                  rw [hcell j hj, ← hu, bt_some _ j hj]; rfl))
                have HX9 := Lib.hid (ext_trans HXW.out hx9)
                clear hcell hx9 hcc1 hcc2
                go_wp2
                go_ret2
                exact ⟨by rw [HO2.out]; exact ⟨_, _, by rw [HLN.out]; rfl, HSL.out⟩, HX9.out⟩
end Go.Proofs.YtmflnffjhfejhaaGreatDoor
