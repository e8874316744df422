/-
 The library's variables as laid (LwS); scram.rounds and ref07.whole at every text.
-/
import Derived.BigGuardPart
import Derived.Lib.AppendIntMem
import Derived.Lib.AtoiErrMem
import Derived.Test.YtjkbigecejogdaaGreatDoorRows
import Derived.Test.YtjkbigecejogdaaGreatDoorPbx
import Derived.Test.YtjkbigecejogdaaGreatDoorDcm
namespace Go.Proofs.YtjkbigecejogdaaGreatDoor
open Go.RowKit
set_option maxRecDepth 100000
attribute [local go_sem] Oper.semAt_some
set_option linter.unusedVariables false
set_option linter.unusedSimpArgs false
structure LwS (W : World) : Prop where
 mx : MaxAt W
 fm : FormsAt W
 e1 : ∃ te pe, W.cell? ⟨2, 0, none⟩ = some (.iface te pe)
 e2 : ∃ te pe, W.cell? ⟨3, 0, none⟩ = some (.iface te pe)
 tab : TabW W
theorem LwS.ext {A C : World} (h : LwS A) (he : Ext A C) : LwS C := by
 obtain ⟨h1, h2, ⟨t3, p3, h3⟩, ⟨t4, p4, h4⟩, h5⟩ := h
 exact ⟨h1.ext he, h2.ext he, ⟨t3, p3, ext_cell he h3⟩, ⟨t4, p4, ext_cell he h4⟩, h5.ext he⟩
def atoiV (l : List UInt8) : Int := match Lib.atoiAll l with | .ok v => v | .range => Lib.atoiSat l | _ => 0
def atoiOk (l : List UInt8) : Bool := match Lib.atoiAll l with | .ok _ => true | _ => false
theorem atoiV_bounds (l : List UInt8) : -9223372036854775808 ≤ atoiV l ∧ atoiV l ≤ 9223372036854775807 := by
 unfold atoiV
 split
 ·rename_i v h; exact Lib.atoiAll_bounds h
 ·exact Lib.atoiSat_bounds l
 ·omega
theorem itoa_any (n : Int) (h0 : -9223372036854775808 ≤ n) (h1 : n ≤ 9223372036854775807) (W : World) (hW : TabW W) :
    Calls Tryz.prog 72 #[.int .i64 n] W fun e w' => e = .returned (Str (Lib.itoa n)) ∧ Ext W w' :=
 (Tryz.strconv_Itoa n h0 h1 W hW.tab).mono fun e w' ⟨he, k, os, hw⟩ => ⟨he, by rw [hw]; exact Lib.below_grow _ W (Nat.le_refl _) k os⟩
theorem atoi_any (l : List UInt8) (hl : l.length ≤ 100000) (W : World) (hW : LwS W) :
    Calls Tryz.prog 89 #[Str l] W fun e w' => (∃ ev, e = .returned (.tuple #[.int .i64 (atoiV l), ev]) ∧ ((atoiOk l = true ∧ ev = .nilIface) ∨ (atoiOk l = false ∧ ∃ t p, ev = .iface t p))) ∧ Ext W w' := by
 cases h : Lib.atoiAll l with
 | ok v =>
   refine (Tryz.strconv_Atoi_ok ⟨l.toArray⟩ (by rw [size_list]; omega) v h W).mono fun e w' ⟨he, hw⟩ => ⟨⟨_, by rw [he, show atoiV l = v by simp [atoiV, h]], .inl ⟨by simp [atoiOk, h], rfl⟩⟩, ?_⟩
   rcases hw with hw | ⟨t, hw⟩
   ·rw [hw]; exact ext_refl _
   ·rw [hw]; exact Lib.bytesWorld_below _ _ t
 | range =>
   obtain ⟨te, pe, hv⟩ := hW.e2
   exact (Tryz.strconv_Atoi_range ⟨l.toArray⟩ (by rw [size_list]; omega) h _ W hv (.inr ⟨te, pe, rfl⟩)).mono fun e w' ⟨N, he, _, _, hb⟩ => ⟨⟨_, he.trans (by rw [show atoiV l = Lib.atoiSat l by simp [atoiV, h]]), .inr ⟨by simp [atoiOk, h], _, _, rfl⟩⟩, hb⟩
 | _ =>
   obtain ⟨te, pe, hv⟩ := hW.e1
   exact (Tryz.strconv_Atoi_syntax ⟨l.toArray⟩ (by rw [size_list]; omega) (h.trans (by rfl)) _ W hv (.inr ⟨te, pe, rfl⟩)).mono fun e w' ⟨N, he, _, _, hb⟩ => ⟨⟨_, he.trans (by rw [show atoiV l = 0 by simp [atoiV, h]]), .inr ⟨by simp [atoiOk, h], _, _, rfl⟩⟩, hb⟩
def rndB (l : List UInt8) : Bool := canB l && (decide (1 ≤ valD 0 l) && decide (valD 0 l ≤ 64))
def rndN (l : List UInt8) : Nat := if rndB l then valD 0 l else 0
theorem rndB_spec (l : List UInt8) : rndB l = (atoiOk l && (decide (1 ≤ atoiV l) && (decide (atoiV l ≤ 64) && (Lib.itoa (atoiV l) == l)))) ∧ (rndB l = true → atoiV l = valD 0 l) := by
 have hd : rndB l = true → canB l = true ∧ 1 ≤ valD 0 l ∧ valD 0 l ≤ 64 := fun h => by
  unfold rndB at h
  simpa using h
 have hv : rndB l = true → Lib.atoiAll l = .ok (valD 0 l : Int) ∧ Lib.itoa (valD 0 l : Int) = l := fun h => by
  obtain ⟨h1, h3, h4⟩ := hd h
  exact (atoi_itoa l (valD 0 l) (by omega)).2 ⟨h1, rfl, by omega⟩
 have hva : rndB l = true → atoiV l = valD 0 l := fun h => by simp [atoiV, (hv h).1]
 refine ⟨?_, hva⟩
 rw [Bool.eq_iff_iff]
 simp only [Bool.and_eq_true, decide_eq_true_eq, beq_iff_eq]
 constructor
 ·intro h
  obtain ⟨h1, h3, h4⟩ := hd h
  rw [hva h]
  exact ⟨by simp [atoiOk, (hv h).1], by omega, by omega, (hv h).2⟩
 ·rintro ⟨h1, h2, h3, h4⟩
  have h5 : Lib.atoiAll l = .ok (atoiV l) := by
   unfold atoiOk at h1
   unfold atoiV
   split at h1
   ·rename_i v e; rw [e]
   ·cases h1
  obtain ⟨q1, q2, q3⟩ := (atoi_itoa l (atoiV l) (by omega)).1 ⟨h5, h4⟩
  unfold rndB
  simp only [Bool.and_eq_true, decide_eq_true_eq]
  exact ⟨q1, by omega, by omega⟩
set_option maxHeartbeats 1000000 in
theorem rounds_any (l : List UInt8) (hl : l.length ≤ 100000) (w : World) (hL : LwS w) :
    Calls Tryz.prog 53 #[Str l] w fun e w' => e = .returned (.int .i64 (rndN l : Int)) ∧ Ext w w' := by
 have hs := (rndB_spec l).1
 have HV := Lib.hid (rndB_spec l).2
 have HN := Lib.hid (show rndN l = if rndB l then valD 0 l else 0 from rfl)
 have hA := Lib.hid (atoi_any l hl w hL)
 have hvb := atoiV_bounds l
 have hI := Lib.hid (fun W hW => itoa_any (atoiV l) hvb.1 hvb.2 W hW)
 have HL := Lib.hid hL; clear hL
 generalize rndN l = rn at *
 generalize rndB l = rb at *
 generalize atoiOk l = ok at *
 generalize atoiV l = v at *
 have HS := Lib.hid hs; clear hs
 have HZ := Lib.hid (show rb = false → rn = 0 from fun h => by rw [HN.out, h]; rfl)
 have HV2 := Lib.hid (show rb = true → (rn : Int) = v from fun h => by rw [HV.out h, HN.out, if_pos h])
 clear HV HN
 go_enter Tryz.func53, Tryz.ntmps53
 go_wp2_with fail
 refine hA.out.mono ?_
 rintro e W1 ⟨⟨ev, he, hev⟩, hx1⟩
 subst he
 have HX1 := Lib.hid hx1; clear hx1
 rcases hev with ⟨hok, rfl⟩ | ⟨hok, t, p, rfl⟩
 ·have HS1 : Hid (rb = (decide (1 ≤ v) && (decide (v ≤ 64) && (Lib.itoa v == l)))) := Lib.hid (by rw [HS.out, hok, Bool.true_and])
  clear hok HS
  by_cases h1 : 1 ≤ v
  ·by_cases h2 : v ≤ 64
   ·have t1 : ¬ v < 1 := by omega
    have t2 : ¬ 64 < v := by omega
    have HS2 : Hid (rb = (Lib.itoa v == l)) := Lib.hid (by rw [HS1.out, decide_eq_true h1, decide_eq_true h2]; rfl)
    clear HS1 h1 h2
    go_wp2_with fail
    refine (hI.out _ ((HL.out.ext HX1.out).tab)).mono ?_
    rintro e W2 ⟨he, hx2⟩
    subst he
    have HX2 := Lib.hid (ext_trans HX1.out hx2); clear hx2
    cases hb : (Lib.itoa v == l) with
    | true =>
      have hb2 : (Lib.itoa v != l) = false := by simpa using hb
      have HR := Lib.hid (HV2.out (HS2.out.trans hb))
      clear HS2 HZ HV2
      go_wp2
      all_goals (go_ret; exact ⟨by rw [HR.out]; rfl, HX2.out⟩)
    | false =>
      have hb2 : (Lib.itoa v != l) = true := by simpa using hb
      have HR := Lib.hid (HZ.out (HS2.out.trans hb))
      clear HS2 HZ HV2
      go_wp2
      all_goals (go_ret; exact ⟨by rw [HR.out]; rfl, HX2.out⟩)
   ·have t1 : ¬ v < 1 := by omega
    have t2 : 64 < v := by omega
    have HR := Lib.hid (HZ.out (by rw [HS1.out, decide_eq_false h2]; simp))
    clear HS1 HZ HV2 h1 h2
    go_wp2
    all_goals (go_ret; exact ⟨by rw [HR.out]; rfl, HX1.out⟩)
  ·have t1 : v < 1 := by omega
   have HR := Lib.hid (HZ.out (by rw [HS1.out, decide_eq_false h1]; simp))
   clear HS1 HZ HV2 h1
   go_wp2
   all_goals (go_ret; exact ⟨by rw [HR.out]; rfl, HX1.out⟩)
 ·have HR := Lib.hid (HZ.out (by rw [HS.out, hok]; simp))
  clear HS hok HZ HV2
  go_wp2
  all_goals (go_ret; exact ⟨by rw [HR.out]; rfl, HX1.out⟩)
theorem valD_first : ∀ (l : List UInt8) (n : Nat), n * 10 ^ l.length ≤ valD n l
 | [], n => by simp [valD]
 | c :: r, n => by
   have := valD_first r (10 * n + (c.toNat - 48))
   show n * 10 ^ (r.length + 1) ≤ valD (10 * n + (c.toNat - 48)) r
   have h2 : (10 * n) * 10 ^ r.length ≤ (10 * n + (c.toNat - 48)) * 10 ^ r.length := Nat.mul_le_mul_right _ (by omega)
   rw [Nat.pow_succ, Nat.mul_comm (10 ^ r.length) 10, ← Nat.mul_assoc, Nat.mul_comm n 10]
   omega
def whoB2 (l : List UInt8) : Bool := l.all digB && (decide (l.length ≤ 4) && (decide (l = []) || decide (bt l 0 ≠ 48)))
theorem rnd_who (l : List UInt8) : rndN l = if whoB2 l && decide (valD 0 l ≤ 64) then valD 0 l else 0 := by
 unfold rndN
 by_cases h : rndB l = true
 ·rw [if_pos h]
  unfold rndB canB at h
  simp only [Bool.and_eq_true, Bool.or_eq_true, decide_eq_true_eq] at h
  obtain ⟨⟨ha, hc⟩, h1, h2⟩ := h
  match l, ha, hc, h1, h2 with
  | [], _, hc, _, _ => simp at hc
  | c :: r, ha, hc, h1, h2 =>
    have hc48 : c ≠ 48 := by
     rcases hc with hl | ⟨_, hh⟩
     ·have : r = [] := by simpa using hl
      subst this
      rintro rfl
      simp [valD] at h1
     ·simpa using hh
    simp only [List.all_cons, Bool.and_eq_true] at ha
    have hcd := ha.1
    simp [digB] at hcd
    have hcn : c.toNat ≠ 48 := fun e => hc48 (UInt8.toNat_inj.1 (by rw [e]; rfl))
    have hv := valD_first r (10 * 0 + (c.toNat - 48))
    rw [show valD (10 * 0 + (c.toNat - 48)) r = valD 0 (c :: r) from rfl] at hv
    have hr : r.length ≤ 1 := by
     rcases Nat.lt_or_ge r.length 2 with h | h
     ·omega
     ·have h3 : 10 ^ 2 ≤ 10 ^ r.length := Nat.pow_le_pow_right (by omega) h
      have h4 : 1 * 10 ^ r.length ≤ (10 * 0 + (c.toNat - 48)) * 10 ^ r.length := Nat.mul_le_mul_right _ (by omega)
      omega
    rw [if_pos]
    simp only [whoB2, Bool.and_eq_true, Bool.or_eq_true, decide_eq_true_eq, List.all_cons, List.length_cons]
    exact ⟨⟨ha, by omega, .inr (by simpa [bt] using hc48)⟩, h2⟩
 ·rw [if_neg h]
  split
  ·rename_i hh
   simp only [whoB2, Bool.and_eq_true, Bool.or_eq_true, decide_eq_true_eq] at hh
   obtain ⟨⟨ha, hl, hn⟩, h2⟩ := hh
   rcases hn with rfl | hn
   ·rfl
   ·match l, ha, hn, h, h2 with
    | [], _, _, _, _ => rfl
    | c :: r, ha, hn, h, h2 =>
      exfalso; apply h
      have ha' := ha
      simp only [List.all_cons, Bool.and_eq_true] at ha
      have hcd := ha.1
      simp [digB] at hcd
      have hc48 : c ≠ 48 := by simpa [bt] using hn
      have hcn : c.toNat ≠ 48 := fun e => hc48 (UInt8.toNat_inj.1 (by rw [e]; rfl))
      have hv := valD_first r (10 * 0 + (c.toNat - 48))
      rw [show valD (10 * 0 + (c.toNat - 48)) r = valD 0 (c :: r) from rfl] at hv
      have h3 : 1 ≤ 10 ^ r.length := Nat.one_le_pow _ _ (by omega)
      have h4 : 1 * 1 ≤ (10 * 0 + (c.toNat - 48)) * 10 ^ r.length := Nat.mul_le_mul (by omega) h3
      unfold rndB canB
      simp only [Bool.and_eq_true, Bool.or_eq_true, decide_eq_true_eq]
      exact ⟨⟨ha', .inr ⟨by simp, by simpa using hc48⟩⟩, by omega, h2⟩
  ·rfl
theorem digs_snoc (l : List UInt8) (k : Nat) (h : k < l.length) : (l.take (k + 1)).all digB = ((l.take k).all digB && digB (bt l k)) := by rw [take_snoc l k h]; simp
theorem digs_take (l : List UInt8) (k : Nat) (h : (l.take k).all digB = false) : l.all digB = false := by
 rw [Bool.eq_false_iff]; intro ha
 rw [Bool.eq_false_iff] at h
 exact h (List.all_eq_true.2 fun x hx => List.all_eq_true.1 ha x (List.mem_of_mem_take hx))
set_option maxHeartbeats 2000000 in
theorem whole_any (l : List UInt8) (hl : l.length ≤ 100000) (w : World) :
    Calls Tryz.prog 65 #[Str l] w fun e w' => e = .returned (.int .i64 (rndN l : Int)) ∧ w' = w := by
 have hixl : ∀ i, i < l.length → ∀ W, (Instr.index 9 (Str l) (.int .i64 (i : Int))).run Tryz.prog W = .ok (Byt (bt l i)) W := fun i hi W => run_index_str Tryz.underlying9 l i _ rfl hi W
 have HI := Lib.hid hixl; clear hixl
 have HRN := Lib.hid (rnd_who l)
 have HWB := Lib.hid (show whoB2 l = (l.all digB && (decide (l.length ≤ 4) && (decide (l = []) || decide (bt l 0 ≠ 48)))) from rfl)
 have HSN := Lib.hid (fun k h => digs_snoc l k h)
 have HTK := Lib.hid (fun k h => digs_take l k h)
 generalize rndN l = rn at *
 have HF := Lib.hid (show whoB2 l = false → rn = 0 from fun h => by rw [HRN.out, h]; rfl)
 go_enter Tryz.func65, Tryz.ntmps65
 go_wp2
 go_loop [3, 4] (fun n i => ∃ k : Nat, k ≤ l.length ∧ k ≤ 4 ∧ i = .int .i64 k ∧ n = .int .i64 (valD 0 (l.take k) : Int) ∧ Hid ((l.take k).all digB = true) ∧ Hid (k = 0 ∨ bt l 0 ≠ 48) ∧ valD 0 (l.take k) < 10 ^ k) (fun _ i => l.length - (intOf i).toNat)
 case atStart => exact ⟨0, by omega, by omega, rfl, rfl, Lib.hid rfl, Lib.hid (.inl rfl), by simp [valD]⟩
 case round =>
  obtain ⟨k, hk, hk4, rfl, rfl, HA, HN, hv⟩ := hrel
  by_cases h3 : k < l.length
  ·have hix := HI.out k h3
   have hsn := HSN.out k h3
   rw [HA.out, Bool.true_and] at hsn
   have htk := HTK.out (k + 1)
   have hvs : valD 0 (l.take (k + 1)) = 10 * valD 0 (l.take k) + ((bt l k).toNat - 48) := by rw [take_snoc l k h3, valD_snoc]
   have HVS := Lib.hid hvs
   have HB := Lib.hid (show digB (bt l k) = false → rn = 0 from fun h => HF.out (by rw [HWB.out, htk (hsn.trans h)]; rfl))
   have HG := Lib.hid (show digB (bt l k) = true → (l.take (k + 1)).all digB = true from fun h => hsn.trans h)
   have H0 := Lib.hid (show k = 0 → bt l k = 48 → rn = 0 from fun h h48 => HF.out (by
    subst h
    have hne : l ≠ [] := fun e => by rw [e] at h3; simp at h3
    rw [HWB.out, decide_eq_false hne, decide_eq_false (show ¬ (bt l 0 ≠ 48) from fun hh => hh h48)]; simp))
   have H0n := Lib.hid (show bt l k ≠ 48 ∨ k ≠ 0 → k + 1 = 0 ∨ bt l 0 ≠ 48 from fun h => .inr (by
    rcases h with h | h
    ·rcases HN.out with h0 | h0
     ·subst h0; exact h
     ·exact h0
    ·rcases HN.out with h0 | h0
     ·exact absurd h0 h
     ·exact h0))
   have H4 := Lib.hid (show 4 ≤ k → rn = 0 from fun h => HF.out (by rw [HWB.out, decide_eq_false (show ¬ l.length ≤ 4 by omega)]; simp))
   clear hsn htk hvs HN HA
   have hp4 : 10 ^ k ≤ 10 ^ 4 := Nat.pow_le_pow_right (by omega) hk4
   have hc := (bt l k).toNat_lt
   generalize bt l k = c at *
   generalize valD 0 (l.take k) = n0 at *
   by_cases g1 : 48 ≤ c.toNat
   ·by_cases g2 : c.toNat ≤ 57
    ·have hdc : digB c = true := by simp [digB, g1, g2]
     have q1 : ¬ (c.toNat : Int) < 48 := by omega
     have q2 : ¬ (57 : Int) < (c.toNat : Int) := by omega
     by_cases g3 : k = 0 ∧ c = 48
     ·have hr := H0.out g3.1 g3.2
      subst hr
      have q4 : ((k : Int) == 0) = true := by simp [g3.1]
      have q5 : ((c.toNat : Int) == 48) = true := by rw [g3.2]; rfl
      clear g1 g2 g3 hdc
      go_wp2
      all_goals (go_ret; exact ⟨rfl, rfl⟩)
     ·by_cases g4 : 4 ≤ k
      ·have hr := H4.out g4
       subst hr
       have q3 : (3 : Int) < (k : Int) := by omega
       have q4 : ((k : Int) == 0) = false := by simp; omega
       go_wp2
       all_goals (go_ret; exact ⟨rfl, rfl⟩)
      ·have q3 : ¬ (3 : Int) < (k : Int) := by omega
       have HA2 := Lib.hid (HG.out hdc)
       have HN2 := Lib.hid (H0n.out (by
        by_cases hk0 : k = 0
        ·exact .inl fun h => g3 ⟨hk0, h⟩
        ·exact .inr hk0))
       have q5 : (c.toNat : Int) - 48 = ((c.toNat - 48 : Nat) : Int) := by omega
       have hd : c.toNat - 48 ≤ 9 := by omega
       by_cases hk0 : k = 0
       ·have hc48 : ((c.toNat : Int) == 48) = false := by
          have : c.toNat ≠ 48 := fun h => g3 ⟨hk0, UInt8.toNat_inj.1 (by rw [h]; rfl)⟩
          simp; omega
        have q4 : ((k : Int) == 0) = true := by simp [hk0]
        clear g1 g2 g3 g4 hdc hk0
        go_wp2
        go_round
        case rel => exact ⟨k + 1, by omega, by omega, by go_num, by rw [HVS.out]; go_num, HA2, HN2, by rw [HVS.out, Nat.pow_succ]; omega⟩
        case measure => simp [intOf] <;> omega
       ·have q4 : ((k : Int) == 0) = false := by simp; omega
        clear g1 g2 g3 g4 hdc
        go_wp2
        go_round
        case rel => exact ⟨k + 1, by omega, by omega, by go_num, by rw [HVS.out]; go_num, HA2, HN2, by rw [HVS.out, Nat.pow_succ]; omega⟩
        case measure => simp [intOf] <;> omega
    ·have hr := HB.out (by simp [digB, g2])
     subst hr
     have q1 : ¬ (c.toNat : Int) < 48 := by omega
     have q2 : (57 : Int) < (c.toNat : Int) := by omega
     go_wp2
     all_goals (go_ret; exact ⟨rfl, rfl⟩)
   ·have hr := HB.out (by simp [digB, g1])
    subst hr
    have q1 : (c.toNat : Int) < 48 := by omega
    go_wp2
    all_goals (go_ret; exact ⟨rfl, rfl⟩)
  ·obtain rfl : k = l.length := by omega
   rw [List.take_length] at *
   have hwb : whoB2 l = true := by
    rw [HWB.out, HA.out, decide_eq_true (show l.length ≤ 4 from hk4)]
    rcases HN.out with h | h
    ·simp [List.eq_nil_of_length_eq_zero h]
    ·simp [h]
   have hrn := HRN.out
   rw [hwb, Bool.true_and] at hrn
   have HR := Lib.hid hrn
   clear hrn hwb HRN HWB HF
   by_cases h64 : valD 0 l ≤ 64
   ·have hr := HR.out
    rw [if_pos (decide_eq_true h64)] at hr
    subst hr
    have q1 : ¬ (64 : Int) < (valD 0 l : Int) := by omega
    go_wp2
    all_goals (go_ret; exact ⟨rfl, rfl⟩)
   ·have hr := HR.out
    rw [if_neg (by simpa using h64)] at hr
    subst hr
    have q1 : (64 : Int) < (valD 0 l : Int) := by omega
    go_wp2
    all_goals (go_ret; exact ⟨rfl, rfl⟩)
end Go.Proofs.YtjkbigecejogdaaGreatDoor
