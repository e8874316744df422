/-
  ref09.Lines: the lines as head.Lines tells them.
-/
import Derived.BigGuardPart
import Derived.Test.YtmflnffjhfejhaaGreatDoorRows
import Derived.Test.YtmflnffjhfejhaaGreatDoorHli
import Derived.Test.YtmflnffjhfejhaaGreatDoorHfl
import Derived.Test.YtmflnffjhfejhaaGreatDoorHtk
import Derived.Test.YtmflnffjhfejhaaGreatDoorKit
namespace Go.Proofs.YtmflnffjhfejhaaGreatDoor
open Go.RowKit
set_option maxRecDepth 100000
set_option linter.unusedVariables false
set_option linter.unusedSimpArgs false

def lnC (x : List UInt8 × Bool) : List Value := [Str x.1, .bool x.2]
theorem lnC_len (x : List UInt8 × Bool) : (lnC x).length = 2 := rfl
theorem lnC_one (x : List UInt8 × Bool) : ∀ c ∈ lnC x, c.oneCell' = true := by
  intro c hc
  simp only [lnC, List.mem_cons, List.not_mem_nil, or_false] at hc
  rcases hc with rfl | rfl <;> rfl
theorem infoLine : (Tryz.prog.info? 63).map (fun i => (i.zero, i.size, i.bytes)) = some (some (.agg #[.string ⟨#[]⟩, .bool false]), 2, 24) := by kernel_rfl
theorem occ2 (l : List UInt8) (i : Nat) : Lib.occAt l [13, 10] i = (decide (i + 1 < l.length) && (bt l i == 13 && bt l (i + 1) == 10)) := by
  unfold Lib.occAt
  by_cases h : i + 1 < l.length
  · have e1 : l.drop i = bt l i :: bt l (i + 1) :: l.drop (i + 2) := by
      rw [List.drop_eq_getElem_cons (show i < l.length by omega), List.drop_eq_getElem_cons h, bt_get l i (by omega), bt_get l (i + 1) h]
    rw [e1]
    simp only [List.isPrefixOf, h, decide_true, Bool.true_and, Bool.and_true]
    rw [Bool.beq_comm (a := (13 : UInt8)), Bool.beq_comm (a := (10 : UInt8))]
  · have : (l.drop i).length ≤ 1 := by rw [List.length_drop]; omega
    match hd : l.drop i, this with
    | [], _ => simp [List.isPrefixOf, h]
    | [a], _ => simp [List.isPrefixOf, h]
theorem bt_drop' (l : List UInt8) (k i : Nat) : bt (l.drop k) i = bt l (k + i) := by
  simp [bt, List.getD]
/-- The two bytes of an end at place i. -/
def endAt (l : List UInt8) (i : Nat) : Bool := decide (i + 1 < l.length) && (bt l i == 13 && bt l (i + 1) == 10)
theorem occ_drop (l : List UInt8) (k i : Nat) : Lib.occAt (l.drop k) [13, 10] i = endAt l (k + i) := by
  rw [occ2, endAt, bt_drop', bt_drop', List.length_drop, Nat.add_assoc]
  congr 1
  by_cases h : k + (i + 1) < l.length
  · simp [h]; omega
  · simp [h]; omega
theorem hl_hit (l : List UInt8) (fr i : Nat) (hfr : fr ≤ i) (h : endAt l i = true) (hno : ∀ m, fr ≤ m → m < i → endAt l m = false) : hlines (l.drop fr) = ((l.drop fr).take (i - fr), true) :: hlines (l.drop (i + 2)) := by
  have hil : i + 1 < l.length := by unfold endAt at h; simp at h; exact h.1
  have hx : Lib.index (l.drop fr) [13, 10] = ((i - fr : Nat) : Int) := by
    refine Lib.index_first (by rw [List.length_drop]; omega) ?_ ?_
    · rw [occ_drop, show fr + (i - fr) = i by omega]; exact h
    · intro j hj; rw [occ_drop]; exact hno _ (by omega) (by omega)
  have hne : l.drop fr ≠ [] := fun e => by have := congrArg List.length e; rw [List.length_drop, List.length_nil] at this; omega
  have hc : Lib.cut (l.drop fr) [13, 10] = ((l.drop fr).take (i - fr), l.drop (i + 2), true) := by
    unfold Lib.cut
    rw [hx, if_pos (by omega)]
    simp only [Int.toNat_natCast, List.length_cons, List.length_nil, List.drop_drop]
    rw [show fr + (i - fr + (0 + 1 + 1)) = i + 2 by omega]
  rw [(hlines_step _ hne).1, hc]
theorem hl_end (l : List UInt8) (fr : Nat) (hno : ∀ m, fr ≤ m → endAt l m = false) : hlines (l.drop fr) = if fr < l.length then [(l.drop fr, false)] else [] := by
  by_cases hf : fr < l.length
  · rw [if_pos hf]
    have hne : l.drop fr ≠ [] := fun e => by have := congrArg List.length e; rw [List.length_drop, List.length_nil] at this; omega
    have hx : Lib.index (l.drop fr) [13, 10] = -1 := Lib.index_none (fun j _ => by rw [occ_drop]; exact hno _ (by omega))
    have hc : Lib.cut (l.drop fr) [13, 10] = (l.drop fr, [], false) := by
      unfold Lib.cut
      rw [hx, if_neg (by omega)]
    rw [(hlines_step _ hne).1, hc, hlines_nil]
  · rw [if_neg hf, List.drop_of_length_le (by omega), hlines_nil]
set_option maxHeartbeats 2000000 in
theorem refLines_any (l : List UInt8) (hl : l.length ≤ 100000) (w : World) :
    Calls Tryz.prog 19 #[Str l] w fun e w' => ∃ v, e = .returned v ∧ w'.ownsRow w.heap.size 63 2 v (hlines l).length ((hlines l).flatMap lnC) ∧ Ext w w' := by
  have hix : ∀ (i : Nat) (W : World), i < l.length → (Instr.index 9 (Str l) (.int .i64 (i : Int))).run Tryz.prog W = .ok (Byt (bt l i)) W := fun i W h => run_index_str Tryz.underlying9 l i _ rfl h W
  have hix1 : ∀ (i : Nat) (W : World), i + 1 < l.length → (Instr.index 9 (Str l) (.int .i64 ((i : Int) + 1))).run Tryz.prog W = .ok (Byt (bt l (i + 1))) W := fun i W h => run_index_str Tryz.underlying9 l (i + 1) _ (by omega) h W
  have hs1 : ∀ (fr i : Nat) (W : World), fr ≤ i → i ≤ l.length → (Instr.slice 9 (Str l) (some (.int .i64 (fr : Int))) (some (.int .i64 (i : Int))) none).run Tryz.prog W = .ok (Str ((l.drop fr).take (i - fr))) W := fun fr i W h1 h2 => by
    have h := run_slice_string (P := Tryz.prog) (w := W) 9 ⟨l.toArray⟩ .i64 .i64 (fr : Int) (i : Int) Tryz.underlying9 (by omega) (by omega) (by rw [size_list]; omega)
    rw [h]
    simp [extract_list, List.take_drop, show fr + (i - fr) = i by omega]
  have hs2 : ∀ (fr : Nat) (W : World), fr ≤ l.length → (Instr.slice 9 (Str l) (some (.int .i64 (fr : Int))) none none).run Tryz.prog W = .ok (Str (l.drop fr)) W := fun fr W h => by
    have h := run_slice_string_l (P := Tryz.prog) (w := W) 9 ⟨l.toArray⟩ Tryz.underlying9 .i64 (fr : Int) (by omega) (by rw [size_list]; omega)
    rw [h]; simp [extract_list, size_list]
  have HIX := Lib.hid hix; have HIX1 := Lib.hid hix1; have HS1 := Lib.hid hs1; have HS2 := Lib.hid hs2
  have hll := hlines_len _ l (Nat.le_refl _)
  clear hix hix1 hs1 hs2
  go_enter Tryz.func19, Tryz.ntmps19
  go_wp2
  go_loopw [3, 4, 5] (fun o f i wr => ∃ (k fr : Nat) (out : List (List UInt8 × Bool)), fr ≤ k ∧ k ≤ l.length ∧ f = .int .i64 fr ∧ i = .int .i64 k ∧ Hid (hlines l = out ++ hlines (l.drop fr)) ∧ Hid (∀ m, fr ≤ m → m < k → endAt l m = false) ∧ Hid (wr.ownsRow w.heap.size 63 2 o out.length (out.flatMap lnC)) ∧ Hid (Ext w wr)) (fun _ _ i _ => l.length - (intOf i).toNat)
  case atStart => exact ⟨0, 0, [], by omega, by omega, rfl, rfl, Lib.hid (by simp), Lib.hid (fun m _ h => by omega), Lib.hid (by simpa using World.ownsRow_nil _ _ _ _), Lib.hid (ext_refl w)⟩
  case round =>
    obtain ⟨k, fr, out, hfk, hk, rfl, rfl, HL, HN, HO, HX⟩ := hrel
    have hol : out.length ≤ 100000 := by have := congrArg List.length HL.out; rw [List.length_append] at this; omega
    obtain ⟨ao, cap, hv, hcap⟩ := ownz_shape HO.out
    subst hv
    by_cases h3 : k < l.length
    · have i0 := fun W => HIX.out k W h3
      cases he : endAt l k with
      | true =>
        have he' := he
        unfold endAt at he'
        simp only [Bool.and_eq_true, decide_eq_true_eq, beq_iff_eq] at he'
        obtain ⟨hk1, hb1, hb2⟩ := he'
        have i1 := fun W => HIX1.out k W hk1
        have sl := fun W => HS1.out fr k W hfk hk
        rw [hb1] at i0
        rw [hb2] at i1
        have HH := Lib.hid (hl_hit l fr k hfk he HN.out)
        have t1 : decide ((k : Int) + 1 < (l.length : Int)) = true := by simp; omega
        clear he hb1 hb2
        generalize (l.drop fr).take (k - fr) = x at *
        have hsz : w.heap.size ≤ wr.heap.size := HX.out.size
        go_wp2_with (at_builtin; refine wpList_pushz w.heap.size rfl _ _ 58 63 rfl Tryz.underlying58 infoLine rfl (by omega) (by omega) HO.out (lnC (x, true)) rfl (lnC_one (x, true)) (by omega) hsz rfl rfl ?_; rintro _ w1 ⟨g1, cap1, rfl⟩ hown1 hgr1; have HO1 := Lib.hid hown1; have HX1 := Lib.hid (ext_pushz HX.out HO.out hgr1); clear hown1 hgr1)
        go_roundw
        case rel => exact ⟨k + 2, k + 2, out ++ [(x, true)], by omega, by omega, by go_num, by go_num, Lib.hid (by rw [HL.out, HH.out]; simp), Lib.hid (fun m _ _ => by omega), Lib.hid (by rw [List.length_append, List.flatMap_append]; simpa using HO1.out), HX1⟩
        case measure => simp [intOf] <;> omega
      | false =>
        have HN2 := Lib.hid (fun m (h1 : fr ≤ m) (h2 : m < k + 1) => by
          by_cases h : m < k
          · exact HN.out m h1 h
          · obtain rfl : m = k := by omega
            exact he)
        have fin : ∃ (k' fr' : Nat) (out' : List (List UInt8 × Bool)), fr' ≤ k' ∧ k' ≤ l.length ∧ (Value.int .i64 (fr : Int)) = .int .i64 fr' ∧ (Value.int .i64 ((k : Int) + 1)) = .int .i64 k' ∧ Hid (hlines l = out' ++ hlines (l.drop fr')) ∧ Hid (∀ m, fr' ≤ m → m < k' → endAt l m = false) ∧ Hid (wr.ownsRow w.heap.size 63 2 (.slice ao out.length cap) out'.length (out'.flatMap lnC)) ∧ Hid (Ext w wr) :=
          ⟨k + 1, fr, out, by omega, by omega, rfl, by go_num, HL, HN2, HO, HX⟩
        have FIN := Lib.hid fin
        have he2 : ¬ (k + 1 < l.length ∧ bt l k = 13 ∧ bt l (k + 1) = 10) := fun ⟨h1, h2, h3⟩ => by
          unfold endAt at he; rw [h2, h3] at he; simp at he; omega
        clear fin he
        have hb := (bt l k).toNat_lt
        by_cases hb1 : bt l k = 13
        · rw [hb1] at i0
          by_cases hk1 : k + 1 < l.length
          · have i1 := fun W => HIX1.out k W hk1
            have t1 : decide ((k : Int) + 1 < (l.length : Int)) = true := by simp; omega
            have hb2 : bt l (k + 1) ≠ 10 := fun h => he2 ⟨hk1, hb1, h⟩
            have hc1 : ((bt l (k + 1)).toNat : Int) ≠ 10 := fun e => hb2 (UInt8.toNat_inj.1 (by rw [show (10 : UInt8).toNat = 10 from rfl]; omega))
            clear he2 hb1 hb2 hb
            generalize bt l (k + 1) = c at *
            go_wp2
            go_roundw
            case rel => exact FIN.out
            case measure => simp [intOf] <;> omega
          · have t1 : decide ((k : Int) + 1 < (l.length : Int)) = false := by simp; omega
            clear he2 hb1 hb
            go_wp2
            go_roundw
            case rel => exact FIN.out
            case measure => simp [intOf] <;> omega
        · have hc1 : ((bt l k).toNat : Int) ≠ 13 := fun e => hb1 (UInt8.toNat_inj.1 (by rw [show (13 : UInt8).toNat = 13 from rfl]; omega))
          clear he2 hb1 hb
          generalize bt l k = c at *
          go_wp2
          go_roundw
          case rel => exact FIN.out
          case measure => simp [intOf] <;> omega
    · obtain rfl : k = l.length := by omega
      have HE := Lib.hid (hl_end l fr (fun m hm => by
        by_cases h : m < l.length
        · exact HN.out m hm h
        · unfold endAt; simp; omega))
      by_cases hf : fr < l.length
      · have t1 : decide ((fr : Int) < (l.length : Int)) = true := by simp; omega
        have sl := fun W => HS2.out fr W hfk
        have HE2 := Lib.hid (show hlines l = out ++ [(l.drop fr, false)] by rw [HL.out, HE.out, if_pos hf])
        clear HE
        generalize l.drop fr = x at *
        have hsz : w.heap.size ≤ wr.heap.size := HX.out.size
        go_wp2_with (at_builtin; refine wpList_pushz w.heap.size rfl _ _ 58 63 rfl Tryz.underlying58 infoLine rfl (by omega) (by omega) HO.out (lnC (x, false)) rfl (lnC_one (x, false)) (by omega) hsz rfl rfl ?_; rintro _ w1 ⟨g1, cap1, rfl⟩ hown1 hgr1; have HO1 := Lib.hid hown1; have HX1 := Lib.hid (ext_pushz HX.out HO.out hgr1); clear hown1 hgr1)
        go_ret
        refine ⟨_, rfl, ?_, HX1.out⟩
        rw [HE2.out, List.length_append, List.flatMap_append]
        simpa using HO1.out
      · have t1 : decide ((fr : Int) < (l.length : Int)) = false := by simp; omega
        have HE2 := Lib.hid (show hlines l = out by rw [HL.out, HE.out, if_neg hf, List.append_nil])
        clear HE
        go_wp2
        go_ret
        refine ⟨_, rfl, ?_, HX.out⟩
        rw [HE2.out]
        exact HO.out
end Go.Proofs.YtmflnffjhfejhaaGreatDoor
