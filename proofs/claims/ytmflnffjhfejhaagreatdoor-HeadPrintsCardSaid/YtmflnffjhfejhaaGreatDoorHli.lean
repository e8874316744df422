/-
  head.Lines: its iterator.
-/
import Derived.BigGuardPart
import Derived.Lib.Split
import Derived.Lib.SplitLaws
import Derived.Test.YtmflnffjhfejhaaGreatDoorRows
import Derived.Test.YtmflnffjhfejhaaGreatDoorLbk
import Derived.Test.YtmflnffjhfejhaaGreatDoorKit
import Derived.Shelf.Abstract
namespace Go.Proofs.YtmflnffjhfejhaaGreatDoor
open Go.RowKit Go.Shelf
set_option maxRecDepth 100000
attribute [local go_sem] Oper.semAt_some
set_option linter.unusedVariables false
set_option linter.unusedSimpArgs false

/-- What strings.Cut gives: shorter parts. -/
theorem cut_parts (l s : List UInt8) (hs : 0 < s.length) : (Lib.cut l s).1.length ≤ l.length ∧ (l ≠ [] → (Lib.cut l s).2.1.length < l.length) ∧ (Lib.cut l s).2.1.length ≤ l.length := by
  unfold Lib.cut
  split
  · have h1 : (l.take (Lib.index l s).toNat).length ≤ l.length := by rw [List.length_take]; omega
    have h2 : (l.drop ((Lib.index l s).toNat + s.length)).length ≤ l.length - s.length := by rw [List.length_drop]; omega
    refine ⟨h1, fun hne => ?_, ?_⟩
    · have := List.length_pos_iff.2 hne
      show (l.drop ((Lib.index l s).toNat + s.length)).length < l.length
      omega
    · show (l.drop ((Lib.index l s).toNat + s.length)).length ≤ l.length
      omega
  · exact ⟨Nat.le_refl _, fun hne => by simpa using List.length_pos_iff.2 hne, by simp⟩
/-- The lines of a text, and whether each has its end. -/
def hlN : Nat → List UInt8 → List (List UInt8 × Bool)
  | 0, _ => []
  | n + 1, l => if l = [] then [] else ((Lib.cut l [13, 10]).1, (Lib.cut l [13, 10]).2.2) :: hlN n (Lib.cut l [13, 10]).2.1
theorem hlN_more : ∀ (n m : Nat) (l : List UInt8), l.length ≤ n → l.length ≤ m → hlN n l = hlN m l
  | 0, 0, l, _, _ => rfl
  | 0, m + 1, l, h, _ => by
    have : l = [] := List.eq_nil_of_length_eq_zero (by omega)
    subst this; simp [hlN]
  | n + 1, 0, l, _, h => by
    have : l = [] := List.eq_nil_of_length_eq_zero (by omega)
    subst this; simp [hlN]
  | n + 1, m + 1, l, h1, h2 => by
    unfold hlN
    split
    · rfl
    · rename_i hne
      have := (cut_parts l [13, 10] (by simp)).2.1 hne
      rw [hlN_more n m _ (by omega) (by omega)]
def hlines (l : List UInt8) : List (List UInt8 × Bool) := hlN l.length l
theorem hlines_nil : hlines [] = [] := rfl
theorem hlines_step (l : List UInt8) (h : l ≠ []) : hlines l = ((Lib.cut l [13, 10]).1, (Lib.cut l [13, 10]).2.2) :: hlines (Lib.cut l [13, 10]).2.1 ∧ (Lib.cut l [13, 10]).2.1.length < l.length := by
  have h1 := (cut_parts l [13, 10] (by simp)).2.1 h
  refine ⟨?_, h1⟩
  unfold hlines
  rw [hlN_more l.length (l.length + 1) l (Nat.le_refl _) (by omega), hlN, if_neg h]
  rw [hlN_more l.length _ _ (by omega) (Nat.le_refl _)]
theorem hlines_len : ∀ (n : Nat) (l : List UInt8), l.length ≤ n → (hlines l).length ≤ l.length
  | 0, l, h => by
    have : l = [] := List.eq_nil_of_length_eq_zero (by omega)
    subst this; simp [hlines_nil]
  | n + 1, l, h => by
    by_cases hne : l = []
    · subst hne; simp [hlines_nil]
    · obtain ⟨h1, h2⟩ := hlines_step l hne
      have := hlines_len n (Lib.cut l [13, 10]).2.1 (by omega)
      rw [h1, List.length_cons]; omega
theorem hlines_part : ∀ (n : Nat) (l : List UInt8), l.length ≤ n → ∀ x ∈ hlines l, x.1.length ≤ l.length
  | 0, l, h, x, hx => by
    have : l = [] := List.eq_nil_of_length_eq_zero (by omega)
    subst this; simp [hlines_nil] at hx
  | n + 1, l, h, x, hx => by
    by_cases hne : l = []
    · subst hne; simp [hlines_nil] at hx
    · obtain ⟨h1, h2⟩ := hlines_step l hne
      rw [h1] at hx
      rcases List.mem_cons.1 hx with rfl | hx
      · exact (cut_parts l [13, 10] (by simp)).1
      · have := hlines_part n _ (by omega) x hx; omega
def strLenV : Value → Nat
  | .string s => s.size
  | _ => 0
set_option maxHeartbeats 1000000 in
theorem hlines_iter (v : Value) (l : List UInt8) (hl : l.length ≤ 100000) (bx : Nat) (w0 : World) (hbx : w0.heap[bx]? = some (.cells #[v] 22 (0, 0))) (hv : SlB w0 v l) (hL : Lb w0) :
    Iter Tryz.prog 64 #[.pointer (some ⟨bx, 0, none⟩)] (hlines l).length (fun i => #[Str ((hlines l).getD i ([], false)).1, .bool ((hlines l).getD i ([], false)).2]) (fun k => k = bx ∨ sblk v l.length k ∨ libB k) (fun _ => False) w0 := by
  intro n lp J Jx W hW hsz hJ hJx hY h0
  have hbW := (hW bx (.inl rfl)).trans hbx
  have hvW : SlB W v l := hv.keep fun k hk => hW k (.inr (.inl (by simpa using hk)))
  have cb := cell_of hbW
  have hcv := run_str (P := Tryz.prog) (src := 22) (dst := 9) Tryz.underlying22 Tryz.underlying5 Tryz.underlying9 hvW
  have HLW := Lib.hid (hL.keep (fun k hk => hW k (.inr (.inr hk))))
  clear hbx hv hbW hvW hW
  refine callsIn_of_wp Tryz.func64 rfl trivial ?_ rfl
  simp only [Tryz.ntmps64, List.size_toArray, List.length_cons, List.length_nil, Nat.reduceAdd, Nat.reduceSub, Array.replicate_succ, Array.replicate_zero, List.push_toArray, List.append_toArray, List.nil_append, List.cons_append]
  gi_wp2
  gi_loopw [3] (fun rv wr => ∃ (i : Nat) (r : List UInt8), i ≤ (hlines l).length ∧ r.length ≤ 100000 ∧ rv = Str r ∧ Lb wr ∧ J i wr ∧ hlines r = (hlines l).drop i) (fun rv _ => strLenV rv)
  case atStart => exact ⟨0, l, by omega, hl, rfl, HLW.out, h0, rfl⟩
  case round =>
    obtain ⟨i, r, hi, hr, rfl, hm, hJr, hln⟩ := hrel
    by_cases hr0 : r = []
    · have t0 : r.isEmpty = true := by rw [hr0]; rfl
      have hiN : i = (hlines l).length := by
        have := congrArg List.length hln
        rw [hr0, hlines_nil] at this
        simp at this; omega
      clear hln
      subst hiN hr0
      gi_wp2
      refine bodyPost_end (results_none rfl _ _ _) rfl ?_
      exact ⟨⟨_, rfl⟩, .inl hJr⟩
    · have t0 : r.isEmpty = false := by simpa using hr0
      have t1 : (r == []) = false := by simpa using hr0
      have hstep := hlines_step r hr0
      have hC := scut_any r [13, 10] hr wr hm
      have hlt : i < (hlines l).length := by
        have := congrArg List.length hln
        rw [hstep.1] at this
        simp at this; omega
      have hhead : ((Lib.cut r [13, 10]).1, (Lib.cut r [13, 10]).2.2) = (hlines l).getD i ([], false) := by
        rw [hstep.1] at hln
        have := congrArg (·[0]?) hln
        simp at this
        simp [List.getD, ← this]
      have hY' := fun W3 hJ3 => hY (n - 1) i W3 hlt hJ3
      rw [← hhead] at hY'
      obtain ⟨p, q, f, hcut⟩ : ∃ p q f, Lib.cut r [13, 10] = (p, q, f) := ⟨_, _, _, rfl⟩
      rw [hcut] at hC hstep hY'
      simp only at hC hstep hY'
      have hnx : hlines q = (hlines l).drop (i + 1) := by
        rw [hstep.1] at hln
        have := congrArg List.tail hln
        simpa using this
      have hql := hstep.2
      have HC := Lib.hid hC; have HY := Lib.hid hY'; have HNX := Lib.hid hnx; have HM := Lib.hid hm
      clear hC hY hY' hm hcut hhead hstep hln hnx hr0
      gi_wp2
      refine ⟨trivial, fun h => by simp [Fence.wide] at h, (callsIn_wide.2 HC.out).mono ?_⟩
      rintro e W3 ⟨he, hx3⟩
      subst he
      have hm3 := HM.out.ext hx3
      have hJ3 := hJ i wr _ hJr (Chg.of_ext _ hx3)
      obtain ⟨fn, tmps, assign, body, hy, hR⟩ := HY.out _ hJ3
      have HM3 := Lib.hid hm3
      clear hm3 hx3 HC HY
      gi_wp2
      refine ⟨fun h => by simp [Fence.wide] at h, hR.mono ?_⟩
      rintro e W4 (⟨rfl, hJ5, hs5, hk5⟩ | ⟨rfl, hJ5⟩)
      · have HM5 := Lib.hid (show Lb W4 from HM3.out.keep fun k hk => hk5 k (.inr (.inr hk)))
        clear hk5 hR
        gi_wp2
        go_roundw
        case rel => exact ⟨i + 1, q, by omega, by omega, rfl, HM5.out, hJ5, HNX.out⟩
        case measure => simp [strLenV, size_list]; omega
      · gi_wp2
        refine bodyPost_ret (results_none rfl _ _ _) rfl ?_
        exact ⟨⟨_, rfl⟩, .inr ⟨i, hlt, hJ5⟩⟩
theorem headLines_any (ao : Option Addr) (n cap : Nat) (w : World) :
    Calls Tryz.prog 46 #[.slice ao n cap] w fun e w' => e = .returned (.func (.func 64) #[] #[.pointer (some ⟨w.heap.size, 0, none⟩)]) ∧ w' = w.alloc (.cells #[.slice ao n cap] 22) := by
  go_enter Tryz.func46, Tryz.ntmps46
  go_wp2
  go_ret
  exact ⟨rfl, rfl⟩
end Go.Proofs.YtmflnffjhfejhaaGreatDoor
