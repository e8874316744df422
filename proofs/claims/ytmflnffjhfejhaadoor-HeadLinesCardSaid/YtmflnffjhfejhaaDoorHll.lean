/-
  The law's lines: the first lines that head.Lines tells, at most so many.
-/
import Derived.WalkMore
import Derived.Test.YtmflnffjhfejhaaDoorRows
import Derived.Test.YtmflnffjhfejhaaDoorHlr
import Derived.Test.YtmflnffjhfejhaaDoorHtk
import Derived.Test.YtmflnffjhfejhaaDoorKit
import Derived.Shelf.Abstract
namespace Go.Proofs.YtmflnffjhfejhaaDoor
open Go.RowKit Go.Shelf
set_option maxRecDepth 100000
attribute [local go_sem] Oper.semAt_some
set_option linter.unusedVariables false
set_option linter.unusedSimpArgs false
set_option maxHeartbeats 2000000 in
theorem linesL_any (v : Value) (l : List UInt8) (hl : l.length ≤ 10000) (most : Nat) (hm0 : 0 < most) (w : World) (hL : Lb w) (hv : SlB w v l) :
    Calls Tryd.prog 15 #[v, .int .i64 (most : Int)] w fun e w' => ∃ v', e = .returned v' ∧ w'.ownsRow w.heap.size 40 2 v' ((hlines l).take most).length (((hlines l).take most).flatMap lnC) ∧ Ext w w' := by
  obtain ⟨ao0, cap0, hvv, hcap0, hv2⟩ : ∃ ao cap, v = .slice ao l.length cap ∧ l.length ≤ cap ∧ True := by
    obtain ⟨ao, cap, he, hc, _⟩ := hv
    rw [List.length_map] at he hc
    exact ⟨ao, cap, he, hc, trivial⟩
  subst hvv
  refine (callsIn_wide (n := 5)).1 (callsIn_of_wp_marks Tryd.func15 rfl trivial (wpIn_wide.2 ?_) rfl)
  simp only [Tryd.ntmps15, List.size_toArray, List.length_cons, List.length_nil, Nat.reduceAdd, Nat.reduceSub, Array.replicate_succ, Array.replicate_zero, List.push_toArray, List.append_toArray, List.nil_append, List.cons_append]
  have HL := Lib.hid hL; have HV := Lib.hid hv
  clear hL hv hv2
  go_wp2_with (go_at_call 34; refine (headLines_any _ _ _ _).mono ?_; rintro e w' ⟨rfl, rfl⟩)
  obtain ⟨W0, hW0⟩ : ∃ W0, allocs w [.cells #[.int .i64 (most : Int)] 3, .cells #[.slice none 0 0] 36, .cells #[.slice ao0 l.length cap0] 27] = W0 := ⟨_, rfl⟩
  have b0 : W0.heap[w.heap.size]? = some (.cells #[.int .i64 (most : Int)] 3 (0, 0)) := by rw [← hW0]; exact allocs_at w _ 0 _ rfl
  have b2 : W0.heap[w.heap.size + 1]? = some (.cells #[.slice none 0 0] 36 (0, 0)) := by rw [← hW0]; exact allocs_at w _ 1 _ rfl
  have b3 : W0.heap[w.heap.size + 2]? = some (.cells #[.slice ao0 l.length cap0] 27 (0, 0)) := by rw [← hW0]; exact allocs_at w _ 2 _ rfl
  have hext0 : Ext w W0 := by rw [← hW0]; exact allocs_ext _ _
  have hsz0' : W0.heap.size = w.heap.size + 3 := by rw [← hW0]; exact allocs_size _ _
  have hsz0 : W0.heap.size ≤ w.heap.size + 3 ∧ w.heap.size + 3 ≤ W0.heap.size := by omega
  simp only [allocs, List.foldl_cons, List.foldl_nil] at hW0
  simp only [Nat.add_assoc, Nat.reduceAdd]
  rw [hW0]
  clear hW0 hsz0'
  have hit := hlines_iter _ l (by omega) (w.heap.size + 2) W0 b3 (HV.out.ext hext0) (HL.out.ext hext0)
  have hll := hlines_len _ l (Nat.le_refl _)
  have hslt : ∀ k, sblk (.slice ao0 l.length cap0) l.length k → k < w.heap.size := fun k hk => sblk_lt HV.out (by simpa using hk)
  have hlt : ∀ k, libB k → k < w.heap.size := fun k hk => HL.out.lt hk
  obtain ⟨own, hown⟩ : ∃ own : Nat → Prop, own = fun k => k = w.heap.size + 2 ∨ sblk (.slice ao0 l.length cap0) l.length k ∨ libB k := ⟨_, rfl⟩
  rw [← hown] at hit
  have hownl : ∀ k, own k → k < w.heap.size ∨ k = w.heap.size + 2 := fun k hk => by
    rw [hown] at hk
    rcases hk with hk | hk | hk
    · exact .inr hk
    · exact .inl (hslt k hk)
    · exact .inl (hlt k hk)
  obtain ⟨L, hLe⟩ : ∃ L, hlines l = L := ⟨_, rfl⟩
  rw [hLe] at hit hll
  have HLE := Lib.hid hLe
  clear hLe
  clear hown hslt
  refine wpIn_wide.1 (wpIn_range (n := 5) (P := Tryd.prog) rfl (enters_of Tryd.func48 (by kernel_rfl) rfl) hit (fun k h => by rcases hownl k h with h | h <;> omega) (fun k h => h.elim) (fun _ => rfl)
    (fun i W => i < most ∧ W.heap[w.heap.size]? = some (.cells #[.int .i64 (most : Int)] 3 (0, 0)) ∧ (∃ v, W.heap[w.heap.size + 1]? = some (.cells #[v] 36 (0, 0)) ∧ W.ownsRow (w.heap.size + 3) 40 2 v (L.take i).length ((L.take i).flatMap lnC)) ∧ Below w.heap.size w W ∧ w.heap.size + 3 ≤ W.heap.size)
    (fun c i W => c = .exit 0 ∧ i + 1 = most ∧ (∃ v, W.heap[w.heap.size + 1]? = some (.cells #[v] 36 (0, 0)) ∧ W.ownsRow (w.heap.size + 3) 40 2 v (L.take (i + 1)).length ((L.take (i + 1)).flatMap lnC)) ∧ Below w.heap.size w W ∧ w.heap.size + 3 ≤ W.heap.size) ?_ ?_
    ⟨hm0, b0, ⟨_, b2, by simpa using World.ownsRow_nil _ _ _ _⟩, hext0, hsz0.2⟩ ?_ ?_ ?_)
  · rintro i A' C ⟨hi, h0, ⟨v, h2, hrow⟩, hbel, hsz⟩ hm
    exact ⟨hi, hm.keeps h0 id (by omega), ⟨v, hm.keeps h2 id (by omega), ownz_mv hrow hm (fun k hk => hk.elim)⟩, hm.below hbel (fun k hk => hk.elim) (by omega) (Nat.le_refl _), Nat.le_trans hsz hm.size⟩
  · rintro c i A' C ⟨hc, hi, ⟨v, h2, hrow⟩, hbel, hsz⟩ hm
    exact ⟨hc, hi, ⟨v, hm.keeps h2 id (by omega), ownz_mv hrow hm (fun k hk => hk.elim)⟩, hm.below hbel (fun k hk => hk.elim) (by omega) (Nat.le_refl _), Nat.le_trans hsz hm.size⟩
  · rintro m lp i W hi ⟨him, h0, ⟨v, h2, hrow⟩, hbel, hsz⟩ hlp hrec
    have htk : L.take (i + 1) = L.take i ++ [L.getD i ([], false)] := by rw [List.take_succ_eq_append_getElem hi]; simp [List.getD, hi]
    have hli : (L.take i).length = i := by simp; omega
    generalize L.getD i ([], false) = xp at *
    obtain ⟨x, xe⟩ := xp
    simp only at htk ⊢
    have HTK := Lib.hid htk
    rw [hli] at hrow
    have HLI := Lib.hid hli
    clear htk hli hit
    gi_wp2
    refine ⟨Kp.refl _ _ _, fun W2 hm2 hrec2 => ?_⟩
    replace h0 := hm2.keeps h0 id (by omega)
    replace h2 := hm2.keeps h2 id (by omega)
    replace hrow := ownz_mv hrow hm2 (fun k hk => hk.elim)
    replace hbel := hm2.below hbel (fun k hk => hk.elim) (by omega) (Nat.le_refl _)
    replace hsz := Nat.le_trans hsz hm2.size
    clear hm2 hrec hrec2
    obtain ⟨ao, cap, hv, hcap⟩ := ownz_shape hrow
    subst hv
    have hlw : ∀ k, own k → k < w.heap.size + 3 ∧ k ≠ w.heap.size + 1 ∧ k < W2.heap.size := fun k hk => by have := hownl k hk; omega
    have c0 := cell_of h0; have c2 := cell_of h2
    have H0 := Lib.hid h0; have H2 := Lib.hid h2; have HR := Lib.hid hrow; have HB := Lib.hid hbel; have HLW := Lib.hid hlw
    clear h0 h2 hrow hbel hlw
    have hne : ((i : Int) != (i : Int)) = false := by simp
    cases hlast : decide (i + 1 = most) with
    | true =>
      have hlast' : i + 1 = most := by simpa using hlast
      have t1 : (((i : Int) + 1) == (most : Int)) = true := by simp; omega
      have HLAST := Lib.hid hlast'
      clear hlast hlast'
      gi_wp2_with (gi_at_builtin; refine wpListIn_pushz (w.heap.size + 3) rfl _ _ 36 40 rfl Tryd.underlying36 infoLine rfl (by omega) (by omega) HR.out (lnC (x, xe)) rfl (lnC_one (x, xe)) (by omega) hsz rfl rfl ?_; rintro _ w1 ⟨g1, cap1, rfl⟩ hown1 hgr1; obtain ⟨q1, q2, q3, q4, q5, q6, q7, q8, q9⟩ := boxz_push (own := own) (by omega) H2.out HR.out hown1 hgr1 (fun k hk => HLW.out k hk); clear hown1 hgr1; have Q3 := Lib.hid q3; have Q4 := Lib.hid q4; have Q5 := Lib.hid q5; have Q6 := Lib.hid q6; have Q7 := Lib.hid q7; have Q8 := Lib.hid q8; have e0' := cell_of ((q9 w.heap.size (by omega) (by omega)).trans H0.out); have e0 := cell_of ((q8 w.heap.size (by omega) (by omega) (by omega)).trans H0.out); clear q3 q4 q5 q6 q7 q8 q9)
      refine ⟨?_, rfl, HLAST.out, ⟨_, Q3.out, ?_⟩, Q6.out w.heap.size w (by omega) HB.out, Nat.le_trans hsz Q7.out⟩
      · have h5 := Q5.out
        rw [show w.heap.size + 3 = W0.heap.size by omega] at h5
        exact h5
      · rw [HTK.out, List.length_append, List.flatMap_append, HLI.out]; simpa using Q4.out
    | false =>
      have hlast' : i + 1 ≠ most := by simpa using hlast
      have t1 : (((i : Int) + 1) == (most : Int)) = false := by simp; omega
      have him2 : i + 1 < most := by omega
      clear hlast hlast'
      gi_wp2_with (gi_at_builtin; refine wpListIn_pushz (w.heap.size + 3) rfl _ _ 36 40 rfl Tryd.underlying36 infoLine rfl (by omega) (by omega) HR.out (lnC (x, xe)) rfl (lnC_one (x, xe)) (by omega) hsz rfl rfl ?_; rintro _ w1 ⟨g1, cap1, rfl⟩ hown1 hgr1; obtain ⟨q1, q2, q3, q4, q5, q6, q7, q8, q9⟩ := boxz_push (own := own) (by omega) H2.out HR.out hown1 hgr1 (fun k hk => HLW.out k hk); clear hown1 hgr1; have Q3 := Lib.hid q3; have Q4 := Lib.hid q4; have Q5 := Lib.hid q5; have Q6 := Lib.hid q6; have Q7 := Lib.hid q7; have Q8 := Lib.hid q8; have e0' := cell_of ((q9 w.heap.size (by omega) (by omega)).trans H0.out); have e0 := cell_of ((q8 w.heap.size (by omega) (by omega) (by omega)).trans H0.out); clear q3 q4 q5 q6 q7 q8 q9)
      refine ⟨?_, him2, (Q8.out _ (by omega) (by omega) (by omega)).trans H0.out, ⟨_, Q3.out, ?_⟩, Q6.out w.heap.size w (by omega) HB.out, Nat.le_trans hsz Q7.out⟩
      · have h5 := Q5.out
        rw [show w.heap.size + 3 = W0.heap.size by omega] at h5
        exact h5
      · rw [HTK.out, List.length_append, List.flatMap_append, HLI.out]; simpa using Q4.out
  · rintro D W hD ⟨hi, h0, ⟨v, h2, hrow⟩, hbel, hsz⟩ hdef
    rw [List.take_length] at hrow
    obtain ⟨ao, cap, hv, _⟩ := ownz_shape hrow
    subst hv
    have HT := Lib.hid (show L.take most = L from List.take_of_length_le (by omega))
    have c2 := cell_of h2
    have HD := Lib.hid hdef
    have HBL := Lib.hid (below_mark hbel (by omega) hdef)
    have HOW := Lib.hid (ownz_base (ownz_put hrow hdef (o' := .deferred none)) (show w.heap.size ≤ w.heap.size + 3 by omega))
    clear hrow hbel h0 h2 hdef hit
    go_wp2
    refine marks_ret_at HD.out (v := .slice ao L.length cap) (by simp [results, Tryd.results15]) ⟨_, rfl, ?_, HBL.out⟩
    rw [HLE.out, HT.out]; exact HOW.out
  · rintro D c i W hD hi ⟨rfl, hmo, ⟨v, h2, hrow⟩, hbel, hsz⟩ hdef
    rw [hmo] at hrow
    obtain ⟨ao, cap, hv, _⟩ := ownz_shape hrow
    subst hv
    obtain ⟨n0, hn0⟩ : ∃ n0, (L.take most).length = n0 := ⟨_, rfl⟩
    have c2 := cell_of h2
    have HD := Lib.hid hdef
    have HBL := Lib.hid (below_mark hbel (by omega) hdef)
    have HOW := Lib.hid (ownz_base (ownz_put hrow hdef (o' := .deferred none)) (show w.heap.size ≤ w.heap.size + 3 by omega))
    rw [hn0] at HOW c2
    have HN := Lib.hid hn0
    clear hrow hbel h2 hdef hit hn0 hmo
    refine wpIn_wide.2 ?_
    go_wp2
    refine marks_ret_at (D := D) HD.out (v := .slice ao n0 cap) (by simp [results, Tryd.results15]) ⟨_, rfl, ?_, HBL.out⟩
    rw [HLE.out, HN.out]; exact HOW.out
end Go.Proofs.YtmflnffjhfejhaaDoor
