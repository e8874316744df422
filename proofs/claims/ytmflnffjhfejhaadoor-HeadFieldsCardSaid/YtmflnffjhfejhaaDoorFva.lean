/-
  The law's values and slices.AppendSeq, slices.Collect, over head.Get; head.First.
-/
import Derived.WalkMore
import Derived.Test.YtmflnffjhfejhaaDoorRows
import Derived.Test.YtmflnffjhfejhaaDoorFgi
import Derived.Test.YtmflnffjhfejhaaDoorHtk
import Derived.Test.YtmflnffjhfejhaaDoorKit
import Derived.Shelf.Abstract
namespace Go.Proofs.YtmflnffjhfejhaaDoor
open Go.RowKit Go.Shelf
set_option maxRecDepth 100000
attribute [local go_sem] Oper.semAt_some
set_option linter.unusedVariables false
set_option linter.unusedSimpArgs false
def strC (x : List UInt8) : List Value := [Str x]
theorem flat_str (l : List (List UInt8)) : l.flatMap strC = l.map Str := by
  induction l with
  | nil => rfl
  | cons a l ih => simp [List.flatMap_cons, strC, ih]
set_option maxHeartbeats 2000000 in
theorem values_any (v0 : Value) (fs : List Pr) (nm : List UInt8) (hl : fs.length ≤ 1000) (hb : PrB fs) (hn : nm.length ≤ 10000) (most : Nat) (hm0 : 0 < most) (w : World) (hr : RowC 2 prC w v0 fs) :
    Calls Tryd.prog 23 #[v0, Str nm, .int .i64 (most : Int)] w fun e w' => ∃ v', e = .returned v' ∧ w'.ownsRow w.heap.size 9 1 v' ((getL fs nm).take most).length (((getL fs nm).take most).map Str) ∧ Ext w w' := by
  obtain ⟨ao0, cap0, hvv, hcap0, _, _⟩ := rowP_shape hr
  refine (callsIn_wide (n := 5)).1 (callsIn_of_wp_marks Tryd.func23 rfl trivial (wpIn_wide.2 ?_) rfl)
  simp only [Tryd.ntmps23, List.size_toArray, List.length_cons, List.length_nil, Nat.reduceAdd, Nat.reduceSub, Array.replicate_succ, Array.replicate_zero, List.push_toArray, List.append_toArray, List.nil_append, List.cons_append]
  subst hvv
  have HV := Lib.hid hr
  clear hr
  go_wp2_with (go_at_call 22; refine (get_any _ nm ao0 fs.length cap0 rfl _).mono ?_; rintro e w' ⟨he, hw⟩; subst he; subst w')
  obtain ⟨W0, hW0⟩ : ∃ W0, allocs w [.cells #[.int .i64 (most : Int)] 3, .cells #[.slice none 0 0] 45, .cells #[.slice ao0 fs.length cap0] 28, .cells #[Str nm] 9] = W0 := ⟨_, rfl⟩
  have b0 : W0.heap[w.heap.size]? = some (.cells #[.int .i64 (most : Int)] 3 (0, 0)) := by rw [← hW0]; exact allocs_at w _ 0 _ rfl
  have b2 : W0.heap[w.heap.size + 1]? = some (.cells #[.slice none 0 0] 45 (0, 0)) := by rw [← hW0]; exact allocs_at w _ 1 _ rfl
  have b3 : W0.heap[w.heap.size + 2]? = some (.cells #[.slice ao0 fs.length cap0] 28 (0, 0)) := by rw [← hW0]; exact allocs_at w _ 2 _ rfl
  have b4 : W0.heap[w.heap.size + 3]? = some (.cells #[Str nm] 9 (0, 0)) := by rw [← hW0]; exact allocs_at w _ 3 _ rfl
  have hext0 : Ext w W0 := by rw [← hW0]; exact allocs_ext _ _
  have hsz0' : W0.heap.size = w.heap.size + 4 := by rw [← hW0]; exact allocs_size _ _
  have hsz0 : W0.heap.size ≤ w.heap.size + 4 ∧ w.heap.size + 4 ≤ W0.heap.size := by omega
  simp only [allocs, List.foldl_cons, List.foldl_nil] at hW0
  simp only [allocs, List.foldl_cons, List.foldl_nil, World.size_alloc, Nat.add_assoc, Nat.reduceAdd]
  rw [hW0]
  clear hW0 hsz0'
  have hit := get_iter _ fs nm hl hb hn (w.heap.size + 2) (w.heap.size + 3) W0 b3 b4 (HV.out.ext hext0)
  have hll := getL_len fs nm
  have hslt : ∀ k, rblk (.slice ao0 fs.length cap0) fs.length k → k < w.heap.size := fun k hk => rowC_lt HV.out (fun x => by simp [prC]) hk
  obtain ⟨own, hown⟩ : ∃ own : Nat → Prop, own = fun k => k = w.heap.size + 2 ∨ k = w.heap.size + 3 ∨ rblk (.slice ao0 fs.length cap0) fs.length k := ⟨_, rfl⟩
  rw [← hown] at hit
  have hownl : ∀ k, own k → k < w.heap.size ∨ k = w.heap.size + 2 ∨ k = w.heap.size + 3 := fun k hk => by
    rw [hown] at hk
    rcases hk with hk | hk | hk
    · exact .inr (.inl hk)
    · exact .inr (.inr hk)
    · exact .inl (hslt k hk)
  obtain ⟨L, hLe⟩ : ∃ L, getL fs nm = L := ⟨_, rfl⟩
  rw [hLe] at hit hll
  have HLE := Lib.hid hLe
  clear hLe
  clear hown hslt
  refine wpIn_wide.1 (wpIn_range (n := 5) (P := Tryd.prog) rfl (enters_of Tryd.func38 (by kernel_rfl) rfl) hit (fun k h => by rcases hownl k h with h | h | h <;> omega) (fun k h => h.elim) (fun _ => rfl)
    (fun i W => i < most ∧ W.heap[w.heap.size]? = some (.cells #[.int .i64 (most : Int)] 3 (0, 0)) ∧ (∃ v, W.heap[w.heap.size + 1]? = some (.cells #[v] 45 (0, 0)) ∧ W.ownsRow (w.heap.size + 4) 9 1 v (L.take i).length ((L.take i).map Str)) ∧ Below w.heap.size w W ∧ w.heap.size + 4 ≤ W.heap.size)
    (fun c i W => c = .exit 0 ∧ i + 1 = most ∧ (∃ v, W.heap[w.heap.size + 1]? = some (.cells #[v] 45 (0, 0)) ∧ W.ownsRow (w.heap.size + 4) 9 1 v (L.take (i + 1)).length ((L.take (i + 1)).map Str)) ∧ Below w.heap.size w W ∧ w.heap.size + 4 ≤ W.heap.size) ?_ ?_
    ⟨hm0, b0, ⟨_, b2, by simpa using World.ownsRow_nil _ _ _ _⟩, hext0, hsz0.2⟩ ?_ ?_ ?_)
  · rintro i A' C ⟨hi, h0, ⟨v, h2, hrow⟩, hbel, hsz⟩ hm
    exact ⟨hi, hm.keeps h0 id (by omega), ⟨v, hm.keeps h2 id (by omega), ownz_mv hrow hm (fun k hk => hk.elim)⟩, hm.below hbel (fun k hk => hk.elim) (by omega) (Nat.le_refl _), Nat.le_trans hsz hm.size⟩
  · rintro c i A' C ⟨hc, hi, ⟨v, h2, hrow⟩, hbel, hsz⟩ hm
    exact ⟨hc, hi, ⟨v, hm.keeps h2 id (by omega), ownz_mv hrow hm (fun k hk => hk.elim)⟩, hm.below hbel (fun k hk => hk.elim) (by omega) (Nat.le_refl _), Nat.le_trans hsz hm.size⟩
  · rintro m lp i W hi ⟨him, h0, ⟨v, h2, hrow⟩, hbel, hsz⟩ hlp hrec
    have htk : L.take (i + 1) = L.take i ++ [L.getD i []] := by rw [List.take_succ_eq_append_getElem hi]; simp [List.getD, hi]
    have hli : (L.take i).length = i := by simp; omega
    generalize L.getD i [] = x at *
    have HTK := Lib.hid htk
    rw [hli] at hrow
    have HLI := Lib.hid hli
    clear htk hli hit
    gi_wp2
    refine ⟨Kp.refl _ _ _, fun W2 hm2 hrec2 => ?_⟩
    replace h0 := hm2.keeps h0 id (by omega)
    replace h2 := hm2.keeps h2 id (by omega)
    replace hrow := ownz_mv hrow hm2 (fun k hk => hk.elim)
    replace hbel := hm2.below hbel (fun k hk => hk.elim) (by omega) (Nat.le_refl _)
    replace hsz := Nat.le_trans hsz hm2.size
    clear hm2 hrec hrec2
    obtain ⟨ao, cap, hv, hcap⟩ := ownz_shape hrow
    subst hv
    have hlw : ∀ k, own k → k < w.heap.size + 4 ∧ k ≠ w.heap.size + 1 ∧ k < W2.heap.size := fun k hk => by have := hownl k hk; omega
    have c0 := cell_of h0; have c2 := cell_of h2
    have H0 := Lib.hid h0; have H2 := Lib.hid h2; have HR := Lib.hid hrow; have HB := Lib.hid hbel; have HLW := Lib.hid hlw
    clear h0 h2 hrow hbel hlw
    have hne : ((i : Int) != (i : Int)) = false := by simp
    cases hlast : decide (i + 1 = most) with
    | true =>
      have hlast' : i + 1 = most := by simpa using hlast
      have t1 : (((i : Int) + 1) == (most : Int)) = true := by simp; omega
      have HLAST := Lib.hid hlast'
      clear hlast hlast'
      gi_wp2_with (gi_at_builtin; refine wpListIn_pushz (w.heap.size + 4) rfl _ _ 45 9 rfl Tryd.underlying45 infoStr rfl (by omega) (by omega) HR.out [Str x] rfl (by simp [Str, Value.oneCell']) (by omega) hsz rfl rfl ?_; rintro _ w1 ⟨g1, cap1, rfl⟩ hown1 hgr1; obtain ⟨q1, q2, q3, q4, q5, q6, q7, q8, q9⟩ := boxz_push (own := own) (by omega) H2.out HR.out hown1 hgr1 (fun k hk => HLW.out k hk); clear hown1 hgr1; have Q3 := Lib.hid q3; have Q4 := Lib.hid q4; have Q5 := Lib.hid q5; have Q6 := Lib.hid q6; have Q7 := Lib.hid q7; have Q8 := Lib.hid q8; have e0' := cell_of ((q9 w.heap.size (by omega) (by omega)).trans H0.out); have e0 := cell_of ((q8 w.heap.size (by omega) (by omega) (by omega)).trans H0.out); clear q3 q4 q5 q6 q7 q8 q9)
      refine ⟨?_, rfl, HLAST.out, ⟨_, Q3.out, ?_⟩, Q6.out w.heap.size w (by omega) HB.out, Nat.le_trans hsz Q7.out⟩
      · have h5 := Q5.out
        rw [show w.heap.size + 4 = W0.heap.size by omega] at h5
        exact h5
      · rw [HTK.out, List.length_append, List.map_append, HLI.out]; simpa using Q4.out
    | false =>
      have hlast' : i + 1 ≠ most := by simpa using hlast
      have t1 : (((i : Int) + 1) == (most : Int)) = false := by simp; omega
      have him2 : i + 1 < most := by omega
      clear hlast hlast'
      gi_wp2_with (gi_at_builtin; refine wpListIn_pushz (w.heap.size + 4) rfl _ _ 45 9 rfl Tryd.underlying45 infoStr rfl (by omega) (by omega) HR.out [Str x] rfl (by simp [Str, Value.oneCell']) (by omega) hsz rfl rfl ?_; rintro _ w1 ⟨g1, cap1, rfl⟩ hown1 hgr1; obtain ⟨q1, q2, q3, q4, q5, q6, q7, q8, q9⟩ := boxz_push (own := own) (by omega) H2.out HR.out hown1 hgr1 (fun k hk => HLW.out k hk); clear hown1 hgr1; have Q3 := Lib.hid q3; have Q4 := Lib.hid q4; have Q5 := Lib.hid q5; have Q6 := Lib.hid q6; have Q7 := Lib.hid q7; have Q8 := Lib.hid q8; have e0' := cell_of ((q9 w.heap.size (by omega) (by omega)).trans H0.out); have e0 := cell_of ((q8 w.heap.size (by omega) (by omega) (by omega)).trans H0.out); clear q3 q4 q5 q6 q7 q8 q9)
      refine ⟨?_, him2, (Q8.out _ (by omega) (by omega) (by omega)).trans H0.out, ⟨_, Q3.out, ?_⟩, Q6.out w.heap.size w (by omega) HB.out, Nat.le_trans hsz Q7.out⟩
      · have h5 := Q5.out
        rw [show w.heap.size + 4 = W0.heap.size by omega] at h5
        exact h5
      · rw [HTK.out, List.length_append, List.map_append, HLI.out]; simpa using Q4.out
  · rintro D W hD ⟨hi, h0, ⟨v, h2, hrow⟩, hbel, hsz⟩ hdef
    rw [List.take_length] at hrow
    obtain ⟨ao, cap, hv, _⟩ := ownz_shape hrow
    subst hv
    have HT := Lib.hid (show L.take most = L from List.take_of_length_le (by omega))
    have c2 := cell_of h2
    have HD := Lib.hid hdef
    have HBL := Lib.hid (below_mark hbel (by omega) hdef)
    have HOW := Lib.hid (ownz_base (ownz_put hrow hdef (o' := .deferred none)) (show w.heap.size ≤ w.heap.size + 4 by omega))
    clear hrow hbel h0 h2 hdef hit
    go_wp2
    refine marks_ret_at HD.out (v := .slice ao L.length cap) (by simp [results, Tryd.results23]) ⟨_, rfl, ?_, HBL.out⟩
    rw [HLE.out, HT.out]; exact HOW.out
  · rintro D c i W hD hi ⟨rfl, hmo, ⟨v, h2, hrow⟩, hbel, hsz⟩ hdef
    rw [hmo] at hrow
    obtain ⟨ao, cap, hv, _⟩ := ownz_shape hrow
    subst hv
    obtain ⟨n0, hn0⟩ : ∃ n0, (L.take most).length = n0 := ⟨_, rfl⟩
    have c2 := cell_of h2
    have HD := Lib.hid hdef
    have HBL := Lib.hid (below_mark hbel (by omega) hdef)
    have HOW := Lib.hid (ownz_base (ownz_put hrow hdef (o' := .deferred none)) (show w.heap.size ≤ w.heap.size + 4 by omega))
    rw [hn0] at HOW c2
    have HN := Lib.hid hn0
    clear hrow hbel h2 hdef hit hn0 hmo
    refine wpIn_wide.2 ?_
    go_wp2
    refine marks_ret_at (D := D) HD.out (v := .slice ao n0 cap) (by simp [results, Tryd.results23]) ⟨_, rfl, ?_, HBL.out⟩
    rw [HLE.out, HN.out]; exact HOW.out
end Go.Proofs.YtmflnffjhfejhaaDoor
