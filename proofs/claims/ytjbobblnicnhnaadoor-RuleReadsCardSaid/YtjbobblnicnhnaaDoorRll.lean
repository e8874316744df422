/-
  The law's rules: the first ones of a policy, at most so many.
-/
import Derived.BigGuardPart
import Derived.Test.YtjbobblnicnhnaaDoorRows
import Derived.Test.YtjbobblnicnhnaaDoorRli
import Derived.Test.YtjbobblnicnhnaaDoorCln
import Derived.Test.YtjbobblnicnhnaaDoorKit
import Derived.Test.YtjbobblnicnhnaaDoorSys
import Derived.Shelf.Abstract
namespace Go.Proofs.YtjbobblnicnhnaaDoor
open Go.RowKit Go.Shelf
set_option maxRecDepth 100000
attribute [local go_sem] Oper.semAt_some
set_option linter.unusedVariables false
set_option linter.unusedSimpArgs false

set_option maxHeartbeats 4000000 in
theorem rulesL_any (po : Option Addr) (rs : List Ru) (hl : rs.length ≤ 100000) (most : Nat) (hm0 : 0 < most) (hm1 : most ≤ 100000) (w : World) (hp : PolV w po rs) :
    Calls Tryd.prog 31 #[.pointer po, .int .i64 (most : Int)] w fun e w' => ∃ v, e = .returned v ∧ w'.ownsRow w.heap.size 26 6 v (rs.take most).length ((rs.take most).flatMap ruC) ∧ Ext w w' := by
  refine (callsIn_wide (n := 5)).1 (callsIn_of_wp_marks Tryd.func31 rfl trivial (wpIn_wide.2 ?_) rfl)
  simp only [Tryd.ntmps31, List.size_toArray, List.length_cons, List.length_nil, Nat.reduceAdd, Nat.reduceSub, Array.replicate_succ, Array.replicate_zero, List.push_toArray, List.append_toArray, List.nil_append, List.cons_append]
  have HP := Lib.hid hp
  go_wp2_with (go_at_call 47; refine (rules_any _ _).mono ?_; rintro e w' ⟨rfl, rfl⟩)
  obtain ⟨W0, hW0⟩ : ∃ W0, allocs w [.cells #[.int .i64 (most : Int)] 3, .cells #[.slice none 0 0] 34, .cells #[.slice none 0 0] 34, .cells #[.pointer po] 37] = W0 := ⟨_, rfl⟩
  have b0 : W0.heap[w.heap.size]? = some (.cells #[.int .i64 (most : Int)] 3 (0, 0)) := by rw [← hW0]; exact allocs_at w _ 0 _ rfl
  have b1 : W0.heap[w.heap.size + 1]? = some (.cells #[.slice none 0 0] 34 (0, 0)) := by rw [← hW0]; exact allocs_at w _ 1 _ rfl
  have b2 : W0.heap[w.heap.size + 2]? = some (.cells #[.slice none 0 0] 34 (0, 0)) := by rw [← hW0]; exact allocs_at w _ 2 _ rfl
  have b3 : W0.heap[w.heap.size + 3]? = some (.cells #[.pointer po] 37 (0, 0)) := by rw [← hW0]; exact allocs_at w _ 3 _ rfl
  have hext0 : Ext w W0 := by rw [← hW0]; exact allocs_ext _ _
  have hsz0' : W0.heap.size = w.heap.size + 4 := by rw [← hW0]; exact allocs_size _ _
  have hsz0 : W0.heap.size ≤ w.heap.size + 4 ∧ w.heap.size + 4 ≤ W0.heap.size := by omega
  simp only [allocs, List.foldl_cons, List.foldl_nil] at hW0
  simp only [Nat.add_assoc, Nat.reduceAdd]
  rw [hW0]
  clear hW0
  obtain ⟨own, hown, hit⟩ := rulesV_iter po rs hl (w.heap.size + 3) w W0 hext0 hp b3
  clear hp
  refine wpIn_wide.1 (wpIn_range (n := 5) (P := Tryd.prog) rfl (enters_of Tryd.func67 (by kernel_rfl) rfl) hit (fun k h => by rcases hown k h with h | h <;> omega) (fun k h => h.elim) (fun _ => rfl)
    (fun i W => i < most ∧ W.heap[w.heap.size]? = some (.cells #[.int .i64 (most : Int)] 3 (0, 0)) ∧ W.heap[w.heap.size + 1]? = some (.cells #[.slice none 0 0] 34 (0, 0)) ∧ (∃ v, W.heap[w.heap.size + 2]? = some (.cells #[v] 34 (0, 0)) ∧ W.ownsRow (w.heap.size + 4) 26 6 v (rs.take i).length ((rs.take i).flatMap ruC)) ∧ Below w.heap.size w W ∧ w.heap.size + 4 ≤ W.heap.size)
    (fun c i W => c = .exit 0 ∧ i + 1 = most ∧ W.heap[w.heap.size + 1]? = some (.cells #[.slice none 0 0] 34 (0, 0)) ∧ (∃ v, W.heap[w.heap.size + 2]? = some (.cells #[v] 34 (0, 0)) ∧ W.ownsRow (w.heap.size + 4) 26 6 v (rs.take (i + 1)).length ((rs.take (i + 1)).flatMap ruC)) ∧ Below w.heap.size w W ∧ w.heap.size + 4 ≤ W.heap.size) ?_ ?_
    ⟨hm0, b0, b1, ⟨_, b2, by simpa using World.ownsRow_nil _ _ _ _⟩, hext0, by omega⟩ ?_ ?_ ?_)
  · rintro i A' C ⟨hi, h0, h1, ⟨v, h2, hrow⟩, hbel, hsz⟩ hm
    exact ⟨hi, hm.keeps h0 id (by omega), hm.keeps h1 id (by omega), ⟨v, hm.keeps h2 id (by omega), ownz_mv hrow hm (fun k hk => hk.elim)⟩, hm.below hbel (fun k hk => hk.elim) (by omega) (Nat.le_refl _), Nat.le_trans hsz hm.size⟩
  · rintro c i A' C ⟨hc, hi, h1, ⟨v, h2, hrow⟩, hbel, hsz⟩ hm
    exact ⟨hc, hi, hm.keeps h1 id (by omega), ⟨v, hm.keeps h2 id (by omega), ownz_mv hrow hm (fun k hk => hk.elim)⟩, hm.below hbel (fun k hk => hk.elim) (by omega) (Nat.le_refl _), Nat.le_trans hsz hm.size⟩
  · rintro m lp i W hi ⟨him, h0, h1, ⟨v, h2, hrow⟩, hbel, hsz⟩ hlp hrec
    have htk : rs.take (i + 1) = rs.take i ++ [rs.getD i ruD] := by rw [List.take_succ_eq_append_getElem hi]; simp [List.getD, hi]
    have hli : (rs.take i).length = i := by simp; omega
    obtain ⟨r, hre⟩ : ∃ r, rs.getD i ruD = r := ⟨_, rfl⟩
    rw [hre] at htk ⊢
    have HTK := Lib.hid htk
    rw [hli] at hrow
    have HLI := Lib.hid hli
    clear hre htk hli
    gi_wp2
    obtain ⟨W1, hW1⟩ : ∃ W1, W.alloc (.cells #[.bool r.al, Str r.ro, Str r.te, Str r.ho, .int .i64 r.fr, .int .i64 r.to] 28) = W1 := ⟨_, rfl⟩
    have hx1 : Ext W W1 := by rw [← hW1]; exact Below.alloc (Below.refl _ _) (Nat.le_refl _) _
    have hb1 : W1.heap[W.heap.size]? = some (.cells #[.bool r.al, Str r.ro, Str r.te, Str r.ho, .int .i64 r.fr, .int .i64 r.to] 28 (0, 0)) := by rw [← hW1]; exact Array.getElem?_push_size
    rw [hW1]
    have hs1 := hx1.size
    have hlow : ∀ k, own k → k < w.heap.size ∨ k = w.heap.size + 3 := fun k hk => by rcases hown k hk with h | h <;> omega
    refine ⟨Kp.of_ext hx1 (fun k hk => by have := hlow k hk; omega), fun W2 hm2 hrec2 => ?_⟩
    have n1 := (hm2.block _ (Array.getElem?_eq_some_iff.1 hb1).1 id (.inr ⟨_, kind_of_cells hb1⟩)).trans hb1
    replace h0 := hm2.keeps ((hx1.block _ (by omega)).trans h0) id (by omega)
    replace h1 := hm2.keeps ((hx1.block _ (by omega)).trans h1) id (by omega)
    replace h2 := hm2.keeps ((hx1.block _ (by omega)).trans h2) id (by omega)
    replace hrow := ownz_mv (ownz_ext hrow hx1) hm2 (fun k hk => hk.elim)
    replace hbel := hm2.below (hbel.trans (hx1.mono (by omega))) (fun k hk => hk.elim) (by omega) (Nat.le_refl _)
    replace hsz : w.heap.size + 4 ≤ W2.heap.size := by have := hm2.size; omega
    obtain ⟨ao, cap, hv, hcap⟩ := ownz_shape hrow
    subst hv
    generalize W.heap.size = gg at *
    clear hm2 hrec hrec2 hx1 hb1 hs1 hown hW1
    obtain ⟨k0, k1, k2, k3, k4, k5⟩ := cells6 n1
    have c0 := cell_of h0; have c2 := cell_of h2
    have H0 := Lib.hid h0; have H1 := Lib.hid h1; have H2 := Lib.hid h2; have HR := Lib.hid hrow; have HB := Lib.hid hbel; have HLOW := Lib.hid hlow
    clear h0 h1 h2 hrow hbel hlow n1
    have hne : ((i : Int) != (i : Int)) = false := by simp
    by_cases hlast : i + 1 = most
    · have t1 : (((i : Int) + 1) == (most : Int)) = true := by simp; omega
      have HLAST := Lib.hid hlast
      clear hlast
      gi_wp2_with (gi_at_builtin; refine wpListIn_pushz (w.heap.size + 4) rfl _ _ 34 26 rfl Tryd.underlying34 infoRuleR rfl (by omega) (by omega) HR.out (ruC r) rfl (ruC_one r) (by omega) hsz rfl rfl ?_; rintro _ w1 ⟨g1, cap1, rfl⟩ hown1 hgr1; obtain ⟨q1, q2, q3, q4, q5, q6, q7, q8, q9⟩ := boxz_push (own := own) (by omega) H2.out HR.out hown1 hgr1 (fun k hk => by have := HLOW.out k hk; omega); clear hown1 hgr1; have Q3 := Lib.hid q3; have Q4 := Lib.hid q4; have Q5 := Lib.hid q5; have Q6 := Lib.hid q6; have Q8 := Lib.hid q8; have e0' := cell_of ((q9 w.heap.size (by omega) (by omega)).trans H0.out); have e0 := cell_of ((q8 w.heap.size (by omega) (by omega) (by omega)).trans H0.out); clear q3 q4 q5 q6 q8 q9)
      have FIN : Hid ((w1.setCell ⟨w.heap.size + 2, 0, none⟩ (.slice (some ⟨g1, 0, none⟩) (i + 1) cap1)).heap[w.heap.size]? = some (.cells #[.int .i64 (most : Int)] 3 (0, 0)) ∧ (w1.setCell ⟨w.heap.size + 2, 0, none⟩ (.slice (some ⟨g1, 0, none⟩) (i + 1) cap1)).heap[w.heap.size + 1]? = some (.cells #[.slice none 0 0] 34 (0, 0))) :=
        Lib.hid ⟨(Q8.out _ (by omega) (by omega) (by omega)).trans H0.out, (Q8.out _ (by omega) (by omega) (by omega)).trans H1.out⟩
      have HRW : Hid ((w1.setCell ⟨w.heap.size + 2, 0, none⟩ (.slice (some ⟨g1, 0, none⟩) (i + 1) cap1)).ownsRow (w.heap.size + 4) 26 6 (.slice (some ⟨g1, 0, none⟩) (i + 1) cap1) (rs.take (i + 1)).length ((rs.take (i + 1)).flatMap ruC)) := Lib.hid (by
        rw [HTK.out, List.length_append, List.flatMap_append, HLI.out]; simpa using Q4.out)
      have HBL := Lib.hid (Q6.out w.heap.size w (by omega) HB.out)
      have hsz2 : w.heap.size + 4 ≤ (w1.setCell ⟨w.heap.size + 2, 0, none⟩ (.slice (some ⟨g1, 0, none⟩) (i + 1) cap1)).heap.size := Nat.le_trans hsz q7
      exact ⟨by rw [show W0.heap.size = w.heap.size + 4 by omega]; exact Q5.out, rfl, HLAST.out, FIN.out.2, ⟨_, Q3.out, HRW.out⟩, HBL.out, hsz2⟩
    · have t1 : (((i : Int) + 1) == (most : Int)) = false := by simp; omega
      gi_wp2_with (gi_at_builtin; refine wpListIn_pushz (w.heap.size + 4) rfl _ _ 34 26 rfl Tryd.underlying34 infoRuleR rfl (by omega) (by omega) HR.out (ruC r) rfl (ruC_one r) (by omega) hsz rfl rfl ?_; rintro _ w1 ⟨g1, cap1, rfl⟩ hown1 hgr1; obtain ⟨q1, q2, q3, q4, q5, q6, q7, q8, q9⟩ := boxz_push (own := own) (by omega) H2.out HR.out hown1 hgr1 (fun k hk => by have := HLOW.out k hk; omega); clear hown1 hgr1; have Q3 := Lib.hid q3; have Q4 := Lib.hid q4; have Q5 := Lib.hid q5; have Q6 := Lib.hid q6; have Q8 := Lib.hid q8; have e0' := cell_of ((q9 w.heap.size (by omega) (by omega)).trans H0.out); have e0 := cell_of ((q8 w.heap.size (by omega) (by omega) (by omega)).trans H0.out); clear q3 q4 q5 q6 q8 q9)
      have FIN : Hid ((w1.setCell ⟨w.heap.size + 2, 0, none⟩ (.slice (some ⟨g1, 0, none⟩) (i + 1) cap1)).heap[w.heap.size]? = some (.cells #[.int .i64 (most : Int)] 3 (0, 0)) ∧ (w1.setCell ⟨w.heap.size + 2, 0, none⟩ (.slice (some ⟨g1, 0, none⟩) (i + 1) cap1)).heap[w.heap.size + 1]? = some (.cells #[.slice none 0 0] 34 (0, 0))) :=
        Lib.hid ⟨(Q8.out _ (by omega) (by omega) (by omega)).trans H0.out, (Q8.out _ (by omega) (by omega) (by omega)).trans H1.out⟩
      have HRW : Hid ((w1.setCell ⟨w.heap.size + 2, 0, none⟩ (.slice (some ⟨g1, 0, none⟩) (i + 1) cap1)).ownsRow (w.heap.size + 4) 26 6 (.slice (some ⟨g1, 0, none⟩) (i + 1) cap1) (rs.take (i + 1)).length ((rs.take (i + 1)).flatMap ruC)) := Lib.hid (by
        rw [HTK.out, List.length_append, List.flatMap_append, HLI.out]; simpa using Q4.out)
      have HBL := Lib.hid (Q6.out w.heap.size w (by omega) HB.out)
      have hsz2 : w.heap.size + 4 ≤ (w1.setCell ⟨w.heap.size + 2, 0, none⟩ (.slice (some ⟨g1, 0, none⟩) (i + 1) cap1)).heap.size := Nat.le_trans hsz q7
      exact ⟨by rw [show W0.heap.size = w.heap.size + 4 by omega]; exact Q5.out, by omega, FIN.out.1, FIN.out.2, ⟨_, Q3.out, HRW.out⟩, HBL.out, hsz2⟩
  · rintro D W hD ⟨hi, h0, h1, ⟨v, h2, hrow⟩, hbel, hsz⟩ hdef
    rw [List.take_length] at hrow
    obtain ⟨ao, cap, hv, _⟩ := ownz_shape hrow
    subst hv
    have HT := Lib.hid (show rs.take most = rs from List.take_of_length_le (by omega))
    have c1 := cell_of h1; have c2 := cell_of h2; have f1 := frozen_of h1
    have HO := Lib.hid hrow; have HB := Lib.hid hbel
    have q1 := one_setCell (u := .slice ao rs.length cap) h1
    have qc := Chg.setCell W ⟨w.heap.size + 1, 0, none⟩ (.slice ao rs.length cap)
    have hdef2 := (qc.block D (Array.getElem?_eq_some_iff.1 hdef).1 (by show ¬ D = w.heap.size + 1; omega)).trans hdef
    have HD := Lib.hid hdef2; have HQ := Lib.hid q1
    have HBL := Lib.hid (below_mark (below_chg HB.out qc (fun k hk => by have hk' : k = w.heap.size + 1 := hk; omega) (Nat.le_refl _)) (by omega) hdef2)
    have HOW := Lib.hid (ownz_put (ownz_keep HO.out fun g _ hg hk => qc.block g (kind_lt hk) (by show ¬ g = w.heap.size + 1; omega)) hdef2 (o' := .deferred none))
    clear hrow hbel h0 h1 h2 hdef hdef2 q1 qc hit
    go_wp2
    refine marks_ret_at HD.out (results_cell1 rfl _ _ _ rfl Tryd.isAgg34 (cell_of ((World.putObj_heap_other (show w.heap.size + 1 ≠ D by omega)).trans HQ.out))) ⟨_, rfl, ?_, HBL.out⟩
    rw [HT.out]
    exact ownz_base HOW.out (by omega)
  · rintro D c i W hD hi ⟨rfl, hmo, h1, ⟨v, h2, hrow⟩, hbel, hsz⟩ hdef
    rw [hmo] at hrow
    obtain ⟨P, hP⟩ : ∃ P, rs.take most = P := ⟨_, rfl⟩
    rw [hP] at hrow
    have HPQ := Lib.hid hP
    clear hP
    obtain ⟨ao, cap, hv, _⟩ := ownz_shape hrow
    subst hv
    have c1 := cell_of h1; have c2 := cell_of h2; have f1 := frozen_of h1
    have HO := Lib.hid hrow; have HB := Lib.hid hbel
    have q1 := one_setCell (u := .slice ao P.length cap) h1
    have qc := Chg.setCell W ⟨w.heap.size + 1, 0, none⟩ (.slice ao P.length cap)
    have hdef2 := (qc.block D (Array.getElem?_eq_some_iff.1 hdef).1 (by show ¬ D = w.heap.size + 1; omega)).trans hdef
    have HD := Lib.hid hdef2; have HQ := Lib.hid q1
    have HBL := Lib.hid (below_mark (below_chg HB.out qc (fun k hk => by have hk' : k = w.heap.size + 1 := hk; omega) (Nat.le_refl _)) (by omega) hdef2)
    have HOW := Lib.hid (ownz_put (ownz_keep HO.out fun g _ hg hk => qc.block g (kind_lt hk) (by show ¬ g = w.heap.size + 1; omega)) hdef2 (o' := .deferred none))
    clear hrow hbel h1 h2 hdef hdef2 q1 qc hit hmo
    refine wpIn_wide.2 ?_
    go_wp2
    refine marks_ret_at (D := D) HD.out (results_cell1 rfl _ _ _ rfl Tryd.isAgg34 (cell_of ((World.putObj_heap_other (show w.heap.size + 1 ≠ D by omega)).trans HQ.out))) ⟨_, rfl, ?_, HBL.out⟩
    rw [HPQ.out]
    exact ownz_base HOW.out (by omega)
end Go.Proofs.YtjbobblnicnhnaaDoor
