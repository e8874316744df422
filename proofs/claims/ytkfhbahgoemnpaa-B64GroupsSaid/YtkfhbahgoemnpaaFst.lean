/-
  The law's own first: a text's first pieces.
-/
import Derived.Test.YtkfhbahgoemnpaaRows
import Derived.Test.YtkfhbahgoemnpaaApn
namespace Go.Proofs.Ytkfhbahgoemnpaa
open Go.RowKit
attribute [local go_sem] Oper.semAt_some
set_option linter.unusedVariables false
set_option linter.unusedSimpArgs false

theorem box_push2 {s B : Nat} {e t : TypeId} {W w1 : World} {own : Nat → Prop} {v v' : Value} {n : Nat} {xs xs' : List Value} (hsB : s < B) (hBW : B ≤ W.heap.size)
    (hbox : W.heap[s]? = some (.cells #[v] t (0, 0))) (hrow0 : W.ownsRow B e 1 v n xs) (hrow : w1.ownsRow B e 1 v' (n + 1) xs') (hg : W.grownBy w1 v.ownBlock) (ho : ∀ k, own k → k < B ∧ k ≠ s) :
    w1.cell? ⟨s, 0, none⟩ = some v ∧ w1.frozen? ⟨s, 0, none⟩ = false ∧ (w1.setCell ⟨s, 0, none⟩ v').heap[s]? = some (.cells #[v'] t (0, 0)) ∧ (w1.setCell ⟨s, 0, none⟩ v').ownsRow B e 1 v' (n + 1) xs' ∧
      Kp B own W (w1.setCell ⟨s, 0, none⟩ v') ∧ (w1.setCell ⟨s, 0, none⟩ v').os = W.os ∧ (w1.setCell ⟨s, 0, none⟩ v').tape = W.tape ∧ (w1.setCell ⟨s, 0, none⟩ v').output = W.output ∧
      W.heap.size ≤ (w1.setCell ⟨s, 0, none⟩ v').heap.size ∧ ∀ k, k < B → k ≠ s → (w1.setCell ⟨s, 0, none⟩ v').heap[k]? = W.heap[k]? := by
  have hlt : ∀ k, v.ownBlock = some k → B ≤ k := fun k hk => (hrow0.lt k hk).1
  have hlow : ∀ k, k < B → w1.heap[k]? = W.heap[k]? := fun k hk => hg.block k (by omega) (fun e => by have := hlt k e.symm; omega)
  have e1 := (hlow s (by omega)).trans hbox
  have hc := Chg.setCell w1 ⟨s, 0, none⟩ v'
  have hgs := hg.size
  refine ⟨cell_of e1, frozen_of e1, one_setCell e1, own_keep hrow fun g _ hg' hk => hc.block g (kind_lt hk) (by simp; omega), ?_, hc.os.trans hg.os, hc.tape.trans hg.tape, hc.output.trans hg.output, Nat.le_trans hg.size hc.size, fun k hk hks => (hc.block k (by omega) (by simp; omega)).trans (hlow k (by omega))⟩
  refine (Kp.of_grown hg (fun k hk => ⟨by have := ho k hk; omega, fun e => by have := hlt k e; have := ho k hk; omega⟩) (fun k hk => ?_)).trans (Kp.of_chg hc (fun k hk => ?_) (fun k hk hB => ?_))
  · rcases hrow0.2 with ⟨hn, _⟩ | ⟨g, cap, cur, hv, _, hgg, _⟩
    · rw [hn] at hk; simp [Value.ownBlock] at hk
    · rw [hv] at hk; simp [Value.ownBlock] at hk; subst hk; exact ⟨_, kind_of_cells hgg⟩
  · have := ho k hk; simp; omega
  · simp at hk; omega
theorem grpN_take (m : Nat) (l : List UInt8) (n k : Nat) (h : k ≤ n) : (grpN m l n).take k = grpN m l k := by
  simp only [grpN, ← List.map_take]
  rw [List.take_range, Nat.min_eq_left h]

set_option maxHeartbeats 2000000 in
theorem first_any (l : List UInt8) (z : Int) (q : Nat) (hq : 0 < q) (w : World) (hl : l.length ≤ 10000) :
    Calls Try.prog 32 #[Str l, .int .i64 z, .int .i64 (q : Int)] w fun e w' => ∃ v, e = .returned v ∧ w'.ownsRow w.heap.size 9 1 v ((grpL z l).take q).length (((grpL z l).take q).map Str) ∧ Ext w w' := by
  refine (callsIn_wide (n := 5)).1 (callsIn_of_wp_marks Try.func32 rfl trivial (wpIn_wide.2 ?_) rfl)
  simp only [Try.ntmps32, List.size_toArray, List.length_cons, List.length_nil, Nat.reduceAdd, Nat.reduceSub, Array.replicate_succ, Array.replicate_zero, List.push_toArray, List.append_toArray, List.nil_append, List.cons_append]
  go_wp2_with (go_at_call 27; refine (groups_any _ _ _).mono ?_; rintro e w' ⟨rfl, rfl⟩)
  obtain ⟨W0, hW0⟩ : ∃ W0, (((w.alloc (.cells #[.int .i64 (q : Int)] 3)).alloc (.cells #[.slice none 0 0] 45)).alloc (.cells #[Str l] 9)).alloc (.cells #[.int .i64 z] 3) = W0 := ⟨_, rfl⟩
  have hW0' : W0 = allocs w [.cells #[.int .i64 (q : Int)] 3, .cells #[.slice none 0 0] 45, .cells #[Str l] 9, .cells #[.int .i64 z] 3] := hW0.symm
  have b0 : W0.heap[w.heap.size]? = some (.cells #[.int .i64 (q : Int)] 3 (0, 0)) := by rw [hW0']; exact allocs_at w _ 0 _ rfl
  have b1 : W0.heap[w.heap.size + 1]? = some (.cells #[.slice none 0 0] 45 (0, 0)) := by rw [hW0']; exact allocs_at w _ 1 _ rfl
  have b2 : W0.heap[w.heap.size + 2]? = some (.cells #[Str l] 9 (0, 0)) := by rw [hW0']; exact allocs_at w _ 2 _ rfl
  have b3 : W0.heap[w.heap.size + 3]? = some (.cells #[.int .i64 z] 3 (0, 0)) := by rw [hW0']; exact allocs_at w _ 3 _ rfl
  have hext0 : Ext w W0 := by rw [hW0']; exact allocs_ext _ _
  have hsz0 : W0.heap.size = w.heap.size + 4 := by rw [hW0']; exact allocs_size _ _
  rw [hW0]
  clear hW0 hW0'
  have hit := groups_iter l z (by omega) (w.heap.size + 2) (w.heap.size + 3) W0 b2 b3
  have hres := Lib.hid (show grpL z l = grpN (gsz z l.length) l (gcnt (gsz z l.length) l.length) from rfl)
  have hN := gcnt_le (n := l.length) (gsz_pos z l.length)
  generalize gsz z l.length = m at *
  generalize gcnt m l.length = N at *
  refine wpIn_wide.1 (wpIn_range (n := 5) (P := Try.prog) rfl (enters_of Try.func42 (by kernel_rfl) rfl) hit (fun k h => by omega) (fun k h => by omega) (fun _ => rfl)
    (fun i W => i < q ∧ W.heap[w.heap.size]? = some (.cells #[.int .i64 (q : Int)] 3 (0, 0)) ∧ ∃ v, W.heap[w.heap.size + 1]? = some (.cells #[v] 45 (0, 0)) ∧ W.ownsRow (w.heap.size + 4) 9 1 v (grpN m l i).length ((grpN m l i).map Str) ∧ Below w.heap.size w W ∧ w.heap.size + 4 ≤ W.heap.size)
    (fun c i W => c = .exit 0 ∧ i + 1 = q ∧ ∃ v, W.heap[w.heap.size + 1]? = some (.cells #[v] 45 (0, 0)) ∧ W.ownsRow (w.heap.size + 4) 9 1 v (grpN m l (i + 1)).length ((grpN m l (i + 1)).map Str) ∧ Below w.heap.size w W ∧ w.heap.size + 4 ≤ W.heap.size) ?_ ?_
    ⟨hq, b0, _, b1, World.ownsRow_nil _ _ _ _, hext0, by omega⟩ ?_ ?_ ?_)
  · rintro i A' C ⟨hiq, h0, v, h1, hown, hbel, hsz⟩ hm
    exact ⟨hiq, hm.keeps h0 (by omega) (by omega), v, hm.keeps h1 (by omega) (by omega), own_mv hown hm (fun k hk => by omega), hm.below hbel (fun k hk => by omega) (by omega) (Nat.le_refl _), Nat.le_trans hsz hm.size⟩
  · rintro c i A' C ⟨hc, hiq, v, h1, hown, hbel, hsz⟩ hm
    exact ⟨hc, hiq, v, hm.keeps h1 (by omega) (by omega), own_mv hown hm (fun k hk => by omega), hm.below hbel (fun k hk => by omega) (by omega) (Nat.le_refl _), Nat.le_trans hsz hm.size⟩
  · rintro m' lp i W hi ⟨hiq, h0, v, h1, hown, hbel, hsz⟩ hlp hrec
    gi_wp2
    refine ⟨Kp.refl _ _ _, fun W2 hm2 hrec2 => ?_⟩
    replace h0 := hm2.keeps h0 (fun h => h) (by omega)
    replace h1 := hm2.keeps h1 (fun h => h) (by omega)
    replace hown := own_mv hown hm2 (fun k hk => hk.elim)
    replace hbel := hm2.below hbel (fun k hk => hk.elim) (by omega) (Nat.le_refl _)
    replace hsz := Nat.le_trans hsz hm2.size
    clear hm2 hrec hrec2
    have hdn := Lib.hid (grpN_succ m l i)
    have hdl := Lib.hid (grpN_len m l i)
    have hdi : (grpN m l i).length ≤ 10000 := by rw [grpN_len]; omega
    have hdq := grpN_len m l i
    generalize (l.drop (m * i)).take m = g at *
    have hc1 := cell_of h1
    have H0 := Lib.hid h0; have H1 := Lib.hid h1; have HO := Lib.hid hown; clear h0 h1 hown
    have hqq : decide ((grpN m l i).length + 1 = q) = decide (i + 1 = q) := by rw [hdq]
    have HQ := Lib.hid hdq; clear hdq
    by_cases hlast : i + 1 = q
    · have hbq : (((grpN m l i).length : Int) + 1 == (q : Int)) = true := by rw [HQ.out]; simp; omega
      clear hqq
      gi_wp2_with (gi_at_builtin; refine wpListIn_push (w.heap.size + 4) rfl _ _ 45 9 rfl Try.underlying45 infoStr rfl (by omega) HO.out _ rfl (by omega) hsz rfl rfl ?_; rintro _ w1 ⟨g1, cap1, rfl⟩ hown1 hgr1; obtain ⟨q1, q2, q3, q4, q5, q6⟩ := box_push2 (own := fun k => k = w.heap.size + 2 ∨ k = w.heap.size + 3) (by omega) hsz H1.out HO.out hown1 hgr1 (fun k hk => by omega); clear hown1 hgr1; have Q3 := Lib.hid q3; have Q4 := Lib.hid q4; have Q5 := Lib.hid q5; have Q6 := Lib.hid q6; have hc2 := cell_of q3; have hc3 := cell_of ((q6.2.2.2.2 w.heap.size (by omega) (by omega)).trans H0.out); clear q3 q4 q5 q6)
      obtain ⟨q7, q8, q9, q10, q11⟩ := Q6.out
      exact ⟨hsz0 ▸ Q5.out, rfl, hlast, _, Q3.out, by rw [hdn.out, List.length_append, List.map_append]; exact Q4.out, ⟨q7.trans hbel.os, q8.trans hbel.tape, q9.trans hbel.output, Nat.le_trans hbel.size q10, fun k hk => (q11 k (by omega) (by omega)).trans (hbel.block k hk)⟩, Nat.le_trans hsz q10⟩
    · have hbq : (((grpN m l i).length : Int) + 1 == (q : Int)) = false := by rw [HQ.out]; simp; omega
      clear hqq
      gi_wp2_with (gi_at_builtin; refine wpListIn_push (w.heap.size + 4) rfl _ _ 45 9 rfl Try.underlying45 infoStr rfl (by omega) HO.out _ rfl (by omega) hsz rfl rfl ?_; rintro _ w1 ⟨g1, cap1, rfl⟩ hown1 hgr1; obtain ⟨q1, q2, q3, q4, q5, q6⟩ := box_push2 (own := fun k => k = w.heap.size + 2 ∨ k = w.heap.size + 3) (by omega) hsz H1.out HO.out hown1 hgr1 (fun k hk => by omega); clear hown1 hgr1; have Q3 := Lib.hid q3; have Q4 := Lib.hid q4; have Q5 := Lib.hid q5; have Q6 := Lib.hid q6; have hc2 := cell_of q3; have hc3 := cell_of ((q6.2.2.2.2 w.heap.size (by omega) (by omega)).trans H0.out); clear q3 q4 q5 q6)
      obtain ⟨q7, q8, q9, q10, q11⟩ := Q6.out
      exact ⟨hsz0 ▸ Q5.out, by omega, (q11 w.heap.size (by omega) (by omega)).trans H0.out, _, Q3.out, by rw [hdn.out, List.length_append, List.map_append]; exact Q4.out, ⟨q7.trans hbel.os, q8.trans hbel.tape, q9.trans hbel.output, Nat.le_trans hbel.size q10, fun k hk => (q11 k (by omega) (by omega)).trans (hbel.block k hk)⟩, Nat.le_trans hsz q10⟩
  · rintro D W hD ⟨hiq, h0, v, h1, hown, hbel, hsz⟩ hdef
    have hc1 := cell_of h1
    have HO := Lib.hid hown; clear hown
    go_wp2
    refine marks_ret hdef (results_tmp rfl _ _) ⟨v, rfl, ?_, below_mark hbel (by omega) hdef⟩
    rw [hres.out, List.take_of_length_le (by rw [grpN_len]; omega)]
    exact own_base (own_put HO.out hdef) (by omega)
  · rintro D c i W hD hi ⟨rfl, hiq, v, h1, hown, hbel, hsz⟩ hdef
    have hc1 := cell_of h1
    have HO := Lib.hid hown; clear hown
    refine wpIn_wide.2 ?_
    go_wp2
    refine marks_ret (D := D) hdef (results_tmp rfl _ _) ⟨v, rfl, ?_, below_mark hbel (by omega) hdef⟩
    rw [hres.out, grpN_take _ _ _ _ (by omega), ← hiq]
    exact own_base (own_put HO.out hdef) (by omega)
end Go.Proofs.Ytkfhbahgoemnpaa
