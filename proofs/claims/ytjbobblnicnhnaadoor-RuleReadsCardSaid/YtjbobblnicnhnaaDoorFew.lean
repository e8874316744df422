/-
  ref16.Few.
-/
import Derived.BigGuardPart
import Derived.RegionTactic
import Derived.Deep.RegionHeld3
import Derived.Deep.DrawnRows
import Derived.Test.YtjbobblnicnhnaaDoorRows
import Derived.Test.YtjbobblnicnhnaaDoorCov
import Derived.Test.YtjbobblnicnhnaaDoorKit
namespace Go.Proofs.YtjbobblnicnhnaaDoor
open Go.RowKit
set_option maxRecDepth 100000
attribute [local go_sem ↓] Go.wp_at_zero Go.wp_at_succ
set_option linter.unusedVariables false
set_option linter.unusedSimpArgs false

theorem wpAny_act {P : Program} {md : Region.Mode} {ops : Array Oper} {Q : Exit → Act → World → Prop} {fuel : Nat} {listed : Array Bool} {a a' : Act} {w : World} (H : wpAny P md ops Q fuel listed a' w) (h : a = a') : wpAny P md ops Q fuel listed a w := by rw [h]; exact H
/-- A rule that isn't too great. -/
def fewR (r : Ru) : Ru := ⟨r.al, r.ro.take 40, r.te.take 40, r.ho.take 40, r.fr, r.to⟩
theorem few_b (r : Ru) (h1 : I64 r.fr) (h2 : I64 r.to) : RuB (fewR r) := ⟨by simp [fewR]; omega, by simp [fewR]; omega, by simp [fewR]; omega, h1.1, h1.2, h2.1, h2.2⟩
set_option maxHeartbeats 20000000 in
theorem few_any (r : Ru) (w : World) :
    Calls Tryd.prog 13 #[ruV r] w fun e w' => e = .returned (ruV (fewR r)) ∧ Ext w w' := by
  obtain ⟨al, ro, te, ho, fr, to⟩ := r
  have H1 : Hid (∀ W, Calls Tryd.prog 10 #[Str ro, .int .i64 40] W fun e w' => e = .returned (Str (ro.take 40)) ∧ w' = W) := Lib.hid (fun W => cutText_any ro 40 W (by omega))
  have H2 : Hid (∀ W, Calls Tryd.prog 10 #[Str te, .int .i64 40] W fun e w' => e = .returned (Str (te.take 40)) ∧ w' = W) := Lib.hid (fun W => cutText_any te 40 W (by omega))
  have H3 : Hid (∀ W, Calls Tryd.prog 10 #[Str ho, .int .i64 40] W fun e w' => e = .returned (Str (ho.take 40)) ∧ w' = W) := Lib.hid (fun W => cutText_any ho 40 W (by omega))
  have HF := Lib.hid (show fewR ⟨al, ro, te, ho, fr, to⟩ = ⟨al, ro.take 40, te.take 40, ho.take 40, fr, to⟩ from rfl)
  go_enter Tryd.func13, Tryd.ntmps13
  go_wp2
  obtain ⟨W1, hW1⟩ : ∃ W1, (w.alloc (.cells #[.bool al, Str ro, Str te, Str ho, .int .i64 fr, .int .i64 to] 26)).alloc (.cells #[.bool false, Str [], Str [], Str [], .int .i64 0, .int .i64 0] 26) = W1 := ⟨_, rfl⟩
  have hx : Ext w W1 := by rw [← hW1]; exact allocs_ext w [.cells #[.bool al, Str ro, Str te, Str ho, .int .i64 fr, .int .i64 to] 26, .cells #[.bool false, Str [], Str [], Str [], .int .i64 0, .int .i64 0] 26]
  have hc : W1.heap[w.heap.size]? = some (.cells #[.bool al, Str ro, Str te, Str ho, .int .i64 fr, .int .i64 to] 26 (0, 0)) := by rw [← hW1]; exact allocs_at w [.cells #[.bool al, Str ro, Str te, Str ho, .int .i64 fr, .int .i64 to] 26, .cells #[.bool false, Str [], Str [], Str [], .int .i64 0, .int .i64 0] 26] 0 _ rfl
  have hd : W1.heap[w.heap.size + 1]? = some (.cells #[.bool false, Str [], Str [], Str [], .int .i64 0, .int .i64 0] 26 (0, 0)) := by rw [← hW1]; exact allocs_at w [.cells #[.bool al, Str ro, Str te, Str ho, .int .i64 fr, .int .i64 to] 26, .cells #[.bool false, Str [], Str [], Str [], .int .i64 0, .int .i64 0] 26] 1 _ rfl
  rw [hW1]
  obtain ⟨c0, c1, c2, c3, c4, c5⟩ := cells6 hc
  have hf := frozen_row hc
  have hm : (((W1.setCell ⟨w.heap.size, 1, none⟩ (Value.string ⟨(ro.take 40).toArray⟩)).setCell ⟨w.heap.size, 2, none⟩ (Value.string ⟨(te.take 40).toArray⟩)).setCell ⟨w.heap.size, 3, none⟩ (Value.string ⟨(ho.take 40).toArray⟩)).drew.heap[w.heap.size]? = some (.cells #[.bool al, Str (ro.take 40), Str (te.take 40), Str (ho.take 40), .int .i64 fr, .int .i64 to] 26 (0, 0)) := by
    have h1 := setCell_row (setCell_row (setCell_row hc 1 (Str (ro.take 40))) 2 (Str (te.take 40))) 3 (Str (ho.take 40))
    simpa [World.drew] using h1
  have hmd : (((W1.setCell ⟨w.heap.size, 1, none⟩ (Value.string ⟨(ro.take 40).toArray⟩)).setCell ⟨w.heap.size, 2, none⟩ (Value.string ⟨(te.take 40).toArray⟩)).setCell ⟨w.heap.size, 3, none⟩ (Value.string ⟨(ho.take 40).toArray⟩)).drew.heap[w.heap.size + 1]? = some (.cells #[.bool false, Str [], Str [], Str [], .int .i64 0, .int .i64 0] 26 (0, 0)) := by
    show (((W1.setCell _ _).setCell _ _).setCell _ _).heap[w.heap.size + 1]? = _
    rw [Below.heap_setCell _ _ _ _ (by simp), Below.heap_setCell _ _ _ _ (by simp), Below.heap_setCell _ _ _ _ (by simp)]; exact hd
  have hmB : Below w.heap.size w (((W1.setCell ⟨w.heap.size, 1, none⟩ (Value.string ⟨(ro.take 40).toArray⟩)).setCell ⟨w.heap.size, 2, none⟩ (Value.string ⟨(te.take 40).toArray⟩)).setCell ⟨w.heap.size, 3, none⟩ (Value.string ⟨(ho.take 40).toArray⟩)).drew := Below.drew (((Below.setCell hx (by simp) _).setCell (by simp) _).setCell (by simp) _)
  obtain ⟨M, hM⟩ : ∃ M, (((W1.setCell ⟨w.heap.size, 1, none⟩ (Value.string ⟨(ro.take 40).toArray⟩)).setCell ⟨w.heap.size, 2, none⟩ (Value.string ⟨(te.take 40).toArray⟩)).setCell ⟨w.heap.size, 3, none⟩ (Value.string ⟨(ho.take 40).toArray⟩)).drew = M := ⟨_, rfl⟩
  rw [hM] at hm hmd hmB
  have HMq := Lib.hid hM; have HM1 := Lib.hid hm; have HMD := Lib.hid hmd; have HMB := Lib.hid hmB
  clear hW1 hc hd hx hm hmd hmB hM
  refine wp_region_any (by kernel_rfl) ?_
  change wpAny _ _ _ _ _ _ _ (World.drew _)
  -- region 1
  simp only [List.size_toArray, List.length_cons, List.length_nil, Nat.reduceAdd, Array.replicate_succ, Array.replicate_zero, List.push_toArray, List.nil_append, List.cons_append]
  refine wpAny_take (i := 0) (v := ?_) rfl (by kernel_rfl) (by kernel_rfl) (by kernel_rfl) (fun _ _ _ h => h) (Or.inl ⟨by rfl, ?_⟩) ?_
  rotate_left 1
  · (intro _; go_simp; (try go_bits); (try with_reducible rfl))
  refine wpAny_act ?_ (by go_simp; with_reducible rfl)
  refine wpAny_take (i := 3) (v := ?_) rfl (by kernel_rfl) (by kernel_rfl) (by kernel_rfl) (fun _ _ _ h => h) (Or.inl ⟨by rfl, ?_⟩) ?_
  rotate_left 1
  · (intro _; go_simp; (try go_bits); (try with_reducible rfl))
  refine wpAny_act ?_ (by go_simp; with_reducible rfl)
  refine wpAny_take (i := 6) (v := ?_) rfl (by kernel_rfl) (by kernel_rfl) (by kernel_rfl) (fun _ _ _ h => h) (Or.inl ⟨by rfl, ?_⟩) ?_
  rotate_left 1
  · (intro _; go_simp; (try go_bits); (try with_reducible rfl))
  refine wpAny_act ?_ (by go_simp; with_reducible rfl)
  refine wpAny_ready (rs := [1, 4, 7]) (by kernel_rfl) (by simp) ?_
  refine AllReady.cons rfl (fun K hK => ?_) ?_
  · skip
    go_simp
    refine hK _ _ ?_
    clear hK K
    try refine wpAny_act ?_ (by go_simp; with_reducible rfl)
    refine wpAny_takeC (i := 2) (v := Str (ro.take 40)) rfl (by kernel_rfl) (by kernel_rfl) (by kernel_rfl) (fun _ _ _ h => h) ⟨by rfl, 10, #[Str ro, .int .i64 40], fun _ => by (go_simp; try with_reducible rfl), H1.out⟩ ?_
    refine wpAny_act ?_ (by go_simp; with_reducible rfl)
    refine wpAny_ready (rs := [4, 7]) (by kernel_rfl) (by simp) ?_
    refine AllReady.cons rfl (fun K hK => ?_) ?_
    · skip
      go_simp
      refine hK _ _ ?_
      clear hK K
      try refine wpAny_act ?_ (by go_simp; with_reducible rfl)
      refine wpAny_takeC (i := 5) (v := Str (te.take 40)) rfl (by kernel_rfl) (by kernel_rfl) (by kernel_rfl) (fun _ _ _ h => h) ⟨by rfl, 10, #[Str te, .int .i64 40], fun _ => by (go_simp; try with_reducible rfl), H2.out⟩ ?_
      refine wpAny_act ?_ (by go_simp; with_reducible rfl)
      refine wpAny_ready (rs := [7]) (by kernel_rfl) (by simp) ?_
      refine AllReady.cons rfl (fun K hK => ?_) AllReady.nil
      go_simp
      refine hK _ _ ?_
      clear hK K
      try refine wpAny_act ?_ (by go_simp; with_reducible rfl)
      refine wpAny_takeC (i := 8) (v := Str (ho.take 40)) rfl (by kernel_rfl) (by kernel_rfl) (by kernel_rfl) (fun _ _ _ h => h) ⟨by rfl, 10, #[Str ho, .int .i64 40], fun _ => by (go_simp; try with_reducible rfl), H3.out⟩ ?_
      refine wpAny_act ?_ (by go_simp; with_reducible rfl)
      refine wpAny_take (i := 9) (v := ?_) rfl (by kernel_rfl) (by kernel_rfl) (by kernel_rfl) (fun _ _ _ h => h) (Or.inl ⟨by rfl, ?_⟩) ?_
      rotate_left 1
      · (intro _; go_simp; (try go_bits); (try with_reducible rfl))
      refine wpAny_act ?_ (by go_simp; with_reducible rfl)
      refine wpAny_ready (rs := [10]) (by kernel_rfl) (by simp) ?_
      refine AllReady.cons rfl (fun K hK => ?_) AllReady.nil
      go_simp
      refine hK _ _ ?_
      clear hK K
      try refine wpAny_act ?_ (by go_simp; with_reducible rfl)
      refine wpAny_take (i := 11) (v := ?_) rfl (by kernel_rfl) (by kernel_rfl) (by kernel_rfl) (fun _ _ _ h => h) (Or.inl ⟨by rfl, ?_⟩) ?_
      rotate_left 1
      · (intro _; go_simp; (try go_bits); (try with_reducible rfl))
      refine wpAny_act ?_ (by go_simp; with_reducible rfl)
      refine wpAny_ready (rs := [12]) (by kernel_rfl) (by simp) ?_
      refine AllReady.cons rfl (fun K hK => ?_) AllReady.nil
      go_simp
      refine hK _ _ ?_
      clear hK K
      try refine wpAny_act ?_ (by go_simp; with_reducible rfl)
      refine wpAny_take (i := 13) (v := ?_) rfl (by kernel_rfl) (by kernel_rfl) (by kernel_rfl) (fun _ _ _ h => h) (Or.inl ⟨by rfl, ?_⟩) ?_
      rotate_left 1
      · (intro _; go_simp; (try go_bits); (try with_reducible rfl))
      refine wpAny_act ?_ (by go_simp; with_reducible rfl)
      refine wpAny_ready (rs := [14]) (by kernel_rfl) (by simp) ?_
      refine AllReady.cons rfl (fun K hK => ?_) AllReady.nil
      go_simp
      refine hK _ _ ?_
      clear hK K
      try refine wpAny_act ?_ (by go_simp; with_reducible rfl)
      refine wpAny_done (by kernel_rfl) ?_ _
      rw [HMq.out]
      clear c0 c1 c2 c3 c4 c5 hf
      obtain ⟨c0, c1, c2, c3, c4, c5⟩ := cells6 HM1.out
      obtain ⟨d0, d1, d2, d3, d4, d5⟩ := cells6 HMD.out
      have hfz := frozen_row HMD.out
      go_wp2
      have h6 := set6 HMD.out (.bool al) (Str (ro.take 40)) (Str (te.take 40)) (Str (ho.take 40)) (.int .i64 fr) (.int .i64 to)
      have hb6 := below_set6 (b := w.heap.size + 1) HMB.out (by omega) (.bool al) (Str (ro.take 40)) (Str (te.take 40)) (Str (ho.take 40)) (.int .i64 fr) (.int .i64 to)
      simp only [Str] at h6 hb6
      generalize ((((((M.setCell _ _).setCell _ _).setCell _ _).setCell _ _).setCell _ _).setCell _ _) = W5 at *
      obtain ⟨e0, e1, e2, e3, e4, e5⟩ := cells6 h6
      refine bodyPost_ret (v := ruV ⟨al, ro.take 40, te.take 40, ho.take 40, fr, to⟩) (by simp [results, Tryd.results13, go_sem, e0, e1, e2, e3, e4, e5]) rfl ?_
      exact ⟨by rw [HF.out], hb6⟩
    refine AllReady.cons rfl (fun K hK => ?_) ?_
    · skip
      go_simp
      refine hK _ _ ?_
      clear hK K
      try refine wpAny_act ?_ (by go_simp; with_reducible rfl)
      refine wpAny_ready (rs := [4]) (by kernel_rfl) (by simp) ?_
      refine AllReady.cons rfl (fun K hK => ?_) AllReady.nil
      go_simp
      refine hK _ _ ?_
      clear hK K
      try refine wpAny_act ?_ (by go_simp; with_reducible rfl)
      refine wpAny_takeC (i := 5) (v := Str (te.take 40)) rfl (by kernel_rfl) (by kernel_rfl) (by kernel_rfl) (fun _ _ _ h => h) ⟨by rfl, 10, #[Str te, .int .i64 40], fun _ => by (go_simp; try with_reducible rfl), H2.out⟩ ?_
      refine wpAny_act ?_ (by go_simp; with_reducible rfl)
      refine wpAny_takeC (i := 8) (v := Str (ho.take 40)) rfl (by kernel_rfl) (by kernel_rfl) (by kernel_rfl) (fun _ _ _ h => h) ⟨by rfl, 10, #[Str ho, .int .i64 40], fun _ => by (go_simp; try with_reducible rfl), H3.out⟩ ?_
      refine wpAny_act ?_ (by go_simp; with_reducible rfl)
      refine wpAny_take (i := 9) (v := ?_) rfl (by kernel_rfl) (by kernel_rfl) (by kernel_rfl) (fun _ _ _ h => h) (Or.inl ⟨by rfl, ?_⟩) ?_
      rotate_left 1
      · (intro _; go_simp; (try go_bits); (try with_reducible rfl))
      refine wpAny_act ?_ (by go_simp; with_reducible rfl)
      refine wpAny_ready (rs := [10]) (by kernel_rfl) (by simp) ?_
      refine AllReady.cons rfl (fun K hK => ?_) AllReady.nil
      go_simp
      refine hK _ _ ?_
      clear hK K
      try refine wpAny_act ?_ (by go_simp; with_reducible rfl)
      refine wpAny_take (i := 11) (v := ?_) rfl (by kernel_rfl) (by kernel_rfl) (by kernel_rfl) (fun _ _ _ h => h) (Or.inl ⟨by rfl, ?_⟩) ?_
      rotate_left 1
      · (intro _; go_simp; (try go_bits); (try with_reducible rfl))
      refine wpAny_act ?_ (by go_simp; with_reducible rfl)
      refine wpAny_ready (rs := [12]) (by kernel_rfl) (by simp) ?_
      refine AllReady.cons rfl (fun K hK => ?_) AllReady.nil
      go_simp
      refine hK _ _ ?_
      clear hK K
      try refine wpAny_act ?_ (by go_simp; with_reducible rfl)
      refine wpAny_take (i := 13) (v := ?_) rfl (by kernel_rfl) (by kernel_rfl) (by kernel_rfl) (fun _ _ _ h => h) (Or.inl ⟨by rfl, ?_⟩) ?_
      rotate_left 1
      · (intro _; go_simp; (try go_bits); (try with_reducible rfl))
      refine wpAny_act ?_ (by go_simp; with_reducible rfl)
      refine wpAny_ready (rs := [14]) (by kernel_rfl) (by simp) ?_
      refine AllReady.cons rfl (fun K hK => ?_) AllReady.nil
      go_simp
      refine hK _ _ ?_
      clear hK K
      try refine wpAny_act ?_ (by go_simp; with_reducible rfl)
      refine wpAny_done (by kernel_rfl) ?_ _
      rw [HMq.out]
      clear c0 c1 c2 c3 c4 c5 hf
      obtain ⟨c0, c1, c2, c3, c4, c5⟩ := cells6 HM1.out
      obtain ⟨d0, d1, d2, d3, d4, d5⟩ := cells6 HMD.out
      have hfz := frozen_row HMD.out
      go_wp2
      have h6 := set6 HMD.out (.bool al) (Str (ro.take 40)) (Str (te.take 40)) (Str (ho.take 40)) (.int .i64 fr) (.int .i64 to)
      have hb6 := below_set6 (b := w.heap.size + 1) HMB.out (by omega) (.bool al) (Str (ro.take 40)) (Str (te.take 40)) (Str (ho.take 40)) (.int .i64 fr) (.int .i64 to)
      simp only [Str] at h6 hb6
      generalize ((((((M.setCell _ _).setCell _ _).setCell _ _).setCell _ _).setCell _ _).setCell _ _) = W5 at *
      obtain ⟨e0, e1, e2, e3, e4, e5⟩ := cells6 h6
      refine bodyPost_ret (v := ruV ⟨al, ro.take 40, te.take 40, ho.take 40, fr, to⟩) (by simp [results, Tryd.results13, go_sem, e0, e1, e2, e3, e4, e5]) rfl ?_
      exact ⟨by rw [HF.out], hb6⟩
    exact AllReady.nil
  refine AllReady.cons rfl (fun K hK => ?_) ?_
  · skip
    go_simp
    refine hK _ _ ?_
    clear hK K
    try refine wpAny_act ?_ (by go_simp; with_reducible rfl)
    refine wpAny_ready (rs := [1, 7]) (by kernel_rfl) (by simp) ?_
    refine AllReady.cons rfl (fun K hK => ?_) ?_
    · skip
      go_simp
      refine hK _ _ ?_
      clear hK K
      try refine wpAny_act ?_ (by go_simp; with_reducible rfl)
      refine wpAny_takeC (i := 2) (v := Str (ro.take 40)) rfl (by kernel_rfl) (by kernel_rfl) (by kernel_rfl) (fun _ _ _ h => h) ⟨by rfl, 10, #[Str ro, .int .i64 40], fun _ => by (go_simp; try with_reducible rfl), H1.out⟩ ?_
      refine wpAny_act ?_ (by go_simp; with_reducible rfl)
      refine wpAny_takeC (i := 5) (v := Str (te.take 40)) rfl (by kernel_rfl) (by kernel_rfl) (by kernel_rfl) (fun _ _ _ h => h) ⟨by rfl, 10, #[Str te, .int .i64 40], fun _ => by (go_simp; try with_reducible rfl), H2.out⟩ ?_
      refine wpAny_act ?_ (by go_simp; with_reducible rfl)
      refine wpAny_ready (rs := [7]) (by kernel_rfl) (by simp) ?_
      refine AllReady.cons rfl (fun K hK => ?_) AllReady.nil
      go_simp
      refine hK _ _ ?_
      clear hK K
      try refine wpAny_act ?_ (by go_simp; with_reducible rfl)
      refine wpAny_takeC (i := 8) (v := Str (ho.take 40)) rfl (by kernel_rfl) (by kernel_rfl) (by kernel_rfl) (fun _ _ _ h => h) ⟨by rfl, 10, #[Str ho, .int .i64 40], fun _ => by (go_simp; try with_reducible rfl), H3.out⟩ ?_
      refine wpAny_act ?_ (by go_simp; with_reducible rfl)
      refine wpAny_take (i := 9) (v := ?_) rfl (by kernel_rfl) (by kernel_rfl) (by kernel_rfl) (fun _ _ _ h => h) (Or.inl ⟨by rfl, ?_⟩) ?_
      rotate_left 1
      · (intro _; go_simp; (try go_bits); (try with_reducible rfl))
      refine wpAny_act ?_ (by go_simp; with_reducible rfl)
      refine wpAny_ready (rs := [10]) (by kernel_rfl) (by simp) ?_
      refine AllReady.cons rfl (fun K hK => ?_) AllReady.nil
      go_simp
      refine hK _ _ ?_
      clear hK K
      try refine wpAny_act ?_ (by go_simp; with_reducible rfl)
      refine wpAny_take (i := 11) (v := ?_) rfl (by kernel_rfl) (by kernel_rfl) (by kernel_rfl) (fun _ _ _ h => h) (Or.inl ⟨by rfl, ?_⟩) ?_
      rotate_left 1
      · (intro _; go_simp; (try go_bits); (try with_reducible rfl))
      refine wpAny_act ?_ (by go_simp; with_reducible rfl)
      refine wpAny_ready (rs := [12]) (by kernel_rfl) (by simp) ?_
      refine AllReady.cons rfl (fun K hK => ?_) AllReady.nil
      go_simp
      refine hK _ _ ?_
      clear hK K
      try refine wpAny_act ?_ (by go_simp; with_reducible rfl)
      refine wpAny_take (i := 13) (v := ?_) rfl (by kernel_rfl) (by kernel_rfl) (by kernel_rfl) (fun _ _ _ h => h) (Or.inl ⟨by rfl, ?_⟩) ?_
      rotate_left 1
      · (intro _; go_simp; (try go_bits); (try with_reducible rfl))
      refine wpAny_act ?_ (by go_simp; with_reducible rfl)
      refine wpAny_ready (rs := [14]) (by kernel_rfl) (by simp) ?_
      refine AllReady.cons rfl (fun K hK => ?_) AllReady.nil
      go_simp
      refine hK _ _ ?_
      clear hK K
      try refine wpAny_act ?_ (by go_simp; with_reducible rfl)
      refine wpAny_done (by kernel_rfl) ?_ _
      rw [HMq.out]
      clear c0 c1 c2 c3 c4 c5 hf
      obtain ⟨c0, c1, c2, c3, c4, c5⟩ := cells6 HM1.out
      obtain ⟨d0, d1, d2, d3, d4, d5⟩ := cells6 HMD.out
      have hfz := frozen_row HMD.out
      go_wp2
      have h6 := set6 HMD.out (.bool al) (Str (ro.take 40)) (Str (te.take 40)) (Str (ho.take 40)) (.int .i64 fr) (.int .i64 to)
      have hb6 := below_set6 (b := w.heap.size + 1) HMB.out (by omega) (.bool al) (Str (ro.take 40)) (Str (te.take 40)) (Str (ho.take 40)) (.int .i64 fr) (.int .i64 to)
      simp only [Str] at h6 hb6
      generalize ((((((M.setCell _ _).setCell _ _).setCell _ _).setCell _ _).setCell _ _).setCell _ _) = W5 at *
      obtain ⟨e0, e1, e2, e3, e4, e5⟩ := cells6 h6
      refine bodyPost_ret (v := ruV ⟨al, ro.take 40, te.take 40, ho.take 40, fr, to⟩) (by simp [results, Tryd.results13, go_sem, e0, e1, e2, e3, e4, e5]) rfl ?_
      exact ⟨by rw [HF.out], hb6⟩
    refine AllReady.cons rfl (fun K hK => ?_) ?_
    · skip
      go_simp
      refine hK _ _ ?_
      clear hK K
      try refine wpAny_act ?_ (by go_simp; with_reducible rfl)
      refine wpAny_ready (rs := [1]) (by kernel_rfl) (by simp) ?_
      refine AllReady.cons rfl (fun K hK => ?_) AllReady.nil
      go_simp
      refine hK _ _ ?_
      clear hK K
      try refine wpAny_act ?_ (by go_simp; with_reducible rfl)
      refine wpAny_takeC (i := 2) (v := Str (ro.take 40)) rfl (by kernel_rfl) (by kernel_rfl) (by kernel_rfl) (fun _ _ _ h => h) ⟨by rfl, 10, #[Str ro, .int .i64 40], fun _ => by (go_simp; try with_reducible rfl), H1.out⟩ ?_
      refine wpAny_act ?_ (by go_simp; with_reducible rfl)
      refine wpAny_takeC (i := 5) (v := Str (te.take 40)) rfl (by kernel_rfl) (by kernel_rfl) (by kernel_rfl) (fun _ _ _ h => h) ⟨by rfl, 10, #[Str te, .int .i64 40], fun _ => by (go_simp; try with_reducible rfl), H2.out⟩ ?_
      refine wpAny_act ?_ (by go_simp; with_reducible rfl)
      refine wpAny_takeC (i := 8) (v := Str (ho.take 40)) rfl (by kernel_rfl) (by kernel_rfl) (by kernel_rfl) (fun _ _ _ h => h) ⟨by rfl, 10, #[Str ho, .int .i64 40], fun _ => by (go_simp; try with_reducible rfl), H3.out⟩ ?_
      refine wpAny_act ?_ (by go_simp; with_reducible rfl)
      refine wpAny_take (i := 9) (v := ?_) rfl (by kernel_rfl) (by kernel_rfl) (by kernel_rfl) (fun _ _ _ h => h) (Or.inl ⟨by rfl, ?_⟩) ?_
      rotate_left 1
      · (intro _; go_simp; (try go_bits); (try with_reducible rfl))
      refine wpAny_act ?_ (by go_simp; with_reducible rfl)
      refine wpAny_ready (rs := [10]) (by kernel_rfl) (by simp) ?_
      refine AllReady.cons rfl (fun K hK => ?_) AllReady.nil
      go_simp
      refine hK _ _ ?_
      clear hK K
      try refine wpAny_act ?_ (by go_simp; with_reducible rfl)
      refine wpAny_take (i := 11) (v := ?_) rfl (by kernel_rfl) (by kernel_rfl) (by kernel_rfl) (fun _ _ _ h => h) (Or.inl ⟨by rfl, ?_⟩) ?_
      rotate_left 1
      · (intro _; go_simp; (try go_bits); (try with_reducible rfl))
      refine wpAny_act ?_ (by go_simp; with_reducible rfl)
      refine wpAny_ready (rs := [12]) (by kernel_rfl) (by simp) ?_
      refine AllReady.cons rfl (fun K hK => ?_) AllReady.nil
      go_simp
      refine hK _ _ ?_
      clear hK K
      try refine wpAny_act ?_ (by go_simp; with_reducible rfl)
      refine wpAny_take (i := 13) (v := ?_) rfl (by kernel_rfl) (by kernel_rfl) (by kernel_rfl) (fun _ _ _ h => h) (Or.inl ⟨by rfl, ?_⟩) ?_
      rotate_left 1
      · (intro _; go_simp; (try go_bits); (try with_reducible rfl))
      refine wpAny_act ?_ (by go_simp; with_reducible rfl)
      refine wpAny_ready (rs := [14]) (by kernel_rfl) (by simp) ?_
      refine AllReady.cons rfl (fun K hK => ?_) AllReady.nil
      go_simp
      refine hK _ _ ?_
      clear hK K
      try refine wpAny_act ?_ (by go_simp; with_reducible rfl)
      refine wpAny_done (by kernel_rfl) ?_ _
      rw [HMq.out]
      clear c0 c1 c2 c3 c4 c5 hf
      obtain ⟨c0, c1, c2, c3, c4, c5⟩ := cells6 HM1.out
      obtain ⟨d0, d1, d2, d3, d4, d5⟩ := cells6 HMD.out
      have hfz := frozen_row HMD.out
      go_wp2
      have h6 := set6 HMD.out (.bool al) (Str (ro.take 40)) (Str (te.take 40)) (Str (ho.take 40)) (.int .i64 fr) (.int .i64 to)
      have hb6 := below_set6 (b := w.heap.size + 1) HMB.out (by omega) (.bool al) (Str (ro.take 40)) (Str (te.take 40)) (Str (ho.take 40)) (.int .i64 fr) (.int .i64 to)
      simp only [Str] at h6 hb6
      generalize ((((((M.setCell _ _).setCell _ _).setCell _ _).setCell _ _).setCell _ _).setCell _ _) = W5 at *
      obtain ⟨e0, e1, e2, e3, e4, e5⟩ := cells6 h6
      refine bodyPost_ret (v := ruV ⟨al, ro.take 40, te.take 40, ho.take 40, fr, to⟩) (by simp [results, Tryd.results13, go_sem, e0, e1, e2, e3, e4, e5]) rfl ?_
      exact ⟨by rw [HF.out], hb6⟩
    exact AllReady.nil
  refine AllReady.cons rfl (fun K hK => ?_) ?_
  · skip
    go_simp
    refine hK _ _ ?_
    clear hK K
    try refine wpAny_act ?_ (by go_simp; with_reducible rfl)
    refine wpAny_ready (rs := [1, 4]) (by kernel_rfl) (by simp) ?_
    refine AllReady.cons rfl (fun K hK => ?_) ?_
    · skip
      go_simp
      refine hK _ _ ?_
      clear hK K
      try refine wpAny_act ?_ (by go_simp; with_reducible rfl)
      refine wpAny_takeC (i := 2) (v := Str (ro.take 40)) rfl (by kernel_rfl) (by kernel_rfl) (by kernel_rfl) (fun _ _ _ h => h) ⟨by rfl, 10, #[Str ro, .int .i64 40], fun _ => by (go_simp; try with_reducible rfl), H1.out⟩ ?_
      refine wpAny_act ?_ (by go_simp; with_reducible rfl)
      refine wpAny_ready (rs := [4]) (by kernel_rfl) (by simp) ?_
      refine AllReady.cons rfl (fun K hK => ?_) AllReady.nil
      go_simp
      refine hK _ _ ?_
      clear hK K
      try refine wpAny_act ?_ (by go_simp; with_reducible rfl)
      refine wpAny_takeC (i := 5) (v := Str (te.take 40)) rfl (by kernel_rfl) (by kernel_rfl) (by kernel_rfl) (fun _ _ _ h => h) ⟨by rfl, 10, #[Str te, .int .i64 40], fun _ => by (go_simp; try with_reducible rfl), H2.out⟩ ?_
      refine wpAny_act ?_ (by go_simp; with_reducible rfl)
      refine wpAny_takeC (i := 8) (v := Str (ho.take 40)) rfl (by kernel_rfl) (by kernel_rfl) (by kernel_rfl) (fun _ _ _ h => h) ⟨by rfl, 10, #[Str ho, .int .i64 40], fun _ => by (go_simp; try with_reducible rfl), H3.out⟩ ?_
      refine wpAny_act ?_ (by go_simp; with_reducible rfl)
      refine wpAny_take (i := 9) (v := ?_) rfl (by kernel_rfl) (by kernel_rfl) (by kernel_rfl) (fun _ _ _ h => h) (Or.inl ⟨by rfl, ?_⟩) ?_
      rotate_left 1
      · (intro _; go_simp; (try go_bits); (try with_reducible rfl))
      refine wpAny_act ?_ (by go_simp; with_reducible rfl)
      refine wpAny_ready (rs := [10]) (by kernel_rfl) (by simp) ?_
      refine AllReady.cons rfl (fun K hK => ?_) AllReady.nil
      go_simp
      refine hK _ _ ?_
      clear hK K
      try refine wpAny_act ?_ (by go_simp; with_reducible rfl)
      refine wpAny_take (i := 11) (v := ?_) rfl (by kernel_rfl) (by kernel_rfl) (by kernel_rfl) (fun _ _ _ h => h) (Or.inl ⟨by rfl, ?_⟩) ?_
      rotate_left 1
      · (intro _; go_simp; (try go_bits); (try with_reducible rfl))
      refine wpAny_act ?_ (by go_simp; with_reducible rfl)
      refine wpAny_ready (rs := [12]) (by kernel_rfl) (by simp) ?_
      refine AllReady.cons rfl (fun K hK => ?_) AllReady.nil
      go_simp
      refine hK _ _ ?_
      clear hK K
      try refine wpAny_act ?_ (by go_simp; with_reducible rfl)
      refine wpAny_take (i := 13) (v := ?_) rfl (by kernel_rfl) (by kernel_rfl) (by kernel_rfl) (fun _ _ _ h => h) (Or.inl ⟨by rfl, ?_⟩) ?_
      rotate_left 1
      · (intro _; go_simp; (try go_bits); (try with_reducible rfl))
      refine wpAny_act ?_ (by go_simp; with_reducible rfl)
      refine wpAny_ready (rs := [14]) (by kernel_rfl) (by simp) ?_
      refine AllReady.cons rfl (fun K hK => ?_) AllReady.nil
      go_simp
      refine hK _ _ ?_
      clear hK K
      try refine wpAny_act ?_ (by go_simp; with_reducible rfl)
      refine wpAny_done (by kernel_rfl) ?_ _
      rw [HMq.out]
      clear c0 c1 c2 c3 c4 c5 hf
      obtain ⟨c0, c1, c2, c3, c4, c5⟩ := cells6 HM1.out
      obtain ⟨d0, d1, d2, d3, d4, d5⟩ := cells6 HMD.out
      have hfz := frozen_row HMD.out
      go_wp2
      have h6 := set6 HMD.out (.bool al) (Str (ro.take 40)) (Str (te.take 40)) (Str (ho.take 40)) (.int .i64 fr) (.int .i64 to)
      have hb6 := below_set6 (b := w.heap.size + 1) HMB.out (by omega) (.bool al) (Str (ro.take 40)) (Str (te.take 40)) (Str (ho.take 40)) (.int .i64 fr) (.int .i64 to)
      simp only [Str] at h6 hb6
      generalize ((((((M.setCell _ _).setCell _ _).setCell _ _).setCell _ _).setCell _ _).setCell _ _) = W5 at *
      obtain ⟨e0, e1, e2, e3, e4, e5⟩ := cells6 h6
      refine bodyPost_ret (v := ruV ⟨al, ro.take 40, te.take 40, ho.take 40, fr, to⟩) (by simp [results, Tryd.results13, go_sem, e0, e1, e2, e3, e4, e5]) rfl ?_
      exact ⟨by rw [HF.out], hb6⟩
    refine AllReady.cons rfl (fun K hK => ?_) ?_
    · skip
      go_simp
      refine hK _ _ ?_
      clear hK K
      try refine wpAny_act ?_ (by go_simp; with_reducible rfl)
      refine wpAny_ready (rs := [1]) (by kernel_rfl) (by simp) ?_
      refine AllReady.cons rfl (fun K hK => ?_) AllReady.nil
      go_simp
      refine hK _ _ ?_
      clear hK K
      try refine wpAny_act ?_ (by go_simp; with_reducible rfl)
      refine wpAny_takeC (i := 2) (v := Str (ro.take 40)) rfl (by kernel_rfl) (by kernel_rfl) (by kernel_rfl) (fun _ _ _ h => h) ⟨by rfl, 10, #[Str ro, .int .i64 40], fun _ => by (go_simp; try with_reducible rfl), H1.out⟩ ?_
      refine wpAny_act ?_ (by go_simp; with_reducible rfl)
      refine wpAny_takeC (i := 5) (v := Str (te.take 40)) rfl (by kernel_rfl) (by kernel_rfl) (by kernel_rfl) (fun _ _ _ h => h) ⟨by rfl, 10, #[Str te, .int .i64 40], fun _ => by (go_simp; try with_reducible rfl), H2.out⟩ ?_
      refine wpAny_act ?_ (by go_simp; with_reducible rfl)
      refine wpAny_takeC (i := 8) (v := Str (ho.take 40)) rfl (by kernel_rfl) (by kernel_rfl) (by kernel_rfl) (fun _ _ _ h => h) ⟨by rfl, 10, #[Str ho, .int .i64 40], fun _ => by (go_simp; try with_reducible rfl), H3.out⟩ ?_
      refine wpAny_act ?_ (by go_simp; with_reducible rfl)
      refine wpAny_take (i := 9) (v := ?_) rfl (by kernel_rfl) (by kernel_rfl) (by kernel_rfl) (fun _ _ _ h => h) (Or.inl ⟨by rfl, ?_⟩) ?_
      rotate_left 1
      · (intro _; go_simp; (try go_bits); (try with_reducible rfl))
      refine wpAny_act ?_ (by go_simp; with_reducible rfl)
      refine wpAny_ready (rs := [10]) (by kernel_rfl) (by simp) ?_
      refine AllReady.cons rfl (fun K hK => ?_) AllReady.nil
      go_simp
      refine hK _ _ ?_
      clear hK K
      try refine wpAny_act ?_ (by go_simp; with_reducible rfl)
      refine wpAny_take (i := 11) (v := ?_) rfl (by kernel_rfl) (by kernel_rfl) (by kernel_rfl) (fun _ _ _ h => h) (Or.inl ⟨by rfl, ?_⟩) ?_
      rotate_left 1
      · (intro _; go_simp; (try go_bits); (try with_reducible rfl))
      refine wpAny_act ?_ (by go_simp; with_reducible rfl)
      refine wpAny_ready (rs := [12]) (by kernel_rfl) (by simp) ?_
      refine AllReady.cons rfl (fun K hK => ?_) AllReady.nil
      go_simp
      refine hK _ _ ?_
      clear hK K
      try refine wpAny_act ?_ (by go_simp; with_reducible rfl)
      refine wpAny_take (i := 13) (v := ?_) rfl (by kernel_rfl) (by kernel_rfl) (by kernel_rfl) (fun _ _ _ h => h) (Or.inl ⟨by rfl, ?_⟩) ?_
      rotate_left 1
      · (intro _; go_simp; (try go_bits); (try with_reducible rfl))
      refine wpAny_act ?_ (by go_simp; with_reducible rfl)
      refine wpAny_ready (rs := [14]) (by kernel_rfl) (by simp) ?_
      refine AllReady.cons rfl (fun K hK => ?_) AllReady.nil
      go_simp
      refine hK _ _ ?_
      clear hK K
      try refine wpAny_act ?_ (by go_simp; with_reducible rfl)
      refine wpAny_done (by kernel_rfl) ?_ _
      rw [HMq.out]
      clear c0 c1 c2 c3 c4 c5 hf
      obtain ⟨c0, c1, c2, c3, c4, c5⟩ := cells6 HM1.out
      obtain ⟨d0, d1, d2, d3, d4, d5⟩ := cells6 HMD.out
      have hfz := frozen_row HMD.out
      go_wp2
      have h6 := set6 HMD.out (.bool al) (Str (ro.take 40)) (Str (te.take 40)) (Str (ho.take 40)) (.int .i64 fr) (.int .i64 to)
      have hb6 := below_set6 (b := w.heap.size + 1) HMB.out (by omega) (.bool al) (Str (ro.take 40)) (Str (te.take 40)) (Str (ho.take 40)) (.int .i64 fr) (.int .i64 to)
      simp only [Str] at h6 hb6
      generalize ((((((M.setCell _ _).setCell _ _).setCell _ _).setCell _ _).setCell _ _).setCell _ _) = W5 at *
      obtain ⟨e0, e1, e2, e3, e4, e5⟩ := cells6 h6
      refine bodyPost_ret (v := ruV ⟨al, ro.take 40, te.take 40, ho.take 40, fr, to⟩) (by simp [results, Tryd.results13, go_sem, e0, e1, e2, e3, e4, e5]) rfl ?_
      exact ⟨by rw [HF.out], hb6⟩
    exact AllReady.nil
  exact AllReady.nil
  -- end of region 1
end Go.Proofs.YtjbobblnicnhnaaDoor
