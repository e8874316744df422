/-
  head.First.
-/
import Derived.WalkMore
import Derived.Test.YtmflnffjhfejhaaDoorRows
import Derived.Test.YtmflnffjhfejhaaDoorFva
import Derived.Shelf.Abstract
namespace Go.Proofs.YtmflnffjhfejhaaDoor
open Go.RowKit Go.Shelf
set_option maxRecDepth 100000
attribute [local go_sem] Oper.semAt_some
set_option linter.unusedVariables false
set_option linter.unusedSimpArgs false
def firstE (L : List (List UInt8)) : Ending := .returned (.tuple #[Str (L.getD 0 []), .bool (decide (0 < L.length))])
set_option maxHeartbeats 2000000 in
theorem first_any (v0 : Value) (fs : List Pr) (nm : List UInt8) (hl : fs.length ≤ 1000) (hb : PrB fs) (hn : nm.length ≤ 10000) (w : World) (hr : RowC 2 prC w v0 fs) :
    Calls Tryd.prog 17 #[v0, Str nm] w fun e w' => e = firstE (getL fs nm) ∧ Ext w w' := by
  obtain ⟨ao0, cap0, hvv, hcap0, _, _⟩ := rowP_shape hr
  refine (callsIn_wide (n := 5)).1 (callsIn_of_wp_marks Tryd.func17 rfl trivial (wpIn_wide.2 ?_) rfl)
  simp only [Tryd.ntmps17, List.size_toArray, List.length_cons, List.length_nil, Nat.reduceAdd, Nat.reduceSub, Array.replicate_succ, Array.replicate_zero, List.push_toArray, List.append_toArray, List.nil_append, List.cons_append]
  subst hvv
  have HV := Lib.hid hr
  clear hr
  go_wp2_with (go_at_call 22; refine (get_any _ nm ao0 fs.length cap0 rfl _).mono ?_; rintro e w' ⟨he, hw⟩; subst he; subst w')
  obtain ⟨W0, hW0⟩ : ∃ W0, allocs w [.cells #[Str []] 9, .cells #[.bool false] 4, .cells #[.slice ao0 fs.length cap0] 28, .cells #[Str nm] 9] = W0 := ⟨_, rfl⟩
  have b0 : W0.heap[w.heap.size]? = some (.cells #[Str []] 9 (0, 0)) := by rw [← hW0]; exact allocs_at w _ 0 _ rfl
  have b1 : W0.heap[w.heap.size + 1]? = some (.cells #[.bool false] 4 (0, 0)) := by rw [← hW0]; exact allocs_at w _ 1 _ rfl
  have b3 : W0.heap[w.heap.size + 2]? = some (.cells #[.slice ao0 fs.length cap0] 28 (0, 0)) := by rw [← hW0]; exact allocs_at w _ 2 _ rfl
  have b4 : W0.heap[w.heap.size + 3]? = some (.cells #[Str nm] 9 (0, 0)) := by rw [← hW0]; exact allocs_at w _ 3 _ rfl
  have hext0 : Ext w W0 := by rw [← hW0]; exact allocs_ext _ _
  have hsz0' : W0.heap.size = w.heap.size + 4 := by rw [← hW0]; exact allocs_size _ _
  have hsz0 : W0.heap.size ≤ w.heap.size + 4 ∧ w.heap.size + 4 ≤ W0.heap.size := by omega
  simp only [allocs, List.foldl_cons, List.foldl_nil] at hW0
  simp only [allocs, List.foldl_cons, List.foldl_nil, World.size_alloc, Nat.add_assoc, Nat.reduceAdd]
  rw [hW0]
  clear hW0 hsz0'
  have hit := get_iter _ fs nm hl hb hn (w.heap.size + 2) (w.heap.size + 3) W0 b3 b4 (HV.out.ext hext0)
  have hslt : ∀ k, rblk (.slice ao0 fs.length cap0) fs.length k → k < w.heap.size := fun k hk => rowC_lt HV.out (fun x => by simp [prC]) hk
  obtain ⟨own, hown⟩ : ∃ own : Nat → Prop, own = fun k => k = w.heap.size + 2 ∨ k = w.heap.size + 3 ∨ rblk (.slice ao0 fs.length cap0) fs.length k := ⟨_, rfl⟩
  rw [← hown] at hit
  have hownl : ∀ k, own k → k < w.heap.size ∨ k = w.heap.size + 2 ∨ k = w.heap.size + 3 := fun k hk => by
    rw [hown] at hk
    rcases hk with hk | hk | hk
    · exact .inr (.inl hk)
    · exact .inr (.inr hk)
    · exact .inl (hslt k hk)
  obtain ⟨L, hLe⟩ : ∃ L, getL fs nm = L := ⟨_, rfl⟩
  rw [hLe] at hit
  have HLE := Lib.hid hLe
  clear hLe
  clear hown hslt
  refine wpIn_wide.1 (wpIn_range (n := 5) (P := Tryd.prog) rfl (enters_of Tryd.func38 (by kernel_rfl) rfl) hit (fun k h => by rcases hownl k h with h | h | h <;> omega) (fun k h => h.elim) (fun _ => rfl)
    (fun i W => i = 0 ∧ W.heap[w.heap.size]? = some (.cells #[Str []] 9 (0, 0)) ∧ W.heap[w.heap.size + 1]? = some (.cells #[.bool false] 4 (0, 0)) ∧ Below w.heap.size w W ∧ w.heap.size + 4 ≤ W.heap.size)
    (fun c i W => c = .ret ∧ W.heap[w.heap.size]? = some (.cells #[Str (L.getD 0 [])] 9 (0, 0)) ∧ W.heap[w.heap.size + 1]? = some (.cells #[.bool true] 4 (0, 0)) ∧ Below w.heap.size w W ∧ w.heap.size + 4 ≤ W.heap.size) ?_ ?_
    ⟨rfl, b0, b1, hext0, hsz0.2⟩ ?_ ?_ ?_)
  · rintro i A' C ⟨hi, h0, h1, hbel, hsz⟩ hm
    exact ⟨hi, hm.keeps h0 id (by omega), hm.keeps h1 id (by omega), hm.below hbel (fun k hk => hk.elim) (by omega) (Nat.le_refl _), Nat.le_trans hsz hm.size⟩
  · rintro c i A' C ⟨hc, h0, h1, hbel, hsz⟩ hm
    exact ⟨hc, hm.keeps h0 id (by omega), hm.keeps h1 id (by omega), hm.below hbel (fun k hk => hk.elim) (by omega) (Nat.le_refl _), Nat.le_trans hsz hm.size⟩
  · rintro m lp i W hi ⟨hi0, h0, h1, hbel, hsz⟩ hlp hrec
    subst hi0
    generalize L.getD 0 [] = x at *
    clear hit
    gi_wp2
    refine ⟨Kp.refl _ _ _, fun W2 hm2 hrec2 => ?_⟩
    replace h0 := hm2.keeps h0 id (by omega)
    replace h1 := hm2.keeps h1 id (by omega)
    replace hbel := hm2.below hbel (fun k hk => hk.elim) (by omega) (Nat.le_refl _)
    replace hsz := Nat.le_trans hsz hm2.size
    clear hm2 hrec hrec2
    have hc0 := cell_of h0; have hc1 := cell_of h1; have hf0 := frozen_of h0; have hf1 := frozen_of h1
    have q0 := one_setCell (u := Str x) h0
    have q1 := one_setCell (u := .bool true) ((Chg.setCell W2 ⟨w.heap.size, 0, none⟩ (Str x)).block (w.heap.size + 1) (Array.getElem?_eq_some_iff.1 h1).1 (by show ¬ w.heap.size + 1 = w.heap.size; omega) |>.trans h1)
    have hch : Chg (fun k => k = w.heap.size ∨ k = w.heap.size + 1) W2 ((W2.setCell ⟨w.heap.size, 0, none⟩ (Str x)).setCell ⟨w.heap.size + 1, 0, none⟩ (.bool true)) := ((Chg.setCell W2 ⟨w.heap.size, 0, none⟩ (Str x)).mono fun k h => .inl h).trans ((Chg.setCell _ ⟨w.heap.size + 1, 0, none⟩ (.bool true)).mono fun k h => .inr h)
    have q0' := ((Chg.setCell (W2.setCell ⟨w.heap.size, 0, none⟩ (Str x)) ⟨w.heap.size + 1, 0, none⟩ (.bool true)).block w.heap.size (Array.getElem?_eq_some_iff.1 q0).1 (by show ¬ w.heap.size = w.heap.size + 1; omega)).trans q0
    have FIN := Lib.hid (show Kp W0.heap.size own W2 ((W2.setCell ⟨w.heap.size, 0, none⟩ (Str x)).setCell ⟨w.heap.size + 1, 0, none⟩ (.bool true)) ∧ Code.ret = Code.ret ∧ ((W2.setCell ⟨w.heap.size, 0, none⟩ (Str x)).setCell ⟨w.heap.size + 1, 0, none⟩ (.bool true)).heap[w.heap.size]? = some (.cells #[Str x] 9 (0, 0)) ∧ ((W2.setCell ⟨w.heap.size, 0, none⟩ (Str x)).setCell ⟨w.heap.size + 1, 0, none⟩ (.bool true)).heap[w.heap.size + 1]? = some (.cells #[.bool true] 4 (0, 0)) ∧ Below w.heap.size w ((W2.setCell ⟨w.heap.size, 0, none⟩ (Str x)).setCell ⟨w.heap.size + 1, 0, none⟩ (.bool true)) ∧ w.heap.size + 4 ≤ ((W2.setCell ⟨w.heap.size, 0, none⟩ (Str x)).setCell ⟨w.heap.size + 1, 0, none⟩ (.bool true)).heap.size from by
      refine ⟨Kp.of_chg hch (fun k hk => ?_) (fun k hk hB => ?_), rfl, q0', q1, below_chg hbel hch (fun k hk => by rcases hk with hk | hk <;> omega) (Nat.le_refl _), by have := hch.size; omega⟩
      · have := hownl k hk
        exact ⟨by omega, by show ¬ (_ ∨ _); omega⟩
      · rcases hk with hk | hk <;> omega)
    clear h0 h1 hbel q0 q1 q0' hch
    gi_wp2
    have hfin := FIN.out
    exact ⟨hfin.1, rfl, hfin.2.2⟩
  · rintro D W hD ⟨hi0, h0, h1, hbel, hsz⟩ hdef
    have hL0 : L = [] := List.eq_nil_of_length_eq_zero hi0
    have hc0 := cell_of h0; have hc1 := cell_of h1; have hf0 := frozen_of h0; have hf1 := frozen_of h1
    have hch : Chg (fun k => k = w.heap.size ∨ k = w.heap.size + 1) W ((W.setCell ⟨w.heap.size, 0, none⟩ (Str [])).setCell ⟨w.heap.size + 1, 0, none⟩ (.bool false)) := ((Chg.setCell W ⟨w.heap.size, 0, none⟩ (Str [])).mono fun k h => .inl h).trans ((Chg.setCell _ ⟨w.heap.size + 1, 0, none⟩ (.bool false)).mono fun k h => .inr h)
    have q0 := one_setCell (u := Str []) h0
    have q1 := one_setCell (u := .bool false) ((Chg.setCell W ⟨w.heap.size, 0, none⟩ (Str [])).block (w.heap.size + 1) (Array.getElem?_eq_some_iff.1 h1).1 (by show ¬ w.heap.size + 1 = w.heap.size; omega) |>.trans h1)
    have q0' := ((Chg.setCell (W.setCell ⟨w.heap.size, 0, none⟩ (Str [])) ⟨w.heap.size + 1, 0, none⟩ (.bool false)).block w.heap.size (Array.getElem?_eq_some_iff.1 q0).1 (by show ¬ w.heap.size = w.heap.size + 1; omega)).trans q0
    have hdef2 := (hch.block D (Array.getElem?_eq_some_iff.1 hdef).1 (by show ¬ (_ ∨ _); omega)).trans hdef
    have HD := Lib.hid hdef2
    have HBL := Lib.hid (below_mark (below_chg hbel hch (fun k hk => by rcases hk with hk | hk <;> omega) (Nat.le_refl _)) (by omega) hdef2)
    have Q0 := Lib.hid q0'; have Q1 := Lib.hid q1
    have HF := Lib.hid (show firstE (getL fs nm) = .returned (.tuple #[Str [], .bool false]) by rw [HLE.out, hL0]; rfl)
    clear h0 h1 hbel q0 q1 q0' hch hdef hdef2 hit hL0
    go_wp2
    refine marks_ret_at HD.out (results_cells rfl _ _ _ rfl rfl Tryd.isAgg9 Tryd.isAgg4 (cell_of ((World.putObj_heap_other (show w.heap.size ≠ D by omega)).trans Q0.out)) (cell_of ((World.putObj_heap_other (show w.heap.size + 1 ≠ D by omega)).trans Q1.out))) ⟨HF.out.symm, HBL.out⟩
  · rintro D c i W hD hi ⟨rfl, h0, h1, hbel, hsz⟩ hdef
    have HD := Lib.hid hdef
    have HBL := Lib.hid (below_mark hbel (by omega) hdef)
    have Q0 := Lib.hid h0; have Q1 := Lib.hid h1
    have HF := Lib.hid (show firstE (getL fs nm) = .returned (.tuple #[Str (L.getD 0 []), .bool true]) by unfold firstE; rw [HLE.out, show decide (0 < L.length) = true by simp; omega])
    clear h0 h1 hbel hdef hit
    refine wpIn_wide.2 ?_
    go_wp2
    refine marks_ret_at (D := D) HD.out (results_cells rfl _ _ _ rfl rfl Tryd.isAgg9 Tryd.isAgg4 (cell_of ((World.putObj_heap_other (show w.heap.size ≠ D by omega)).trans Q0.out)) (cell_of ((World.putObj_heap_other (show w.heap.size + 1 ≠ D by omega)).trans Q1.out))) ⟨HF.out.symm, HBL.out⟩
end Go.Proofs.YtmflnffjhfejhaaDoor
