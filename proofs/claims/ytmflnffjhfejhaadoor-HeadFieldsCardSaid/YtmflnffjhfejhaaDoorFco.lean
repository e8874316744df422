/-
  slices.AppendSeq and Collect over head.Get; head.First.
-/
import Derived.WalkMore
import Derived.Test.YtmflnffjhfejhaaDoorRows
import Derived.Test.YtmflnffjhfejhaaDoorFva
import Derived.Shelf.Abstract
namespace Go.Proofs.YtmflnffjhfejhaaDoor
open Go.RowKit Go.Shelf
set_option maxRecDepth 100000
attribute [local go_sem] Oper.semAt_some
set_option linter.unusedVariables false
set_option linter.unusedSimpArgs false
set_option maxHeartbeats 2000000 in
theorem apseq_any (v0 : Value) (fs : List Pr) (nm : List UInt8) (hl : fs.length ≤ 1000) (hb : PrB fs) (hn : nm.length ≤ 10000) (bx nx : Nat) (w : World) (hbx : w.heap[bx]? = some (.cells #[v0] 28 (0, 0)))
    (hnx : w.heap[nx]? = some (.cells #[Str nm] 9 (0, 0))) (hr : RowC 2 prC w v0 fs) :
    Calls Tryd.prog 37 #[.slice none 0 0, .func (.func 38) #[] #[.pointer (some ⟨bx, 0, none⟩), .pointer (some ⟨nx, 0, none⟩)]] w fun e w' => ∃ v', e = .returned v' ∧ w'.ownsRow w.heap.size 9 1 v' (getL fs nm).length ((getL fs nm).map Str) ∧ Ext w w' := by
  refine (callsIn_wide (n := 5)).1 (callsIn_of_wp_marks Tryd.func37 rfl trivial (wpIn_wide.2 ?_) rfl)
  simp only [Tryd.ntmps37, List.size_toArray, List.length_cons, List.length_nil, Nat.reduceAdd, Nat.reduceSub, Array.replicate_succ, Array.replicate_zero, List.push_toArray, List.append_toArray, List.nil_append, List.cons_append]
  have HV := Lib.hid hr
  have hbl := (Array.getElem?_eq_some_iff.1 hbx).1
  have hnl := (Array.getElem?_eq_some_iff.1 hnx).1
  have HBX := Lib.hid hbx; have HNX := Lib.hid hnx
  clear hr hbx hnx
  go_wp2
  obtain ⟨W0, hW0⟩ : ∃ W0, w.alloc (.cells #[.slice none 0 0] 45) = W0 := ⟨_, rfl⟩
  have hext0 : Ext w W0 := by rw [← hW0]; exact Below.alloc (Below.refl _ _) (Nat.le_refl _) _
  have b2 : W0.heap[w.heap.size]? = some (.cells #[.slice none 0 0] 45 (0, 0)) := by rw [← hW0]; exact Array.getElem?_push_size
  have hsz0' : W0.heap.size = w.heap.size + 1 := by rw [← hW0]; simp
  have hsz0 : W0.heap.size ≤ w.heap.size + 1 ∧ w.heap.size + 1 ≤ W0.heap.size := by omega
  rw [hW0]
  clear hW0 hsz0'
  have hit := get_iter _ fs nm hl hb hn bx nx W0 (ext_at hext0 HBX.out) (ext_at hext0 HNX.out) (HV.out.ext hext0)
  have hll := getL_len fs nm
  have hslt : ∀ k, rblk v0 fs.length k → k < w.heap.size := fun k hk => rowC_lt HV.out (fun x => by simp [prC]) hk
  obtain ⟨own, hown⟩ : ∃ own : Nat → Prop, own = fun k => k = bx ∨ k = nx ∨ rblk v0 fs.length k := ⟨_, rfl⟩
  rw [← hown] at hit
  have hownl : ∀ k, own k → k < w.heap.size := fun k hk => by
    rw [hown] at hk
    rcases hk with hk | hk | hk
    · omega
    · omega
    · exact hslt k hk
  obtain ⟨L, hLe⟩ : ∃ L, getL fs nm = L := ⟨_, rfl⟩
  rw [hLe] at hit hll
  have HLE := Lib.hid hLe
  clear hLe
  clear hown hslt
  refine wpIn_wide.1 (wpIn_range (n := 5) (P := Tryd.prog) rfl (enters_of Tryd.func38 (by kernel_rfl) rfl) hit (fun k h => by have := hownl k h; omega) (fun k h => h.elim) (fun _ => rfl)
    (fun i W => (∃ v, W.heap[w.heap.size]? = some (.cells #[v] 45 (0, 0)) ∧ W.ownsRow (w.heap.size + 1) 9 1 v (L.take i).length ((L.take i).map Str)) ∧ Below w.heap.size w W ∧ w.heap.size + 1 ≤ W.heap.size)
    (fun c i W => False) ?_ ?_
    ⟨⟨_, b2, by simpa using World.ownsRow_nil _ _ _ _⟩, hext0, hsz0.2⟩ ?_ ?_ ?_)
  · rintro i A' C ⟨⟨v, h2, hrow⟩, hbel, hsz⟩ hm
    exact ⟨⟨v, hm.keeps h2 id (by omega), ownz_mv hrow hm (fun k hk => hk.elim)⟩, hm.below hbel (fun k hk => hk.elim) (by omega) (Nat.le_refl _), Nat.le_trans hsz hm.size⟩
  · rintro c i A' C h hm
    exact h.elim
  · rintro m lp i W hi ⟨⟨v, h2, hrow⟩, hbel, hsz⟩ hlp hrec
    have htk : L.take (i + 1) = L.take i ++ [L.getD i []] := by rw [List.take_succ_eq_append_getElem hi]; simp [List.getD, hi]
    have hli : (L.take i).length = i := by simp; omega
    generalize L.getD i [] = x at *
    have HTK := Lib.hid htk
    rw [hli] at hrow
    have HLI := Lib.hid hli
    clear htk hli hit
    gi_wp2
    refine ⟨Kp.refl _ _ _, fun W2 hm2 hrec2 => ?_⟩
    replace h2 := hm2.keeps h2 id (by omega)
    replace hrow := ownz_mv hrow hm2 (fun k hk => hk.elim)
    replace hbel := hm2.below hbel (fun k hk => hk.elim) (by omega) (Nat.le_refl _)
    replace hsz := Nat.le_trans hsz hm2.size
    clear hm2 hrec hrec2
    obtain ⟨ao, cap, hv, hcap⟩ := ownz_shape hrow
    subst hv
    have hlw : ∀ k, own k → k < w.heap.size + 1 ∧ k ≠ w.heap.size ∧ k < W2.heap.size := fun k hk => by have := hownl k hk; omega
    have c2 := cell_of h2
    have H2 := Lib.hid h2; have HR := Lib.hid hrow; have HB := Lib.hid hbel; have HLW := Lib.hid hlw
    clear h2 hrow hbel hlw
    gi_wp2_with (gi_at_builtin; refine wpListIn_pushz (w.heap.size + 1) rfl _ _ 45 9 rfl Tryd.underlying45 infoStr rfl (by omega) (by omega) HR.out [Str x] rfl (by simp [Str, Value.oneCell']) (by omega) hsz rfl rfl ?_; rintro _ w1 ⟨g1, cap1, rfl⟩ hown1 hgr1; obtain ⟨q1, q2, q3, q4, q5, q6, q7, q8, q9⟩ := boxz_push (own := own) (by omega) H2.out HR.out hown1 hgr1 (fun k hk => HLW.out k hk); clear hown1 hgr1; have Q3 := Lib.hid q3; have Q4 := Lib.hid q4; have Q5 := Lib.hid q5; have Q6 := Lib.hid q6; have Q7 := Lib.hid q7; clear q3 q4 q5 q6 q7 q8 q9)
    refine ⟨?_, ⟨_, Q3.out, ?_⟩, Q6.out w.heap.size w (by omega) HB.out, Nat.le_trans hsz Q7.out⟩
    · have h5 := Q5.out
      rw [show w.heap.size + 1 = W0.heap.size by omega] at h5
      exact h5
    · rw [HTK.out, List.length_append, List.map_append, HLI.out]; simpa using Q4.out
  · rintro D W hD ⟨⟨v, h2, hrow⟩, hbel, hsz⟩ hdef
    rw [List.take_length] at hrow
    obtain ⟨ao, cap, hv, _⟩ := ownz_shape hrow
    subst hv
    have c2 := cell_of h2
    have HD := Lib.hid hdef
    have HBL := Lib.hid (below_mark hbel (by omega) hdef)
    have HOW := Lib.hid (ownz_base (ownz_put hrow hdef (o' := .deferred none)) (show w.heap.size ≤ w.heap.size + 1 by omega))
    clear hrow hbel h2 hdef hit
    go_wp2
    refine marks_ret_at HD.out (v := .slice ao L.length cap) (by simp [results, Tryd.results37]) ⟨_, rfl, ?_, HBL.out⟩
    rw [HLE.out]; exact HOW.out
  · rintro D c i W hD hi h hdef
    exact h.elim
theorem collect_any (v0 : Value) (fs : List Pr) (nm : List UInt8) (hl : fs.length ≤ 1000) (hb : PrB fs) (hn : nm.length ≤ 10000) (bx nx : Nat) (w : World) (hbx : w.heap[bx]? = some (.cells #[v0] 28 (0, 0)))
    (hnx : w.heap[nx]? = some (.cells #[Str nm] 9 (0, 0))) (hr : RowC 2 prC w v0 fs) :
    Calls Tryd.prog 21 #[.func (.func 38) #[] #[.pointer (some ⟨bx, 0, none⟩), .pointer (some ⟨nx, 0, none⟩)]] w fun e w' => ∃ v', e = .returned v' ∧ w'.ownsRow w.heap.size 9 1 v' (getL fs nm).length ((getL fs nm).map Str) ∧ Ext w w' := by
  have HA := Lib.hid (apseq_any v0 fs nm hl hb hn bx nx w hbx hnx hr)
  clear hbx hnx hr hb
  go_enter Tryd.func21, Tryd.ntmps21
  go_wp2_with fail
  refine Calls.mono HA.out ?_
  rintro e w1 ⟨v', he, hrow, hx⟩
  subst he
  obtain ⟨ao, cap, hv, _⟩ := ownz_shape hrow
  subst hv
  have HR := Lib.hid hrow; have HX := Lib.hid hx
  clear hrow hx
  go_wp2
  go_ret
  exact ⟨_, rfl, HR.out, HX.out⟩
end Go.Proofs.YtmflnffjhfejhaaDoor
