/-
  (*rule.Policy).Which, May.
-/
import Derived.BigGuardPart
import Derived.Test.YtjbobblnicnhnaaDoorRows
import Derived.Test.YtjbobblnicnhnaaDoorRli
import Derived.Test.YtjbobblnicnhnaaDoorHol
import Derived.Shelf.Abstract
namespace Go.Proofs.YtjbobblnicnhnaaDoor
open Go.RowKit Go.Shelf
set_option maxRecDepth 100000
attribute [local go_sem] Oper.semAt_some
set_option linter.unusedVariables false
set_option linter.unusedSimpArgs false

/-- The first one that holds. -/
def whichO (rs : List Ru) (ro te ho : List UInt8) (p : Int) : Option Nat := rs.findIdx? fun r => holdB r ro te ho p
theorem whichO_none {rs : List Ru} {ro te ho : List UInt8} {p : Int} (h : ∀ r ∈ rs, holdB r ro te ho p = false) : whichO rs ro te ho p = none := by
  unfold whichO; rw [List.findIdx?_eq_none_iff]; intro r hr; simp [h r hr]
theorem whichO_some {rs : List Ru} {ro te ho : List UInt8} {p : Int} {i : Nat} (hi : i < rs.length) (h0 : ∀ r ∈ rs.take i, holdB r ro te ho p = false) (h1 : holdB (rs.getD i ruD) ro te ho p = true) : whichO rs ro te ho p = some i := by
  unfold whichO
  rw [List.findIdx?_eq_some_iff_getElem]
  refine ⟨hi, by simpa [List.getD, hi] using h1, fun j hj => ?_⟩
  have := h0 rs[j] (by rw [List.mem_take_iff_getElem]; exact ⟨j, by omega, rfl⟩)
  simp [this]

theorem set2 {W : World} {s : Nat} {a b u0 u1 : Value} {t0 t1 : TypeId} (h0 : W.heap[s]? = some (.cells #[a] t0 (0, 0))) (h1 : W.heap[s + 1]? = some (.cells #[b] t1 (0, 0))) :
    ((W.setCell ⟨s, 0, none⟩ u0).setCell ⟨s + 1, 0, none⟩ u1).heap[s]? = some (.cells #[u0] t0 (0, 0)) ∧ ((W.setCell ⟨s, 0, none⟩ u0).setCell ⟨s + 1, 0, none⟩ u1).heap[s + 1]? = some (.cells #[u1] t1 (0, 0)) ∧
      Chg (fun k => k = s ∨ k = s + 1) W ((W.setCell ⟨s, 0, none⟩ u0).setCell ⟨s + 1, 0, none⟩ u1) := by
  refine ⟨?_, one_setCell (by rw [Below.heap_setCell _ _ _ _ (by simp)]; exact h1), ((Chg.setCell W ⟨s, 0, none⟩ u0).mono fun k h => .inl h).trans ((Chg.setCell _ ⟨s + 1, 0, none⟩ u1).mono fun k h => .inr h)⟩
  rw [Below.heap_setCell _ _ _ _ (by simp)]
  exact one_setCell h0
set_option maxHeartbeats 4000000 in
theorem which_any (po : Option Addr) (rs : List Ru) (hl : rs.length ≤ 100000) (hrb : ∀ r ∈ rs, RuB r) (ro te ho : List UInt8) (hh : ho.length ≤ 10000) (p : Int) (w : World) (hL : Lb w) (hp : PolV w po rs) :
    Calls Tryd.prog 19 #[.pointer po, Str ro, Str te, Str ho, .int .i64 p] w fun e w' => e = .returned (.tuple #[.int .i64 (((whichO rs ro te ho p).getD 0 : Nat) : Int), .bool (whichO rs ro te ho p).isSome]) ∧ Ext w w' := by
  refine (callsIn_wide (n := 5)).1 (callsIn_of_wp_marks Tryd.func19 rfl trivial (wpIn_wide.2 ?_) rfl)
  simp only [Tryd.ntmps19, List.size_toArray, List.length_cons, List.length_nil, Nat.reduceAdd, Nat.reduceSub, Array.replicate_succ, Array.replicate_zero, List.push_toArray, List.append_toArray, List.nil_append, List.cons_append]
  have HL := Lib.hid hL
  go_wp2_with (go_at_call 47; refine (rules_any _ _).mono ?_; rintro e w' ⟨rfl, rfl⟩)
  obtain ⟨W0, hW0⟩ : ∃ W0, allocs w [.cells #[Str ro] 9, .cells #[Str te] 9, .cells #[Str ho] 9, .cells #[.int .i64 p] 3, .cells #[.int .i64 0] 3, .cells #[.bool false] 4, .cells #[.pointer po] 37] = W0 := ⟨_, rfl⟩
  have b0 : W0.heap[w.heap.size]? = some (.cells #[Str ro] 9 (0, 0)) := by rw [← hW0]; exact allocs_at w _ 0 _ rfl
  have b1 : W0.heap[w.heap.size + 1]? = some (.cells #[Str te] 9 (0, 0)) := by rw [← hW0]; exact allocs_at w _ 1 _ rfl
  have b2 : W0.heap[w.heap.size + 2]? = some (.cells #[Str ho] 9 (0, 0)) := by rw [← hW0]; exact allocs_at w _ 2 _ rfl
  have b3 : W0.heap[w.heap.size + 3]? = some (.cells #[.int .i64 p] 3 (0, 0)) := by rw [← hW0]; exact allocs_at w _ 3 _ rfl
  have b4 : W0.heap[w.heap.size + 4]? = some (.cells #[.int .i64 0] 3 (0, 0)) := by rw [← hW0]; exact allocs_at w _ 4 _ rfl
  have b5 : W0.heap[w.heap.size + 5]? = some (.cells #[.bool false] 4 (0, 0)) := by rw [← hW0]; exact allocs_at w _ 5 _ rfl
  have b6 : W0.heap[w.heap.size + 6]? = some (.cells #[.pointer po] 37 (0, 0)) := by rw [← hW0]; exact allocs_at w _ 6 _ rfl
  have hext0 : Ext w W0 := by rw [← hW0]; exact allocs_ext _ _
  have hsz0 : W0.heap.size = w.heap.size + 7 := by rw [← hW0]; exact allocs_size _ _
  have hlt : ∀ k, libB k → k < w.heap.size := fun k hk => hL.lt hk
  simp only [allocs, List.foldl_cons, List.foldl_nil] at hW0
  simp only [Nat.add_assoc, Nat.reduceAdd]
  rw [hW0]
  clear hW0
  obtain ⟨own, hown, hit⟩ := rulesV_iter po rs hl (w.heap.size + 6) w W0 hext0 hp b6
  refine wpIn_wide.1 (wpIn_range (n := 5) (P := Tryd.prog) rfl (enters_of Tryd.func67 (by kernel_rfl) rfl) hit (fun k h => by rcases hown k h with h | h <;> omega) (fun k h => h.elim) (fun _ => rfl)
    (fun i W => (∀ r ∈ rs.take i, holdB r ro te ho p = false) ∧ W.heap[w.heap.size]? = some (.cells #[Str ro] 9 (0, 0)) ∧ W.heap[w.heap.size + 1]? = some (.cells #[Str te] 9 (0, 0)) ∧ W.heap[w.heap.size + 2]? = some (.cells #[Str ho] 9 (0, 0)) ∧ W.heap[w.heap.size + 3]? = some (.cells #[.int .i64 p] 3 (0, 0)) ∧
      W.heap[w.heap.size + 4]? = some (.cells #[.int .i64 0] 3 (0, 0)) ∧ W.heap[w.heap.size + 5]? = some (.cells #[.bool false] 4 (0, 0)) ∧ Below w.heap.size w W ∧ w.heap.size + 7 ≤ W.heap.size)
    (fun c i W => c = .ret ∧ ((∀ r ∈ rs.take i, holdB r ro te ho p = false) ∧ holdB (rs.getD i ruD) ro te ho p = true) ∧ W.heap[w.heap.size + 4]? = some (.cells #[.int .i64 (i : Int)] 3 (0, 0)) ∧ W.heap[w.heap.size + 5]? = some (.cells #[.bool true] 4 (0, 0)) ∧ Below w.heap.size w W ∧ w.heap.size + 7 ≤ W.heap.size) ?_ ?_
    ⟨fun r hr => by simp at hr, b0, b1, b2, b3, b4, b5, hext0, by omega⟩ ?_ ?_ ?_)
  · rintro i A' C ⟨hok, h0, h1, h2, h3, h4, h5, hbel, hsz⟩ hm
    exact ⟨hok, hm.keeps h0 id (by omega), hm.keeps h1 id (by omega), hm.keeps h2 id (by omega), hm.keeps h3 id (by omega), hm.keeps h4 id (by omega), hm.keeps h5 id (by omega), hm.below hbel (fun k hk => hk.elim) (by omega) (Nat.le_refl _), Nat.le_trans hsz hm.size⟩
  · rintro c i A' C ⟨hc, hok, h4, h5, hbel, hsz⟩ hm
    exact ⟨hc, hok, hm.keeps h4 id (by omega), hm.keeps h5 id (by omega), hm.below hbel (fun k hk => hk.elim) (by omega) (Nat.le_refl _), Nat.le_trans hsz hm.size⟩
  · rintro m lp i W hi ⟨hok, h0, h1, h2, h3, h4, h5, hbel, hsz⟩ hlp hrec
    have htk : rs.take (i + 1) = rs.take i ++ [rs.getD i ruD] := by rw [List.take_succ_eq_append_getElem hi]; simp [List.getD, hi]
    have hrbx : RuB (rs.getD i ruD) := hrb _ (by simp [List.getD, hi])
    obtain ⟨r, hre⟩ : ∃ r, rs.getD i ruD = r := ⟨_, rfl⟩
    rw [hre] at htk hrbx ⊢
    have HOK := Lib.hid hok; have HTK := Lib.hid htk; have HRE := Lib.hid hre
    clear hok htk hre
    gi_wp2
    obtain ⟨W1, hW1⟩ : ∃ W1, W.alloc (.cells #[.bool r.al, Str r.ro, Str r.te, Str r.ho, .int .i64 r.fr, .int .i64 r.to] 28) = W1 := ⟨_, rfl⟩
    have hx1 : Ext W W1 := by rw [← hW1]; exact Below.alloc (Below.refl _ _) (Nat.le_refl _) _
    have hb1 : W1.heap[W.heap.size]? = some (.cells #[.bool r.al, Str r.ro, Str r.te, Str r.ho, .int .i64 r.fr, .int .i64 r.to] 28 (0, 0)) := by rw [← hW1]; exact Array.getElem?_push_size
    rw [hW1]
    have hs1 := hx1.size
    have hlow : ∀ k, own k → k < w.heap.size + 7 ∧ k ≠ w.heap.size + 4 ∧ k ≠ w.heap.size + 5 := fun k hk => by rcases hown k hk with h | h <;> omega
    refine ⟨Kp.of_ext hx1 (fun k hk => by have := hlow k hk; omega), fun W2 hm2 hrec2 => ?_⟩
    have n1 := (hm2.block _ (Array.getElem?_eq_some_iff.1 hb1).1 id (.inr ⟨_, kind_of_cells hb1⟩)).trans hb1
    replace h0 := hm2.keeps ((hx1.block _ (by omega)).trans h0) id (by omega)
    replace h1 := hm2.keeps ((hx1.block _ (by omega)).trans h1) id (by omega)
    replace h2 := hm2.keeps ((hx1.block _ (by omega)).trans h2) id (by omega)
    replace h3 := hm2.keeps ((hx1.block _ (by omega)).trans h3) id (by omega)
    replace h4 := hm2.keeps ((hx1.block _ (by omega)).trans h4) id (by omega)
    replace h5 := hm2.keeps ((hx1.block _ (by omega)).trans h5) id (by omega)
    replace hbel := hm2.below (hbel.trans (hx1.mono (by omega))) (fun k hk => hk.elim) (by omega) (Nat.le_refl _)
    replace hsz : w.heap.size + 7 ≤ W2.heap.size := by have := hm2.size; omega
    have hL2 : Lb W2 := HL.out.keep fun k hk => hbel.block k (hlt k hk)
    obtain ⟨k0, k1, k2, k3, k4, k5⟩ := cells6 n1
    generalize W.heap.size = gg at *
    have c0 := cell_of h0; have c1 := cell_of h1; have c2 := cell_of h2; have c3 := cell_of h3
    have H0 := Lib.hid h0; have H1 := Lib.hid h1; have H2 := Lib.hid h2; have H3 := Lib.hid h3; have H4 := Lib.hid h4; have H5 := Lib.hid h5
    have HB := Lib.hid hbel; have HLOW := Lib.hid hlow
    have HH := Lib.hid (holds_any r hrbx ro te ho p hh W2 hL2)
    obtain ⟨hd, hhd⟩ : ∃ hd, holdB r ro te ho p = hd := ⟨_, rfl⟩
    rw [hhd] at HH
    have HHD := Lib.hid hhd
    clear h0 h1 h2 h3 h4 h5 hbel hlow hhd hm2 hrec hrec2 hW1 hx1 hb1 n1
    cases hd with
    | false =>
      gi_wp2_with (refine ⟨trivial, fun h => by simp [Fence.wide] at h, ?_⟩; gi_at_call 16; refine (CallsIn.inRound lp (callsIn_wide.2 HH.out)).mono ?_; rintro e W3 ⟨he, hx3⟩; subst he; have HX3 := Lib.hid hx3; clear hx3; refine Hid.out ?_)
      refine Lib.hid ?_
      have hs3 := HX3.out.size
      have fin : Kp W0.heap.size own W2 W3 ∧ (∀ r ∈ rs.take (i + 1), holdB r ro te ho p = false) ∧ W3.heap[w.heap.size]? = some (.cells #[Str ro] 9 (0, 0)) ∧ W3.heap[w.heap.size + 1]? = some (.cells #[Str te] 9 (0, 0)) ∧ W3.heap[w.heap.size + 2]? = some (.cells #[Str ho] 9 (0, 0)) ∧ W3.heap[w.heap.size + 3]? = some (.cells #[.int .i64 p] 3 (0, 0)) ∧
          W3.heap[w.heap.size + 4]? = some (.cells #[.int .i64 0] 3 (0, 0)) ∧ W3.heap[w.heap.size + 5]? = some (.cells #[.bool false] 4 (0, 0)) ∧ Below w.heap.size w W3 ∧ w.heap.size + 7 ≤ W3.heap.size := by
        refine ⟨Kp.of_ext HX3.out (fun k hk => by have := HLOW.out k hk; omega), fun q hq => ?_, (HX3.out.block _ (by omega)).trans H0.out, (HX3.out.block _ (by omega)).trans H1.out, (HX3.out.block _ (by omega)).trans H2.out, (HX3.out.block _ (by omega)).trans H3.out, (HX3.out.block _ (by omega)).trans H4.out, (HX3.out.block _ (by omega)).trans H5.out, HB.out.trans (HX3.out.mono (by omega)), by omega⟩
        rw [HTK.out] at hq
        rcases List.mem_append.1 hq with hq | hq
        · exact HOK.out q hq
        · rw [List.mem_singleton.1 hq]; exact HHD.out
      have FIN := Lib.hid fin
      clear fin k0 k1 k2 k3 k4 k5 c0 c1 c2 c3 HH
      gi_wp2
      exact FIN.out
    | true =>
      gi_wp2_with (refine ⟨trivial, fun h => by simp [Fence.wide] at h, ?_⟩; gi_at_call 16; refine (CallsIn.inRound lp (callsIn_wide.2 HH.out)).mono ?_; rintro e W3 ⟨he, hx3⟩; subst he; have HX3 := Lib.hid hx3; clear hx3; refine Hid.out ?_)
      refine Lib.hid ?_
      have hs3 := HX3.out.size
      have q4 := (HX3.out.block _ (by omega)).trans H4.out; have q5 := (HX3.out.block _ (by omega)).trans H5.out
      have d4 := cell_of q4; have d5 := cell_of q5; have f4 := frozen_of q4; have f5 := frozen_of q5
      obtain ⟨q0, q1, qc⟩ := set2 (u0 := .int .i64 (i : Int)) (u1 := .bool true) q4 q5
      have hqs := qc.size
      have KP := Lib.hid ((Kp.of_ext (B := W0.heap.size) (own := own) HX3.out (fun k hk => by have := HLOW.out k hk; omega)).trans (Kp.of_chg qc (fun k hk => by have := HLOW.out k hk; omega) (fun k hk hB => by omega)))
      have BL := Lib.hid (below_chg (HB.out.trans (HX3.out.mono (by omega))) qc (fun k hk => by omega) (Nat.le_refl _))
      have SZ := Lib.hid (show w.heap.size + 7 ≤ _ from Nat.le_trans (by omega) hqs)
      have Q0 := Lib.hid q0; have Q1 := Lib.hid q1
      clear q4 q5 q0 q1 qc hqs k0 k1 k2 k3 k4 k5 c0 c1 c2 c3 HH
      gi_wp2
      exact ⟨KP.out, rfl, ⟨HOK.out, by rw [HRE.out]; exact HHD.out⟩, Q0.out, Q1.out, BL.out, SZ.out⟩
  · rintro D W hD ⟨hok, h0, h1, h2, h3, h4, h5, hbel, hsz⟩ hdef
    have HP := Lib.hid (whichO_none (rs := rs) (ro := ro) (te := te) (ho := ho) (p := p) (by rw [List.take_length] at hok; exact hok))
    have g4 := cell_of h4; have g5 := cell_of h5; have f4 := frozen_of h4; have f5 := frozen_of h5
    clear hok hit
    go_wp2
    obtain ⟨q0, q1, qc⟩ := set2 (u0 := .int .i64 0) (u1 := .bool false) h4 h5
    have hdef2 := (qc.block D (Array.getElem?_eq_some_iff.1 hdef).1 (by omega)).trans hdef
    have hne : ∀ k, k ≤ w.heap.size + 5 → k ≠ D := fun k hk => by omega
    refine marks_ret_at hdef2 (results_cells rfl _ _ _ rfl rfl Tryd.isAgg3 Tryd.isAgg4 (cell_of ((World.putObj_heap_other (hne _ (by omega))).trans q0)) (cell_of ((World.putObj_heap_other (hne _ (by omega))).trans q1))) ⟨by rw [HP.out]; rfl, below_mark (below_chg hbel qc (fun k hk => by omega) (Nat.le_refl _)) (by omega) hdef2⟩
  · rintro D c i W hD hi ⟨rfl, ⟨hok, htr⟩, h4, h5, hbel, hsz⟩ hdef
    have HP := Lib.hid (whichO_some hi hok htr)
    clear hok htr hit
    refine wpIn_wide.2 ?_
    go_wp2
    have hne : ∀ k, k ≤ w.heap.size + 5 → k ≠ D := fun k hk => by omega
    refine marks_ret_at (D := D) hdef (results_cells rfl _ _ _ rfl rfl Tryd.isAgg3 Tryd.isAgg4 (cell_of ((World.putObj_heap_other (hne _ (by omega))).trans h4)) (cell_of ((World.putObj_heap_other (hne _ (by omega))).trans h5))) ⟨by rw [HP.out]; rfl, below_mark hbel (by omega) hdef⟩
/-- May it be? -/
def mayB (rs : List Ru) (ro te ho : List UInt8) (p : Int) : Bool := match whichO rs ro te ho p with | some i => (rs.getD i ruD).al | none => false
set_option maxHeartbeats 1000000 in
theorem may_any (po : Option Addr) (rs : List Ru) (hl : rs.length ≤ 100000) (hrb : ∀ r ∈ rs, RuB r) (ro te ho : List UInt8) (hh : ho.length ≤ 10000) (p : Int) (w : World) (hL : Lb w) (hp : PolV w po rs) :
    Calls Tryd.prog 22 #[.pointer po, Str ro, Str te, Str ho, .int .i64 p] w fun e w' => e = .returned (.bool (mayB rs ro te ho p)) ∧ Ext w w' := by
  have HW := Lib.hid (which_any po rs hl hrb ro te ho hh p w hL hp)
  have hm := Lib.hid (show mayB rs ro te ho p = match whichO rs ro te ho p with | some i => (rs.getD i ruD).al | none => false from rfl)
  have hlt : ∀ i, whichO rs ro te ho p = some i → i < rs.length := fun i h => by
    unfold whichO at h
    exact (List.findIdx?_eq_some_iff_getElem.1 h).1
  have HLT := Lib.hid hlt
  clear hlt
  cases ho' : whichO rs ro te ho p with
  | none =>
    have HM := Lib.hid (show mayB rs ro te ho p = false by rw [hm.out, ho'])
    rw [ho'] at HW
    clear hm ho' HLT
    go_enter Tryd.func22, Tryd.ntmps22
    go_wp2_with fail
    refine HW.out.mono ?_
    rintro e W1 ⟨he, hx⟩
    subst he
    go_wp2
    go_ret
    exact ⟨by rw [HM.out]; rfl, hx⟩
  | some i =>
    have hi := HLT.out i ho'
    have HM := Lib.hid (show mayB rs ro te ho p = (rs.getD i ruD).al by rw [hm.out, ho'])
    rw [ho'] at HW
    rcases hp with ⟨_, hrs⟩ | ⟨b, rfl, v, hb, hr⟩
    · subst hrs; simp at hi
    · have hne : rs ≠ [] := fun h => by subst h; simp at hi
      clear hm ho' HLT
      go_enter Tryd.func22, Tryd.ntmps22
      go_wp2_with fail
      refine HW.out.mono ?_
      rintro e W1 ⟨he, hx⟩
      subst he
      have hb1 := cell_of ((hx.block _ (Array.getElem?_eq_some_iff.1 hb).1).trans hb)
      obtain ⟨g, o, cap, hv, hcap, hmax, hcl⟩ := rowU_cells (hr.ext hx) hne
      obtain ⟨k0, _⟩ := hcl i hi
      have hix := index_rule g o rs.length cap i hi
      subst hv
      have HX := Lib.hid hx
      generalize (rs.getD i ruD).al = a at *
      clear hcl hb hr hx hL HW
      go_wp2
      go_ret
      exact ⟨by rw [HM.out]; rfl, HX.out⟩
end Go.Proofs.YtjbobblnicnhnaaDoor
