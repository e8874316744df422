/-
  RuleCovers.
-/
import Derived.BigGuardPart
import Derived.RegionTactic
import Derived.Deep.RegionHeld3
import Derived.Deep.DrawnRows
import Derived.Test.YtjbobblnicnhnaaDoorRows
import Derived.Test.YtjbobblnicnhnaaDoorFew
import Derived.Test.YtjbobblnicnhnaaDoorKit
import Derived.Test.YtjbobblnicnhnaaDoorCvl
import Derived.Test.YtjbobblnicnhnaaDoorAwr
namespace Go.Proofs.YtjbobblnicnhnaaDoor
open Go.RowKit
set_option maxRecDepth 100000
attribute [local go_sem ↓] Go.wp_at_zero Go.wp_at_succ
set_option linter.unusedVariables false
set_option linter.unusedSimpArgs false

theorem set6_other {W : World} {b b' : Nat} {o : Obj} (hne : b' ≠ b) (h : W.heap[b']? = some o) (u0 u1 u2 u3 u4 u5 : Value) :
    ((((((W.setCell ⟨b, 0, none⟩ u0).setCell ⟨b, 1, none⟩ u1).setCell ⟨b, 2, none⟩ u2).setCell ⟨b, 3, none⟩ u3).setCell ⟨b, 4, none⟩ u4).setCell ⟨b, 5, none⟩ u5).heap[b']? = some o := by
  have hk : ∀ (X : World) (i : Nat) (u : Value), (X.setCell ⟨b, i, none⟩ u).heap[b']? = X.heap[b']? := fun X i u => Below.heap_setCell _ _ _ _ (by simpa using hne)
  rw [hk, hk, hk, hk, hk, hk, h]
set_option maxHeartbeats 2000000 in
theorem rcovers_any (r s : Ru) (hr1 : I64 r.fr) (hr2 : I64 r.to) (hs1 : I64 s.fr) (hs2 : I64 s.to) (a2 a3 a4 : List UInt8) (p : Int) (w : World) (hL : Lb w) :
    Calls Tryd.prog 4 #[ruV r, ruV s, Str a2, Str a3, Str a4, .int .i64 p] w fun e w' => e = .returned (.bool true) ∧ Ext w w' := by
  have HL := Lib.hid hL
  have HA := Lib.hid (fun W hW => awake_law W hW)
  have HF1 := Lib.hid (fun W => few_any r W)
  have HF2 := Lib.hid (fun W => few_any s W)
  have HCT := Lib.hid (fun W => cutText_any a4 40 W (by omega))
  have hlh : (a4.take 40).length ≤ 10000 := by simp; omega
  have hb1 := few_b r hr1 hr2
  have hb2 := few_b s hs1 hs2
  generalize a4.take 40 = h at *
  generalize fewR r = r1 at *
  generalize fewR s = s1 at *
  have hlo : s1.ho.length ≤ 10000 := hb2.ho
  have HV := Lib.hid (fun W hW => covers_any r1 s1 hb1 hb2 W hW)
  have HV2 := Lib.hid (fun W => coversR_any r1 s1 hb1 hb2 W)
  have HH1 := Lib.hid (fun (x : List UInt8) (hx : x.length ≤ 10000) W hW => holds_any r1 hb1 a2 a3 x p hx W hW)
  have HH2 := Lib.hid (fun (x : List UInt8) (hx : x.length ≤ 10000) W hW => holds_any s1 hb2 a2 a3 x p hx W hW)
  have HCH := Lib.hid (fun (x : List UInt8) => cover_hold r1 s1 a2 a3 x p)
  clear hb1 hb2 hL hr1 hr2 hs1 hs2
  generalize coverB r1 s1 = c at *
  obtain ⟨al, ro, te, ho, fr, to⟩ := r
  obtain ⟨al', ro', te', ho', fr', to'⟩ := s
  obtain ⟨bl, so, ue, io, gr, uo⟩ := r1
  obtain ⟨bl', so', ue', io', gr', uo'⟩ := s1
  simp only at hlo
  go_enter Tryd.func4, Tryd.ntmps4
  go_wp2_with fail
  obtain ⟨W1, hW1⟩ : ∃ W1, (w.alloc (.cells #[.bool al, Str ro, Str te, Str ho, .int .i64 fr, .int .i64 to] 26)).alloc (.cells #[.bool al', Str ro', Str te', Str ho', .int .i64 fr', .int .i64 to'] 26) = W1 := ⟨_, rfl⟩
  have hx : Ext w W1 := by rw [← hW1]; exact allocs_ext w [.cells #[.bool al, Str ro, Str te, Str ho, .int .i64 fr, .int .i64 to] 26, .cells #[.bool al', Str ro', Str te', Str ho', .int .i64 fr', .int .i64 to'] 26]
  have hc : W1.heap[w.heap.size]? = some (.cells #[.bool al, Str ro, Str te, Str ho, .int .i64 fr, .int .i64 to] 26 (0, 0)) := by rw [← hW1]; exact allocs_at w [.cells #[.bool al, Str ro, Str te, Str ho, .int .i64 fr, .int .i64 to] 26, .cells #[.bool al', Str ro', Str te', Str ho', .int .i64 fr', .int .i64 to'] 26] 0 _ rfl
  have hd : W1.heap[w.heap.size + 1]? = some (.cells #[.bool al', Str ro', Str te', Str ho', .int .i64 fr', .int .i64 to'] 26 (0, 0)) := by rw [← hW1]; exact allocs_at w [.cells #[.bool al, Str ro, Str te, Str ho, .int .i64 fr, .int .i64 to] 26, .cells #[.bool al', Str ro', Str te', Str ho', .int .i64 fr', .int .i64 to'] 26] 1 _ rfl
  rw [hW1]
  refine (HA.out W1 (HL.out.ext hx)).mono ?_
  rintro e W2 ⟨he, hx2⟩
  subst he
  have hxx := ext_trans hx hx2
  have HX := Lib.hid hxx; have HC := Lib.hid (ext_at hx2 hc); have HD := Lib.hid (ext_at hx2 hd)
  clear hW1 hx hx2 hxx hc hd HA
  go_wp2_with fail
  refine Code.wp_mono (Q := fun e a w' => e = .normal ∧ a = ({ tmps := #[ruV ⟨al, ro, te, ho, fr, to⟩, ruV ⟨al', ro', te', ho', fr', to'⟩, Str a2, Str a3, Str a4, .int .i64 p, .pointer (some ⟨w.heap.size, 0, none⟩), .pointer (some ⟨w.heap.size + 1, 0, none⟩), undef, undef, undef, undef, .bool false, undef, undef, undef, .bool true, .bool false, ruV ⟨al, ro, te, ho, fr, to⟩, ruV ⟨bl, so, ue, io, gr, uo⟩, ruV ⟨al', ro', te', ho', fr', to'⟩, ruV ⟨bl', so', ue', io', gr', uo'⟩, undef, undef, undef, undef, undef, undef, undef, undef, undef, undef, undef, undef, undef, undef, undef, undef, undef, undef, undef, undef, undef, undef, undef, undef, undef, undef, undef, undef, undef, undef, undef, undef, undef, undef, undef, undef, undef, undef], defers := [] } : Act) ∧ Ext w w' ∧ w'.heap[w.heap.size]? = some (.cells #[.bool bl, Str so, Str ue, Str io, .int .i64 gr, .int .i64 uo] 26 (0, 0)) ∧ w'.heap[w.heap.size + 1]? = some (.cells #[.bool bl', Str so', Str ue', Str io', .int .i64 gr', .int .i64 uo'] 26 (0, 0))) ?_ ?_
  rotate_left 1
  · refine wp_region_any (by kernel_rfl) ?_
    change wpAny _ _ _ _ _ _ _ (World.drew _)
    obtain ⟨V, hV⟩ : ∃ V, W2.drew = V := ⟨_, rfl⟩
    have HX0 : Hid (Ext w V) := Lib.hid (by rw [← hV]; exact Below.drew HX.out)
    have q1 : W2.drew.heap[w.heap.size]? = _ := HC.out
    have q2 : W2.drew.heap[w.heap.size + 1]? = _ := HD.out
    rw [hV] at q1 q2
    have HC0 := Lib.hid q1; have HD0 := Lib.hid q2
    rw [hV]
    clear q1 q2
    clear hV HX HC HD
    obtain ⟨c0, c1, c2, c3, c4, c5⟩ := cells6 HC0.out
    obtain ⟨d0, d1, d2, d3, d4, d5⟩ := cells6 HD0.out
    -- region 3
    simp only [List.size_toArray, List.length_cons, List.length_nil, Nat.reduceAdd, Array.replicate_succ, Array.replicate_zero, List.push_toArray, List.nil_append, List.cons_append]
    refine wpAny_ready (rs := [0, 2]) (by kernel_rfl) (by simp) ?_
    refine AllReady.cons rfl (fun K hK => ?_) ?_
    · skip
      go_simp
      refine hK _ _ ?_
      clear hK K
      try refine wpAny_act ?_ (by go_simp; with_reducible rfl)
      refine wpAny_ready (rs := [1, 2]) (by kernel_rfl) (by simp) ?_
      refine AllReady.cons rfl (fun K hK => ?_) ?_
      · skip
        (go_simp; refine (HF1.out _).mono ?_; rintro e W3 ⟨he, hx⟩; subst he; have HX3 := Lib.hid (ext_trans HX0.out hx); have HC3 := Lib.hid (ext_at hx HC0.out); have HD3 := Lib.hid (ext_at hx HD0.out); clear hx c0 c1 c2 c3 c4 c5 d0 d1 d2 d3 d4 d5; obtain ⟨d0, d1, d2, d3, d4, d5⟩ := cells6 HD3.out)
        refine hK _ _ ?_
        clear hK K
        try refine wpAny_act ?_ (by go_simp; with_reducible rfl)
        refine wpAny_ready (rs := [2]) (by kernel_rfl) (by simp) ?_
        refine AllReady.cons rfl (fun K hK => ?_) AllReady.nil
        go_simp
        refine hK _ _ ?_
        clear hK K
        try refine wpAny_act ?_ (by go_simp; with_reducible rfl)
        refine wpAny_ready (rs := [3]) (by kernel_rfl) (by simp) ?_
        refine AllReady.cons rfl (fun K hK => ?_) AllReady.nil
        (go_simp; refine (HF2.out _).mono ?_; rintro e W4 ⟨he, hx⟩; subst he; have HX4 := Lib.hid (ext_trans HX3.out hx); have HC4 := Lib.hid (ext_at hx HC3.out); have HD4 := Lib.hid (ext_at hx HD3.out); clear hx d0 d1 d2 d3 d4 d5; obtain ⟨c0, c1, c2, c3, c4, c5⟩ := cells6 HC4.out; have fz := frozen_row HC4.out)
        refine hK _ _ ?_
        clear hK K
        try refine wpAny_act ?_ (by go_simp; with_reducible rfl)
        refine wpAny_ready (rs := [4]) (by kernel_rfl) (by simp) ?_
        refine AllReady.cons rfl (fun K hK => ?_) AllReady.nil
        go_simp
        refine hK _ _ ?_
        clear hK K
        try refine wpAny_act ?_ (by go_simp; with_reducible rfl)
        refine wpAny_ready (rs := [5]) (by kernel_rfl) (by simp) ?_
        refine AllReady.cons rfl (fun K hK => ?_) AllReady.nil
        (have h6 := set6 HC4.out (.bool bl) (Str so) (Str ue) (Str io) (.int .i64 gr) (.int .i64 uo); have hb6 := below_set6 (b := w.heap.size) HX4.out (Nat.le_refl _) (.bool bl) (Str so) (Str ue) (Str io) (.int .i64 gr) (.int .i64 uo); have hd6 := set6_other (b := w.heap.size) (by omega) HD4.out (.bool bl) (Str so) (Str ue) (Str io) (.int .i64 gr) (.int .i64 uo); simp only [Str] at h6 hb6 hd6; generalize ((((((W4.setCell _ _).setCell _ _).setCell _ _).setCell _ _).setCell _ _).setCell _ _) = W5 at *; clear c0 c1 c2 c3 c4 c5 fz; obtain ⟨d0, d1, d2, d3, d4, d5⟩ := cells6 hd6; have fz := frozen_row hd6; have HX5 := Lib.hid hb6; have HC5 := Lib.hid h6; have HD5 := Lib.hid hd6; clear hb6 h6 hd6; go_simp)
        refine hK _ _ ?_
        clear hK K
        try refine wpAny_act ?_ (by go_simp; with_reducible rfl)
        refine wpAny_done (by kernel_rfl) ?_ _
        have h6 := set6 HD5.out (.bool bl') (Str so') (Str ue') (Str io') (.int .i64 gr') (.int .i64 uo')
        have hb6 := below_set6 (b := w.heap.size + 1) HX5.out (by omega) (.bool bl') (Str so') (Str ue') (Str io') (.int .i64 gr') (.int .i64 uo')
        exact ⟨rfl, rfl, hb6, set6_other (b := w.heap.size + 1) (by omega) HC5.out (.bool bl') (Str so') (Str ue') (Str io') (.int .i64 gr') (.int .i64 uo'), h6⟩
      refine AllReady.cons rfl (fun K hK => ?_) ?_
      · skip
        go_simp
        refine hK _ _ ?_
        clear hK K
        try refine wpAny_act ?_ (by go_simp; with_reducible rfl)
        refine wpAny_ready (rs := [1]) (by kernel_rfl) (by simp) ?_
        refine AllReady.cons rfl (fun K hK => ?_) AllReady.nil
        (go_simp; refine (HF1.out _).mono ?_; rintro e W3 ⟨he, hx⟩; subst he; have HX3 := Lib.hid (ext_trans HX0.out hx); have HC3 := Lib.hid (ext_at hx HC0.out); have HD3 := Lib.hid (ext_at hx HD0.out); clear hx c0 c1 c2 c3 c4 c5 d0 d1 d2 d3 d4 d5; obtain ⟨d0, d1, d2, d3, d4, d5⟩ := cells6 HD3.out)
        refine hK _ _ ?_
        clear hK K
        try refine wpAny_act ?_ (by go_simp; with_reducible rfl)
        refine wpAny_ready (rs := [3]) (by kernel_rfl) (by simp) ?_
        refine AllReady.cons rfl (fun K hK => ?_) AllReady.nil
        (go_simp; refine (HF2.out _).mono ?_; rintro e W4 ⟨he, hx⟩; subst he; have HX4 := Lib.hid (ext_trans HX3.out hx); have HC4 := Lib.hid (ext_at hx HC3.out); have HD4 := Lib.hid (ext_at hx HD3.out); clear hx d0 d1 d2 d3 d4 d5; obtain ⟨c0, c1, c2, c3, c4, c5⟩ := cells6 HC4.out; have fz := frozen_row HC4.out)
        refine hK _ _ ?_
        clear hK K
        try refine wpAny_act ?_ (by go_simp; with_reducible rfl)
        refine wpAny_ready (rs := [4]) (by kernel_rfl) (by simp) ?_
        refine AllReady.cons rfl (fun K hK => ?_) AllReady.nil
        go_simp
        refine hK _ _ ?_
        clear hK K
        try refine wpAny_act ?_ (by go_simp; with_reducible rfl)
        refine wpAny_ready (rs := [5]) (by kernel_rfl) (by simp) ?_
        refine AllReady.cons rfl (fun K hK => ?_) AllReady.nil
        (have h6 := set6 HC4.out (.bool bl) (Str so) (Str ue) (Str io) (.int .i64 gr) (.int .i64 uo); have hb6 := below_set6 (b := w.heap.size) HX4.out (Nat.le_refl _) (.bool bl) (Str so) (Str ue) (Str io) (.int .i64 gr) (.int .i64 uo); have hd6 := set6_other (b := w.heap.size) (by omega) HD4.out (.bool bl) (Str so) (Str ue) (Str io) (.int .i64 gr) (.int .i64 uo); simp only [Str] at h6 hb6 hd6; generalize ((((((W4.setCell _ _).setCell _ _).setCell _ _).setCell _ _).setCell _ _).setCell _ _) = W5 at *; clear c0 c1 c2 c3 c4 c5 fz; obtain ⟨d0, d1, d2, d3, d4, d5⟩ := cells6 hd6; have fz := frozen_row hd6; have HX5 := Lib.hid hb6; have HC5 := Lib.hid h6; have HD5 := Lib.hid hd6; clear hb6 h6 hd6; go_simp)
        refine hK _ _ ?_
        clear hK K
        try refine wpAny_act ?_ (by go_simp; with_reducible rfl)
        refine wpAny_done (by kernel_rfl) ?_ _
        have h6 := set6 HD5.out (.bool bl') (Str so') (Str ue') (Str io') (.int .i64 gr') (.int .i64 uo')
        have hb6 := below_set6 (b := w.heap.size + 1) HX5.out (by omega) (.bool bl') (Str so') (Str ue') (Str io') (.int .i64 gr') (.int .i64 uo')
        exact ⟨rfl, rfl, hb6, set6_other (b := w.heap.size + 1) (by omega) HC5.out (.bool bl') (Str so') (Str ue') (Str io') (.int .i64 gr') (.int .i64 uo'), h6⟩
      exact AllReady.nil
    refine AllReady.cons rfl (fun K hK => ?_) ?_
    · skip
      go_simp
      refine hK _ _ ?_
      clear hK K
      try refine wpAny_act ?_ (by go_simp; with_reducible rfl)
      refine wpAny_ready (rs := [0]) (by kernel_rfl) (by simp) ?_
      refine AllReady.cons rfl (fun K hK => ?_) AllReady.nil
      go_simp
      refine hK _ _ ?_
      clear hK K
      try refine wpAny_act ?_ (by go_simp; with_reducible rfl)
      refine wpAny_ready (rs := [1]) (by kernel_rfl) (by simp) ?_
      refine AllReady.cons rfl (fun K hK => ?_) AllReady.nil
      (go_simp; refine (HF1.out _).mono ?_; rintro e W3 ⟨he, hx⟩; subst he; have HX3 := Lib.hid (ext_trans HX0.out hx); have HC3 := Lib.hid (ext_at hx HC0.out); have HD3 := Lib.hid (ext_at hx HD0.out); clear hx c0 c1 c2 c3 c4 c5 d0 d1 d2 d3 d4 d5; obtain ⟨d0, d1, d2, d3, d4, d5⟩ := cells6 HD3.out)
      refine hK _ _ ?_
      clear hK K
      try refine wpAny_act ?_ (by go_simp; with_reducible rfl)
      refine wpAny_ready (rs := [3]) (by kernel_rfl) (by simp) ?_
      refine AllReady.cons rfl (fun K hK => ?_) AllReady.nil
      (go_simp; refine (HF2.out _).mono ?_; rintro e W4 ⟨he, hx⟩; subst he; have HX4 := Lib.hid (ext_trans HX3.out hx); have HC4 := Lib.hid (ext_at hx HC3.out); have HD4 := Lib.hid (ext_at hx HD3.out); clear hx d0 d1 d2 d3 d4 d5; obtain ⟨c0, c1, c2, c3, c4, c5⟩ := cells6 HC4.out; have fz := frozen_row HC4.out)
      refine hK _ _ ?_
      clear hK K
      try refine wpAny_act ?_ (by go_simp; with_reducible rfl)
      refine wpAny_ready (rs := [4]) (by kernel_rfl) (by simp) ?_
      refine AllReady.cons rfl (fun K hK => ?_) AllReady.nil
      go_simp
      refine hK _ _ ?_
      clear hK K
      try refine wpAny_act ?_ (by go_simp; with_reducible rfl)
      refine wpAny_ready (rs := [5]) (by kernel_rfl) (by simp) ?_
      refine AllReady.cons rfl (fun K hK => ?_) AllReady.nil
      (have h6 := set6 HC4.out (.bool bl) (Str so) (Str ue) (Str io) (.int .i64 gr) (.int .i64 uo); have hb6 := below_set6 (b := w.heap.size) HX4.out (Nat.le_refl _) (.bool bl) (Str so) (Str ue) (Str io) (.int .i64 gr) (.int .i64 uo); have hd6 := set6_other (b := w.heap.size) (by omega) HD4.out (.bool bl) (Str so) (Str ue) (Str io) (.int .i64 gr) (.int .i64 uo); simp only [Str] at h6 hb6 hd6; generalize ((((((W4.setCell _ _).setCell _ _).setCell _ _).setCell _ _).setCell _ _).setCell _ _) = W5 at *; clear c0 c1 c2 c3 c4 c5 fz; obtain ⟨d0, d1, d2, d3, d4, d5⟩ := cells6 hd6; have fz := frozen_row hd6; have HX5 := Lib.hid hb6; have HC5 := Lib.hid h6; have HD5 := Lib.hid hd6; clear hb6 h6 hd6; go_simp)
      refine hK _ _ ?_
      clear hK K
      try refine wpAny_act ?_ (by go_simp; with_reducible rfl)
      refine wpAny_done (by kernel_rfl) ?_ _
      have h6 := set6 HD5.out (.bool bl') (Str so') (Str ue') (Str io') (.int .i64 gr') (.int .i64 uo')
      have hb6 := below_set6 (b := w.heap.size + 1) HX5.out (by omega) (.bool bl') (Str so') (Str ue') (Str io') (.int .i64 gr') (.int .i64 uo')
      exact ⟨rfl, rfl, hb6, set6_other (b := w.heap.size + 1) (by omega) HC5.out (.bool bl') (Str so') (Str ue') (Str io') (.int .i64 gr') (.int .i64 uo'), h6⟩
    exact AllReady.nil
    -- end of region 3
  clear HX HC HD HF1 HF2
  rintro e a W3 ⟨he, ha, hx3, hc, hd⟩
  dsimp only at ha
  subst he; subst ha
  obtain ⟨c0, c1, c2, c3, c4, c5⟩ := cells6 hc
  obtain ⟨d0, d1, d2, d3, d4, d5⟩ := cells6 hd
  have HX3 := Lib.hid hx3; have HC3 := Lib.hid hc; have HD3 := Lib.hid hd
  clear hx3 hc hd
  go_wp2_with fail
  refine (HCT.out _).mono ?_
  rintro e W4 ⟨he, hw⟩
  subst he; subst W4
  go_wp2_with fail
  refine (HV.out W3 (HL.out.ext HX3.out)).mono ?_
  rintro e W4 ⟨he, hx⟩
  subst he
  have HX4 := Lib.hid (ext_trans HX3.out hx); have HC4 := Lib.hid (ext_at hx HC3.out); have HD4 := Lib.hid (ext_at hx HD3.out)
  clear hx c0 c1 c2 c3 c4 c5 d0 d1 d2 d3 d4 d5 HX3 HC3 HD3 HV HCT
  obtain ⟨c0, c1, c2, c3, c4, c5⟩ := cells6 HC4.out
  obtain ⟨d0, d1, d2, d3, d4, d5⟩ := cells6 HD4.out
  go_wp2_with fail
  refine (HV2.out W4).mono ?_
  rintro e W5 ⟨he, hx⟩
  subst he
  have HX5 := Lib.hid (ext_trans HX4.out hx); have HC5 := Lib.hid (ext_at hx HC4.out); have HD5 := Lib.hid (ext_at hx HD4.out)
  clear hx c0 c1 c2 c3 c4 c5 d0 d1 d2 d3 d4 d5 HX4 HC4 HD4 HV2
  obtain ⟨c0, c1, c2, c3, c4, c5⟩ := cells6 HC5.out
  obtain ⟨d0, d1, d2, d3, d4, d5⟩ := cells6 HD5.out
  have hlo' : io'.length ≤ 10000 := hlo
  cases c
  · go_wp2
    obtain ⟨WB, hWB⟩ : ∃ WB, W5.alloc (.cells #[Str h, Str io'] 9) = WB := ⟨_, rfl⟩
    have hxb : Ext W5 WB := by rw [← hWB]; exact allocs_ext W5 [.cells #[Str h, Str io'] 9]
    have hrow : WB.heap[W5.heap.size]? = some (.cells #[Str h, Str io'] 9 (0, 0)) := by rw [← hWB]; exact allocs_at W5 [.cells #[Str h, Str io'] 9] 0 _ rfl
    rw [hWB]
    have q0 : WB.cell? ⟨W5.heap.size, 0, none⟩ = some (Str h) := by simp [World.cell?, hrow]
    have q1 : WB.cell? ⟨W5.heap.size, 1, none⟩ = some (Str io') := by simp [World.cell?, hrow]
    have HXB := Lib.hid (ext_trans HX5.out hxb); have HCB := Lib.hid (ext_at hxb HC5.out); have HDB := Lib.hid (ext_at hxb HD5.out)
    have Q0 := Lib.hid q0; have Q1 := Lib.hid q1
    clear hWB hxb hrow c0 c1 c2 c3 c4 c5 d0 d1 d2 d3 d4 d5 HX5 HC5 HD5 q0 q1
    generalize W5.heap.size = bb at *
    go_loopw [15, 37] (fun hv i wr => ∃ k : Nat, k ≤ 2 ∧ i = .int .i64 k ∧ Ext WB wr) (fun _ i _ => 2 - (intOf i).toNat)
    case atStart => exact ⟨0, by omega, rfl, ext_refl _⟩
    case round =>
      obtain ⟨k, hk, rfl, hxr⟩ := hrel
      have HXR := Lib.hid hxr
      have q0 := ext_cell hxr Q0.out; have q1 := ext_cell hxr Q1.out
      have HCR := Lib.hid (ext_at hxr HCB.out); have HDR := Lib.hid (ext_at hxr HDB.out)
      clear hxr
      by_cases e2 : k = 2
      · subst e2
        go_wp2
        go_ret
        exact ⟨rfl, ext_trans HXB.out HXR.out⟩
      · by_cases e1 : k = 1
        · subst e1
          go_wp2
          go_round
          case rel => exact ⟨2, by omega, rfl, HXR.out⟩
          case measure => simp [intOf]
        · have e0 : k = 0 := by omega
          subst e0
          go_wp2
          go_round
          case rel => exact ⟨1, by omega, rfl, HXR.out⟩
          case measure => simp [intOf]
  · go_wp2
    obtain ⟨WB, hWB⟩ : ∃ WB, W5.alloc (.cells #[Str h, Str io'] 9) = WB := ⟨_, rfl⟩
    have hxb : Ext W5 WB := by rw [← hWB]; exact allocs_ext W5 [.cells #[Str h, Str io'] 9]
    have hrow : WB.heap[W5.heap.size]? = some (.cells #[Str h, Str io'] 9 (0, 0)) := by rw [← hWB]; exact allocs_at W5 [.cells #[Str h, Str io'] 9] 0 _ rfl
    rw [hWB]
    have q0 : WB.cell? ⟨W5.heap.size, 0, none⟩ = some (Str h) := by simp [World.cell?, hrow]
    have q1 : WB.cell? ⟨W5.heap.size, 1, none⟩ = some (Str io') := by simp [World.cell?, hrow]
    have HXB := Lib.hid (ext_trans HX5.out hxb); have HCB := Lib.hid (ext_at hxb HC5.out); have HDB := Lib.hid (ext_at hxb HD5.out)
    have Q0 := Lib.hid q0; have Q1 := Lib.hid q1
    clear hWB hxb hrow c0 c1 c2 c3 c4 c5 d0 d1 d2 d3 d4 d5 HX5 HC5 HD5 q0 q1
    generalize W5.heap.size = bb at *
    go_loopw [15, 37] (fun hv i wr => ∃ k : Nat, k ≤ 2 ∧ i = .int .i64 k ∧ Ext WB wr) (fun _ i _ => 2 - (intOf i).toNat)
    case atStart => exact ⟨0, by omega, rfl, ext_refl _⟩
    case round =>
      obtain ⟨k, hk, rfl, hxr⟩ := hrel
      have HXR := Lib.hid hxr
      have q0 := ext_cell hxr Q0.out; have q1 := ext_cell hxr Q1.out
      have HCR := Lib.hid (ext_at hxr HCB.out); have HDR := Lib.hid (ext_at hxr HDB.out)
      clear hxr
      by_cases e2 : k = 2
      · subst e2
        go_wp2
        go_ret
        exact ⟨rfl, ext_trans HXB.out HXR.out⟩
      · by_cases e1 : k = 1
        · subst e1
          obtain ⟨d0, d1, d2, d3, d4, d5⟩ := cells6 HDR.out
          go_wp2_with fail
          refine (HH2.out io' hlo' _ (HL.out.ext (ext_trans HXB.out HXR.out))).mono ?_
          rintro e W6 ⟨he, hx6⟩
          subst he
          have HX6 := Lib.hid (ext_trans HXR.out hx6); have HC6 := Lib.hid (ext_at hx6 HCR.out)
          clear hx6 d0 d1 d2 d3 d4 d5 q0 q1
          have HQ := Lib.hid (HCH.out io' (by simp))
          generalize holdB ⟨bl', so', ue', io', gr', uo'⟩ a2 a3 io' p = y at *
          cases y with
          | false =>
            go_wp2
            go_round
            case rel => exact ⟨2, by omega, rfl, HX6.out⟩
            case measure => simp [intOf]
          | true =>
            obtain ⟨c0, c1, c2, c3, c4, c5⟩ := cells6 HC6.out
            go_wp2_with fail
            refine (HH1.out io' hlo' _ (HL.out.ext (ext_trans HXB.out HX6.out))).mono ?_
            rw [HQ.out (by simp)]
            rintro e W7 ⟨he, hx7⟩
            subst he
            have HX7 := Lib.hid (ext_trans HX6.out hx7)
            clear hx7 c0 c1 c2 c3 c4 c5
            go_wp2
            go_round
            case rel => exact ⟨2, by omega, rfl, HX7.out⟩
            case measure => simp [intOf]
        · have e0 : k = 0 := by omega
          subst e0
          obtain ⟨d0, d1, d2, d3, d4, d5⟩ := cells6 HDR.out
          go_wp2_with fail
          refine (HH2.out h hlh _ (HL.out.ext (ext_trans HXB.out HXR.out))).mono ?_
          rintro e W6 ⟨he, hx6⟩
          subst he
          have HX6 := Lib.hid (ext_trans HXR.out hx6); have HC6 := Lib.hid (ext_at hx6 HCR.out)
          clear hx6 d0 d1 d2 d3 d4 d5 q0 q1
          have HQ := Lib.hid (HCH.out h (by simp))
          generalize holdB ⟨bl', so', ue', io', gr', uo'⟩ a2 a3 h p = y at *
          cases y with
          | false =>
            go_wp2
            go_round
            case rel => exact ⟨1, by omega, rfl, HX6.out⟩
            case measure => simp [intOf]
          | true =>
            obtain ⟨c0, c1, c2, c3, c4, c5⟩ := cells6 HC6.out
            go_wp2_with fail
            refine (HH1.out h hlh _ (HL.out.ext (ext_trans HXB.out HX6.out))).mono ?_
            rw [HQ.out (by simp)]
            rintro e W7 ⟨he, hx7⟩
            subst he
            have HX7 := Lib.hid (ext_trans HX6.out hx7)
            clear hx7 c0 c1 c2 c3 c4 c5
            go_wp2
            go_round
            case rel => exact ⟨1, by omega, rfl, HX7.out⟩
            case measure => simp [intOf]
end Go.Proofs.YtjbobblnicnhnaaDoor
