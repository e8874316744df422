/-
  The program and the document read alike (plain): ParseChallenge, ParseVerdict, head.
-/
import Derived.Test.YtjkbigecejogdaaDoorRows
import Derived.Test.YtjkbigecejogdaaDoorRpl
import Derived.Test.YtjkbigecejogdaaDoorPcg
import Derived.Test.YtjkbigecejogdaaDoorPvg
import Derived.Test.YtjkbigecejogdaaDoorPng
namespace Go.Proofs.YtjkbigecejogdaaDoor
set_option linter.unusedVariables false
set_option linter.unusedSimpArgs false
theorem tw_all {α : Type} (f : α → Bool) : ∀ ps : List α, ¬ (ps.takeWhile f).length < ps.length → ps.takeWhile f = ps ∧ ps.all f = true
  | [], _ => by simp
  | p :: r, h => by
    rw [List.takeWhile_cons] at h ⊢
    by_cases hp : f p = true
    · rw [if_pos hp] at h ⊢
      have ih := tw_all f r (by simpa using h)
      rw [ih.1, List.all_cons, hp, ih.2]
      exact ⟨rfl, rfl⟩
    · rw [if_neg hp] at h
      simp at h
theorem tw_not {α : Type} (f : α → Bool) : ∀ ps : List α, (ps.takeWhile f).length < ps.length → ps.all f = false
  | [], h => by simp at h
  | p :: r, h => by
    rw [List.takeWhile_cons] at h
    by_cases hp : f p = true
    · rw [if_pos hp] at h
      have ih := tw_not f r (by simpa using h)
      rw [List.all_cons, ih, Bool.and_false]
    · rw [List.all_cons, Bool.eq_false_iff.2 hp, Bool.false_and]
theorem badR_false {l : List UInt8} (h : badR l = false) : attsP l = spl l ∧ (spl l).all isAt = true := tw_all isAt (spl l) (of_decide_eq_false h)
theorem badR_true {l : List UInt8} (h : badR l = true) : (spl l).all isAt = false := tw_not isAt (spl l) (of_decide_eq_true h)
theorem isAt_form {p : List UInt8} (h : isAt p = true) : ∃ x t, p = x :: 61 :: t := by
  unfold isAt at h
  simp only [Bool.and_eq_true, decide_eq_true_eq, beq_iff_eq] at h
  match p, h with
  | x :: y :: t, h =>
    have : y = 61 := by simpa [bt] using h.2
    exact ⟨x, t, by rw [this]⟩
theorem form_isAt (x : UInt8) (t : List UInt8) : isAt (x :: 61 :: t) = true := by simp [isAt, bt]
theorem beh_isAt {p : List UInt8} {c : UInt8} (h : (beh p c 61).2 = true) : isAt p = true ∧ (beh p c 61).1 = p.drop 2 := by
  unfold beh at h ⊢
  split at h
  · rename_i h2
    rw [if_pos h2]
    match p, h2 with
    | x :: y :: t, h2 =>
      simp at h2
      exact ⟨by rw [h2.2]; exact form_isAt x t, rfl⟩
  · cases h
theorem beh_form (x c : UInt8) (t : List UInt8) : beh (x :: 61 :: t) c 61 = if x = c then (t, true) else ([], false) := by
  unfold beh
  by_cases h : x = c
  · subst h; simp
  · simp [h]
theorem has_form (x c : UInt8) (t : List UInt8) (r : List (List UInt8)) : hasF [c] ((x :: 61 :: t) :: r) = (x == c) := by
  simp [hasF]
theorem nxT_form (x c : UInt8) (t : List UInt8) (r : List (List UInt8)) : nxT [c] ((x :: 61 :: t) :: r) = if x = c then t else [] := by
  unfold nxT; rw [has_form]
  by_cases h : x = c <;> simp [h]
theorem nxR_form (x c : UInt8) (t : List UInt8) (r : List (List UInt8)) (h : x = c) : nxR [c] ((x :: 61 :: t) :: r) = r := by
  unfold nxR; rw [has_form]; simp [h]
theorem okE_at {p : List UInt8} (h : isAt p = true) : okE p = okX p := by
  unfold okE okX okA; rw [h, Bool.true_and]
theorem okE_isAt {p : List UInt8} (h : okE p = true) : isAt p = true := by
  unfold okE at h; simp only [Bool.and_eq_true] at h; exact h.1
theorem all_okE {l : List (List UInt8)} (h : l.all isAt = true) : l.all okE = l.all okX := by
  induction l with
  | nil => rfl
  | cons p r ih =>
    simp only [List.all_cons, Bool.and_eq_true] at h
    rw [List.all_cons, List.all_cons, okE_at h.1, ih h.2]
theorem any_mB {l : List (List UInt8)} (h : l.all isAt = true) : l.any mB = denB l := by
  unfold denB
  induction l with
  | nil => rfl
  | cons p r ih =>
    simp only [List.all_cons, Bool.and_eq_true] at h
    rw [List.any_cons, List.any_cons, ih h.2]
    obtain ⟨x, t, rfl⟩ := isAt_form h.1
    simp [mB, bt]
theorem exts_at {l : List (List UInt8)} (h : l.all isAt = true) : extsV l = if l.all okX = true then (l.map atPr, true, denB l) else ([], false, false) := by
  unfold extsV; rw [all_okE h, any_mB h]
theorem exts_isAt {l : List (List UInt8)} (h : (extsV l).2.1 = true) : l.all isAt = true := by
  unfold extsV at h
  split at h
  · rename_i h2
    rw [List.all_eq_true] at h2 ⊢
    exact fun p hp => okE_isAt (h2 p hp)
  · cases h
theorem lat_cons (p : List UInt8) (r : List (List UInt8)) (k : Nat) : lat (p :: r) (k + 1) = lat r k := rfl
theorem lat_zero (p : List UInt8) (r : List (List UInt8)) : lat (p :: r) 0 = p := rfl
theorem chal_eq (s : List UInt8) : pChal s = rChal s := by
  unfold pChal rChal
  by_cases h4 : 4096 < s.length
  · rw [if_pos h4, if_pos h4]
  rw [if_neg h4, if_neg h4]
  cases hb : badR s with
  | true =>
    have ha := badR_true hb
    rw [if_pos (by simp [cBad])]
    by_cases h3 : (spl s).length < 3
    · rw [if_pos h3]
    rw [if_neg h3]
    unfold rC2
    rw [if_pos]
    rw [Bool.eq_false_iff]
    intro hc
    simp only [Bool.and_eq_true] at hc
    obtain ⟨h0, h1, h2, _, hx, _⟩ := hc
    have hx2 := exts_isAt hx
    match hsp : spl s, h3 with
    | a :: b :: c :: r, _ =>
      rw [hsp] at ha h0 h1 h2 hx2
      simp only [lat_cons, lat_zero] at h0 h1 h2
      have e : (a :: b :: c :: r).all isAt = true := by
        rw [List.all_cons, List.all_cons, List.all_cons, (beh_isAt h0).1, (beh_isAt h1).1, (beh_isAt h2).1]
        exact hx2
      rw [e] at ha; cases ha
    | [], h => simp at h
    | [_], h => simp at h
    | [_, _], h => simp at h
  | false =>
    obtain ⟨he, ha⟩ := badR_false hb
    unfold cBad c1C
    simp only [he, Bool.false_or]
    match hsp : spl s with
    | [] => exact absurd hsp (spl_ne s)
    | [a] =>
      rw [hsp] at ha
      rw [if_pos, if_pos (by simp)]
      simp only [List.all_cons, Bool.and_eq_true] at ha
      obtain ⟨x, t, rfl⟩ := isAt_form ha.1
      by_cases hx : x = 114
      · subst hx; rw [nxR_form _ _ _ _ rfl]; simp [hasF]
      · simp [has_form, hx]
    | [a, b] =>
      rw [hsp] at ha
      rw [if_pos, if_pos (by simp)]
      simp only [List.all_cons, Bool.and_eq_true] at ha
      obtain ⟨x, t, rfl⟩ := isAt_form ha.1
      obtain ⟨y, u, rfl⟩ := isAt_form ha.2.1
      by_cases hx : x = 114
      · subst hx; rw [nxR_form _ _ _ _ rfl]
        by_cases hy : y = 115
        · subst hy; rw [nxR_form _ _ _ _ rfl]; simp [hasF]
        · simp [has_form, hy]
      · simp [has_form, hx]
    | a :: b :: c :: r =>
      rw [hsp] at ha
      rw [if_neg (show ¬ (a :: b :: c :: r).length < 3 by simp)]
      simp only [List.all_cons, Bool.and_eq_true] at ha
      obtain ⟨x, t, rfl⟩ := isAt_form ha.1
      obtain ⟨y, u, rfl⟩ := isAt_form ha.2.1
      obtain ⟨z, v, rfl⟩ := isAt_form ha.2.2.1
      have hr : r.all isAt = true := ha.2.2.2
      unfold rC2
      simp only [lat_cons, lat_zero, beh_form, List.drop_succ_cons, List.drop_zero, exts_at hr]
      by_cases hx : x = 114
      · subst hx
        simp only [nxR_form _ _ _ _ rfl, nxT_form, has_form, if_true]
        by_cases hy : y = 115
        · subst hy
          simp only [nxR_form _ _ _ _ rfl, nxT_form, has_form, if_true]
          by_cases hz : z = 105
          · subst hz
            simp only [nxR_form _ _ _ _ rfl, nxT_form, has_form, if_true]
            generalize nonF t = nb
            generalize byB u 1 32 = by1
            generalize rndN v = rn
            generalize r.all okX = xb
            cases nb <;> cases by1 <;> cases xb <;> (by_cases h0 : rn = 0 <;> simp [h0] <;> omega)
          · simp [has_form, hz]
        · simp [has_form, hy]
      · simp [has_form, hx]
theorem verd_eq (s : List UInt8) : pVerd s = rVerd s := by
  unfold pVerd rVerd
  by_cases h4 : 4096 < s.length
  · rw [if_pos h4, if_pos h4]
  rw [if_neg h4, if_neg h4]
  cases hb : badR s with
  | true =>
    have ha := badR_true hb
    have hv : (if hasF [101] (attsP s) = true then vE s else vS s) = (Ms0, 4) := by
      unfold vE vS
      rw [hb]
      split <;> rw [if_pos (by simp)]
    rw [hv]
    unfold rV2
    by_cases hx : (extsV ((spl s).drop 1)).2.1 = false
    · rw [if_pos hx]
    rw [if_neg hx]
    have hx2 := exts_isAt (by simpa using hx)
    match hsp : spl s with
    | [] => exact absurd hsp (spl_ne s)
    | a :: r =>
      rw [hsp] at ha hx2
      simp only [lat_zero, List.drop_succ_cons, List.drop_zero] at hx2 ⊢
      have hx3 : r.all isAt = true := by simpa using hx2
      by_cases he : (beh a 101 61).2 = true
      · rw [List.all_cons, (beh_isAt he).1, Bool.true_and, hx3] at ha; cases ha
      · rw [if_neg he]
        by_cases hv2 : (beh a 118 61).2 = true
        · rw [List.all_cons, (beh_isAt hv2).1, Bool.true_and, hx3] at ha; cases ha
        · rw [if_pos (by simp at hv2; simp [hv2])]
  | false =>
    obtain ⟨he, ha⟩ := badR_false hb
    unfold vE vS rV2
    simp only [he, hb, Bool.false_or]
    match hsp : spl s with
    | [] => exact absurd hsp (spl_ne s)
    | a :: r =>
      rw [hsp] at ha
      simp only [List.all_cons, Bool.and_eq_true] at ha
      obtain ⟨x, t, rfl⟩ := isAt_form ha.1
      have hr : r.all isAt = true := ha.2
      simp only [lat_zero, beh_form, List.drop_succ_cons, List.drop_zero, exts_at hr, has_form, nxT_form]
      generalize hxb : r.all okX = xb
      by_cases hx : x = 101
      · subst hx
        simp only [nxR_form _ _ _ _ rfl, hxb]
        generalize valB t = vb
        cases vb <;> cases xb <;> simp
      · have h1 : (x == 101) = false := by simp [hx]
        by_cases hy : x = 118
        · subst hy
          simp only [nxR_form _ _ _ _ rfl, hxb]
          generalize byB t 32 32 = vb
          cases vb <;> cases xb <;> simp
        · simp only [h1, hx, hy, if_false]
          cases xb <;> simp [hy]
/-! ### head -/
theorem rflF_nil (one : List UInt8) : (rflF one = []) ↔ (flF one).2 = false := by
  unfold rflF flF
  split
  · rename_i h
    rcases h with rfl | rfl <;> simp
  · simp
theorem beh_pre (two : List UInt8) (a : UInt8) : beh two a 61 = if Lib.hasPrefix two [a, 61] = true then (Lib.trimPrefix two [a, 61], true) else ([], false) := by
  unfold beh
  rw [hasP2, trimP2]
  by_cases h : two.take 2 = [a, 61] <;> simp [h]
theorem rhdF_ok (one two : List UInt8) : (rhdF one two).2.2 = ((flF one).2 && whoB two) := by
  unfold rhdF whoB
  by_cases h1 : rflF one = []
  · rw [if_pos h1, (rflF_nil one).1 h1]; rfl
  · have hf : (flF one).2 = true := by cases h : (flF one).2 with | true => rfl | false => exact absurd ((rflF_nil one).2 h) h1
    rw [if_neg h1, hf]
    by_cases h2 : two = []
    · rw [if_pos h2]; simp [h2]
    · rw [if_neg h2, beh_pre]
      by_cases h3 : Lib.hasPrefix two [97, 61] = true
      · simp [h2, h3]
      · simp [h2, h3]
theorem rhdF_val (one two : List UInt8) (h : (rhdF one two).2.2 = true) : (rhdF one two).1 = (flF one).1 ∧ (rhdF one two).2.1 = unP two := by
  rw [rhdF_ok, Bool.and_eq_true] at h
  have h1 : rflF one ≠ [] := fun e => by rw [(rflF_nil one).1 e] at h; simp at h
  unfold rhdF unP
  rw [if_neg h1]
  have hr : rflF one = (flF one).1 := by unfold rflF; rw [if_pos h.1]
  by_cases h2 : two = []
  · rw [if_pos h2, if_pos h2]; exact ⟨hr, rfl⟩
  · rw [if_neg h2, if_neg h2, beh_pre]
    have hw := h.2
    unfold whoB at hw
    simp only [h2, decide_false, Bool.false_or, Bool.and_eq_true] at hw
    rw [if_pos hw.1]
    exact ⟨hr, rfl⟩
theorem spl_single : ∀ (l x : List UInt8), spl l = [x] → x = l
  | [], x, h => by simpa [spl] using h.symm
  | c :: r, x, h => by
    simp only [spl] at h
    split at h
    · simp [spl_ne] at h
    · match hr : spl r with
      | [] => exact absurd hr (spl_ne r)
      | y :: ys =>
        rw [hr] at h
        simp only [List.headD_cons, List.tail_cons, List.cons.injEq] at h
        have := spl_single r y (by rw [hr, h.2])
        rw [← h.1, this]
theorem head_eq (s : List UInt8) : (headF s).1 = (rHdF s).1 ∧ ((rHdF s).1 = true → (headF s).2 = (rHdF s).2) := by
  obtain ⟨h1, h2, h3⟩ := cut_spl s
  unfold headF
  match hsp : spl s with
  | [] => exact absurd hsp (spl_ne s)
  | [a] =>
    rw [rHdF_not s (by rw [hsp]; simp)]
    rw [hsp] at h1 h2
    rw [h2]; simp
  | a :: b :: r =>
    rw [hsp] at h1 h2 h3
    obtain ⟨h4, -⟩ := h3 (by simp)
    obtain ⟨k1, k2, k3⟩ := cut_spl (Lib.cut s [44]).2.1
    rw [h4] at k1 k2 k3
    simp only [List.tail_cons, List.headD_cons] at h1 k1 k2 k3
    rw [h1, h2, k1, k2]
    match r, hsp, k3 with
    | [], hsp, _ =>
      rw [rHdF_not s (by rw [hsp]; simp)]
      simp
    | [c], hsp, k3 =>
      obtain ⟨k4, -⟩ := k3 (by simp)
      rw [rHdF_three s a b c hsp]
      have hc := spl_single _ _ k4
      rw [← hc]
      by_cases h0 : c = []
      · rw [if_pos h0]
        simp only [h0, rhdF_ok]
        refine ⟨by simp, fun h => ?_⟩
        rw [← rhdF_ok] at h
        rw [(rhdF_val a b h).1]
      · rw [if_neg h0]; simp [h0]
    | c :: d :: r2, hsp, k3 =>
      obtain ⟨k4, -⟩ := k3 (by simp)
      rw [rHdF_not s (by rw [hsp]; simp)]
      have hne : (Lib.cut (Lib.cut s [44]).2.1 [44]).2.1 ≠ [] := fun e => by rw [e] at k4; simp [spl] at k4
      simp [hne]
/-! ### Final -/
theorem snoc_of {α : Type} : ∀ (l : List α), l ≠ [] → ∃ ys z, l = ys ++ [z]
  | [], h => absurd rfl h
  | [z], _ => ⟨[], z, rfl⟩
  | a :: b :: r, _ => by
    obtain ⟨ys, z, h⟩ := snoc_of (b :: r) (by simp)
    exact ⟨a :: ys, z, by rw [h]; rfl⟩
theorem allB_snoc (ys : List (List UInt8)) (z : List UInt8) : allB (ys ++ [z]) = ys ∧ lastB (ys ++ [z]) = [z] := by
  unfold allB lastB; simp
theorem midL_snoc (a b : List UInt8) (ys : List (List UInt8)) (z : List UInt8) : midL (a :: b :: (ys ++ [z])) = ys ∧ lat (a :: b :: (ys ++ [z])) ((a :: b :: (ys ++ [z])).length - 1) = z := by
  constructor
  · unfold midL
    simp
  · unfold lat
    rw [show (a :: b :: (ys ++ [z])).length - 1 = ys.length + 2 by simp]
    simp [List.getD]
theorem notP_map (xs : List (List UInt8)) (h : xs.all isAt = true) : (xs.map atPr).all (fun p => p.n != [112]) = notP xs := by
  unfold notP
  rw [List.all_map]
  rfl
theorem fin_eq (s : List UInt8) : pFinal s = rFinal s := by
  unfold pFinal rFinal
  by_cases h4 : 4096 < s.length
  · rw [if_pos h4, if_pos h4]
  rw [if_neg h4, if_neg h4]
  cases hb : badR s with
  | true =>
    have ha := badR_true hb
    rw [if_pos (by simp [nBad])]
    by_cases h3 : (spl s).length < 3
    · rw [if_pos h3]
    rw [if_neg h3]
    unfold rN2
    rw [if_pos]
    rw [Bool.eq_false_iff]
    intro hc
    simp only [Bool.and_eq_true] at hc
    obtain ⟨h0, h1, h9, _, _, hx, _⟩ := hc
    have hx2 := exts_isAt hx
    match hsp : spl s, h3 with
    | a :: b :: c :: r, _ =>
      obtain ⟨ys, z, hyz⟩ := snoc_of (c :: r) (by simp)
      rw [hsp, hyz] at ha h0 h1 h9 hx2
      rw [(midL_snoc a b ys z).1] at hx2
      rw [(midL_snoc a b ys z).2] at h9
      simp only [lat_cons, lat_zero] at h0 h1
      have e : (a :: b :: (ys ++ [z])).all isAt = true := by
        rw [List.all_cons, List.all_cons, List.all_append, (beh_isAt h0).1, (beh_isAt h1).1, hx2]
        simp [(beh_isAt h9).1]
      rw [e] at ha; cases ha
    | [], h => simp at h
    | [_], h => simp at h
    | [_, _], h => simp at h
  | false =>
    obtain ⟨he, ha⟩ := badR_false hb
    unfold nBad nDen n1C
    simp only [he, Bool.false_or]
    match hsp : spl s with
    | [] => exact absurd hsp (spl_ne s)
    | [a] =>
      rw [hsp] at ha
      rw [if_pos, if_pos (by simp)]
      simp only [List.all_cons, Bool.and_eq_true] at ha
      obtain ⟨x, t, rfl⟩ := isAt_form ha.1
      by_cases hx : x = 99
      · subst hx; rw [nxR_form _ _ _ _ rfl]; simp [hasF]
      · simp [has_form, hx]
    | [a, b] =>
      rw [hsp] at ha
      rw [if_pos, if_pos (by simp)]
      simp only [List.all_cons, Bool.and_eq_true] at ha
      obtain ⟨x, t, rfl⟩ := isAt_form ha.1
      obtain ⟨y, u, rfl⟩ := isAt_form ha.2.1
      by_cases hx : x = 99
      · subst hx; rw [nxR_form _ _ _ _ rfl]
        by_cases hy : y = 114
        · subst hy; rw [nxR_form _ _ _ _ rfl]; simp [hasF, lastB]
        · simp [has_form, hy]
      · simp [has_form, hx]
    | a :: b :: c :: r =>
      rw [hsp] at ha
      rw [if_neg (show ¬ (a :: b :: c :: r).length < 3 by simp)]
      obtain ⟨ys, z, hyz⟩ := snoc_of (c :: r) (by simp)
      rw [hyz] at ha ⊢
      simp only [List.all_cons, List.all_append, Bool.and_eq_true] at ha
      obtain ⟨x, t, rfl⟩ := isAt_form ha.1
      obtain ⟨y, u, rfl⟩ := isAt_form ha.2.1
      have hr : ys.all isAt = true := ha.2.2.1
      obtain ⟨x9, t9, rfl⟩ := isAt_form ha.2.2.2.1
      unfold rN2
      rw [(midL_snoc _ _ ys _).1, (midL_snoc _ _ ys _).2]
      simp only [lat_cons, lat_zero, beh_form, exts_at hr]
      obtain ⟨hd1, hd2⟩ := head_eq (decF t).1
      by_cases hx : x = 99
      · subst hx
        simp only [nxR_form _ _ _ _ rfl, nxT_form, has_form, if_true]
        by_cases hy : y = 114
        · subst hy
          simp only [nxR_form _ _ _ _ rfl, nxT_form, has_form, if_true, (allB_snoc ys _).1, (allB_snoc ys _).2]
          by_cases hz : x9 = 112
          · subst hz
            rw [hd1]
            have hnp := notP_map ys hr
            simp only [nxT_form, has_form, if_true]
            cases hrt : (rHdF (decF t).1).1 with
            | false =>
              rw [if_pos (by simp)]
              rw [if_pos (by simp)]
            | true =>
              rw [hd2 hrt]
              generalize hxb : ys.all okX = xb
              cases xb with
              | false =>
                rw [if_pos (by simp), if_pos (by simp)]
              | true =>
                simp only [if_true]
                rw [hnp]
                generalize nonF u = nb
                generalize byB t 0 4096 = by0
                generalize byB t9 32 32 = by9
                generalize notP ys = np
                cases nb <;> cases by0 <;> cases by9 <;> cases np <;> simp
          · simp [has_form, hz]
        · simp [has_form, hy]
      · simp [has_form, hx]
/-! ### First -/
def tailB (L : List (List UInt8)) : Bool := ((((!hasF [110] L) || !escB (nxT [110] L)) || !hasF [114] (nxR [110] L)) || !nonF (nxT [114] (nxR [110] L))) || !(nxR [114] (nxR [110] L)).all okX
theorem rF3_at (fl au : List UInt8) (no : Bool) (L : List (List UInt8)) (h : L.all isAt = true) :
    rF3 fl au no L = if tailB L = true then (Ms0, 4) else if (no || denB (nxR [114] (nxR [110] L))) = true then (Ms0, 12)
      else (⟨1, fl, au, (unV (nxT [110] L)).1, nxT [114] (nxR [110] L), (nxR [114] (nxR [110] L)).map atPr, [], 0, [], [], []⟩, 0) := by
  unfold rF3 tailB
  match L, h with
  | [], _ => rw [if_pos (by simp), if_pos (by simp [hasF])]
  | [a], h =>
    simp only [List.all_cons, Bool.and_eq_true] at h
    obtain ⟨x, t, rfl⟩ := isAt_form h.1
    rw [if_pos (by simp), if_pos]
    by_cases hx : x = 110
    · subst hx; rw [nxR_form _ _ _ _ rfl]; simp [hasF]
    · simp [has_form, hx]
  | a :: b :: r, h =>
    simp only [List.all_cons, Bool.and_eq_true] at h
    obtain ⟨x, t, rfl⟩ := isAt_form h.1
    obtain ⟨y, u, rfl⟩ := isAt_form h.2.1
    have hr : r.all isAt = true := h.2.2
    rw [if_neg (by simp)]
    simp only [lat_cons, lat_zero, beh_form, List.drop_succ_cons, List.drop_zero, exts_at hr]
    by_cases hx : x = 110
    · subst hx
      simp only [nxR_form _ _ _ _ rfl, nxT_form, has_form, if_true]
      by_cases hy : y = 114
      · subst hy
        simp only [nxR_form _ _ _ _ rfl, nxT_form, has_form, if_true]
        generalize nonF u = nb
        generalize escB t = eb
        generalize hxb : r.all okX = xb
        cases nb <;> cases eb <;> cases xb <;> simp
      · simp [has_form, hy]
    · simp [has_form, hx]
theorem rF3_not (fl au : List UInt8) (no : Bool) (L : List (List UInt8)) (h : L.all isAt = false) : rF3 fl au no L = (Ms0, 4) := by
  unfold rF3
  by_cases h2 : L.length < 2
  · rw [if_pos h2]
  rw [if_neg h2, if_pos]
  rw [Bool.eq_false_iff]
  intro hc
  simp only [Bool.and_eq_true] at hc
  obtain ⟨h0, h1, _, hx, _⟩ := hc
  have hx2 := exts_isAt hx
  match L, h2 with
  | a :: b :: r, _ =>
    simp only [lat_cons, lat_zero] at h0 h1
    rw [List.all_cons, List.all_cons, (beh_isAt h0).1, (beh_isAt h1).1] at h
    simp only [List.drop_succ_cons, List.drop_zero] at hx2
    rw [hx2] at h; cases h
  | [], h => simp at h
  | [_], h => simp at h
theorem first_eq (s : List UInt8) : pFirst s = rFirst s := by
  unfold pFirst rFirst
  by_cases h4 : 4096 < s.length
  · rw [if_pos h4, if_pos h4]
  rw [if_neg h4, if_neg h4]
  obtain ⟨h1, h2, h3⟩ := cut_spl s
  obtain ⟨k1, k2, k3⟩ := cut_spl (Lib.cut s [44]).2.1
  unfold F1.bad F1.den F1.b3 F1.b2 F1.b1 F1.xs F1.no F1.us F1.p2 F1.p1 F1.p0 f1C
  simp only
  match hsp : spl s with
  | [] => exact absurd hsp (spl_ne s)
  | [a] =>
    rw [hsp] at h2
    rw [if_pos (by rw [h2]; simp), if_pos (by simp)]
  | a :: b :: R =>
    rw [hsp] at h1 h2 h3
    obtain ⟨h5, -⟩ := h3 (by simp)
    rw [h5] at k1 k2 k3
    simp only [List.tail_cons, List.headD_cons] at h1 k1 k2 k3
    match R, k2, k3 with
    | [], k2, _ =>
      rw [if_pos (by rw [k2]; simp), if_pos (by simp)]
    | c :: R', k2, k3 =>
      obtain ⟨k4, -⟩ := k3 (by simp)
      rw [h1, k1]
      generalize (Lib.cut (Lib.cut s [44]).2.1 [44]).2.1 = bare at *
      have hok : ((Lib.cut s [44]).2.2 && (Lib.cut (Lib.cut s [44]).2.1 [44]).2.2) = true := by rw [h2, k2]; simp
      rw [hok]
      have hrh := rhdF_ok a b
      have hrv := rhdF_val a b
      cases hbr : badR bare with
      | true =>
        have ha := badR_true hbr
        rw [k4] at ha
        rw [if_pos (by simp)]
        by_cases hl : (a :: b :: c :: R').length < 4
        · rw [if_pos hl]
        rw [if_neg hl]
        unfold rF2
        simp only [lat_cons, lat_zero, List.drop_succ_cons, List.drop_zero]
        by_cases hh : (rhdF a b).2.2 = false
        · rw [if_pos hh]
        rw [if_neg hh]
        by_cases hm : (beh c 109 61).2 = true
        · rw [if_pos hm]
          have hR : R'.all isAt = false := by rw [List.all_cons, (beh_isAt hm).1, Bool.true_and] at ha; exact ha
          by_cases hv : valB (beh c 109 61).1 = false
          · rw [if_pos hv]
          · rw [if_neg hv, rF3_not _ _ _ _ hR]
        · rw [if_neg hm, rF3_not _ _ _ _ ha]
      | false =>
        obtain ⟨he, ha⟩ := badR_false hbr
        rw [k4] at he ha
        rw [he]
        have hp1 : (nxR [109] (c :: R')).all isAt = true := by
          rw [List.all_eq_true] at ha ⊢
          exact fun p hp => ha p (nxR_mem _ _ p hp)
        have hT := fun fl au no => rF3_at fl au no (nxR [109] (c :: R')) hp1
        have hshort : (a :: b :: c :: R').length < 4 → tailB (nxR [109] (c :: R')) = true := by
          intro hl
          have hR : R' = [] := by simp at hl; exact List.eq_nil_of_length_eq_zero (by omega)
          subst hR
          simp only [List.all_cons, Bool.and_eq_true] at ha
          obtain ⟨x, t, rfl⟩ := isAt_form ha.1
          unfold tailB
          by_cases hx : x = 109
          · subst hx; rw [nxR_form _ _ _ _ rfl]; simp [hasF]
          · have : nxR [109] [x :: 61 :: t] = [x :: 61 :: t] := by unfold nxR; rw [has_form]; simp [hx]
            rw [this]
            by_cases hn : x = 110
            · subst hn; rw [nxR_form _ _ _ _ rfl]; simp [hasF]
            · simp [has_form, hn]
        have hprog : ∀ (X : Ms), (if (((((((((false || !true) || !(flF a).2) || !whoB b) || (hasF [109] (c :: R') && !valB (nxT [109] (c :: R')))) || !hasF [110] (nxR [109] (c :: R'))) || !escB (nxT [110] (nxR [109] (c :: R')))) || !hasF [114] (nxR [110] (nxR [109] (c :: R')))) || !nonF (nxT [114] (nxR [110] (nxR [109] (c :: R'))))) || !(nxR [114] (nxR [110] (nxR [109] (c :: R')))).all okX) = true then ((Ms0, 4) : Ms × Int) else if (((flF a).1 == [112] || hasF [109] (c :: R')) || denB (nxR [114] (nxR [110] (nxR [109] (c :: R'))))) = true then (Ms0, 12) else (X, 0))
            = if ((flF a).2 && whoB b) = false then (Ms0, 4) else if (hasF [109] (c :: R') && !valB (nxT [109] (c :: R'))) = true then (Ms0, 4) else if tailB (nxR [109] (c :: R')) = true then (Ms0, 4) else if (((flF a).1 == [112] || hasF [109] (c :: R')) || denB (nxR [114] (nxR [110] (nxR [109] (c :: R'))))) = true then (Ms0, 12) else (X, 0) := by
          intro X
          unfold tailB
          generalize (flF a).2 = f2
          generalize whoB b = wb
          generalize hasF [109] (c :: R') = hm
          generalize valB (nxT [109] (c :: R')) = vm
          generalize nxR [109] (c :: R') = p1
          generalize hasF [110] p1 = hn
          generalize escB (nxT [110] p1) = eb
          generalize hasF [114] (nxR [110] p1) = hr
          generalize nonF (nxT [114] (nxR [110] p1)) = nb
          generalize (nxR [114] (nxR [110] p1)).all okX = xb
          cases f2 <;> cases wb <;> cases hm <;> cases vm <;> simp
        rw [hprog]
        by_cases hl : (a :: b :: c :: R').length < 4
        · rw [if_pos hl, if_pos (hshort hl)]
          split
          · rfl
          · split <;> rfl
        rw [if_neg hl]
        unfold rF2
        simp only [lat_cons, lat_zero, List.drop_succ_cons, List.drop_zero]
        rw [hrh]
        by_cases hh : ((flF a).2 && whoB b) = false
        · rw [if_pos hh, if_pos hh]
        rw [if_neg hh, if_neg hh]
        have hh2 : (rhdF a b).2.2 = true := by rw [hrh]; simpa using hh
        obtain ⟨hv1, hv2⟩ := hrv hh2
        rw [hv1, hv2]
        simp only [List.all_cons, Bool.and_eq_true] at ha
        obtain ⟨x, t, rfl⟩ := isAt_form ha.1
        rw [beh_form]
        by_cases hx : x = 109
        · subst hx
          rw [nxR_form _ _ _ _ rfl] at hT ⊢
          simp only [has_form, nxT_form, if_true, hT]
          cases valB t <;> simp
        · have hn : nxR [109] ((x :: 61 :: t) :: R') = (x :: 61 :: t) :: R' := by unfold nxR; rw [has_form]; simp [hx]
          rw [hn] at hT ⊢
          simp only [has_form, hx, if_false, hT]
          have hx2 : (x == 109) = false := by simp [hx]
          simp [hx2]
theorem read_eq (k : Int) (s : List UInt8) : rRead k s = if k = 1 then pFirst s else if k = 2 then pChal s else if k = 3 then pFinal s else pVerd s := by
  unfold rRead
  rw [first_eq, chal_eq, fin_eq, verd_eq]
end Go.Proofs.YtjkbigecejogdaaDoor
