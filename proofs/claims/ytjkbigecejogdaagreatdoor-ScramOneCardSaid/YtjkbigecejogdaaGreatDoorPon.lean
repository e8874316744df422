/-
  What is read of a text is told by just that text (plain).
-/
import Derived.Test.YtjkbigecejogdaaGreatDoorRows
import Derived.Test.YtjkbigecejogdaaGreatDoorPeq
import Derived.Test.YtjkbigecejogdaaGreatDoorFsg
namespace Go.Proofs.YtjkbigecejogdaaGreatDoor
set_option linter.unusedVariables false
set_option linter.unusedSimpArgs false
/-- Pieces with commas between. -/
def joinC : List (List UInt8) → List UInt8
  | [] => []
  | p :: r => p ++ r.flatMap fun q => 44 :: q
theorem join_spl : ∀ l : List UInt8, joinC (spl l) = l
  | [] => rfl
  | c :: r => by
    have ih := join_spl r
    simp only [spl]
    by_cases hc : c = 44
    · rw [if_pos hc]
      subst hc
      match hr : spl r with
      | [] => exact absurd hr (spl_ne r)
      | p :: q =>
        rw [hr] at ih
        simp only [joinC] at ih ⊢
        simp only [List.nil_append, List.flatMap_cons, List.cons_append]
        rw [ih]
    · rw [if_neg hc]
      match hr : spl r with
      | [] => exact absurd hr (spl_ne r)
      | p :: q =>
        rw [hr] at ih
        simp only [joinC, List.headD_cons, List.tail_cons] at ih ⊢
        rw [List.cons_append, ih]
theorem at_whole {p : List UInt8} (h : isAt p = true) : p.take 1 ++ 61 :: p.drop 2 = p := by
  obtain ⟨x, t, rfl⟩ := isAt_form h
  rfl
theorem extL_at : ∀ xs : List (List UInt8), xs.all isAt = true → extL (xs.map atPr) = xs.flatMap fun q => 44 :: q
  | [], _ => rfl
  | p :: r, h => by
    simp only [List.all_cons, Bool.and_eq_true] at h
    have ih := extL_at r h.2
    unfold extL at ih ⊢
    rw [List.map_cons, List.flatMap_cons, List.flatMap_cons, ih]
    show 44 :: (p.take 1 ++ 61 :: p.drop 2) ++ _ = _
    rw [at_whole h.1]
theorem allOkE_at {xs : List (List UInt8)} (h : xs.all okE = true) : xs.all isAt = true := by
  rw [List.all_eq_true] at h ⊢
  exact fun p hp => okE_isAt (h p hp)
/-- Extensions that were read, none of them m: they may be told. -/
theorem right_of (xs : List (List UInt8)) (no : List UInt8) (h : xs.all okE = true) (hm : xs.any mB = false) (hn : ∀ p ∈ xs, p.take 1 ≠ no) : (xs.map atPr).all (rightE no) = true := by
  rw [List.all_map, List.all_eq_true]
  intro p hp
  have h1 := List.all_eq_true.1 h p hp
  have h2 : mB p = false := by
    rw [Bool.eq_false_iff]; intro e
    rw [Bool.eq_false_iff] at hm
    exact hm (List.any_eq_true.2 ⟨p, hp, e⟩)
  have h3 := hn p hp
  obtain ⟨x, t, rfl⟩ := isAt_form (okE_isAt h1)
  unfold okE at h1
  simp only [Bool.and_eq_true] at h1
  have hx : x ≠ 109 := fun e => by rw [e] at h2; simp [mB, bt] at h2
  simp only [Function.comp, atPr, rightE, List.take_succ_cons, List.take_zero, List.drop_succ_cons, List.drop_zero]
  have hb : bt [x] 0 = bt (x :: 61 :: t) 0 := rfl
  have h3' : ([x] == no) = false := by simpa using h3
  rw [hb, h1.2.1, h3']
  have hv : valB t = true := h1.2.2
  simp [hv, hx]
/-! ### Escaped texts -/
theorem unN_esc : ∀ (f : Nat) (l : List UInt8) (t : List UInt8), l.length ≤ f → unN f l = some (t, false) → escF t = l
  | 0, l, t, hl, h => by
    have : l = [] := List.eq_nil_of_length_eq_zero (by omega)
    subst this
    simp only [unN, Option.some.injEq, Prod.mk.injEq, and_true] at h
    rw [← h]; rfl
  | f + 1, [], t, _, h => by
    simp only [unN, Option.some.injEq, Prod.mk.injEq, and_true] at h
    rw [← h]; rfl
  | f + 1, c :: r, t, hl, h => by
    simp only [List.length_cons] at hl
    simp only [unN] at h
    by_cases h44 : c = 44
    · rw [if_pos h44] at h
      cases hr : unN f r with
      | none => rw [hr] at h; simp at h
      | some p => rw [hr] at h; simp at h
    rw [if_neg h44] at h
    by_cases h61 : c = 61
    · subst h61
      rw [if_neg (by simp)] at h
      have key : ∀ (a b : UInt8), pre3 (61 :: r) 61 a b = true → 61 :: r = 61 :: a :: b :: r.drop 2 := fun a b hp => by
        simp only [pre3, Bool.and_eq_true, decide_eq_true_eq, beq_iff_eq] at hp
        match r, hp with
        | x :: y :: z, hp => simp at hp; rw [hp.1, hp.2]; rfl
      by_cases q1 : pre3 (61 :: r) 61 50 67 = true
      · rw [if_pos q1] at h
        cases hr : unN f (r.drop 2) with
        | none => rw [hr] at h; simp at h
        | some p =>
          rw [hr] at h
          simp only [Option.map_some, Option.some.injEq, Prod.mk.injEq] at h
          have ih := unN_esc f (r.drop 2) p.1 (by rw [List.length_drop]; omega) (by rw [hr, ← h.2])
          rw [key 50 67 q1, ← h.1]
          show esc1 44 ++ escF p.1 = _
          rw [ih]; rfl
      · rw [if_neg q1] at h
        by_cases q2 : pre3 (61 :: r) 61 51 68 = true
        · rw [if_pos q2] at h
          cases hr : unN f (r.drop 2) with
          | none => rw [hr] at h; simp at h
          | some p =>
            rw [hr] at h
            simp only [Option.map_some, Option.some.injEq, Prod.mk.injEq] at h
            have ih := unN_esc f (r.drop 2) p.1 (by rw [List.length_drop]; omega) (by rw [hr, ← h.2])
            rw [key 51 68 q2, ← h.1]
            show esc1 61 ++ escF p.1 = _
            rw [ih]; rfl
        · rw [if_neg q2] at h; cases h
    · rw [if_pos h61] at h
      cases hr : unN f r with
      | none => rw [hr] at h; simp at h
      | some p =>
        rw [hr] at h
        simp only [Option.map_some, Option.some.injEq, Prod.mk.injEq] at h
        have ih := unN_esc f r p.1 (by omega) (by rw [hr, ← h.2])
        rw [← h.1]
        show esc1 c ++ escF p.1 = _
        rw [ih]
        simp [esc1, h44, h61]
theorem esc_unV {l : List UInt8} (h : escB l = true) : escF (unV l).1 = l ∧ (unV l).1 ≠ [] := by
  unfold escB at h
  simp only [Bool.and_eq_true, decide_eq_true_eq] at h
  have hne : l ≠ [] := fun e => by subst e; simp [valB] at h
  have h1 : escF (unV l).1 = l := by
    have h2 := h.2
    unfold unV at h2 ⊢
    cases hu : unG l with
    | none => rw [hu] at h2; simp at h2
    | some p =>
      obtain ⟨t, b⟩ := p
      rw [hu] at h2
      cases b with
      | true => simp at h2
      | false => exact unN_esc l.length l t (Nat.le_refl _) hu
  exact ⟨h1, fun e => hne (by rw [← h1, e]; rfl)⟩
/-! ### First -/
theorem extsV_ok {l : List (List UInt8)} (h : (extsV l).2.1 = true) : extsV l = (l.map atPr, true, l.any mB) ∧ l.all okE = true := by
  unfold extsV at h ⊢
  split at h
  · rename_i h2; rw [if_pos h2]; exact ⟨rfl, h2⟩
  · cases h
theorem beh_true {p : List UInt8} {c : UInt8} (h : (beh p c 61).2 = true) : p = c :: 61 :: (beh p c 61).1 := by
  unfold beh at h ⊢
  split at h
  · rename_i h2
    rw [if_pos h2]
    match p, h2 with
    | x :: y :: t, h2 => simp at h2; rw [h2.1, h2.2]; rfl
  · cases h
theorem rF3_ok {fl au : List UInt8} {no : Bool} {l : List (List UInt8)} {m : Ms} (h : rF3 fl au no l = (m, 0)) :
    no = false ∧ ∃ t u xs, l = (110 :: 61 :: t) :: (114 :: 61 :: u) :: xs ∧ escB t = true ∧ nonF u = true ∧ xs.all okE = true ∧ xs.any mB = false ∧ m = ⟨1, fl, au, (unV t).1, u, xs.map atPr, [], 0, [], [], []⟩ := by
  unfold rF3 at h
  by_cases h2 : l.length < 2
  · rw [if_pos h2] at h; simp at h
  rw [if_neg h2] at h
  split at h
  · simp at h
  rename_i hc
  split at h
  · simp at h
  rename_i hd
  simp only [Bool.not_eq_false, Bool.and_eq_true] at hc
  simp only [Bool.or_eq_true, not_or, Bool.not_eq_true] at hd
  obtain ⟨h0, h1, hes, hx, hn⟩ := hc
  obtain ⟨hx1, hx2⟩ := extsV_ok hx
  match l, h2 with
  | a :: b :: xs, _ =>
    simp only [lat_cons, lat_zero, List.drop_succ_cons, List.drop_zero] at h0 h1 hes hx1 hx2 hn hd h
    have ha := beh_true h0
    have hb := beh_true h1
    simp only [Prod.mk.injEq, and_true] at h
    refine ⟨hd.1, (beh a 110 61).1, (beh b 114 61).1, xs, by rw [← ha, ← hb], hes, hn, hx2, ?_, ?_⟩
    · have := hd.2; rw [hx1] at this; exact this
    · rw [← h, hx1]
  | [], h => simp at h
  | [_], h => simp at h
theorem flF_ny (one : List UInt8) (h : (flF one).2 = true) (hp : ((flF one).1 == [112]) = false) : ((one == [110]) || (one == [121])) = true ∧ (flF one).1 = one := by
  unfold flF at h hp ⊢
  split at h
  · rename_i h2
    rw [if_pos h2]
    rcases h2 with rfl | rfl <;> simp
  · rename_i h2
    rw [if_neg h2] at hp
    simp at hp
theorem one_first {s : List UInt8} {m : Ms} (h : rFirst s = (m, 0)) :
    m.kind = 1 ∧ fhdL m.flag m.authz ++ fbaL m.user m.nonce m.ext = s ∧ frtB m.flag m.authz m.user m.nonce m.ext = true ∧ s.length ≤ 4096 := by
  unfold rFirst at h
  by_cases h4 : 4096 < s.length
  · rw [if_pos h4] at h; simp at h
  rw [if_neg h4] at h
  by_cases hl : (spl s).length < 4
  · rw [if_pos hl] at h; simp at h
  rw [if_neg hl] at h
  have hj := join_spl s
  match hsp : spl s, hl with
  | a :: b :: c :: r, _ =>
    rw [hsp] at h hj
    unfold rF2 at h
    simp only [lat_cons, lat_zero, List.drop_succ_cons, List.drop_zero] at h
    by_cases hh : (rhdF a b).2.2 = false
    · rw [if_pos hh] at h; simp at h
    rw [if_neg hh] at h
    have hh2 : (rhdF a b).2.2 = true := by simpa using hh
    obtain ⟨hv1, hv2⟩ := rhdF_val a b hh2
    rw [rhdF_ok, Bool.and_eq_true] at hh2
    by_cases hm : (beh c 109 61).2 = true
    · rw [if_pos hm] at h
      split at h
      · simp at h
      · have := (rF3_ok h).1; cases this
    · rw [if_neg hm] at h
      obtain ⟨hno, t, u, xs, hlx, hes, hn, hxe, hxm, hme⟩ := rF3_ok h
      rw [hv1] at hno
      obtain ⟨hf1, hf2⟩ := flF_ny a hh2.1 hno
      obtain ⟨hu1, hu2⟩ := esc_unV hes
      rw [hme]
      simp only
      rw [hv1, hv2, hf2]
      have hxa := allOkE_at hxe
      have hval : valB t = true := by unfold escB at hes; simp only [Bool.and_eq_true] at hes; exact hes.1
      have hb : fhdL a (unP b) = a ++ 44 :: (b ++ [44]) ∧ (decide (unP b = []) || valB (escF (unP b))) = true := by
        unfold fhdL
        by_cases hb0 : b = []
        · have : unP b = [] := by unfold unP; rw [if_pos hb0]
          rw [this, hb0]; simp
        · have hw := hh2.2
          unfold whoB at hw
          simp only [hb0, decide_false, Bool.false_or, Bool.and_eq_true] at hw
          have hu : unP b = (unV (Lib.trimPrefix b [97, 61])).1 := by unfold unP; rw [if_neg hb0]
          obtain ⟨e1, e2⟩ := esc_unV hw.2
          rw [hu, if_neg e2, e1]
          have hp := hw.1
          rw [hasP2, decide_eq_true_eq] at hp
          rw [trimP2, if_pos hp]
          have hbb : b = 97 :: 61 :: b.drop 2 := by
            match b, hp with
            | x :: y :: z, hp => simp at hp; rw [hp.1, hp.2]; rfl
          have hvb : valB (b.drop 2) = true := by
            have := hw.2
            rw [trimP2, if_pos hp] at this
            unfold escB at this; simp only [Bool.and_eq_true] at this; exact this.1
          refine ⟨?_, by rw [hvb]; simp⟩
          rw [show a ++ 44 :: (b ++ [44]) = a ++ 44 :: ((97 :: 61 :: b.drop 2) ++ [44]) by rw [← hbb]]
      refine ⟨trivial, ?_, ?_, by omega⟩
      · rw [hb.1]
        unfold fbaL
        rw [hu1, extL_at xs hxa]
        rw [hlx] at hj
        simp only [joinC, List.flatMap_cons] at hj
        rw [← hj]
        simp
      · unfold frtB
        rw [hf1, hu1, hval, hb.2, hn, right_of xs [] hxe hxm (fun p hp => by
          obtain ⟨x, t, rfl⟩ := isAt_form (List.all_eq_true.1 hxa p hp)
          simp)]
        rfl
  | [], h => simp at h
  | [_], h => simp at h
  | [_, _], h => simp at h
end Go.Proofs.YtjkbigecejogdaaGreatDoor
