/-
  The texts that every chapter uses, in one: Pon, Pot, Ltx, Onp, Txp, Tpc.
-/
import Derived.Test.YtjkbigecejogdaaDoorRows
import Derived.Test.YtjkbigecejogdaaDoorPeq
import Derived.Test.YtjkbigecejogdaaDoorSce
import Derived.BigGuardPart
import Derived.Test.YtjkbigecejogdaaDoorRrd
import Derived.Test.YtjkbigecejogdaaDoorRnd
import Derived.Test.YtjkbigecejogdaaDoorRby
namespace Go.Proofs.YtjkbigecejogdaaDoor
set_option linter.unusedVariables false
set_option linter.unusedSimpArgs false
/-- Pieces with commas between. -/
def joinC : List (List UInt8) → List UInt8
  | [] => []
  | p :: r => p ++ r.flatMap fun q => 44 :: q
theorem join_spl : ∀ l : List UInt8, joinC (spl l) = l
  | [] => rfl
  | c :: r => by
    have ih := join_spl r
    simp only [spl]
    by_cases hc : c = 44
    · rw [if_pos hc]
      subst hc
      match hr : spl r with
      | [] => exact absurd hr (spl_ne r)
      | p :: q =>
        rw [hr] at ih
        simp only [joinC] at ih ⊢
        simp only [List.nil_append, List.flatMap_cons, List.cons_append]
        rw [ih]
    · rw [if_neg hc]
      match hr : spl r with
      | [] => exact absurd hr (spl_ne r)
      | p :: q =>
        rw [hr] at ih
        simp only [joinC, List.headD_cons, List.tail_cons] at ih ⊢
        rw [List.cons_append, ih]
theorem at_whole {p : List UInt8} (h : isAt p = true) : p.take 1 ++ 61 :: p.drop 2 = p := by
  obtain ⟨x, t, rfl⟩ := isAt_form h
  rfl
theorem extL_at : ∀ xs : List (List UInt8), xs.all isAt = true → extL (xs.map atPr) = xs.flatMap fun q => 44 :: q
  | [], _ => rfl
  | p :: r, h => by
    simp only [List.all_cons, Bool.and_eq_true] at h
    have ih := extL_at r h.2
    unfold extL at ih ⊢
    rw [List.map_cons, List.flatMap_cons, List.flatMap_cons, ih]
    show 44 :: (p.take 1 ++ 61 :: p.drop 2) ++ _ = _
    rw [at_whole h.1]
theorem allOkE_at {xs : List (List UInt8)} (h : xs.all okE = true) : xs.all isAt = true := by
  rw [List.all_eq_true] at h ⊢
  exact fun p hp => okE_isAt (h p hp)
/-- Extensions that were read, none of them m: they may be told. -/
theorem right_of (xs : List (List UInt8)) (no : List UInt8) (h : xs.all okE = true) (hm : xs.any mB = false) (hn : ∀ p ∈ xs, p.take 1 ≠ no) : (xs.map atPr).all (rightE no) = true := by
  rw [List.all_map, List.all_eq_true]
  intro p hp
  have h1 := List.all_eq_true.1 h p hp
  have h2 : mB p = false := by
    rw [Bool.eq_false_iff]; intro e
    rw [Bool.eq_false_iff] at hm
    exact hm (List.any_eq_true.2 ⟨p, hp, e⟩)
  have h3 := hn p hp
  obtain ⟨x, t, rfl⟩ := isAt_form (okE_isAt h1)
  unfold okE at h1
  simp only [Bool.and_eq_true] at h1
  have hx : x ≠ 109 := fun e => by rw [e] at h2; simp [mB, bt] at h2
  simp only [Function.comp, atPr, rightE, List.take_succ_cons, List.take_zero, List.drop_succ_cons, List.drop_zero]
  have hb : bt [x] 0 = bt (x :: 61 :: t) 0 := rfl
  have h3' : ([x] == no) = false := by simpa using h3
  rw [hb, h1.2.1, h3']
  have hv : valB t = true := h1.2.2
  simp [hv, hx]
/-! ### Escaped texts -/
theorem unN_esc : ∀ (f : Nat) (l : List UInt8) (t : List UInt8), l.length ≤ f → unN f l = some (t, false) → escF t = l
  | 0, l, t, hl, h => by
    have : l = [] := List.eq_nil_of_length_eq_zero (by omega)
    subst this
    simp only [unN, Option.some.injEq, Prod.mk.injEq, and_true] at h
    rw [← h]; rfl
  | f + 1, [], t, _, h => by
    simp only [unN, Option.some.injEq, Prod.mk.injEq, and_true] at h
    rw [← h]; rfl
  | f + 1, c :: r, t, hl, h => by
    simp only [List.length_cons] at hl
    simp only [unN] at h
    by_cases h44 : c = 44
    · rw [if_pos h44] at h
      cases hr : unN f r with
      | none => rw [hr] at h; simp at h
      | some p => rw [hr] at h; simp at h
    rw [if_neg h44] at h
    by_cases h61 : c = 61
    · subst h61
      rw [if_neg (by simp)] at h
      have key : ∀ (a b : UInt8), pre3 (61 :: r) 61 a b = true → 61 :: r = 61 :: a :: b :: r.drop 2 := fun a b hp => by
        simp only [pre3, Bool.and_eq_true, decide_eq_true_eq, beq_iff_eq] at hp
        match r, hp with
        | x :: y :: z, hp => simp at hp; rw [hp.1, hp.2]; rfl
      by_cases q1 : pre3 (61 :: r) 61 50 67 = true
      · rw [if_pos q1] at h
        cases hr : unN f (r.drop 2) with
        | none => rw [hr] at h; simp at h
        | some p =>
          rw [hr] at h
          simp only [Option.map_some, Option.some.injEq, Prod.mk.injEq] at h
          have ih := unN_esc f (r.drop 2) p.1 (by rw [List.length_drop]; omega) (by rw [hr, ← h.2])
          rw [key 50 67 q1, ← h.1]
          show esc1 44 ++ escF p.1 = _
          rw [ih]; rfl
      · rw [if_neg q1] at h
        by_cases q2 : pre3 (61 :: r) 61 51 68 = true
        · rw [if_pos q2] at h
          cases hr : unN f (r.drop 2) with
          | none => rw [hr] at h; simp at h
          | some p =>
            rw [hr] at h
            simp only [Option.map_some, Option.some.injEq, Prod.mk.injEq] at h
            have ih := unN_esc f (r.drop 2) p.1 (by rw [List.length_drop]; omega) (by rw [hr, ← h.2])
            rw [key 51 68 q2, ← h.1]
            show esc1 61 ++ escF p.1 = _
            rw [ih]; rfl
        · rw [if_neg q2] at h; cases h
    · rw [if_pos h61] at h
      cases hr : unN f r with
      | none => rw [hr] at h; simp at h
      | some p =>
        rw [hr] at h
        simp only [Option.map_some, Option.some.injEq, Prod.mk.injEq] at h
        have ih := unN_esc f r p.1 (by omega) (by rw [hr, ← h.2])
        rw [← h.1]
        show esc1 c ++ escF p.1 = _
        rw [ih]
        simp [esc1, h44, h61]
theorem esc_unV {l : List UInt8} (h : escB l = true) : escF (unV l).1 = l ∧ (unV l).1 ≠ [] := by
  unfold escB at h
  simp only [Bool.and_eq_true, decide_eq_true_eq] at h
  have hne : l ≠ [] := fun e => by subst e; simp [valB] at h
  have h1 : escF (unV l).1 = l := by
    have h2 := h.2
    unfold unV at h2 ⊢
    cases hu : unG l with
    | none => rw [hu] at h2; simp at h2
    | some p =>
      obtain ⟨t, b⟩ := p
      rw [hu] at h2
      cases b with
      | true => simp at h2
      | false => exact unN_esc l.length l t (Nat.le_refl _) hu
  exact ⟨h1, fun e => hne (by rw [← h1, e]; rfl)⟩
/-! ### First -/
theorem extsV_ok {l : List (List UInt8)} (h : (extsV l).2.1 = true) : extsV l = (l.map atPr, true, l.any mB) ∧ l.all okE = true := by
  unfold extsV at h ⊢
  split at h
  · rename_i h2; rw [if_pos h2]; exact ⟨rfl, h2⟩
  · cases h
theorem beh_true {p : List UInt8} {c : UInt8} (h : (beh p c 61).2 = true) : p = c :: 61 :: (beh p c 61).1 := by
  unfold beh at h ⊢
  split at h
  · rename_i h2
    rw [if_pos h2]
    match p, h2 with
    | x :: y :: t, h2 => simp at h2; rw [h2.1, h2.2]; rfl
  · cases h
theorem rF3_ok {fl au : List UInt8} {no : Bool} {l : List (List UInt8)} {m : Ms} (h : rF3 fl au no l = (m, 0)) :
    no = false ∧ ∃ t u xs, l = (110 :: 61 :: t) :: (114 :: 61 :: u) :: xs ∧ escB t = true ∧ nonF u = true ∧ xs.all okE = true ∧ xs.any mB = false ∧ m = ⟨1, fl, au, (unV t).1, u, xs.map atPr, [], 0, [], [], []⟩ := by
  unfold rF3 at h
  by_cases h2 : l.length < 2
  · rw [if_pos h2] at h; simp at h
  rw [if_neg h2] at h
  split at h
  · simp at h
  rename_i hc
  split at h
  · simp at h
  rename_i hd
  simp only [Bool.not_eq_false, Bool.and_eq_true] at hc
  simp only [Bool.or_eq_true, not_or, Bool.not_eq_true] at hd
  obtain ⟨h0, h1, hes, hx, hn⟩ := hc
  obtain ⟨hx1, hx2⟩ := extsV_ok hx
  match l, h2 with
  | a :: b :: xs, _ =>
    simp only [lat_cons, lat_zero, List.drop_succ_cons, List.drop_zero] at h0 h1 hes hx1 hx2 hn hd h
    have ha := beh_true h0
    have hb := beh_true h1
    simp only [Prod.mk.injEq, and_true] at h
    refine ⟨hd.1, (beh a 110 61).1, (beh b 114 61).1, xs, by rw [← ha, ← hb], hes, hn, hx2, ?_, ?_⟩
    · have := hd.2; rw [hx1] at this; exact this
    · rw [← h, hx1]
  | [], h => simp at h
  | [_], h => simp at h
theorem flF_ny (one : List UInt8) (h : (flF one).2 = true) (hp : ((flF one).1 == [112]) = false) : ((one == [110]) || (one == [121])) = true ∧ (flF one).1 = one := by
  unfold flF at h hp ⊢
  split at h
  · rename_i h2
    rw [if_pos h2]
    rcases h2 with rfl | rfl <;> simp
  · rename_i h2
    rw [if_neg h2] at hp
    simp at hp
theorem one_first {s : List UInt8} {m : Ms} (h : rFirst s = (m, 0)) :
    m.kind = 1 ∧ fhdL m.flag m.authz ++ fbaL m.user m.nonce m.ext = s ∧ frtB m.flag m.authz m.user m.nonce m.ext = true ∧ s.length ≤ 4096 := by
  unfold rFirst at h
  by_cases h4 : 4096 < s.length
  · rw [if_pos h4] at h; simp at h
  rw [if_neg h4] at h
  by_cases hl : (spl s).length < 4
  · rw [if_pos hl] at h; simp at h
  rw [if_neg hl] at h
  have hj := join_spl s
  match hsp : spl s, hl with
  | a :: b :: c :: r, _ =>
    rw [hsp] at h hj
    unfold rF2 at h
    simp only [lat_cons, lat_zero, List.drop_succ_cons, List.drop_zero] at h
    by_cases hh : (rhdF a b).2.2 = false
    · rw [if_pos hh] at h; simp at h
    rw [if_neg hh] at h
    have hh2 : (rhdF a b).2.2 = true := by simpa using hh
    obtain ⟨hv1, hv2⟩ := rhdF_val a b hh2
    rw [rhdF_ok, Bool.and_eq_true] at hh2
    by_cases hm : (beh c 109 61).2 = true
    · rw [if_pos hm] at h
      split at h
      · simp at h
      · have := (rF3_ok h).1; cases this
    · rw [if_neg hm] at h
      obtain ⟨hno, t, u, xs, hlx, hes, hn, hxe, hxm, hme⟩ := rF3_ok h
      rw [hv1] at hno
      obtain ⟨hf1, hf2⟩ := flF_ny a hh2.1 hno
      obtain ⟨hu1, hu2⟩ := esc_unV hes
      rw [hme]
      simp only
      rw [hv1, hv2, hf2]
      have hxa := allOkE_at hxe
      have hval : valB t = true := by unfold escB at hes; simp only [Bool.and_eq_true] at hes; exact hes.1
      have hb : fhdL a (unP b) = a ++ 44 :: (b ++ [44]) ∧ (decide (unP b = []) || valB (escF (unP b))) = true := by
        unfold fhdL
        by_cases hb0 : b = []
        · have : unP b = [] := by unfold unP; rw [if_pos hb0]
          rw [this, hb0]; simp
        · have hw := hh2.2
          unfold whoB at hw
          simp only [hb0, decide_false, Bool.false_or, Bool.and_eq_true] at hw
          have hu : unP b = (unV (Lib.trimPrefix b [97, 61])).1 := by unfold unP; rw [if_neg hb0]
          obtain ⟨e1, e2⟩ := esc_unV hw.2
          rw [hu, if_neg e2, e1]
          have hp := hw.1
          rw [hasP2, decide_eq_true_eq] at hp
          rw [trimP2, if_pos hp]
          have hbb : b = 97 :: 61 :: b.drop 2 := by
            match b, hp with
            | x :: y :: z, hp => simp at hp; rw [hp.1, hp.2]; rfl
          have hvb : valB (b.drop 2) = true := by
            have := hw.2
            rw [trimP2, if_pos hp] at this
            unfold escB at this; simp only [Bool.and_eq_true] at this; exact this.1
          refine ⟨?_, by rw [hvb]; simp⟩
          rw [show a ++ 44 :: (b ++ [44]) = a ++ 44 :: ((97 :: 61 :: b.drop 2) ++ [44]) by rw [← hbb]]
      refine ⟨trivial, ?_, ?_, by omega⟩
      · rw [hb.1]
        unfold fbaL
        rw [hu1, extL_at xs hxa]
        rw [hlx] at hj
        simp only [joinC, List.flatMap_cons] at hj
        rw [← hj]
        simp
      · unfold frtB
        rw [hf1, hu1, hval, hb.2, hn, right_of xs [] hxe hxm (fun p hp => by
          obtain ⟨x, t, rfl⟩ := isAt_form (List.all_eq_true.1 hxa p hp)
          simp)]
        rfl
  | [], h => simp at h
  | [_], h => simp at h
  | [_, _], h => simp at h
end Go.Proofs.YtjkbigecejogdaaDoor

namespace Go.Proofs.YtjkbigecejogdaaDoor
set_option linter.unusedVariables false
set_option linter.unusedSimpArgs false
theorem rnd_itoa {x : List UInt8} (h : rndN x ≠ 0) : Lib.itoa (rndN x : Int) = x ∧ 1 ≤ (rndN x : Int) ∧ (rndN x : Int) ≤ 64 := by
  have hb : rndB x = true := by
    unfold rndN at h
    by_cases q : rndB x = true
    · exact q
    · rw [if_neg q] at h; exact absurd rfl h
  obtain ⟨e1, e2⟩ := rndB_spec x
  have e3 := e2 hb
  have e4 : rndN x = valD 0 x := by unfold rndN; rw [if_pos hb]
  rw [hb] at e1
  have e5 := e1.symm
  simp only [Bool.and_eq_true, decide_eq_true_eq, beq_iff_eq] at e5
  obtain ⟨-, f1, f2, f3⟩ := e5
  rw [e3] at f1 f2 f3
  rw [e4]
  exact ⟨f3, f1, f2⟩
theorem one_chal {s : List UInt8} {m : Ms} (h : rChal s = (m, 0)) :
    m.kind = 2 ∧ chtL m.nonce m.salt m.iter m.ext = s ∧ chtB m.nonce m.salt m.iter m.ext = true ∧ s.length ≤ 4096 := by
  unfold rChal at h
  by_cases h4 : 4096 < s.length
  · rw [if_pos h4] at h; simp at h
  rw [if_neg h4] at h
  by_cases hl : (spl s).length < 3
  · rw [if_pos hl] at h; simp at h
  rw [if_neg hl] at h
  have hj := join_spl s
  match hsp : spl s, hl with
  | a :: b :: c :: xs, _ =>
    rw [hsp] at h hj
    unfold rC2 at h
    simp only [lat_cons, lat_zero, List.drop_succ_cons, List.drop_zero] at h
    split at h
    · simp at h
    rename_i hc
    split at h
    · simp at h
    rename_i hd
    simp only [Bool.not_eq_false, Bool.and_eq_true] at hc
    obtain ⟨h0, h1, h2, hby, hx, hn, hr⟩ := hc
    obtain ⟨hx1, hx2⟩ := extsV_ok hx
    have ha := beh_true h0; have hb := beh_true h1; have hcc := beh_true h2
    rw [hx1] at h hd
    simp only [Bool.not_eq_true] at hd
    simp only [Prod.mk.injEq, and_true] at h
    have hr' := of_decide_eq_true hr
    obtain ⟨r1, r2, r3⟩ := rnd_itoa hr'
    unfold byB at hby
    simp only [Bool.and_eq_true, decide_eq_true_eq] at hby
    have hcan := decF_canon _ hby.1
    have hxa := allOkE_at hx2
    rw [← h]
    refine ⟨rfl, ?_, ?_, by omega⟩
    · unfold chtL
      simp only
      rw [hcan, r1, extL_at xs hxa]
      rw [ha, hb, hcc] at hj
      simp only [joinC, List.flatMap_cons] at hj
      rw [← hj]
      simp
    · unfold chtB
      simp only
      rw [hn, right_of xs [] hx2 hd (fun p hp => by
        obtain ⟨x, t, rfl⟩ := isAt_form (List.all_eq_true.1 hxa p hp)
        simp)]
      simp only [hby.2.1, hby.2.2, r2, r3, decide_true, Bool.and_self, Bool.true_and]
  | [], h => simp at h
  | [_], h => simp at h
  | [_, _], h => simp at h
theorem one_fin {s : List UInt8} {m : Ms} (h : rFinal s = (m, 0)) :
    m.kind = 3 ∧ finL m.head m.nonce m.ext ++ 44 :: 112 :: 61 :: allL plain true m.proof = s ∧ fitB m.head m.nonce m.proof m.ext = true ∧ s.length ≤ 4096 := by
  unfold rFinal at h
  by_cases h4 : 4096 < s.length
  · rw [if_pos h4] at h; simp at h
  rw [if_neg h4] at h
  by_cases hl : (spl s).length < 3
  · rw [if_pos hl] at h; simp at h
  rw [if_neg hl] at h
  have hj := join_spl s
  match hsp : spl s, hl with
  | a :: b :: c :: r, _ =>
    obtain ⟨ys, z, hyz⟩ := snoc_of (c :: r) (by simp)
    rw [hsp, hyz] at h hj
    obtain ⟨e1, e2⟩ := midL_snoc a b ys z
    have e0 : lat (a :: b :: (ys ++ [z])) 0 = a := rfl
    have e3 : lat (a :: b :: (ys ++ [z])) 1 = b := rfl
    unfold rN2 at h
    rw [e0, e1, e2, e3] at h
    split at h
    · simp at h
    rename_i hc
    split at h
    · simp at h
    rename_i hd
    simp only [Bool.not_eq_false, Bool.and_eq_true] at hc
    obtain ⟨h0, h1, h2, hbc, hbp, hx, ⟨hrh, hnp⟩, hn⟩ := hc
    obtain ⟨hx1, hx2⟩ := extsV_ok hx
    have ha := beh_true h0; have hb := beh_true h1; have hz := beh_true h2
    rw [hx1] at h hd hnp
    simp only [Bool.or_eq_true, not_or, Bool.not_eq_true] at hd
    simp only [Prod.mk.injEq, and_true] at h
    unfold byB at hbc hbp
    simp only [Bool.and_eq_true, decide_eq_true_eq] at hbc hbp
    have hc1 := decF_canon _ hbc.1
    have hc2 := decF_canon _ hbp.1
    have hxa := allOkE_at hx2
    obtain ⟨he1, he2⟩ := head_eq (decF (beh a 99 61).1).1
    rw [← h]
    refine ⟨rfl, ?_, ?_, by omega⟩
    · unfold finL
      simp only
      rw [hc1, hc2, extL_at ys hxa]
      rw [ha, hb, hz] at hj
      simp only [joinC, List.flatMap_cons, List.flatMap_append, List.flatMap_nil] at hj
      rw [← hj]
      simp
    · unfold fitB
      simp only
      rw [he1, hrh, he2 hrh, hd.1, hn, right_of ys [112] hx2 hd.2 (fun p hp e => by
        have := List.all_eq_true.1 hnp (atPr p) (List.mem_map_of_mem hp)
        unfold atPr at this
        simp only [bne_iff_ne, ne_eq] at this
        exact this e)]
      have : (decF (beh z 112 61).1).1.length = 32 := by omega
      rw [this]
      rfl
  | [], h => simp at h
  | [_], h => simp at h
  | [_, _], h => simp at h
theorem one_verd {s : List UInt8} {m : Ms} (h : rVerd s = (m, 0)) :
    m.kind = 4 ∧ vetL m.proof m.code m.ext = s ∧ vetB m.proof m.code m.ext = true ∧ s.length ≤ 4096 := by
  unfold rVerd at h
  by_cases h4 : 4096 < s.length
  · rw [if_pos h4] at h; simp at h
  rw [if_neg h4] at h
  have hj := join_spl s
  match hsp : spl s with
  | [] => exact absurd hsp (spl_ne s)
  | a :: xs =>
    rw [hsp] at h hj
    unfold rV2 at h
    simp only [lat_cons, lat_zero, List.drop_succ_cons, List.drop_zero] at h
    split at h
    · simp at h
    rename_i hx
    simp only [Bool.not_eq_false] at hx
    obtain ⟨hx1, hx2⟩ := extsV_ok hx
    have hxa := allOkE_at hx2
    have hnn : ∀ p ∈ xs, p.take 1 ≠ [] := fun p hp => by
      obtain ⟨x, t, rfl⟩ := isAt_form (List.all_eq_true.1 hxa p hp)
      simp
    rw [hx1] at h
    split at h
    · rename_i h0
      split at h
      · simp at h
      rename_i hv
      split at h
      · simp at h
      rename_i hd
      simp only [Bool.not_eq_false] at hv
      simp only [Bool.not_eq_true] at hd
      simp only [Prod.mk.injEq, and_true] at h
      have ha := beh_true h0
      have hb : vbadB [] (beh a 101 61).1 = true := by unfold vbadB; rw [hv]; rfl
      rw [← h]
      refine ⟨rfl, ?_, ?_, by omega⟩
      · unfold vetL
        simp only
        rw [hb, if_pos rfl, extL_at xs hxa]
        rw [ha] at hj
        simp only [joinC] at hj
        rw [← hj]
      · unfold vetB
        simp only
        rw [hb, right_of xs [] hx2 hd hnn]
        simp
    · split at h
      · simp at h
      rename_i hc
      split at h
      · simp at h
      rename_i hd
      simp only [Bool.not_eq_false, Bool.and_eq_true] at hc
      simp only [Bool.not_eq_true] at hd
      simp only [Prod.mk.injEq, and_true] at h
      have ha := beh_true hc.1
      have hby := hc.2
      unfold byB at hby
      simp only [Bool.and_eq_true, decide_eq_true_eq] at hby
      have hcan := decF_canon _ hby.1
      have hlen : (decF (beh a 118 61).1).1.length = 32 := by omega
      have hb : vbadB (decF (beh a 118 61).1).1 [] = false := by unfold vbadB; rw [hlen]; rfl
      rw [← h]
      refine ⟨rfl, ?_, ?_, by omega⟩
      · unfold vetL
        simp only
        rw [hb, hcan, extL_at xs hxa]
        rw [ha] at hj
        simp only [joinC] at hj
        rw [← hj]
        rfl
      · unfold vetB
        simp only
        rw [hb, right_of xs [] hx2 hd hnn, hlen]
        rfl
end Go.Proofs.YtjkbigecejogdaaDoor

namespace Go.Proofs.YtjkbigecejogdaaDoor
open Go.RowKit
set_option maxRecDepth 100000
attribute [local go_sem] Oper.semAt_some
set_option linter.unusedVariables false
set_option linter.unusedSimpArgs false
/-- A message's text and whether it may be told. -/
def txtL (m : Ms) : List UInt8 :=
  if m.kind = 1 then fhdL m.flag m.authz ++ fbaL m.user m.nonce m.ext
  else if m.kind = 2 then chtL m.nonce m.salt m.iter m.ext
  else if m.kind = 3 then finL m.head m.nonce m.ext ++ 44 :: 112 :: 61 :: allL plain true m.proof
  else vetL m.proof m.code m.ext
def txtB (m : Ms) : Bool :=
  if m.kind = 1 then frtB m.flag m.authz m.user m.nonce m.ext
  else if m.kind = 2 then chtB m.nonce m.salt m.iter m.ext
  else if m.kind = 3 then fitB m.head m.nonce m.proof m.ext
  else vetB m.proof m.code m.ext
def txtV (m : Ms) : List UInt8 × Int := sizedV (txtL m) (txtB m)
/-- A message whose parts aren't too long. -/
structure MsOk (m : Ms) : Prop where
  k1 : m.kind = 1 → m.flag.length ≤ 10000 ∧ m.authz.length ≤ 3000 ∧ m.user.length ≤ 3000 ∧ m.nonce.length ≤ 10000
  k2 : m.kind = 2 → m.nonce.length ≤ 10000 ∧ m.salt.length ≤ 10000 ∧ -9223372036854775808 ≤ m.iter ∧ m.iter ≤ 9223372036854775807
  k3 : m.kind = 3 → m.head.length ≤ 10000 ∧ m.nonce.length ≤ 10000 ∧ m.proof.length ≤ 10000
  k4 : ¬ m.kind = 1 → ¬ m.kind = 2 → ¬ m.kind = 3 → m.proof.length ≤ 10000 ∧ m.code.length ≤ 10000
  ext : PrOk m.ext
end Go.Proofs.YtjkbigecejogdaaDoor

namespace Go.Proofs.YtjkbigecejogdaaDoor
set_option linter.unusedVariables false
set_option linter.unusedSimpArgs false
theorem escF_ge : ∀ l : List UInt8, l.length ≤ (escF l).length
  | [] => Nat.le_refl _
  | c :: r => by
    have := escF_ge r
    show (c :: r).length ≤ (esc1 c ++ escF r).length
    have h1 : 1 ≤ (esc1 c).length := by unfold esc1; split <;> (try split) <;> simp
    simp only [List.length_append, List.length_cons]
    omega
theorem allL_ge (l : List UInt8) : l.length ≤ (allL plain true l).length := by
  rw [allL_true, List.length_append, List.length_replicate, refN_len]
  omega
theorem extL_ge : ∀ fs : List Pr, fs.length ≤ (extL fs).length ∧ ∀ p ∈ fs, p.n.length + p.v.length ≤ (extL fs).length
  | [] => ⟨Nat.le_refl _, fun p hp => absurd hp (by simp)⟩
  | q :: r => by
    obtain ⟨h1, h2⟩ := extL_ge r
    have e : (extL (q :: r)).length = q.n.length + q.v.length + 2 + (extL r).length := by
      unfold extL
      rw [List.flatMap_cons]
      simp
      omega
    rw [e]
    refine ⟨by simp; omega, fun p hp => ?_⟩
    rcases List.mem_cons.1 hp with rfl | hp
    · omega
    · have := h2 p hp; omega
theorem prOk_of (fs : List Pr) (n : Nat) (h : (extL fs).length ≤ n) (hn : n ≤ 5000) : PrOk fs := by
  obtain ⟨h1, h2⟩ := extL_ge fs
  exact ⟨by omega, fun p hp => by have := h2 p hp; omega⟩
theorem one_any {k : Int} {s : List UInt8} {m : Ms} (h : rRead k s = (m, 0)) : txtL m = s ∧ txtB m = true ∧ s.length ≤ 4096 := by
  unfold rRead at h
  unfold txtL txtB
  split at h
  · obtain ⟨h0, h1, h2, h3⟩ := one_first h
    rw [if_pos h0, if_pos h0]; exact ⟨h1, h2, h3⟩
  split at h
  · obtain ⟨h0, h1, h2, h3⟩ := one_chal h
    rw [if_neg (by rw [h0]; decide), if_pos h0, if_neg (by rw [h0]; decide), if_pos h0]; exact ⟨h1, h2, h3⟩
  split at h
  · obtain ⟨h0, h1, h2, h3⟩ := one_fin h
    rw [if_neg (by rw [h0]; decide), if_neg (by rw [h0]; decide), if_pos h0, if_neg (by rw [h0]; decide), if_neg (by rw [h0]; decide), if_pos h0]; exact ⟨h1, h2, h3⟩
  · obtain ⟨h0, h1, h2, h3⟩ := one_verd h
    rw [if_neg (by rw [h0]; decide), if_neg (by rw [h0]; decide), if_neg (by rw [h0]; decide), if_neg (by rw [h0]; decide), if_neg (by rw [h0]; decide), if_neg (by rw [h0]; decide)]; exact ⟨h1, h2, h3⟩
theorem one_txt {k : Int} {s : List UInt8} {m : Ms} (h : rRead k s = (m, 0)) : txtV m = (s, 0) := by
  obtain ⟨h1, h2, h3⟩ := one_any h
  unfold txtV sizedV
  rw [h1, h2, if_pos rfl, if_pos h3]
theorem msOk_of {s : List UInt8} {m : Ms} (h1 : txtL m = s) (h2 : txtB m = true) (h3 : s.length ≤ 3000) : MsOk m := by
  unfold txtL at h1
  unfold txtB at h2
  by_cases q1 : m.kind = 1
  · rw [if_pos q1] at h1 h2
    unfold fhdL fbaL at h1
    have e1 := escF_ge m.authz; have e2 := escF_ge m.user
    have hl := congrArg List.length h1
    have ha : m.authz.length ≤ 3000 := by
      by_cases q : m.authz = []
      · rw [q]; simp
      · rw [if_neg q] at hl; simp only [List.length_append, List.length_cons] at hl; omega
    simp only [List.length_append, List.length_cons] at hl
    exact ⟨fun _ => ⟨by omega, ha, by omega, by omega⟩, fun q => by omega, fun q => by omega, fun q => absurd q1 q, prOk_of _ 3000 (by omega) (by omega)⟩
  rw [if_neg q1] at h1 h2
  by_cases q2 : m.kind = 2
  · rw [if_pos q2] at h1 h2
    unfold chtL at h1
    have hl := congrArg List.length h1
    simp only [List.length_append, List.length_cons] at hl
    unfold chtB at h2
    simp only [Bool.and_eq_true, decide_eq_true_eq] at h2
    exact ⟨fun q => absurd q q1, fun _ => ⟨by omega, by omega, by omega, by omega⟩, fun q => by omega, fun _ q => absurd q2 q, prOk_of _ 3000 (by omega) (by omega)⟩
  rw [if_neg q2] at h1 h2
  by_cases q3 : m.kind = 3
  · rw [if_pos q3] at h1 h2
    unfold finL at h1
    have e1 := allL_ge m.head; have e2 := allL_ge m.proof
    have hl := congrArg List.length h1
    simp only [List.length_append, List.length_cons] at hl
    exact ⟨fun q => absurd q q1, fun q => absurd q q2, fun _ => ⟨by omega, by omega, by omega⟩, fun _ _ q => absurd q3 q, prOk_of _ 3000 (by omega) (by omega)⟩
  rw [if_neg q3] at h1 h2
  unfold vetL at h1
  unfold vetB at h2
  have e2 := allL_ge m.proof
  have hl := congrArg List.length h1
  simp only [List.length_append] at hl
  refine ⟨fun q => absurd q q1, fun q => absurd q q2, fun q => absurd q q3, fun _ _ _ => ?_, prOk_of _ 3000 (by omega) (by omega)⟩
  by_cases hb : vbadB m.proof m.code = true
  · rw [if_pos hb] at hl
    simp only [List.length_cons] at hl
    unfold vbadB at hb
    simp only [Bool.and_eq_true, decide_eq_true_eq] at hb
    exact ⟨by omega, by omega⟩
  · rw [Bool.not_eq_true] at hb
    rw [hb] at h2
    simp only [Bool.or_false, Bool.and_eq_true, decide_eq_true_eq] at h2
    exact ⟨by omega, by rw [h2.1.2]; simp⟩
end Go.Proofs.YtjkbigecejogdaaDoor

namespace Go.Proofs.YtjkbigecejogdaaDoor
set_option linter.unusedVariables false
set_option linter.unusedSimpArgs false
theorem joinC_two (a b : List UInt8) (r : List (List UInt8)) : joinC (a :: b :: r) = a ++ 44 :: joinC (b :: r) := by
  simp [joinC]
theorem spl_joinC : ∀ L : List (List UInt8), L ≠ [] → (∀ q ∈ L, ∀ c ∈ q, c ≠ 44) → spl (joinC L) = L
  | [], h, _ => absurd rfl h
  | [a], _, h => by
    rw [show joinC [a] = a by simp [joinC]]
    exact spl_one a (h a (by simp))
  | a :: b :: r, _, h => by
    rw [joinC_two, spl_app, spl_one a (h a (by simp)), spl_joinC (b :: r) (by simp) (fun q hq => h q (List.mem_cons_of_mem _ hq))]
    rfl
/-- An extension's piece. -/
def prP (p : Pr) : List UInt8 := p.n ++ 61 :: p.v
theorem extL_prP (fs : List Pr) : extL fs = (fs.map prP).flatMap fun q => 44 :: q := by
  unfold extL
  rw [List.flatMap_map]
  rfl
theorem val_nc {l : List UInt8} (h : valB l = true) : ∀ c ∈ l, c ≠ 44 := by
  unfold valB at h
  simp only [Bool.and_eq_true] at h
  intro c hc e
  have := List.all_eq_true.1 h.2.2 c hc
  rw [e] at this
  exact absurd this (by decide)
theorem non_nc {l : List UInt8} (h : nonF l = true) : ∀ c ∈ l, c ≠ 44 := by
  unfold nonF at h
  simp only [Bool.and_eq_true] at h
  intro c hc e
  have := List.all_eq_true.1 h.1 c hc
  rw [e] at this
  exact absurd this (by decide)
theorem right_at {no : List UInt8} {p : Pr} (h : rightE no p = true) : okE (prP p) = true ∧ mB (prP p) = false ∧ atPr (prP p) = p ∧ (∀ c ∈ prP p, c ≠ 44) ∧ p.n ≠ no := by
  obtain ⟨pn, pv⟩ := p
  unfold rightE at h
  simp only [Bool.and_eq_true, decide_eq_true_eq, Bool.not_eq_true', beq_eq_false_iff_ne, ne_eq] at h
  obtain ⟨h1, h2, h3, h4, h5⟩ := h
  match pn, h1 with
  | [x], _ =>
    have hx : x ≠ 44 := fun e => by
      rw [e] at h2
      exact absurd h2 (by decide +kernel)
    refine ⟨?_, ?_, ?a, ?_, h5⟩
    case a => simp only [atPr, prP, List.cons_append, List.nil_append, List.take_succ_cons, List.take_zero, List.drop_succ_cons, List.drop_zero]
    · unfold okE prP
      rw [show isAt ([x] ++ 61 :: pv) = true from form_isAt x pv]
      rw [show bt ([x] ++ 61 :: pv) 0 = bt [x] 0 from rfl, h2]
      exact h3
    · unfold mB prP
      rw [show bt ([x] ++ 61 :: pv) 0 = x from rfl]
      simp only [beq_eq_false_iff_ne, ne_eq]
      exact fun e => h4 (by rw [e])
    · intro c hc
      simp only [prP, List.cons_append, List.nil_append, List.mem_cons] at hc
      rcases hc with rfl | rfl | hc
      · exact hx
      · decide
      · exact val_nc h3 c hc
theorem exts_right {no : List UInt8} {fs : List Pr} (h : fs.all (rightE no) = true) : extsV (fs.map prP) = (fs, true, false) ∧ (∀ q ∈ fs.map prP, ∀ c ∈ q, c ≠ 44) ∧ ∀ p ∈ fs, p.n ≠ no := by
  have h0 := List.all_eq_true.1 h
  refine ⟨?_, fun q hq => ?_, fun p hp => (right_at (h0 p hp)).2.2.2.2⟩
  · unfold extsV
    have h1 : (fs.map prP).all okE = true := by
      rw [List.all_map, List.all_eq_true]
      exact fun p hp => (right_at (h0 p hp)).1
    have h2 : (fs.map prP).any mB = false := by
      rw [List.any_map, List.any_eq_false]
      intro p hp
      show ¬ mB (prP p) = true
      rw [(right_at (h0 p hp)).2.1]; decide
    have h3 : (fs.map prP).map atPr = fs := by
      rw [List.map_map]
      exact (List.map_congr_left fun p hp => (right_at (h0 p hp)).2.2.1).trans (List.map_id _)
    rw [if_pos h1, h2, h3]
  · obtain ⟨p, hp, rfl⟩ := List.mem_map.1 hq
    exact (right_at (h0 p hp)).2.2.2.1
theorem unN_of : ∀ (t : List UInt8) (f : Nat), (escF t).length ≤ f → unN f (escF t) = some (t, false)
  | [], f, _ => by
    show unN f [] = _
    cases f <;> rfl
  | c :: r, f, h => by
    have he : escF (c :: r) = esc1 c ++ escF r := rfl
    rw [he] at h ⊢
    by_cases h44 : c = 44
    · subst h44
      rw [show esc1 44 = [61, 50, 67] from rfl] at h ⊢
      simp only [List.cons_append, List.nil_append, List.length_cons] at h
      match f, h with
      | f + 1, h =>
        have ih := unN_of r f (by omega)
        have hp : pre3 (61 :: 50 :: 67 :: escF r) 61 50 67 = true := by simp [pre3]
        simp only [List.cons_append, List.nil_append]
        rw [unN, if_neg (by decide), if_neg (by decide), if_pos hp]
        simp only [List.drop_succ_cons, List.drop_zero]
        rw [ih]
        rfl
    · by_cases h61 : c = 61
      · subst h61
        rw [show esc1 61 = [61, 51, 68] from rfl] at h ⊢
        simp only [List.cons_append, List.nil_append, List.length_cons] at h
        match f, h with
        | f + 1, h =>
          have ih := unN_of r f (by omega)
          have hp : pre3 (61 :: 51 :: 68 :: escF r) 61 51 68 = true := by simp [pre3]
          have hq : ¬ pre3 (61 :: 51 :: 68 :: escF r) 61 50 67 = true := by simp [pre3]
          simp only [List.cons_append, List.nil_append]
          rw [unN, if_neg (by decide), if_neg (by decide), if_neg hq, if_pos hp]
          simp only [List.drop_succ_cons, List.drop_zero]
          rw [ih]
          rfl
      · rw [show esc1 c = [c] by simp [esc1, h44, h61]] at h ⊢
        simp only [List.cons_append, List.nil_append, List.length_cons] at h
        match f, h with
        | f + 1, h =>
          have ih := unN_of r f (by omega)
          simp only [List.cons_append, List.nil_append]
          rw [unN, if_neg h44, if_pos h61, ih]
          rfl
theorem unV_esc (t : List UInt8) : unV (escF t) = (t, 0) := by
  unfold unV unG
  rw [unN_of t _ (Nat.le_refl _)]
theorem escB_esc {t : List UInt8} (h : valB (escF t) = true) : escB (escF t) = true := by
  unfold escB
  rw [h, unV_esc]
  rfl
theorem enc_nc (l : List UInt8) : ∀ c ∈ allL plain true l, c ≠ 44 := by
  intro c hc
  rw [allL_true] at hc
  rcases List.mem_append.1 hc with hc | hc
  · obtain ⟨j, _, rfl⟩ := List.mem_map.1 hc
    have : ∀ n : Nat, n < 64 → bt plain n ≠ 44 := by decide
    exact this _ (sixN_lt l _ 6)
  · rw [(List.mem_replicate.1 hc).2]; decide
theorem beh_same (c : UInt8) (t : List UInt8) : beh (c :: 61 :: t) c 61 = (t, true) := by rw [beh_form, if_pos rfl]
theorem beh_other (x c : UInt8) (t : List UInt8) (h : x ≠ c) : beh (x :: 61 :: t) c 61 = ([], false) := by rw [beh_form, if_neg h]
theorem cons_nc {a b : UInt8} {l : List UInt8} (ha : a ≠ 44) (hb : b ≠ 44) (h : ∀ c ∈ l, c ≠ 44) : ∀ c ∈ a :: b :: l, c ≠ 44 := by
  intro c hc
  simp only [List.mem_cons] at hc
  rcases hc with rfl | rfl | hc
  · exact ha
  · exact hb
  · exact h c hc
theorem rndN_itoa {n : Int} (h1 : 1 ≤ n) (h2 : n ≤ 64) : (rndN (Lib.itoa n) : Int) = n ∧ rndN (Lib.itoa n) ≠ 0 ∧ ∀ c ∈ Lib.itoa n, c ≠ 44 := by
  obtain ⟨k, rfl⟩ : ∃ k : Nat, n = (k : Int) := ⟨n.toNat, by omega⟩
  have hk1 : 1 ≤ k := by omega
  have hk2 : k ≤ 64 := by omega
  have key : ∀ k : Nat, k ≤ 64 → 1 ≤ k → rndN (Lib.itoa (k : Int)) = k ∧ ∀ c ∈ Lib.itoa (k : Int), c ≠ 44 := by decide +kernel
  obtain ⟨e1, e2⟩ := key k hk2 hk1
  exact ⟨by rw [e1], by rw [e1]; omega, e2⟩
theorem who_of (au : List UInt8) (ha : au = [] ∨ valB (escF au) = true) : ∃ two, (if au = [] then [] else 97 :: 61 :: escF au) = two ∧ (∀ c ∈ two, c ≠ 44) ∧ whoB two = true ∧ unP two = au := by
  by_cases q : au = []
  · exact ⟨[], if_pos q, fun c hc => absurd hc (by simp), by simp [whoB], by rw [q]; rfl⟩
  · have hv := ha.resolve_left q
    have h1 : Lib.hasPrefix (97 :: 61 :: escF au) [97, 61] = true := by rw [hasP2, decide_eq_true_eq]; simp
    have h2 : Lib.trimPrefix (97 :: 61 :: escF au) [97, 61] = escF au := by
      have h3 := h1
      rw [hasP2, decide_eq_true_eq] at h3
      rw [trimP2, if_pos h3]; rfl
    refine ⟨97 :: 61 :: escF au, if_neg q, cons_nc (by decide) (by decide) (val_nc hv), ?_, ?_⟩
    · unfold whoB
      rw [h1, h2, escB_esc hv]
      simp
    · unfold unP
      rw [if_neg (by simp), h2, unV_esc]
theorem trip_first (fl au us no : List UInt8) (fs : List Pr) (hb : frtB fl au us no fs = true) (hl : (fhdL fl au ++ fbaL us no fs).length ≤ 4096) :
    rFirst (fhdL fl au ++ fbaL us no fs) = (⟨1, fl, au, us, no, fs, [], 0, [], [], []⟩, 0) := by
  unfold frtB at hb
  simp only [Bool.and_eq_true, Bool.or_eq_true, beq_iff_eq, decide_eq_true_eq] at hb
  obtain ⟨hf, hu, ha, hn, hx⟩ := hb
  obtain ⟨x1, x2, -⟩ := exts_right hx
  obtain ⟨two, t1, t2, t3, t4⟩ := who_of au ha
  have hj : fhdL fl au ++ fbaL us no fs = joinC (fl :: two :: (110 :: 61 :: escF us) :: (114 :: 61 :: no) :: fs.map prP) := by
    unfold fhdL fbaL
    rw [t1, extL_prP]
    simp [joinC]
  have hfl : (∀ c ∈ fl, c ≠ 44) ∧ (flF fl).1 = fl ∧ (flF fl).2 = true ∧ (fl == [112]) = false := by
    rcases hf with rfl | rfl
    · exact ⟨by decide, by simp [flF], by simp [flF], by decide⟩
    · exact ⟨by decide, by simp [flF], by simp [flF], by decide⟩
  have hs : spl (fhdL fl au ++ fbaL us no fs) = fl :: two :: (110 :: 61 :: escF us) :: (114 :: 61 :: no) :: fs.map prP := by
    rw [hj]
    refine spl_joinC _ (by simp) fun q hq => ?_
    simp only [List.mem_cons] at hq
    rcases hq with rfl | rfl | rfl | rfl | hq
    · exact hfl.1
    · exact t2
    · exact cons_nc (by decide) (by decide) (val_nc hu)
    · exact cons_nc (by decide) (by decide) (non_nc hn)
    · exact x2 q hq
  unfold rFirst
  rw [if_neg (by omega), hs, if_neg (by simp)]
  have r1 : (rhdF fl two).2.2 = true := by rw [rhdF_ok, hfl.2.2.1, t3]; rfl
  obtain ⟨v1, v2⟩ := rhdF_val fl two r1
  unfold rF2
  simp only [lat_cons, lat_zero, List.drop_succ_cons, List.drop_zero]
  rw [if_neg (by rw [r1]; decide), beh_other 110 109 _ (by decide), if_neg (by decide), v1, v2, hfl.2.1, t4, hfl.2.2.2]
  unfold rF3
  rw [if_neg (by simp)]
  simp only [lat_cons, lat_zero, List.drop_succ_cons, List.drop_zero, beh_same]
  rw [x1, escB_esc hu, hn, unV_esc]
  simp
theorem trip_chal (no sl : List UInt8) (it : Int) (fs : List Pr) (hb : chtB no sl it fs = true) (hl : (chtL no sl it fs).length ≤ 4096) :
    rChal (chtL no sl it fs) = (⟨2, [], [], [], no, fs, sl, it, [], [], []⟩, 0) := by
  unfold chtB at hb
  simp only [Bool.and_eq_true, decide_eq_true_eq] at hb
  obtain ⟨hn, h1, h2, h3, h4, hx⟩ := hb
  obtain ⟨x1, x2, -⟩ := exts_right hx
  obtain ⟨r1, r2, r3⟩ := rndN_itoa h3 h4
  have hj : chtL no sl it fs = joinC ((114 :: 61 :: no) :: (115 :: 61 :: allL plain true sl) :: (105 :: 61 :: Lib.itoa it) :: fs.map prP) := by
    unfold chtL
    rw [extL_prP]
    simp [joinC]
  have hs : spl (chtL no sl it fs) = (114 :: 61 :: no) :: (115 :: 61 :: allL plain true sl) :: (105 :: 61 :: Lib.itoa it) :: fs.map prP := by
    rw [hj]
    refine spl_joinC _ (by simp) fun q hq => ?_
    simp only [List.mem_cons] at hq
    rcases hq with rfl | rfl | rfl | hq
    · exact cons_nc (by decide) (by decide) (non_nc hn)
    · exact cons_nc (by decide) (by decide) (enc_nc sl)
    · exact cons_nc (by decide) (by decide) r3
    · exact x2 q hq
  unfold rChal
  rw [if_neg (by omega), hs, if_neg (by simp)]
  have hby : byB (allL plain true sl) 1 32 = true := by
    unfold byB
    rw [decF_enc]
    simp [h1, h2]
  unfold rC2
  simp only [lat_cons, lat_zero, List.drop_succ_cons, List.drop_zero, beh_same]
  rw [x1, hby, hn, decF_enc, r1]
  simp [r2]
theorem trip_fin (hd no pr : List UInt8) (fs : List Pr) (hh : hd.length ≤ 4096) (hb : fitB hd no pr fs = true) (hl : (finL hd no fs ++ 44 :: 112 :: 61 :: allL plain true pr).length ≤ 4096) :
    rFinal (finL hd no fs ++ 44 :: 112 :: 61 :: allL plain true pr) = (⟨3, [], [], [], no, fs, [], 0, hd, pr, []⟩, 0) := by
  unfold fitB at hb
  simp only [Bool.and_eq_true, decide_eq_true_eq, Bool.not_eq_true'] at hb
  obtain ⟨h1, h2, hn, hx, hp⟩ := hb
  obtain ⟨x1, x2, x3⟩ := exts_right hx
  obtain ⟨e1, e2⟩ := head_eq hd
  have g1 : (rHdF hd).1 = true := by rw [← e1]; exact h1
  have g2 : (rHdF hd).2 = false := by rw [← e2 g1]; exact h2
  have hj : finL hd no fs ++ 44 :: 112 :: 61 :: allL plain true pr = joinC ((99 :: 61 :: allL plain true hd) :: (114 :: 61 :: no) :: (fs.map prP ++ [112 :: 61 :: allL plain true pr])) := by
    unfold finL
    rw [extL_prP]
    simp [joinC]
  have hs : spl (finL hd no fs ++ 44 :: 112 :: 61 :: allL plain true pr) = (99 :: 61 :: allL plain true hd) :: (114 :: 61 :: no) :: (fs.map prP ++ [112 :: 61 :: allL plain true pr]) := by
    rw [hj]
    refine spl_joinC _ (by simp) fun q hq => ?_
    simp only [List.mem_cons, List.mem_append, List.not_mem_nil, or_false] at hq
    rcases hq with rfl | rfl | hq | rfl
    · exact cons_nc (by decide) (by decide) (enc_nc hd)
    · exact cons_nc (by decide) (by decide) (non_nc hn)
    · exact x2 q hq
    · exact cons_nc (by decide) (by decide) (enc_nc pr)
  unfold rFinal
  rw [if_neg (by omega), hs, if_neg (by simp)]
  obtain ⟨m1, m2⟩ := midL_snoc (99 :: 61 :: allL plain true hd) (114 :: 61 :: no) (fs.map prP) (112 :: 61 :: allL plain true pr)
  have m3 : lat ((99 :: 61 :: allL plain true hd) :: (114 :: 61 :: no) :: (fs.map prP ++ [112 :: 61 :: allL plain true pr])) 0 = 99 :: 61 :: allL plain true hd := rfl
  have m4 : lat ((99 :: 61 :: allL plain true hd) :: (114 :: 61 :: no) :: (fs.map prP ++ [112 :: 61 :: allL plain true pr])) 1 = 114 :: 61 :: no := rfl
  have b1 : byB (allL plain true hd) 0 4096 = true := by
    unfold byB
    rw [decF_enc]
    simp [hh]
  have b2 : byB (allL plain true pr) 32 32 = true := by
    unfold byB
    rw [decF_enc]
    simp [hp]
  have hnp : fs.all (fun p => p.n != [112]) = true := by
    rw [List.all_eq_true]
    intro p hp
    simp only [bne_iff_ne, ne_eq]
    exact x3 p hp
  unfold rN2
  rw [m1, m2, m3, m4]
  simp only [beh_same]
  rw [x1, b1, b2, hn, decF_enc, decF_enc, g1, g2]
  simp only
  rw [hnp]
  simp
theorem trip_verd (su co : List UInt8) (fs : List Pr) (hb : vetB su co fs = true) (hl : (vetL su co fs).length ≤ 4096) :
    rVerd (vetL su co fs) = (⟨4, [], [], [], [], fs, [], 0, [], su, co⟩, 0) := by
  unfold vetB at hb
  simp only [Bool.and_eq_true, Bool.or_eq_true, decide_eq_true_eq] at hb
  obtain ⟨hc, hx⟩ := hb
  obtain ⟨x1, x2, -⟩ := exts_right hx
  by_cases hv : vbadB su co = true
  · have hv2 := hv
    unfold vbadB at hv2
    simp only [Bool.and_eq_true, decide_eq_true_eq] at hv2
    have hsu : su = [] := List.eq_nil_of_length_eq_zero hv2.1
    have hj : vetL su co fs = joinC ((101 :: 61 :: co) :: fs.map prP) := by
      unfold vetL
      rw [if_pos hv, extL_prP]
      simp [joinC]
    have hs : spl (vetL su co fs) = (101 :: 61 :: co) :: fs.map prP := by
      rw [hj]
      refine spl_joinC _ (by simp) fun q hq => ?_
      simp only [List.mem_cons] at hq
      rcases hq with rfl | hq
      · exact cons_nc (by decide) (by decide) (val_nc hv2.2)
      · exact x2 q hq
    unfold rVerd
    rw [if_neg (by omega), hs]
    unfold rV2
    simp only [lat_cons, lat_zero, List.drop_succ_cons, List.drop_zero, beh_same]
    rw [x1, hv2.2, hsu]
    simp
  · have hc2 := hc.resolve_right hv
    obtain ⟨hp, rfl⟩ := hc2
    have hj : vetL su [] fs = joinC ((118 :: 61 :: allL plain true su) :: fs.map prP) := by
      unfold vetL
      rw [if_neg hv, extL_prP]
      simp [joinC]
    have hs : spl (vetL su [] fs) = (118 :: 61 :: allL plain true su) :: fs.map prP := by
      rw [hj]
      refine spl_joinC _ (by simp) fun q hq => ?_
      simp only [List.mem_cons] at hq
      rcases hq with rfl | hq
      · exact cons_nc (by decide) (by decide) (enc_nc su)
      · exact x2 q hq
    have b2 : byB (allL plain true su) 32 32 = true := by
      unfold byB
      rw [decF_enc]
      simp [hp]
    unfold rVerd
    rw [if_neg (by omega), hs]
    unfold rV2
    simp only [lat_cons, lat_zero, List.drop_succ_cons, List.drop_zero, beh_same]
    rw [x1, beh_other 118 101 _ (by decide), b2, decF_enc]
    simp
end Go.Proofs.YtjkbigecejogdaaDoor

namespace Go.Proofs.YtjkbigecejogdaaDoor
set_option linter.unusedVariables false
set_option linter.unusedSimpArgs false
def cutK (a b : Nat) (p : Pr) : Pr := ⟨p.n.take a, p.v.take b⟩
def fewK (m a b : Nat) (fs : List Pr) : List Pr := (fs.take m).map (cutK a b)
theorem fewK_snoc (m a b : Nat) (fs : List Pr) (k : Nat) (h : k < fs.length) : fewK m a b (fs.take (k + 1)) = if k < m then fewK m a b (fs.take k) ++ [cutK a b (fs.getD k prD)] else fewK m a b (fs.take k) := by
  unfold fewK
  rw [List.take_take, List.take_take]
  split
  · rename_i hk
    rw [show min m (k + 1) = k + 1 by omega, show min m k = k by omega, List.take_succ_eq_append_getElem h, List.map_append, List.map_singleton, show fs.getD k prD = fs[k] by simp [List.getD, h]]
  · rw [show min m (k + 1) = m by omega, show min m k = m by omega]
theorem fewK_len (m a b : Nat) (fs : List Pr) : (fewK m a b fs).length ≤ m := by unfold fewK; simp; omega
theorem fewK_b (m a b : Nat) (fs : List Pr) : ∀ p ∈ fewK m a b fs, p.n.length ≤ a ∧ p.v.length ≤ b := by
  intro p hp
  unfold fewK at hp
  obtain ⟨q, _, rfl⟩ := List.mem_map.1 hp
  simp [cutK]; omega
/-- The kind that Few gives. -/
def fewI (k : Int) : Int := 1 + (k.tmod 4 + 4).tmod 4
theorem fewI_of (k : Int) : fewI k = 1 ∨ fewI k = 2 ∨ fewI k = 3 ∨ fewI k = 4 := by
  unfold fewI
  have h1 : -4 < k.tmod 4 := by
    have := Int.tmod_lt_of_pos (-k) (show (0 : Int) < 4 by decide)
    rw [Int.neg_tmod] at this; omega
  have h2 : 0 ≤ (k.tmod 4 + 4).tmod 4 := Int.tmod_nonneg 4 (by omega)
  have h3 : (k.tmod 4 + 4).tmod 4 < 4 := Int.tmod_lt_of_pos _ (by decide)
  omega
/-- What Few makes of a message. -/
def fewM (m : Ms) : Ms :=
  if fewI m.kind = 1 then ⟨1, m.flag.take 9, m.authz.take 60, m.user.take 60, m.nonce.take 80, fewK 4 3 2500 m.ext, [], 0, [], [], []⟩
  else if fewI m.kind = 2 then ⟨2, [], [], [], m.nonce.take 80, fewK 4 3 2500 m.ext, m.salt.take 40, m.iter, [], [], []⟩
  else if fewI m.kind = 3 then ⟨3, [], [], [], m.nonce.take 80, fewK 4 3 2500 m.ext, [], 0, m.head.take 100, m.proof.take 40, []⟩
  else ⟨4, [], [], [], [], fewK 4 3 2500 m.ext, [], 0, [], m.proof.take 40, m.code.take 60⟩
/-- A message that isn't too great, and has only the fields of its kind. -/
structure MsF (m : Ms) : Prop where
  can : (∃ fl au us no fs, m = ⟨1, fl, au, us, no, fs, [], 0, [], [], []⟩) ∨ (∃ no fs sl it, m = ⟨2, [], [], [], no, fs, sl, it, [], [], []⟩) ∨ (∃ no fs hd pr, m = ⟨3, [], [], [], no, fs, [], 0, hd, pr, []⟩) ∨ (∃ fs pr co, m = ⟨4, [], [], [], [], fs, [], 0, [], pr, co⟩)
  fl : m.flag.length ≤ 9
  au : m.authz.length ≤ 60
  us : m.user.length ≤ 60
  no : m.nonce.length ≤ 80
  sl : m.salt.length ≤ 40
  i1 : -9223372036854775808 ≤ m.iter
  i2 : m.iter ≤ 9223372036854775807
  hd : m.head.length ≤ 100
  pr : m.proof.length ≤ 40
  co : m.code.length ≤ 60
  x1 : m.ext.length ≤ 4
  x2 : ∀ p ∈ m.ext, p.n.length ≤ 3 ∧ p.v.length ≤ 2500
theorem msF_few (m : Ms) (h1 : -9223372036854775808 ≤ m.iter) (h2 : m.iter ≤ 9223372036854775807) : MsF (fewM m) := by
  have hl := fewK_len 4 3 2500 m.ext
  have hb := fewK_b 4 3 2500 m.ext
  unfold fewM
  split
  · exact ⟨.inl ⟨_, _, _, _, _, rfl⟩, by simp; omega, by simp; omega, by simp; omega, by simp; omega, by simp, by simp, by simp, by simp, by simp, by simp, hl, hb⟩
  split
  · exact ⟨.inr (.inl ⟨_, _, _, _, rfl⟩), by simp, by simp, by simp, by simp; omega, by simp; omega, h1, h2, by simp, by simp, by simp, hl, hb⟩
  split
  · exact ⟨.inr (.inr (.inl ⟨_, _, _, _, rfl⟩)), by simp, by simp, by simp, by simp; omega, by simp, by simp, by simp, by simp; omega, by simp; omega, by simp, hl, hb⟩
  · exact ⟨.inr (.inr (.inr ⟨_, _, _, rfl⟩)), by simp, by simp, by simp, by simp, by simp, by simp, by simp, by simp, by simp; omega, by simp; omega, hl, hb⟩
/-- The document's text of a message. -/
def rtxL (m : Ms) : List UInt8 :=
  if m.kind = 1 then fhdL m.flag m.authz ++ fbaL m.user m.nonce m.ext
  else if m.kind = 2 then 114 :: 61 :: (m.nonce ++ 44 :: 115 :: 61 :: (allL plain true m.salt ++ 44 :: 105 :: 61 :: (numL m.iter ++ extL m.ext)))
  else if m.kind = 3 then finL m.head m.nonce m.ext ++ 44 :: 112 :: 61 :: allL plain true m.proof
  else if m.proof = [] then 101 :: 61 :: (m.code ++ extL m.ext) else 118 :: 61 :: (allL plain true m.proof ++ extL m.ext)
theorem numL_itoa (n : Int) (h : 1 ≤ n) : numL n = Lib.itoa n := by
  unfold numL Lib.itoa
  rw [if_neg (by omega)]
  simp [show ¬ n < 0 by omega]
theorem numL_itoa' (n : Int) (h : 0 ≤ n) : numL n = Lib.itoa n := by
  unfold numL Lib.itoa
  rw [if_neg (by omega)]
  simp [show ¬ n < 0 by omega]
theorem rtx_eq (m : Ms) (hb : txtB m = true) : rtxL m = txtL m := by
  unfold txtB at hb
  unfold rtxL txtL
  by_cases q1 : m.kind = 1
  · rw [if_pos q1, if_pos q1]
  rw [if_neg q1] at hb
  rw [if_neg q1, if_neg q1]
  by_cases q2 : m.kind = 2
  · rw [if_pos q2] at hb
    rw [if_pos q2, if_pos q2]
    unfold chtB at hb
    simp only [Bool.and_eq_true, decide_eq_true_eq] at hb
    rw [numL_itoa _ hb.2.2.2.1]
    unfold chtL
    simp
  rw [if_neg q2] at hb
  rw [if_neg q2, if_neg q2]
  by_cases q3 : m.kind = 3
  · rw [if_pos q3, if_pos q3]
  rw [if_neg q3] at hb
  rw [if_neg q3, if_neg q3]
  unfold vetB at hb
  simp only [Bool.and_eq_true, Bool.or_eq_true, decide_eq_true_eq] at hb
  unfold vetL
  by_cases hv : vbadB m.proof m.code = true
  · have hv2 := hv
    unfold vbadB at hv2
    simp only [Bool.and_eq_true, decide_eq_true_eq] at hv2
    rw [if_pos (List.eq_nil_of_length_eq_zero hv2.1), if_pos hv]
    simp
  · have hp := (hb.1.resolve_right hv).1
    rw [if_neg (fun e => by rw [e] at hp; simp at hp), if_neg hv]
    simp
/-- Names that the document's Text lets by. -/
def nmB (p : Pr) : Bool := decide (p.n.length = 1) && !(p.n == [109])
theorem right_nm {no : List UInt8} {fs : List Pr} (h : fs.all (rightE no) = true) : fs.all nmB = true := by
  rw [List.all_eq_true] at h ⊢
  intro p hp
  have := h p hp
  unfold rightE at this
  simp only [Bool.and_eq_true] at this
  unfold nmB
  rw [this.1, this.2.2.2.1]; rfl
theorem txtB_nm (m : Ms) (h : txtB m = true) : m.ext.all nmB = true := by
  unfold txtB at h
  split at h
  · unfold frtB at h; simp only [Bool.and_eq_true] at h; exact right_nm h.2.2.2.2
  split at h
  · unfold chtB at h; simp only [Bool.and_eq_true] at h; exact right_nm h.2.2.2.2.2
  split at h
  · unfold fitB at h; simp only [Bool.and_eq_true] at h; exact right_nm h.2.2.2.1
  · unfold vetB at h; simp only [Bool.and_eq_true] at h; exact right_nm h.2
theorem read_text (m : Ms) (hf : MsF m) (hb : txtB m = true) (hl : (txtL m).length ≤ 4096) : rRead m.kind (txtL m) = (m, 0) := by
  have h1 := hf.hd
  rcases hf.can with ⟨fl, au, us, no, fs, rfl⟩ | ⟨no, fs, sl, it, rfl⟩ | ⟨no, fs, hd, pr, rfl⟩ | ⟨fs, pr, co, rfl⟩
  · exact trip_first fl au us no fs hb hl
  · exact trip_chal no sl it fs hb hl
  · exact trip_fin hd no pr fs (Nat.le_trans h1 (by decide)) hb hl
  · exact trip_verd pr co fs hb hl
/-- A text that isn't too long is read as its message just if that may be told. -/
theorem rtx_read (m : Ms) (hf : MsF m) (hl : (rtxL m).length ≤ 4096) : (rRead m.kind (rtxL m) = (m, 0)) ↔ txtB m = true := by
  constructor
  · exact fun h => (one_any h).2.1
  · intro hb
    rw [rtx_eq m hb] at hl ⊢
    exact read_text m hf hb hl
/-- An extension of a message that is too long: is it right? -/
def lnB (k : Int) (p : Pr) : Bool := letB (bt p.n 0) && (valB p.v && !(decide (k = 3) && (p.n == [112])))
/-- Its other parts that may be long. -/
def loB (m : Ms) : Bool :=
  if m.kind = 1 then valB (escF m.user) && (decide (m.authz = []) || valB (escF m.authz))
  else if m.kind = 3 then (rHdF m.head).1 && !(rHdF m.head).2
  else if m.kind = 4 ∧ m.proof = [] then valB m.code else true
/-- The short message of a long one. -/
def shM (m : Ms) : Ms := ⟨m.kind, m.flag, if m.kind = 1 then [] else m.authz, if m.kind = 1 then [117] else m.user, m.nonce, [], m.salt, m.iter, if m.kind = 3 then [110, 44, 44] else m.head, m.proof, if m.kind = 4 ∧ m.proof = [] then [120] else m.code⟩
def rlB (m : Ms) : Bool := m.ext.all (lnB m.kind) && (loB m && txtB (shM m))
theorem all_and {α : Type} (l : List α) (p q : α → Bool) : l.all (fun x => p x && q x) = (l.all p && l.all q) := by
  induction l with
  | nil => rfl
  | cons a r ih => simp only [List.all_cons, ih]; cases p a <;> cases q a <;> simp
theorem right_lnB (k : Int) (no : List UInt8) (hno : no = if k = 3 then [112] else []) (fs : List Pr) (hn : fs.all nmB = true) : fs.all (lnB k) = fs.all (rightE no) := by
  rw [Bool.eq_iff_iff, List.all_eq_true, List.all_eq_true]
  rw [List.all_eq_true] at hn
  refine forall_congr' fun p => forall_congr' fun hp => ?_
  have h := hn p hp
  unfold nmB at h
  simp only [Bool.and_eq_true, decide_eq_true_eq, Bool.not_eq_true', beq_eq_false_iff_ne, ne_eq] at h
  unfold lnB rightE
  by_cases q : k = 3
  · rw [if_pos q] at hno
    subst hno
    simp [h.1, h.2, q]
  · rw [if_neg q] at hno
    subst hno
    have : p.n ≠ [] := fun e => by rw [e] at h; simp at h
    simp [h.1, h.2, q, this]
theorem rl_txtB (m : Ms) (hf : MsF m) (hn : m.ext.all nmB = true) : rlB m = txtB m := by
  unfold rlB
  rcases hf.can with ⟨fl, au, us, no, fs, rfl⟩ | ⟨no, fs, sl, it, rfl⟩ | ⟨no, fs, hd, pr, rfl⟩ | ⟨fs, pr, co, rfl⟩
  · rw [right_lnB _ [] rfl _ hn]
    have hu : valB (escF [117]) = true := by decide +kernel
    simp [loB, shM, txtB, frtB, hu]
    grind
  · rw [right_lnB _ [] rfl _ hn]
    simp [loB, shM, txtB, chtB]
    grind
  · rw [right_lnB _ [112] rfl _ hn]
    obtain ⟨e1, e2⟩ := head_eq hd
    have hu : headF [110, 44, 44] = (true, false) := by decide +kernel
    simp [loB, shM, txtB, fitB, hu]
    rw [← e1]
    cases hh : (headF hd).1 with
    | false => simp
    | true =>
      rw [← e2 (by rw [← e1]; exact hh)]
      grind
  · rw [right_lnB _ [] rfl _ hn]
    have hu : valB [120] = true := by decide +kernel
    by_cases q : pr = []
    · subst q
      simp [loB, shM, txtB, vetB, vbadB, hu]
      grind
    · have q2 : ¬ pr.length = 0 := fun e => q (List.eq_nil_of_length_eq_zero e)
      simp [loB, shM, txtB, vetB, vbadB, q]
      grind
theorem msF_sh (m : Ms) (hf : MsF m) : MsF (shM m) := by
  obtain ⟨c, h1, h2, h3, h4, h5, h6, h7, h8, h9, h10, -, -⟩ := hf
  rcases c with ⟨fl, au, us, no, fs, rfl⟩ | ⟨no, fs, sl, it, rfl⟩ | ⟨no, fs, hd, pr, rfl⟩ | ⟨fs, pr, co, rfl⟩
  · exact ⟨.inl ⟨fl, [], [117], no, [], rfl⟩, h1, by simp [shM], by simp [shM], h4, h5, h6, h7, h8, h9, by simp [shM], by simp [shM], by simp [shM]⟩
  · exact ⟨.inr (.inl ⟨no, [], sl, it, rfl⟩), h1, by simp [shM], by simp [shM], h4, h5, h6, h7, h8, h9, by simp [shM], by simp [shM], by simp [shM]⟩
  · exact ⟨.inr (.inr (.inl ⟨no, [], [110, 44, 44], pr, rfl⟩)), h1, by simp [shM], by simp [shM], h4, h5, h6, h7, by simp [shM], h9, by simp [shM], by simp [shM], by simp [shM]⟩
  · refine ⟨.inr (.inr (.inr ⟨[], pr, (shM ⟨4, [], [], [], [], fs, [], 0, [], pr, co⟩).code, rfl⟩)), h1, by simp [shM], by simp [shM], h4, h5, h6, h7, by simp [shM], h9, ?_, by simp [shM], by simp [shM]⟩
    simp only [shM] at h10 ⊢
    split
    · simp
    · exact h10
theorem extL_few : ∀ (fs : List Pr) (h : ∀ p ∈ fs, p.n.length ≤ 3 ∧ p.v.length ≤ 2500), (extL fs).length ≤ fs.length * 2505
  | [], _ => by simp [extL]
  | q :: r, h => by
    have ih := extL_few r (fun p hp => h p (List.mem_cons_of_mem _ hp))
    have := h q (by simp)
    have e : (extL (q :: r)).length = q.n.length + q.v.length + 2 + (extL r).length := by
      unfold extL
      rw [List.flatMap_cons]
      simp
      omega
    rw [e]
    simp only [List.length_cons]
    omega
theorem allL_small (l : List UInt8) (h : l.length ≤ 100) : (allL plain true l).length ≤ 200 := by
  rw [allL_true, List.length_append, List.length_replicate, refN_len]
  omega
theorem numL_len (n : Int) (h1 : n ≤ 9223372036854775807) : (numL n).length ≤ 100 := by
  unfold numL
  split
  · simp
  · rename_i h
    have := Lib.itoa_length_le n (by omega) h1
    rw [← numL_itoa' n (by omega)] at this
    unfold numL at this
    rw [if_neg h] at this
    omega
theorem rtx_len (m : Ms) (hf : MsF m) : (rtxL m).length ≤ 2000 + (extL m.ext).length := by
  have e1 := escF_len m.authz; have e2 := escF_len m.user
  have a1 := allL_small m.salt (by have := hf.sl; omega); have a2 := allL_small m.head hf.hd; have a3 := allL_small m.proof (by have := hf.pr; omega)
  have n1 := numL_len m.iter hf.i2
  obtain ⟨-, h1, h2, h3, h4, h5, h6, h7, h8, h9, h10, -, -⟩ := hf
  unfold rtxL
  split
  · unfold fhdL fbaL
    split <;> simp <;> omega
  split
  · simp; omega
  split
  · unfold finL; simp; omega
  split
  · simp; omega
  · simp; omega
theorem rtx_len2 (m : Ms) (hf : MsF m) : (rtxL m).length ≤ 12100 := by
  have := rtx_len m hf
  have := extL_few m.ext hf.x2
  have := hf.x1
  omega
theorem sh_len (m : Ms) (hf : MsF m) : (rtxL (shM m)).length ≤ 2000 := by
  have := rtx_len (shM m) (msF_sh m hf)
  simpa [shM, extL] using this
theorem msF_ok (m : Ms) (hf : MsF m) : MsOk m := by
  obtain ⟨-, h1, h2, h3, h4, h5, h6, h7, h8, h9, h10, x1, x2⟩ := hf
  exact ⟨fun _ => ⟨by omega, by omega, by omega, by omega⟩, fun _ => ⟨by omega, by omega, h6, h7⟩, fun _ => ⟨by omega, by omega, by omega⟩, fun _ _ _ => ⟨by omega, by omega⟩, by omega, fun p hp => by have := x2 p hp; omega⟩
theorem rRead_long (k : Int) (s : List UInt8) (h : 4096 < s.length) : rRead k s = (Ms0, 3) := by
  unfold rRead rFirst rChal rFinal rVerd
  simp [h]
theorem txtV_bad (m : Ms) (h : m.ext.all nmB = false) : txtV m = ([], 4) := by
  have hb : txtB m = false := by
    rw [Bool.eq_false_iff]; intro hb
    rw [txtB_nm m hb] at h; cases h
  unfold txtV sizedV
  rw [hb, if_neg (by decide)]
theorem txtV_short (m : Ms) (hf : MsF m) (hl : ¬ 4096 < (rtxL m).length) : txtV m = if rRead m.kind (rtxL m) = (m, 0) then (rtxL m, 0) else ([], 4) := by
  have h := rtx_read m hf (by omega)
  unfold txtV sizedV
  by_cases hb : txtB m = true
  · rw [if_pos (h.2 hb), if_pos hb, ← rtx_eq m hb, if_pos (by omega)]
  · rw [if_neg (fun e => hb (h.1 e)), if_neg hb]
theorem txtV_long (m : Ms) (hf : MsF m) (hn : m.ext.all nmB = true) (hl : 4096 < (rtxL m).length) : txtV m = if rlB m = true then ([], 3) else ([], 4) := by
  rw [rl_txtB m hf hn]
  unfold txtV sizedV
  by_cases hb : txtB m = true
  · rw [if_pos hb, if_pos hb, ← rtx_eq m hb, if_neg (by omega)]
  · rw [if_neg hb, if_neg hb]
theorem kind_of (m : Ms) (hf : MsF m) : m.kind = 1 ∨ m.kind = 2 ∨ m.kind = 3 ∨ m.kind = 4 := by
  rcases hf.can with ⟨fl, au, us, no, fs, rfl⟩ | ⟨no, fs, sl, it, rfl⟩ | ⟨no, fs, hd, pr, rfl⟩ | ⟨fs, pr, co, rfl⟩ <;> simp
theorem txtV_sh (m : Ms) (hf : MsF m) : txtV (shM m) = if txtB (shM m) = true then (txtL (shM m), 0) else ([], 4) := by
  have hl := sh_len m hf
  unfold txtV sizedV
  by_cases hb : txtB (shM m) = true
  · rw [if_pos hb, if_pos hb, ← rtx_eq _ hb, if_pos (by omega)]
  · rw [if_neg hb, if_neg hb]
/-- What may be told is read of its text. -/
theorem txtV_ok (m : Ms) (hf : MsF m) (h : (txtV m).2 = 0) : rRead m.kind (txtV m).1 = (m, 0) ∧ (txtV m).1.length ≤ 10000 := by
  unfold txtV sizedV at h ⊢
  by_cases hb : txtB m = true
  · rw [if_pos hb] at h ⊢
    by_cases hl : (txtL m).length ≤ 4096
    · rw [if_pos hl]
      exact ⟨read_text m hf hb hl, by show (txtL m).length ≤ 10000; omega⟩
    · rw [if_neg hl] at h; cases h
  · rw [if_neg hb] at h; cases h
end Go.Proofs.YtjkbigecejogdaaDoor
