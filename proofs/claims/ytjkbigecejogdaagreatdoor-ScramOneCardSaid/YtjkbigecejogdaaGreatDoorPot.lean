/-
  What is read of a text is told by just that text (plain): challenge, final, verdict.
-/
import Derived.Test.YtjkbigecejogdaaGreatDoorRows
import Derived.Test.YtjkbigecejogdaaGreatDoorPon
import Derived.Test.YtjkbigecejogdaaGreatDoorFtx
import Derived.Test.YtjkbigecejogdaaGreatDoorVtx
namespace Go.Proofs.YtjkbigecejogdaaGreatDoor
set_option linter.unusedVariables false
set_option linter.unusedSimpArgs false
theorem rnd_itoa {x : List UInt8} (h : rndN x ≠ 0) : Lib.itoa (rndN x : Int) = x ∧ 1 ≤ (rndN x : Int) ∧ (rndN x : Int) ≤ 64 := by
  have hb : rndB x = true := by
    unfold rndN at h
    by_cases q : rndB x = true
    · exact q
    · rw [if_neg q] at h; exact absurd rfl h
  obtain ⟨e1, e2⟩ := rndB_spec x
  have e3 := e2 hb
  have e4 : rndN x = valD 0 x := by unfold rndN; rw [if_pos hb]
  rw [hb] at e1
  have e5 := e1.symm
  simp only [Bool.and_eq_true, decide_eq_true_eq, beq_iff_eq] at e5
  obtain ⟨-, f1, f2, f3⟩ := e5
  rw [e3] at f1 f2 f3
  rw [e4]
  exact ⟨f3, f1, f2⟩
theorem one_chal {s : List UInt8} {m : Ms} (h : rChal s = (m, 0)) :
    m.kind = 2 ∧ chtL m.nonce m.salt m.iter m.ext = s ∧ chtB m.nonce m.salt m.iter m.ext = true ∧ s.length ≤ 4096 := by
  unfold rChal at h
  by_cases h4 : 4096 < s.length
  · rw [if_pos h4] at h; simp at h
  rw [if_neg h4] at h
  by_cases hl : (spl s).length < 3
  · rw [if_pos hl] at h; simp at h
  rw [if_neg hl] at h
  have hj := join_spl s
  match hsp : spl s, hl with
  | a :: b :: c :: xs, _ =>
    rw [hsp] at h hj
    unfold rC2 at h
    simp only [lat_cons, lat_zero, List.drop_succ_cons, List.drop_zero] at h
    split at h
    · simp at h
    rename_i hc
    split at h
    · simp at h
    rename_i hd
    simp only [Bool.not_eq_false, Bool.and_eq_true] at hc
    obtain ⟨h0, h1, h2, hby, hx, hn, hr⟩ := hc
    obtain ⟨hx1, hx2⟩ := extsV_ok hx
    have ha := beh_true h0; have hb := beh_true h1; have hcc := beh_true h2
    rw [hx1] at h hd
    simp only [Bool.not_eq_true] at hd
    simp only [Prod.mk.injEq, and_true] at h
    have hr' := of_decide_eq_true hr
    obtain ⟨r1, r2, r3⟩ := rnd_itoa hr'
    unfold byB at hby
    simp only [Bool.and_eq_true, decide_eq_true_eq] at hby
    have hcan := decF_canon _ hby.1
    have hxa := allOkE_at hx2
    rw [← h]
    refine ⟨rfl, ?_, ?_, by omega⟩
    · unfold chtL
      simp only
      rw [hcan, r1, extL_at xs hxa]
      rw [ha, hb, hcc] at hj
      simp only [joinC, List.flatMap_cons] at hj
      rw [← hj]
      simp
    · unfold chtB
      simp only
      rw [hn, right_of xs [] hx2 hd (fun p hp => by
        obtain ⟨x, t, rfl⟩ := isAt_form (List.all_eq_true.1 hxa p hp)
        simp)]
      simp only [hby.2.1, hby.2.2, r2, r3, decide_true, Bool.and_self, Bool.true_and]
  | [], h => simp at h
  | [_], h => simp at h
  | [_, _], h => simp at h
theorem one_fin {s : List UInt8} {m : Ms} (h : rFinal s = (m, 0)) :
    m.kind = 3 ∧ finL m.head m.nonce m.ext ++ 44 :: 112 :: 61 :: allL plain true m.proof = s ∧ fitB m.head m.nonce m.proof m.ext = true ∧ s.length ≤ 4096 := by
  unfold rFinal at h
  by_cases h4 : 4096 < s.length
  · rw [if_pos h4] at h; simp at h
  rw [if_neg h4] at h
  by_cases hl : (spl s).length < 3
  · rw [if_pos hl] at h; simp at h
  rw [if_neg hl] at h
  have hj := join_spl s
  match hsp : spl s, hl with
  | a :: b :: c :: r, _ =>
    obtain ⟨ys, z, hyz⟩ := snoc_of (c :: r) (by simp)
    rw [hsp, hyz] at h hj
    obtain ⟨e1, e2⟩ := midL_snoc a b ys z
    have e0 : lat (a :: b :: (ys ++ [z])) 0 = a := rfl
    have e3 : lat (a :: b :: (ys ++ [z])) 1 = b := rfl
    unfold rN2 at h
    rw [e0, e1, e2, e3] at h
    split at h
    · simp at h
    rename_i hc
    split at h
    · simp at h
    rename_i hd
    simp only [Bool.not_eq_false, Bool.and_eq_true] at hc
    obtain ⟨h0, h1, h2, hbc, hbp, hx, ⟨hrh, hnp⟩, hn⟩ := hc
    obtain ⟨hx1, hx2⟩ := extsV_ok hx
    have ha := beh_true h0; have hb := beh_true h1; have hz := beh_true h2
    rw [hx1] at h hd hnp
    simp only [Bool.or_eq_true, not_or, Bool.not_eq_true] at hd
    simp only [Prod.mk.injEq, and_true] at h
    unfold byB at hbc hbp
    simp only [Bool.and_eq_true, decide_eq_true_eq] at hbc hbp
    have hc1 := decF_canon _ hbc.1
    have hc2 := decF_canon _ hbp.1
    have hxa := allOkE_at hx2
    obtain ⟨he1, he2⟩ := head_eq (decF (beh a 99 61).1).1
    rw [← h]
    refine ⟨rfl, ?_, ?_, by omega⟩
    · unfold finL
      simp only
      rw [hc1, hc2, extL_at ys hxa]
      rw [ha, hb, hz] at hj
      simp only [joinC, List.flatMap_cons, List.flatMap_append, List.flatMap_nil] at hj
      rw [← hj]
      simp
    · unfold fitB
      simp only
      rw [he1, hrh, he2 hrh, hd.1, hn, right_of ys [112] hx2 hd.2 (fun p hp e => by
        have := List.all_eq_true.1 hnp (atPr p) (List.mem_map_of_mem hp)
        unfold atPr at this
        simp only [bne_iff_ne, ne_eq] at this
        exact this e)]
      have : (decF (beh z 112 61).1).1.length = 32 := by omega
      rw [this]
      rfl
  | [], h => simp at h
  | [_], h => simp at h
  | [_, _], h => simp at h
theorem one_verd {s : List UInt8} {m : Ms} (h : rVerd s = (m, 0)) :
    m.kind = 4 ∧ vetL m.proof m.code m.ext = s ∧ vetB m.proof m.code m.ext = true ∧ s.length ≤ 4096 := by
  unfold rVerd at h
  by_cases h4 : 4096 < s.length
  · rw [if_pos h4] at h; simp at h
  rw [if_neg h4] at h
  have hj := join_spl s
  match hsp : spl s with
  | [] => exact absurd hsp (spl_ne s)
  | a :: xs =>
    rw [hsp] at h hj
    unfold rV2 at h
    simp only [lat_cons, lat_zero, List.drop_succ_cons, List.drop_zero] at h
    split at h
    · simp at h
    rename_i hx
    simp only [Bool.not_eq_false] at hx
    obtain ⟨hx1, hx2⟩ := extsV_ok hx
    have hxa := allOkE_at hx2
    have hnn : ∀ p ∈ xs, p.take 1 ≠ [] := fun p hp => by
      obtain ⟨x, t, rfl⟩ := isAt_form (List.all_eq_true.1 hxa p hp)
      simp
    rw [hx1] at h
    split at h
    · rename_i h0
      split at h
      · simp at h
      rename_i hv
      split at h
      · simp at h
      rename_i hd
      simp only [Bool.not_eq_false] at hv
      simp only [Bool.not_eq_true] at hd
      simp only [Prod.mk.injEq, and_true] at h
      have ha := beh_true h0
      have hb : vbadB [] (beh a 101 61).1 = true := by unfold vbadB; rw [hv]; rfl
      rw [← h]
      refine ⟨rfl, ?_, ?_, by omega⟩
      · unfold vetL
        simp only
        rw [hb, if_pos rfl, extL_at xs hxa]
        rw [ha] at hj
        simp only [joinC] at hj
        rw [← hj]
      · unfold vetB
        simp only
        rw [hb, right_of xs [] hx2 hd hnn]
        simp
    · split at h
      · simp at h
      rename_i hc
      split at h
      · simp at h
      rename_i hd
      simp only [Bool.not_eq_false, Bool.and_eq_true] at hc
      simp only [Bool.not_eq_true] at hd
      simp only [Prod.mk.injEq, and_true] at h
      have ha := beh_true hc.1
      have hby := hc.2
      unfold byB at hby
      simp only [Bool.and_eq_true, decide_eq_true_eq] at hby
      have hcan := decF_canon _ hby.1
      have hlen : (decF (beh a 118 61).1).1.length = 32 := by omega
      have hb : vbadB (decF (beh a 118 61).1).1 [] = false := by unfold vbadB; rw [hlen]; rfl
      rw [← h]
      refine ⟨rfl, ?_, ?_, by omega⟩
      · unfold vetL
        simp only
        rw [hb, hcan, extL_at xs hxa]
        rw [ha] at hj
        simp only [joinC] at hj
        rw [← hj]
        rfl
      · unfold vetB
        simp only
        rw [hb, right_of xs [] hx2 hd hnn, hlen]
        rfl
end Go.Proofs.YtjkbigecejogdaaGreatDoor
