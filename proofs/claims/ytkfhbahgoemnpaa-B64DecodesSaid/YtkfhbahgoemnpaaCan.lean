/-
  Plain laws: what is decoded is the one form of its bytes.
-/
import Derived.Test.YtkfhbahgoemnpaaRuh
import Derived.Test.YtkfhbahgoemnpaaRfd
namespace Go.Proofs.Ytkfhbahgoemnpaa
set_option linter.unusedVariables false
set_option linter.unusedSimpArgs false

theorem hexI_back (c : UInt8) (h : (hexI c != -1) = true) : ∃ v : Nat, v < 16 ∧ hexI c = (v : Int) ∧ bt hexd v = c := by
  have hr := hexI_range c
  have hne : hexI c ≠ -1 := by simpa using h
  obtain ⟨v, hv⟩ := Int.eq_ofNat_of_zero_le (show 0 ≤ hexI c by omega)
  have hv16 : v < 16 := by omega
  exact ⟨v, hv16, hv, (hexI_at v hv16 c).2 hv⟩
theorem hex_canon : ∀ (n : Nat) (s : List UInt8), s.length = 2 * n → okH s n = true → hexL (unhN s n) = s
  | 0, s, h, _ => by
    obtain rfl : s = [] := List.eq_nil_of_length_eq_zero (by omega)
    rfl
  | n + 1, s, h, hok => by
    match s, h, hok with
    | a :: b :: s, h, hok =>
      rw [okH_cons] at hok
      simp only [Bool.and_eq_true, grpH, List.all_cons, List.all_nil, Bool.and_true] at hok
      obtain ⟨⟨h1, h2⟩, h3⟩ := hok
      obtain ⟨va, la, ea, ba⟩ := hexI_back a h1
      obtain ⟨vb, lb, eb, bb⟩ := hexI_back b h2
      rw [unhN_cons]
      simp only [hexL]
      rw [hex_canon n s (by simp only [List.length_cons] at h; omega) h3]
      have e : (UInt8.ofNat (numH [a, b])).toNat = va * 16 + vb := by
        simp only [numH, List.foldl_cons, List.foldl_nil, ea, eb, Int.toNat_natCast]
        rw [UInt8.toNat_ofNat']; omega
      rw [e, show (va * 16 + vb) / 16 = va by omega, show (va * 16 + vb) % 16 = vb by omega, ba, bb]
    | [], h, _ => simp at h
    | [a], h, _ => simp at h; omega
theorem unhR_canon (s : List UInt8) (h : (unhR s).2 = 0) : hexL (unhR s).1 = s := by
  unfold unhR at h ⊢
  by_cases h1 : s.length % 2 = 0
  · by_cases h2 : okH s ((s.length + 1) / 2) = true
    · rw [if_pos h1, if_pos h2]
      exact hex_canon _ s (by omega) h2
    · rw [if_pos h1, if_neg h2] at h; simp at h
  · rw [if_neg h1] at h; simp at h

/-! ### Letters -/
theorem val_back (url : Bool) (c : UInt8) (h : (valL (alph url) c != -1) = true) : ∃ v : Nat, v < 64 ∧ valL (alph url) c = (v : Int) ∧ bt (alph url) v = c := by
  obtain ⟨v, hv, hl⟩ := val_nat (alph url) c h
  refine ⟨v, hl, hv, ?_⟩
  rcases val_hit url c with h1 | h1
  · rw [h1] at h; simp at h
  · rw [hv, Int.toNat_natCast] at h1; exact h1
theorem out_four (A : List UInt8) (a b c d : UInt8) (va vb vc vd : Nat) (la : va < 64) (lb : vb < 64) (lc : vc < 64) (ld : vd < 64) (ea : valL A a = (va : Int)) (eb : valL A b = (vb : Int)) (ec : valL A c = (vc : Int)) (ed : valL A d = (vd : Int)) :
    grpOut A [a, b, c, d] = [UInt8.ofNat (va * 4 + vb / 16), UInt8.ofNat (vb % 16 * 16 + vc / 4), UInt8.ofNat (vc % 4 * 64 + vd)] := by
  simp only [grpOut, grpNum, bitsN, List.foldl_cons, List.foldl_nil, List.length_cons, List.length_nil, Nat.reduceAdd, Nat.reduceSub, ea, eb, ec, ed, Int.toNat_natCast,
    List.range_succ, List.range_zero, List.nil_append, List.map_append, List.map_cons, List.map_nil, List.cons_append, Nat.reduceMul, Nat.reducePow, Nat.mul_one, Nat.zero_mul, Nat.zero_add, Nat.sub_zero, Nat.sub_self, Nat.mul_zero, Nat.pow_zero, Nat.div_one]
  rw [ofNat_eq (show (((va * 64 + vb) * 64 + vc) * 64 + vd) / 65536 % 256 = (va * 4 + vb / 16) % 256 by omega),
    ofNat_eq (show (((va * 64 + vb) * 64 + vc) * 64 + vd) / 256 % 256 = (vb % 16 * 16 + vc / 4) % 256 by omega),
    ofNat_eq (show (((va * 64 + vb) * 64 + vc) * 64 + vd) % 256 = (vc % 4 * 64 + vd) % 256 by omega)]
theorem enc_four (url : Bool) (a b c d : UInt8) (hok : okL (alph url) [a, b, c, d] = true) : ∃ x y z, grpOut (alph url) [a, b, c, d] = [x, y, z] ∧ encL (alph url) [x, y, z] = [a, b, c, d] := by
  simp only [okL, List.all_cons, List.all_nil, Bool.and_true, Bool.and_eq_true] at hok
  obtain ⟨h1, h2, h3, h4⟩ := hok
  obtain ⟨va, la, ea, ba⟩ := val_back url a h1
  obtain ⟨vb, lb, eb, bb⟩ := val_back url b h2
  obtain ⟨vc, lc, ec, bc⟩ := val_back url c h3
  obtain ⟨vd, ld, ed, bd⟩ := val_back url d h4
  refine ⟨_, _, _, out_four _ a b c d va vb vc vd la lb lc ld ea eb ec ed, ?_⟩
  rw [encL_three]
  simp only [UInt8.toNat_ofNat']
  rw [show (va * 4 + vb / 16) % 2 ^ 8 / 4 = va by omega, show (va * 4 + vb / 16) % 2 ^ 8 % 4 * 16 + (vb % 16 * 16 + vc / 4) % 2 ^ 8 / 16 = vb by omega,
    show (vb % 16 * 16 + vc / 4) % 2 ^ 8 % 16 * 4 + (vc % 4 * 64 + vd) % 2 ^ 8 / 64 = vc by omega, show (vc % 4 * 64 + vd) % 2 ^ 8 % 64 = vd by omega, ba, bb, bc, bd]
theorem decR_grp (A g : List UInt8) (h4 : 0 < g.length) (h5 : g.length ≤ 4) (h : (decR A g).2 = 0) : okL A g = true ∧ grpBad A g = false ∧ (decR A g).1 = grpOut A g := by
  have hn : (g.length + 3) / 4 = 1 := by omega
  have hp : piece g 0 = g := by unfold piece; rw [Nat.mul_zero, List.drop_zero, List.take_of_length_le h5]
  have ho : okN A g 1 = okL A g := by simp [okN, List.range_succ, hp, grpOk_eq]
  have hc : codN A g 1 = if grpBad A g then 4 else 0 := by simp [codN, hp]
  have hd : decN A g 1 = grpOut A g := by simp [decN, List.range_succ, hp]
  simp only [decR, hn, ho, hc, hd] at h ⊢
  cases h1 : okL A g with
  | false => simp [h1] at h
  | true =>
    cases h2 : grpBad A g with
    | true => simp [h1, h2] at h
    | false => simp
theorem enc_two (url : Bool) (a b c : UInt8) (hok : okL (alph url) [a, b, c] = true) (hbad : grpBad (alph url) [a, b, c] = false) : ∃ x y, grpOut (alph url) [a, b, c] = [x, y] ∧ encL (alph url) [x, y] = [a, b, c] := by
  simp only [okL, List.all_cons, List.all_nil, Bool.and_true, Bool.and_eq_true] at hok
  obtain ⟨h1, h2, h3⟩ := hok
  obtain ⟨va, la, ea, ba⟩ := val_back url a h1
  obtain ⟨vb, lb, eb, bb⟩ := val_back url b h2
  obtain ⟨vc, lc, ec, bc⟩ := val_back url c h3
  have hnum : grpNum (alph url) [a, b, c] = ((va * 64 + vb) * 64 + vc) * 64 := by
    simp only [grpNum, bitsN, List.foldl_cons, List.foldl_nil, List.length_cons, List.length_nil, Nat.reduceAdd, Nat.reduceSub, ea, eb, ec, Int.toNat_natCast, Nat.reduceMul, Nat.reducePow, Nat.zero_mul, Nat.zero_add]
  have hz : vc % 4 = 0 := by
    rw [grpBad, hnum] at hbad
    simp at hbad
    omega
  refine ⟨UInt8.ofNat (va * 4 + vb / 16), UInt8.ofNat (vb % 16 * 16 + vc / 4), ?_, ?_⟩
  · simp only [grpOut, hnum, List.length_cons, List.length_nil, Nat.reduceAdd, Nat.reduceSub, List.range_succ, List.range_zero, List.nil_append, List.map_append, List.map_cons, List.map_nil, List.cons_append, Nat.reduceMul, Nat.reducePow, Nat.mul_zero, Nat.sub_zero, Nat.mul_one]
    rw [ofNat_eq (show ((va * 64 + vb) * 64 + vc) * 64 / 65536 % 256 = (va * 4 + vb / 16) % 256 by omega),
      ofNat_eq (show ((va * 64 + vb) * 64 + vc) * 64 / 256 % 256 = (vb % 16 * 16 + vc / 4) % 256 by omega)]
  · rw [encL_two]
    simp only [UInt8.toNat_ofNat']
    rw [show (va * 4 + vb / 16) % 2 ^ 8 / 4 = va by omega, show (va * 4 + vb / 16) % 2 ^ 8 % 4 * 16 + (vb % 16 * 16 + vc / 4) % 2 ^ 8 / 16 = vb by omega,
      show (vb % 16 * 16 + vc / 4) % 2 ^ 8 % 16 * 4 = vc by omega, ba, bb, bc]
theorem enc_one (url : Bool) (a b : UInt8) (hok : okL (alph url) [a, b] = true) (hbad : grpBad (alph url) [a, b] = false) : ∃ x, grpOut (alph url) [a, b] = [x] ∧ encL (alph url) [x] = [a, b] := by
  simp only [okL, List.all_cons, List.all_nil, Bool.and_true, Bool.and_eq_true] at hok
  obtain ⟨h1, h2⟩ := hok
  obtain ⟨va, la, ea, ba⟩ := val_back url a h1
  obtain ⟨vb, lb, eb, bb⟩ := val_back url b h2
  have hnum : grpNum (alph url) [a, b] = (va * 64 + vb) * 4096 := by
    simp only [grpNum, bitsN, List.foldl_cons, List.foldl_nil, List.length_cons, List.length_nil, Nat.reduceAdd, Nat.reduceSub, ea, eb, Int.toNat_natCast, Nat.reduceMul, Nat.reducePow, Nat.zero_mul, Nat.zero_add]
  have hz : vb % 16 = 0 := by
    rw [grpBad, hnum] at hbad
    simp at hbad
    omega
  refine ⟨UInt8.ofNat (va * 4 + vb / 16), ?_, ?_⟩
  · simp only [grpOut, hnum, List.length_cons, List.length_nil, Nat.reduceAdd, Nat.reduceSub, List.range_succ, List.range_zero, List.nil_append, List.map_append, List.map_cons, List.map_nil, List.cons_append, Nat.reduceMul, Nat.reducePow, Nat.mul_zero, Nat.sub_zero, Nat.mul_one]
    rw [ofNat_eq (show (va * 64 + vb) * 4096 / 65536 % 256 = (va * 4 + vb / 16) % 256 by omega)]
  · rw [encL_one]
    simp only [UInt8.toNat_ofNat']
    rw [show (va * 4 + vb / 16) % 2 ^ 8 / 4 = va by omega, show (va * 4 + vb / 16) % 2 ^ 8 % 4 * 16 = vb by omega, ba, bb]
theorem dec_canon (url : Bool) : ∀ (n : Nat) (t : List UInt8), t.length ≤ n → t.length % 4 ≠ 1 → (decR (alph url) t).2 = 0 → allL (alph url) false (decR (alph url) t).1 = t
  | 0, t, h, _, _ => by
    obtain rfl : t = [] := List.eq_nil_of_length_eq_zero (by omega)
    simp [decR, okN, codN, decN, allL, allN]
  | n + 1, t, h, h4, h0 => by
    match t, h, h4, h0 with
    | [], _, _, _ => simp [decR, okN, codN, decN, allL, allN]
    | [a], _, h4, _ => simp at h4
    | [a, b], _, _, h0 =>
      obtain ⟨h1, h2, h3⟩ := decR_grp (alph url) [a, b] (by simp) (by simp) h0
      obtain ⟨x, e1, e2⟩ := enc_one url a b h1 h2
      rw [h3, e1, allL_short _ false [x] (by simp) (by simp)]
      simp only [chunk, Bool.false_eq_true, if_false, List.append_nil]
      exact e2
    | [a, b, c], _, _, h0 =>
      obtain ⟨h1, h2, h3⟩ := decR_grp (alph url) [a, b, c] (by simp) (by simp) h0
      obtain ⟨x, y, e1, e2⟩ := enc_two url a b c h1 h2
      rw [h3, e1, allL_short _ false [x, y] (by simp) (by simp)]
      simp only [chunk, Bool.false_eq_true, if_false, List.append_nil]
      exact e2
    | a :: b :: c :: d :: t, h, h4, h0 =>
      by_cases hok : okL (alph url) [a, b, c, d] = true
      · obtain ⟨x, y, z, e1, e2⟩ := enc_four url a b c d hok
        rw [decR_cons _ a b c d t (by rw [grpOk_eq]; exact hok)] at h0 ⊢
        have h5 : (decR (alph url) t).2 = 0 := h0
        simp only [h5, if_true]
        rw [e1]
        have := dec_canon url n t (by simp only [List.length_cons] at h; omega) (by simp only [List.length_cons] at h4; omega) h5
        simp only [List.cons_append, List.nil_append]
        rw [allL_cons, this]
        simp only [chunk, Bool.false_eq_true, if_false, List.append_nil]
        rw [e2]
        rfl
      · rw [decR_bad _ a b c d t hok] at h0
        simp at h0
theorem decU_canon (l : List UInt8) (h : (decU l).2 = 0) : allL other false (decU l).1 = l := by
  unfold decU at h ⊢
  by_cases h1 : l.length % 4 = 1
  · rw [if_pos h1] at h; simp at h
  · rw [if_neg h1] at h ⊢
    exact dec_canon true l.length l (Nat.le_refl _) h1 h
theorem trim_form (l : List UInt8) : l = trim l ∨ (l = trim l ++ [61] ∧ l.length = (trim l).length + 1) := by
  unfold trim
  by_cases h : 0 < l.length ∧ bt l (l.length - 1) = 61
  · refine .inr ?_
    rw [if_pos h]
    refine ⟨?_, by simp; omega⟩
    have := take_snoc l (l.length - 1) (by omega)
    rw [show l.length - 1 + 1 = l.length by omega, List.take_length, h.2] at this
    exact this
  · exact .inl (by rw [if_neg h])
theorem pads (l : List UInt8) : ∃ k, k ≤ 2 ∧ l = trimN l 2 ++ List.replicate k 61 ∧ l.length = (trimN l 2).length + k := by
  have t2 : trimN l 2 = trim (trim l) := rfl
  rw [t2]
  have r2 : List.replicate 2 (61 : UInt8) = [61] ++ [61] := rfl
  rcases trim_form l with h1 | ⟨h1, l1⟩ <;> rcases trim_form (trim l) with h2 | ⟨h2, l2⟩
  · exact ⟨0, by omega, by rw [← h2, ← h1]; simp, by rw [← h2, ← h1]; omega⟩
  · exact ⟨1, by omega, by show l = trim (trim l) ++ [61]; rw [← h2, ← h1], by rw [← h1] at l2 ⊢; omega⟩
  · exact ⟨1, by omega, by show l = trim (trim l) ++ [61]; rw [← h2, ← h1], by rw [← h2]; omega⟩
  · exact ⟨2, by omega, by rw [r2, ← List.append_assoc, ← h2, ← h1], by omega⟩
theorem decF_canon (l : List UInt8) (h : (decF l).2 = 0) : allL plain true (decF l).1 = l := by
  unfold decF at h ⊢
  by_cases h1 : l.length % 4 = 0
  · rw [if_pos h1] at h ⊢
    by_cases h2 : (trimN l 2).length % 4 = 1
    · rw [if_pos h2] at h; simp at h
    · rw [if_neg h2] at h ⊢
      have hc := dec_canon false _ (trimN l 2) (Nat.le_refl _) h2 h
      rw [show alph false = plain from rfl] at hc
      rw [allL_true]
      have hl := hc
      rw [allL_false] at hl
      have hn := congrArg List.length hl
      rw [refN_len] at hn
      rw [hl, hn]
      obtain ⟨k, hk, hf, hlen⟩ := pads l
      have : (4 - (trimN l 2).length % 4) % 4 = k := by omega
      rw [this]
      exact hf.symm
  · rw [if_neg h1] at h; simp at h

/-! ### The document's answers -/
theorem refDF_false_eq (l : List UInt8) (h : l.length % 4 = 0) : (trimN l 2).length % 4 ≠ 1 := by
  obtain ⟨k, hk, _, hlen⟩ := pads l
  omega
theorem decF_ref (l : List UInt8) : decF l = if l.length % 4 = 0 then refD plain (trimN l 2) else ([], 2) := by
  unfold decF
  by_cases h1 : l.length % 4 = 0
  · have h2 := refDF_false_eq l h1
    rw [if_pos h1, if_pos h1, if_neg h2]
    exact dec_ref plain _ _ (Nat.le_refl _) h2
  · rw [if_neg h1, if_neg h1]
theorem decU_ref (l : List UInt8) : decU l = if l.length % 4 = 1 then ([], 2) else refD other l := by
  unfold decU
  by_cases h1 : l.length % 4 = 1
  · rw [if_pos h1, if_pos h1]
  · rw [if_neg h1, if_neg h1]
    exact dec_ref other _ _ (Nat.le_refl _) h1
end Go.Proofs.Ytkfhbahgoemnpaa
