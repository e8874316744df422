/-
  Plain laws: what is encoded is decoded.
-/
import Derived.Test.YtkfhbahgoemnpaaPe
import Derived.Test.YtkfhbahgoemnpaaUnh
namespace Go.Proofs.Ytkfhbahgoemnpaa
set_option linter.unusedVariables false
set_option linter.unusedSimpArgs false

/-! ### Digits -/
theorem unhN_cons (a b : UInt8) (l : List UInt8) (n : Nat) : unhN (a :: b :: l) (n + 1) = UInt8.ofNat (numH [a, b]) :: unhN l n := by
  simp only [unhN, List.range_succ_eq_map, List.map_cons, List.map_map]
  refine congr (congrArg _ rfl) (List.map_congr_left fun j _ => ?_)
  simp only [Function.comp, pc]
  rw [show 2 * (j + 1) = 2 * j + 2 by omega]
  rfl
theorem okH_cons (a b : UInt8) (l : List UInt8) (n : Nat) : okH (a :: b :: l) (n + 1) = (grpH [a, b] && okH l n) := by
  simp only [okH, List.range_succ_eq_map, List.all_cons, List.all_map]
  refine congr (congrArg _ rfl) (congrArg (fun f => List.all (List.range n) f) (funext fun j => ?_))
  simp only [Function.comp, pc]
  rw [show 2 * (j + 1) = 2 * j + 2 by omega]
  rfl
theorem hex_all : ∀ n, n < 256 → numH [bt hexd (n / 16), bt hexd (n % 16)] = n ∧ grpH [bt hexd (n / 16), bt hexd (n % 16)] = true := by decide +kernel
theorem unh_hex : ∀ p : List UInt8, unhN (hexL p) p.length = p ∧ okH (hexL p) p.length = true
  | [] => ⟨rfl, rfl⟩
  | c :: p => by
    obtain ⟨h1, h2⟩ := unh_hex p
    obtain ⟨e1, e2⟩ := hex_all c.toNat c.toNat_lt
    simp only [hexL, List.length_cons]
    rw [unhN_cons, okH_cons, h1, h2, e1, e2, UInt8.ofNat_toNat]
    exact ⟨rfl, rfl⟩
theorem unhR_hex (p : List UInt8) : unhR (hexL p) = (p, 0) := by
  obtain ⟨h1, h2⟩ := unh_hex p
  have e : ((hexL p).length + 1) / 2 = p.length := by rw [hexL_len]; omega
  rw [unhR, if_pos (by rw [hexL_len]; omega), e, h1, h2]
  simp

/-! ### Letters -/
theorem val_plain : ∀ v, v < 64 → valL plain (bt plain v) = (v : Int) := by decide +kernel
theorem val_other : ∀ v, v < 64 → valL other (bt other v) = (v : Int) := by decide +kernel
theorem pad_plain : ∀ v, v < 64 → bt plain v ≠ 61 := by decide +kernel
theorem decN_cons (A : List UInt8) (a b c d : UInt8) (l : List UInt8) (n : Nat) : decN A (a :: b :: c :: d :: l) (n + 1) = grpOut A [a, b, c, d] ++ decN A l n := by
  simp only [decN, List.range_succ_eq_map, List.flatMap_cons, List.flatMap_map]
  refine congr (congrArg _ rfl) (congrArg (fun f => List.flatMap f (List.range n)) (funext fun j => ?_))
  simp only [Function.comp, piece]
  rw [show 4 * (j + 1) = 4 * j + 4 by omega]
  rfl
theorem okN_cons (A : List UInt8) (a b c d : UInt8) (l : List UInt8) (n : Nat) : okN A (a :: b :: c :: d :: l) (n + 1) = (grpOk A [a, b, c, d] && okN A l n) := by
  simp only [okN, List.range_succ_eq_map, List.all_cons, List.all_map]
  refine congr (congrArg _ rfl) (congrArg (fun f => List.all (List.range n) f) (funext fun j => ?_))
  simp only [Function.comp, piece]
  rw [show 4 * (j + 1) = 4 * j + 4 by omega]
  rfl
theorem codN_cons (A : List UInt8) (a b c d : UInt8) (l : List UInt8) : ∀ n, codN A (a :: b :: c :: d :: l) (n + 1) = codN A l n
  | 0 => by simp [codN, grpBad, piece]
  | n + 1 => by
    have h := codN_cons A a b c d l n
    show (if grpBad A (piece (a :: b :: c :: d :: l) (n + 1)) then 4 else codN A (a :: b :: c :: d :: l) (n + 1)) = (if grpBad A (piece l n) then 4 else codN A l n)
    rw [h]
    have : piece (a :: b :: c :: d :: l) (n + 1) = piece l n := by
      unfold piece
      rw [show 4 * (n + 1) = 4 * n + 4 by omega]
      rfl
    rw [this]
theorem decR_cons (A : List UInt8) (a b c d : UInt8) (l : List UInt8) (hok : grpOk A [a, b, c, d] = true) :
    decR A (a :: b :: c :: d :: l) = (if (decR A l).2 = 0 then grpOut A [a, b, c, d] ++ (decR A l).1 else [], (decR A l).2) := by
  have e : ((a :: b :: c :: d :: l).length + 3) / 4 = (l.length + 3) / 4 + 1 := by simp only [List.length_cons]; omega
  simp only [decR]
  rw [e, okN_cons, hok, codN_cons, decN_cons, Bool.true_and]
  by_cases h : okN A l ((l.length + 3) / 4) = true
  · by_cases h2 : codN A l ((l.length + 3) / 4) = 0
    · simp [h, h2]
    · simp [h, h2]
  · simp [h]
theorem encL_three (A : List UInt8) (x y z : UInt8) : encL A [x, y, z] = [bt A (x.toNat / 4), bt A (x.toNat % 4 * 16 + y.toNat / 16), bt A (y.toNat % 16 * 4 + z.toNat / 64), bt A (z.toNat % 64)] := by
  rw [encL_ref A _ (by simp)]
  simp only [refN, List.length_cons, List.length_nil, Nat.reduceAdd, List.range_succ, List.range_zero, List.nil_append, List.map_append, List.map_cons, List.map_nil, List.cons_append, Nat.mul_zero, Nat.mul_one, Nat.reduceMul, six0, six1, six2, six3]
  rfl
theorem encL_two (A : List UInt8) (x y : UInt8) : encL A [x, y] = [bt A (x.toNat / 4), bt A (x.toNat % 4 * 16 + y.toNat / 16), bt A (y.toNat % 16 * 4)] := by
  rw [encL_ref A _ (by simp)]
  simp only [refN, List.length_cons, List.length_nil, Nat.reduceAdd, List.range_succ, List.range_zero, List.nil_append, List.map_append, List.map_cons, List.map_nil, List.cons_append, Nat.mul_zero, Nat.mul_one, Nat.reduceMul, six0, six1, six2, six3]
  simp [bt]
theorem encL_one (A : List UInt8) (x : UInt8) : encL A [x] = [bt A (x.toNat / 4), bt A (x.toNat % 4 * 16)] := by
  rw [encL_ref A _ (by simp)]
  simp only [refN, List.length_cons, List.length_nil, Nat.reduceAdd, List.range_succ, List.range_zero, List.nil_append, List.map_append, List.map_cons, List.map_nil, List.cons_append, Nat.mul_zero, Nat.mul_one, Nat.reduceMul, six0, six1, six2, six3]
  simp [bt]
section
variable {A : List UInt8} (hv : ∀ v, v < 64 → valL A (bt A v) = (v : Int))
 include hv
theorem ok_letters (vs : List Nat) (h : ∀ v ∈ vs, v < 64) : grpOk A (vs.map (bt A)) = true := by
  simp only [grpOk, List.all_map, List.all_eq_true, Function.comp]
  intro v hm
  rw [hv v (h v hm)]
  simp
theorem bits_letters : ∀ (vs : List Nat), (∀ v ∈ vs, v < 64) → ∀ b, (vs.map (bt A)).foldl (fun b c => b * 64 + (valL A c).toNat) b = vs.foldl (fun b v => b * 64 + v) b
  | [], _, _ => rfl
  | v :: vs, h, b => by
    simp only [List.map_cons, List.foldl_cons]
    rw [hv v (h v (by simp)), Int.toNat_natCast]
    exact bits_letters vs (fun u hu => h u (by simp [hu])) _
theorem dec_three (x y z : UInt8) : grpOk A (encL A [x, y, z]) = true ∧ grpOut A (encL A [x, y, z]) = [x, y, z] := by
  have hx := x.toNat_lt; have hy := y.toNat_lt; have hz := z.toNat_lt
  rw [encL_three]
  have hl : ∀ v ∈ [x.toNat / 4, x.toNat % 4 * 16 + y.toNat / 16, y.toNat % 16 * 4 + z.toNat / 64, z.toNat % 64], v < 64 := by
    intro v hm; simp at hm; omega
  refine ⟨ok_letters hv _ hl, ?_⟩
  have hb := bits_letters hv _ hl 0
  simp only [List.map_cons, List.map_nil, List.foldl_cons, List.foldl_nil] at hb
  simp only [grpOut, grpNum, bitsN, List.foldl_cons, List.foldl_nil, List.length_cons, List.length_nil, Nat.reduceAdd, Nat.reduceSub]
  rw [hb]
  simp only [List.range_succ, List.range_zero, List.nil_append, List.map_append, List.map_cons, List.map_nil, List.cons_append, Nat.reduceSub, Nat.reduceMul, Nat.reducePow, Nat.mul_one, Nat.zero_mul, Nat.zero_add, Nat.sub_zero, Nat.sub_self, Nat.mul_zero, Nat.pow_zero, Nat.div_one]
  have e1 : UInt8.ofNat ((((x.toNat / 4 * 64 + (x.toNat % 4 * 16 + y.toNat / 16)) * 64 + (y.toNat % 16 * 4 + z.toNat / 64)) * 64 + z.toNat % 64) / 65536) = x := by
    apply UInt8.toNat_inj.1; rw [UInt8.toNat_ofNat']; omega
  have e2 : UInt8.ofNat ((((x.toNat / 4 * 64 + (x.toNat % 4 * 16 + y.toNat / 16)) * 64 + (y.toNat % 16 * 4 + z.toNat / 64)) * 64 + z.toNat % 64) / 256) = y := by
    apply UInt8.toNat_inj.1; rw [UInt8.toNat_ofNat']; omega
  have e3 : UInt8.ofNat (((x.toNat / 4 * 64 + (x.toNat % 4 * 16 + y.toNat / 16)) * 64 + (y.toNat % 16 * 4 + z.toNat / 64)) * 64 + z.toNat % 64) = z := by
    apply UInt8.toNat_inj.1; rw [UInt8.toNat_ofNat']; omega
  rw [e1, e2, e3]
theorem dec_two (x y : UInt8) : grpOk A (encL A [x, y]) = true ∧ grpOut A (encL A [x, y]) = [x, y] ∧ grpBad A (encL A [x, y]) = false := by
  have hx := x.toNat_lt; have hy := y.toNat_lt
  rw [encL_two]
  have hl : ∀ v ∈ [x.toNat / 4, x.toNat % 4 * 16 + y.toNat / 16, y.toNat % 16 * 4], v < 64 := by
    intro v hm; simp at hm; omega
  refine ⟨ok_letters hv _ hl, ?_⟩
  have hb := bits_letters hv _ hl 0
  simp only [List.map_cons, List.map_nil, List.foldl_cons, List.foldl_nil] at hb
  simp only [grpOut, grpBad, grpNum, bitsN, List.foldl_cons, List.foldl_nil, List.length_cons, List.length_nil, Nat.reduceAdd, Nat.reduceSub]
  rw [hb]
  simp only [List.range_succ, List.range_zero, List.nil_append, List.map_append, List.map_cons, List.map_nil, List.cons_append, Nat.reduceSub, Nat.reduceMul, Nat.reducePow, Nat.mul_one, Nat.zero_mul, Nat.zero_add, Nat.sub_zero, Nat.sub_self, Nat.mul_zero, Nat.pow_zero, Nat.div_one]
  have e1 : UInt8.ofNat (((x.toNat / 4 * 64 + (x.toNat % 4 * 16 + y.toNat / 16)) * 64 + y.toNat % 16 * 4) * 64 / 65536) = x := by
    apply UInt8.toNat_inj.1; rw [UInt8.toNat_ofNat']; omega
  have e2 : UInt8.ofNat (((x.toNat / 4 * 64 + (x.toNat % 4 * 16 + y.toNat / 16)) * 64 + y.toNat % 16 * 4) * 64 / 256) = y := by
    apply UInt8.toNat_inj.1; rw [UInt8.toNat_ofNat']; omega
  rw [e1, e2]
  refine ⟨rfl, ?_⟩
  simp
  omega
theorem dec_one (x : UInt8) : grpOk A (encL A [x]) = true ∧ grpOut A (encL A [x]) = [x] ∧ grpBad A (encL A [x]) = false := by
  have hx := x.toNat_lt
  rw [encL_one]
  have hl : ∀ v ∈ [x.toNat / 4, x.toNat % 4 * 16], v < 64 := by
    intro v hm; simp at hm; omega
  refine ⟨ok_letters hv _ hl, ?_⟩
  have hb := bits_letters hv _ hl 0
  simp only [List.map_cons, List.map_nil, List.foldl_cons, List.foldl_nil] at hb
  simp only [grpOut, grpBad, grpNum, bitsN, List.foldl_cons, List.foldl_nil, List.length_cons, List.length_nil, Nat.reduceAdd, Nat.reduceSub]
  rw [hb]
  simp only [List.range_succ, List.range_zero, List.nil_append, List.map_append, List.map_cons, List.map_nil, List.cons_append, Nat.reduceSub, Nat.reduceMul, Nat.reducePow, Nat.mul_one, Nat.zero_mul, Nat.zero_add, Nat.sub_zero, Nat.sub_self, Nat.mul_zero, Nat.pow_zero, Nat.div_one]
  have e1 : UInt8.ofNat ((x.toNat / 4 * 64 + x.toNat % 4 * 16) * 4096 / 65536) = x := by
    apply UInt8.toNat_inj.1; rw [UInt8.toNat_ofNat']; omega
  rw [e1]
  refine ⟨rfl, ?_⟩
  simp
  omega
theorem dec_enc : ∀ (n : Nat) (p : List UInt8), p.length ≤ n → decR A (allL A false p) = (p, 0)
  | 0, p, h => by
    obtain rfl : p = [] := List.eq_nil_of_length_eq_zero (by omega)
    simp [decR, okN, codN, decN, allL, allN]
  | n + 1, p, h => by
    match p, h with
    | [], _ => simp [decR, okN, codN, decN, allL, allN]
    | [x], _ =>
      obtain ⟨h1, h2, h3⟩ := dec_one hv x
      rw [allL_short A false [x] (by simp) (by simp)]
      simp only [chunk, Bool.false_eq_true, if_false, List.append_nil]
      rw [encL_one] at *
      simp [decR, okN, codN, decN, piece, h1, h2, h3]
    | [x, y], _ =>
      obtain ⟨h1, h2, h3⟩ := dec_two hv x y
      rw [allL_short A false [x, y] (by simp) (by simp)]
      simp only [chunk, Bool.false_eq_true, if_false, List.append_nil]
      rw [encL_two] at *
      simp [decR, okN, codN, decN, piece, h1, h2, h3]
    | x :: y :: z :: p, h =>
      obtain ⟨h1, h2⟩ := dec_three hv x y z
      rw [allL_cons]
      simp only [chunk, Bool.false_eq_true, if_false, List.append_nil]
      rw [encL_three] at *
      simp only [List.cons_append, List.nil_append]
      rw [decR_cons A _ _ _ _ _ h1, dec_enc n p (by simp only [List.length_cons] at h; omega), h2]
      simp
end
theorem allL_false (A p : List UInt8) : allL A false p = refN A p ((8 * p.length + 5) / 6) := by
  rw [← refEnc_all A false p.length p (Nat.le_refl _)]
  simp [refEnc]
theorem allL_true (A p : List UInt8) : allL A true p = refN A p ((8 * p.length + 5) / 6) ++ List.replicate ((4 - (8 * p.length + 5) / 6 % 4) % 4) 61 := by
  rw [← refEnc_all A true p.length p (Nat.le_refl _)]
  simp [refEnc, refN_len]
theorem decU_enc (p : List UInt8) : decU (allL other false p) = (p, 0) := by
  have hl : (allL other false p).length = (8 * p.length + 5) / 6 := by rw [allL_false, refN_len]
  rw [decU, if_neg (by rw [hl]; omega)]
  exact dec_enc val_other p.length p (Nat.le_refl _)
theorem trim_pad (m : List UInt8) : trim (m ++ [61]) = m := by
  unfold trim
  rw [if_pos ⟨by simp, by simp [bt]⟩]
  simp
theorem trim_none (m : List UInt8) (h : ∀ c ∈ m, c ≠ 61) : trim m = m := by
  unfold trim
  refine if_neg fun hh => ?_
  have : bt m (m.length - 1) ∈ m := by
    rw [bt_get m _ (by omega)]
    exact List.getElem_mem _
  exact h _ this hh.2
theorem decF_enc (p : List UInt8) : decF (allL plain true p) = (p, 0) := by
  have h0 := dec_enc val_plain p.length p (Nat.le_refl _)
  rw [allL_false] at h0
  rw [allL_true]
  have hl := refN_len plain p ((8 * p.length + 5) / 6)
  have hn : ∀ c ∈ refN plain p ((8 * p.length + 5) / 6), c ≠ 61 := by
    intro c hc
    obtain ⟨j, _, rfl⟩ := List.mem_map.1 hc
    exact pad_plain _ (sixN_lt p _ 6)
  generalize refN plain p ((8 * p.length + 5) / 6) = m at *
  have hcase : (8 * p.length + 5) / 6 % 4 = 0 ∨ (8 * p.length + 5) / 6 % 4 = 2 ∨ (8 * p.length + 5) / 6 % 4 = 3 := by omega
  generalize (8 * p.length + 5) / 6 = k at *
  have t2 : ∀ x, trimN x 2 = trim (trim x) := fun _ => rfl
  rcases hcase with h | h | h
  · rw [h]
    simp only [Nat.sub_zero, Nat.mod_self, List.replicate_zero, List.append_nil]
    rw [decF, if_pos (by omega), t2, trim_none m hn, trim_none m hn, if_neg (by omega), h0]
  · rw [h]
    simp only [Nat.reduceSub, Nat.reduceMod, List.replicate_succ, List.replicate_zero]
    rw [show m ++ [61, 61] = (m ++ [61]) ++ [61] by simp]
    rw [decF, if_pos (by simp; omega), t2, trim_pad, trim_pad, if_neg (by omega), h0]
  · rw [h]
    simp only [Nat.reduceSub, Nat.reduceMod, List.replicate_succ, List.replicate_zero]
    rw [decF, if_pos (by simp; omega), t2, trim_pad, trim_none m hn, if_neg (by omega), h0]
end Go.Proofs.Ytkfhbahgoemnpaa
