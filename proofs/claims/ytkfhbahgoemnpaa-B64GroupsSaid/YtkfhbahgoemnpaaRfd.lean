/-
  ref03.number, ref03.Decode.
-/
import Derived.Deep.RegionLaw
import Derived.Test.YtkfhbahgoemnpaaRows
import Derived.Test.YtkfhbahgoemnpaaRfe
import Derived.Test.YtkfhbahgoemnpaaReg
import Derived.Test.YtkfhbahgoemnpaaRt
namespace Go.Proofs.Ytkfhbahgoemnpaa
open Go.RowKit
set_option linter.unusedVariables false
set_option linter.unusedSimpArgs false

theorem val_alph (url : Bool) : ∀ v, v < 64 → valL (alph url) (bt (alph url) v) = (v : Int) := by cases url <;> decide +kernel
theorem val_hits (url : Bool) : ∀ n, n < 256 → valL (alph url) (UInt8.ofNat n) = -1 ∨ (bt (alph url) (valL (alph url) (UInt8.ofNat n)).toNat = UInt8.ofNat n) := by cases url <;> decide +kernel
theorem val_hit (url : Bool) (c : UInt8) : valL (alph url) c = -1 ∨ bt (alph url) (valL (alph url) c).toNat = c := by
  have h := val_hits url c.toNat c.toNat_lt
  rwa [UInt8.ofNat_toNat] at h
theorem val_none (url : Bool) (c : UInt8) (h : ∀ m, m < 64 → bt (alph url) m ≠ c) : valL (alph url) c = -1 := by
  rcases val_hit url c with h1 | h1
  · exact h1
  · have := valL_range (alph url) c
    by_cases hneg : valL (alph url) c = -1
    · exact hneg
    · exact absurd h1 (h _ (by omega))
set_option maxHeartbeats 400000 in
theorem number_any (url : Bool) (c : UInt8) (w : World) :
    Calls Try.prog 40 #[.int .u8 (c.toNat : Int), .bool url] w fun e w' => e = .returned (.int .i64 (valL (alph url) c)) ∧ w' = w := by
  have hc := c.toNat_lt
  go_enter Try.func40, Try.ntmps40
  go_wp2
  go_loop [5] (fun i => ∃ k : Nat, k ≤ 64 ∧ i = .int .i64 k ∧ Hid (∀ m, m < k → bt (alph url) m ≠ c)) (fun i => 64 - (intOf i).toNat)
  case atStart => exact ⟨0, by omega, rfl, Lib.hid (fun m h => by omega)⟩
  case round =>
    obtain ⟨k, hk, rfl, hno⟩ := hrel
    by_cases h3 : k < 64
    · have Hl := Lib.hid (fun W => letter_any url k h3 W)
      have hb := (bt (alph url) k).toNat_lt
      have Hv := Lib.hid (val_alph url k h3)
      by_cases he : bt (alph url) k = c
      · rw [he] at Hl Hv
        clear hb he
        go_wp2_with (go_at_call 37; refine (Hl.out _).mono ?_; rintro e W3 ⟨rfl, rfl⟩)
        go_ret
        exact ⟨by rw [Hv.out]; rfl, rfl⟩
      · have hne : (((bt (alph url) k).toNat : Int) == (c.toNat : Int)) = false := by
          rw [beq_eq_false_iff_ne]
          intro e
          exact he (UInt8.toNat_inj.1 (by omega))
        have Hno : Hid (∀ m, m < k + 1 → bt (alph url) m ≠ c) := Lib.hid (fun m hm => by
          by_cases e : m = k
          · subst e; exact he
          · exact hno.out m (by omega))
        generalize bt (alph url) k = d at *
        clear he Hv
        go_wp2_with (go_at_call 37; refine (Hl.out _).mono ?_; rintro e W3 ⟨rfl, rfl⟩)
        go_round
        case rel => exact ⟨k + 1, by omega, by go_num, Hno⟩
        case measure => simp [intOf] <;> omega
    · obtain rfl : k = 64 := by omega
      have Hv := Lib.hid (val_none url c hno.out)
      go_wp2
      go_ret
      exact ⟨by rw [Hv.out]; rfl, rfl⟩

/-! ### What ref03.Decode answers -/
def six (v : Nat) : List UInt8 := (List.range 6).map fun j => UInt8.ofNat (v / 2 ^ (5 - j) % 2)
def bitsL (A t : List UInt8) : List UInt8 := t.flatMap fun c => six (valL A c).toNat
def byteN (b : List UInt8) : Nat := b.foldl (fun b x => b * 2 + x.toNat) 0
def outsN (B : List UInt8) (k : Nat) : List UInt8 := (List.range k).map fun j => UInt8.ofNat (byteN ((B.drop (8 * j)).take 8))
def okL (A t : List UInt8) : Bool := t.all fun c => valL A c != -1
def refD (A t : List UInt8) : List UInt8 × Nat :=
  if okL A t then (if ((bitsL A t).drop (8 * ((bitsL A t).length / 8))).all (· == 0) then (outsN (bitsL A t) ((bitsL A t).length / 8), 0) else ([], 4)) else ([], 5)
theorem bitsL_len (A : List UInt8) : ∀ t : List UInt8, (bitsL A t).length = 6 * t.length
  | [] => rfl
  | c :: t => by
    have := bitsL_len A t
    simp only [bitsL, List.flatMap_cons, List.length_append, List.length_cons] at this ⊢
    rw [this]; simp [six]; omega
theorem bitsL_bit (A t : List UInt8) : ∀ x ∈ bitsL A t, x.toNat ≤ 1 := by
  intro x hx
  obtain ⟨c, _, hc⟩ := List.mem_flatMap.1 hx
  obtain ⟨j, _, rfl⟩ := List.mem_map.1 hc
  rw [UInt8.toNat_ofNat']
  have : (valL A c).toNat / 2 ^ (5 - j) % 2 < 2 := Nat.mod_lt _ (by omega)
  omega
theorem byteN_snoc (b : List UInt8) (x : UInt8) : byteN (b ++ [x]) = byteN b * 2 + x.toNat := by simp [byteN]
theorem byteN_lt : ∀ b : List UInt8, (∀ x ∈ b, x.toNat ≤ 1) → byteN b < 2 ^ b.length := by
  refine list_snoc_ind (fun _ => by simp [byteN]) fun b x ih h => ?_
  have h1 := ih (fun y hy => h y (by simp [hy]))
  have h2 := h x (by simp)
  rw [byteN_snoc, List.length_append, List.length_singleton, Nat.pow_succ]
  omega
theorem outsN_succ (B : List UInt8) (k : Nat) : outsN B (k + 1) = outsN B k ++ [UInt8.ofNat (byteN ((B.drop (8 * k)).take 8))] := by simp [outsN, List.range_succ]

/-! ### It is what decode answers -/
theorem bitsL_cons (A : List UInt8) (c : UInt8) (t : List UInt8) : bitsL A (c :: t) = six (valL A c).toNat ++ bitsL A t := rfl
theorem outsN_cons (h : List UInt8) (hh : h.length = 8) (B : List UInt8) (k : Nat) : outsN (h ++ B) (k + 1) = UInt8.ofNat (byteN h) :: outsN B k := by
  simp only [outsN, List.range_succ_eq_map, List.map_cons, List.map_map]
  refine congr (congrArg _ ?_) (List.map_congr_left fun j _ => ?_)
  · rw [Nat.mul_zero, List.drop_zero, List.take_append_of_le_length (by omega), List.take_of_length_le (by omega)]
  · simp only [Function.comp]
    rw [show 8 * (j + 1) = h.length + 8 * j by omega, List.drop_append, List.drop_eq_nil_of_le (by omega), List.nil_append, show h.length + 8 * j - h.length = 8 * j by omega]
theorem six_len (v : Nat) : (six v).length = 6 := by simp [six]
theorem six_eq (v : Nat) : six v = [UInt8.ofNat (v / 32 % 2), UInt8.ofNat (v / 16 % 2), UInt8.ofNat (v / 8 % 2), UInt8.ofNat (v / 4 % 2), UInt8.ofNat (v / 2 % 2), UInt8.ofNat (v % 2)] := by
  simp [six, List.range_succ]
theorem bit_nat (x : Nat) : (UInt8.ofNat (x % 2)).toNat = x % 2 := by rw [UInt8.toNat_ofNat']; omega
/-- The 24 bits of four letters are three bytes. -/
theorem bytes_four (a b c d : Nat) (ha : a < 64) (hb : b < 64) (hc : c < 64) (hd : d < 64) (B : List UInt8) (k : Nat) :
    outsN (six a ++ (six b ++ (six c ++ (six d ++ B)))) (k + 3) = UInt8.ofNat (a * 4 + b / 16) :: UInt8.ofNat (b % 16 * 16 + c / 4) :: UInt8.ofNat (c % 4 * 64 + d) :: outsN B k := by
  rw [six_eq, six_eq, six_eq, six_eq]
  simp only [List.cons_append, List.nil_append]
  have e : ∀ (x0 x1 x2 x3 x4 x5 x6 x7 : UInt8) (L : List UInt8) (n : Nat), outsN (x0 :: x1 :: x2 :: x3 :: x4 :: x5 :: x6 :: x7 :: L) (n + 1) = UInt8.ofNat (byteN [x0, x1, x2, x3, x4, x5, x6, x7]) :: outsN L n :=
    fun x0 x1 x2 x3 x4 x5 x6 x7 L n => outsN_cons [x0, x1, x2, x3, x4, x5, x6, x7] rfl L n
  rw [e, e, e]
  simp only [byteN, List.foldl_cons, List.foldl_nil, bit_nat]
  rw [show (((((((0 * 2 + a / 32 % 2) * 2 + a / 16 % 2) * 2 + a / 8 % 2) * 2 + a / 4 % 2) * 2 + a / 2 % 2) * 2 + a % 2) * 2 + b / 32 % 2) * 2 + b / 16 % 2 = a * 4 + b / 16 by omega]
  rw [show (((((((0 * 2 + b / 8 % 2) * 2 + b / 4 % 2) * 2 + b / 2 % 2) * 2 + b % 2) * 2 + c / 32 % 2) * 2 + c / 16 % 2) * 2 + c / 8 % 2) * 2 + c / 4 % 2 = b % 16 * 16 + c / 4 by omega]
  rw [show (((((((0 * 2 + c / 2 % 2) * 2 + c % 2) * 2 + d / 32 % 2) * 2 + d / 16 % 2) * 2 + d / 8 % 2) * 2 + d / 4 % 2) * 2 + d / 2 % 2) * 2 + d % 2 = c % 4 * 64 + d by omega]
theorem ofNat_eq {a b : Nat} (h : a % 256 = b % 256) : UInt8.ofNat a = UInt8.ofNat b := by
  apply UInt8.toNat_inj.1; rw [UInt8.toNat_ofNat', UInt8.toNat_ofNat']; omega
theorem grpOk_eq (A g : List UInt8) : grpOk A g = okL A g := rfl
theorem val_nat (A : List UInt8) (c : UInt8) (h : (valL A c != -1) = true) : ∃ v : Nat, valL A c = (v : Int) ∧ v < 64 := by
  have hr := valL_range A c
  have hne : valL A c ≠ -1 := by simpa using h
  obtain ⟨v, hv⟩ := Int.eq_ofNat_of_zero_le (show 0 ≤ valL A c by omega)
  exact ⟨v, hv, by omega⟩
theorem refD_cons (A : List UInt8) (a b c d : UInt8) (t : List UInt8) (hok : okL A [a, b, c, d] = true) :
    refD A (a :: b :: c :: d :: t) = (if (refD A t).2 = 0 then grpOut A [a, b, c, d] ++ (refD A t).1 else [], (refD A t).2) := by
  have hok' := hok
  simp only [okL, List.all_cons, List.all_nil, Bool.and_true, Bool.and_eq_true] at hok'
  obtain ⟨h1, h2, h3, h4⟩ := hok'
  obtain ⟨va, ea, la⟩ := val_nat A a h1
  obtain ⟨vb, eb, lb⟩ := val_nat A b h2
  obtain ⟨vc, ec, lc⟩ := val_nat A c h3
  obtain ⟨vd, ed, ld⟩ := val_nat A d h4
  have hokt : okL A (a :: b :: c :: d :: t) = okL A t := by
    simp only [okL, List.all_cons]
    rw [h1, h2, h3, h4]; simp
  have hB : bitsL A (a :: b :: c :: d :: t) = six va ++ (six vb ++ (six vc ++ (six vd ++ bitsL A t))) := by
    simp only [bitsL_cons, ea, eb, ec, ed, Int.toNat_natCast]
  have hL : (bitsL A (a :: b :: c :: d :: t)).length / 8 = (bitsL A t).length / 8 + 3 := by
    rw [bitsL_len, bitsL_len]; simp only [List.length_cons]; omega
  have hD : (bitsL A (a :: b :: c :: d :: t)).drop (8 * ((bitsL A t).length / 8 + 3)) = (bitsL A t).drop (8 * ((bitsL A t).length / 8)) := by
    rw [hB]
    simp only [six_eq, List.cons_append, List.nil_append]
    rw [show 8 * ((bitsL A t).length / 8 + 3) = 8 * ((bitsL A t).length / 8) + 24 by omega]
    rfl
  have hO : grpOut A [a, b, c, d] = [UInt8.ofNat (va * 4 + vb / 16), UInt8.ofNat (vb % 16 * 16 + vc / 4), UInt8.ofNat (vc % 4 * 64 + vd)] := by
    simp only [grpOut, grpNum, bitsN, List.foldl_cons, List.foldl_nil, List.length_cons, List.length_nil, Nat.reduceAdd, Nat.reduceSub, ea, eb, ec, ed, Int.toNat_natCast,
      List.range_succ, List.range_zero, List.nil_append, List.map_append, List.map_cons, List.map_nil, List.cons_append, Nat.reduceMul, Nat.reducePow, Nat.mul_one, Nat.zero_mul, Nat.zero_add, Nat.sub_zero, Nat.sub_self, Nat.mul_zero, Nat.pow_zero, Nat.div_one]
    rw [ofNat_eq (show (((va * 64 + vb) * 64 + vc) * 64 + vd) / 65536 % 256 = (va * 4 + vb / 16) % 256 by omega),
      ofNat_eq (show (((va * 64 + vb) * 64 + vc) * 64 + vd) / 256 % 256 = (vb % 16 * 16 + vc / 4) % 256 by omega),
      ofNat_eq (show (((va * 64 + vb) * 64 + vc) * 64 + vd) % 256 = (vc % 4 * 64 + vd) % 256 by omega)]
  have hl : refD A (a :: b :: c :: d :: t) = if okL A t then (if ((bitsL A t).drop (8 * ((bitsL A t).length / 8))).all (· == 0) then (outsN (bitsL A (a :: b :: c :: d :: t)) ((bitsL A t).length / 8 + 3), 0) else ([], 4)) else ([], 5) := by
    rw [refD, hokt, hL, hD]
  rw [hl]
  by_cases h : okL A t = true
  · by_cases h2 : ((bitsL A t).drop (8 * ((bitsL A t).length / 8))).all (· == 0) = true
    · have hr : refD A t = (outsN (bitsL A t) ((bitsL A t).length / 8), 0) := by rw [refD, if_pos h, if_pos h2]
      rw [hr, if_pos h, if_pos h2, if_pos rfl, hB, bytes_four va vb vc vd la lb lc ld, hO]
      rfl
    · have hr : refD A t = ([], 4) := by rw [refD, if_pos h, if_neg h2]
      rw [hr, if_pos h, if_neg h2]; rfl
  · have hr : refD A t = ([], 5) := by rw [refD, if_neg h]
    rw [hr, if_neg h]; rfl
theorem refD_bad (A : List UInt8) (a b c d : UInt8) (t : List UInt8) (hok : ¬ okL A [a, b, c, d] = true) : refD A (a :: b :: c :: d :: t) = ([], 5) := by
  refine if_neg fun h => hok ?_
  simp only [okL, List.all_cons, List.all_nil, Bool.and_true, Bool.and_eq_true] at h ⊢
  exact ⟨h.1, h.2.1, h.2.2.1, h.2.2.2.1⟩
theorem decR_bad (A : List UInt8) (a b c d : UInt8) (t : List UInt8) (hok : ¬ okL A [a, b, c, d] = true) : decR A (a :: b :: c :: d :: t) = ([], 5) := by
  have e : ((a :: b :: c :: d :: t).length + 3) / 4 = (t.length + 3) / 4 + 1 := by simp only [List.length_cons]; omega
  simp only [decR]
  rw [e, okN_cons, if_neg]
  intro h
  simp only [Bool.and_eq_true] at h
  exact hok h.1
theorem dec_short (A g : List UInt8) (h4 : 0 < g.length) (h5 : g.length ≤ 4) (hbad : okL A g = true → grpBad A g = !(((bitsL A g).drop (8 * ((bitsL A g).length / 8))).all (· == 0)))
    (hO : okL A g = true → grpOut A g = outsN (bitsL A g) ((bitsL A g).length / 8)) : decR A g = refD A g := by
  have hp : piece g 0 = g := by simp [piece, List.take_of_length_le h5]
  have e0 : (g.length + 3) / 4 = 1 := by omega
  have e1 : okN A g 1 = okL A g := by simp [okN, hp, grpOk_eq]
  have e2 : codN A g 1 = if grpBad A g then 4 else 0 := by simp [codN, hp]
  have e3 : decN A g 1 = grpOut A g := by simp [decN, hp]
  by_cases hok : okL A g = true
  · rw [decR, refD, e0, e1, e2, e3, if_pos hok, if_pos hok, hbad hok, hO hok]
    generalize ((bitsL A g).drop (8 * ((bitsL A g).length / 8))).all (· == 0) = z
    cases z <;> rfl
  · rw [decR, refD, e0, e1, if_neg hok, if_neg hok]
set_option maxHeartbeats 2000000 in
theorem dec_ref (A : List UInt8) : ∀ (n : Nat) (t : List UInt8), t.length ≤ n → t.length % 4 ≠ 1 → decR A t = refD A t
  | 0, t, h, _ => by
    obtain rfl : t = [] := List.eq_nil_of_length_eq_zero (by omega)
    simp [decR, okN, codN, decN, refD, okL, bitsL, outsN]
  | n + 1, t, h, h4 => by
    match t, h, h4 with
    | [], _, _ => simp [decR, okN, codN, decN, refD, okL, bitsL, outsN]
    | [a], _, h4 => simp at h4
    | [a, b], _, _ =>
      refine dec_short A [a, b] (by simp) (by simp) (fun hok => ?_) (fun hok => ?_)
      · simp only [okL, List.all_cons, List.all_nil, Bool.and_true, Bool.and_eq_true] at hok
        obtain ⟨va, ea, la⟩ := val_nat A a hok.1
        obtain ⟨vb, eb, lb⟩ := val_nat A b hok.2
        have hB : bitsL A [a, b] = six va ++ six vb := by simp [bitsL, ea, eb]
        rw [hB]
        simp only [six_eq, List.cons_append, List.nil_append, List.length_cons, List.length_nil, Nat.reduceAdd, Nat.reduceDiv, Nat.reduceMul, List.drop_succ_cons, List.drop_zero, Nat.mul_one]
        first
          | (simp only [grpBad, grpNum, bitsN, List.foldl_cons, List.foldl_nil, List.length_cons, List.length_nil, Nat.reduceAdd, Nat.reduceSub, ea, eb, Int.toNat_natCast, Nat.reduceMul, Nat.reducePow, Nat.zero_mul, Nat.zero_add]
             rw [Bool.eq_iff_iff]
             simp [← UInt8.toNat_inj, bit_nat]
             omega)
          | (simp only [grpOut, grpNum, bitsN, List.foldl_cons, List.foldl_nil, List.length_cons, List.length_nil, Nat.reduceAdd, Nat.reduceSub, ea, eb, Int.toNat_natCast,
               List.range_succ, List.range_zero, List.nil_append, List.map_append, List.map_cons, List.map_nil, List.cons_append, Nat.reduceMul, Nat.reducePow, Nat.zero_mul, Nat.zero_add, Nat.sub_zero,
               outsN, Nat.mul_zero, List.drop_zero, List.take_succ_cons, List.take_zero, byteN, bit_nat]
             rw [ofNat_eq (show (va * 64 + vb) * 4096 / 65536 % 256 = ((((((((va / 32 % 2) * 2 + va / 16 % 2) * 2 + va / 8 % 2) * 2 + va / 4 % 2) * 2 + va / 2 % 2) * 2 + va % 2) * 2 + vb / 32 % 2) * 2 + vb / 16 % 2) % 256 by omega)])
      · simp only [okL, List.all_cons, List.all_nil, Bool.and_true, Bool.and_eq_true] at hok
        obtain ⟨va, ea, la⟩ := val_nat A a hok.1
        obtain ⟨vb, eb, lb⟩ := val_nat A b hok.2
        have hB : bitsL A [a, b] = six va ++ six vb := by simp [bitsL, ea, eb]
        rw [hB]
        simp only [six_eq, List.cons_append, List.nil_append, List.length_cons, List.length_nil, Nat.reduceAdd, Nat.reduceDiv, Nat.reduceMul, List.drop_succ_cons, List.drop_zero, Nat.mul_one]
        first
          | (simp only [grpBad, grpNum, bitsN, List.foldl_cons, List.foldl_nil, List.length_cons, List.length_nil, Nat.reduceAdd, Nat.reduceSub, ea, eb, Int.toNat_natCast, Nat.reduceMul, Nat.reducePow, Nat.zero_mul, Nat.zero_add]
             rw [Bool.eq_iff_iff]
             simp [← UInt8.toNat_inj, bit_nat]
             omega)
          | (simp only [grpOut, grpNum, bitsN, List.foldl_cons, List.foldl_nil, List.length_cons, List.length_nil, Nat.reduceAdd, Nat.reduceSub, ea, eb, Int.toNat_natCast,
               List.range_succ, List.range_zero, List.nil_append, List.map_append, List.map_cons, List.map_nil, List.cons_append, Nat.reduceMul, Nat.reducePow, Nat.zero_mul, Nat.zero_add, Nat.sub_zero,
               outsN, Nat.mul_zero, List.drop_zero, List.take_succ_cons, List.take_zero, byteN, bit_nat]
             rw [ofNat_eq (show (va * 64 + vb) * 4096 / 65536 % 256 = ((((((((va / 32 % 2) * 2 + va / 16 % 2) * 2 + va / 8 % 2) * 2 + va / 4 % 2) * 2 + va / 2 % 2) * 2 + va % 2) * 2 + vb / 32 % 2) * 2 + vb / 16 % 2) % 256 by omega)])
    | [a, b, c], _, _ =>
      refine dec_short A [a, b, c] (by simp) (by simp) (fun hok => ?_) (fun hok => ?_)
      · simp only [okL, List.all_cons, List.all_nil, Bool.and_true, Bool.and_eq_true] at hok
        obtain ⟨va, ea, la⟩ := val_nat A a hok.1
        obtain ⟨vb, eb, lb⟩ := val_nat A b hok.2.1
        obtain ⟨vc, ec, lc⟩ := val_nat A c hok.2.2
        have hB : bitsL A [a, b, c] = six va ++ (six vb ++ six vc) := by simp [bitsL, ea, eb, ec]
        rw [hB]
        simp only [six_eq, List.cons_append, List.nil_append, List.length_cons, List.length_nil, Nat.reduceAdd, Nat.reduceDiv, Nat.reduceMul, List.drop_succ_cons, List.drop_zero, Nat.mul_one]
        first
          | (simp only [grpBad, grpNum, bitsN, List.foldl_cons, List.foldl_nil, List.length_cons, List.length_nil, Nat.reduceAdd, Nat.reduceSub, ea, eb, ec, Int.toNat_natCast, Nat.reduceMul, Nat.reducePow, Nat.zero_mul, Nat.zero_add, Nat.mul_one]
             rw [Bool.eq_iff_iff]
             simp [← UInt8.toNat_inj, bit_nat]
             omega)
          | (simp only [grpOut, grpNum, bitsN, List.foldl_cons, List.foldl_nil, List.length_cons, List.length_nil, Nat.reduceAdd, Nat.reduceSub, ea, eb, ec, Int.toNat_natCast,
               List.range_succ, List.range_zero, List.nil_append, List.map_append, List.map_cons, List.map_nil, List.cons_append, Nat.reduceMul, Nat.reducePow, Nat.zero_mul, Nat.zero_add, Nat.sub_zero, Nat.mul_one,
               outsN, Nat.mul_zero, List.drop_zero, List.drop_succ_cons, List.take_succ_cons, List.take_zero, byteN, bit_nat]
             rw [ofNat_eq (show ((va * 64 + vb) * 64 + vc) * 64 / 65536 % 256 = ((((((((va / 32 % 2) * 2 + va / 16 % 2) * 2 + va / 8 % 2) * 2 + va / 4 % 2) * 2 + va / 2 % 2) * 2 + va % 2) * 2 + vb / 32 % 2) * 2 + vb / 16 % 2) % 256 by omega),
               ofNat_eq (show ((va * 64 + vb) * 64 + vc) * 64 / 256 % 256 = ((((((((vb / 8 % 2) * 2 + vb / 4 % 2) * 2 + vb / 2 % 2) * 2 + vb % 2) * 2 + vc / 32 % 2) * 2 + vc / 16 % 2) * 2 + vc / 8 % 2) * 2 + vc / 4 % 2) % 256 by omega)])
      · simp only [okL, List.all_cons, List.all_nil, Bool.and_true, Bool.and_eq_true] at hok
        obtain ⟨va, ea, la⟩ := val_nat A a hok.1
        obtain ⟨vb, eb, lb⟩ := val_nat A b hok.2.1
        obtain ⟨vc, ec, lc⟩ := val_nat A c hok.2.2
        have hB : bitsL A [a, b, c] = six va ++ (six vb ++ six vc) := by simp [bitsL, ea, eb, ec]
        rw [hB]
        simp only [six_eq, List.cons_append, List.nil_append, List.length_cons, List.length_nil, Nat.reduceAdd, Nat.reduceDiv, Nat.reduceMul, List.drop_succ_cons, List.drop_zero, Nat.mul_one]
        first
          | (simp only [grpBad, grpNum, bitsN, List.foldl_cons, List.foldl_nil, List.length_cons, List.length_nil, Nat.reduceAdd, Nat.reduceSub, ea, eb, ec, Int.toNat_natCast, Nat.reduceMul, Nat.reducePow, Nat.zero_mul, Nat.zero_add, Nat.mul_one]
             rw [Bool.eq_iff_iff]
             simp [← UInt8.toNat_inj, bit_nat]
             omega)
          | (simp only [grpOut, grpNum, bitsN, List.foldl_cons, List.foldl_nil, List.length_cons, List.length_nil, Nat.reduceAdd, Nat.reduceSub, ea, eb, ec, Int.toNat_natCast,
               List.range_succ, List.range_zero, List.nil_append, List.map_append, List.map_cons, List.map_nil, List.cons_append, Nat.reduceMul, Nat.reducePow, Nat.zero_mul, Nat.zero_add, Nat.sub_zero, Nat.mul_one,
               outsN, Nat.mul_zero, List.drop_zero, List.drop_succ_cons, List.take_succ_cons, List.take_zero, byteN, bit_nat]
             rw [ofNat_eq (show ((va * 64 + vb) * 64 + vc) * 64 / 65536 % 256 = ((((((((va / 32 % 2) * 2 + va / 16 % 2) * 2 + va / 8 % 2) * 2 + va / 4 % 2) * 2 + va / 2 % 2) * 2 + va % 2) * 2 + vb / 32 % 2) * 2 + vb / 16 % 2) % 256 by omega),
               ofNat_eq (show ((va * 64 + vb) * 64 + vc) * 64 / 256 % 256 = ((((((((vb / 8 % 2) * 2 + vb / 4 % 2) * 2 + vb / 2 % 2) * 2 + vb % 2) * 2 + vc / 32 % 2) * 2 + vc / 16 % 2) * 2 + vc / 8 % 2) * 2 + vc / 4 % 2) % 256 by omega)])
    | a :: b :: c :: d :: t, h, h4 =>
      by_cases hok : okL A [a, b, c, d] = true
      · rw [refD_cons A a b c d t hok, decR_cons A a b c d t hok, dec_ref A n t (by simp only [List.length_cons] at h; omega) (by simp only [List.length_cons] at h4; omega)]
      · rw [refD_bad A a b c d t hok, decR_bad A a b c d t hok]
end Go.Proofs.Ytkfhbahgoemnpaa
