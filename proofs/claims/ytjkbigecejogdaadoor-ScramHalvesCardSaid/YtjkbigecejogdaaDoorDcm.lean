/-
  Numerals in plain Lean: a text of digits without a nought ahead is the numeral of its number, and the library's parsers read it.
-/
import Derived.Lib.ItoaNum
import Derived.Lib.AtoiAllCases
import Derived.Lib.ParseIntB
namespace Go.Proofs.YtjkbigecejogdaaDoor
set_option linter.unusedVariables false
set_option linter.unusedSimpArgs false

def digB (c : UInt8) : Bool := decide (48 ≤ c.toNat) && decide (c.toNat ≤ 57)
/-- The number of digits. -/
def valD (n : Nat) (l : List UInt8) : Nat := l.foldl (fun n c => 10 * n + (c.toNat - 48)) n
theorem valD_snoc (n : Nat) (l : List UInt8) (c : UInt8) : valD n (l ++ [c]) = 10 * valD n l + (c.toNat - 48) := by simp [valD]
theorem valD_ge : ∀ (l : List UInt8) (n : Nat), n ≤ valD n l
  | [], n => Nat.le_refl n
  | c :: r, n => by
    have := valD_ge r (10 * n + (c.toNat - 48))
    show n ≤ valD (10 * n + (c.toNat - 48)) r
    omega
theorem valD_lt : ∀ (l : List UInt8) (n : Nat), l.all digB = true → valD n l < (n + 1) * 10 ^ l.length
  | [], n, _ => by simp [valD]
  | c :: r, n, h => by
    simp only [List.all_cons, Bool.and_eq_true, digB, decide_eq_true_eq] at h
    have := valD_lt r (10 * n + (c.toNat - 48)) (by simpa [digB] using h.2)
    show valD (10 * n + (c.toNat - 48)) r < _
    have h2 : (10 * n + (c.toNat - 48) + 1) * 10 ^ r.length ≤ ((n + 1) * 10) * 10 ^ r.length := Nat.mul_le_mul_right _ (by omega)
    rw [List.length_cons, Nat.pow_succ, Nat.mul_comm (10 ^ r.length) 10, ← Nat.mul_assoc]
    omega
/-- Digits, at least one, no nought ahead of others. -/
def canB (l : List UInt8) : Bool := l.all digB && (decide (l.length = 1) || (decide (0 < l.length) && decide (l.head? ≠ some 48)))
theorem list_snoc {P : List UInt8 → Prop} (h0 : P []) (h : ∀ l c, P l → P (l ++ [c])) (l : List UInt8) : P l := by
  have : ∀ r : List UInt8, P r.reverse := fun r => by
    induction r with
    | nil => exact h0
    | cons c r ih => rw [List.reverse_cons]; exact h _ _ ih
  simpa using this l.reverse
theorem dig_ofNat (d : Nat) (h : d < 10) : digB (UInt8.ofNat (48 + d)) = true ∧ (UInt8.ofNat (48 + d)).toNat - 48 = d ∧ (UInt8.ofNat (48 + d)).toNat = 48 + d := by
  have : (UInt8.ofNat (48 + d)).toNat = 48 + d := by rw [UInt8.toNat_ofNat']; omega
  refine ⟨by simp [digB, this]; omega, by omega, this⟩
theorem of_dig (c : UInt8) (h : digB c = true) : UInt8.ofNat (48 + (c.toNat - 48)) = c := by
  simp only [digB, Bool.and_eq_true, decide_eq_true_eq] at h
  apply UInt8.toNat_inj.1
  rw [UInt8.toNat_ofNat']; have := c.toNat_lt; omega
/-- The numeral of a number. -/
theorem dec_spec : ∀ u : Nat, (Lib.decDigits u).all digB = true ∧ valD 0 (Lib.decDigits u) = u ∧ 0 < (Lib.decDigits u).length ∧ (0 < u → (Lib.decDigits u).head? ≠ some 48) := by
  intro u
  induction u using Nat.strongRecOn with
  | ind u ih =>
    rw [Lib.decDigits]
    split
    · rename_i h
      obtain ⟨h1, h2, h3⟩ := dig_ofNat u h
      generalize UInt8.ofNat (48 + u) = c at *
      refine ⟨by simp [h1], by simp [valD, h2], by simp, fun hu => ?_⟩
      simp
      intro e
      have := congrArg UInt8.toNat e
      rw [h3] at this; simp at this; omega
    · rename_i h
      obtain ⟨a, b, e, d⟩ := ih (u / 10) (by omega)
      obtain ⟨h1, h2, h3⟩ := dig_ofNat (u % 10) (by omega)
      generalize UInt8.ofNat (48 + u % 10) = c at *
      refine ⟨by simp [a, h1], by rw [valD_snoc, b, h2]; omega, by simp, fun hu => ?_⟩
      have := d (by omega)
      cases hd : Lib.decDigits (u / 10) with
      | nil => rw [hd] at e; simp at e
      | cons x t => rw [hd] at this; simpa using this
theorem dec_can (u : Nat) : canB (Lib.decDigits u) = true := by
  obtain ⟨a, b, c, d⟩ := dec_spec u
  unfold canB
  rw [a, Bool.true_and]
  by_cases h : 0 < u
  · simp [c, d h]
  · have : u = 0 := by omega
    subst this
    have : (Lib.decDigits 0).length = 1 := by rw [Lib.decDigits_length, Lib.nDigits_small (by omega)]
    simp [this]
/-- A canonical text is its number's numeral. -/
theorem can_dec (l : List UInt8) (h : canB l = true) : Lib.decDigits (valD 0 l) = l := by
  have key : ∀ l : List UInt8, l.all digB = true → 0 < l.length → l.head? ≠ some 48 → 0 < valD 0 l ∧ Lib.decDigits (valD 0 l) = l := by
    refine list_snoc (by simp) fun l c ih ha _ h0 => ?_
    simp only [List.all_append, List.all_cons, List.all_nil, Bool.and_true, Bool.and_eq_true] at ha
    have hc := ha.2
    simp only [digB, Bool.and_eq_true, decide_eq_true_eq] at hc
    rw [valD_snoc]
    by_cases hl : 0 < l.length
    · obtain ⟨i1, i2⟩ := ih ha.1 hl (by
        cases l with
        | nil => simp at hl
        | cons x t => simpa using h0)
      refine ⟨by omega, ?_⟩
      rw [Lib.decDigits, dif_neg (by omega)]
      rw [show (10 * valD 0 l + (c.toNat - 48)) / 10 = valD 0 l by omega, show (10 * valD 0 l + (c.toNat - 48)) % 10 = c.toNat - 48 by omega, i2, of_dig c ha.2]
    · have : l = [] := List.eq_nil_of_length_eq_zero (by omega)
      subst this
      have hne : c.toNat ≠ 48 := fun e => h0 (by simp; exact UInt8.toNat_inj.1 (by simpa using e))
      refine ⟨by simp [valD]; omega, ?_⟩
      rw [Lib.decDigits, dif_pos (by simp [valD]; omega)]
      simp only [valD, List.foldl_nil, Nat.mul_zero, Nat.zero_add, List.nil_append]
      rw [of_dig c ha.2]
  unfold canB at h
  simp only [Bool.and_eq_true, Bool.or_eq_true, decide_eq_true_eq] at h
  obtain ⟨ha, h1 | ⟨h1, h2⟩⟩ := h
  · match l, h1 with
    | [c], _ =>
      simp at ha
      have hc := ha
      simp only [digB, Bool.and_eq_true, decide_eq_true_eq] at hc
      rw [Lib.decDigits, dif_pos (by simp [valD]; omega)]
      simp only [valD, List.foldl_cons, List.foldl_nil, Nat.mul_zero, Nat.zero_add]
      rw [of_dig c ha]
  · exact (key l ha h1 h2).2
theorem parse10_val : ∀ (l : List UInt8) (acc : Nat), l.all digB = true → valD acc l < 18446744073709551616 → Lib.parseUint10 acc l = .ok (valD acc l)
  | [], acc, _, _ => rfl
  | c :: r, acc, h, hv => by
    simp only [List.all_cons, Bool.and_eq_true] at h
    have hc := h.1
    simp only [digB, Bool.and_eq_true, decide_eq_true_eq] at hc
    have hv' : valD (10 * acc + (c.toNat - 48)) r < 18446744073709551616 := hv
    have hge := valD_ge r (10 * acc + (c.toNat - 48))
    rw [Lib.parseUint10, if_pos hc, if_neg (by omega), if_neg (by omega), Nat.mul_comm acc 10]
    exact parse10_val r _ h.2 hv'
theorem parseM_val (M : Nat) (hM : M < 18446744073709551616) : ∀ (l : List UInt8) (acc : Nat), l.all digB = true → valD acc l ≤ M → Lib.parseUintM M acc l = .ok (valD acc l)
  | [], acc, _, _ => rfl
  | c :: r, acc, h, hv => by
    simp only [List.all_cons, Bool.and_eq_true] at h
    have hc := h.1
    simp only [digB, Bool.and_eq_true, decide_eq_true_eq] at hc
    have hv' : valD (10 * acc + (c.toNat - 48)) r ≤ M := hv
    have hge := valD_ge r (10 * acc + (c.toNat - 48))
    rw [Lib.parseUintM, if_pos hc, if_neg (by omega), if_neg (by omega), Nat.mul_comm acc 10]
    exact parseM_val M hM r _ h.2 hv'
theorem atoi_val (l : List UInt8) (h : l.all digB = true) (h0 : l ≠ []) (hv : valD 0 l < 9223372036854775808) : Lib.atoiAll l = .ok (valD 0 l : Int) := by
  match l, h0 with
  | c :: r, _ =>
    have h' := h
    simp only [List.all_cons, Bool.and_eq_true] at h
    have hc := h.1
    simp only [digB, Bool.and_eq_true, decide_eq_true_eq] at hc
    have hp : Lib.parseMag (c :: r) = .ok (valD 0 (c :: r)) := by
      rw [Lib.parseMag, if_neg (by simp)]
      exact parse10_val _ 0 h' (by omega)
    have h43 : ¬ (c.toNat = 43 ∨ c.toNat = 45) := by omega
    have h45 : ¬ c.toNat = 45 := by omega
    simp only [Lib.atoiAll]
    rw [if_neg h43, hp]
    simp only [h45, false_and, not_false_eq_true, true_and, if_false]
    rw [if_neg (by omega)]
/-- What is read and written again as it was. -/
theorem atoi_itoa (l : List UInt8) (v : Int) (hv : 0 ≤ v) : (Lib.atoiAll l = .ok v ∧ Lib.itoa v = l) ↔ (canB l = true ∧ v = (valD 0 l : Int) ∧ valD 0 l < 9223372036854775808) := by
  constructor
  · rintro ⟨h1, h2⟩
    obtain ⟨u, rfl⟩ : ∃ u : Nat, v = u := ⟨v.toNat, by omega⟩
    have hb := (Lib.atoiAll_bounds h1).2
    have e : Lib.itoa (u : Int) = Lib.decDigits u := by unfold Lib.itoa; rw [if_neg (by omega)]; simp
    rw [e] at h2
    rw [← h2]
    have h3 := (dec_spec u).2.1
    exact ⟨dec_can u, by rw [h3], by rw [h3]; omega⟩
  · rintro ⟨h1, h2, h3⟩
    have ha : l.all digB = true ∧ l ≠ [] := by
      unfold canB at h1
      simp only [Bool.and_eq_true, Bool.or_eq_true, decide_eq_true_eq] at h1
      refine ⟨h1.1, fun e => ?_⟩
      subst e; simp at h1
    refine ⟨by rw [h2]; exact atoi_val l ha.1 ha.2 h3, ?_⟩
    rw [h2]
    have e : Lib.itoa (valD 0 l : Int) = Lib.decDigits (valD 0 l) := by unfold Lib.itoa; rw [if_neg (by omega)]; simp
    rw [e]
    exact can_dec l h1
theorem parse_format (l : List UInt8) (u : Nat) : (Lib.parseUintB 64 l = .ok u ∧ Lib.decDigits u = l) ↔ (canB l = true ∧ u = valD 0 l ∧ valD 0 l < 18446744073709551616 ∧ Lib.parseUintB 64 l = .ok u) := by
  constructor
  · rintro ⟨h1, h2⟩
    have h3 := (dec_spec u).2.1
    have hb : u < 18446744073709551616 := by
      have : ∀ (l : List UInt8) (acc u : Nat), acc < 18446744073709551616 → Lib.parseUintM (2 ^ 64 - 1) acc l = .ok u → u < 18446744073709551616 := by
        intro l
        induction l with
        | nil => intro acc u ha h; simp only [Lib.parseUintM] at h; injection h with h; omega
        | cons c r ih =>
          intro acc u ha h
          simp only [Lib.parseUintM] at h
          split at h
          · split at h
            · cases h
            · split at h
              · cases h
              · exact ih _ u (by omega) h
          · cases h
      unfold Lib.parseUintB at h1
      split at h1
      · cases h1
      · exact this l 0 u (by omega) h1
    refine ⟨by rw [← h2]; exact dec_can u, by rw [← h2, h3], by rw [← h2, h3]; exact hb, h1⟩
  · rintro ⟨h1, h2, _, h3⟩
    exact ⟨h3, by rw [h2]; exact can_dec l h1⟩
theorem parse_val (l : List UInt8) (h : canB l = true) (hv : valD 0 l < 18446744073709551616) : Lib.parseUintB 64 l = .ok (valD 0 l) := by
  unfold canB at h
  simp only [Bool.and_eq_true, Bool.or_eq_true, decide_eq_true_eq] at h
  have h0 : l ≠ [] := fun e => by subst e; simp at h
  rw [Lib.parseUintB, if_neg h0]
  exact parseM_val _ (by omega) l 0 h.1 (by omega)
end Go.Proofs.YtjkbigecejogdaaDoor
