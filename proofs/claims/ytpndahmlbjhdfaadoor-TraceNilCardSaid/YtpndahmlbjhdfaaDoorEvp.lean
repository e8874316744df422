/-
  Events in plain words: which have a line, what it is, of which text one is read.
-/
import Derived.Test.YtpndahmlbjhdfaaDoorDcm
import Derived.Test.YtpndahmlbjhdfaaDoorSpb
import Derived.Test.YtpndahmlbjhdfaaDoorChr
import Derived.Test.YtpndahmlbjhdfaaDoorHexr
import Derived.Test.YtpndahmlbjhdfaaDoorUnh
import Derived.Test.YtpndahmlbjhdfaaDoorHxp
namespace Go.Proofs.YtpndahmlbjhdfaaDoor
set_option linter.unusedVariables false
set_option linter.unusedSimpArgs false
/-- An event. -/
structure Ev where
  (n tk : Nat)
  (kind : List UInt8)
  (conn : Int)
  (text : List UInt8)
  deriving DecidableEq
def Ev.right (e : Ev) : Bool := plnB e.kind && decide (e.tk ≤ 1099511627776) && decide (0 ≤ e.conn) && decide (e.conn ≤ 2147483647) && decide (e.text.length ≤ 200) && decide (1 ≤ e.n) && decide (e.n ≤ 9007199254740992)
def hexO (t : List UInt8) : List UInt8 := if t = [] then [45] else hexL t
def Ev.parts (e : Ev) : List (List UInt8) := [Lib.decDigits e.n, Lib.decDigits e.tk, e.kind, Lib.decDigits e.conn.toNat, hexO e.text]
def Ev.line (e : Ev) : List UInt8 := [32].intercalate e.parts
def txB (t : List UInt8) : Bool := decide (t = [45]) || (decide (t ≠ []) && decide ((unhR t).2 = 0))
def txV (t : List UInt8) : List UInt8 := if t = [45] then [] else (unhR t).1
/-- The event that a text is the line of. -/
def rdE (s : List UInt8) : Option Ev :=
  match spb 32 s with
  | [a, b, c, d, t] => if canB a = true ∧ canB b = true ∧ canB d = true ∧ txB t = true ∧ (Ev.mk (valD 0 a) (valD 0 b) c (valD 0 d : Nat) (txV t)).right = true then some ⟨valD 0 a, valD 0 b, c, (valD 0 d : Nat), txV t⟩ else none
  | _ => none
theorem no32_dec (u : Nat) : (32 : UInt8) ∉ Lib.decDigits u := fun h => by
  have := List.all_eq_true.1 (dec_spec u).1 _ h
  exact absurd this (by decide)
theorem hexd_hi : ∀ k, k < 16 → bt hexd k ≠ 32 ∧ bt hexd k ≠ 45 := by decide +kernel
theorem no32_hex : ∀ l : List UInt8, (32 : UInt8) ∉ hexL l
  | [], h => by simp [hexL] at h
  | b :: l, h => by
    have hb := b.toNat_lt
    simp only [hexL, List.mem_cons] at h
    rcases h with h | h | h
    · exact (hexd_hi (b.toNat / 16) (by omega)).1 h.symm
    · exact (hexd_hi (b.toNat % 16) (by omega)).1 h.symm
    · exact no32_hex l h
theorem no32_pln (l : List UInt8) (h : plnB l = true) : (32 : UInt8) ∉ l := fun h' => by
  have : plnC 32 = true := by
    simp only [plnB, Bool.and_eq_true] at h
    exact List.all_eq_true.1 (by first | exact h.1.1 | exact h.1 | exact h.2) _ h'
  exact absurd this (by decide)
theorem no32_hexO (t : List UInt8) : (32 : UInt8) ∉ hexO t := by
  unfold hexO; split
  · decide
  · exact no32_hex t
theorem line_spb (e : Ev) (h : plnB e.kind = true) : spb 32 e.line = e.parts := by
  refine spb_inj 32 e.line e.parts (by simp [Ev.parts]) (fun p hp => ?_) rfl
  simp only [Ev.parts, List.mem_cons, List.not_mem_nil, or_false] at hp
  rcases hp with rfl | rfl | rfl | rfl | rfl
  · exact no32_dec _
  · exact no32_dec _
  · exact no32_pln _ h
  · exact no32_dec _
  · exact no32_hexO _
theorem hexL_ne (t : List UInt8) (h : t ≠ []) : hexL t ≠ [] ∧ hexL t ≠ [45] := by
  cases t with
  | nil => exact absurd rfl h
  | cons b l => simp [hexL]
theorem tx_hexO (t : List UInt8) : txB (hexO t) = true ∧ txV (hexO t) = t := by
  unfold hexO
  by_cases h : t = []
  · subst h; simp [txB, txV]
  · rw [if_neg h]
    have h2 := hexL_ne t h
    simp [txB, txV, h2.1, h2.2, unhR_hex]
theorem hexO_tx (t : List UInt8) (h : txB t = true) : hexO (txV t) = t := by
  unfold txV
  by_cases h2 : t = [45]
  · subst h2; rfl
  · rw [if_neg h2]
    simp [txB, h2] at h
    have hc := unhR_canon t h.2
    unfold hexO
    rw [if_neg (fun h3 => h.1 (by rw [← hc, h3]; rfl)), hc]
/-- What has a line is read of it again. -/
theorem read_line (e : Ev) (h : e.right = true) : rdE e.line = some e := by
  have hr := h
  simp only [Ev.right, Bool.and_eq_true, decide_eq_true_eq] at h
  obtain ⟨⟨⟨⟨⟨⟨h1, h2⟩, h3⟩, h4⟩, h5⟩, h6⟩, h7⟩ := h
  unfold rdE
  rw [line_spb e h1]
  simp only [Ev.parts]
  have hc : ((e.conn.toNat : Nat) : Int) = e.conn := by omega
  rw [(dec_spec e.n).2.1, (dec_spec e.tk).2.1, (dec_spec e.conn.toNat).2.1, (tx_hexO e.text).2, hc]
  rw [if_pos ⟨dec_can _, dec_can _, dec_can _, (tx_hexO e.text).1, hr⟩]
theorem valD_pow : ∀ (l : List UInt8) (n : Nat), n * 10 ^ l.length ≤ valD n l
  | [], n => by simp [valD]
  | c :: r, n => by
    have := valD_pow r (10 * n + (c.toNat - 48))
    show n * 10 ^ (r.length + 1) ≤ valD (10 * n + (c.toNat - 48)) r
    have h2 : 10 * n * 10 ^ r.length ≤ (10 * n + (c.toNat - 48)) * 10 ^ r.length := Nat.mul_le_mul_right _ (by omega)
    rw [Nat.pow_succ, Nat.mul_comm (10 ^ r.length) 10, ← Nat.mul_assoc, Nat.mul_comm n 10]
    omega
theorem can_short (l : List UInt8) (h : canB l = true) (hv : valD 0 l < 10000000000000000) : l.length ≤ 16 := by
  cases l with
  | nil => simp
  | cons c r =>
    simp only [canB, List.all_cons, Bool.and_eq_true, Bool.or_eq_true, decide_eq_true_eq, List.length_cons, List.head?_cons, ne_eq, Option.some.injEq] at h
    obtain ⟨⟨hd, _⟩, h | ⟨_, h⟩⟩ := h
    · simp only [List.length_cons]; omega
    · have hp := valD_pow r (c.toNat - 48)
      have hv' : valD (c.toNat - 48) r < 10000000000000000 := by
        have : valD 0 (c :: r) = valD (10 * 0 + (c.toNat - 48)) r := rfl
        rw [this, Nat.mul_zero, Nat.zero_add] at hv; exact hv
      simp only [digB, Bool.and_eq_true, decide_eq_true_eq] at hd
      have hc : 1 ≤ c.toNat - 48 := by
        have : c.toNat ≠ 48 := fun h' => h (UInt8.toNat_inj.1 (by rw [h']; rfl))
        omega
      have h10 : 1 * 10 ^ r.length ≤ (c.toNat - 48) * 10 ^ r.length := Nat.mul_le_mul_right _ hc
      simp only [List.length_cons]
      refine Nat.le_of_not_lt fun hl => ?_
      have : 10 ^ 16 ≤ 10 ^ r.length := Nat.pow_le_pow_right (by omega) (by omega)
      omega
def numB (l : List UInt8) : Bool := canB l && decide (valD 0 l < 18446744073709551616)
def num16 (l : List UInt8) : Bool := canB l && decide (l.length ≤ 16)
/-- The program's Read. -/
theorem code_read (s a b c d t : List UInt8) (h : spb 32 s = [a, b, c, d, t]) (na nb nd : Nat) (ha : numB a = true → na = valD 0 a) (hb : numB b = true → nb = valD 0 b) (hd : numB d = true → nd = valD 0 d)
    (tx : List UInt8) (ok : Bool) (h1 : t = [45] → tx = [] ∧ ok = true) (h2 : t ≠ [45] → tx = (unhR t).1 ∧ ok = decide ((unhR t).2 = 0)) :
    (if numB a = true ∧ numB b = true ∧ numB d = true ∧ ok = true ∧ (Ev.mk na nb c ((min nd 9007199254740992 : Nat) : Int) tx).right = true ∧ (Ev.mk na nb c ((min nd 9007199254740992 : Nat) : Int) tx).line = s then some (Ev.mk na nb c ((min nd 9007199254740992 : Nat) : Int) tx) else none) = rdE s := by
  have hj := spb_join 32 s
  rw [h] at hj
  unfold rdE
  rw [h]
  by_cases hk : (canB a = true ∧ canB b = true ∧ canB d = true ∧ txB t = true ∧ (Ev.mk (valD 0 a) (valD 0 b) c (valD 0 d : Nat) (txV t)).right = true)
  · simp only [if_pos hk]
    obtain ⟨k1, k2, k3, k4, k5⟩ := hk
    have hr := k5
    simp only [Ev.right, Bool.and_eq_true, decide_eq_true_eq] at k5
    obtain ⟨⟨⟨⟨⟨⟨q1, q2⟩, q3⟩, q4⟩, q5⟩, q6⟩, q7⟩ := k5
    have na' : numB a = true := by simp [numB, k1]; omega
    have nb' : numB b = true := by simp [numB, k2]; omega
    have nd' : numB d = true := by simp [numB, k3]; omega
    have htx : tx = txV t ∧ ok = true := by
      by_cases h3 : t = [45]
      · have := h1 h3; simp [txV, h3, this.1, this.2]
      · have := h2 h3
        simp [txB, h3] at k4
        simp [txV, h3, this.1, this.2, k4.2]
    rw [ha na', hb nb', hd nd', htx.1, htx.2, Nat.min_eq_left (by omega)]
    have hl : (Ev.mk (valD 0 a) (valD 0 b) c (valD 0 d : Nat) (txV t)).line = s := by
      rw [← hj]
      simp only [Ev.line, Ev.parts, Int.toNat_natCast]
      rw [can_dec a k1, can_dec b k2, can_dec d k3, hexO_tx t k4]
    rw [if_pos ⟨na', nb', nd', rfl, hr, hl⟩]
  · simp only [if_neg hk]
    rw [if_neg]
    rintro ⟨m1, m2, m3, m4, m5, m6⟩
    refine hk ?_
    have hr := m5
    simp only [Ev.right, Bool.and_eq_true, decide_eq_true_eq] at m5
    obtain ⟨⟨⟨⟨⟨⟨q1, q2⟩, q3⟩, q4⟩, q5⟩, q6⟩, q7⟩ := m5
    have e1 := line_spb (Ev.mk na nb c ((min nd 9007199254740992 : Nat) : Int) tx) q1
    rw [m6, h] at e1
    simp only [Ev.parts, List.cons.injEq, and_true] at e1
    obtain ⟨e1, e2, _, e3, e4⟩ := e1
    have htx : txV t = tx ∧ txB t = true := by rw [e4]; exact ⟨(tx_hexO tx).2, (tx_hexO tx).1⟩
    have hmin : min nd 9007199254740992 = nd := by omega
    rw [ha m1, hb m2, hd m3] at hr
    rw [hd m3] at hmin
    rw [hmin] at hr
    refine ⟨?_, ?_, ?_, htx.2, by rw [htx.1]; exact hr⟩
    · simp [numB] at m1; exact m1.1
    · simp [numB] at m2; exact m2.1
    · simp [numB] at m3; exact m3.1
/-- The document's Read. -/
theorem ref_read (s a b c d t : List UInt8) (h : spb 32 s = [a, b, c, d, t]) (na nb nd : Nat) (ha : num16 a = true → na = valD 0 a) (hb : num16 b = true → nb = valD 0 b) (hd : num16 d = true → nd = valD 0 d) :
    (if txB t = true ∧ num16 a = true ∧ num16 b = true ∧ num16 d = true ∧ nd ≤ 2147483647 ∧ (Ev.mk na nb c ((nd % 1099511627776 : Nat) : Int) (txV t)).right = true then some (Ev.mk na nb c ((nd % 1099511627776 : Nat) : Int) (txV t)) else none) = rdE s := by
  unfold rdE
  rw [h]
  by_cases hk : (canB a = true ∧ canB b = true ∧ canB d = true ∧ txB t = true ∧ (Ev.mk (valD 0 a) (valD 0 b) c (valD 0 d : Nat) (txV t)).right = true)
  · simp only [if_pos hk]
    obtain ⟨k1, k2, k3, k4, k5⟩ := hk
    have hr := k5
    simp only [Ev.right, Bool.and_eq_true, decide_eq_true_eq] at k5
    obtain ⟨⟨⟨⟨⟨⟨q1, q2⟩, q3⟩, q4⟩, q5⟩, q6⟩, q7⟩ := k5
    have na' : num16 a = true := by simp [num16, k1]; exact can_short a k1 (by omega)
    have nb' : num16 b = true := by simp [num16, k2]; exact can_short b k2 (by omega)
    have nd' : num16 d = true := by simp [num16, k3]; exact can_short d k3 (by omega)
    rw [ha na', hb nb', hd nd', Nat.mod_eq_of_lt (by omega)]
    rw [if_pos ⟨k4, na', nb', nd', by omega, hr⟩]
  · simp only [if_neg hk]
    rw [if_neg]
    rintro ⟨m4, m1, m2, m3, m5, m6⟩
    refine hk ?_
    rw [ha m1, hb m2, hd m3, Nat.mod_eq_of_lt (by rw [hd m3] at m5; omega)] at m6
    refine ⟨?_, ?_, ?_, m4, m6⟩
    · simp [num16] at m1; exact m1.1
    · simp [num16] at m2; exact m2.1
    · simp [num16] at m3; exact m3.1
end Go.Proofs.YtpndahmlbjhdfaaDoor
