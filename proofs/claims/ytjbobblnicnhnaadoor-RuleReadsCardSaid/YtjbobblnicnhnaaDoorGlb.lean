/-
  Patterns with stars in plain Lean: what a pattern fits (fit); how that is found from the left (greedy); the table of the document's way.
-/
import Derived.Lib.IndexMore
namespace Go.Proofs.YtjbobblnicnhnaaDoor
set_option linter.unusedVariables false
set_option linter.unusedSimpArgs false

/-- Is one of the ends of a text so? -/
def anyTail (f : List UInt8 → Bool) : List UInt8 → Bool
  | [] => f []
  | d :: t => f (d :: t) || anyTail f t
theorem anyTail_iff (f : List UInt8 → Bool) : ∀ h, anyTail f h = true ↔ ∃ x y, h = x ++ y ∧ f y = true
  | [] => by
    simp only [anyTail]
    constructor
    · intro h; exact ⟨[], [], rfl, h⟩
    · rintro ⟨x, y, e, h⟩
      obtain ⟨rfl, rfl⟩ := List.append_eq_nil_iff.1 e.symm
      exact h
  | d :: t => by
    simp only [anyTail, Bool.or_eq_true, anyTail_iff f t]
    constructor
    · rintro (h | ⟨x, y, e, h⟩)
      · exact ⟨[], d :: t, rfl, h⟩
      · exact ⟨d :: x, y, by rw [e]; rfl, h⟩
    · rintro ⟨x, y, e, h⟩
      cases x with
      | nil => left; rw [e]; exact h
      | cons a x =>
        right
        simp at e
        exact ⟨x, y, e.2, h⟩
/-- Does a pattern fit a text? -/
def fit : List UInt8 → List UInt8 → Bool
  | [], h => h.isEmpty
  | c :: p, h => if c = 42 then anyTail (fit p) h else match h with | [] => false | d :: t => d == c && fit p t
theorem fit_star (p h : List UInt8) : fit (42 :: p) h = anyTail (fit p) h := by simp [fit]
theorem fit_cons (c : UInt8) (p h : List UInt8) (hc : c ≠ 42) : fit (c :: p) h = true ↔ ∃ t, h = c :: t ∧ fit p t = true := by
  cases h with
  | nil => simp [fit, hc]
  | cons d t =>
    simp [fit, hc]
    constructor
    · rintro ⟨h1, h2⟩; exact ⟨t, ⟨h1, rfl⟩, h2⟩
    · rintro ⟨t', ⟨h1, rfl⟩, h2⟩; exact ⟨h1, h2⟩
theorem fit_append : ∀ (p q h : List UInt8), fit (p ++ q) h = true ↔ ∃ a b, h = a ++ b ∧ fit p a = true ∧ fit q b = true
  | [], q, h => by
    constructor
    · intro e; exact ⟨[], h, rfl, rfl, e⟩
    · rintro ⟨a, b, e, ha, hb⟩
      have : a = [] := by simpa [fit] using ha
      subst this; rw [e]; exact hb
  | c :: p, q, h => by
    by_cases hc : c = 42
    · subst hc
      rw [List.cons_append, fit_star, anyTail_iff]
      constructor
      · rintro ⟨x, y, e, hy⟩
        obtain ⟨a, b, e2, ha, hb⟩ := (fit_append p q y).1 hy
        refine ⟨x ++ a, b, by rw [e, e2, List.append_assoc], ?_, hb⟩
        rw [fit_star, anyTail_iff]; exact ⟨x, a, rfl, ha⟩
      · rintro ⟨a, b, e, ha, hb⟩
        rw [fit_star, anyTail_iff] at ha
        obtain ⟨x, y, e2, hy⟩ := ha
        exact ⟨x, y ++ b, by rw [e, e2, List.append_assoc], (fit_append p q _).2 ⟨y, b, rfl, hy, hb⟩⟩
    · rw [List.cons_append, fit_cons _ _ _ hc]
      constructor
      · rintro ⟨t, e, ht⟩
        obtain ⟨a, b, e2, ha, hb⟩ := (fit_append p q t).1 ht
        exact ⟨c :: a, b, by rw [e, e2]; rfl, (fit_cons _ _ _ hc).2 ⟨a, rfl, ha⟩, hb⟩
      · rintro ⟨a, b, e, ha, hb⟩
        obtain ⟨a', rfl, ha'⟩ := (fit_cons _ _ _ hc).1 ha
        exact ⟨a' ++ b, by rw [e]; rfl, (fit_append p q _).2 ⟨a', b, rfl, ha', hb⟩⟩
theorem fit_plain : ∀ (p h : List UInt8), 42 ∉ p → (fit p h = true ↔ h = p)
  | [], h, _ => by simp [fit]
  | c :: p, h, hp => by
    have h1 : c ≠ 42 := fun e => hp (by simp [e])
    have h2 : 42 ∉ p := fun e => hp (by simp [e])
    rw [fit_cons _ _ _ h1]
    constructor
    · rintro ⟨t, rfl, ht⟩; rw [(fit_plain p t h2).1 ht]
    · intro e; exact ⟨p, e, (fit_plain p p h2).2 rfl⟩

/-! ### From the left -/
theorem fit_first (a q h : List UInt8) (ha : 42 ∉ a) : fit (a ++ q) h = true ↔ ∃ t, h = a ++ t ∧ fit q t = true := by
  rw [fit_append]
  constructor
  · rintro ⟨x, y, e, hx, hy⟩
    rw [(fit_plain a x ha).1 hx] at e
    exact ⟨y, e, hy⟩
  · rintro ⟨t, e, ht⟩; exact ⟨a, t, e, (fit_plain a a ha).2 rfl, ht⟩
theorem tail_mono (f : List UInt8 → Bool) (x t : List UInt8) (h : anyTail f t = true) : anyTail f (x ++ t) = true := by
  rw [anyTail_iff] at h ⊢
  obtain ⟨a, b, e, hb⟩ := h
  exact ⟨x ++ a, b, by rw [e, List.append_assoc], hb⟩
theorem tail_last (p h : List UInt8) (hp : 42 ∉ p) : anyTail (fit p) h = Lib.hasSuffix h p := by
  rw [Bool.eq_iff_iff, anyTail_iff]
  unfold Lib.hasSuffix
  rw [List.isSuffixOf_iff_suffix]
  constructor
  · rintro ⟨x, y, e, hy⟩
    rw [(fit_plain p y hp).1 hy] at e
    exact ⟨x, e.symm⟩
  · rintro ⟨x, e⟩; exact ⟨x, p, e.symm, (fit_plain p p hp).2 rfl⟩
theorem occ_iff (s sub : List UInt8) (i : Nat) : Lib.occAt s sub i = true ↔ ∃ t, s.drop i = sub ++ t := by
  unfold Lib.occAt
  rw [List.isPrefixOf_iff_prefix]
  constructor
  · rintro ⟨t, e⟩; exact ⟨t, e.symm⟩
  · rintro ⟨t, e⟩; exact ⟨t, e.symm⟩
/-- A piece between stars: found as soon as can be. -/
theorem tail_part (p q h : List UInt8) (hp : 42 ∉ p) :
    (Lib.index h p < 0 → anyTail (fit (p ++ 42 :: q)) h = false) ∧
    ∀ i : Nat, Lib.index h p = i → i + p.length ≤ h.length ∧ anyTail (fit (p ++ 42 :: q)) h = anyTail (fit q) (h.drop (i + p.length)) := by
  have key : anyTail (fit (p ++ 42 :: q)) h = true ↔ ∃ x t, h = x ++ (p ++ t) ∧ anyTail (fit q) t = true := by
    rw [anyTail_iff]
    constructor
    · rintro ⟨x, y, e, hy⟩
      obtain ⟨t, e2, ht⟩ := (fit_first p _ y hp).1 hy
      rw [fit_star] at ht
      exact ⟨x, t, by rw [e, e2], ht⟩
    · rintro ⟨x, t, e, ht⟩
      exact ⟨x, p ++ t, e, (fit_first p _ _ hp).2 ⟨t, rfl, by rw [fit_star]; exact ht⟩⟩
  have occ : ∀ x t, h = x ++ (p ++ t) → Lib.occAt h p x.length = true := fun x t e => (occ_iff _ _ _).2 ⟨t, by rw [e]; simp⟩
  rcases Lib.index_spec h p with ⟨hn, hno⟩ | ⟨i, hi, hle, hoc, hfirst⟩
  · refine ⟨fun _ => ?_, fun i hi => by omega⟩
    rw [Bool.eq_false_iff]
    intro hk
    obtain ⟨x, t, e, _⟩ := key.1 hk
    have h1 := occ x t e
    rw [hno x.length (by rw [e]; simp)] at h1
    cases h1
  · refine ⟨fun hlt => by omega, fun j hj => ?_⟩
    obtain rfl : i = j := by omega
    obtain ⟨t, ht⟩ := (occ_iff _ _ _).1 hoc
    have hr : i + p.length ≤ h.length := by
      have := congrArg List.length ht; simp at this; omega
    have hd : h.drop (i + p.length) = t := by rw [← List.drop_drop, ht]; simp
    refine ⟨hr, ?_⟩
    rw [Bool.eq_iff_iff, key, hd]
    constructor
    · rintro ⟨x, t', e, h2⟩
      have hx : i ≤ x.length := Nat.le_of_not_lt fun hlt => by
        have := hfirst _ hlt
        rw [occ x t' e] at this; cases this
      have : t = (x.drop i ++ p).drop p.length ++ t' := by
        have e2 : p ++ t = (x.drop i ++ p) ++ t' := by
          rw [← ht, e, List.drop_append_of_le_length hx]; simp
        have e3 : (p ++ t).drop p.length = t := by simp
        exact e3.symm.trans (by rw [e2, List.drop_append_of_le_length (by simp)])
      rw [this]
      exact tail_mono _ _ _ h2
    · intro h2
      refine ⟨h.take i, t, ?_, h2⟩
      rw [← ht, List.take_append_drop]
/-- What strings.Cut gives at a star. -/
theorem cut_star (s : List UInt8) :
    ((Lib.cut s [42]).2.2 = false → (Lib.cut s [42]).1 = s ∧ (Lib.cut s [42]).2.1 = [] ∧ 42 ∉ s) ∧
    ((Lib.cut s [42]).2.2 = true → s = (Lib.cut s [42]).1 ++ 42 :: (Lib.cut s [42]).2.1 ∧ 42 ∉ (Lib.cut s [42]).1) := by
  have one : ∀ i, Lib.occAt s [42] i = true ↔ s[i]? = some 42 := fun i => by
    rw [occ_iff]
    constructor
    · rintro ⟨t, e⟩
      have := congrArg (·[0]?) e
      simpa using this
    · intro h
      have hlt := (List.getElem?_eq_some_iff.1 h).1
      refine ⟨s.drop (i + 1), ?_⟩
      rw [List.drop_eq_getElem_cons hlt, (List.getElem?_eq_some_iff.1 h).2]
      rfl
  rcases Lib.index_spec s [42] with ⟨hn, hno⟩ | ⟨i, hi, hle, hoc, hfirst⟩
  · have e : Lib.cut s [42] = (s, [], false) := by simp [Lib.cut, hn]
    rw [e]
    refine ⟨fun _ => ⟨rfl, rfl, fun hm => ?_⟩, fun h => Bool.noConfusion h⟩
    obtain ⟨i, hi, hg⟩ := List.getElem_of_mem hm
    have := (one i).2 (by rw [List.getElem?_eq_getElem hi, hg])
    rw [hno i (by omega)] at this; cases this
  · have e : Lib.cut s [42] = (s.take i, s.drop (i + 1), true) := by simp [Lib.cut, hi]
    rw [e]
    refine ⟨fun h => Bool.noConfusion h, fun _ => ⟨?_, fun hm => ?_⟩⟩
    · have hg := (one i).1 hoc
      have hlt := (List.getElem?_eq_some_iff.1 hg).1
      show s = s.take i ++ 42 :: s.drop (i + 1)
      rw [← (List.getElem?_eq_some_iff.1 hg).2, ← List.drop_eq_getElem_cons hlt, List.take_append_drop]
    · obtain ⟨j, hj, hg⟩ := List.getElem_of_mem hm
      have hj' : j < i := by simp at hj; omega
      have := hfirst j hj'
      rw [(one j).2 (by rw [← hg]; simp at hj ⊢)] at this
      cases this

/-! ### The document's table -/
/-- May the first j bytes of a text be what the first i of a pattern fit? -/
def tabB (p h : List UInt8) (i j : Nat) : Bool := fit (p.take i) (h.take j)
theorem tab_zero (p h : List UInt8) (j : Nat) (hj : j ≤ h.length) : tabB p h 0 j = decide (j = 0) := by
  unfold tabB
  rw [List.take_zero, fit, Bool.eq_iff_iff]
  simp [List.isEmpty_iff, List.take_eq_nil_iff]
  intro h
  subst h; simpa using hj
theorem tab_full (p h : List UInt8) : tabB p h p.length h.length = fit p h := by simp [tabB]
theorem take_one (p : List UInt8) (i : Nat) (hi : i < p.length) : p.take (i + 1) = p.take i ++ [p[i]] := List.take_succ_eq_append_getElem hi
theorem tab_star (p h : List UInt8) (i : Nat) (hi : i < p.length) (hc : p[i] = 42) (j : Nat) (hj : j ≤ h.length) :
    tabB p h (i + 1) j = (tabB p h i j || (decide (0 < j) && tabB p h (i + 1) (j - 1))) := by
  have key : ∀ j, tabB p h (i + 1) j = true ↔ ∃ k, k ≤ j ∧ tabB p h i k = true := fun j => by
    unfold tabB
    rw [take_one p i hi, hc, fit_append]
    constructor
    · rintro ⟨a, b, e, ha, _⟩
      by_cases hjl : j ≤ h.length
      · have hlen : a.length ≤ j := by have := congrArg List.length e; simp at this; omega
        have ea : a = h.take a.length := by
          have := congrArg (List.take a.length) e
          rw [List.take_take, Nat.min_eq_left hlen] at this
          simpa using this.symm
        exact ⟨a.length, hlen, by rw [← ea]; exact ha⟩
      · rw [List.take_of_length_le (by omega)] at e
        have hlen : a.length ≤ h.length := by have := congrArg List.length e; simp at this; omega
        have ea : a = h.take a.length := by
          have := congrArg (List.take a.length) e
          simpa using this.symm
        exact ⟨a.length, by omega, by rw [← ea]; exact ha⟩
    · rintro ⟨k, hk, h1⟩
      refine ⟨h.take k, (h.take j).drop k, ?_, h1, ?_⟩
      · have : h.take k = (h.take j).take k := by rw [List.take_take, Nat.min_eq_left hk]
        rw [this, List.take_append_drop]
      · rw [fit_star, anyTail_iff]
        exact ⟨(h.take j).drop k, [], by simp, rfl⟩
  rw [Bool.eq_iff_iff]
  simp only [Bool.or_eq_true, Bool.and_eq_true, decide_eq_true_eq, key]
  constructor
  · rintro ⟨k, hk, h1⟩
    by_cases e : k = j
    · subst e; exact .inl h1
    · exact .inr ⟨by omega, k, by omega, h1⟩
  · rintro (h1 | ⟨h0, k, hk, h1⟩)
    · exact ⟨j, Nat.le_refl _, h1⟩
    · exact ⟨k, by omega, h1⟩
theorem tab_byte (p h : List UInt8) (i : Nat) (hi : i < p.length) (hc : p[i] ≠ 42) (j : Nat) (hj : j < h.length) :
    tabB p h (i + 1) (j + 1) = (tabB p h i j && h[j] == p[i]) := by
  unfold tabB
  rw [take_one p i hi, take_one h j hj, Bool.eq_iff_iff, fit_append, Bool.and_eq_true, beq_iff_eq]
  have hp1 : 42 ∉ [p[i]] := by simp; exact fun e => hc e.symm
  constructor
  · rintro ⟨a, b, e, ha, hb⟩
    have hb' := (fit_plain _ _ hp1).1 hb
    subst hb'
    obtain ⟨e1, e2⟩ := List.append_inj' e rfl
    simp at e2
    exact ⟨by rw [e1]; exact ha, e2⟩
  · rintro ⟨h1, h2⟩
    exact ⟨h.take j, [h[j]], rfl, h1, (fit_plain _ _ hp1).2 (by rw [h2])⟩
theorem tab_byte0 (p h : List UInt8) (i : Nat) (hi : i < p.length) (hc : p[i] ≠ 42) : tabB p h (i + 1) 0 = false := by
  unfold tabB
  rw [take_one p i hi, Bool.eq_false_iff]
  intro h0
  obtain ⟨a, b, e, ha, hb⟩ := (fit_append _ _ _).1 h0
  have hb' := (fit_plain _ _ (by simp; exact fun e => hc e.symm)).1 hb
  subst hb'
  simp at e

/-! ### A pattern that covers another one -/
theorem fit_all (h : List UInt8) : fit [42] h = true := by
  rw [fit_star, anyTail_iff]; exact ⟨h, [], by simp, rfl⟩
theorem fit_front (a b h : List UInt8) (ha : 42 ∉ a) (hp : a <+: b) (hf : fit b h = true) : fit (a ++ [42]) h = true := by
  obtain ⟨t, rfl⟩ := hp
  obtain ⟨u, e, hu⟩ := (fit_first a t h ha).1 hf
  exact (fit_first a _ h ha).2 ⟨u, e, fit_all u⟩
theorem fit_back (a b h : List UInt8) (ha : 42 ∉ a) (hp : a <:+ b) (hf : fit b h = true) : fit (42 :: a) h = true := by
  obtain ⟨t, rfl⟩ := hp
  obtain ⟨x, y, e, hx, hy⟩ := (fit_append t a h).1 hf
  rw [fit_star, anyTail_iff]
  exact ⟨x, y, e, hy⟩
end Go.Proofs.YtjbobblnicnhnaaDoor
