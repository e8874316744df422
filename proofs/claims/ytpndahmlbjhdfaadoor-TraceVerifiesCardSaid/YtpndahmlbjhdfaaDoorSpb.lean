/-
  A text's pieces between bytes, its lines, in plain Lean; what strings.Cut and strings.Split say of them.
-/
import Derived.Lib.Split
import Derived.Lib.SplitLaws
namespace Go.Proofs.YtpndahmlbjhdfaaDoor
set_option linter.unusedVariables false
set_option linter.unusedSimpArgs false

/-- A text's pieces between bytes b. -/
def spb (b : UInt8) : List UInt8 → List (List UInt8)
  | [] => [[]]
  | c :: r => if c = b then [] :: spb b r else (c :: (spb b r).headD []) :: (spb b r).tail
theorem spb_ne (b : UInt8) : ∀ l, spb b l ≠ []
  | [] => by simp [spb]
  | c :: r => by unfold spb; split <;> simp
theorem spb_split (b : UInt8) (l : List UInt8) : ∃ a t, spb b l = a :: t := by
  cases h : spb b l with
  | nil => exact absurd h (spb_ne b l)
  | cons a t => exact ⟨a, t, rfl⟩
theorem spb_hit (b : UInt8) (r : List UInt8) : spb b (b :: r) = [] :: spb b r := by simp [spb]
theorem spb_miss (b c : UInt8) (r : List UInt8) (h : c ≠ b) : spb b (c :: r) = (c :: (spb b r).headD []) :: (spb b r).tail := by simp [spb, h]
theorem spb_plain (b : UInt8) : ∀ l, b ∉ l → spb b l = [l]
  | [], _ => rfl
  | c :: r, h => by
    have h1 : c ≠ b := fun e => h (by simp [e])
    have h2 : b ∉ r := fun e => h (by simp [e])
    rw [spb_miss b c r h1, spb_plain b r h2]; rfl
theorem spb_cons (b : UInt8) : ∀ p r, b ∉ p → spb b (p ++ b :: r) = p :: spb b r
  | [], r, _ => spb_hit b r
  | c :: p, r, h => by
    have h1 : c ≠ b := fun e => h (by simp [e])
    have h2 : b ∉ p := fun e => h (by simp [e])
    rw [List.cons_append, spb_miss b c _ h1, spb_cons b p r h2]; rfl
theorem spb_mem (b : UInt8) : ∀ l p, p ∈ spb b l → b ∉ p
  | [], p, h => by simp [spb] at h; subst h; simp
  | c :: r, p, h => by
    obtain ⟨a, t, hs⟩ := spb_split b r
    by_cases hc : c = b
    · subst hc
      rw [spb_hit] at h
      rcases List.mem_cons.1 h with h | h
      · subst h; simp
      · exact spb_mem c r p h
    · rw [spb_miss b c r hc, hs] at h
      rcases List.mem_cons.1 h with h | h
      · subst h
        have := spb_mem b r a (by rw [hs]; simp)
        simp; exact ⟨fun e => hc e.symm, this⟩
      · exact spb_mem b r p (by rw [hs]; simp; exact .inr h)
theorem spb_len (b : UInt8) : ∀ l, (spb b l).length ≤ l.length + 1
  | [] => by simp [spb]
  | c :: r => by
    have := spb_len b r
    unfold spb; split
    · simp; omega
    · simp; omega
theorem spb_part (b : UInt8) : ∀ l p, p ∈ spb b l → p.length ≤ l.length
  | [], p, h => by simp [spb] at h; subst h; simp
  | c :: r, p, h => by
    obtain ⟨a, t, hs⟩ := spb_split b r
    by_cases hc : c = b
    · subst hc
      rw [spb_hit] at h
      rcases List.mem_cons.1 h with h | h
      · subst h; simp
      · have := spb_part c r p h; simp; omega
    · rw [spb_miss b c r hc, hs] at h
      rcases List.mem_cons.1 h with h | h
      · subst h; have := spb_part b r a (by rw [hs]; simp); simp; omega
      · have := spb_part b r p (by rw [hs]; simp; exact .inr h); simp; omega
/-- The text of its pieces. -/
theorem spb_join (b : UInt8) : ∀ l, [b].intercalate (spb b l) = l
  | [] => rfl
  | c :: r => by
    obtain ⟨a, t, hs⟩ := spb_split b r
    have ih := spb_join b r
    rw [hs] at ih
    by_cases hc : c = b
    · subst hc
      rw [spb_hit, hs]
      rw [List.intercalate_cons_cons, ih]; rfl
    · rw [spb_miss b c r hc, hs]
      show [b].intercalate ((c :: a) :: t) = _
      cases t with
      | nil => simp [List.intercalate] at ih ⊢; exact ih
      | cons u t =>
        rw [List.intercalate_cons_cons] at ih ⊢
        rw [← ih]; simp
theorem spb_inj (b : UInt8) (l : List UInt8) (ps : List (List UInt8)) (hp : ps ≠ []) (hb : ∀ p ∈ ps, b ∉ p) (h : l = [b].intercalate ps) : spb b l = ps := by
  induction ps generalizing l with
  | nil => exact absurd rfl hp
  | cons p ps ih =>
    cases ps with
    | nil =>
      have : l = p := by rw [h]; simp [List.intercalate]
      rw [this]; exact spb_plain b p (hb p (by simp))
    | cons q ps =>
      rw [List.intercalate_cons_cons] at h
      rw [h, List.append_assoc, List.singleton_append, spb_cons b p _ (hb p (by simp)), ih _ (by simp) (fun x hx => hb x (by simp; simp at hx; exact .inr hx)) rfl]

/-! ### Instances of one byte -/
theorem occ_one (s : List UInt8) (b : UInt8) (i : Nat) : Lib.occAt s [b] i = true ↔ s[i]? = some b := by
  unfold Lib.occAt
  rw [List.isPrefixOf_iff_prefix]
  constructor
  · rintro ⟨t, e⟩
    have := congrArg (·[0]?) e
    simpa using this.symm
  · intro h
    have hlt := (List.getElem?_eq_some_iff.1 h).1
    refine ⟨s.drop (i + 1), ?_⟩
    rw [List.drop_eq_getElem_cons hlt, (List.getElem?_eq_some_iff.1 h).2]
    rfl
/-- Where a byte is first: no piece, or the text's first piece and the rest. -/
theorem index_one_cases (s : List UInt8) (b : UInt8) : (Lib.index s [b] = -1 ∧ b ∉ s) ∨ (∃ i : Nat, Lib.index s [b] = i ∧ i < s.length ∧ s = s.take i ++ b :: s.drop (i + 1) ∧ b ∉ s.take i) := by
  rcases Lib.index_spec s [b] with ⟨hn, hno⟩ | ⟨i, hi, hle, hoc, hfirst⟩
  · refine .inl ⟨hn, fun hm => ?_⟩
    obtain ⟨i, hi, hg⟩ := List.getElem_of_mem hm
    have := (occ_one s b i).2 (by rw [List.getElem?_eq_getElem hi, hg])
    rw [hno i (by omega)] at this; cases this
  · have hg := (occ_one s b i).1 hoc
    have hlt := (List.getElem?_eq_some_iff.1 hg).1
    refine .inr ⟨i, hi, hlt, ?_, fun hm => ?_⟩
    · rw [← (List.getElem?_eq_some_iff.1 hg).2, ← List.drop_eq_getElem_cons hlt, List.take_append_drop]
    · obtain ⟨j, hj, hg⟩ := List.getElem_of_mem hm
      have hj' : j < i := by simp at hj; omega
      have := hfirst j hj'
      rw [(occ_one s b j).2 (by rw [← hg]; simp at hj ⊢)] at this
      cases this
/-- What strings.Cut gives at one byte. -/
theorem cut_byte (s : List UInt8) (b : UInt8) :
    (∃ p q, Lib.cut s [b] = (p, q, true) ∧ s = p ++ b :: q ∧ b ∉ p) ∨ (Lib.cut s [b] = (s, [], false) ∧ b ∉ s) := by
  rcases index_one_cases s b with ⟨h, hn⟩ | ⟨i, h, hlt, hs, hn⟩
  · exact .inr ⟨by simp [Lib.cut, h], hn⟩
  · exact .inl ⟨s.take i, s.drop (i + 1), by simp [Lib.cut, h], hs, hn⟩
/-- What strings.Split gives at one byte. -/
theorem split_byte (b : UInt8) : ∀ (n : Nat) (s : List UInt8), s.length ≤ n → Lib.split s [b] = spb b s
  | n, s, hn => by
    rcases index_one_cases s b with ⟨h, hno⟩ | ⟨i, h, hlt, hs, hno⟩
    · rw [spb_plain b s hno, Lib.split, Lib.count_miss h]; rfl
    · have h1 : Lib.split s [b] = s.take i :: Lib.split (s.drop (i + 1)) [b] := by
        rw [Lib.split, Lib.count_hit (by simp) h, Nat.add_comm 1, Lib.splitK, h]
        have : ¬ ((i : Int) == -1) = true := fun e => by have := beq_iff_eq.1 e; omega
        rw [if_neg this]
        rfl
      have h2 : spb b s = s.take i :: spb b (s.drop (i + 1)) := by
        conv => lhs; rw [hs]
        exact spb_cons b _ _ hno
      rw [h1, h2]
      cases n with
      | zero => omega
      | succ n => rw [split_byte b n _ (by simp; omega)]

/-! ### Lines -/
/-- A text's lines; what stands behind the last end is one, if it is something. -/
def lnL (l : List UInt8) : List (List UInt8) := if (spb 10 l).getLast? = some [] then (spb 10 l).dropLast else spb 10 l
theorem lnL_nil : lnL [] = [] := by simp [lnL, spb]
theorem lnL_cons (p q : List UInt8) (hp : (10 : UInt8) ∉ p) : lnL (p ++ 10 :: q) = p :: lnL q := by
  obtain ⟨a, t, hs⟩ := spb_split 10 q
  unfold lnL
  rw [spb_cons 10 p q hp, hs, List.getLast?_cons_cons]
  split <;> rfl
theorem lnL_last (l : List UInt8) (h0 : l ≠ []) (h : (10 : UInt8) ∉ l) : lnL l = [l] := by
  unfold lnL
  rw [spb_plain 10 l h]
  simp [h0]
theorem lnL_step (l : List UInt8) (h0 : l ≠ []) : lnL l = (Lib.cut l [10]).1 :: lnL (Lib.cut l [10]).2.1 ∧ (Lib.cut l [10]).2.1.length < l.length := by
  rcases cut_byte l 10 with ⟨p, q, hc, hs, hp⟩ | ⟨hc, hn⟩
  · rw [hc]
    refine ⟨?_, ?_⟩
    · conv => lhs; rw [hs]
      exact lnL_cons p q hp
    · rw [hs]; simp; omega
  · rw [hc]
    refine ⟨?_, ?_⟩
    · rw [lnL_last l h0 hn, lnL_nil]
    · exact List.length_pos_iff.2 h0
theorem lnL_part (l p : List UInt8) (h : p ∈ lnL l) : p.length ≤ l.length ∧ (10 : UInt8) ∉ p := by
  have : p ∈ spb 10 l := by
    unfold lnL at h
    split at h
    · exact List.dropLast_subset _ h
    · exact h
  exact ⟨spb_part 10 l p this, spb_mem 10 l p this⟩
theorem lnL_len (l : List UInt8) : (lnL l).length ≤ l.length + 1 := by
  have := spb_len 10 l
  unfold lnL
  split
  · simp; omega
  · exact this
end Go.Proofs.YtpndahmlbjhdfaaDoor
