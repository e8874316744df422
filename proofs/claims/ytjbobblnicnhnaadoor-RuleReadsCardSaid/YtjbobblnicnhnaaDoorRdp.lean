/-
  A policy's text is read again, in plain words.
-/
import Derived.Test.YtjbobblnicnhnaaDoorRows
import Derived.Test.YtjbobblnicnhnaaDoorTxr
namespace Go.Proofs.YtjbobblnicnhnaaDoor
set_option linter.unusedVariables false
set_option linter.unusedSimpArgs false

theorem port_dec (n : Nat) (h1 : 1 ≤ n) (h2 : n ≤ 65535) : portO (Lib.decDigits n) = some n := by
  obtain ⟨d1, d2, d3, d4⟩ := dec_spec n
  have hc := dec_can n
  unfold portO
  rw [hc, d2, decide_eq_true h1, decide_eq_true h2]
  rfl
theorem dec_no (n : Nat) (b : UInt8) (hb : digB b = false) : b ∉ Lib.decDigits n := fun hm => by
  have := List.all_eq_true.1 (dec_spec n).1 b hm
  rw [hb] at this; cases this
theorem itoa_pos (x : Int) (h : 0 ≤ x) : Lib.itoa x = Lib.decDigits x.toNat := by
  obtain ⟨n, rfl⟩ : ∃ n : Nat, x = (n : Int) := ⟨x.toNat, by omega⟩
  rw [Int.toNat_natCast]; exact itoa_nat n
theorem cut_none (l : List UInt8) (b : UInt8) (h : b ∉ l) : Lib.cut l [b] = (l, [], false) := by
  rcases cut_byte l b with ⟨p, q, _, he, _⟩ | ⟨hc, _⟩
  · exact absurd (by rw [he]; simp) h
  · exact hc
theorem split_uniq (b : UInt8) : ∀ (p q p' q' : List UInt8), b ∉ p → b ∉ p' → p ++ b :: q = p' ++ b :: q' → p = p' ∧ q = q'
  | [], q, [], q', _, _, h => by simp at h; exact ⟨rfl, h⟩
  | [], q, c :: p', q', _, h2, h => by simp at h; exact absurd (by simp [h.1]) h2
  | c :: p, q, [], q', h1, _, h => by simp at h; exact absurd (by simp [h.1]) h1
  | c :: p, q, c' :: p', q', h1, h2, h => by
    simp only [List.cons_append, List.cons.injEq] at h
    obtain ⟨r1, r2⟩ := split_uniq b p q p' q' (fun m => h1 (List.mem_cons_of_mem _ m)) (fun m => h2 (List.mem_cons_of_mem _ m)) h.2
    exact ⟨by rw [h.1, r1], r2⟩
theorem cut_some (p q : List UInt8) (b : UInt8) (hp : b ∉ p) : Lib.cut (p ++ b :: q) [b] = (p, q, true) := by
  rcases cut_byte (p ++ b :: q) b with ⟨p', q', hc, he, hp'⟩ | ⟨hc, hno⟩
  · obtain ⟨rfl, rfl⟩ := split_uniq b p q p' q' hp hp' he
    exact hc
  · exact absurd (by simp) hno
theorem span_ports (r : Ru) (h1 : 1 ≤ r.fr) (h2 : r.fr ≤ r.to) (h3 : r.to ≤ 65535) : spanO (portsL r) = some (r.fr.toNat, r.to.toNat) := by
  obtain ⟨f, hf⟩ : ∃ f : Nat, r.fr = (f : Int) := ⟨r.fr.toNat, by omega⟩
  obtain ⟨t, ht⟩ : ∃ t : Nat, r.to = (t : Int) := ⟨r.to.toNat, by omega⟩
  unfold portsL
  rw [hf, ht, Int.toNat_natCast, Int.toNat_natCast]
  rw [hf] at h1 h2
  rw [ht] at h2 h3
  have pf := port_dec f (by omega) (by omega)
  have pt := port_dec t (by omega) (by omega)
  have h45 : digB 45 = false := by decide
  have h42 : ∀ n, Lib.decDigits n ≠ [42] := fun n e => by
    have := (dec_spec n).1
    rw [e] at this; simp [digB] at this
  split
  · rename_i h
    obtain ⟨e1, e2⟩ := h
    have e1' : f = 1 := by omega
    have e2' : t = 65535 := by omega
    subst e1' e2'; rfl
  · split
    · rename_i _ h
      have e : f = t := by omega
      subst e
      rw [itoa_nat]
      unfold spanO
      rw [if_neg (h42 f), cut_none _ _ (dec_no f 45 h45), pf]
      rfl
    · rw [itoa_nat, itoa_nat]
      unfold spanO
      have hne : Lib.decDigits f ++ [45] ++ Lib.decDigits t ≠ [42] := fun e => by
        have := congrArg List.length e
        have h5 := (dec_spec f).2.2.1
        simp at this; omega
      rw [if_neg hne, List.append_assoc, List.singleton_append, cut_some _ _ _ (dec_no f 45 h45), pf, pt]
      unfold spanJ
      simp
      omega
theorem not_mem_all {p : UInt8 → Bool} {l : List UInt8} {b : UInt8} (h : l.all p = true) (hb : p b = false) : b ∉ l := fun hm => by
  have := List.all_eq_true.1 h b hm
  rw [hb] at this; cases this
theorem word_facts {l : List UInt8} (h : wordB l = true) : (32 : UInt8) ∉ l ∧ (10 : UInt8) ∉ l ∧ l.length ≤ 32 := by
  unfold wordB at h
  simp only [Bool.or_eq_true, beq_iff_eq] at h
  rcases h with rfl | h
  · exact ⟨by decide, by decide, by decide⟩
  · unfold plnB at h
    simp only [Bool.and_eq_true, decide_eq_true_eq] at h
    exact ⟨not_mem_all h.1 (by decide +kernel), not_mem_all h.1 (by decide +kernel), h.2.2⟩
theorem pat_facts {l : List UInt8} (h : patB l = true) : (32 : UInt8) ∉ l ∧ (10 : UInt8) ∉ l ∧ l.length ≤ 32 := by
  unfold patB at h
  simp only [Bool.and_eq_true, decide_eq_true_eq] at h
  exact ⟨not_mem_all h.1 (by decide +kernel), not_mem_all h.1 (by decide +kernel), h.2.2⟩
theorem verb_facts (b : Bool) : (32 : UInt8) ∉ verbL b ∧ (10 : UInt8) ∉ verbL b ∧ (verbL b).length ≤ 5 := by
  cases b <;> exact ⟨by decide, by decide, by decide⟩
theorem itoa_facts (x : Int) (h0 : 0 ≤ x) (h1 : x ≤ 65535) : (32 : UInt8) ∉ Lib.itoa x ∧ (10 : UInt8) ∉ Lib.itoa x ∧ (Lib.itoa x).length ≤ 5 := by
  rw [itoa_pos x h0]
  exact ⟨dec_no _ _ (by decide), dec_no _ _ (by decide), dec_len 5 _ (by omega) (by omega)⟩
theorem ports_facts (r : Ru) (h1 : 1 ≤ r.fr) (h2 : r.fr ≤ r.to) (h3 : r.to ≤ 65535) : (32 : UInt8) ∉ portsL r ∧ (10 : UInt8) ∉ portsL r ∧ (portsL r).length ≤ 11 := by
  obtain ⟨a1, a2, a3⟩ := itoa_facts r.fr (by omega) (by omega)
  obtain ⟨b1, b2, b3⟩ := itoa_facts r.to (by omega) (by omega)
  unfold portsL
  split
  · exact ⟨by decide, by decide, by decide⟩
  · split
    · exact ⟨a1, a2, by omega⟩
    · refine ⟨?_, ?_, ?_⟩
      · simp [a1, b1]
      · simp [a2, b2]
      · simp; omega
theorem ok_parts {r : Ru} (h : ruOk r = true) : wordB r.ro = true ∧ wordB r.te = true ∧ patB r.ho = true ∧ 1 ≤ r.fr ∧ r.fr ≤ r.to ∧ r.to ≤ 65535 := by
  unfold ruOk at h
  simp only [Bool.and_eq_true, decide_eq_true_eq] at h
  exact ⟨h.1, h.2.1, h.2.2.1, h.2.2.2.1, h.2.2.2.2.1, h.2.2.2.2.2⟩
theorem text_facts {r : Ru} (h : ruOk r = true) : (10 : UInt8) ∉ textR r ∧ (textR r).length ≤ 116 ∧ spb 32 (textR r) = [verbL r.al, r.ro, r.te, r.ho, portsL r] := by
  obtain ⟨h1, h2, h3, h4, h5, h6⟩ := ok_parts h
  obtain ⟨a1, a2, a3⟩ := word_facts h1
  obtain ⟨b1, b2, b3⟩ := word_facts h2
  obtain ⟨c1, c2, c3⟩ := pat_facts h3
  obtain ⟨d1, d2, d3⟩ := ports_facts r h4 h5 h6
  obtain ⟨e1, e2, e3⟩ := verb_facts r.al
  have he : textR r = verbL r.al ++ 32 :: (r.ro ++ 32 :: (r.te ++ 32 :: (r.ho ++ 32 :: portsL r))) := by simp [textR]
  refine ⟨?_, ?_, ?_⟩
  · rw [he]; simp only [List.mem_append, List.mem_cons]; simp [a2, b2, c2, d2, e2]
  · rw [he]; simp; omega
  · rw [he, spb_cons 32 _ _ e1, spb_cons 32 _ _ a1, spb_cons 32 _ _ b1, spb_cons 32 _ _ c1, spb_plain 32 _ d1]
theorem line_text {r : Ru} (h : ruOk r = true) : lineO (textR r) = some r := by
  obtain ⟨_, _, hs⟩ := text_facts h
  obtain ⟨h1, h2, h3, h4, h5, h6⟩ := ok_parts h
  rw [lineO_five hs]
  unfold lineW
  rw [span_ports r h4 h5 h6]
  have hv : verbL r.al = allowL ∨ verbL r.al = denyL := by cases r.al; exact .inr rfl; exact .inl rfl
  have hb : (verbL r.al == allowL) = r.al := by cases r.al <;> rfl
  have hr : (⟨verbL r.al == allowL, r.ro, r.te, r.ho, (r.fr.toNat : Int), (r.to.toNat : Int)⟩ : Ru) = r := by
    rw [hb, Int.toNat_of_nonneg (by omega), Int.toNat_of_nonneg (by omega)]
  rw [if_pos hv]
  simp only
  rw [hr, if_pos h]
theorem text_skip {r : Ru} : skipB (textR r) = false := by
  unfold skipB textR verbL
  cases r.al <;> rfl
theorem lnL_pol (rs : List Ru) (h : ∀ r ∈ rs, ruOk r = true) : lnL (polT rs) = rs.map textR := by
  induction rs with
  | nil => exact lnL_nil
  | cons r rs ih =>
    have hr := h r (by simp)
    have he : polT (r :: rs) = textR r ++ 10 :: polT rs := by
      unfold polT
      rw [List.flatMap_cons]
      unfold lineT
      rw [if_pos hr]; simp
    rw [he, lnL_cons _ _ (text_facts hr).1, ih (fun x hx => h x (by simp [hx]))]
    rfl
theorem pol_len (rs : List Ru) (h : ∀ r ∈ rs, ruOk r = true) : (polT rs).length ≤ 117 * rs.length := by
  induction rs with
  | nil => simp [polT]
  | cons r rs ih =>
    have hr := h r (by simp)
    have h2 := ih (fun x hx => h x (by simp [hx]))
    have h3 := (text_facts hr).2.1
    unfold polT at *
    rw [List.flatMap_cons, List.length_append, List.length_cons]
    unfold lineT at *
    rw [if_pos hr]
    simp at h2 ⊢
    omega
theorem parse_pol (rs : List Ru) (h : ∀ r ∈ rs, ruOk r = true) (hl : rs.length ≤ 32) : parseR (polT rs) = .ok rs := by
  have hlen := pol_len rs h
  have hln := lnL_pol rs h
  unfold parseR
  rw [if_neg (by omega), hln]
  have hall : (rs.map textR).all okL = true := by
    rw [List.all_eq_true]
    intro x hx
    obtain ⟨r, hr, rfl⟩ := List.mem_map.1 hx
    unfold okL
    rw [line_text (h r hr)]
    simp
  have hrl : rulesL (rs.map textR) = rs := by
    unfold rulesL
    rw [List.flatMap_map]
    clear hlen hln hall hl
    induction rs with
    | nil => rfl
    | cons r rs ih =>
      rw [List.flatMap_cons, ih (fun x hx => h x (by simp [hx]))]
      unfold ruL
      rw [text_skip, line_text (h r (by simp))]
      rfl
  rw [hall, if_pos rfl, hrl, if_neg (by omega)]
theorem parse_ok {l : List UInt8} {rs : List Ru} (h : parseR l = .ok rs) : (∀ r ∈ rs, ruOk r = true) ∧ rs.length ≤ 32 := by
  unfold parseR at h
  split at h
  · cases h
  · split at h
    · split at h
      · cases h
      · injection h with h
        subst h
        refine ⟨fun r hr => ?_, by omega⟩
        unfold rulesL at hr
        obtain ⟨x, _, hx⟩ := List.mem_flatMap.1 hr
        unfold ruL at hx
        split at hx
        · simp at hx
        · have hx2 : lineO x = some r := by simpa using hx
          unfold lineO at hx2
          split at hx2
          · unfold lineW at hx2
            split at hx2
            · split at hx2
              · split at hx2
                · rename_i hok
                  injection hx2 with hx2
                  rw [← hx2]; exact hok
                · cases hx2
              · cases hx2
            · cases hx2
          · cases hx2
    · cases h
end Go.Proofs.YtjbobblnicnhnaaDoor
