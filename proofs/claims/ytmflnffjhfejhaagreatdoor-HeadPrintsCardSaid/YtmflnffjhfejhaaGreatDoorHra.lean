/-
  ref09.answer: what it says, in plain words.
-/
import Derived.Test.YtmflnffjhfejhaaGreatDoorRows
import Derived.Test.YtmflnffjhfejhaaGreatDoorHhd
namespace Go.Proofs.YtmflnffjhfejhaaGreatDoor
set_option linter.unusedVariables false
set_option linter.unusedSimpArgs false

theorem valD_base : ∀ (l : List UInt8) (n : Nat), n * 10 ^ l.length ≤ valD n l
  | [], n => by simp [valD]
  | c :: l, n => by
    have h := valD_base l (10 * n + (c.toNat - 48))
    show n * 10 ^ (l.length + 1) ≤ valD (10 * n + (c.toNat - 48)) l
    refine Nat.le_trans ?_ h
    rw [Nat.pow_succ, Nat.add_mul]
    have : n * (10 ^ l.length * 10) = 10 * n * 10 ^ l.length := by rw [Nat.mul_comm (10 ^ l.length) 10, ← Nat.mul_assoc, Nat.mul_comm n 10]
    omega
theorem dig3_can (l : List UInt8) (hl : l.length = 3) : (canB l && (decide (100 ≤ valD 0 l) && decide (valD 0 l ≤ 999))) = (l.all digB && decide (100 ≤ valD 0 l)) := by
  match l, hl with
  | [a, b, c], _ =>
    cases hd : [a, b, c].all digB with
    | false => unfold canB; rw [hd]; rfl
    | true =>
      have hlt := valD_lt [a, b, c] 0 hd
      simp at hlt
      rw [Bool.true_and, decide_eq_true (show valD 0 [a, b, c] ≤ 999 by omega), Bool.and_true]
      by_cases h : 100 ≤ valD 0 [a, b, c]
      · rw [decide_eq_true h, Bool.and_true]
        unfold canB
        rw [hd]
        have hne : ([a, b, c] : List UInt8).head? ≠ some 48 := by
          intro he
          simp at he
          subst he
          have h2 := valD_lt [b, c] 0 (by simp at hd ⊢; exact ⟨hd.2.1, hd.2.2⟩)
          have h3 : valD 0 [48, b, c] = valD 0 [b, c] := rfl
          rw [h3] at h
          simp at h2
          omega
        simp [hne]
        simpa using hne
      · rw [decide_eq_false h, Bool.and_false]
theorem can_len (l : List UInt8) (h : canB l = true) (h1 : 100 ≤ valD 0 l) (h2 : valD 0 l ≤ 999) : l.length = 3 := by
  unfold canB at h
  simp only [Bool.and_eq_true, Bool.or_eq_true, decide_eq_true_eq] at h
  obtain ⟨hd, h3⟩ := h
  have hlt := valD_lt l 0 hd
  rw [Nat.zero_add, Nat.one_mul] at hlt
  have hge : ¬ l.length ≤ 2 := fun h => by
    have : 10 ^ l.length ≤ 10 ^ 2 := Nat.pow_le_pow_right (by omega) h
    omega
  have hle : ¬ 4 ≤ l.length := fun h4 => by
    match l, h4 with
    | c :: l, h4 =>
      simp only [List.length_cons] at h4
      have hc : c ≠ 48 := by
        rcases h3 with h3 | ⟨_, h3⟩
        · simp at h3; subst h3; simp at h4
        · intro e; subst e; simp at h3
      have hdc : digB c = true := by simp at hd; exact hd.1
      have hcn : 1 ≤ c.toNat - 48 := by
        simp [digB] at hdc
        have : c.toNat ≠ 48 := fun e => hc (UInt8.toNat_inj.1 (by simpa using e))
        omega
      have hb := valD_base l (c.toNat - 48)
      have hp : 10 ^ 3 ≤ 10 ^ l.length := Nat.pow_le_pow_right (by omega) (by omega)
      have h5 : valD 0 (c :: l) = valD (c.toNat - 48) l := by show valD (10 * 0 + (c.toNat - 48)) l = _; rw [Nat.mul_zero, Nat.zero_add]
      have h6 : 1 * 10 ^ l.length ≤ (c.toNat - 48) * 10 ^ l.length := Nat.mul_le_mul_right _ hcn
      omega
  omega
theorem statO_pos (l : List UInt8) : decide (0 < statO l) = (canB l && (decide (100 ≤ valD 0 l) && decide (valD 0 l ≤ 999))) := by
  unfold statO
  cases h : (canB l && (decide (100 ≤ valD 0 l) && decide (valD 0 l ≤ 999))) with
  | true =>
    rw [if_pos rfl]
    simp only [Bool.and_eq_true, decide_eq_true_eq] at h
    apply decide_eq_true
    omega
  | false => rw [if_neg (by simp)]; rfl
def ver9 : List UInt8 := [72, 84, 84, 80, 47, 49, 46, 49, 32]
theorem split_uniq (b : UInt8) : ∀ (p q p' q' : List UInt8), b ∉ p → b ∉ p' → p ++ b :: q = p' ++ b :: q' → p = p' ∧ q = q'
  | [], q, [], q', _, _, h => by simp at h; exact ⟨rfl, h⟩
  | [], q, c :: p', q', _, h2, h => by simp at h; exact absurd (by simp [h.1]) h2
  | c :: p, q, [], q', h1, _, h => by simp at h; exact absurd (by simp [h.1]) h1
  | c :: p, q, c' :: p', q', h1, h2, h => by
    simp only [List.cons_append, List.cons.injEq] at h
    obtain ⟨r1, r2⟩ := split_uniq b p q p' q' (fun m => h1 (List.mem_cons_of_mem _ m)) (fun m => h2 (List.mem_cons_of_mem _ m)) h.2
    exact ⟨by rw [h.1, r1], r2⟩
theorem cut_at (p q : List UInt8) (b : UInt8) (hp : b ∉ p) : Lib.cut (p ++ b :: q) [b] = (p, q, true) := by
  rcases cut_byte (p ++ b :: q) b with ⟨p', q', hc, he, hp'⟩ | ⟨hc, hno⟩
  · obtain ⟨rfl, rfl⟩ := split_uniq b p q p' q' hp hp' he
    exact hc
  · exact absurd (by simp) hno
/-- A first line of an answer, by its places. -/
def ansG (f : List UInt8) : Prop := 13 ≤ f.length ∧ f.take 9 = ver9 ∧ bt f 12 = 32
theorem ansG_shape {f : List UInt8} (h : ansG f) : ((f.take 12).drop 9).length = 3 ∧ f = verL ++ 32 :: ((f.take 12).drop 9 ++ 32 :: f.drop 13) := by
  obtain ⟨h1, h2, h3⟩ := h
  refine ⟨by simp; omega, ?_⟩
  have e1 : f = f.take 9 ++ f.drop 9 := (List.take_append_drop 9 f).symm
  have e2 : f.drop 9 = (f.take 12).drop 9 ++ f.drop 12 := by
    rw [← List.drop_append_of_le_length (by rw [List.length_take]; omega), List.take_append_drop]
  have e3 : f.drop 12 = 32 :: f.drop 13 := by
    rw [List.drop_eq_getElem_cons (by omega : 12 < f.length)]
    congr 1
    rw [← bt_get f 12 (by omega)]; exact h3
  rw [e3] at e2
  rw [e2, h2] at e1
  rw [show verL ++ 32 :: ((f.take 12).drop 9 ++ 32 :: f.drop 13) = ver9 ++ ((f.take 12).drop 9 ++ 32 :: f.drop 13) from rfl]
  exact e1
theorem ans_good {f : List UInt8} (h : ansG f) : rightA f = (((f.take 12).drop 9).all digB && (decide (100 ≤ valD 0 ((f.take 12).drop 9)) && textB (f.drop 13))) ∧
    (((f.take 12).drop 9).all digB = true → 100 ≤ valD 0 ((f.take 12).drop 9) → oneL false f = f.drop 13 ∧ stI false f = (valD 0 ((f.take 12).drop 9) : Int)) := by
  obtain ⟨h3, hf⟩ := ansG_shape h
  generalize (f.take 12).drop 9 = d at *
  generalize f.drop 13 = r at *
  have hv : (32 : UInt8) ∉ verL := by decide
  have hc1 : Lib.cut f [32] = (verL, d ++ 32 :: r, true) := by rw [hf]; exact cut_at verL _ 32 hv
  by_cases hd : (32 : UInt8) ∈ d
  · have hda : d.all digB = false := by
      rw [Bool.eq_false_iff]; intro ha
      have := List.all_eq_true.1 ha 32 hd
      simp [digB] at this
    rw [hda]
    refine ⟨?_, fun h => by cases h⟩
    rw [Bool.false_and]
    obtain ⟨p, q, hpq, hp⟩ : ∃ p q, d = p ++ 32 :: q ∧ (32 : UInt8) ∉ p := by
      rcases cut_byte d 32 with ⟨p, q, _, he, hp⟩ | ⟨_, hno⟩
      · exact ⟨p, q, he, hp⟩
      · exact absurd hd hno
    have hc2 : Lib.cut (d ++ 32 :: r) [32] = (p, q ++ 32 :: r, true) := by
      rw [hpq, List.append_assoc, List.cons_append]; exact cut_at p _ 32 hp
    unfold rightA ansP
    rw [hc1]
    simp only
    rw [hc2]
    simp only
    rw [statO_pos]
    have : (canB p && (decide (100 ≤ valD 0 p) && decide (valD 0 p ≤ 999))) = false := by
      rw [Bool.eq_false_iff]; intro ha
      simp only [Bool.and_eq_true, decide_eq_true_eq] at ha
      have := can_len p ha.1 ha.2.1 ha.2.2
      rw [hpq] at h3; simp at h3; omega
    rw [this]
    simp
  · have hc2 : Lib.cut (d ++ 32 :: r) [32] = (d, r, true) := cut_at d r 32 hd
    have hap : ansP f = (verL, d, r, true) := by unfold ansP; rw [hc1]; simp only; rw [hc2]; rfl
    have h33 := dig3_can d h3
    refine ⟨?_, fun h1 h2 => ?_⟩
    · unfold rightA
      rw [hap]
      simp only
      rw [statO_pos, h33, Bool.and_assoc]
      simp
    · unfold oneL stI
      rw [hap]
      refine ⟨by simp, ?_⟩
      simp only [Bool.false_eq_true, if_false]
      unfold statO
      rw [if_pos]
      rw [h33, h1, decide_eq_true h2]; rfl
theorem ans_bad {f : List UInt8} (h : ¬ ansG f) : rightA f = false := by
  rw [Bool.eq_false_iff]
  intro hr
  apply h
  unfold rightA ansP at hr
  simp only [Bool.and_eq_true, beq_iff_eq] at hr
  obtain ⟨⟨h1, h2⟩, h3, h4, h5⟩ := hr
  rw [statO_pos] at h4
  simp only [Bool.and_eq_true, decide_eq_true_eq] at h4
  have h6 := can_len _ h4.1 h4.2.1 h4.2.2
  rcases cut_byte f 32 with ⟨p, q, hc, he, hp⟩ | ⟨hc, hno⟩
  · rw [hc] at h2 h3 h6
    simp only at h2 h3 h6
    rcases cut_byte q 32 with ⟨p2, q2, hc2, he2, hp2⟩ | ⟨hc2, hno2⟩
    · rw [hc2] at h6
      simp only at h6
      subst h3
      have hf : f = ver9 ++ (p2 ++ 32 :: q2) := by rw [he, he2]; rfl
      match p2, h6 with
      | [x, y, z], _ =>
        rw [hf]
        refine ⟨by simp [ver9], rfl, rfl⟩
    · rw [hc2] at h2; cases h2
  · rw [hc] at h1; cases h1
end Go.Proofs.YtmflnffjhfejhaaGreatDoor
