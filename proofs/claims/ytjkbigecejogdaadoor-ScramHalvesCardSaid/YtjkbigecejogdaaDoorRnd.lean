/-
  The library's variables as laid (LwS); scram.rounds and ref07.whole at every text.
-/
import Derived.BigGuardPart
import Derived.Lib.AppendIntMem
import Derived.Lib.AtoiErrMem
import Derived.Test.YtjkbigecejogdaaDoorRows
import Derived.Test.YtjkbigecejogdaaDoorPbx
import Derived.Test.YtjkbigecejogdaaDoorDcm
namespace Go.Proofs.YtjkbigecejogdaaDoor
open Go.RowKit
set_option maxRecDepth 100000
attribute [local go_sem] Oper.semAt_some
set_option linter.unusedVariables false
set_option linter.unusedSimpArgs false
/-- The number that strconv.Atoi gives beside an error. -/
def atoiV (l : List UInt8) : Int := match Lib.atoiAll l with | .ok v => v | .range => Lib.atoiSat l | _ => 0
def atoiOk (l : List UInt8) : Bool := match Lib.atoiAll l with | .ok _ => true | _ => false
theorem atoiV_bounds (l : List UInt8) : -9223372036854775808 ≤ atoiV l ∧ atoiV l ≤ 9223372036854775807 := by
  unfold atoiV
  split
  · rename_i v h; exact Lib.atoiAll_bounds h
  · exact Lib.atoiSat_bounds l
  · omega
theorem itoa_any (n : Int) (h0 : -9223372036854775808 ≤ n) (h1 : n ≤ 9223372036854775807) (W : World) (hW : TabW W) :
    Calls Tryd.prog 43 #[.int .i64 n] W fun e w' => e = .returned (Str (Lib.itoa n)) ∧ Ext W w' :=
  (Tryd.strconv_Itoa n h0 h1 W hW.tab).mono fun e w' ⟨he, k, os, hw⟩ => ⟨he, by rw [hw]; exact Lib.below_grow _ W (Nat.le_refl _) k os⟩
/-- A number of rounds; 0: it is none. -/
def rndB (l : List UInt8) : Bool := canB l && (decide (1 ≤ valD 0 l) && decide (valD 0 l ≤ 64))
def rndN (l : List UInt8) : Nat := if rndB l then valD 0 l else 0
theorem rndB_spec (l : List UInt8) : rndB l = (atoiOk l && (decide (1 ≤ atoiV l) && (decide (atoiV l ≤ 64) && (Lib.itoa (atoiV l) == l)))) ∧ (rndB l = true → atoiV l = valD 0 l) := by
  have hd : rndB l = true → canB l = true ∧ 1 ≤ valD 0 l ∧ valD 0 l ≤ 64 := fun h => by
    unfold rndB at h
    simpa using h
  have hv : rndB l = true → Lib.atoiAll l = .ok (valD 0 l : Int) ∧ Lib.itoa (valD 0 l : Int) = l := fun h => by
    obtain ⟨h1, h3, h4⟩ := hd h
    exact (atoi_itoa l (valD 0 l) (by omega)).2 ⟨h1, rfl, by omega⟩
  have hva : rndB l = true → atoiV l = valD 0 l := fun h => by simp [atoiV, (hv h).1]
  refine ⟨?_, hva⟩
  rw [Bool.eq_iff_iff]
  simp only [Bool.and_eq_true, decide_eq_true_eq, beq_iff_eq]
  constructor
  · intro h
    obtain ⟨h1, h3, h4⟩ := hd h
    rw [hva h]
    exact ⟨by simp [atoiOk, (hv h).1], by omega, by omega, (hv h).2⟩
  · rintro ⟨h1, h2, h3, h4⟩
    have h5 : Lib.atoiAll l = .ok (atoiV l) := by
      unfold atoiOk at h1
      unfold atoiV
      split at h1
      · rename_i v e; rw [e]
      · cases h1
    obtain ⟨q1, q2, q3⟩ := (atoi_itoa l (atoiV l) (by omega)).1 ⟨h5, h4⟩
    unfold rndB
    simp only [Bool.and_eq_true, decide_eq_true_eq]
    exact ⟨q1, by omega, by omega⟩
/-! ### ref07.whole -/
theorem valD_first : ∀ (l : List UInt8) (n : Nat), n * 10 ^ l.length ≤ valD n l
  | [], n => by simp [valD]
  | c :: r, n => by
    have := valD_first r (10 * n + (c.toNat - 48))
    show n * 10 ^ (r.length + 1) ≤ valD (10 * n + (c.toNat - 48)) r
    have h2 : (10 * n) * 10 ^ r.length ≤ (10 * n + (c.toNat - 48)) * 10 ^ r.length := Nat.mul_le_mul_right _ (by omega)
    rw [Nat.pow_succ, Nat.mul_comm (10 ^ r.length) 10, ← Nat.mul_assoc, Nat.mul_comm n 10]
    omega
/-- What the document asks of the digits. -/
def whoB2 (l : List UInt8) : Bool := l.all digB && (decide (l.length ≤ 4) && (decide (l = []) || decide (bt l 0 ≠ 48)))
theorem rnd_who (l : List UInt8) : rndN l = if whoB2 l && decide (valD 0 l ≤ 64) then valD 0 l else 0 := by
  unfold rndN
  by_cases h : rndB l = true
  · rw [if_pos h]
    unfold rndB canB at h
    simp only [Bool.and_eq_true, Bool.or_eq_true, decide_eq_true_eq] at h
    obtain ⟨⟨ha, hc⟩, h1, h2⟩ := h
    match l, ha, hc, h1, h2 with
    | [], _, hc, _, _ => simp at hc
    | c :: r, ha, hc, h1, h2 =>
      have hc48 : c ≠ 48 := by
        rcases hc with hl | ⟨_, hh⟩
        · have : r = [] := by simpa using hl
          subst this
          rintro rfl
          simp [valD] at h1
        · simpa using hh
      simp only [List.all_cons, Bool.and_eq_true] at ha
      have hcd := ha.1
      simp [digB] at hcd
      have hcn : c.toNat ≠ 48 := fun e => hc48 (UInt8.toNat_inj.1 (by rw [e]; rfl))
      have hv := valD_first r (10 * 0 + (c.toNat - 48))
      rw [show valD (10 * 0 + (c.toNat - 48)) r = valD 0 (c :: r) from rfl] at hv
      have hr : r.length ≤ 1 := by
        rcases Nat.lt_or_ge r.length 2 with h | h
        · omega
        · have h3 : 10 ^ 2 ≤ 10 ^ r.length := Nat.pow_le_pow_right (by omega) h
          have h4 : 1 * 10 ^ r.length ≤ (10 * 0 + (c.toNat - 48)) * 10 ^ r.length := Nat.mul_le_mul_right _ (by omega)
          omega
      rw [if_pos]
      simp only [whoB2, Bool.and_eq_true, Bool.or_eq_true, decide_eq_true_eq, List.all_cons, List.length_cons]
      exact ⟨⟨ha, by omega, .inr (by simpa [bt] using hc48)⟩, h2⟩
  · rw [if_neg h]
    split
    · rename_i hh
      simp only [whoB2, Bool.and_eq_true, Bool.or_eq_true, decide_eq_true_eq] at hh
      obtain ⟨⟨ha, hl, hn⟩, h2⟩ := hh
      rcases hn with rfl | hn
      · rfl
      · match l, ha, hn, h, h2 with
        | [], _, _, _, _ => rfl
        | c :: r, ha, hn, h, h2 =>
          exfalso; apply h
          have ha' := ha
          simp only [List.all_cons, Bool.and_eq_true] at ha
          have hcd := ha.1
          simp [digB] at hcd
          have hc48 : c ≠ 48 := by simpa [bt] using hn
          have hcn : c.toNat ≠ 48 := fun e => hc48 (UInt8.toNat_inj.1 (by rw [e]; rfl))
          have hv := valD_first r (10 * 0 + (c.toNat - 48))
          rw [show valD (10 * 0 + (c.toNat - 48)) r = valD 0 (c :: r) from rfl] at hv
          have h3 : 1 ≤ 10 ^ r.length := Nat.one_le_pow _ _ (by omega)
          have h4 : 1 * 1 ≤ (10 * 0 + (c.toNat - 48)) * 10 ^ r.length := Nat.mul_le_mul (by omega) h3
          unfold rndB canB
          simp only [Bool.and_eq_true, Bool.or_eq_true, decide_eq_true_eq]
          exact ⟨⟨ha', .inr ⟨by simp, by simpa using hc48⟩⟩, by omega, h2⟩
    · rfl
theorem digs_snoc (l : List UInt8) (k : Nat) (h : k < l.length) : (l.take (k + 1)).all digB = ((l.take k).all digB && digB (bt l k)) := by rw [take_snoc l k h]; simp
theorem digs_take (l : List UInt8) (k : Nat) (h : (l.take k).all digB = false) : l.all digB = false := by
  rw [Bool.eq_false_iff]; intro ha
  rw [Bool.eq_false_iff] at h
  exact h (List.all_eq_true.2 fun x hx => List.all_eq_true.1 ha x (List.mem_of_mem_take hx))
end Go.Proofs.YtjkbigecejogdaaDoor
