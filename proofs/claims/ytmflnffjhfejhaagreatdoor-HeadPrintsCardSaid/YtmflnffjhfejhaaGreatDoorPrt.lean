/-
  rule.port, rule.span.
-/
import Derived.BigGuardPart
import Derived.Test.YtmflnffjhfejhaaGreatDoorRows
import Derived.Test.YtmflnffjhfejhaaGreatDoorLbk
import Derived.Test.YtmflnffjhfejhaaGreatDoorDcm
import Derived.Test.YtmflnffjhfejhaaGreatDoorChr
namespace Go.Proofs.YtmflnffjhfejhaaGreatDoor
open Go.RowKit
set_option maxRecDepth 100000
set_option linter.unusedVariables false
set_option linter.unusedSimpArgs false

/-- A port's number; none: it is none. -/
def portO (l : List UInt8) : Option Nat := if canB l && (decide (1 ≤ valD 0 l) && decide (valD 0 l ≤ 65535)) then some (valD 0 l) else none
theorem portO_spec (l : List UInt8) : (portO l).isSome = (atoiOk l && (decide (1 ≤ atoiV l) && (decide (atoiV l ≤ 65535) && (Lib.itoa (atoiV l) == l)))) ∧ ∀ n, portO l = some n → atoiV l = n ∧ 1 ≤ n ∧ n ≤ 65535 := by
  have hd : ∀ n, portO l = some n → canB l = true ∧ n = valD 0 l ∧ 1 ≤ n ∧ n ≤ 65535 := fun n h => by
    unfold portO at h
    split at h
    · rename_i h2
      simp only [Bool.and_eq_true, decide_eq_true_eq] at h2
      injection h with h
      subst h
      exact ⟨h2.1, rfl, h2.2.1, h2.2.2⟩
    · cases h
  have hv : ∀ n, portO l = some n → Lib.atoiAll l = .ok (n : Int) ∧ Lib.itoa (n : Int) = l := fun n h => by
    obtain ⟨h1, h2, h3, h4⟩ := hd n h
    exact (atoi_itoa l n (by omega)).2 ⟨h1, by rw [h2], by omega⟩
  have hva : ∀ n, portO l = some n → atoiV l = n := fun n h => by simp [atoiV, (hv n h).1]
  refine ⟨?_, fun n h => ⟨hva n h, (hd n h).2.2⟩⟩
  rw [Bool.eq_iff_iff, Option.isSome_iff_exists]
  simp only [Bool.and_eq_true, decide_eq_true_eq, beq_iff_eq]
  constructor
  · rintro ⟨n, h⟩
    obtain ⟨h1, h2, h3, h4⟩ := hd n h
    rw [hva n h]
    exact ⟨by simp [atoiOk, (hv n h).1], by omega, by omega, (hv n h).2⟩
  · rintro ⟨h1, h2, h3, h4⟩
    have h5 : Lib.atoiAll l = .ok (atoiV l) := by
      unfold atoiOk at h1
      unfold atoiV
      split at h1
      · rename_i v e; rw [e]
      · cases h1
    obtain ⟨q1, q2, q3⟩ := (atoi_itoa l (atoiV l) (by omega)).1 ⟨h5, h4⟩
    refine ⟨valD 0 l, ?_⟩
    unfold portO
    rw [if_pos]
    simp only [Bool.and_eq_true, decide_eq_true_eq]
    exact ⟨q1, by omega, by omega⟩

/-- A span out of one port, or of two. -/
def spanJ : Bool → Option Nat → Option Nat → Option (Nat × Nat)
  | true, some a, some b => if a ≤ b then some (a, b) else none
  | true, _, _ => none
  | false, some a, _ => some (a, a)
  | false, none, _ => none
/-- A span of ports; none: it is none. -/
def spanO (l : List UInt8) : Option (Nat × Nat) :=
  if l = [42] then some (1, 65535) else spanJ (Lib.cut l [45]).2.2 (portO (Lib.cut l [45]).1) (portO (Lib.cut l [45]).2.1)
theorem spanO_bounds (l : List UInt8) (a b : Nat) (h : spanO l = some (a, b)) : 1 ≤ a ∧ a ≤ b ∧ b ≤ 65535 := by
  unfold spanO at h
  split at h
  · injection h with h; injection h with h1 h2; omega
  · generalize (Lib.cut l [45]).2.2 = f at h
    cases f with
    | true =>
      cases e1 : portO (Lib.cut l [45]).1 with
      | none => rw [e1] at h; simp [spanJ] at h
      | some x =>
        cases e2 : portO (Lib.cut l [45]).2.1 with
        | none => rw [e1, e2] at h; simp [spanJ] at h
        | some y =>
          rw [e1, e2] at h
          simp only [spanJ] at h
          have := (portO_spec _).2 x e1; have := (portO_spec _).2 y e2
          split at h
          · injection h with h; injection h with h1 h2; omega
          · cases h
    | false =>
      cases e1 : portO (Lib.cut l [45]).1 with
      | none => rw [e1] at h; simp [spanJ] at h
      | some x =>
        rw [e1] at h
        simp only [spanJ] at h
        have := (portO_spec _).2 x e1
        injection h with h; injection h with h1 h2; omega
def I64 (n : Int) : Prop := -9223372036854775808 ≤ n ∧ n ≤ 9223372036854775807
/-- What a span answers. -/
def SpanR (l : List UInt8) (e : Ending) : Prop := ∃ f t : Int, e = .returned (.tuple #[.int .i64 f, .int .i64 t, .bool (spanO l).isSome]) ∧ I64 f ∧ I64 t ∧ ∀ a b, spanO l = some (a, b) → f = (a : Int) ∧ t = (b : Int)
theorem spanR_of {l : List UInt8} {f t : Int} {r : Bool} {e : Ending} (he : e = .returned (.tuple #[.int .i64 f, .int .i64 t, .bool r])) (hr : (spanO l).isSome = r) (h1 : I64 f) (h2 : I64 t) (h : ∀ a b, spanO l = some (a, b) → f = (a : Int) ∧ t = (b : Int)) : SpanR l e := ⟨f, t, by rw [he, hr], h1, h2, h⟩
end Go.Proofs.YtmflnffjhfejhaaGreatDoor
