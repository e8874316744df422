/-
  Words: name.Plain, ref04.Plain, rule.pattern, rule.word, ref16.word.
-/
import Derived.BigGuardPart
import Derived.Test.YtmflnffjhfejhaaGreatDoorRows
import Derived.Test.YtmflnffjhfejhaaGreatDoorLow
namespace Go.Proofs.YtmflnffjhfejhaaGreatDoor
open Go.RowKit
set_option maxRecDepth 100000
set_option linter.unusedVariables false
set_option linter.unusedSimpArgs false

def plnC (c : UInt8) : Bool := decide ((97 ≤ c.toNat ∧ c.toNat ≤ 122) ∨ (48 ≤ c.toNat ∧ c.toNat ≤ 57) ∨ c.toNat = 45 ∨ c.toNat = 95)
def patC (c : UInt8) : Bool := decide ((97 ≤ c.toNat ∧ c.toNat ≤ 122) ∨ (48 ≤ c.toNat ∧ c.toNat ≤ 57) ∨ c.toNat = 46 ∨ c.toNat = 45 ∨ c.toNat = 95 ∨ c.toNat = 42)
/-- Is a text a plain name? -/
def plnB (l : List UInt8) : Bool := l.all plnC && (decide (0 < l.length) && decide (l.length ≤ 32))
/-- Is a text a pattern? -/
def patB (l : List UInt8) : Bool := l.all patC && (decide (0 < l.length) && decide (l.length ≤ 32))
theorem all_snocC (f : UInt8 → Bool) (l : List UInt8) (k : Nat) (h : k < l.length) : (l.take (k + 1)).all f = ((l.take k).all f && f (bt l k)) := by rw [take_snoc l k h]; simp
theorem all_takeC (f : UInt8 → Bool) (l : List UInt8) (k : Nat) (h : (l.take k).all f = false) : l.all f = false := by
  cases hg : l.all f with
  | false => rfl
  | true =>
    rw [← h]; simp only [List.all_eq_true] at hg ⊢
    exact (List.all_eq_true.2 fun x hx => hg x (List.mem_of_mem_take hx)).symm
theorem all_step (f : UInt8 → Bool) (l : List UInt8) (k : Nat) (h : k < l.length) (ha : (l.take k).all f = true) : (f (bt l k) = true → (l.take (k + 1)).all f = true) ∧ (f (bt l k) = false → l.all f = false) := by
  have h1 := all_snocC f l k h
  rw [ha, Bool.true_and] at h1
  exact ⟨fun h2 => h1.trans h2, fun h2 => all_takeC f l (k + 1) (h1.trans h2)⟩

theorem ret_bool {a b : Bool} (h : a = b) : Ending.returned (Value.bool a) = .returned (.bool b) := by rw [h]
end Go.Proofs.YtmflnffjhfejhaaGreatDoor
