/-
  ref16.Line: what it says, in plain words.
-/
import Derived.Test.YtjbobblnicnhnaaDoorRows
import Derived.Test.YtjbobblnicnhnaaDoorLin
import Derived.Test.YtjbobblnicnhnaaDoorRpo
namespace Go.Proofs.YtjbobblnicnhnaaDoor
set_option linter.unusedVariables false
set_option linter.unusedSimpArgs false

/-- The rule that the document makes of five words, ahead of the question whether it is right; none: there is none. -/
def refR (v ro te ho po : List UInt8) : Option Ru :=
  if po = [42] then some ⟨v == allowL, ro, te, ho, 1, 65535⟩
  else if 2 < (spb 45 po).length then none
  else some ⟨v == allowL, ro, te, ho, (portN ((spb 45 po).headD []) : Int), (portN ((spb 45 po).getLastD []) : Int)⟩
theorem portO_no (l : List UInt8) (h : (45 : UInt8) ∈ l) : portO l = none := by
  rw [portO_ref, if_neg]
  intro hh
  have := List.all_eq_true.1 hh.2.2.2.1 45 h
  simp [digB] at this
theorem portN_some {l : List UInt8} {n : Nat} (h : portO l = some n) : portN l = n := by unfold portN; rw [h]; rfl
theorem portN_none {l : List UInt8} (h : portO l = none) : portN l = 0 := by unfold portN; rw [h]; rfl
theorem ruOk_zero (al : Bool) (ro te ho : List UInt8) (t : Int) : ruOk ⟨al, ro, te, ho, 0, t⟩ = false := by
  unfold ruOk; simp
theorem ruOk_down (al : Bool) (ro te ho : List UInt8) (f t : Int) (h : t < f) : ruOk ⟨al, ro, te, ho, f, t⟩ = false := by
  unfold ruOk
  have : decide (1 ≤ f ∧ f ≤ t ∧ t ≤ 65535) = false := decide_eq_false (by omega)
  simp only [this, Bool.and_false]
theorem lineW_of {v ro te ho po : List UInt8} (hv : v = allowL ∨ v = denyL) : lineW v ro te ho po = match spanO po with | some (a, b) => if ruOk ⟨v == allowL, ro, te, ho, a, b⟩ then some ⟨v == allowL, ro, te, ho, a, b⟩ else none | none => none := by
  unfold lineW; rw [if_pos hv]
  rcases spanO po with _ | ⟨a, b⟩ <;> rfl
theorem some_if {r : Ru} : ((if ruOk r then some r else none : Option Ru).isSome = ruOk r) ∧ ∀ x, (if ruOk r then some r else none : Option Ru) = some x → r = x := by
  cases h : ruOk r with
  | true => exact ⟨rfl, fun x hx => by simpa using hx⟩
  | false => exact ⟨rfl, fun x hx => by simp at hx⟩
theorem lineW_ref {v ro te ho po : List UInt8} (hv : v = allowL ∨ v = denyL) : match refR v ro te ho po with
    | some r => (lineW v ro te ho po).isSome = ruOk r ∧ ∀ x, lineW v ro te ho po = some x → r = x
    | none => lineW v ro te ho po = none := by
  rw [lineW_of hv]
  unfold refR spanO
  by_cases h42 : po = [42]
  · rw [if_pos h42, if_pos h42]
    exact some_if
  · rw [if_neg h42, if_neg h42]
    rcases cut_byte po 45 with ⟨p, q, hc, he, hp⟩ | ⟨hc, hno⟩
    · rw [hc]
      simp only
      by_cases hq : (45 : UInt8) ∈ q
      · have hlen : 2 < (spb 45 po).length := by
          rw [he, spb_cons 45 p q hp, List.length_cons]
          rcases cut_byte q 45 with ⟨p2, q2, _, he2, hp2⟩ | ⟨_, hno⟩
          · rw [he2, spb_cons 45 p2 q2 hp2, List.length_cons]
            have := spb_ne 45 q2
            have := List.length_pos_iff.2 this
            omega
          · exact absurd hq hno
        rw [if_pos hlen, portO_no q hq]
        cases portO p <;> rfl
      · have hs : spb 45 po = [p, q] := by rw [he, spb_cons 45 p q hp, spb_plain 45 q hq]
        rw [hs, if_neg (by simp)]
        simp only [List.headD_cons, List.getLastD_cons, List.getLastD_nil]
        cases h1 : portO p with
        | none =>
          rw [portN_none h1]
          refine ⟨?_, fun x hx => by cases portO q <;> cases hx⟩
          rw [Int.natCast_zero, ruOk_zero]
          cases portO q <;> rfl
        | some a =>
          rw [portN_some h1]
          cases h2 : portO q with
          | none =>
            rw [portN_none h2]
            have ha := ((portO_spec p).2 a h1).2.1
            refine ⟨?_, fun x hx => by cases hx⟩
            rw [ruOk_down _ _ _ _ _ _ (by omega)]
            rfl
          | some b =>
            rw [portN_some h2]
            rw [show spanJ true (some a) (some b) = if a ≤ b then some (a, b) else none from rfl]
            by_cases hab : a ≤ b
            · rw [if_pos hab]
              exact some_if
            · rw [if_neg hab]
              refine ⟨?_, fun x hx => by cases hx⟩
              rw [ruOk_down _ _ _ _ _ _ (by omega)]
              rfl
    · rw [hc]
      simp only
      have hs : spb 45 po = [po] := spb_plain 45 po hno
      rw [hs, if_neg (by simp)]
      simp only [List.headD_cons, List.getLastD_cons, List.getLastD_nil]
      cases h1 : portO po with
      | none =>
        rw [portN_none h1]
        refine ⟨?_, fun x hx => by cases hx⟩
        rw [Int.natCast_zero, ruOk_zero]
        rfl
      | some a =>
        rw [portN_some h1]
        exact some_if
theorem lineO_bad {l v ro te ho po : List UInt8} (h : spb 32 l = [v, ro, te, ho, po]) (hv : ¬ (v = allowL ∨ v = denyL)) : lineO l = none := by
  rw [lineO_five h]; unfold lineW; rw [if_neg hv]
end Go.Proofs.YtjbobblnicnhnaaDoor
