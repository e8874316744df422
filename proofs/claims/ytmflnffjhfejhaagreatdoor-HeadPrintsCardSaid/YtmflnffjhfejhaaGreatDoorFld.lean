/-
  Fold: alike but for great and small letters: the program's and the document's.
-/
import Derived.BigGuardPart
import Derived.BigQuiet
import Derived.Deep.DrawnRows
import Derived.Test.YtmflnffjhfejhaaGreatDoorRows
import Derived.Test.YtmflnffjhfejhaaGreatDoorHch
import Derived.Test.YtmflnffjhfejhaaGreatDoorLow
import Derived.Test.YtmflnffjhfejhaaGreatDoorKit
namespace Go.Proofs.YtmflnffjhfejhaaGreatDoor
open Go.RowKit
set_option maxRecDepth 100000
attribute [local go_sem ↓] Go.wp_at_zero Go.wp_at_succ
set_option linter.unusedVariables false
set_option linter.unusedSimpArgs false

def foldB (a b : List UInt8) : Bool := lowL a == lowL b
theorem foldB_len {a b : List UInt8} (h : a.length ≠ b.length) : foldB a b = false := by
  unfold foldB
  rw [Bool.eq_false_iff]
  intro he
  have he' : lowL a = lowL b := by simpa using he
  have := congrArg List.length he'
  rw [lowL_len, lowL_len] at this
  exact h this
theorem foldB_at {a b : List UInt8} {k : Nat} (ha : k < a.length) (hb : k < b.length) (h : lowB (bt a k) ≠ lowB (bt b k)) : foldB a b = false := by
  unfold foldB
  rw [Bool.eq_false_iff]
  intro he
  have he' : lowL a = lowL b := by simpa using he
  have := congrArg (·[k]?) he'
  simp only [lowL, List.getElem?_map, bt_some a k ha, bt_some b k hb, Option.map_some, Option.some.injEq] at this
  exact h this
theorem foldB_all {a b : List UInt8} (hl : a.length = b.length) (h : ∀ k, k < a.length → lowB (bt a k) = lowB (bt b k)) : foldB a b = true := by
  unfold foldB
  rw [beq_iff_eq]
  apply List.ext_getElem?
  intro k
  simp only [lowL, List.getElem?_map]
  by_cases hk : k < a.length
  · rw [bt_some a k hk, bt_some b k (by omega)]
    simp [h k hk]
  · rw [List.getElem?_eq_none (by omega), List.getElem?_eq_none (by omega)]
end Go.Proofs.YtmflnffjhfejhaaGreatDoor
