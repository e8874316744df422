/-
  ScramLong's texts: their pieces.
-/
import Derived.Lib.IndexMore
import Derived.Test.YtjkbigecejogdaaDoorRows
import Derived.Test.YtjkbigecejogdaaDoorAtr
namespace Go.Proofs.YtjkbigecejogdaaDoor
open Go.RowKit
set_option linter.unusedVariables false
set_option linter.unusedSimpArgs false
theorem spl_app : ∀ (a b : List UInt8), spl (a ++ 44 :: b) = spl a ++ spl b
  | [], b => by simp [spl]
  | c :: r, b => by
    have ih := spl_app r b
    have hne := spl_ne r
    rw [List.cons_append]
    by_cases h : c = 44
    · subst h
      rw [show spl (44 :: (r ++ 44 :: b)) = [] :: spl (r ++ 44 :: b) by rw [spl]; simp, show spl (44 :: r) = [] :: spl r by rw [spl]; simp, ih]; rfl
    · rw [show spl (c :: (r ++ 44 :: b)) = (c :: (spl (r ++ 44 :: b)).headD []) :: (spl (r ++ 44 :: b)).tail by rw [spl]; simp [h], show spl (c :: r) = (c :: (spl r).headD []) :: (spl r).tail by rw [spl]; simp [h], ih]
      cases hs : spl r with
      | nil => exact absurd hs hne
      | cons x t => simp
theorem spl_one : ∀ (l : List UInt8), (∀ c ∈ l, c ≠ 44) → spl l = [l]
  | [], _ => by simp [spl]
  | c :: r, h => by
    have ih := spl_one r (fun x hx => h x (List.mem_cons_of_mem _ hx))
    rw [show spl (c :: r) = (c :: (spl r).headD []) :: (spl r).tail by rw [spl]; simp [h c (by simp)], ih]
    simp
theorem index_at : ∀ (a b : List UInt8), (∀ c ∈ a, c ≠ 44) → Lib.index (a ++ 44 :: b) [44] = a.length
  | [], b, _ => by rw [List.nil_append, Lib.index]; simp [List.isPrefixOf]
  | c :: r, b, h => by
    have ih := index_at r b (fun x hx => h x (List.mem_cons_of_mem _ hx))
    have hc : c ≠ 44 := h c (by simp)
    rw [List.cons_append, Lib.index]
    simp [List.isPrefixOf, hc, ih, Ne.symm hc]
theorem cut_at (a b : List UInt8) (h : ∀ c ∈ a, c ≠ 44) : Lib.cut (a ++ 44 :: b) [44] = (a, b, true) := by
  unfold Lib.cut
  rw [index_at a b h]
  simp
def ys (m : Nat) : List UInt8 := List.replicate m 121
theorem ys_mem {m : Nat} {c : UInt8} (h : c ∈ ys m) : c = 121 := (List.mem_replicate.1 h).2
theorem ys_len (m : Nat) : (ys m).length = m := by simp [ys]
theorem ys_snoc (m : Nat) : ys m ++ [121] = ys (m + 1) := by simp [ys, List.replicate_succ']
def xP (m : Nat) : List UInt8 := 120 :: 61 :: ys m
theorem xP_nc (m : Nat) : ∀ c ∈ xP m, c ≠ 44 := by
  intro c hc
  simp only [xP, List.mem_cons] at hc
  rcases hc with rfl | rfl | hc
  · decide
  · decide
  · rw [ys_mem hc]; decide
theorem xP_at (m : Nat) : isAt (xP m) = true := by simp [isAt, xP, bt]
end Go.Proofs.YtjkbigecejogdaaDoor
