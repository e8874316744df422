/-
 ScramLong's texts: their pieces.
-/
import Derived.Lib.IndexMore
import Derived.Test.YtjkbigecejogdaaGreatDoorRows
import Derived.Test.YtjkbigecejogdaaGreatDoorAtr
namespace Go.Proofs.YtjkbigecejogdaaGreatDoor
open Go.RowKit
set_option linter.unusedVariables false
set_option linter.unusedSimpArgs false
theorem spl_app : ∀ (a b : List UInt8), spl (a ++ 44 :: b) = spl a ++ spl b
 | [], b => by simp [spl]
 | c :: r, b => by
  have ih := spl_app r b
  have hne := spl_ne r
  rw [List.cons_append]
  by_cases h : c = 44
  ·subst h
   rw [show spl (44 :: (r ++ 44 :: b)) = [] :: spl (r ++ 44 :: b) by rw [spl]; simp, show spl (44 :: r) = [] :: spl r by rw [spl]; simp, ih]; rfl
  ·rw [show spl (c :: (r ++ 44 :: b)) = (c :: (spl (r ++ 44 :: b)).headD []) :: (spl (r ++ 44 :: b)).tail by rw [spl]; simp [h], show spl (c :: r) = (c :: (spl r).headD []) :: (spl r).tail by rw [spl]; simp [h], ih]
   cases hs : spl r with
   | nil => exact absurd hs hne
   | cons x t => simp
theorem spl_one : ∀ (l : List UInt8), (∀ c ∈ l, c ≠ 44) → spl l = [l]
 | [], _ => by simp [spl]
 | c :: r, h => by
  have ih := spl_one r (fun x hx => h x (List.mem_cons_of_mem _ hx))
  rw [show spl (c :: r) = (c :: (spl r).headD []) :: (spl r).tail by rw [spl]; simp [h c (by simp)], ih]
  simp
def ys (m : Nat) : List UInt8 := List.replicate m 121
def xP (m : Nat) : List UInt8 := 120 :: 61 :: ys m
end Go.Proofs.YtjkbigecejogdaaGreatDoor
