/-
  A region that draws its order, within a round: it may be walked as outside of it, where no operation defers.
-/
import Derived.Test.YtjbobblnicnhnaaDoorReg
namespace Go.Proofs.YtjbobblnicnhnaaDoor
open Go.RowKit
set_option linter.unusedVariables false

section
variable {P : Program} {r : Option Nat} {n : Nat} {ops : Array Oper} {md : Region.Mode}
theorem oper_unround {o : Oper} {a : Act} {K : Act → World → Prop} {Q : Exit → Act → World → Prop} {w : World} (hd : ∀ c, o.op ≠ .defer c) (h : o.wpIn Fence.wide n P a w K Q) : o.wpIn (Wd r) n P a w K Q := by
  unfold Oper.wpIn at h ⊢
  refine ⟨h.1, ?_⟩
  have h2 := h.2
  rw [Oper.semAt_eq _ _ _ hd] at h2 ⊢
  exact h2
theorem wpAnyIn_unround {Q : Exit → Act → World → Prop} (hd : ∀ (i : Nat) (o : Oper), ops[i]? = some o → ∀ c, o.op ≠ .defer c) : ∀ (fuel : Nat) (listed : Array Bool) (a : Act) (w : World),
    wpAnyIn Fence.wide n P md ops Q fuel listed a w → wpAnyIn (Wd r) n P md ops Q fuel listed a w
  | 0, _, _, _, h => ⟨h.1, h.2⟩
  | fuel + 1, listed, a, w, h => ⟨h.1, fun i hi => by
      have h1 := h.2 i hi
      unfold wpOpIn at h1 ⊢
      split
      · rename_i ho; simp only [ho] at h1; exact wpAnyIn_unround hd fuel _ _ _ h1
      · rename_i o ho
        simp only [ho] at h1
        split
        · rename_i hw
          simp only [hw, if_true] at h1
          exact Oper.wpIn_mono (fun a' w' h' => wpAnyIn_unround hd fuel _ a' w' h') (oper_unround (hd i o ho) h1)
        · rename_i hw
          simp only [hw] at h1
          exact ⟨h1.1, wpAnyIn_unround hd fuel _ _ _ h1.2⟩⟩
theorem wpIn_region_unround {id : Nat} {Q : Exit → Act → World → Prop} {a : Act} {w : World} {l : List Oper} (hm : P.follows .mixedOrders = true) (hd : noDefer l = true)
    (h : wpAnyIn Fence.wide n P .any l.toArray Q l.toArray.size (Array.replicate l.toArray.size false) a w.drew) : (Code.region id l.toArray true).wpIn (Wd r) n P Q a w :=
  wpIn_region_any hm (wpAnyIn_unround (fun i o ho => noDefer_spec hd ho) _ _ _ _ h)
end
end Go.Proofs.YtjbobblnicnhnaaDoor
