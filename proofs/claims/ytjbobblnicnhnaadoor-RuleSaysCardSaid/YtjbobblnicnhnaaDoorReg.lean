/-
  A region that draws its order, inside a round: by the plain laws of its orders (wpIn_region_plain). 'step_push': an append of one element to an owned row, as one step.
-/
import Derived.Deep.RegionLaw
import Derived.Test.YtjbobblnicnhnaaDoorBridge
namespace Go.Proofs.YtjbobblnicnhnaaDoor
open Go.RowKit
set_option linter.unusedVariables false
set_option linter.unusedSimpArgs false

def onlyN (K : Act → World → Prop) : Exit → Act → World → Prop
  | .normal, a, w => K a w
  | _, _, _ => False
section
variable {P : Program} {r : Option Nat} {n : Nat} {ops : Array Oper} {md : Region.Mode}
theorem onlyN_out (K : Act → World → Prop) : ¬ LetsOut (onlyN K) := fun ⟨_, _, h⟩ => h
theorem rowsIn_wd {row : String} {args : Array Value} {w : World} {R : Value → World → Prop} (h : Rows P row args w R) : RowsIn (Wd r) n P row args w R :=
  fun c cs _ => let ⟨v, w', r, s⟩ := h c cs; ⟨v, w', r, stepsIn_wide.2 s⟩
theorem wpIn_of_plain {o : Oper} {a : Act} {K0 : Act → World → Prop} {K : Act → World → Prop} {Q' : Exit → Act → World → Prop} {w : World} (hd : ∀ c, o.op ≠ .defer c) (h : o.wp P a w K (onlyN K0)) : o.wpIn (Wd r) n P a w K Q' := by
  unfold Oper.wp at h
  refine ⟨fun _ _ => trivial, ?_⟩
  rw [Oper.semAt_eq _ _ _ hd]
  generalize (execOp a.eval o).run P w = rr at *
  cases rr with
  | ok x w' =>
    cases x <;> simp only [Oper.upon] at h <;> simp only [Oper.uponIn]
    case value u => exact h
    case skip => exact h
    case defer d => exact h
    case enter f args =>
      refine ⟨wd_depth, callsIn_wd (h.mono fun e w'' he => ?_)⟩
      cases e with
      | returned v => exact he
      | panicked c => exact he.elim
      | outgrown => exact (onlyN_out _ he).elim
    case row row args => exact ⟨wd_depth, rowsIn_wd h⟩
    all_goals exact h.elim
  | halt x w' => cases x <;> exact h.elim
theorem wpAnyIn_of_plain {Q' : Exit → Act → World → Prop} (hd : ∀ (i : Nat) (o : Oper), ops[i]? = some o → ∀ c, o.op ≠ .defer c) : ∀ (fuel : Nat) (listed : Array Bool) (a : Act) (w : World),
    wpAny P md ops (onlyN fun a w => Q' .normal a w) fuel listed a w → wpAnyIn (Wd r) n P md ops Q' fuel listed a w
  | 0, _, _, _, h => ⟨h.1, h.2⟩
  | fuel + 1, listed, a, w, h => ⟨h.1, fun i hi => by
      have h1 := h.2 i hi
      unfold wpOp at h1
      unfold wpOpIn
      split
      · rename_i ho; simp only [ho] at h1; exact wpAnyIn_of_plain hd fuel _ _ _ h1
      · rename_i o ho
        simp only [ho] at h1
        split
        · rename_i hw
          simp only [hw, if_true] at h1
          rcases h1 with h1 | ⟨_, h1⟩
          · exact Oper.wpIn_mono (fun a' w' h' => wpAnyIn_of_plain hd fuel _ a' w' h') (wpIn_of_plain (hd i o ho) h1)
          · exact (onlyN_out _ h1).elim
        · rename_i hw
          simp only [hw] at h1
          exact ⟨fun _ _ => trivial, wpAnyIn_of_plain hd fuel _ _ _ h1⟩⟩
theorem wpIn_region_plain {id : Nat} {Q : Exit → Act → World → Prop} {a : Act} {w : World} {l : List Oper} (hm : P.follows .mixedOrders = true) (hd : noDefer l = true)
    (h : wpAny P .any l.toArray (onlyN fun a w => Q .normal a w) l.toArray.size (Array.replicate l.toArray.size false) a w.drew) : (Code.region id l.toArray true).wpIn (Wd r) n P Q a w :=
  wpIn_region_any hm (wpAnyIn_of_plain (fun i o ho => noDefer_spec hd ho) _ _ _ _ h)
end
theorem step_push {P : Program} {w : World} {ops : Array Oper} {o : Oper} {a : Act} {K : Act → World → Prop} {Q : Exit → Act → World → Prop} {E : Prop} (base : Nat) (hgd : o.guard = none) (s x : Operand) (t e : TypeId)
    (ho : o.op = .call { callee := .builtin .append, args := #[s, x], argTypes := #[t, t] }) (ht : P.underlying t = some (.slice e))
    {z : Value} {bytes : Nat} (hinfo : (P.info? e).map (fun i => (i.zero, i.size, i.bytes)) = some (some z, 1, bytes)) (hz : z.cells.size = 1) (hb : bytes ≤ 1000)
    {v : Value} {n : Nat} {xs : List Value} (hown : w.ownsRow base e 1 v n xs) (u : Value) (hu : u.oneCell' = true) (hn : n + 1 ≤ 100000000) (hbase : base ≤ w.heap.size)
    (hs : a.eval s = v) (hx : a.eval x = .slice (some ⟨w.heap.size, 0, none⟩) 1 1)
    (h : ∀ v' w', (∃ g cap, v' = .slice (some ⟨g, 0, none⟩) (n + 1) cap) → w'.ownsRow base e 1 v' (n + 1) (xs ++ [u]) → w.grownBy w' v.ownBlock → K (a.put o.dst v') w') :
    if Region.wanted o (yielded ops a.tmps) = true then Oper.wp P o a (w.alloc (.cells #[u] e)) K Q else E := by
  have hw : Region.wanted o (yielded ops a.tmps) = true := by simp [Region.wanted, hgd]
  rw [if_pos hw]
  obtain ⟨i0, hi, hz0, hz1, hz2⟩ := info_parts hinfo
  obtain ⟨v', w', hrun, h1, h2, _⟩ := run_append_own (P := P) (w.alloc (.cells #[u] e)) base t o.type e i0 z 1 bytes ht hi hz0 hz1 hz2 hz (by decide) v n xs (hown.alloc _) ⟨w.heap.size, 0, none⟩ 1 1 [u] rfl
    (fun j y hj => by
      match j, hj with
      | 0, hj =>
        simp at hj; subst hj
        show (w.alloc (.cells #[u] e)).cell? ⟨w.heap.size, 0, none⟩ = some u
        simp only [World.cell?]
        rw [show (w.alloc (.cells #[u] e)).heap[w.heap.size]? = some (.cells #[u] e) from heap_alloc_new w _]
        simp)
    (fun y hy => by simp at hy; subst hy; exact hu) (by unfold maxLen; omega)
    (by have : (n + 1) * bytes ≤ 100000000 * 1000 := Nat.mul_le_mul hn hb
        omega) (by simp; omega)
  unfold Oper.wp
  simp [execOp, ho, resolve, invoke, builtin, hs, hx, hrun, Result.andThen]
  refine h v' w' ?_ h1 (grownBy_from h2)
  rcases h1.2 with ⟨_, h0⟩ | ⟨g, cap, cur, hv, _⟩
  · omega
  · exact ⟨g, cap, hv⟩
end Go.Proofs.YtjbobblnicnhnaaDoor
