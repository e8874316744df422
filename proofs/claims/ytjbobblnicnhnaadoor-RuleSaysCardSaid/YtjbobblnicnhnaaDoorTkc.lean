/-
  A region that draws its order: a call that leaves the world alone, whatever it is, may be taken first.
-/
import Derived.Test.YtjbobblnicnhnaaDoorReg
namespace Go.Proofs.YtjbobblnicnhnaaDoor
open Go.RowKit
set_option linter.unusedVariables false
set_option linter.unusedSimpArgs false

section
variable {P : Program} {ops : Array Oper} {md : Region.Mode} {Q : Exit → Act → World → Prop}
/-- The call's answer is v in every world, which it leaves as it is. -/
def CallsC (P : Program) (ops : Array Oper) (o : Oper) (v : Value) (a : Act) : Prop :=
  Region.wanted o (yielded ops a.tmps) = true ∧ ∃ f args, (∀ w, (execOp a.eval o).run P w = .ok (.enter f args) w) ∧ ∀ w, Calls P f args w fun e w' => e = .returned v ∧ w' = w
theorem CallsC.step {i : Nat} {o : Oper} {v : Value} {a : Act} (hi : ops[i]? = some o) (hy : CallsC P ops o v a) {K : Act → World → Prop} {w : World} (h : K (a.put o.dst v) w) : wpOp P ops Q i K a w := by
  obtain ⟨hw, f, args, hr, hc⟩ := hy
  unfold wpOp
  simp only [hi, hw, if_true]
  left
  unfold Oper.wp
  rw [hr w]
  simp only [Oper.upon]
  refine (hc w).mono ?_
  rintro e w' ⟨rfl, rfl⟩
  exact h
theorem CallsC.same {o : Oper} {v : Value} {a a' : Act} (hy : CallsC P ops o v a) (he : execOp a'.eval o = execOp a.eval o) (hw : Region.wanted o (yielded ops a'.tmps) = Region.wanted o (yielded ops a.tmps)) : CallsC P ops o v a' := by
  obtain ⟨h1, f, args, hr, hc⟩ := hy
  exact ⟨hw.trans h1, f, args, fun w => by rw [he]; exact hr w, hc⟩
/-- What an operation can make of the frame: its own slot, and what is deferred. -/
def Moved (o : Oper) (a a' : Act) : Prop := ∃ u ds, a' = { a.put o.dst u with defers := ds }
theorem moved_put (o : Oper) (a : Act) (u : Value) : Moved o a (a.put o.dst u) := ⟨u, (a.put o.dst u).defers, rfl⟩
theorem wpOp_moved {j : Nat} {oj : Oper} (hj : ops[j]? = some oj) {K K' : Act → World → Prop} {a : Act} {w : World} (hm : ∀ a' w', Moved oj a a' → K a' w' → K' a' w') (h : wpOp P ops Q j K a w) : wpOp P ops Q j K' a w := by
  unfold wpOp at h ⊢
  simp only [hj] at h ⊢
  split
  case isFalse hw => simp only [hw] at h; exact hm _ _ (moved_put _ _ _) h
  case isTrue hw =>
    simp only [hw, if_true] at h
    refine h.imp (fun h => ?_) id
    unfold Oper.wp at h ⊢
    revert h
    generalize (execOp a.eval oj).run P w = r
    intro h
    match r, h with
    | .ok (.value u) w', h => exact hm _ _ (moved_put _ _ _) h
    | .ok .skip w', h => exact hm _ _ (moved_put _ _ _) h
    | .ok (.defer d) w', h =>
      refine hm _ _ ⟨undef, d :: a.defers, ?_⟩ h
      cases hd : oj.dst <;> simp [Act.put]
    | .ok (.enter f args) w', h =>
      refine Calls.mono h fun e w'' he => ?_
      cases e with
      | returned u => exact hm _ _ (moved_put _ _ _) he
      | panicked c => exact he
      | outgrown => exact he
    | .ok (.row row args) w', h => exact Rows.mono h fun u w'' he => hm _ _ (moved_put _ _ _) he
    | .halt (.panic u) w', h => exact h
theorem pure_yields (o : Oper) (v : Value) (a : Act) : Yields P ops { o with op := .move (.const v), guard := none } v a := .inl ⟨by simp [Region.wanted], fun w => by simp [execOp, Act.eval]⟩
theorem apart_pure {x y : Oper} {v : Value} (h : x.apart ops y = true) : Oper.apart ops { x with op := .move (.const v), guard := none } y = true := by
  obtain ⟨h1, h2, h3⟩ := Oper.apart_spec h
  have hl : ∀ d, (Oper.looksAt ops { x with op := .move (.const v), guard := none }).contains d = false := fun d => by
    simp [Oper.looksAt, Op.operands]
  unfold Oper.apart
  rw [Bool.and_eq_true]
  constructor
  · show (match x.dst with | some d => !(y.looksAt ops).contains d && y.dst != some d | none => true) = true
    cases hx : x.dst with
    | none => rfl
    | some d =>
      have a1 := h1 d hx; have a2 := h2 d hx
      simp only [Bool.and_eq_true, Bool.not_eq_true', bne_iff_ne, ne_eq]
      exact ⟨by simpa using a1, a2⟩
  · cases hy : y.dst with
    | none => rfl
    | some d => simp only [hl d]; rfl
theorem takeC_core {i : Nat} {oi : Oper} {v : Value} (hi : ops[i]? = some oi) (hs : Region.noSelect ops = true) (hQ : ∀ c a w, Q (.panic c) (a.put oi.dst v) w → Q (.panic c) a w) :
    ∀ (fuel : Nat) (listed : Array Bool) (a : Act) (w : World),
      (∀ j oj, ops[j]? = some oj → j ≠ i → listed.getD j true = false → (∀ e ∈ oj.after, Region.binds md e = true → e.on ≠ i) → oi.apart ops oj = true) →
      i ∈ Region.ready md ops listed → CallsC P ops oi v a → wpAny P md ops Q fuel (listed.setIfInBounds i true) (a.put oi.dst v) w → wpAny P md ops Q (fuel + 1) listed a w
  | fuel, listed, a, w, hfree, hr, hy, H => by
    have hsel := Region.noSelect_spec hs
    have hirr := mem_ready.1 hr
    have others : ∀ j, j ∈ Region.ready md ops listed → j ≠ i → ∃ oj, ops[j]? = some oj ∧ oi.apart ops oj = true := fun j hj hji => by
      obtain ⟨hun, oj, hoj, hall⟩ := mem_ready.1 hj
      refine ⟨oj, hoj, hfree j oj hoj hji hun fun e he hb heq => ?_⟩
      have g1 := hall e he hb
      rw [heq] at g1
      have g0 := hirr.1
      by_cases hlt : i < listed.size
      · simp [hlt] at g0 g1; rw [g0] at g1; cases g1
      · simp [Array.getElem?_eq_none (Nat.le_of_not_lt hlt)] at g1
    refine ⟨fun h => (by rw [h] at hr; cases hr), fun j hj => ?_⟩
    by_cases hji : j = i
    · subst hji; exact hy.step hi H
    · obtain ⟨oj, hoj, hap⟩ := others j hj hji
      match fuel, H with
      | 0, H =>
        have := ready_mono hj hji
        rw [H.1] at this; cases this
      | fuel + 1, H =>
        have h1 := H.2 j (ready_mono hj hji)
        have h2 := wpOp_put (oi := { oi with op := .move (.const v), guard := none }) hoj (apart_pure hap) (fun cs b => by simp) (fun cs b => hsel j oj cs b hoj) hQ (pure_yields oi v a) h1
        refine wpOp_moved hoj (fun a' w' hm h3 => ?_) h2
        obtain ⟨u, ds, rfl⟩ := hm
        have hcc : CallsC P ops oi v { a.put oj.dst u with defers := ds } :=
          hy.same (execOp_put oi (fun cs b => hsel i oi cs b hi) a oj.dst u (Oper.apart_spec hap).2.2) (wanted_put oi a oj.dst u (Oper.apart_spec hap).2.2)
        refine takeC_core hi hs hQ fuel (listed.setIfInBounds j true) _ w' (fun k ok hk hki hun hno => ?_) (ready_mono hr (Ne.symm hji)) hcc ?_
        · refine hfree k ok hk hki ?_ hno
          by_cases hjk : j = k
          · subst hjk; exact (mem_ready.1 hj).1
          · rwa [getD_set_ne true hjk] at hun
        · rw [Array.setIfInBounds_comm _ _ hji]
          exact h3.2
/-- A call that leaves the world alone, taken first. -/
theorem wpAny_takeC {i : Nat} {oi : Oper} {v : Value} {fuel : Nat} {listed : Array Bool} {a : Act} {w : World} (hi : ops[i]? = some oi) (hs : Region.noSelect ops = true) (hf : Region.free md ops listed i = true) (hr : (Region.ready md ops listed).contains i = true)
    (hQ : ∀ c a w, Q (.panic c) (a.put oi.dst v) w → Q (.panic c) a w) (hy : CallsC P ops oi v a) (h : wpAny P md ops Q fuel (listed.setIfInBounds i true) (a.put oi.dst v) w) : wpAny P md ops Q (fuel + 1) listed a w :=
  takeC_core hi hs hQ fuel listed a w (Region.free_spec hi hf) (by simpa using hr) hy h
end
end Go.Proofs.YtjbobblnicnhnaaDoor
