/-
  A range over a function within a round of another one.
-/
import Derived.Test.YtjbobblnicnhnaaDoorRows
import Derived.Test.YtjbobblnicnhnaaDoorRange
namespace Go.Proofs.YtjbobblnicnhnaaDoor
open Go.RowKit
set_option linter.unusedVariables false
set_option linter.unusedSimpArgs false
section
variable {P : Program}
theorem wpIn_range_in {l0 : Nat} {g : Operand} {ps : Array Tmp} {assign body : Code} {Q : Exit → Act → World → Prop} {a : Act} {w : World} {n : Nat} (hr0 : ∃ r, w.heap[l0]? = some (.loop r))
    {gf : Nat} {lb : Array Value} (hg : a.eval g = .func (.func gf) #[] lb) (eg : ∀ args w, (callFunc gf args).run P w = .ok (.enter gf args) w)
    {N : Nat} {encs : Nat → Array Value} {own mu : Nat → Prop} (hit : Iter P gf lb N encs own mu w) (hown : ∀ k, own k → k < w.heap.size) (hmut : ∀ k, mu k → k < w.heap.size) (hps : ∀ i, (encs i).size = ps.size)
    (I : Nat → World → Prop) (Ix : Code → Nat → World → Prop)
    (hI : ∀ i A C, I i A → Mv w.heap.size mu A C → I i C) (hIx : ∀ c i A C, Ix c i A → Mv w.heap.size mu A C → Ix c i C) (h0 : I 0 w)
    (hround : ∀ m l i W, i < N → I i W → w.heap.size ≤ l → (∃ r, W.heap[l]? = some (.loop r)) →
      assign.wpIn (Fence.wide.inRound l) m P (Exit.then (fun a1 W1 => Kp w.heap.size own W W1 ∧ ∀ W2, Mv w.heap.size (fun _ => False) W1 W2 → (∃ r, W2.heap[l]? = some (.loop r)) → body.wpIn (Fence.wide.inRound l) m P (roundOut w.heap.size own I Ix i W2) a1 W2) (fun _ _ _ => False))
        { tmps := (ps.zip (encs i)).foldl (fun t (p, v) => t.setIfInBounds p v) a.tmps, defers := [] } W)
    (hdone : ∀ (W : World), I N W → Q .normal a W)
    (hstop : ∀ (c : Code) (i : Nat) (W : World), i < N → Ix c i W → c.wpIn (Fence.wide.inRound l0) n P Q a W) :
    (Code.rangeFunc g ps assign body).wpIn (Fence.wide.inRound l0) n P Q a w := by
  obtain ⟨r0, hr0⟩ := hr0
  refine wpIn_rangeFunc ?_
  intro fn hfn
  obtain ⟨rec, hrec⟩ : ∃ rec : LoopState → Option Code → Loop, rec = fun st pe => { state := st, pending := pe, fn, tmps := a.tmps, params := ps, assign, body, defers := r0.defers } := ⟨_, rfl⟩
  obtain ⟨W1, hW1⟩ : ∃ W1, w.alloc (.loop (rec .ready none)) = W1 := ⟨_, rfl⟩
  have hL1 : W1.heap[w.heap.size]? = some (.loop (rec .ready none)) := by rw [← hW1]; exact World.alloc_heap_new _ _
  have hc1 : Chg (fun _ => False) w W1 := by rw [← hW1]; exact Chg.alloc _ w _
  have hI1 : I 0 W1 := hI _ _ _ h0 (hc1.mv fun _ h => h.elim)
  refine ⟨w.heap.size, [], W1, { target := .fn (.func gf) lb, args := #[.func (.yield w.heap.size) #[] #[]] }, W1, gf,
    #[.func (.yield w.heap.size) #[] #[]] ++ lb, W1, ?_, ?_, ?_, ?_, fun h => by simp [Fence.wide, Fence.inRound] at h, ?_⟩
  · rw [← hW1, hrec]; exact run_enterLoop_inner hr0 _ _ _ _ _
  · simp only [resolve, hg]
    simp [go_sem]
  · intro f' _; trivial
  · simp [invoke, go_sem, eg]
  · have lift : ∀ {A C : World}, kind? A w.heap.size = none → Chg (fun k => mu k ∨ k = w.heap.size) A C → Mv w.heap.size mu A C := fun hn hc => hc.mv fun k h => by
      rcases h with h | rfl
      · exact .inl h
      · exact .inr ⟨Nat.le_refl _, hn⟩
    refine (CallsIn.inRound l0 (range_core (P := P) hrec hit w.heap.size hown hmut (Nat.le_refl _) hps I Ix
      (fun i A C h hn hc => hI i A C h (lift hn hc)) (fun c i A C h hn hc => hIx c i A C h (lift hn hc))
      ?_ (n - 1) W1 (fun k hk => hc1.block k (hown k hk) (fun h => h)) hc1.size hL1 hI1)).mono ?_
    · rintro m i W hlt hi hr
      refine wpIn_mono (hround m _ i W hlt hi (Nat.le_refl _) hr) ?_
      rintro e a1 Wa hp
      cases e <;> simp only [Exit.then] at hp ⊢
      refine ⟨hp.1, fun Wb hkb hcb hrb => ?_⟩
      exact hp.2 Wb (hcb.mv fun k h => .inr (by subst h; exact ⟨Nat.le_refl _, hkb⟩)) hrb
    · rintro e W2 ⟨⟨v, rfl⟩, (⟨hi, hl⟩ | ⟨i, c, hlt, hi, hl⟩)⟩
      · have he := run_endLoop (P := P) hl (by rw [hrec]; simp)
        have hc := (Chg.putObj (.loop { rec .ready none with state := .exhausted }) hl rfl rfl).mono (T := fun k => mu k ∨ k = w.heap.size) fun k h => .inr h
        exact ⟨none, _, by rw [hrec] at he; rw [hrec]; exact he, hdone _ (hI _ _ _ hi (lift (kind_none hl rfl) hc))⟩
      · have he := run_endLoop (P := P) hl (by rw [hrec]; simp)
        have hc := (Chg.putObj (.loop { rec .done (some c) with state := .exhausted }) hl rfl rfl).mono (T := fun k => mu k ∨ k = w.heap.size) fun k h => .inr h
        exact ⟨some c, _, by rw [hrec] at he; rw [hrec]; exact he, hstop c i _ hlt (hIx _ _ _ _ hi (lift (kind_none hl rfl) hc))⟩
end
end Go.Proofs.YtjbobblnicnhnaaDoor
