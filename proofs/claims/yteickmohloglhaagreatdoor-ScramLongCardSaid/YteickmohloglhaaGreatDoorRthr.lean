/-
  A range within an iterator: what the rounds keep is named block by block (the iterator's own, the loop's two); what the invariants abide is named so too.
-/
import Derived.Test.YteickmohloglhaaGreatDoorKit
namespace Go.Proofs.YteickmohloglhaaGreatDoor
open Go.RowKit

def Kc (own : Nat → Prop) (w A C : World) : Prop := A.heap.size ≤ C.heap.size ∧ ∀ k, own k ∨ k = w.heap.size ∨ k = w.heap.size + 1 → C.heap[k]? = A.heap[k]?
theorem Kc.refl (own : Nat → Prop) (w A : World) : Kc own w A A := ⟨Nat.le_refl _, fun _ _ => rfl⟩
/-- How the body of a round may be left. -/
def roundOutK (K : World → World → Prop) (I : Nat → World → Prop) (Ix : Code → Nat → World → Prop) (i : Nat) (W : World) : Exit → Act → World → Prop
  | .normal, _, W' => K W W' ∧ I (i + 1) W'
  | .ret, _, W' => K W W' ∧ Ix .ret i W'
  | .exit id, _, W' => K W W' ∧ Ix (.exit id) i W'
  | .goto t, _, W' => K W W' ∧ Ix (.goto t) i W'
  | .panic _, _, _ => False
  | .outgrown, _, _ => False

section
variable {P : Program}
/-- The rounds, the record being laid at l. -/
theorem range_core3 {l : Nat} {fn : FuncId} {rec : LoopState → Option Code → Loop} {tmps : Array Value} {ps : Array Tmp} {assign body : Code} {d : Nat}
    (hrec : rec = fun st pe => { state := st, pending := pe, fn, tmps, params := ps, assign, body, defers := d })
    {gf : Nat} {lb : Array Value} {N : Nat} {encs : Nat → Array Value} {own mu : Nat → Prop} {w0 : World} (hit : Iter P gf lb N encs own mu w0)
    (K : World → World → Prop) (hK : ∀ A C, K A C → A.heap.size ≤ C.heap.size ∧ (∀ k, own k → C.heap[k]? = A.heap[k]?) ∧ C.heap[l]? = A.heap[l]?) (hown : ∀ k, own k → k ≠ l) (hmut : ¬ mu l) (hps : ∀ i, (encs i).size = ps.size)
    (I : Nat → World → Prop) (Ix : Code → Nat → World → Prop)
    (hI : ∀ i A C, I i A → kind? A l = none → Chg (fun k => mu k ∨ k = l) A C → I i C) (hIx : ∀ c i A C, Ix c i A → kind? A l = none → Chg (fun k => mu k ∨ k = l) A C → Ix c i C)
    (hround : ∀ m i W, i < N → I i W → (∃ r, W.heap[l]? = some (.loop r)) →
      assign.wpIn (Fence.wide.inRound l) m P (Exit.then (fun a1 W1 => K W W1 ∧ ∀ W2, kind? W1 l = none → Chg (fun k => k = l) W1 W2 → (∃ r, W2.heap[l]? = some (.loop r)) → body.wpIn (Fence.wide.inRound l) m P (roundOutK K I Ix i W2) a1 W2) (fun _ _ _ => False))
        { tmps := (ps.zip (encs i)).foldl (fun t (p, v) => t.setIfInBounds p v) tmps, defers := [] } W)
    (n : Nat) (W1 : World) (hW : ∀ k, own k → W1.heap[k]? = w0.heap[k]?) (hsz : w0.heap.size ≤ W1.heap.size) (hL : W1.heap[l]? = some (.loop (rec .ready none))) (h0 : I 0 W1) :
    CallsIn Fence.wide n P gf (#[.func (.yield l) #[] #[]] ++ lb) W1 fun e W2 => (∃ v, e = .returned v) ∧
      ((I N W2 ∧ W2.heap[l]? = some (.loop (rec .ready none))) ∨ ∃ i c, i < N ∧ Ix c i W2 ∧ W2.heap[l]? = some (.loop (rec .done (some c)))) := by
  refine (hit n l (fun i W => I i W ∧ W.heap[l]? = some (.loop (rec .ready none))) (fun i W => ∃ c, Ix c i W ∧ W.heap[l]? = some (.loop (rec .done (some c)))) W1 hW hsz ?_ ?_ ?_ ⟨h0, hL⟩).mono ?_
  · rintro i A C ⟨hi, hl⟩ hc
    exact ⟨hI i A C hi (kind_none hl rfl) (hc.mono fun k h => .inl h), (hc.block l (Array.getElem?_eq_some_iff.1 hl).1 hmut).trans hl⟩
  · rintro i A C ⟨c, hi, hl⟩ hc
    exact ⟨c, hIx c i A C hi (kind_none hl rfl) (hc.mono fun k h => .inl h), (hc.block l (Array.getElem?_eq_some_iff.1 hl).1 hmut).trans hl⟩
  · rintro m i W hlt ⟨hi, hl⟩
    have hy := run_yield (P := P) (args := encs i) hl (by rw [hrec]; exact hps i)
    rw [hrec] at hy
    refine ⟨fn, _, assign, body, hy, roundIn_of_wpIn trivial (wpIn_mono (hround m i W hlt hi ⟨_, hl⟩) ?_)⟩
    rintro e a1 Wa hp
    cases e with
    | normal =>
      obtain ⟨hk1, hr1⟩ := hp
      have hlw : l < W.heap.size := (Array.getElem?_eq_some_iff.1 hl).1
      have hla : Wa.heap[l]? = some (.loop (rec .ready none)) := ((hK _ _ hk1).2.2).trans hl
      refine ⟨_, run_beginRound hla (by rw [hrec]), ?_⟩
      have hlta : l < Wa.heap.size := (Array.getElem?_eq_some_iff.1 hla).1
      obtain ⟨Wb, hWb⟩ : ∃ Wb, Wa.putObj l (.loop { rec .ready none with state := .busy }) = Wb := ⟨_, rfl⟩
      have hlb : Wb.heap[l]? = some (.loop { rec .ready none with state := .busy }) := by rw [← hWb]; exact World.putObj_heap_same hlta
      have hcb : Chg (fun k => k = l) Wa Wb := by rw [← hWb]; exact Chg.putObj _ hla rfl rfl
      rw [hWb]
      refine wpIn_mono (hr1 Wb (kind_none hla rfl) hcb ⟨_, hlb⟩) ?_
      have hownWb : ∀ k, own k → Wb.heap[k]? = W.heap[k]? := fun k hk => by
        rw [← hWb, World.putObj_heap_other (hown k hk)]; exact (hK _ _ hk1).2.1 k hk
      have hszb : W.heap.size ≤ Wb.heap.size := Nat.le_trans (hK _ _ hk1).1 hcb.size
      have fin : ∀ (jump : Option Code) (W3 : World), K Wb W3 →
          (Instr.endRound l jump).run P W3 = .ok (.bool jump.isNone) (W3.putObj l (.loop (rec (if jump.isNone then .ready else .done) jump))) ∧ kind? W3 l = none ∧
          Chg (fun k => mu k ∨ k = l) W3 (W3.putObj l (.loop (rec (if jump.isNone then .ready else .done) jump))) ∧
          (W3.putObj l (.loop (rec (if jump.isNone then .ready else .done) jump))).heap[l]? = some (.loop (rec (if jump.isNone then .ready else .done) jump)) := fun jump W3 hk3 => by
        have hl3 : W3.heap[l]? = some (.loop { rec .ready none with state := .busy }) := ((hK _ _ hk3).2.2).trans hlb
        have := run_endRound (P := P) jump hl3
        refine ⟨?_, kind_none hl3 rfl, (Chg.putObj _ hl3 rfl rfl).mono fun k h => .inr h, World.putObj_heap_same (Array.getElem?_eq_some_iff.1 hl3).1⟩
        rw [hrec] at this ⊢
        exact this
      rintro e a3 W3 hp
      cases e with
      | normal =>
        obtain ⟨hk3, hi3⟩ := hp
        obtain ⟨hr, hn3, hc3, hl4⟩ := fin none W3 hk3
        refine ⟨_, _, hr, .inl ⟨rfl, ⟨hI _ _ _ hi3 hn3 hc3, hl4⟩, Nat.le_trans hszb (Nat.le_trans (hK _ _ hk3).1 hc3.size), fun k hk => ?_⟩⟩
        rw [World.putObj_heap_other (hown k hk)]
        exact ((hK _ _ hk3).2.1 k hk).trans (hownWb k hk)
      | ret =>
        obtain ⟨hk3, hi3⟩ := hp
        obtain ⟨hr, hn3, hc3, hl4⟩ := fin (some .ret) W3 hk3
        exact ⟨_, _, hr, .inr ⟨rfl, .ret, hIx _ _ _ _ hi3 hn3 hc3, hl4⟩⟩
      | exit id =>
        obtain ⟨hk3, hi3⟩ := hp
        obtain ⟨hr, hn3, hc3, hl4⟩ := fin (some (.exit id)) W3 hk3
        exact ⟨_, _, hr, .inr ⟨rfl, .exit id, hIx _ _ _ _ hi3 hn3 hc3, hl4⟩⟩
      | goto t =>
        obtain ⟨hk3, hi3⟩ := hp
        obtain ⟨hr, hn3, hc3, hl4⟩ := fin (some (.goto t)) W3 hk3
        exact ⟨_, _, hr, .inr ⟨rfl, .goto t, hIx _ _ _ _ hi3 hn3 hc3, hl4⟩⟩
      | panic ch => exact hp.elim
      | outgrown => exact hp.elim
    | ret => exact hp.elim
    | exit id => exact hp.elim
    | goto t => exact hp.elim
    | panic ch => exact hp.elim
    | outgrown => exact hp.elim
  · rintro e W2 ⟨hv, (⟨hi, hl⟩ | ⟨i, hlt, c, hi, hl⟩)⟩
    · exact ⟨hv, .inl ⟨hi, hl⟩⟩
    · exact ⟨hv, .inr ⟨i, c, hlt, hi, hl⟩⟩

/-- THE CALLER's LAW, outside every round. -/
theorem wpIn_range3 {g : Operand} {ps : Array Tmp} {assign body : Code} {Q : Exit → Act → World → Prop} {a : Act} {w : World} {n : Nat}
    {gf : Nat} {lb : Array Value} (hg : a.eval g = .func (.func gf) #[] lb) (eg : ∀ args w, (callFunc gf args).run P w = .ok (.enter gf args) w)
    {N : Nat} {encs : Nat → Array Value} {own mu : Nat → Prop} (hit : Iter P gf lb N encs own mu w) (hown : ∀ k, own k → k < w.heap.size) (hmut : ∀ k, mu k → k < w.heap.size) (hps : ∀ i, (encs i).size = ps.size)
    (I : Nat → World → Prop) (Ix : Code → Nat → World → Prop)
    (hI : ∀ i A C, I i A → Chg (fun k => mu k ∨ k = w.heap.size ∨ k = w.heap.size + 1) A C → I i C) (hIx : ∀ c i A C, Ix c i A → Chg (fun k => mu k ∨ k = w.heap.size ∨ k = w.heap.size + 1) A C → Ix c i C) (h0 : I 0 w)
    (hround : ∀ m i W, i < N → I i W → w.heap.size + 2 ≤ W.heap.size → (∃ r, W.heap[w.heap.size + 1]? = some (.loop r)) →
      assign.wpIn (Fence.wide.inRound (w.heap.size + 1)) m P (Exit.then (fun a1 W1 => Kc own w W W1 ∧ ∀ W2, Chg (fun k => k = w.heap.size + 1) W1 W2 → (∃ r, W2.heap[w.heap.size + 1]? = some (.loop r)) → body.wpIn (Fence.wide.inRound (w.heap.size + 1)) m P (roundOutK (Kc own w) I Ix i W2) a1 W2) (fun _ _ _ => False))
        { tmps := (ps.zip (encs i)).foldl (fun t (p, v) => t.setIfInBounds p v) a.tmps, defers := [] } W)
    (hdone : ∀ (D : Nat) (W : World), D = w.heap.size → I N W → W.heap[D]? = some (.deferred (some [])) → Q .normal { a with defers := { target := .collected D, args := #[] } :: a.defers } W)
    (hstop : ∀ (D : Nat) (c : Code) (i : Nat) (W : World), D = w.heap.size → i < N → Ix c i W → W.heap[D]? = some (.deferred (some [])) → c.wpIn Fence.wide n P Q { a with defers := { target := .collected D, args := #[] } :: a.defers } W) :
    (Code.rangeFunc g ps assign body).wpIn Fence.wide n P Q a w := by
  refine wpIn_rangeFunc ?_
  intro fn hfn
  obtain ⟨rec, hrec⟩ : ∃ rec : LoopState → Option Code → Loop, rec = fun st pe => { state := st, pending := pe, fn, tmps := a.tmps, params := ps, assign, body, defers := w.heap.size } := ⟨_, rfl⟩
  obtain ⟨W1, hW1⟩ : ∃ W1, (w.alloc (.deferred (some []))).alloc (.loop (rec .ready none)) = W1 := ⟨_, rfl⟩
  have hL1 : W1.heap[w.heap.size + 1]? = some (.loop (rec .ready none)) := by
    rw [← hW1]; have := World.alloc_heap_new (w.alloc (.deferred (some []))) (.loop (rec .ready none)); rwa [World.size_alloc] at this
  have hK1 : W1.heap[w.heap.size]? = some (.deferred (some [])) := by
    rw [← hW1]; exact (Below.heap_alloc _ _ _ (by simp)).trans (World.alloc_heap_new w _)
  have hc1 : Chg (fun _ => False) w W1 := by rw [← hW1]; exact (Chg.alloc _ w _).trans (Chg.alloc _ _ _)
  have hI1 : I 0 W1 := hI _ _ _ h0 (hc1.mono fun _ h => h.elim)
  refine ⟨w.heap.size + 1, [{ target := .collected w.heap.size, args := #[] }], W1, { target := .fn (.func gf) lb, args := #[.func (.yield (w.heap.size + 1)) #[] #[]] }, W1, gf,
    #[.func (.yield (w.heap.size + 1)) #[] #[]] ++ lb, W1, ?_, ?_, ?_, ?_, fun h => by simp [Fence.wide] at h, ?_⟩
  · rw [← hW1, hrec]; exact run_enterLoop_outer _ _ _ _ _
  · simp only [resolve, hg]
    simp [go_sem]
  · intro f' _; trivial
  · simp [invoke, go_sem, eg]
  · have lift : ∀ {A C : World}, kind? A (w.heap.size + 1) = none → Chg (fun k => mu k ∨ k = w.heap.size + 1) A C → Chg (fun k => mu k ∨ k = w.heap.size ∨ k = w.heap.size + 1) A C := fun _ hc => hc.mono fun k h => by
      rcases h with h | h
      · exact .inl h
      · exact .inr (.inr h)
    have keepD : ∀ {A C : World}, A.heap[w.heap.size]? = some (.deferred (some [])) → Chg (fun k => mu k ∨ k = w.heap.size + 1) A C → C.heap[w.heap.size]? = some (.deferred (some [])) := fun hd hc =>
      (hc.block _ (Array.getElem?_eq_some_iff.1 hd).1 (fun h => by
        rcases h with h | h
        · have := hmut _ h; omega
        · omega)).trans hd
    refine (range_core3 (P := P) hrec hit (Kc own w) (fun A C h => ⟨h.1, fun k hk => h.2 k (.inl hk), h.2 _ (.inr (.inr rfl))⟩) (fun k h => by have := hown k h; omega) (fun h => by have := hmut _ h; omega) hps
      (fun i W => I i W ∧ W.heap[w.heap.size]? = some (.deferred (some []))) (fun c i W => Ix c i W ∧ W.heap[w.heap.size]? = some (.deferred (some [])))
      (fun i A C h hn hc => ⟨hI i A C h.1 (lift hn hc), keepD h.2 hc⟩) (fun c i A C h hn hc => ⟨hIx c i A C h.1 (lift hn hc), keepD h.2 hc⟩)
      ?_ (n - 1) W1 (fun k hk => hc1.block k (hown k hk) (fun h => h)) hc1.size hL1 ⟨hI1, hK1⟩).mono ?_
    · rintro m i W hlt ⟨hi, hd⟩ hr
      refine wpIn_mono (hround m i W hlt hi (by obtain ⟨r, hr⟩ := hr; have := (Array.getElem?_eq_some_iff.1 hr).1; omega) hr) ?_
      rintro e a1 Wa hp
      cases e <;> simp only [Exit.then] at hp ⊢
      have hda := (hp.1.2 _ (.inr (.inl rfl))).trans hd
      refine ⟨hp.1, fun Wb hkb hcb hrb => ?_⟩
      have hdb := keepD hda (hcb.mono fun k h => .inr h)
      refine wpIn_mono (hp.2 Wb hcb hrb) ?_
      rintro e a2 W2 hp2
      cases e <;> simp only [roundOutK] at hp2 ⊢ <;> exact ⟨hp2.1, hp2.2, (hp2.1.2 _ (.inr (.inl rfl))).trans hdb⟩
    · rintro e W2 ⟨⟨v, rfl⟩, (⟨⟨hi, hd⟩, hl⟩ | ⟨i, c, hlt, ⟨hi, hd⟩, hl⟩)⟩
      · have he := run_endLoop (P := P) hl (by rw [hrec]; simp)
        have hc := (Chg.putObj (.loop { rec .ready none with state := .exhausted }) hl rfl rfl).mono (T := fun k => mu k ∨ k = w.heap.size + 1) fun k h => .inr h
        exact ⟨none, _, by rw [hrec] at he; rw [hrec]; exact he, hdone _ _ rfl (hI _ _ _ hi (lift (kind_none hl rfl) hc)) (keepD hd hc)⟩
      · have he := run_endLoop (P := P) hl (by rw [hrec]; simp)
        have hc := (Chg.putObj (.loop { rec .done (some c) with state := .exhausted }) hl rfl rfl).mono (T := fun k => mu k ∨ k = w.heap.size + 1) fun k h => .inr h
        exact ⟨some c, _, by rw [hrec] at he; rw [hrec]; exact he, hstop _ c i _ rfl hlt (hIx _ _ _ _ hi (lift (kind_none hl rfl) hc)) (keepD hd hc)⟩
end
end Go.Proofs.YteickmohloglhaaGreatDoor
