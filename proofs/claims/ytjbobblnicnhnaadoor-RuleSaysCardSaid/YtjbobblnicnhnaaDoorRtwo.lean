/-
  A range over a function whose iterator lays blocks of its own when it is called (an iterator that ranges over another one, say): the iterator's contract (Iter2), the law for the caller (wpIn_range2). As Range's, the iterator's own blocks counted from where the heap ended at its call.
-/
import Derived.Test.YtjbobblnicnhnaaDoorRange
namespace Go.Proofs.YtjbobblnicnhnaaDoor
open Go.RowKit

/-- N items come, the i-th as 'encs i'; sz: the heap's size at the call; x: how many blocks are laid ahead of the first item; own sz: the blocks that it reads or writes; mu sz: those that it writes. -/
def Iter2 (P : Program) (gf : Nat) (lb : Array Value) (N : Nat) (encs : Nat → Array Value) (x : Nat) (own0 : Nat → Prop) (own mu : Nat → Nat → Prop) (w0 : World) : Prop :=
  ∀ (n l : Nat) (J Jx : Nat → World → Prop) (W : World), (∀ k, own0 k → W.heap[k]? = w0.heap[k]?) → w0.heap.size ≤ W.heap.size →
    (∀ i A C, J i A → Chg (mu W.heap.size) A C → J i C) → (∀ i A C, Jx i A → Chg (mu W.heap.size) A C → Jx i C) →
    (∀ m i W1, i < N → J i W1 → W.heap.size + x ≤ W1.heap.size → YieldAt Fence.wide m P l (encs i) W1 fun e W' =>
      (e = .returned (.bool true) ∧ J (i + 1) W' ∧ W1.heap.size ≤ W'.heap.size ∧ ∀ k, own W.heap.size k → W'.heap[k]? = W1.heap[k]?) ∨ (e = .returned (.bool false) ∧ Jx i W' ∧ W1.heap.size ≤ W'.heap.size ∧ ∀ k, own W.heap.size k → W'.heap[k]? = W1.heap[k]?)) →
    J 0 W → CallsIn Fence.wide n P gf (#[.func (.yield l) #[] #[]] ++ lb) W fun e W' => (∃ v, e = .returned v) ∧ (J N W' ∨ ∃ i, i < N ∧ Jx i W')

section
variable {P : Program}
/-- The rounds, the record being laid at l. -/
theorem range_core2 {l : Nat} {fn : FuncId} {rec : LoopState → Option Code → Loop} {tmps : Array Value} {ps : Array Tmp} {assign body : Code} {d : Nat}
    (hrec : rec = fun st pe => { state := st, pending := pe, fn, tmps, params := ps, assign, body, defers := d })
    {gf : Nat} {lb : Array Value} {N : Nat} {encs : Nat → Array Value} {x : Nat} {own0 : Nat → Prop} {own2 mu2 : Nat → Nat → Prop} {w0 : World} (hit : Iter2 P gf lb N encs x own0 own2 mu2 w0) {own mu : Nat → Prop} {sz : Nat} (ho : own = own2 sz) (hmu : mu = mu2 sz)
    (B : Nat) (hown : ∀ k, own k → k ≠ l) (hmut : ¬ mu l) (hB : B ≤ l) (hps : ∀ i, (encs i).size = ps.size)
    (I : Nat → World → Prop) (Ix : Code → Nat → World → Prop)
    (hI : ∀ i A C, I i A → kind? A l = none → Chg (fun k => mu k ∨ k = l) A C → I i C) (hIx : ∀ c i A C, Ix c i A → kind? A l = none → Chg (fun k => mu k ∨ k = l) A C → Ix c i C)
    (hround : ∀ m i W, i < N → I i W → sz + x ≤ W.heap.size → (∃ r, W.heap[l]? = some (.loop r)) →
      assign.wpIn (Fence.wide.inRound l) m P (Exit.then (fun a1 W1 => Kp B own W W1 ∧ ∀ W2, kind? W1 l = none → Chg (fun k => k = l) W1 W2 → (∃ r, W2.heap[l]? = some (.loop r)) → body.wpIn (Fence.wide.inRound l) m P (roundOut B own I Ix i W2) a1 W2) (fun _ _ _ => False))
        { tmps := (ps.zip (encs i)).foldl (fun t (p, v) => t.setIfInBounds p v) tmps, defers := [] } W)
    (n : Nat) (W1 : World) (hs1 : W1.heap.size = sz) (hW : ∀ k, own0 k → W1.heap[k]? = w0.heap[k]?) (hsz : w0.heap.size ≤ W1.heap.size) (hL : W1.heap[l]? = some (.loop (rec .ready none))) (h0 : I 0 W1) :
    CallsIn Fence.wide n P gf (#[.func (.yield l) #[] #[]] ++ lb) W1 fun e W2 => (∃ v, e = .returned v) ∧
      ((I N W2 ∧ W2.heap[l]? = some (.loop (rec .ready none))) ∨ ∃ i c, i < N ∧ Ix c i W2 ∧ W2.heap[l]? = some (.loop (rec .done (some c)))) := by
  have hit' := fun J Jx => hit n l J Jx W1 hW hsz
  rw [hs1, ← ho, ← hmu] at hit'
  refine (hit' (fun i W => I i W ∧ W.heap[l]? = some (.loop (rec .ready none))) (fun i W => ∃ c, Ix c i W ∧ W.heap[l]? = some (.loop (rec .done (some c)))) ?_ ?_ ?_ ⟨h0, hL⟩).mono ?_
  · rintro i A C ⟨hi, hl⟩ hc
    exact ⟨hI i A C hi (kind_none hl rfl) (hc.mono fun k h => .inl h), (hc.block l (Array.getElem?_eq_some_iff.1 hl).1 hmut).trans hl⟩
  · rintro i A C ⟨c, hi, hl⟩ hc
    exact ⟨c, hIx c i A C hi (kind_none hl rfl) (hc.mono fun k h => .inl h), (hc.block l (Array.getElem?_eq_some_iff.1 hl).1 hmut).trans hl⟩
  · rintro m i W hlt ⟨hi, hl⟩ hszx
    have hy := run_yield (P := P) (args := encs i) hl (by rw [hrec]; exact hps i)
    rw [hrec] at hy
    refine ⟨fn, _, assign, body, hy, roundIn_of_wpIn trivial (wpIn_mono (hround m i W hlt hi hszx ⟨_, hl⟩) ?_)⟩
    rintro e a1 Wa hp
    cases e with
    | normal =>
      obtain ⟨hk1, hr1⟩ := hp
      have hlw : l < W.heap.size := (Array.getElem?_eq_some_iff.1 hl).1
      have hla : Wa.heap[l]? = some (.loop (rec .ready none)) := (hk1.other l hlw hB (kind_none hl rfl)).trans hl
      refine ⟨_, run_beginRound hla (by rw [hrec]), ?_⟩
      have hlta : l < Wa.heap.size := (Array.getElem?_eq_some_iff.1 hla).1
      obtain ⟨Wb, hWb⟩ : ∃ Wb, Wa.putObj l (.loop { rec .ready none with state := .busy }) = Wb := ⟨_, rfl⟩
      have hlb : Wb.heap[l]? = some (.loop { rec .ready none with state := .busy }) := by rw [← hWb]; exact World.putObj_heap_same hlta
      have hcb : Chg (fun k => k = l) Wa Wb := by rw [← hWb]; exact Chg.putObj _ hla rfl rfl
      rw [hWb]
      refine wpIn_mono (hr1 Wb (kind_none hla rfl) hcb ⟨_, hlb⟩) ?_
      have hownWb : ∀ k, own k → Wb.heap[k]? = W.heap[k]? := fun k hk => by
        rw [← hWb, World.putObj_heap_other (hown k hk)]; exact hk1.own k hk
      have hszb : W.heap.size ≤ Wb.heap.size := Nat.le_trans hk1.size hcb.size
      have fin : ∀ (jump : Option Code) (W3 : World), Kp B own Wb W3 →
          (Instr.endRound l jump).run P W3 = .ok (.bool jump.isNone) (W3.putObj l (.loop (rec (if jump.isNone then .ready else .done) jump))) ∧ kind? W3 l = none ∧
          Chg (fun k => mu k ∨ k = l) W3 (W3.putObj l (.loop (rec (if jump.isNone then .ready else .done) jump))) ∧
          (W3.putObj l (.loop (rec (if jump.isNone then .ready else .done) jump))).heap[l]? = some (.loop (rec (if jump.isNone then .ready else .done) jump)) := fun jump W3 hk3 => by
        have hl3 : W3.heap[l]? = some (.loop { rec .ready none with state := .busy }) := (hk3.other l (Array.getElem?_eq_some_iff.1 hlb).1 hB (kind_none hlb rfl)).trans hlb
        have := run_endRound (P := P) jump hl3
        refine ⟨?_, kind_none hl3 rfl, (Chg.putObj _ hl3 rfl rfl).mono fun k h => .inr h, World.putObj_heap_same (Array.getElem?_eq_some_iff.1 hl3).1⟩
        rw [hrec] at this ⊢
        exact this
      rintro e a3 W3 hp
      cases e with
      | normal =>
        obtain ⟨hk3, hi3⟩ := hp
        obtain ⟨hr, hn3, hc3, hl4⟩ := fin none W3 hk3
        refine ⟨_, _, hr, .inl ⟨rfl, ⟨hI _ _ _ hi3 hn3 hc3, hl4⟩, Nat.le_trans hszb (Nat.le_trans hk3.size hc3.size), fun k hk => ?_⟩⟩
        rw [World.putObj_heap_other (hown k hk)]
        exact (hk3.own k hk).trans (hownWb k hk)
      | ret =>
        obtain ⟨hk3, hi3⟩ := hp
        obtain ⟨hr, hn3, hc3, hl4⟩ := fin (some .ret) W3 hk3
        refine ⟨_, _, hr, .inr ⟨rfl, ⟨.ret, hIx _ _ _ _ hi3 hn3 hc3, hl4⟩, Nat.le_trans hszb (Nat.le_trans hk3.size hc3.size), fun k hk => ?_⟩⟩
        rw [World.putObj_heap_other (hown k hk)]
        exact (hk3.own k hk).trans (hownWb k hk)
      | exit id =>
        obtain ⟨hk3, hi3⟩ := hp
        obtain ⟨hr, hn3, hc3, hl4⟩ := fin (some (.exit id)) W3 hk3
        refine ⟨_, _, hr, .inr ⟨rfl, ⟨(.exit id), hIx _ _ _ _ hi3 hn3 hc3, hl4⟩, Nat.le_trans hszb (Nat.le_trans hk3.size hc3.size), fun k hk => ?_⟩⟩
        rw [World.putObj_heap_other (hown k hk)]
        exact (hk3.own k hk).trans (hownWb k hk)
      | goto t =>
        obtain ⟨hk3, hi3⟩ := hp
        obtain ⟨hr, hn3, hc3, hl4⟩ := fin (some (.goto t)) W3 hk3
        refine ⟨_, _, hr, .inr ⟨rfl, ⟨(.goto t), hIx _ _ _ _ hi3 hn3 hc3, hl4⟩, Nat.le_trans hszb (Nat.le_trans hk3.size hc3.size), fun k hk => ?_⟩⟩
        rw [World.putObj_heap_other (hown k hk)]
        exact (hk3.own k hk).trans (hownWb k hk)
      | panic ch => exact hp.elim
      | outgrown => exact hp.elim
    | ret => exact hp.elim
    | exit id => exact hp.elim
    | goto t => exact hp.elim
    | panic ch => exact hp.elim
    | outgrown => exact hp.elim
  · rintro e W2 ⟨hv, (⟨hi, hl⟩ | ⟨i, hlt, c, hi, hl⟩)⟩
    · exact ⟨hv, .inl ⟨hi, hl⟩⟩
    · exact ⟨hv, .inr ⟨i, c, hlt, hi, hl⟩⟩

/-- THE CALLER's LAW, outside every round. -/
theorem wpIn_range2 {g : Operand} {ps : Array Tmp} {assign body : Code} {Q : Exit → Act → World → Prop} {a : Act} {w : World} {n : Nat}
    {gf : Nat} {lb : Array Value} (hg : a.eval g = .func (.func gf) #[] lb) (eg : ∀ args w, (callFunc gf args).run P w = .ok (.enter gf args) w)
    {N : Nat} {encs : Nat → Array Value} {x : Nat} {own0 : Nat → Prop} {own mu : Nat → Nat → Prop} (hit : Iter2 P gf lb N encs x own0 own mu w) (hown0 : ∀ k, own0 k → k < w.heap.size) (hown : ∀ k, own (w.heap.size + 2) k → k ≠ w.heap.size ∧ k ≠ w.heap.size + 1) (hmut : ∀ k, mu (w.heap.size + 2) k → k ≠ w.heap.size ∧ k ≠ w.heap.size + 1) (hps : ∀ i, (encs i).size = ps.size)
    (I : Nat → World → Prop) (Ix : Code → Nat → World → Prop)
    (hI : ∀ i A C, I i A → Mv w.heap.size (mu (w.heap.size + 2)) A C → I i C) (hIx : ∀ c i A C, Ix c i A → Mv w.heap.size (mu (w.heap.size + 2)) A C → Ix c i C) (h0 : I 0 w)
    (hround : ∀ m l i W, i < N → I i W → w.heap.size + 2 + x ≤ W.heap.size → w.heap.size ≤ l → (∃ r, W.heap[l]? = some (.loop r)) →
      assign.wpIn (Fence.wide.inRound l) m P (Exit.then (fun a1 W1 => Kp w.heap.size (own (w.heap.size + 2)) W W1 ∧ ∀ W2, Mv w.heap.size (fun _ => False) W1 W2 → (∃ r, W2.heap[l]? = some (.loop r)) → body.wpIn (Fence.wide.inRound l) m P (roundOut w.heap.size (own (w.heap.size + 2)) I Ix i W2) a1 W2) (fun _ _ _ => False))
        { tmps := (ps.zip (encs i)).foldl (fun t (p, v) => t.setIfInBounds p v) a.tmps, defers := [] } W)
    (hdone : ∀ (D : Nat) (W : World), w.heap.size ≤ D → I N W → W.heap[D]? = some (.deferred (some [])) → Q .normal { a with defers := { target := .collected D, args := #[] } :: a.defers } W)
    (hstop : ∀ (D : Nat) (c : Code) (i : Nat) (W : World), w.heap.size ≤ D → i < N → Ix c i W → W.heap[D]? = some (.deferred (some [])) → c.wpIn Fence.wide n P Q { a with defers := { target := .collected D, args := #[] } :: a.defers } W) :
    (Code.rangeFunc g ps assign body).wpIn Fence.wide n P Q a w := by
  refine wpIn_rangeFunc ?_
  intro fn hfn
  obtain ⟨rec, hrec⟩ : ∃ rec : LoopState → Option Code → Loop, rec = fun st pe => { state := st, pending := pe, fn, tmps := a.tmps, params := ps, assign, body, defers := w.heap.size } := ⟨_, rfl⟩
  obtain ⟨W1, hW1⟩ : ∃ W1, (w.alloc (.deferred (some []))).alloc (.loop (rec .ready none)) = W1 := ⟨_, rfl⟩
  have hL1 : W1.heap[w.heap.size + 1]? = some (.loop (rec .ready none)) := by
    rw [← hW1]; have := World.alloc_heap_new (w.alloc (.deferred (some []))) (.loop (rec .ready none)); rwa [World.size_alloc] at this
  have hK1 : W1.heap[w.heap.size]? = some (.deferred (some [])) := by
    rw [← hW1]; exact (Below.heap_alloc _ _ _ (by simp)).trans (World.alloc_heap_new w _)
  have hc1 : Chg (fun _ => False) w W1 := by rw [← hW1]; exact (Chg.alloc _ w _).trans (Chg.alloc _ _ _)
  have hI1 : I 0 W1 := hI _ _ _ h0 (hc1.mv fun _ h => h.elim)
  refine ⟨w.heap.size + 1, [{ target := .collected w.heap.size, args := #[] }], W1, { target := .fn (.func gf) lb, args := #[.func (.yield (w.heap.size + 1)) #[] #[]] }, W1, gf,
    #[.func (.yield (w.heap.size + 1)) #[] #[]] ++ lb, W1, ?_, ?_, ?_, ?_, fun h => by simp [Fence.wide] at h, ?_⟩
  · rw [← hW1, hrec]; exact run_enterLoop_outer _ _ _ _ _
  · simp only [resolve, hg]
    simp [go_sem]
  · intro f' _; trivial
  · simp [invoke, go_sem, eg]
  · have lift : ∀ {A C : World}, kind? A (w.heap.size + 1) = none → Chg (fun k => mu (w.heap.size + 2) k ∨ k = w.heap.size + 1) A C → Mv w.heap.size (mu (w.heap.size + 2)) A C := fun hn hc => hc.mv fun k h => by
      rcases h with h | rfl
      · exact .inl h
      · exact .inr ⟨by omega, hn⟩
    have keepD : ∀ {A C : World}, A.heap[w.heap.size]? = some (.deferred (some [])) → Chg (fun k => mu (w.heap.size + 2) k ∨ k = w.heap.size + 1) A C → C.heap[w.heap.size]? = some (.deferred (some [])) := fun hd hc =>
      (hc.block _ (Array.getElem?_eq_some_iff.1 hd).1 (fun h => by
        rcases h with h | h
        · exact (hmut _ h).1 rfl
        · omega)).trans hd
    have hs1 : W1.heap.size = w.heap.size + 2 := by rw [← hW1]; simp
    refine (range_core2 (P := P) hrec hit rfl rfl w.heap.size (fun k h => (hown k h).2) (fun h => (hmut _ h).2 rfl) (Nat.le_succ _) hps
      (fun i W => I i W ∧ W.heap[w.heap.size]? = some (.deferred (some []))) (fun c i W => Ix c i W ∧ W.heap[w.heap.size]? = some (.deferred (some [])))
      (fun i A C h hn hc => ⟨hI i A C h.1 (lift hn hc), keepD h.2 hc⟩) (fun c i A C h hn hc => ⟨hIx c i A C h.1 (lift hn hc), keepD h.2 hc⟩)
      ?_ (n - 1) W1 hs1 (fun k hk => hc1.block k (hown0 k hk) (fun h => h)) hc1.size hL1 ⟨hI1, hK1⟩).mono ?_
    · rintro m i W hlt ⟨hi, hd⟩ hszx hr
      refine wpIn_mono (hround m _ i W hlt hi hszx (Nat.le_succ _) hr) ?_
      rintro e a1 Wa hp
      cases e <;> simp only [Exit.then] at hp ⊢
      have hda := (hp.1.other _ (Array.getElem?_eq_some_iff.1 hd).1 (Nat.le_refl _) (kind_none hd rfl)).trans hd
      refine ⟨hp.1, fun Wb hkb hcb hrb => ?_⟩
      have hdb := keepD hda (hcb.mono fun k h => .inr h)
      refine wpIn_mono (hp.2 Wb (hcb.mv fun k h => .inr (by subst h; exact ⟨Nat.le_succ _, hkb⟩)) hrb) ?_
      rintro e a2 W2 hp2
      cases e <;> simp only [roundOut] at hp2 ⊢ <;> exact ⟨hp2.1, hp2.2, (hp2.1.other _ (Array.getElem?_eq_some_iff.1 hdb).1 (Nat.le_refl _) (kind_none hdb rfl)).trans hdb⟩
    · rintro e W2 ⟨⟨v, rfl⟩, (⟨⟨hi, hd⟩, hl⟩ | ⟨i, c, hlt, ⟨hi, hd⟩, hl⟩)⟩
      · have he := run_endLoop (P := P) hl (by rw [hrec]; simp)
        have hc := (Chg.putObj (.loop { rec .ready none with state := .exhausted }) hl rfl rfl).mono (T := fun k => mu (w.heap.size + 2) k ∨ k = w.heap.size + 1) fun k h => .inr h
        exact ⟨none, _, by rw [hrec] at he; rw [hrec]; exact he, hdone _ _ (Nat.le_refl _) (hI _ _ _ hi (lift (kind_none hl rfl) hc)) (keepD hd hc)⟩
      · have he := run_endLoop (P := P) hl (by rw [hrec]; simp)
        have hc := (Chg.putObj (.loop { rec .done (some c) with state := .exhausted }) hl rfl rfl).mono (T := fun k => mu (w.heap.size + 2) k ∨ k = w.heap.size + 1) fun k h => .inr h
        exact ⟨some c, _, by rw [hrec] at he; rw [hrec]; exact he, hstop _ c i _ (Nat.le_refl _) hlt (hIx _ _ _ _ hi (lift (kind_none hl rfl) hc)) (keepD hd hc)⟩
end
end Go.Proofs.YtjbobblnicnhnaaDoor
