/-
  A range over a function whose iterator makes memory of its own when it is called, at places that are not told ahead (Iter4, wpIn_range4): 'o' is the set of its own blocks; an item is told by a predicate of its values and the world.
-/
import Derived.Test.YtpndahmlbjhdfaaDoorKit
namespace Go.Proofs.YtpndahmlbjhdfaaDoor
open Go.RowKit

/-- N items come, the i-th is so as 'item i' says; own0: blocks that lay and that it reads, own1: such as it reads all the time; o: its own ones. It turns nothing that lay. -/
def Iter4 (P : Program) (gf : Nat) (lb : Array Value) (N sz : Nat) (item : Nat → Array Value → World → Prop) (own0 own1 : Nat → Prop) (w0 : World) : Prop :=
  ∀ (n l : Nat) (J Jx : (Nat → Prop) → Nat → World → Prop) (W : World), (∀ k, own0 k → W.heap[k]? = w0.heap[k]?) → w0.heap.size ≤ W.heap.size →
    (∀ o i A C, J o i A → Ext A C → J o i C) → (∀ o i A C, Jx o i A → Ext A C → Jx o i C) →
    (∀ o m i W1 args, i < N → (∀ k, o k → W.heap.size ≤ k ∧ k < W1.heap.size) → J o i W1 → args.size = sz → item i args W1 → YieldAt Fence.wide m P l args W1 fun e W' =>
      (e = .returned (.bool true) ∧ J o (i + 1) W' ∧ W1.heap.size ≤ W'.heap.size ∧ ∀ k, o k ∨ own1 k → W'.heap[k]? = W1.heap[k]?) ∨ (e = .returned (.bool false) ∧ Jx o i W')) →
    (∀ o W1, (∀ k, o k → W.heap.size ≤ k ∧ k < W1.heap.size) → Ext W W1 → J o 0 W1) →
    CallsIn Fence.wide n P gf (#[.func (.yield l) #[] #[]] ++ lb) W fun e W' => (∃ v, e = .returned v) ∧ ∃ o, (∀ k, o k → W.heap.size ≤ k) ∧ (J o N W' ∨ ∃ i, i < N ∧ Jx o i W')

section
variable {P : Program}
/-- The rounds, the record being laid at l. -/
theorem range_core4 {l : Nat} {fn : FuncId} {rec : LoopState → Option Code → Loop} {tmps : Array Value} {ps : Array Tmp} {assign body : Code} {d : Nat}
    (hrec : rec = fun st pe => { state := st, pending := pe, fn, tmps, params := ps, assign, body, defers := d })
    {gf : Nat} {lb : Array Value} {N : Nat} {item : Nat → Array Value → World → Prop} {own0 own1 : Nat → Prop} {w0 : World} (hit : Iter4 P gf lb N ps.size item own0 own1 w0)
    (B : Nat) (hB : B ≤ l) (hown1 : ∀ k, own1 k → k < B)
    (I : (Nat → Prop) → Nat → World → Prop) (Ix : (Nat → Prop) → Code → Nat → World → Prop)
    (hI : ∀ o i A C, I o i A → kind? A l = none → Chg (fun k => k = l) A C → I o i C) (hIx : ∀ o c i A C, Ix o c i A → kind? A l = none → Chg (fun k => k = l) A C → Ix o c i C)
    (hround : ∀ o m i W args, i < N → (∀ k, o k → l < k ∧ k < W.heap.size) → I o i W → args.size = ps.size → item i args W → (∃ r, W.heap[l]? = some (.loop r)) →
      assign.wpIn (Fence.wide.inRound l) m P (Exit.then (fun a1 W1 => Kp B (fun k => o k ∨ own1 k) W W1 ∧ ∀ W2, kind? W1 l = none → Chg (fun k => k = l) W1 W2 → (∃ r, W2.heap[l]? = some (.loop r)) → body.wpIn (Fence.wide.inRound l) m P (roundOut B (fun k => o k ∨ own1 k) (I o) (Ix o) i W2) a1 W2) (fun _ _ _ => False))
        { tmps := (ps.zip args).foldl (fun t (p, v) => t.setIfInBounds p v) tmps, defers := [] } W)
    (n : Nat) (W1 : World) (hl1 : l < W1.heap.size) (hW : ∀ k, own0 k → W1.heap[k]? = w0.heap[k]?) (hsz : w0.heap.size ≤ W1.heap.size) (hL : W1.heap[l]? = some (.loop (rec .ready none)))
    (h0 : ∀ o W2, (∀ k, o k → l < k ∧ k < W2.heap.size) → Ext W1 W2 → I o 0 W2) :
    CallsIn Fence.wide n P gf (#[.func (.yield l) #[] #[]] ++ lb) W1 fun e W2 => (∃ v, e = .returned v) ∧
      ∃ o, (∀ k, o k → l < k) ∧ ((I o N W2 ∧ W2.heap[l]? = some (.loop (rec .ready none))) ∨ ∃ i c, i < N ∧ Ix o c i W2 ∧ W2.heap[l]? = some (.loop (rec .done (some c)))) := by
  refine (hit n l (fun o i W => I o i W ∧ W.heap[l]? = some (.loop (rec .ready none))) (fun o i W => ∃ c, Ix o c i W ∧ W.heap[l]? = some (.loop (rec .done (some c)))) W1 hW hsz ?_ ?_ ?_ ?_).mono ?_
  · rintro o i A C ⟨hi, hl⟩ hx
    exact ⟨hI o i A C hi (kind_none hl rfl) (Chg.of_ext _ hx), (hx.block l (Array.getElem?_eq_some_iff.1 hl).1).trans hl⟩
  · rintro o i A C ⟨c, hi, hl⟩ hx
    exact ⟨c, hIx o c i A C hi (kind_none hl rfl) (Chg.of_ext _ hx), (hx.block l (Array.getElem?_eq_some_iff.1 hl).1).trans hl⟩
  · rintro o m i W args hlt hoo ⟨hi, hl⟩ hasz hitem
    have hy := run_yield (P := P) (args := args) hl (by rw [hrec]; exact hasz)
    rw [hrec] at hy
    have hown : ∀ k, o k ∨ own1 k → k ≠ l := fun k hk => by
      rcases hk with hk | hk
      · have := hoo k hk; omega
      · have := hown1 k hk; omega
    refine ⟨fn, _, assign, body, hy, roundIn_of_wpIn trivial (wpIn_mono (hround o m i W args hlt (fun k hk => ⟨by have := hoo k hk; omega, (hoo k hk).2⟩) hi hasz hitem ⟨_, hl⟩) ?_)⟩
    rintro e a1 Wa hp
    cases e with
    | normal =>
      obtain ⟨hk1, hr1⟩ := hp
      have hlw : l < W.heap.size := (Array.getElem?_eq_some_iff.1 hl).1
      have hla : Wa.heap[l]? = some (.loop (rec .ready none)) := (hk1.other l hlw hB (kind_none hl rfl)).trans hl
      refine ⟨_, run_beginRound hla (by rw [hrec]), ?_⟩
      have hlta : l < Wa.heap.size := (Array.getElem?_eq_some_iff.1 hla).1
      obtain ⟨Wb, hWb⟩ : ∃ Wb, Wa.putObj l (.loop { rec .ready none with state := .busy }) = Wb := ⟨_, rfl⟩
      have hlb : Wb.heap[l]? = some (.loop { rec .ready none with state := .busy }) := by rw [← hWb]; exact World.putObj_heap_same hlta
      have hcb : Chg (fun k => k = l) Wa Wb := by rw [← hWb]; exact Chg.putObj _ hla rfl rfl
      rw [hWb]
      refine wpIn_mono (hr1 Wb (kind_none hla rfl) hcb ⟨_, hlb⟩) ?_
      have hownWb : ∀ k, o k ∨ own1 k → Wb.heap[k]? = W.heap[k]? := fun k hk => by
        rw [← hWb, World.putObj_heap_other (hown k hk)]; exact hk1.own k hk
      have hszb : W.heap.size ≤ Wb.heap.size := Nat.le_trans hk1.size hcb.size
      have fin : ∀ (jump : Option Code) (W3 : World), Kp B (fun k => o k ∨ own1 k) Wb W3 →
          (Instr.endRound l jump).run P W3 = .ok (.bool jump.isNone) (W3.putObj l (.loop (rec (if jump.isNone then .ready else .done) jump))) ∧ kind? W3 l = none ∧
          Chg (fun k => k = l) W3 (W3.putObj l (.loop (rec (if jump.isNone then .ready else .done) jump))) ∧
          (W3.putObj l (.loop (rec (if jump.isNone then .ready else .done) jump))).heap[l]? = some (.loop (rec (if jump.isNone then .ready else .done) jump)) := fun jump W3 hk3 => by
        have hl3 : W3.heap[l]? = some (.loop { rec .ready none with state := .busy }) := (hk3.other l (Array.getElem?_eq_some_iff.1 hlb).1 hB (kind_none hlb rfl)).trans hlb
        have := run_endRound (P := P) jump hl3
        refine ⟨?_, kind_none hl3 rfl, (Chg.putObj _ hl3 rfl rfl), World.putObj_heap_same (Array.getElem?_eq_some_iff.1 hl3).1⟩
        rw [hrec] at this ⊢
        exact this
      rintro e a3 W3 hp
      cases e with
      | normal =>
        obtain ⟨hk3, hi3⟩ := hp
        obtain ⟨hr, hn3, hc3, hl4⟩ := fin none W3 hk3
        refine ⟨_, _, hr, .inl ⟨rfl, ⟨hI _ _ _ _ hi3 hn3 hc3, hl4⟩, Nat.le_trans hszb (Nat.le_trans hk3.size hc3.size), fun k hk => ?_⟩⟩
        rw [World.putObj_heap_other (hown k hk)]
        exact (hk3.own k hk).trans (hownWb k hk)
      | ret =>
        obtain ⟨hk3, hi3⟩ := hp
        obtain ⟨hr, hn3, hc3, hl4⟩ := fin (some .ret) W3 hk3
        exact ⟨_, _, hr, .inr ⟨rfl, .ret, hIx _ _ _ _ _ hi3 hn3 hc3, hl4⟩⟩
      | exit id =>
        obtain ⟨hk3, hi3⟩ := hp
        obtain ⟨hr, hn3, hc3, hl4⟩ := fin (some (.exit id)) W3 hk3
        exact ⟨_, _, hr, .inr ⟨rfl, (.exit id), hIx _ _ _ _ _ hi3 hn3 hc3, hl4⟩⟩
      | goto t =>
        obtain ⟨hk3, hi3⟩ := hp
        obtain ⟨hr, hn3, hc3, hl4⟩ := fin (some (.goto t)) W3 hk3
        exact ⟨_, _, hr, .inr ⟨rfl, (.goto t), hIx _ _ _ _ _ hi3 hn3 hc3, hl4⟩⟩
      | panic ch => exact hp.elim
      | outgrown => exact hp.elim
    | ret => exact hp.elim
    | exit id => exact hp.elim
    | goto t => exact hp.elim
    | panic ch => exact hp.elim
    | outgrown => exact hp.elim
  · intro o W2 ho hx
    exact ⟨h0 o W2 (fun k hk => ⟨by have := ho k hk; omega, (ho k hk).2⟩) hx, (hx.block l hl1).trans hL⟩
  · rintro e W2 ⟨hv, o, ho, (⟨hi, hl⟩ | ⟨i, hlt, c, hi, hl⟩)⟩
    · exact ⟨hv, o, fun k hk => by have := ho k hk; omega, .inl ⟨hi, hl⟩⟩
    · exact ⟨hv, o, fun k hk => by have := ho k hk; omega, .inr ⟨i, c, hlt, hi, hl⟩⟩

/-- THE CALLER's LAW, outside every round. -/
theorem wpIn_range4 {g : Operand} {ps : Array Tmp} {assign body : Code} {Q : Exit → Act → World → Prop} {a : Act} {w : World} {n : Nat}
    {gf : Nat} {lb : Array Value} (hg : a.eval g = .func (.func gf) #[] lb) (eg : ∀ args w, (callFunc gf args).run P w = .ok (.enter gf args) w)
    {N : Nat} {item : Nat → Array Value → World → Prop} {own0 own1 : Nat → Prop} (hit : Iter4 P gf lb N ps.size item own0 own1 w) (hown0 : ∀ k, own0 k → k < w.heap.size) (hown1 : ∀ k, own1 k → k < w.heap.size)
    (I : (Nat → Prop) → Nat → World → Prop) (Ix : (Nat → Prop) → Code → Nat → World → Prop)
    (hI : ∀ o i A C, I o i A → Mv w.heap.size (fun _ => False) A C → I o i C) (hIx : ∀ o c i A C, Ix o c i A → Mv w.heap.size (fun _ => False) A C → Ix o c i C)
    (h0 : ∀ o W, (∀ k, o k → w.heap.size ≤ k ∧ k < W.heap.size) → Ext w W → I o 0 W)
    (hround : ∀ o m l i W args, i < N → (∀ k, o k → w.heap.size ≤ k ∧ k < W.heap.size) → I o i W → args.size = ps.size → item i args W → w.heap.size ≤ l → (∃ r, W.heap[l]? = some (.loop r)) →
      assign.wpIn (Fence.wide.inRound l) m P (Exit.then (fun a1 W1 => Kp w.heap.size (fun k => o k ∨ own1 k) W W1 ∧ ∀ W2, Mv w.heap.size (fun _ => False) W1 W2 → (∃ r, W2.heap[l]? = some (.loop r)) → body.wpIn (Fence.wide.inRound l) m P (roundOut w.heap.size (fun k => o k ∨ own1 k) (I o) (Ix o) i W2) a1 W2) (fun _ _ _ => False))
        { tmps := (ps.zip args).foldl (fun t (p, v) => t.setIfInBounds p v) a.tmps, defers := [] } W)
    (hdone : ∀ (o : Nat → Prop) (D : Nat) (W : World), w.heap.size ≤ D → I o N W → W.heap[D]? = some (.deferred (some [])) → Q .normal { a with defers := { target := .collected D, args := #[] } :: a.defers } W)
    (hstop : ∀ (o : Nat → Prop) (D : Nat) (c : Code) (i : Nat) (W : World), w.heap.size ≤ D → i < N → Ix o c i W → W.heap[D]? = some (.deferred (some [])) → c.wpIn Fence.wide n P Q { a with defers := { target := .collected D, args := #[] } :: a.defers } W) :
    (Code.rangeFunc g ps assign body).wpIn Fence.wide n P Q a w := by
  refine wpIn_rangeFunc ?_
  intro fn hfn
  obtain ⟨rec, hrec⟩ : ∃ rec : LoopState → Option Code → Loop, rec = fun st pe => { state := st, pending := pe, fn, tmps := a.tmps, params := ps, assign, body, defers := w.heap.size } := ⟨_, rfl⟩
  obtain ⟨W1, hW1⟩ : ∃ W1, (w.alloc (.deferred (some []))).alloc (.loop (rec .ready none)) = W1 := ⟨_, rfl⟩
  have hL1 : W1.heap[w.heap.size + 1]? = some (.loop (rec .ready none)) := by
    rw [← hW1]; have := World.alloc_heap_new (w.alloc (.deferred (some []))) (.loop (rec .ready none)); rwa [World.size_alloc] at this
  have hK1 : W1.heap[w.heap.size]? = some (.deferred (some [])) := by
    rw [← hW1]; exact (Below.heap_alloc _ _ _ (by simp)).trans (World.alloc_heap_new w _)
  have hx1 : Ext w W1 := by rw [← hW1]; exact Below.alloc (Below.alloc (Below.refl _ w) (Nat.le_refl _) _) (by simp) _
  refine ⟨w.heap.size + 1, [{ target := .collected w.heap.size, args := #[] }], W1, { target := .fn (.func gf) lb, args := #[.func (.yield (w.heap.size + 1)) #[] #[]] }, W1, gf,
    #[.func (.yield (w.heap.size + 1)) #[] #[]] ++ lb, W1, ?_, ?_, ?_, ?_, fun h => by simp [Fence.wide] at h, ?_⟩
  · rw [← hW1, hrec]; exact run_enterLoop_outer _ _ _ _ _
  · simp only [resolve, hg]
    simp [go_sem]
  · intro f' _; trivial
  · simp [invoke, go_sem, eg]
  · have lift : ∀ {A C : World}, kind? A (w.heap.size + 1) = none → Chg (fun k => k = w.heap.size + 1) A C → Mv w.heap.size (fun _ => False) A C := fun hn hc => hc.mv fun k h => by
      subst h; exact .inr ⟨by omega, hn⟩
    have keepD : ∀ {A C : World}, A.heap[w.heap.size]? = some (.deferred (some [])) → Chg (fun k => k = w.heap.size + 1) A C → C.heap[w.heap.size]? = some (.deferred (some [])) := fun hd hc =>
      (hc.block _ (Array.getElem?_eq_some_iff.1 hd).1 (fun h => by omega)).trans hd
    have hs1 : W1.heap.size = w.heap.size + 2 := by rw [← hW1]; simp
    refine (range_core4 (P := P) hrec hit w.heap.size (Nat.le_succ _) hown1
      (fun o i W => I o i W ∧ W.heap[w.heap.size]? = some (.deferred (some []))) (fun o c i W => Ix o c i W ∧ W.heap[w.heap.size]? = some (.deferred (some [])))
      (fun o i A C h hn hc => ⟨hI o i A C h.1 (lift hn hc), keepD h.2 hc⟩) (fun o c i A C h hn hc => ⟨hIx o c i A C h.1 (lift hn hc), keepD h.2 hc⟩)
      ?_ (n - 1) W1 (by omega) (fun k hk => hx1.block k (hown0 k hk)) hx1.size hL1 ?_).mono ?_
    · rintro o m i W args hlt ho ⟨hi, hd⟩ hasz hitem hr
      refine wpIn_mono (hround o m _ i W args hlt (fun k hk => ⟨by have := ho k hk; omega, (ho k hk).2⟩) hi hasz hitem (Nat.le_succ _) hr) ?_
      rintro e a1 Wa hp
      cases e <;> simp only [Exit.then] at hp ⊢
      have hda := (hp.1.other _ (Array.getElem?_eq_some_iff.1 hd).1 (Nat.le_refl _) (kind_none hd rfl)).trans hd
      refine ⟨hp.1, fun Wb hkb hcb hrb => ?_⟩
      have hdb := keepD hda hcb
      refine wpIn_mono (hp.2 Wb (hcb.mv fun k h => .inr (by subst h; exact ⟨Nat.le_succ _, hkb⟩)) hrb) ?_
      rintro e a2 W2 hp2
      cases e <;> simp only [roundOut] at hp2 ⊢ <;> exact ⟨hp2.1, hp2.2, (hp2.1.other _ (Array.getElem?_eq_some_iff.1 hdb).1 (Nat.le_refl _) (kind_none hdb rfl)).trans hdb⟩
    · intro o W2 ho hx2
      exact ⟨h0 o W2 (fun k hk => ⟨by have := ho k hk; omega, (ho k hk).2⟩) (ext_trans hx1 hx2), (hx2.block _ (by omega)).trans hK1⟩
    · rintro e W2 ⟨⟨v, rfl⟩, o, ho, (⟨⟨hi, hd⟩, hl⟩ | ⟨i, c, hlt, ⟨hi, hd⟩, hl⟩)⟩
      · have he := run_endLoop (P := P) hl (by rw [hrec]; simp)
        have hc := (Chg.putObj (.loop { rec .ready none with state := .exhausted }) hl rfl rfl)
        exact ⟨none, _, by rw [hrec] at he; rw [hrec]; exact he, hdone o _ _ (Nat.le_refl _) (hI _ _ _ _ hi (lift (kind_none hl rfl) hc)) (keepD hd hc)⟩
      · have he := run_endLoop (P := P) hl (by rw [hrec]; simp)
        have hc := (Chg.putObj (.loop { rec .done (some c) with state := .exhausted }) hl rfl rfl)
        exact ⟨some c, _, by rw [hrec] at he; rw [hrec]; exact he, hstop o _ c i _ (Nat.le_refl _) hlt (hIx _ _ _ _ _ hi (lift (kind_none hl rfl) hc)) (keepD hd hc)⟩
end
/-- A slice's cells are cells: what turns no cells keeps it. -/
theorem Mv.sl' {B : Nat} {A C : World} (hm : Mv B (fun _ => False) A C) {v : Value} {l : List Value} (h : Sl A v l) : Sl C v l := by
  obtain ⟨ao, cap, rfl, h1, h2, h3, hc⟩ := h
  exact ⟨ao, cap, rfl, h1, h2, h3, fun j u hu => hm.cell (hc j u hu) (fun h => h)⟩
end Go.Proofs.YtpndahmlbjhdfaaDoor
