/-
  A range over a function whose iterator keeps state of its own in cells: the iterator's contract (Iter), the law for the caller (wpIn_range, wpIn_range_in within a round), the function's end (marks_ret). Over any program.
-/
import Derived.RangeFuncNested
import Derived.RangeFuncBound
import Derived.RangeFuncCalls
import Derived.RangeFuncLeaves
import Derived.OwnWalkIn
import Derived.TacticsInMore
import Derived.LoopNIn
import Derived.LoopIn
import Derived.Test.YtjbobblnicnhnaaDoorBase
namespace Go.Proofs.YtjbobblnicnhnaaDoor
open Go.RowKit

/-- The type of a block's cells; none: it holds no cells. -/
def kind? (w : World) (k : Nat) : Option TypeId := (w.shape? k).map (·.1)
theorem kind_of_cells {w : World} {k : Nat} {c : Array Value} {e : TypeId} {f : Nat × Nat} (h : w.heap[k]? = some (.cells c e f)) : kind? w k = some e := by
  simp [kind?, World.shape?, h]
theorem kind_none {w : World} {k : Nat} {o : Obj} (h : w.heap[k]? = some o) (ho : o.isCells = false) : kind? w k = none := by
  unfold kind? World.shape?; rw [h]; cases o <;> simp_all [Obj.isCells]
theorem kind_lt {w : World} {k : Nat} {e : TypeId} (h : kind? w k = some e) : k < w.heap.size := by
  rcases Nat.lt_or_ge k w.heap.size with h' | h'
  · exact h'
  · simp [kind?, World.shape?, Array.getElem?_eq_none h'] at h
theorem kind_of_cell {w : World} {a : Addr} {v : Value} (h : w.cell? a = some v) : ∃ e, kind? w a.block = some e := by
  unfold World.cell? at h
  cases ho : w.heap[a.block]? with
  | none => simp [ho] at h
  | some o => cases o <;> simp_all [kind?, World.shape?]
theorem kind_same {w w' : World} {k : Nat} (h : w'.heap[k]? = w.heap[k]?) : kind? w' k = kind? w k := by simp [kind?, World.shape?, h]

/-- Only blocks of S turn; of each block that holds cells the cells' type stays. -/
structure Chg (S : Nat → Prop) (A C : World) : Prop where
  os : C.os = A.os
  tape : C.tape = A.tape
  output : C.output = A.output
  size : A.heap.size ≤ C.heap.size
  block : ∀ k, k < A.heap.size → ¬ S k → C.heap[k]? = A.heap[k]?
  kind : ∀ k, k < A.heap.size → kind? C k = kind? A k
theorem Chg.refl (S : Nat → Prop) (A : World) : Chg S A A := ⟨rfl, rfl, rfl, Nat.le_refl _, fun _ _ _ => rfl, fun _ _ => rfl⟩
theorem Chg.trans {S : Nat → Prop} {A B C : World} (h : Chg S A B) (k : Chg S B C) : Chg S A C :=
  ⟨k.os.trans h.os, k.tape.trans h.tape, k.output.trans h.output, Nat.le_trans h.size k.size,
    fun i hi hs => (k.block i (Nat.lt_of_lt_of_le hi h.size) hs).trans (h.block i hi hs), fun i hi => (k.kind i (Nat.lt_of_lt_of_le hi h.size)).trans (h.kind i hi)⟩
theorem Chg.mono {S T : Nat → Prop} {A C : World} (h : Chg S A C) (hs : ∀ k, S k → T k) : Chg T A C :=
  ⟨h.os, h.tape, h.output, h.size, fun k hk ht => h.block k hk (fun hS => ht (hs k hS)), h.kind⟩
theorem Chg.alloc (S : Nat → Prop) (A : World) (o : Obj) : Chg S A (A.alloc o) :=
  ⟨rfl, rfl, rfl, by simp, fun k hk _ => Below.heap_alloc A o k hk, fun k hk => kind_same (Below.heap_alloc A o k hk)⟩
theorem kind_setCell (A : World) (a : Addr) (v : Value) (k : Nat) : kind? (A.setCell a v) k = kind? A k := by
  by_cases e : k = a.block
  · subst e
    unfold kind? World.shape? World.setCell
    simp only [Array.getElem?_modify, if_true]
    cases ho : A.heap[a.block]? with
    | none => rfl
    | some o => cases o <;> simp [apply_ite Array.size]
  · exact kind_same (Below.heap_setCell A a v k e)
theorem Chg.setCell (A : World) (a : Addr) (v : Value) : Chg (fun k => k = a.block) A (A.setCell a v) :=
  ⟨rfl, rfl, rfl, by simp [World.setCell], fun k _ hs => Below.heap_setCell A a v k hs, fun k _ => kind_setCell A a v k⟩
theorem Chg.drewN (S : Nat → Prop) (A : World) (n : Nat) : Chg S A (A.drewN n) := ⟨rfl, rfl, rfl, Nat.le_refl _, fun _ _ _ => rfl, fun _ _ => rfl⟩
theorem Chg.putObj {A : World} {l : Nat} {o : Obj} (o' : Obj) (h : A.heap[l]? = some o) (ho : o.isCells = false) (ho' : o'.isCells = false) : Chg (fun k => k = l) A (A.putObj l o') :=
  ⟨rfl, rfl, rfl, by simp, fun k _ hs => World.putObj_heap_other hs, fun k _ => by
    by_cases e : k = l
    · subst e
      rw [kind_none h ho, kind_none (World.putObj_heap_same (Array.getElem?_eq_some_iff.1 h).1) ho']
    · exact kind_same (World.putObj_heap_other e)⟩

/-- The iterator's own steps (blocks of mu) and the loop's book-keeping (blocks from B on that hold no cells). -/
structure Mv (B : Nat) (mu : Nat → Prop) (A C : World) : Prop where
  os : C.os = A.os
  tape : C.tape = A.tape
  output : C.output = A.output
  size : A.heap.size ≤ C.heap.size
  block : ∀ k, k < A.heap.size → ¬ mu k → (k < B ∨ ∃ e, kind? A k = some e) → C.heap[k]? = A.heap[k]?
  kind : ∀ k, k < A.heap.size → kind? C k = kind? A k
theorem Chg.mv {B : Nat} {mu S : Nat → Prop} {A C : World} (h : Chg S A C) (hs : ∀ k, S k → mu k ∨ (B ≤ k ∧ kind? A k = none)) : Mv B mu A C :=
  ⟨h.os, h.tape, h.output, h.size, fun k hk hm hc => h.block k hk (fun hS => by
    rcases hs k hS with h1 | ⟨h1, h2⟩
    · exact hm h1
    · rcases hc with h3 | ⟨e, h3⟩
      · omega
      · rw [h2] at h3; cases h3), h.kind⟩
theorem Mv.cell {B : Nat} {mu : Nat → Prop} {A C : World} (h : Mv B mu A C) {a : Addr} {v : Value} (hc : A.cell? a = some v) (hm : ¬ mu a.block) : C.cell? a = some v :=
  (World.cell?_of_block (h.block _ (World.block_lt_of_cell? A a hc) hm (.inr (kind_of_cell hc)))).trans hc
/-- What a round leaves alone: the iterator's own blocks, and blocks from B on that hold no cells. -/
structure Kp (B : Nat) (own : Nat → Prop) (A C : World) : Prop where
  size : A.heap.size ≤ C.heap.size
  own : ∀ k, own k → C.heap[k]? = A.heap[k]?
  other : ∀ k, k < A.heap.size → B ≤ k → kind? A k = none → C.heap[k]? = A.heap[k]?
theorem Kp.refl (B : Nat) (own : Nat → Prop) (A : World) : Kp B own A A := ⟨Nat.le_refl _, fun _ _ => rfl, fun _ _ _ _ => rfl⟩
theorem Kp.trans {B : Nat} {own : Nat → Prop} {A C D : World} (h : Kp B own A C) (k : Kp B own C D) : Kp B own A D :=
  ⟨Nat.le_trans h.size k.size, fun i hi => (k.own i hi).trans (h.own i hi), fun i hi hB hn => by
    have h1 := h.other i hi hB hn
    exact (k.other i (Nat.lt_of_lt_of_le hi h.size) hB (by rw [kind_same h1]; exact hn)).trans h1⟩
theorem Kp.of_chg {B : Nat} {own S : Nat → Prop} {A C : World} (h : Chg S A C) (hown : ∀ k, own k → k < A.heap.size ∧ ¬ S k) (hs : ∀ k, S k → B ≤ k → k < A.heap.size → ∃ e, kind? A k = some e) : Kp B own A C :=
  ⟨h.size, fun k hk => h.block k (hown k hk).1 (hown k hk).2, fun k hk hB hn => h.block k hk (fun hS => by obtain ⟨e, he⟩ := hs k hS hB hk; rw [hn] at he; cases he)⟩
theorem Kp.of_grown {B : Nat} {own : Nat → Prop} {A C : World} {row : Option Nat} (h : A.grownBy C row) (hown : ∀ k, own k → k < A.heap.size ∧ row ≠ some k) (hs : ∀ k, row = some k → ∃ e, kind? A k = some e) : Kp B own A C :=
  ⟨h.size, fun k hk => h.block k (hown k hk).1 (fun e => (hown k hk).2 e.symm), fun k hk _ hn => h.block k hk (fun e => by obtain ⟨e', he⟩ := hs k e.symm; rw [hn] at he; cases he)⟩
/-- What changes nothing that lay. -/
theorem Kp.of_ext {B : Nat} {own : Nat → Prop} {A C : World} (h : Ext A C) (hown : ∀ k, own k → k < A.heap.size) : Kp B own A C :=
  ⟨h.size, fun k hk => h.block k (hown k hk), fun k hk _ _ => h.block k hk⟩

/-- THE ITERATOR's CONTRACT: N items come, the i-th as 'encs i'; own: the blocks that it reads or writes; mu: those that it writes. -/
def Iter (P : Program) (gf : Nat) (lb : Array Value) (N : Nat) (encs : Nat → Array Value) (own mu : Nat → Prop) (w0 : World) : Prop :=
  ∀ (n l : Nat) (J Jx : Nat → World → Prop) (W : World), (∀ k, own k → W.heap[k]? = w0.heap[k]?) → w0.heap.size ≤ W.heap.size →
    (∀ i A C, J i A → Chg mu A C → J i C) → (∀ i A C, Jx i A → Chg mu A C → Jx i C) →
    (∀ m i W1, i < N → J i W1 → YieldAt Fence.wide m P l (encs i) W1 fun e W' =>
      (e = .returned (.bool true) ∧ J (i + 1) W' ∧ W1.heap.size ≤ W'.heap.size ∧ ∀ k, own k → W'.heap[k]? = W1.heap[k]?) ∨ (e = .returned (.bool false) ∧ Jx i W')) →
    J 0 W → CallsIn Fence.wide n P gf (#[.func (.yield l) #[] #[]] ++ lb) W fun e W' => (∃ v, e = .returned v) ∧ (J N W' ∨ ∃ i, i < N ∧ Jx i W')

/-- How the body of a round may be left. -/
def roundOut (B : Nat) (own : Nat → Prop) (I : Nat → World → Prop) (Ix : Code → Nat → World → Prop) (i : Nat) (W : World) : Exit → Act → World → Prop
  | .normal, _, W' => Kp B own W W' ∧ I (i + 1) W'
  | .ret, _, W' => Kp B own W W' ∧ Ix .ret i W'
  | .exit id, _, W' => Kp B own W W' ∧ Ix (.exit id) i W'
  | .goto t, _, W' => Kp B own W W' ∧ Ix (.goto t) i W'
  | .panic _, _, _ => False
  | .outgrown, _, _ => False

section
variable {P : Program}
/-- The rounds, the record being laid at l. -/
theorem range_core {l : Nat} {fn : FuncId} {rec : LoopState → Option Code → Loop} {tmps : Array Value} {ps : Array Tmp} {assign body : Code} {d : Nat}
    (hrec : rec = fun st pe => { state := st, pending := pe, fn, tmps, params := ps, assign, body, defers := d })
    {gf : Nat} {lb : Array Value} {N : Nat} {encs : Nat → Array Value} {own mu : Nat → Prop} {w0 : World} (hit : Iter P gf lb N encs own mu w0)
    (B : Nat) (hown : ∀ k, own k → k < B) (hmut : ∀ k, mu k → k < B) (hB : B ≤ l) (hps : ∀ i, (encs i).size = ps.size)
    (I : Nat → World → Prop) (Ix : Code → Nat → World → Prop)
    (hI : ∀ i A C, I i A → kind? A l = none → Chg (fun k => mu k ∨ k = l) A C → I i C) (hIx : ∀ c i A C, Ix c i A → kind? A l = none → Chg (fun k => mu k ∨ k = l) A C → Ix c i C)
    (hround : ∀ m i W, i < N → I i W → (∃ r, W.heap[l]? = some (.loop r)) →
      assign.wpIn (Fence.wide.inRound l) m P (Exit.then (fun a1 W1 => Kp B own W W1 ∧ ∀ W2, kind? W1 l = none → Chg (fun k => k = l) W1 W2 → (∃ r, W2.heap[l]? = some (.loop r)) → body.wpIn (Fence.wide.inRound l) m P (roundOut B own I Ix i W2) a1 W2) (fun _ _ _ => False))
        { tmps := (ps.zip (encs i)).foldl (fun t (p, v) => t.setIfInBounds p v) tmps, defers := [] } W)
    (n : Nat) (W1 : World) (hW : ∀ k, own k → W1.heap[k]? = w0.heap[k]?) (hsz : w0.heap.size ≤ W1.heap.size) (hL : W1.heap[l]? = some (.loop (rec .ready none))) (h0 : I 0 W1) :
    CallsIn Fence.wide n P gf (#[.func (.yield l) #[] #[]] ++ lb) W1 fun e W2 => (∃ v, e = .returned v) ∧
      ((I N W2 ∧ W2.heap[l]? = some (.loop (rec .ready none))) ∨ ∃ i c, i < N ∧ Ix c i W2 ∧ W2.heap[l]? = some (.loop (rec .done (some c)))) := by
  refine (hit n l (fun i W => I i W ∧ W.heap[l]? = some (.loop (rec .ready none))) (fun i W => ∃ c, Ix c i W ∧ W.heap[l]? = some (.loop (rec .done (some c)))) W1 hW hsz ?_ ?_ ?_ ⟨h0, hL⟩).mono ?_
  · rintro i A C ⟨hi, hl⟩ hc
    exact ⟨hI i A C hi (kind_none hl rfl) (hc.mono fun k h => .inl h), (hc.block l (Array.getElem?_eq_some_iff.1 hl).1 (fun h => by have := hmut l h; omega)).trans hl⟩
  · rintro i A C ⟨c, hi, hl⟩ hc
    exact ⟨c, hIx c i A C hi (kind_none hl rfl) (hc.mono fun k h => .inl h), (hc.block l (Array.getElem?_eq_some_iff.1 hl).1 (fun h => by have := hmut l h; omega)).trans hl⟩
  · rintro m i W hlt ⟨hi, hl⟩
    have hy := run_yield (P := P) (args := encs i) hl (by rw [hrec]; exact hps i)
    rw [hrec] at hy
    refine ⟨fn, _, assign, body, hy, roundIn_of_wpIn trivial (wpIn_mono (hround m i W hlt hi ⟨_, hl⟩) ?_)⟩
    rintro e a1 Wa hp
    cases e with
    | normal =>
      obtain ⟨hk1, hr1⟩ := hp
      have hlw : l < W.heap.size := (Array.getElem?_eq_some_iff.1 hl).1
      have hla : Wa.heap[l]? = some (.loop (rec .ready none)) := (hk1.other l hlw hB (kind_none hl rfl)).trans hl
      refine ⟨_, run_beginRound hla (by rw [hrec]), ?_⟩
      have hlta : l < Wa.heap.size := (Array.getElem?_eq_some_iff.1 hla).1
      obtain ⟨Wb, hWb⟩ : ∃ Wb, Wa.putObj l (.loop { rec .ready none with state := .busy }) = Wb := ⟨_, rfl⟩
      have hlb : Wb.heap[l]? = some (.loop { rec .ready none with state := .busy }) := by rw [← hWb]; exact World.putObj_heap_same hlta
      have hcb : Chg (fun k => k = l) Wa Wb := by rw [← hWb]; exact Chg.putObj _ hla rfl rfl
      rw [hWb]
      refine wpIn_mono (hr1 Wb (kind_none hla rfl) hcb ⟨_, hlb⟩) ?_
      have hownWb : ∀ k, own k → Wb.heap[k]? = W.heap[k]? := fun k hk => by
        rw [← hWb, World.putObj_heap_other (fun e => by have := hown k hk; omega)]; exact hk1.own k hk
      have hszb : W.heap.size ≤ Wb.heap.size := Nat.le_trans hk1.size hcb.size
      have fin : ∀ (jump : Option Code) (W3 : World), Kp B own Wb W3 →
          (Instr.endRound l jump).run P W3 = .ok (.bool jump.isNone) (W3.putObj l (.loop (rec (if jump.isNone then .ready else .done) jump))) ∧ kind? W3 l = none ∧
          Chg (fun k => mu k ∨ k = l) W3 (W3.putObj l (.loop (rec (if jump.isNone then .ready else .done) jump))) ∧
          (W3.putObj l (.loop (rec (if jump.isNone then .ready else .done) jump))).heap[l]? = some (.loop (rec (if jump.isNone then .ready else .done) jump)) := fun jump W3 hk3 => by
        have hl3 : W3.heap[l]? = some (.loop { rec .ready none with state := .busy }) := (hk3.other l (Array.getElem?_eq_some_iff.1 hlb).1 hB (kind_none hlb rfl)).trans hlb
        have := run_endRound (P := P) jump hl3
        refine ⟨?_, kind_none hl3 rfl, (Chg.putObj _ hl3 rfl rfl).mono fun k h => .inr h, World.putObj_heap_same (Array.getElem?_eq_some_iff.1 hl3).1⟩
        rw [hrec] at this ⊢
        exact this
      rintro e a3 W3 hp
      cases e with
      | normal =>
        obtain ⟨hk3, hi3⟩ := hp
        obtain ⟨hr, hn3, hc3, hl4⟩ := fin none W3 hk3
        refine ⟨_, _, hr, .inl ⟨rfl, ⟨hI _ _ _ hi3 hn3 hc3, hl4⟩, Nat.le_trans hszb (Nat.le_trans hk3.size hc3.size), fun k hk => ?_⟩⟩
        rw [World.putObj_heap_other (fun e => by have := hown k hk; omega)]
        exact (hk3.own k hk).trans (hownWb k hk)
      | ret =>
        obtain ⟨hk3, hi3⟩ := hp
        obtain ⟨hr, hn3, hc3, hl4⟩ := fin (some .ret) W3 hk3
        exact ⟨_, _, hr, .inr ⟨rfl, .ret, hIx _ _ _ _ hi3 hn3 hc3, hl4⟩⟩
      | exit id =>
        obtain ⟨hk3, hi3⟩ := hp
        obtain ⟨hr, hn3, hc3, hl4⟩ := fin (some (.exit id)) W3 hk3
        exact ⟨_, _, hr, .inr ⟨rfl, .exit id, hIx _ _ _ _ hi3 hn3 hc3, hl4⟩⟩
      | goto t =>
        obtain ⟨hk3, hi3⟩ := hp
        obtain ⟨hr, hn3, hc3, hl4⟩ := fin (some (.goto t)) W3 hk3
        exact ⟨_, _, hr, .inr ⟨rfl, .goto t, hIx _ _ _ _ hi3 hn3 hc3, hl4⟩⟩
      | panic ch => exact hp.elim
      | outgrown => exact hp.elim
    | ret => exact hp.elim
    | exit id => exact hp.elim
    | goto t => exact hp.elim
    | panic ch => exact hp.elim
    | outgrown => exact hp.elim
  · rintro e W2 ⟨hv, (⟨hi, hl⟩ | ⟨i, hlt, c, hi, hl⟩)⟩
    · exact ⟨hv, .inl ⟨hi, hl⟩⟩
    · exact ⟨hv, .inr ⟨i, c, hlt, hi, hl⟩⟩

theorem Mv.below {B B0 : Nat} {mu : Nat → Prop} {w A C : World} (h : Below B0 w A) (hm : Mv B mu A C) (h1 : ∀ k, mu k → B0 ≤ k) (h2 : B0 ≤ B) (h3 : B0 ≤ w.heap.size) : Below B0 w C :=
  ⟨hm.os.trans h.os, hm.tape.trans h.tape, hm.output.trans h.output, Nat.le_trans h.size hm.size, fun k hk =>
    (hm.block k (by have := h.size; omega) (fun h' => by have := h1 k h'; omega) (.inl (by omega))).trans (h.block k hk)⟩
theorem Mv.keeps {B : Nat} {mu : Nat → Prop} {A C : World} (hm : Mv B mu A C) {k : Nat} {o : Obj} (h : A.heap[k]? = some o) (h1 : ¬ mu k) (h2 : k < B) : C.heap[k]? = some o :=
  (hm.block k (Array.getElem?_eq_some_iff.1 h).1 h1 (.inl h2)).trans h
theorem Mv.sl {B : Nat} {mu : Nat → Prop} {A C : World} (hm : Mv B mu A C) {v : Value} {l : List Value} (h : Sl A v l) (h1 : ∀ k, sblk v l.length k → ¬ mu k ∧ k < B) : Sl C v l :=
  h.keep fun k hk => hm.block k (sblk_lt h hk) (h1 k hk).1 (.inl (h1 k hk).2)

theorem own_base {w : World} {B B' e : Nat} {v : Value} {n : Nat} {xs : List Value} (h : w.ownsRow B e 1 v n xs) (hb : B' ≤ B) : w.ownsRow B' e 1 v n xs := by
  refine ⟨h.1, ?_⟩
  rcases h.2 with hn | ⟨g, cap, cur, hv, hbg, r⟩
  · exact .inl hn
  · exact .inr ⟨g, cap, cur, hv, by omega, r⟩
theorem own_keep {w w' : World} {B e : Nat} {v : Value} {n : Nat} {xs : List Value} (h : w.ownsRow B e 1 v n xs) (hk : ∀ g, v.ownBlock = some g → B ≤ g → kind? w g = some e → w'.heap[g]? = w.heap[g]?) : w'.ownsRow B e 1 v n xs := by
  refine ⟨h.1, ?_⟩
  rcases h.2 with hn | ⟨g, cap, cur, rfl, hbg, hg, r⟩
  · exact .inl hn
  · exact .inr ⟨g, cap, cur, rfl, hbg, (hk g rfl hbg (kind_of_cells hg)).trans hg, r⟩
theorem own_mv {B B0 e : Nat} {mu : Nat → Prop} {A C : World} {v : Value} {n : Nat} {xs : List Value} (h : A.ownsRow B0 e 1 v n xs) (hm : Mv B mu A C) (h1 : ∀ k, mu k → k < B0) : C.ownsRow B0 e 1 v n xs :=
  own_keep h fun g _ hbg hk => hm.block g (kind_lt hk) (fun h' => by have := h1 g h'; omega) (.inr ⟨e, hk⟩)
theorem own_put {B0 e : Nat} {A : World} {v : Value} {n : Nat} {xs : List Value} {D : Nat} {o o' : Obj} (h : A.ownsRow B0 e 1 v n xs) (hD : A.heap[D]? = some o) (ho : o.isCells = false := by rfl) : (A.putObj D o').ownsRow B0 e 1 v n xs :=
  own_keep h fun g _ _ hk => World.putObj_heap_other (fun e' => by subst e'; rw [kind_none hD ho] at hk; cases hk)
theorem own_ext {B0 e : Nat} {A C : World} {v : Value} {n : Nat} {xs : List Value} (h : A.ownsRow B0 e 1 v n xs) (he : Ext A C) : C.ownsRow B0 e 1 v n xs :=
  own_keep h fun g _ _ hk => he.block g (kind_lt hk)

/-- THE CALLER's LAW, outside every round. -/
theorem wpIn_range {g : Operand} {ps : Array Tmp} {assign body : Code} {Q : Exit → Act → World → Prop} {a : Act} {w : World} {n : Nat}
    {gf : Nat} {lb : Array Value} (hg : a.eval g = .func (.func gf) #[] lb) (eg : ∀ args w, (callFunc gf args).run P w = .ok (.enter gf args) w)
    {N : Nat} {encs : Nat → Array Value} {own mu : Nat → Prop} (hit : Iter P gf lb N encs own mu w) (hown : ∀ k, own k → k < w.heap.size) (hmut : ∀ k, mu k → k < w.heap.size) (hps : ∀ i, (encs i).size = ps.size)
    (I : Nat → World → Prop) (Ix : Code → Nat → World → Prop)
    (hI : ∀ i A C, I i A → Mv w.heap.size mu A C → I i C) (hIx : ∀ c i A C, Ix c i A → Mv w.heap.size mu A C → Ix c i C) (h0 : I 0 w)
    (hround : ∀ m l i W, i < N → I i W → w.heap.size ≤ l → (∃ r, W.heap[l]? = some (.loop r)) →
      assign.wpIn (Fence.wide.inRound l) m P (Exit.then (fun a1 W1 => Kp w.heap.size own W W1 ∧ ∀ W2, Mv w.heap.size (fun _ => False) W1 W2 → (∃ r, W2.heap[l]? = some (.loop r)) → body.wpIn (Fence.wide.inRound l) m P (roundOut w.heap.size own I Ix i W2) a1 W2) (fun _ _ _ => False))
        { tmps := (ps.zip (encs i)).foldl (fun t (p, v) => t.setIfInBounds p v) a.tmps, defers := [] } W)
    (hdone : ∀ (D : Nat) (W : World), w.heap.size ≤ D → I N W → W.heap[D]? = some (.deferred (some [])) → Q .normal { a with defers := { target := .collected D, args := #[] } :: a.defers } W)
    (hstop : ∀ (D : Nat) (c : Code) (i : Nat) (W : World), w.heap.size ≤ D → i < N → Ix c i W → W.heap[D]? = some (.deferred (some [])) → c.wpIn Fence.wide n P Q { a with defers := { target := .collected D, args := #[] } :: a.defers } W) :
    (Code.rangeFunc g ps assign body).wpIn Fence.wide n P Q a w := by
  refine wpIn_rangeFunc ?_
  intro fn hfn
  obtain ⟨rec, hrec⟩ : ∃ rec : LoopState → Option Code → Loop, rec = fun st pe => { state := st, pending := pe, fn, tmps := a.tmps, params := ps, assign, body, defers := w.heap.size } := ⟨_, rfl⟩
  obtain ⟨W1, hW1⟩ : ∃ W1, (w.alloc (.deferred (some []))).alloc (.loop (rec .ready none)) = W1 := ⟨_, rfl⟩
  have hL1 : W1.heap[w.heap.size + 1]? = some (.loop (rec .ready none)) := by
    rw [← hW1]; have := World.alloc_heap_new (w.alloc (.deferred (some []))) (.loop (rec .ready none)); rwa [World.size_alloc] at this
  have hK1 : W1.heap[w.heap.size]? = some (.deferred (some [])) := by
    rw [← hW1]; exact (Below.heap_alloc _ _ _ (by simp)).trans (World.alloc_heap_new w _)
  have hc1 : Chg (fun _ => False) w W1 := by rw [← hW1]; exact (Chg.alloc _ w _).trans (Chg.alloc _ _ _)
  have hI1 : I 0 W1 := hI _ _ _ h0 (hc1.mv fun _ h => h.elim)
  refine ⟨w.heap.size + 1, [{ target := .collected w.heap.size, args := #[] }], W1, { target := .fn (.func gf) lb, args := #[.func (.yield (w.heap.size + 1)) #[] #[]] }, W1, gf,
    #[.func (.yield (w.heap.size + 1)) #[] #[]] ++ lb, W1, ?_, ?_, ?_, ?_, fun h => by simp [Fence.wide] at h, ?_⟩
  · rw [← hW1, hrec]; exact run_enterLoop_outer _ _ _ _ _
  · simp only [resolve, hg]
    simp [go_sem]
  · intro f' _; trivial
  · simp [invoke, go_sem, eg]
  · have lift : ∀ {A C : World}, kind? A (w.heap.size + 1) = none → Chg (fun k => mu k ∨ k = w.heap.size + 1) A C → Mv w.heap.size mu A C := fun hn hc => hc.mv fun k h => by
      rcases h with h | rfl
      · exact .inl h
      · exact .inr ⟨by omega, hn⟩
    have keepD : ∀ {A C : World}, A.heap[w.heap.size]? = some (.deferred (some [])) → Chg (fun k => mu k ∨ k = w.heap.size + 1) A C → C.heap[w.heap.size]? = some (.deferred (some [])) := fun hd hc =>
      (hc.block _ (Array.getElem?_eq_some_iff.1 hd).1 (fun h => by
        rcases h with h | h
        · have := hmut _ h; omega
        · omega)).trans hd
    refine (range_core (P := P) hrec hit w.heap.size hown hmut (Nat.le_succ _) hps
      (fun i W => I i W ∧ W.heap[w.heap.size]? = some (.deferred (some []))) (fun c i W => Ix c i W ∧ W.heap[w.heap.size]? = some (.deferred (some [])))
      (fun i A C h hn hc => ⟨hI i A C h.1 (lift hn hc), keepD h.2 hc⟩) (fun c i A C h hn hc => ⟨hIx c i A C h.1 (lift hn hc), keepD h.2 hc⟩)
      ?_ (n - 1) W1 (fun k hk => hc1.block k (hown k hk) (fun h => h)) hc1.size hL1 ⟨hI1, hK1⟩).mono ?_
    · rintro m i W hlt ⟨hi, hd⟩ hr
      refine wpIn_mono (hround m _ i W hlt hi (Nat.le_succ _) hr) ?_
      rintro e a1 Wa hp
      cases e <;> simp only [Exit.then] at hp ⊢
      have hda := (hp.1.other _ (Array.getElem?_eq_some_iff.1 hd).1 (Nat.le_refl _) (kind_none hd rfl)).trans hd
      refine ⟨hp.1, fun Wb hkb hcb hrb => ?_⟩
      have hdb := keepD hda (hcb.mono fun k h => .inr h)
      refine wpIn_mono (hp.2 Wb (hcb.mv fun k h => .inr (by subst h; exact ⟨Nat.le_succ _, hkb⟩)) hrb) ?_
      rintro e a2 W2 hp2
      cases e <;> simp only [roundOut] at hp2 ⊢ <;> exact ⟨hp2.1, hp2.2, (hp2.1.other _ (Array.getElem?_eq_some_iff.1 hdb).1 (Nat.le_refl _) (kind_none hdb rfl)).trans hdb⟩
    · rintro e W2 ⟨⟨v, rfl⟩, (⟨⟨hi, hd⟩, hl⟩ | ⟨i, c, hlt, ⟨hi, hd⟩, hl⟩)⟩
      · have he := run_endLoop (P := P) hl (by rw [hrec]; simp)
        have hc := (Chg.putObj (.loop { rec .ready none with state := .exhausted }) hl rfl rfl).mono (T := fun k => mu k ∨ k = w.heap.size + 1) fun k h => .inr h
        exact ⟨none, _, by rw [hrec] at he; rw [hrec]; exact he, hdone _ _ (Nat.le_refl _) (hI _ _ _ hi (lift (kind_none hl rfl) hc)) (keepD hd hc)⟩
      · have he := run_endLoop (P := P) hl (by rw [hrec]; simp)
        have hc := (Chg.putObj (.loop { rec .done (some c) with state := .exhausted }) hl rfl rfl).mono (T := fun k => mu k ∨ k = w.heap.size + 1) fun k h => .inr h
        exact ⟨some c, _, by rw [hrec] at he; rw [hrec]; exact he, hstop _ c i _ (Nat.le_refl _) hlt (hIx _ _ _ _ hi (lift (kind_none hl rfl) hc)) (keepD hd hc)⟩
/-- THE FUNCTION's END: the mark is taken. -/
theorem marks_ret {n : Nat} {fn : Func} {R : Ending → World → Prop} {tmps : Array Value} {W : World} {D : Nat} {v : Value} (hD : W.heap[D]? = some (.deferred (some [])))
    (hres : ∀ w, (results fn tmps).run P w = .ok v w) (hR : R (.returned v) (W.putObj D (.deferred none))) :
    LeavesInM Fence.wide n P fn tmps R [{ target := .collected D, args := #[] }] .returning W :=
  ⟨by simp, .inl ⟨_, _, rfl, run_takeDeferred hD, ⟨_, hres _, hR⟩⟩⟩
theorem below_mark {B : Nat} {w W : World} {D : Nat} (h : Below B w W) (hB : B ≤ D) (hD : W.heap[D]? = some (.deferred (some []))) : Below B w (W.putObj D (.deferred none)) := by
  have hc := Chg.putObj (.deferred none) hD rfl rfl
  exact ⟨hc.os.trans h.os, hc.tape.trans h.tape, hc.output.trans h.output, Nat.le_trans h.size hc.size, fun k hk => by
    rw [World.putObj_heap_other (by omega)]; exact h.block k hk⟩
end

theorem drew_alloc (w : World) (o : Obj) : (w.alloc o).drew = w.drew.alloc o := rfl
theorem below_chg {B : Nat} {S : Nat → Prop} {w A C : World} (h : Below B w A) (hc : Chg S A C) (hs : ∀ k, S k → B ≤ k) (hB : B ≤ w.heap.size) : Below B w C :=
  ⟨hc.os.trans h.os, hc.tape.trans h.tape, hc.output.trans h.output, Nat.le_trans h.size hc.size, fun k hk =>
    (hc.block k (by have := h.size; omega) (fun h' => by have := hs k h'; omega)).trans (h.block k hk)⟩
theorem cell_of {W : World} {k : Nat} {v : Value} {t : TypeId} {f : Nat × Nat} (h : W.heap[k]? = some (.cells #[v] t f)) : W.cell? ⟨k, 0, none⟩ = some v := by simp [World.cell?, h]
theorem frozen_of {W : World} {k : Nat} {v : Value} {t : TypeId} (h : W.heap[k]? = some (.cells #[v] t (0, 0))) : W.frozen? ⟨k, 0, none⟩ = false := by simp [World.frozen?, h]
theorem results_cells {fn : Func} {t u e1 e2 : Nat} (h : fn.results = #[.cell t e1, .cell u e2]) (tmps : Array Value) (P : Program) (w : World) {p q : Addr} {v1 v2 : Value}
    (ht : tmps.getD t undef = .pointer (some p)) (hu : tmps.getD u undef = .pointer (some q)) (i1 : ∀ w, (isAgg e1).run P w = .ok false w) (i2 : ∀ w, (isAgg e2).run P w = .ok false w) (c1 : w.cell? p = some v1) (c2 : w.cell? q = some v2) :
    (results fn tmps).run P w = .ok (.tuple #[v1, v2]) w := by
  have ht' : tmps[t]?.getD undef = .pointer (some p) := by rw [← ht]; simp [Array.getD_eq_getD_getElem?]
  have hu' : tmps[u]?.getD undef = .pointer (some q) := by rw [← hu]; simp [Array.getD_eq_getD_getElem?]
  simp [results, h, ht', hu', asAddr, loadVar, i1, i2, c1, c2, Result.andThen]
theorem marks_ret_at {P : Program} {n : Nat} {fn : Func} {R : Ending → World → Prop} {tmps : Array Value} {W : World} {D : Nat} {v : Value} (hD : W.heap[D]? = some (.deferred (some [])))
    (hres : (results fn tmps).run P (W.putObj D (.deferred none)) = .ok v (W.putObj D (.deferred none))) (hR : R (.returned v) (W.putObj D (.deferred none))) :
    LeavesInM Fence.wide n P fn tmps R [{ target := .collected D, args := #[] }] .returning W :=
  ⟨by simp, .inl ⟨_, _, rfl, run_takeDeferred hD, ⟨_, hres, hR⟩⟩⟩

theorem results_cell1 {fn : Func} {t e1 : Nat} (h : fn.results = #[.cell t e1]) (tmps : Array Value) (P : Program) (w : World) {p : Addr} {v1 : Value}
    (ht : tmps.getD t undef = .pointer (some p)) (i1 : ∀ w, (isAgg e1).run P w = .ok false w) (c1 : w.cell? p = some v1) :
    (results fn tmps).run P w = .ok v1 w := by
  have ht' : tmps[t]?.getD undef = .pointer (some p) := by rw [← ht]; simp [Array.getD_eq_getD_getElem?]
  simp [results, h, ht', asAddr, loadVar, i1, c1, Result.andThen]
theorem Chg.of_ext {w w' : World} (S : Nat → Prop) (h : Ext w w') : Chg S w w' := ⟨h.os, h.tape, h.output, h.size, fun k hk _ => h.block k hk, fun k hk => kind_same (h.block k hk)⟩
end Go.Proofs.YtjbobblnicnhnaaDoor
