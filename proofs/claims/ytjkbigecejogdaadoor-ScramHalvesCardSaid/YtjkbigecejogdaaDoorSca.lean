/-
  The texts that every chapter uses, in one: Rthr, Utf, Run, Vls, Pcs.
-/
import Derived.Test.YtjkbigecejogdaaDoorKit
import Derived.Deep.Quiet
import Derived.Scope
import Derived.Test.YtjkbigecejogdaaDoorRows
import Derived.Shelf.Abstract
import Derived.Lib.IndexBytes
import Derived.Test.YtjkbigecejogdaaDoorShf
namespace Go.Proofs.YtjkbigecejogdaaDoor
open Go.RowKit

def Kc (own : Nat → Prop) (w A C : World) : Prop := A.heap.size ≤ C.heap.size ∧ ∀ k, own k ∨ k = w.heap.size ∨ k = w.heap.size + 1 → C.heap[k]? = A.heap[k]?
theorem Kc.refl (own : Nat → Prop) (w A : World) : Kc own w A A := ⟨Nat.le_refl _, fun _ _ => rfl⟩
/-- How the body of a round may be left. -/
def roundOutK (K : World → World → Prop) (I : Nat → World → Prop) (Ix : Code → Nat → World → Prop) (i : Nat) (W : World) : Exit → Act → World → Prop
  | .normal, _, W' => K W W' ∧ I (i + 1) W'
  | .ret, _, W' => K W W' ∧ Ix .ret i W'
  | .exit id, _, W' => K W W' ∧ Ix (.exit id) i W'
  | .goto t, _, W' => K W W' ∧ Ix (.goto t) i W'
  | .panic _, _, _ => False
  | .outgrown, _, _ => False

section
variable {P : Program}
/-- The rounds, the record being laid at l. -/
theorem range_core3 {l : Nat} {fn : FuncId} {rec : LoopState → Option Code → Loop} {tmps : Array Value} {ps : Array Tmp} {assign body : Code} {d : Nat}
    (hrec : rec = fun st pe => { state := st, pending := pe, fn, tmps, params := ps, assign, body, defers := d })
    {gf : Nat} {lb : Array Value} {N : Nat} {encs : Nat → Array Value} {own mu : Nat → Prop} {w0 : World} (hit : Iter P gf lb N encs own mu w0)
    (K : World → World → Prop) (hK : ∀ A C, K A C → A.heap.size ≤ C.heap.size ∧ (∀ k, own k → C.heap[k]? = A.heap[k]?) ∧ C.heap[l]? = A.heap[l]?) (hown : ∀ k, own k → k ≠ l) (hmut : ¬ mu l) (hps : ∀ i, (encs i).size = ps.size)
    (I : Nat → World → Prop) (Ix : Code → Nat → World → Prop)
    (hI : ∀ i A C, I i A → kind? A l = none → Chg (fun k => mu k ∨ k = l) A C → I i C) (hIx : ∀ c i A C, Ix c i A → kind? A l = none → Chg (fun k => mu k ∨ k = l) A C → Ix c i C)
    (hround : ∀ m i W, i < N → I i W → (∃ r, W.heap[l]? = some (.loop r)) →
      assign.wpIn (Fence.wide.inRound l) m P (Exit.then (fun a1 W1 => K W W1 ∧ ∀ W2, kind? W1 l = none → Chg (fun k => k = l) W1 W2 → (∃ r, W2.heap[l]? = some (.loop r)) → body.wpIn (Fence.wide.inRound l) m P (roundOutK K I Ix i W2) a1 W2) (fun _ _ _ => False))
        { tmps := (ps.zip (encs i)).foldl (fun t (p, v) => t.setIfInBounds p v) tmps, defers := [] } W)
    (n : Nat) (W1 : World) (hW : ∀ k, own k → W1.heap[k]? = w0.heap[k]?) (hsz : w0.heap.size ≤ W1.heap.size) (hL : W1.heap[l]? = some (.loop (rec .ready none))) (h0 : I 0 W1) :
    CallsIn Fence.wide n P gf (#[.func (.yield l) #[] #[]] ++ lb) W1 fun e W2 => (∃ v, e = .returned v) ∧
      ((I N W2 ∧ W2.heap[l]? = some (.loop (rec .ready none))) ∨ ∃ i c, i < N ∧ Ix c i W2 ∧ W2.heap[l]? = some (.loop (rec .done (some c)))) := by
  refine (hit n l (fun i W => I i W ∧ W.heap[l]? = some (.loop (rec .ready none))) (fun i W => ∃ c, Ix c i W ∧ W.heap[l]? = some (.loop (rec .done (some c)))) W1 hW hsz ?_ ?_ ?_ ⟨h0, hL⟩).mono ?_
  · rintro i A C ⟨hi, hl⟩ hc
    exact ⟨hI i A C hi (kind_none hl rfl) (hc.mono fun k h => .inl h), (hc.block l (Array.getElem?_eq_some_iff.1 hl).1 hmut).trans hl⟩
  · rintro i A C ⟨c, hi, hl⟩ hc
    exact ⟨c, hIx c i A C hi (kind_none hl rfl) (hc.mono fun k h => .inl h), (hc.block l (Array.getElem?_eq_some_iff.1 hl).1 hmut).trans hl⟩
  · rintro m i W hlt ⟨hi, hl⟩
    have hy := run_yield (P := P) (args := encs i) hl (by rw [hrec]; exact hps i)
    rw [hrec] at hy
    refine ⟨fn, _, assign, body, hy, roundIn_of_wpIn trivial (wpIn_mono (hround m i W hlt hi ⟨_, hl⟩) ?_)⟩
    rintro e a1 Wa hp
    cases e with
    | normal =>
      obtain ⟨hk1, hr1⟩ := hp
      have hlw : l < W.heap.size := (Array.getElem?_eq_some_iff.1 hl).1
      have hla : Wa.heap[l]? = some (.loop (rec .ready none)) := ((hK _ _ hk1).2.2).trans hl
      refine ⟨_, run_beginRound hla (by rw [hrec]), ?_⟩
      have hlta : l < Wa.heap.size := (Array.getElem?_eq_some_iff.1 hla).1
      obtain ⟨Wb, hWb⟩ : ∃ Wb, Wa.putObj l (.loop { rec .ready none with state := .busy }) = Wb := ⟨_, rfl⟩
      have hlb : Wb.heap[l]? = some (.loop { rec .ready none with state := .busy }) := by rw [← hWb]; exact World.putObj_heap_same hlta
      have hcb : Chg (fun k => k = l) Wa Wb := by rw [← hWb]; exact Chg.putObj _ hla rfl rfl
      rw [hWb]
      refine wpIn_mono (hr1 Wb (kind_none hla rfl) hcb ⟨_, hlb⟩) ?_
      have hownWb : ∀ k, own k → Wb.heap[k]? = W.heap[k]? := fun k hk => by
        rw [← hWb, World.putObj_heap_other (hown k hk)]; exact (hK _ _ hk1).2.1 k hk
      have hszb : W.heap.size ≤ Wb.heap.size := Nat.le_trans (hK _ _ hk1).1 hcb.size
      have fin : ∀ (jump : Option Code) (W3 : World), K Wb W3 →
          (Instr.endRound l jump).run P W3 = .ok (.bool jump.isNone) (W3.putObj l (.loop (rec (if jump.isNone then .ready else .done) jump))) ∧ kind? W3 l = none ∧
          Chg (fun k => mu k ∨ k = l) W3 (W3.putObj l (.loop (rec (if jump.isNone then .ready else .done) jump))) ∧
          (W3.putObj l (.loop (rec (if jump.isNone then .ready else .done) jump))).heap[l]? = some (.loop (rec (if jump.isNone then .ready else .done) jump)) := fun jump W3 hk3 => by
        have hl3 : W3.heap[l]? = some (.loop { rec .ready none with state := .busy }) := ((hK _ _ hk3).2.2).trans hlb
        have := run_endRound (P := P) jump hl3
        refine ⟨?_, kind_none hl3 rfl, (Chg.putObj _ hl3 rfl rfl).mono fun k h => .inr h, World.putObj_heap_same (Array.getElem?_eq_some_iff.1 hl3).1⟩
        rw [hrec] at this ⊢
        exact this
      rintro e a3 W3 hp
      cases e with
      | normal =>
        obtain ⟨hk3, hi3⟩ := hp
        obtain ⟨hr, hn3, hc3, hl4⟩ := fin none W3 hk3
        refine ⟨_, _, hr, .inl ⟨rfl, ⟨hI _ _ _ hi3 hn3 hc3, hl4⟩, Nat.le_trans hszb (Nat.le_trans (hK _ _ hk3).1 hc3.size), fun k hk => ?_⟩⟩
        rw [World.putObj_heap_other (hown k hk)]
        exact ((hK _ _ hk3).2.1 k hk).trans (hownWb k hk)
      | ret =>
        obtain ⟨hk3, hi3⟩ := hp
        obtain ⟨hr, hn3, hc3, hl4⟩ := fin (some .ret) W3 hk3
        exact ⟨_, _, hr, .inr ⟨rfl, .ret, hIx _ _ _ _ hi3 hn3 hc3, hl4⟩⟩
      | exit id =>
        obtain ⟨hk3, hi3⟩ := hp
        obtain ⟨hr, hn3, hc3, hl4⟩ := fin (some (.exit id)) W3 hk3
        exact ⟨_, _, hr, .inr ⟨rfl, .exit id, hIx _ _ _ _ hi3 hn3 hc3, hl4⟩⟩
      | goto t =>
        obtain ⟨hk3, hi3⟩ := hp
        obtain ⟨hr, hn3, hc3, hl4⟩ := fin (some (.goto t)) W3 hk3
        exact ⟨_, _, hr, .inr ⟨rfl, .goto t, hIx _ _ _ _ hi3 hn3 hc3, hl4⟩⟩
      | panic ch => exact hp.elim
      | outgrown => exact hp.elim
    | ret => exact hp.elim
    | exit id => exact hp.elim
    | goto t => exact hp.elim
    | panic ch => exact hp.elim
    | outgrown => exact hp.elim
  · rintro e W2 ⟨hv, (⟨hi, hl⟩ | ⟨i, hlt, c, hi, hl⟩)⟩
    · exact ⟨hv, .inl ⟨hi, hl⟩⟩
    · exact ⟨hv, .inr ⟨i, c, hlt, hi, hl⟩⟩

/-- THE CALLER's LAW, outside every round. -/
theorem wpIn_range3 {g : Operand} {ps : Array Tmp} {assign body : Code} {Q : Exit → Act → World → Prop} {a : Act} {w : World} {n : Nat}
    {gf : Nat} {lb : Array Value} (hg : a.eval g = .func (.func gf) #[] lb) (eg : ∀ args w, (callFunc gf args).run P w = .ok (.enter gf args) w)
    {N : Nat} {encs : Nat → Array Value} {own mu : Nat → Prop} (hit : Iter P gf lb N encs own mu w) (hown : ∀ k, own k → k < w.heap.size) (hmut : ∀ k, mu k → k < w.heap.size) (hps : ∀ i, (encs i).size = ps.size)
    (I : Nat → World → Prop) (Ix : Code → Nat → World → Prop)
    (hI : ∀ i A C, I i A → Chg (fun k => mu k ∨ k = w.heap.size ∨ k = w.heap.size + 1) A C → I i C) (hIx : ∀ c i A C, Ix c i A → Chg (fun k => mu k ∨ k = w.heap.size ∨ k = w.heap.size + 1) A C → Ix c i C) (h0 : I 0 w)
    (hround : ∀ m i W, i < N → I i W → w.heap.size + 2 ≤ W.heap.size → (∃ r, W.heap[w.heap.size + 1]? = some (.loop r)) →
      assign.wpIn (Fence.wide.inRound (w.heap.size + 1)) m P (Exit.then (fun a1 W1 => Kc own w W W1 ∧ ∀ W2, Chg (fun k => k = w.heap.size + 1) W1 W2 → (∃ r, W2.heap[w.heap.size + 1]? = some (.loop r)) → body.wpIn (Fence.wide.inRound (w.heap.size + 1)) m P (roundOutK (Kc own w) I Ix i W2) a1 W2) (fun _ _ _ => False))
        { tmps := (ps.zip (encs i)).foldl (fun t (p, v) => t.setIfInBounds p v) a.tmps, defers := [] } W)
    (hdone : ∀ (D : Nat) (W : World), D = w.heap.size → I N W → W.heap[D]? = some (.deferred (some [])) → Q .normal { a with defers := { target := .collected D, args := #[] } :: a.defers } W)
    (hstop : ∀ (D : Nat) (c : Code) (i : Nat) (W : World), D = w.heap.size → i < N → Ix c i W → W.heap[D]? = some (.deferred (some [])) → c.wpIn Fence.wide n P Q { a with defers := { target := .collected D, args := #[] } :: a.defers } W) :
    (Code.rangeFunc g ps assign body).wpIn Fence.wide n P Q a w := by
  refine wpIn_rangeFunc ?_
  intro fn hfn
  obtain ⟨rec, hrec⟩ : ∃ rec : LoopState → Option Code → Loop, rec = fun st pe => { state := st, pending := pe, fn, tmps := a.tmps, params := ps, assign, body, defers := w.heap.size } := ⟨_, rfl⟩
  obtain ⟨W1, hW1⟩ : ∃ W1, (w.alloc (.deferred (some []))).alloc (.loop (rec .ready none)) = W1 := ⟨_, rfl⟩
  have hL1 : W1.heap[w.heap.size + 1]? = some (.loop (rec .ready none)) := by
    rw [← hW1]; have := World.alloc_heap_new (w.alloc (.deferred (some []))) (.loop (rec .ready none)); rwa [World.size_alloc] at this
  have hK1 : W1.heap[w.heap.size]? = some (.deferred (some [])) := by
    rw [← hW1]; exact (Below.heap_alloc _ _ _ (by simp)).trans (World.alloc_heap_new w _)
  have hc1 : Chg (fun _ => False) w W1 := by rw [← hW1]; exact (Chg.alloc _ w _).trans (Chg.alloc _ _ _)
  have hI1 : I 0 W1 := hI _ _ _ h0 (hc1.mono fun _ h => h.elim)
  refine ⟨w.heap.size + 1, [{ target := .collected w.heap.size, args := #[] }], W1, { target := .fn (.func gf) lb, args := #[.func (.yield (w.heap.size + 1)) #[] #[]] }, W1, gf,
    #[.func (.yield (w.heap.size + 1)) #[] #[]] ++ lb, W1, ?_, ?_, ?_, ?_, fun h => by simp [Fence.wide] at h, ?_⟩
  · rw [← hW1, hrec]; exact run_enterLoop_outer _ _ _ _ _
  · simp only [resolve, hg]
    simp [go_sem]
  · intro f' _; trivial
  · simp [invoke, go_sem, eg]
  · have lift : ∀ {A C : World}, kind? A (w.heap.size + 1) = none → Chg (fun k => mu k ∨ k = w.heap.size + 1) A C → Chg (fun k => mu k ∨ k = w.heap.size ∨ k = w.heap.size + 1) A C := fun _ hc => hc.mono fun k h => by
      rcases h with h | h
      · exact .inl h
      · exact .inr (.inr h)
    have keepD : ∀ {A C : World}, A.heap[w.heap.size]? = some (.deferred (some [])) → Chg (fun k => mu k ∨ k = w.heap.size + 1) A C → C.heap[w.heap.size]? = some (.deferred (some [])) := fun hd hc =>
      (hc.block _ (Array.getElem?_eq_some_iff.1 hd).1 (fun h => by
        rcases h with h | h
        · have := hmut _ h; omega
        · omega)).trans hd
    refine (range_core3 (P := P) hrec hit (Kc own w) (fun A C h => ⟨h.1, fun k hk => h.2 k (.inl hk), h.2 _ (.inr (.inr rfl))⟩) (fun k h => by have := hown k h; omega) (fun h => by have := hmut _ h; omega) hps
      (fun i W => I i W ∧ W.heap[w.heap.size]? = some (.deferred (some []))) (fun c i W => Ix c i W ∧ W.heap[w.heap.size]? = some (.deferred (some [])))
      (fun i A C h hn hc => ⟨hI i A C h.1 (lift hn hc), keepD h.2 hc⟩) (fun c i A C h hn hc => ⟨hIx c i A C h.1 (lift hn hc), keepD h.2 hc⟩)
      ?_ (n - 1) W1 (fun k hk => hc1.block k (hown k hk) (fun h => h)) hc1.size hL1 ⟨hI1, hK1⟩).mono ?_
    · rintro m i W hlt ⟨hi, hd⟩ hr
      refine wpIn_mono (hround m i W hlt hi (by obtain ⟨r, hr⟩ := hr; have := (Array.getElem?_eq_some_iff.1 hr).1; omega) hr) ?_
      rintro e a1 Wa hp
      cases e <;> simp only [Exit.then] at hp ⊢
      have hda := (hp.1.2 _ (.inr (.inl rfl))).trans hd
      refine ⟨hp.1, fun Wb hkb hcb hrb => ?_⟩
      have hdb := keepD hda (hcb.mono fun k h => .inr h)
      refine wpIn_mono (hp.2 Wb hcb hrb) ?_
      rintro e a2 W2 hp2
      cases e <;> simp only [roundOutK] at hp2 ⊢ <;> exact ⟨hp2.1, hp2.2, (hp2.1.2 _ (.inr (.inl rfl))).trans hdb⟩
    · rintro e W2 ⟨⟨v, rfl⟩, (⟨⟨hi, hd⟩, hl⟩ | ⟨i, c, hlt, ⟨hi, hd⟩, hl⟩)⟩
      · have he := run_endLoop (P := P) hl (by rw [hrec]; simp)
        have hc := (Chg.putObj (.loop { rec .ready none with state := .exhausted }) hl rfl rfl).mono (T := fun k => mu k ∨ k = w.heap.size + 1) fun k h => .inr h
        exact ⟨none, _, by rw [hrec] at he; rw [hrec]; exact he, hdone _ _ rfl (hI _ _ _ hi (lift (kind_none hl rfl) hc)) (keepD hd hc)⟩
      · have he := run_endLoop (P := P) hl (by rw [hrec]; simp)
        have hc := (Chg.putObj (.loop { rec .done (some c) with state := .exhausted }) hl rfl rfl).mono (T := fun k => mu k ∨ k = w.heap.size + 1) fun k h => .inr h
        exact ⟨some c, _, by rw [hrec] at he; rw [hrec]; exact he, hstop _ c i _ rfl hlt (hIx _ _ _ _ hi (lift (kind_none hl rfl) hc)) (keepD hd hc)⟩
end
end Go.Proofs.YtjkbigecejogdaaDoor

namespace Go.Proofs.YtjkbigecejogdaaDoor
open Go.RowKit
set_option maxRecDepth 100000
set_option linter.unusedVariables false
set_option linter.unusedSimpArgs false

def formsC : List Value := [.int .i64 1, .int .u8 128, .int .u8 0, .int .i32 0, .int .i64 2, .int .u8 224, .int .u8 192, .int .i32 128, .int .i64 3, .int .u8 240, .int .u8 224, .int .i32 2048, .int .i64 4, .int .u8 248, .int .u8 240, .int .i32 65536]
/-- The table of forms lies as it is laid. -/
def FormsAt (W : World) : Prop := ∃ fr, W.heap[1]? = some (.cells formsC.toArray 129 fr)

theorem forms_cells {w : World} (h : FormsAt w) : w.cell? ⟨1, 0, none⟩ = some (.int .i64 1) ∧ w.cell? ⟨1, 1, none⟩ = some (.int .u8 128) ∧ w.cell? ⟨1, 2, none⟩ = some (.int .u8 0) ∧ w.cell? ⟨1, 3, none⟩ = some (.int .i32 0) ∧ w.cell? ⟨1, 4, none⟩ = some (.int .i64 2) ∧ w.cell? ⟨1, 5, none⟩ = some (.int .u8 224) ∧ w.cell? ⟨1, 6, none⟩ = some (.int .u8 192) ∧ w.cell? ⟨1, 7, none⟩ = some (.int .i32 128) ∧ w.cell? ⟨1, 8, none⟩ = some (.int .i64 3) ∧ w.cell? ⟨1, 9, none⟩ = some (.int .u8 240) ∧ w.cell? ⟨1, 10, none⟩ = some (.int .u8 224) ∧ w.cell? ⟨1, 11, none⟩ = some (.int .i32 2048) ∧ w.cell? ⟨1, 12, none⟩ = some (.int .i64 4) ∧ w.cell? ⟨1, 13, none⟩ = some (.int .u8 248) ∧ w.cell? ⟨1, 14, none⟩ = some (.int .u8 240) ∧ w.cell? ⟨1, 15, none⟩ = some (.int .i32 65536) := by
  obtain ⟨fr, hf⟩ := h
  simp only [World.cell?, hf]
  exact ⟨rfl, rfl, rfl, rfl, rfl, rfl, rfl, rfl, rfl, rfl, rfl, rfl, rfl, rfl, rfl, rfl⟩
theorem and128 : ∀ n : Nat, n < 128 → bits .and .u8 (n : Int) 128 = 0 := by decide +kernel
theorem nand128 : ∀ n : Nat, n < 128 → bits .andNot .u8 (n : Int) 128 = (n : Int) := by decide +kernel
theorem idx0 (W : World) : (Instr.index 129 (.agg #[.int .i64 1, .int .u8 128, .int .u8 0, .int .i32 0, .int .i64 2, .int .u8 224, .int .u8 192, .int .i32 128, .int .i64 3, .int .u8 240, .int .u8 224, .int .i32 2048, .int .i64 4, .int .u8 248, .int .u8 240, .int .i32 65536]) (.int .i64 0)).run Tryd.prog W = .ok (.agg #[.int .i64 1, .int .u8 128, .int .u8 0, .int .i32 0]) W := by kernel_rfl
set_option maxHeartbeats 1000000 in
theorem decode_ascii (l : List UInt8) (hl : 0 < l.length) (hl2 : l.length ≤ 100000) (h0 : (bt l 0).toNat < 128) (w : World) (hF : FormsAt w) :
    Calls Tryd.prog 78 #[Str l] w fun e w' => e = .returned (.tuple #[.int .i32 ((bt l 0).toNat : Int), .int .i64 1]) ∧ Ext w w' := by
  have hix : ∀ W, (Instr.index 9 (Str l) (.int .i64 0)).run Tryd.prog W = .ok (Byt (bt l 0)) W := fun W => run_index_str Tryd.underlying9 l 0 _ rfl hl W
  obtain ⟨f0, f1, f2, f3, f4, f5, f6, f7, f8, f9, f10, f11, f12, f13, f14, f15⟩ := forms_cells hF
  generalize bt l 0 = c at *
  go_enter Tryd.func78, Tryd.ntmps78
  go_wp2
  refine wp_scope_straight (wp_seq (wp_label ?_))
  go_wp2
  go_loopw [9] (fun i wr => i = .int .i64 0 ∧ wr = w) (fun _ _ => 0)
  case atStart => exact ⟨rfl, rfl⟩
  case round =>
    obtain ⟨rfl, rfl⟩ := hrel
    have hi0 := idx0
    have b1 := and128 c.toNat h0
    have b2 := nand128 c.toNat h0
    have hl1 : decide ((l.length : Int) < 1) = false := by simp; omega
    go_wp2
    refine wp_region_quiet_lit (by kernel_rfl) (by kernel_rfl) ?_
    repeat (first
      | go_big_quiet_skip
      | (go_big_quiet_want; go_big_quiet_op; (try go_bits); first | go_big_quiet_on | go_big_quiet_call (fail)))
    refine wpQuiet_nil ?_
    intro _ hw'
    obtain ⟨nq, hw''⟩ := hw'
    subst hw''
    go_wp2
    refine wp_region_quiet_lit (by kernel_rfl) (by kernel_rfl) ?_
    repeat (first
      | go_big_quiet_skip
      | (go_big_quiet_want; go_big_quiet_op; (try go_bits); first | go_big_quiet_on | go_big_quiet_call (fail)))
    refine wpQuiet_nil ?_
    intro _ hw'
    obtain ⟨nq, hw''⟩ := hw'
    subst hw''
    go_wp2
    go_loop [6, 7] (fun r i => r = .int .i32 (c.toNat : Int) ∧ i = .int .i64 1) (fun _ _ => 0)
    case atStart => exact ⟨rfl, rfl⟩
    case round =>
      obtain ⟨rfl, rfl⟩ := hrel
      have hge : decide ((0 : Int) ≤ (c.toNat : Int)) = true := by simp
      have hsg : decide ((c.toNat : Int) ≤ 1114111) = true := by simp; omega
      have hlo : decide ((c.toNat : Int) < 55296) = true := by simp; omega
      go_wp2
      refine wp_region_quiet_lit (by kernel_rfl) (by kernel_rfl) ?_
      repeat (first
        | go_big_quiet_skip
        | (go_big_quiet_want; go_big_quiet_op; (try go_bits); first | go_big_quiet_on | go_big_quiet_call (fail)))
      refine wpQuiet_nil ?_
      intro _ hw'
      obtain ⟨nq, hw''⟩ := hw'
      subst hw''
      go_wp2
      simp only [Exit.noGoto]
      go_ret2
      exact ⟨rfl, Below.drewN (Below.drewN ((Below.refl _ _).alloc (Nat.le_refl _) _) _) _⟩
end Go.Proofs.YtjkbigecejogdaaDoor

namespace Go.Proofs.YtjkbigecejogdaaDoor
open Go.RowKit Go.Shelf
set_option maxRecDepth 100000
attribute [local go_sem] Oper.semAt_some
set_option linter.unusedVariables false
set_option linter.unusedSimpArgs false

def asc (l : List UInt8) : Prop := ∀ c ∈ l, c.toNat < 128
theorem asc_drop {l : List UInt8} (h : asc l) (k : Nat) : asc (l.drop k) := fun c hc => h c (List.mem_of_mem_drop hc)
theorem asc_bt {l : List UInt8} (h : asc l) (i : Nat) (hi : i < l.length) : (bt l i).toNat < 128 := h _ (by rw [bt_get l i hi]; exact List.getElem_mem _)
theorem bt_drop (l : List UInt8) (i : Nat) (hi : i < l.length) : bt (l.drop i) 0 = bt l i := by simp [bt, List.getD, hi]
theorem FormsAt.keep {A C : World} (h : FormsAt A) (hk : C.heap[1]? = A.heap[1]?) : FormsAt C := by
  obtain ⟨fr, hf⟩ := h
  exact ⟨fr, hk.trans hf⟩
theorem FormsAt.ext {A C : World} (h : FormsAt A) (he : Ext A C) : FormsAt C := by
  obtain ⟨fr, hf⟩ := h
  exact ⟨fr, (he.block _ (Array.getElem?_eq_some_iff.1 hf).1).trans hf⟩

set_option maxHeartbeats 1000000 in
theorem runes_iter (l : List UInt8) (hl : l.length ≤ 100000) (ha : asc l) (bs : Nat) (w0 : World) (hbs : w0.heap[bs]? = some (.cells #[Str l] 9 (0, 0))) (hF : FormsAt w0) :
    Iter Tryd.prog 77 #[.pointer (some ⟨bs, 0, none⟩)] l.length (fun i => #[.int .i64 (i : Int), .int .i32 ((bt l i).toNat : Int)]) (fun k => k = bs ∨ k = 1) (fun _ => False) w0 := by
  intro n lp J Jx W hW hsz hJ hJx hY h0
  refine callsIn_of_wp Tryd.func77 rfl trivial ?_ rfl
  simp only [Tryd.ntmps77, List.size_toArray, List.length_cons, List.length_nil, Nat.reduceAdd, Nat.reduceSub, Array.replicate_succ, Array.replicate_zero, List.push_toArray, List.append_toArray, List.nil_append, List.cons_append]
  gi_wp2
  gi_loopw [3] (fun i wr => ∃ k : Nat, k ≤ l.length ∧ i = .int .i64 k ∧ wr.heap[bs]? = some (.cells #[Str l] 9 (0, 0)) ∧ FormsAt wr ∧ J k wr) (fun i _ => l.length - (intOf i).toNat)
  case atStart => exact ⟨0, by omega, rfl, (hW bs (.inl rfl)).trans hbs, hF.keep (hW _ (.inr rfl)), h0⟩
  case round =>
    obtain ⟨k, hk, rfl, hb, hf, hJr⟩ := hrel
    have c0 := cell_of hb
    by_cases hlt : k < l.length
    · have hD := decode_ascii (l.drop k) (by simp; omega) (by simp; omega) (by rw [bt_drop l k hlt]; exact asc_bt ha k hlt) wr hf
      rw [bt_drop l k hlt] at hD
      have hY' := fun W3 hJ3 => hY (n - 1) k W3 hlt hJ3
      have HD := Lib.hid hD; have HY := Lib.hid hY'; have HB := Lib.hid hb; have HF := Lib.hid hf
      clear hD hY hY' hb hf
      have hkl : k ≤ l.length := hk
      gi_wp2
      refine ⟨trivial, fun h => by simp [Fence.wide] at h, (callsIn_wide.2 HD.out).mono ?_⟩
      rintro e W3 ⟨rfl, hx⟩
      have hJ3 := hJ k wr W3 hJr (Chg.of_ext _ hx)
      have hb3 := (hx.block bs (Array.getElem?_eq_some_iff.1 HB.out).1).trans HB.out
      have hf3 := HF.out.ext hx
      obtain ⟨fn, tmps, assign, body, hy, hR⟩ := HY.out W3 hJ3
      have HB3 := Lib.hid hb3; have HF3 := Lib.hid hf3
      clear HD HB HF hx hb3 hf3 c0 HY
      gi_wp2
      refine ⟨fun h => by simp [Fence.wide] at h, hR.mono ?_⟩
      rintro e W4 (⟨rfl, hJ4, hs4, hk4⟩ | ⟨rfl, hJ4⟩)
      · have HB4 := Lib.hid ((hk4 bs (.inl rfl)).trans HB3.out)
        have HF4 := Lib.hid (HF3.out.keep (hk4 _ (.inr rfl)))
        clear hk4 HB3 HF3 hR
        gi_wp2
        go_roundw
        case rel => exact ⟨k + 1, by omega, by go_num, HB4.out, HF4.out, hJ4⟩
        case measure => simp [intOf] <;> omega
      · gi_wp2
        refine bodyPost_ret (results_none rfl _ _ _) rfl ?_
        exact ⟨⟨_, rfl⟩, .inr ⟨k, hlt, hJ4⟩⟩
    · have hkl : k = l.length := by omega
      subst hkl
      gi_wp2
      refine bodyPost_end (results_none rfl _ _ _) rfl ?_
      exact ⟨⟨_, rfl⟩, .inl hJr⟩

theorem runes_any (l : List UInt8) (w : World) :
    Calls Tryd.prog 66 #[Str l] w fun e w' => e = .returned (.func (.func 77) #[] #[.pointer (some ⟨w.heap.size, 0, none⟩)]) ∧ w' = w.alloc (.cells #[Str l] 9) := by
  go_enter Tryd.func66, Tryd.ntmps66
  go_wp2
  go_ret
  exact ⟨rfl, rfl⟩
theorem agg4 : ∀ w, (isAgg 4).run Tryd.prog w = .ok false w := fun w => by simp [isAgg, run_underlying Tryd.underlying4, Result.andThen]

set_option maxHeartbeats 1000000 in
theorem valid_ascii (l : List UInt8) (hl : l.length ≤ 100000) (ha : asc l) (w : World) (hF : FormsAt w) :
    Calls Tryd.prog 56 #[Str l] w fun e w' => e = .returned (.bool true) ∧ Ext w w' := by
  refine (callsIn_wide (n := 5)).1 (callsIn_of_wp_marks Tryd.func56 rfl trivial (wpIn_wide.2 ?_) rfl)
  simp only [Tryd.ntmps56, List.size_toArray, List.length_cons, List.length_nil, Nat.reduceAdd, Nat.reduceSub, Array.replicate_succ, Array.replicate_zero, List.push_toArray, List.append_toArray, List.nil_append, List.cons_append]
  go_wp2_with (go_at_call 66; refine (runes_any _ _).mono ?_; rintro e w' ⟨rfl, rfl⟩)
  obtain ⟨W0, hW0⟩ : ∃ W0, (w.alloc (.cells #[.bool false] 4)).alloc (.cells #[Str l] 9) = W0 := ⟨_, rfl⟩
  have hW0' : W0 = allocs w [.cells #[.bool false] 4, .cells #[Str l] 9] := hW0.symm
  have b0 : W0.heap[w.heap.size]? = some (.cells #[.bool false] 4 (0, 0)) := by rw [hW0']; exact allocs_at w _ 0 _ rfl
  have b1 : W0.heap[w.heap.size + 1]? = some (.cells #[Str l] 9 (0, 0)) := by rw [hW0']; exact allocs_at w _ 1 _ rfl
  have hext0 : Ext w W0 := by rw [hW0']; exact allocs_ext _ _
  have hsz0 : W0.heap.size = w.heap.size + 2 := by rw [hW0']; exact allocs_size _ _
  have hF0 := hF.ext hext0
  have hgl : 1 < w.heap.size := by obtain ⟨fr, hf⟩ := hF; exact (Array.getElem?_eq_some_iff.1 hf).1
  rw [hW0]
  clear hW0 hW0'
  have hit := runes_iter l hl ha (w.heap.size + 1) W0 b1 hF0
  refine wpIn_wide.1 (wpIn_range (n := 5) (P := Tryd.prog) rfl (enters_of Tryd.func77 (by kernel_rfl) rfl) hit (fun k h => by omega) (fun k h => h.elim) (fun _ => rfl)
    (fun i W => W.heap[w.heap.size]? = some (.cells #[.bool false] 4 (0, 0)) ∧ Below w.heap.size w W ∧ w.heap.size + 2 ≤ W.heap.size)
    (fun c i W => False) ?_ (fun _ _ _ _ h _ => h.elim)
    ⟨b0, hext0, by omega⟩ ?_ ?_ (fun _ _ _ _ _ _ h _ => h.elim))
  · rintro i A' C ⟨h0, hbel, hsz⟩ hm
    exact ⟨hm.keeps h0 (fun h => h) (by omega), hm.below hbel (fun k hk => hk.elim) (by omega) (Nat.le_refl _), Nat.le_trans hsz hm.size⟩
  · rintro m' lp i W hi ⟨h0, hbel, hsz⟩ hlp hrec
    gi_wp2
    refine ⟨Kp.refl _ _ _, fun W2 hm2 hrec2 => ?_⟩
    replace h0 := hm2.keeps h0 (fun h => h) (by omega)
    replace hbel := hm2.below hbel (fun k hk => hk.elim) (by omega) (Nat.le_refl _)
    replace hsz := Nat.le_trans hsz hm2.size
    have hne : ((((bt l i).toNat : Int)) == -1) = false := by first | (simp; done) | (simp; omega)
    clear hm2 hrec hrec2
    gi_wp2
    exact ⟨Kp.refl _ _ _, h0, hbel, hsz⟩
  · rintro D W hD ⟨h0, hbel, hsz⟩ hdef
    have hc0 := cell_of h0; have hf0 := frozen_of h0
    go_wp2
    have hs := one_setCell (u := .bool true) h0
    have hch := Chg.setCell W ⟨w.heap.size, 0, none⟩ (.bool true)
    have hdef2 := (hch.block D (Array.getElem?_eq_some_iff.1 hdef).1 (by simp; omega)).trans hdef
    refine marks_ret_at hdef2 (results_cell1 rfl _ _ _ rfl agg4 (cell_of ((World.putObj_heap_other (by omega)).trans hs))) ⟨rfl, below_mark (below_chg hbel hch (fun k hk => by simp at hk; omega) (Nat.le_refl _)) (by omega) hdef2⟩
end Go.Proofs.YtjkbigecejogdaaDoor

namespace Go.Proofs.YtjkbigecejogdaaDoor
open Go.RowKit
set_option maxRecDepth 100000
set_option linter.unusedVariables false
set_option linter.unusedSimpArgs false

/-- A text of ASCII without noughts, commas and '='. -/
def pln (l : List UInt8) : Prop := ∀ c ∈ l, 0 < c.toNat ∧ c.toNat < 128 ∧ c.toNat ≠ 44 ∧ c.toNat ≠ 61
theorem pln_bt {l : List UInt8} (h : pln l) (i : Nat) (hi : i < l.length) : 0 < (bt l i).toNat ∧ (bt l i).toNat < 128 ∧ (bt l i).toNat ≠ 44 ∧ (bt l i).toNat ≠ 61 := h _ (by rw [bt_get l i hi]; exact List.getElem_mem _)
theorem pln_asc {l : List UInt8} (h : pln l) : asc l := fun c hc => (h c hc).2.1

set_option maxHeartbeats 1000000 in
theorem Escape_pln (l : List UInt8) (hl : l.length ≤ 10000) (hp : pln l) (w : World) :
    Calls Tryd.prog 20 #[Str l] w fun e w' => e = .returned (Str l) ∧ Ext w w' := by
  have hixl : ∀ i, i < l.length → ∀ W, (Instr.index 9 (Str l) (.int .i64 (i : Int))).run Tryd.prog W = .ok (Byt (bt l i)) W := fun i hi W => run_index_str Tryd.underlying9 l i _ rfl hi W
  have HI := Lib.hid hixl; clear hixl
  have hb0 := bld_new (w.heap.size + 1) w
  go_enter Tryd.func20, Tryd.ntmps20
  go_wp2
  go_loopw [7] (fun i wr => ∃ k : Nat, k ≤ l.length ∧ i = .int .i64 k ∧ Bld (w.heap.size + 1) wr w.heap.size (l.take k) ∧ Ext w wr) (fun i _ => l.length - (intOf i).toNat)
  case atStart => exact ⟨0, by omega, rfl, hb0, (Below.refl _ w).alloc (Nat.le_refl _) _⟩
  case round =>
    obtain ⟨k, hk, rfl, hbl, hext⟩ := hrel
    by_cases h3 : k < l.length
    · have hix := HI.out k h3
      have hpl := pln_bt hp k h3
      have Ht := Lib.hid (take_snoc l k h3)
      have hlen : (l.take k).length ≤ 10000 := by simp; omega
      have hsz := hbl.lt
      have hc := (bt l k).toNat_lt
      generalize bt l k = c at *
      generalize l.take k = bs at *
      have Hb := Lib.hid hbl; clear hbl
      have h44 : ((c.toNat : Int) == 44) = false := by simp; omega
      have h61 : ((c.toNat : Int) == 61) = false := by simp; omega
      have h61' : ((c.toNat : Int) != 61) = true := by simp; omega
      go_wp2_with (go_at_call 47; refine (WriteByte_any (w.heap.size + 1) w.heap.size bs c wr Hb.out (by omega) hsz).mono ?_; rintro e W1 ⟨he1, hb1, hfr1⟩; subst he1; have Hb1 := Lib.hid hb1; clear hb1)
      go_roundw
      case rel => exact ⟨k + 1, by omega, by go_num, by rw [Ht.out]; exact Hb1.out, hext.trans (hfr1.below (by omega) (by omega) (by omega))⟩
      case measure => simp [intOf] <;> omega
    · have hsz := hbl.lt
      have Hb := Lib.hid hbl; clear hbl
      go_wp2_with (go_at_call 48; refine (String_any (w.heap.size + 1) w.heap.size _ _ Hb.out).mono ?_; rintro e W1 ⟨rfl, hfr1⟩)
      go_ret
      exact ⟨by rw [List.take_of_length_le (by omega)]; rfl, hext.trans (hfr1.below (by omega) (by omega) (by omega))⟩
set_option maxHeartbeats 1000000 in
theorem Unescape_pln (l : List UInt8) (hl : l.length ≤ 10000) (hp : pln l) (w : World) :
    Calls Tryd.prog 55 #[Str l] w fun e w' => e = .returned (.tuple #[Str l, .int .i64 0]) ∧ Ext w w' := by
  have hixl : ∀ i, i < l.length → ∀ W, (Instr.index 9 (Str l) (.int .i64 (i : Int))).run Tryd.prog W = .ok (Byt (bt l i)) W := fun i hi W => run_index_str Tryd.underlying9 l i _ rfl hi W
  have HI := Lib.hid hixl; clear hixl
  have hb0 := bld_new (w.heap.size + 1) w
  go_enter Tryd.func55, Tryd.ntmps55
  go_wp2
  go_loopw [5, 6] (fun c i wr => ∃ k : Nat, k ≤ l.length ∧ i = .int .i64 k ∧ c = .int .i64 0 ∧ Bld (w.heap.size + 1) wr w.heap.size (l.take k) ∧ Ext w wr) (fun _ i _ => l.length - (intOf i).toNat)
  case atStart => exact ⟨0, by omega, rfl, rfl, hb0, (Below.refl _ w).alloc (Nat.le_refl _) _⟩
  case round =>
    obtain ⟨k, hk, rfl, rfl, hbl, hext⟩ := hrel
    by_cases h3 : k < l.length
    · have hix := HI.out k h3
      have hpl := pln_bt hp k h3
      have Ht := Lib.hid (take_snoc l k h3)
      have hlen : (l.take k).length ≤ 10000 := by simp; omega
      have hsz := hbl.lt
      have hc := (bt l k).toNat_lt
      generalize bt l k = c at *
      generalize l.take k = bs at *
      have Hb := Lib.hid hbl; clear hbl
      have h44 : ((c.toNat : Int) == 44) = false := by simp; omega
      have h61 : ((c.toNat : Int) == 61) = false := by simp; omega
      have h61' : ((c.toNat : Int) != 61) = true := by simp; omega
      go_wp2_with (go_at_call 47; refine (WriteByte_any (w.heap.size + 1) w.heap.size bs c wr Hb.out (by omega) hsz).mono ?_; rintro e W1 ⟨he1, hb1, hfr1⟩; subst he1; have Hb1 := Lib.hid hb1; clear hb1)
      go_roundw
      case rel => exact ⟨k + 1, by omega, by go_num, rfl, by rw [Ht.out]; exact Hb1.out, hext.trans (hfr1.below (by omega) (by omega) (by omega))⟩
      case measure => simp [intOf] <;> omega
    · have hsz := hbl.lt
      have Hb := Lib.hid hbl; clear hbl
      go_wp2_with (go_at_call 48; refine (String_any (w.heap.size + 1) w.heap.size _ _ Hb.out).mono ?_; rintro e W1 ⟨rfl, hfr1⟩)
      go_ret2
      exact ⟨by rw [List.take_of_length_le (by omega)]; rfl, hext.trans (hfr1.below (by omega) (by omega) (by omega))⟩

set_option maxHeartbeats 400000 in
theorem value_pln (l : List UInt8) (hl : l.length ≤ 10000) (h0 : l ≠ []) (hp : pln l) (w : World) (hF : FormsAt w) :
    Calls Tryd.prog 32 #[Str l] w fun e w' => e = .returned (.bool true) ∧ Ext w w' := by
  have hixl : ∀ i, i < l.length → ∀ W, (Instr.index 9 (Str l) (.int .i64 (i : Int))).run Tryd.prog W = .ok (Byt (bt l i)) W := fun i hi W => run_index_str Tryd.underlying9 l i _ rfl hi W
  have HI := Lib.hid hixl; clear hixl
  have HV := Lib.hid (valid_ascii l (by omega) (pln_asc hp) w hF)
  have hne : (l == []) = false := by simpa using h0
  go_enter Tryd.func32, Tryd.ntmps32
  go_wp2_with (go_at_call 56; refine HV.out.mono ?_; rintro e W1 ⟨rfl, hx⟩)
  go_loop [13] (fun i => ∃ k : Nat, k ≤ l.length ∧ i = .int .i64 k) (fun i => l.length - (intOf i).toNat)
  case atStart => exact ⟨0, by omega, rfl⟩
  case round =>
    obtain ⟨k, hk, rfl⟩ := hrel
    by_cases h3 : k < l.length
    · have hix := HI.out k h3
      have hpl := pln_bt hp k h3
      generalize bt l k = c at *
      have h44 : ((c.toNat : Int) == 44) = false := by simp; omega
      have hz : ((c.toNat : Int) == 0) = false := by simp; omega
      go_wp2
      go_round
      case rel => exact ⟨k + 1, by omega, by go_num⟩
      case measure => simp [intOf] <;> omega
    · have hkl : k = l.length := by omega
      subst hkl
      go_wp2
      go_ret
      exact ⟨rfl, hx⟩
end Go.Proofs.YtjkbigecejogdaaDoor

namespace Go.Proofs.YtjkbigecejogdaaDoor
open Go.RowKit Go.Shelf
set_option maxRecDepth 100000
attribute [local go_sem] Oper.semAt_some
set_option linter.unusedVariables false
set_option linter.unusedSimpArgs false

/-- A text's pieces between commas. -/
def spl : List UInt8 → List (List UInt8)
  | [] => [[]]
  | c :: r => if c = 44 then [] :: spl r else (c :: (spl r).headD []) :: (spl r).tail
theorem spl_ne : ∀ l, spl l ≠ []
  | [] => by simp [spl]
  | c :: r => by unfold spl; split <;> simp
theorem spl_len : ∀ l, (spl l).length ≤ l.length + 1
  | [] => by simp [spl]
  | c :: r => by
    have := spl_len r
    unfold spl; split
    · simp; omega
    · simp; omega
theorem spl_part : ∀ (l : List UInt8) (p : List UInt8), p ∈ spl l → p.length ≤ l.length
  | [], p, h => by simp [spl] at h; subst h; simp
  | c :: r, p, h => by
    unfold spl at h; split at h
    · rcases List.mem_cons.1 h with h | h
      · subst h; simp
      · have := spl_part r p h; simp; omega
    · rcases List.mem_cons.1 h with h | h
      · subst h
        have h2 : (spl r).headD [] ∈ spl r := by
          cases hs : spl r with
          | nil => exact absurd hs (spl_ne r)
          | cons a t => simp
        have := spl_part r _ h2; simp at this ⊢; omega
      · have := spl_part r p (List.mem_of_mem_tail h); simp; omega
/-- What strings.Cut gives at a comma. -/
theorem cut_spl : ∀ l, (Lib.cut l [44]).1 = (spl l).headD [] ∧ (Lib.cut l [44]).2.2 = decide (1 < (spl l).length) ∧ (1 < (spl l).length → spl (Lib.cut l [44]).2.1 = (spl l).tail ∧ (Lib.cut l [44]).2.1.length < l.length)
  | [] => by simp [Lib.cut, Lib.index, spl]
  | c :: r => by
    obtain ⟨h1, h2, h3⟩ := cut_spl r
    have hge := Lib.index_ge r [44]
    by_cases hc : c = 44
    · subst hc
      have hix : Lib.index (44 :: r) [44] = 0 := by rw [Lib.index]; simp [List.isPrefixOf]
      have hs : spl (44 :: r) = [] :: spl r := by rw [spl]; simp
      have hl : 0 < (spl r).length := List.length_pos_iff.2 (spl_ne r)
      rw [hs]
      simp only [Lib.cut, hix]
      refine ⟨rfl, by simp; omega, fun _ => ⟨?_, ?_⟩⟩
      · simp
      · simp
    · have hp : [44].isPrefixOf (c :: r) = false := by simp [List.isPrefixOf, Ne.symm hc]
      have hix : Lib.index (c :: r) [44] = if Lib.index r [44] == -1 then -1 else Lib.index r [44] + 1 := by rw [Lib.index, hp]; simp
      have hs : spl (c :: r) = (c :: (spl r).headD []) :: (spl r).tail := by rw [spl, if_neg hc]
      have hlen : (spl (c :: r)).length = (spl r).length := by
        rw [hs]
        cases h : spl r with
        | nil => exact absurd h (spl_ne r)
        | cons a t => simp
      rw [hlen]
      by_cases hm : Lib.index r [44] = -1
      · have e1 : Lib.index (c :: r) [44] = -1 := by rw [hix, hm]; rfl
        have e2 : Lib.cut r [44] = (r, [], false) := by simp [Lib.cut, hm]
        have e3 : Lib.cut (c :: r) [44] = (c :: r, [], false) := by simp [Lib.cut, e1]
        rw [e2] at h1 h2
        rw [e3, hs]
        simp only at h1 h2
        refine ⟨by rw [← h1]; rfl, h2, fun h => ?_⟩
        rw [decide_eq_true h] at h2; cases h2
      · obtain ⟨j, hj⟩ : ∃ j : Nat, Lib.index r [44] = j := ⟨(Lib.index r [44]).toNat, by omega⟩
        have e1 : Lib.index (c :: r) [44] = ((j + 1 : Nat) : Int) := by rw [hix, if_neg (by simp; omega), hj]; omega
        have e2 : Lib.cut r [44] = (r.take j, r.drop (j + 1), true) := by simp [Lib.cut, hj]
        have e3 : Lib.cut (c :: r) [44] = (c :: r.take j, r.drop (j + 1), true) := by
          simp only [Lib.cut, e1]
          rw [if_pos (by omega)]
          simp
        rw [e2] at h1 h2 h3
        rw [e3, hs]
        simp only at h1 h2 h3 ⊢
        refine ⟨by simp [h1], h2, fun h => ⟨(h3 h).1, ?_⟩⟩
        have := (h3 h).2
        simp at this ⊢; omega

theorem cut_none (l : List UInt8) (h : ¬ 1 < (spl l).length) : (Lib.cut l [44]).2.1 = [] := by
  have h2 := (cut_spl l).2.1
  rw [decide_eq_false h] at h2
  unfold Lib.cut at h2 ⊢
  split at h2
  · cases h2
  · rename_i hn; rw [if_neg hn]

def strLen2 (w : World) (b : Nat) : Nat := match w.cell? ⟨b, 0, none⟩ with | some (.string s) => s.size | _ => 0
def boolNat : Value → Nat | .bool true => 1 | _ => 0
def MaxAt (W : World) : Prop := ∃ m, W.cell? ⟨0, 0, none⟩ = some (.int .i64 m)
theorem MaxAt.keep {A C : World} (h : MaxAt A) (hk : C.heap[0]? = A.heap[0]?) : MaxAt C := by
  obtain ⟨m, hm⟩ := h
  exact ⟨m, (World.cell?_of_block (w := A) (w' := C) hk).trans hm⟩
theorem MaxAt.lt {A : World} (h : MaxAt A) : 0 < A.heap.size := by
  obtain ⟨m, hm⟩ := h
  exact World.block_lt_of_cell? A _ hm
theorem MaxAt.ext {A C : World} (h : MaxAt A) (he : Ext A C) : MaxAt C := h.keep (he.block _ h.lt)

set_option maxHeartbeats 1000000 in
theorem pieces_iter (l : List UInt8) (hl : l.length ≤ 100000) (bs : Nat) (w0 : World) (hbs : w0.heap[bs]? = some (.cells #[Str l] 9 (0, 0))) (hM : MaxAt w0) (hne : bs ≠ 0) :
    Iter Tryd.prog 62 #[.pointer (some ⟨bs, 0, none⟩)] (spl l).length (fun i => #[Str ((spl l).getD i [])]) (fun k => k = bs ∨ k = 0) (fun k => k = bs) w0 := by
  intro n lp J Jx W hW hsz hJ hJx hY h0
  refine callsIn_of_wp Tryd.func62 rfl trivial ?_ rfl
  simp only [Tryd.ntmps62, List.size_toArray, List.length_cons, List.length_nil, Nat.reduceAdd, Nat.reduceSub, Array.replicate_succ, Array.replicate_zero, List.push_toArray, List.append_toArray, List.nil_append, List.cons_append]
  gi_wp2
  gi_loopw [3] (fun b wr => ∃ (i : Nat) (r : List UInt8), i ≤ (spl l).length ∧ r.length ≤ 100000 ∧ wr.heap[bs]? = some (.cells #[Str r] 9 (0, 0)) ∧ MaxAt wr ∧ J i wr ∧ ((b = .bool true ∧ spl r = (spl l).drop i) ∨ (b = .bool false ∧ i = (spl l).length))) (fun b wr => strLen2 wr bs + boolNat b)
  case atStart => exact ⟨0, l, by omega, hl, (hW bs (.inl rfl)).trans hbs, hM.keep (hW _ (.inr rfl)), h0, .inl ⟨rfl, rfl⟩⟩
  case round =>
    obtain ⟨i, r, hi, hr, hb, hm, hJr, (⟨rfl, hspl⟩ | ⟨rfl, rfl⟩)⟩ := hrel
    · have c0 := cell_of hb
      obtain ⟨m, hmc⟩ := hm
      have hC := Tryd.strings_Cut ⟨r.toArray⟩ ⟨#[44]⟩ m wr (by rw [size_list]; omega) hmc
      have hcs := cut_spl r
      rw [show (⟨r.toArray⟩ : ByteArray).data.toList = r from rfl, show (⟨#[44]⟩ : ByteArray).data.toList = [44] from rfl] at hC
      have hlt : i < (spl l).length := by
        have h1 : (spl r).length = (spl l).length - i := by rw [hspl]; simp
        have h2 : 0 < (spl r).length := List.length_pos_iff.2 (spl_ne r)
        omega
      have hhead : (spl r).headD [] = (spl l).getD i [] := by
        rw [hspl]; simp [List.getD, List.headD_eq_head?_getD]
      obtain ⟨p, q, f, hcut⟩ : ∃ p q f, Lib.cut r [44] = (p, q, f) := ⟨_, _, _, rfl⟩
      have hq0 := cut_none r
      rw [hcut] at hC hcs hq0
      simp only at hC hcs
      rw [hhead] at hcs
      have hY' := fun W3 hJ3 => hY (n - 1) i W3 hlt hJ3
      rw [← hcs.1] at hY'
      have HC := Lib.hid hC; have HY := Lib.hid hY'; have HB := Lib.hid hb; have HS := Lib.hid hcs; have HQ := Lib.hid hq0; have HSP := Lib.hid hspl
      have HM := Lib.hid hmc
      clear hC hY hY' hb hq0 hcs hspl hmc hcut hhead
      gi_wp2
      refine ⟨trivial, fun h => by simp [Fence.wide] at h, (callsIn_wide.2 HC.out).mono ?_⟩
      rintro e W3 ⟨he, nd, hw⟩
      subst he
      have hch3 : Chg (fun k => k = bs) wr W3 := by rw [hw]; exact Chg.drewN _ _ _
      have hbl := (Array.getElem?_eq_some_iff.1 HB.out).1
      have hb3 : W3.heap[bs]? = some (.cells #[Str r] 9 (0, 0)) := by rw [hw]; exact HB.out
      have hm3 : W3.heap[0]? = wr.heap[0]? := by rw [hw]; rfl
      have c3 := cell_of hb3; have f3 := frozen_of hb3
      have hset := one_setCell (u := Str q) hb3
      have hch4 := hch3.trans (Chg.setCell W3 ⟨bs, 0, none⟩ (Str q))
      have hJ4 := hJ i wr _ hJr hch4
      have hm4 : (W3.setCell ⟨bs, 0, none⟩ (Str q)).heap[0]? = wr.heap[0]? := (Below.heap_setCell _ _ _ _ (Ne.symm hne)).trans hm3
      obtain ⟨fn, tmps, assign, body, hy, hR⟩ := HY.out _ hJ4
      have HW := Lib.hid hw; have HSET := Lib.hid hset; have HM4 := Lib.hid hm4
      have hln : strLen2 wr bs = r.length := by simp [strLen2, World.cell?, HB.out, size_list]
      have HLN := Lib.hid hln
      clear hw hb3 hm3 hset hch3 hch4 hm4 HC HY hln c0
      gi_wp2
      refine ⟨fun h => by simp [Fence.wide] at h, hR.mono ?_⟩
      rintro e W4 (⟨rfl, hJ5, hs5, hk5⟩ | ⟨rfl, hJ5⟩)
      · have hb5 := (hk5 bs (.inl rfl)).trans HSET.out
        have hm5 : MaxAt W4 := MaxAt.keep ⟨m, HM.out⟩ ((hk5 _ (.inr rfl)).trans HM4.out)
        have hl5 : strLen2 W4 bs = q.length := by simp [strLen2, World.cell?, hb5, size_list]
        have HB5 := Lib.hid hb5; have HM5 := Lib.hid hm5; have HL5 := Lib.hid hl5
        clear hk5 hb5 hm5 hl5 hR
        by_cases h1 : 1 < (spl r).length
        · have hf : f = true := by have := HS.out.2.1; rw [this]; simp [h1]
          obtain ⟨h2, h3⟩ := HS.out.2.2 h1
          subst hf
          have hnx : spl q = (spl l).drop (i + 1) := by rw [h2, HSP.out, List.tail_drop]
          have HNX := Lib.hid hnx
          clear h2 hnx HS
          gi_wp2
          go_roundw
          case rel => exact ⟨i + 1, q, by omega, by omega, HB5.out, HM5.out, hJ5, .inl ⟨rfl, HNX.out⟩⟩
          case measure => rw [HL5.out, HLN.out]; simp [boolNat]; omega
        · have hf : f = false := by have := HS.out.2.1; rw [this]; simp [h1]
          have hiN : i + 1 = (spl l).length := by
            have h2 : (spl r).length = (spl l).length - i := by rw [HSP.out]; simp
            omega
          subst hf
          have hq : q = [] := by
            have := HQ.out h1
            exact this
          have HQ2 := Lib.hid hq
          have HIN := Lib.hid hiN
          clear hq hiN HS
          gi_wp2
          go_roundw
          case rel => exact ⟨i + 1, q, by omega, by rw [HQ2.out]; simp, HB5.out, HM5.out, hJ5, .inr ⟨rfl, HIN.out⟩⟩
          case measure => rw [HL5.out, HLN.out, HQ2.out]; simp [boolNat]
      · gi_wp2
        refine bodyPost_ret (results_none rfl _ _ _) rfl ?_
        exact ⟨⟨_, rfl⟩, .inr ⟨i, hlt, hJ5⟩⟩
    · gi_wp2
      refine bodyPost_end (results_none rfl _ _ _) rfl ?_
      exact ⟨⟨_, rfl⟩, .inl hJr⟩
end Go.Proofs.YtjkbigecejogdaaDoor
