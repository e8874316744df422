/-
  A region that draws its order, by an invariant: one obligation for each operation, none for each order.
-/
import Derived.RegionTactic
import Derived.Test.YtjbobblnicnhnaaDoorReg
namespace Go.Proofs.YtjbobblnicnhnaaDoor
open Go.RowKit
set_option linter.unusedVariables false
set_option linter.unusedSimpArgs false

section
variable {P : Program} {md : Region.Mode} {ops : Array Oper} {Q : Exit → Act → World → Prop}
/-- Each operation waits for earlier ones alone. -/
def edgesDown (md : Region.Mode) (ops : Array Oper) : Bool :=
  (List.range ops.size).all fun i => ((ops[i]?).map (fun o => o.after.all fun e => !Region.binds md e || decide (e.on < i))).getD false
theorem edgesDown_spec (hd : edgesDown md ops = true) {i : Nat} {o : Oper} (ho : ops[i]? = some o) {e : Edge} (he : e ∈ o.after) (hb : Region.binds md e = true) : e.on < i := by
  have hi : i < ops.size := (Array.getElem?_eq_some_iff.1 ho).1
  have h1 := List.all_eq_true.1 hd i (List.mem_range.2 hi)
  rw [ho] at h1
  simp only [Option.map_some, Option.getD_some] at h1
  have h2 := (Array.all_eq_true_iff_forall_mem.1 h1) e he
  simpa [hb] using h2
theorem ready_none (hd : edgesDown md ops = true) {listed : Array Bool} (hs : listed.size = ops.size) (h : Region.ready md ops listed = []) : ∀ j, j < ops.size → listed.getD j false = true := by
  intro j
  induction j using Nat.strongRecOn with
  | ind j ih =>
    intro hj
    cases hl : listed.getD j false with
    | true => rfl
    | false =>
      have hmem : j ∈ Region.ready md ops listed := by
        have ho : ops[j]? = some ops[j] := Array.getElem?_eq_getElem hj
        refine mem_ready.2 ⟨?_, ops[j], ho, fun e he hb => ?_⟩
        · rw [Array.getD_eq_getD_getElem?] at hl ⊢
          rw [Array.getElem?_eq_getElem (by omega)] at hl ⊢
          exact hl
        · have := edgesDown_spec hd ho he hb
          exact ih e.on this (by omega)
      rw [h] at hmem; cases hmem
theorem count_set {l : List Bool} {i : Nat} (hi : i < l.length) (h : l[i] = false) : (l.set i true).count false + 1 = l.count false := by
  induction l generalizing i with
  | nil => simp at hi
  | cons b l ih =>
    cases i with
    | zero => simp at h; subst h; simp
    | succ i =>
      have := ih (i := i) (by simpa using hi) (by simpa using h)
      rw [List.set_cons_succ, List.count_cons, List.count_cons]
      omega
theorem all_of_count {l : List Bool} (h : l.count false = 0) (j : Nat) (hj : j < l.length) : l[j] = true := by
  cases hb : l[j] with
  | true => rfl
  | false =>
    have : false ∈ l := by rw [← hb]; exact List.getElem_mem hj
    rw [List.count_eq_zero] at h
    exact absurd this h
/-- What stands ahead of an operation is done. -/
def Preds (md : Region.Mode) (ops : Array Oper) (L : Nat → Bool) (i : Nat) : Prop := ∀ o, ops[i]? = some o → ∀ e ∈ o.after, Region.binds md e = true → L e.on = true
/-- Whatever is done, what stands ahead of it is done. -/
def Closed (md : Region.Mode) (ops : Array Oper) (L : Nat → Bool) : Prop := ∀ j, L j = true → Preds md ops L j
/-- Does an operation wait for another one? -/
def waits (md : Region.Mode) (ops : Array Oper) (j i : Nat) : Bool := ((ops[j]?).map fun o => o.after.any fun e => Region.binds md e && e.on == i).getD false
theorem Preds.of {L : Nat → Bool} {j : Nat} (h : Preds md ops L j) (i : Nat) (hw : waits md ops j i = true) : L i = true := by
  unfold waits at hw
  cases ho : ops[j]? with
  | none => rw [ho] at hw; simp at hw
  | some o =>
    rw [ho] at hw
    simp only [Option.map_some, Option.getD_some] at hw
    obtain ⟨k, hk, hb⟩ := Array.any_eq_true.1 hw
    simp only [Bool.and_eq_true, beq_iff_eq] at hb
    rw [← hb.2]
    exact h o ho _ (Array.getElem_mem hk) hb.1
theorem Closed.of {L : Nat → Bool} (h : Closed md ops L) (j i : Nat) (hw : waits md ops j i = true) (hj : L j = true) : L i = true := (h j hj).of i hw
/-- What waits for one that isn't done isn't done. -/
theorem Closed.not {L : Nat → Bool} (h : Closed md ops L) (j : Nat) {i : Nat} (hw : waits md ops j i = true) (hi : L i = false) : L j = false := by
  cases hj : L j with
  | false => rfl
  | true => rw [h.of j i hw hj] at hi; cases hi
theorem Closed.step {L : Nat → Bool} {i : Nat} (h : Closed md ops L) (hp : Preds md ops L i) : Closed md ops (fun j => L j || j == i) := by
  intro j hj o ho e he hb
  simp only [Bool.or_eq_true, beq_iff_eq] at hj ⊢
  rcases hj with hj | rfl
  · exact .inl (h j hj o ho e he hb)
  · exact .inl (hp o ho e he hb)
theorem wpAny_good_core (hd : edgesDown md ops = true) (G : (Nat → Bool) → Act → World → Prop)
    (hstep : ∀ i, i < ops.size → ∀ (L : Nat → Bool) a w, L i = false → Preds md ops L i → Closed md ops L → G L a w → wpOp P ops Q i (fun a' w' => G (fun j => L j || j == i) a' w') a w)
    (hdone : ∀ L a w, (∀ j, j < ops.size → L j = true) → G L a w → Q .normal a w) :
    ∀ fuel (listed : Array Bool) a w, listed.size = ops.size → listed.toList.count false ≤ fuel → Closed md ops (fun j => listed.getD j false) → G (fun j => listed.getD j false) a w → wpAny P md ops Q fuel listed a w := by
  intro fuel
  induction fuel with
  | zero =>
    intro listed a w hs hc hcl hG
    have hall : ∀ j, j < ops.size → listed.getD j false = true := fun j hj => by
      have := all_of_count (l := listed.toList) (by omega) j (by simpa using (by omega : j < listed.size))
      rw [Array.getD_eq_getD_getElem?, Array.getElem?_eq_getElem (by omega)]
      simpa using this
    refine ⟨?_, hdone _ a w hall hG⟩
    cases hr : Region.ready md ops listed with
    | nil => rfl
    | cons i rs =>
      have hm : i ∈ Region.ready md ops listed := by rw [hr]; exact List.mem_cons_self
      obtain ⟨h1, o, ho, _⟩ := mem_ready.1 hm
      have hi : i < ops.size := (Array.getElem?_eq_some_iff.1 ho).1
      have h2 := hall i hi
      rw [Array.getD_eq_getD_getElem?, Array.getElem?_eq_getElem (by omega)] at h1 h2
      rw [Option.getD_some] at h1 h2
      rw [h1] at h2; cases h2
  | succ fuel ih =>
    intro listed a w hs hc hcl hG
    refine ⟨fun hr => hdone _ a w (ready_none hd hs hr) hG, fun i hi => ?_⟩
    obtain ⟨h1, o, ho, hp⟩ := mem_ready.1 hi
    have hil : i < ops.size := (Array.getElem?_eq_some_iff.1 ho).1
    have hf : listed[i]'(by omega) = false := by
      rw [Array.getD_eq_getD_getElem?, Array.getElem?_eq_getElem (by omega)] at h1
      exact h1
    have hpr : Preds md ops (fun j => listed.getD j false) i := by
      intro o' ho' e he hb
      obtain rfl : o = o' := Option.some.inj (ho.symm.trans ho')
      exact hp e he hb
    refine wpOp_mono (fun a' w' hG' => ?_) (hstep i hil (fun j => listed.getD j false) a w ?_ hpr hcl hG)
    · have e : (fun j => (listed.setIfInBounds i true).getD j false) = fun j => listed.getD j false || j == i := by
          funext j
          by_cases hji : i = j
          · subst hji
            simp [Array.getD_eq_getD_getElem?, Array.getElem?_setIfInBounds, show i < listed.size by omega]
          · rw [getD_set_ne false hji]
            have : (j == i) = false := by simpa using fun h => hji h.symm
            rw [this, Bool.or_false]
      refine ih _ a' w' (by simpa using hs) ?_ (by rw [e]; exact hcl.step hpr) (by rw [e]; exact hG')
      · have := count_set (l := listed.toList) (i := i) (by simpa using (by omega : i < listed.size)) (by simpa using hf)
        rw [Array.toList_setIfInBounds]; omega
    · show listed.getD i false = false
      rw [Array.getD_eq_getD_getElem?, Array.getElem?_eq_getElem (by omega)]
      exact hf
/-- One obligation for an operation. -/
def OpOk (P : Program) (md : Region.Mode) (ops : Array Oper) (Q : Exit → Act → World → Prop) (G : (Nat → Bool) → Act → World → Prop) (i : Nat) : Prop :=
  ∀ (L : Nat → Bool) a w, L i = false → Preds md ops L i → Closed md ops L → G L a w → wpOp P ops Q i (fun a' w' => G (fun j => L j || j == i) a' w') a w
def OpsOk (P : Program) (md : Region.Mode) (ops : Array Oper) (Q : Exit → Act → World → Prop) (G : (Nat → Bool) → Act → World → Prop) : Nat → Prop
  | 0 => True
  | n + 1 => OpsOk P md ops Q G n ∧ OpOk P md ops Q G n
theorem opsOk_spec {G : (Nat → Bool) → Act → World → Prop} : ∀ {n : Nat}, OpsOk P md ops Q G n → ∀ i, i < n → OpOk P md ops Q G i
  | 0, _, i, h => by omega
  | n + 1, h, i, hi => by
    by_cases e : i = n
    · subst e; exact h.2
    · exact opsOk_spec h.1 i (by omega)
theorem opOk_mk {G : (Nat → Bool) → Act → World → Prop} {i : Nat} {o : Oper} (ho : ops[i]? = some o)
    (h : ∀ (L : Nat → Bool) a w, L i = false → Preds md ops L i → Closed md ops L → G L a w → ∀ K : Act → World → Prop, (∀ a' w', G (fun j => L j || j == i) a' w' → K a' w') → if Region.wanted o (yielded ops a.tmps) = true then Oper.wp P o a w K Q else K (a.put o.dst undef) w) : OpOk P md ops Q G i := by
  intro L a w hL hp hcl hG
  have h1 := h L a w hL hp hcl hG (fun a' w' => G (fun j => L j || j == i) a' w') (fun _ _ h => h)
  unfold wpOp
  rw [ho]
  simp only
  split
  · rename_i hw; rw [if_pos hw] at h1; exact .inl h1
  · rename_i hw; rw [if_neg hw] at h1; exact h1
/-- A region by an invariant (G is told the frame and the world ahead of the region). -/
theorem wpAny_good {n : Nat} {a : Act} {w : World} (G : Act → World → (Nat → Bool) → Act → World → Prop) (hn : ops.size = n) (hd : edgesDown md ops = true) (h0 : G a w (fun _ => false) a w) (hs : OpsOk P md ops Q (G a w) n)
    (hdone : ∀ L a' w', (∀ j, j < n → L j = true) → G a w L a' w' → Q .normal a' w') : wpAny P md ops Q n (Array.replicate n false) a w := by
  refine wpAny_good_core hd (G a w) (fun i hi => opsOk_spec hs i (by omega)) (fun L a' w' hall hGL => hdone L a' w' (fun j hj => hall j (by omega)) hGL) n _ a w (by simp [hn]) (by simp) (fun j hj => ?_) ?_
  · simp only [Array.getD_eq_getD_getElem?, Array.getElem?_replicate] at hj
    split at hj <;> simp at hj
  · have e : (fun j => (Array.replicate n false).getD j false) = fun _ => false := by
      funext j
      simp only [Array.getD_eq_getD_getElem?, Array.getElem?_replicate]
      split <;> simp
    rw [e]; exact h0
/-- The slots' values with one turned. -/
def upd (u : Nat → Value) (s : Nat) (v : Value) : Nat → Value := fun k => if k = s then v else u k
theorem getD_set (T : Array Value) (s : Nat) (v : Value) (hs : s < T.size) (k : Nat) : (T.setIfInBounds s v).getD k undef = upd (fun k => T.getD k undef) s v k := by
  unfold upd
  simp only [Array.getD_eq_getD_getElem?, Array.getElem?_setIfInBounds]
  by_cases h : s = k
  · subst h; simp [hs]
  · have h2 : ¬ k = s := fun e => h e.symm
    simp [h, h2]
/-- Every operation's slot is one of these. -/
def dsOk (ops : Array Oper) (ds : List Nat) : Bool := ops.all fun o => match o.dst with | none => true | some s => ds.contains s
/-- One operation, said by the slots' values. -/
def StepOk (P : Program) (md : Region.Mode) (ops : Array Oper) (Q : Exit → Act → World → Prop) (ds : List Nat) (a : Act) (I : (Nat → Value) → (Nat → Bool) → World → Prop) (i : Nat) : Prop :=
  ∀ o, ops[i]? = some o → ∀ (u : Nat → Value) (L : Nat → Bool) (T : Array Value) (w : World), (∀ k, T.getD k undef = u k) → (∀ k, ¬ k ∈ ds → u k = a.tmps.getD k undef) → L i = false → Preds md ops L i → Closed md ops L → I u L w →
    ∀ K : Act → World → Prop, (∀ v w', I (match o.dst with | none => u | some s => upd u s v) (fun j => L j || j == i) w' → K (({ tmps := T, defers := a.defers } : Act).put o.dst v) w') →
      if Region.wanted o (yielded ops T) = true then Oper.wp P o { tmps := T, defers := a.defers } w K Q else K (({ tmps := T, defers := a.defers } : Act).put o.dst undef) w
theorem stepOk_some {ds : List Nat} {a : Act} {I : (Nat → Value) → (Nat → Bool) → World → Prop} {i : Nat} {o : Oper} {s : Nat} (ho : ops[i]? = some o) (hs : o.dst = some s)
    (h : ∀ (u : Nat → Value) (L : Nat → Bool) (T : Array Value) (w : World), (∀ k, T.getD k undef = u k) → (∀ k, ¬ k ∈ ds → u k = a.tmps.getD k undef) → L i = false → Preds md ops L i → Closed md ops L → I u L w →
      ∀ K : Act → World → Prop, (∀ v w', I (upd u s v) (fun j => L j || j == i) w' → K { tmps := T.setIfInBounds s v, defers := a.defers } w') →
        if Region.wanted o (yielded ops T) = true then Oper.wp P o { tmps := T, defers := a.defers } w K Q else K { tmps := T.setIfInBounds s undef, defers := a.defers } w) : StepOk P md ops Q ds a I i := by
  intro o' ho' u L T w h1 h2 h3 h4 h5 h6 K hK
  obtain rfl : o = o' := Option.some.inj (ho.symm.trans ho')
  rw [hs] at hK ⊢
  exact h u L T w h1 h2 h3 h4 h5 h6 K hK
theorem stepOk_none {ds : List Nat} {a : Act} {I : (Nat → Value) → (Nat → Bool) → World → Prop} {i : Nat} {o : Oper} (ho : ops[i]? = some o) (hs : o.dst = none)
    (h : ∀ (u : Nat → Value) (L : Nat → Bool) (T : Array Value) (w : World), (∀ k, T.getD k undef = u k) → (∀ k, ¬ k ∈ ds → u k = a.tmps.getD k undef) → L i = false → Preds md ops L i → Closed md ops L → I u L w →
      ∀ K : Act → World → Prop, (∀ w', I u (fun j => L j || j == i) w' → K { tmps := T, defers := a.defers } w') →
        if Region.wanted o (yielded ops T) = true then Oper.wp P o { tmps := T, defers := a.defers } w K Q else K { tmps := T, defers := a.defers } w) : StepOk P md ops Q ds a I i := by
  intro o' ho' u L T w h1 h2 h3 h4 h5 h6 K hK
  obtain rfl : o = o' := Option.some.inj (ho.symm.trans ho')
  rw [hs] at hK ⊢
  exact h u L T w h1 h2 h3 h4 h5 h6 K (fun w' hw' => hK undef w' hw')
def StepsOk (P : Program) (md : Region.Mode) (ops : Array Oper) (Q : Exit → Act → World → Prop) (ds : List Nat) (a : Act) (I : (Nat → Value) → (Nat → Bool) → World → Prop) : Nat → Prop
  | 0 => True
  | n + 1 => StepsOk P md ops Q ds a I n ∧ StepOk P md ops Q ds a I n
theorem stepsOk_spec {ds : List Nat} {a : Act} {I : (Nat → Value) → (Nat → Bool) → World → Prop} : ∀ {n : Nat}, StepsOk P md ops Q ds a I n → ∀ i, i < n → StepOk P md ops Q ds a I i
  | 0, _, i, h => by omega
  | n + 1, h, i, hi => by
    by_cases e : i = n
    · subst e; exact h.2
    · exact stepsOk_spec h.1 i (by omega)
/-- The frame behind the region. -/
def fill (A : Array Value) (u : Nat → Value) : List Nat → Array Value
  | [] => A
  | d :: ds => fill (A.setIfInBounds d (u d)) u ds
theorem fill_get (u : Nat → Value) : ∀ (ds : List Nat) (A : Array Value) (k : Nat), (fill A u ds)[k]? = if k < A.size ∧ k ∈ ds then some (u k) else A[k]?
  | [], A, k => by simp [fill]
  | d :: ds, A, k => by
    rw [fill, fill_get u ds, Array.size_setIfInBounds, Array.getElem?_setIfInBounds]
    by_cases hk : k < A.size
    · by_cases hd : d = k
      · subst hd; by_cases hm : d ∈ ds <;> simp [hk, hm]
      · have h2 : ¬ k = d := fun e => hd e.symm
        by_cases hm : k ∈ ds <;> simp [hk, hm, hd, h2]
    · by_cases hd : d = k
      · subst hd; simp [hk]
      · simp [hk, hd]
theorem fill_eq {A T : Array Value} {ds : List Nat} (hs : T.size = A.size) (h : ∀ k, ¬ k ∈ ds → T[k]? = A[k]?) : T = fill A (fun k => T.getD k undef) ds := by
  refine Array.ext_getElem? fun k => ?_
  rw [fill_get]
  split
  · rename_i hk
    rw [Array.getD_eq_getD_getElem?, Array.getElem?_eq_getElem (by omega)]
    rfl
  · rename_i hk
    by_cases hm : k ∈ ds
    · have h1 : ¬ k < A.size := fun e => hk ⟨e, hm⟩
      rw [Array.getElem?_eq_none (by omega), Array.getElem?_eq_none (by omega)]
    · exact h k hm
/-- A REGION BY AN INVARIANT OF ITS SLOTS' VALUES AND THE WORLD. -/
theorem wpAny_inv {n : Nat} {a : Act} {w : World} (ds : List Nat) (I : (Nat → Value) → (Nat → Bool) → World → Prop) (hn : ops.size = n) (hd : edgesDown md ops = true) (hds : dsOk ops ds = true) (hsz : (ds.all fun s => decide (s < a.tmps.size)) = true)
    (h0 : I (fun k => a.tmps.getD k undef) (fun _ => false) w) (hs : StepsOk P md ops Q ds a I n)
    (hdone : ∀ u L w', (∀ j, j < n → L j = true) → (∀ k, ¬ k ∈ ds → u k = a.tmps.getD k undef) → I u L w' → Q .normal { tmps := fill a.tmps u ds, defers := a.defers } w') : wpAny P md ops Q n (Array.replicate n false) a w := by
  have hall := List.all_eq_true.1 hsz
  refine wpAny_good (fun a0 w0 L a' w' => ∃ T, a' = { tmps := T, defers := a.defers } ∧ T.size = a.tmps.size ∧ (∀ k, ¬ k ∈ ds → T[k]? = a.tmps[k]?) ∧ I (fun k => T.getD k undef) L w') hn hd ⟨a.tmps, rfl, rfl, fun _ _ => rfl, h0⟩ ?_ ?_
  · suffices hh : ∀ i, i < n → OpOk P md ops Q (fun L a' w' => ∃ T, a' = { tmps := T, defers := a.defers } ∧ T.size = a.tmps.size ∧ (∀ k, ¬ k ∈ ds → T[k]? = a.tmps[k]?) ∧ I (fun k => T.getD k undef) L w') i by
      have hh2 : ∀ m, m ≤ n → OpsOk P md ops Q (fun L a' w' => ∃ T, a' = { tmps := T, defers := a.defers } ∧ T.size = a.tmps.size ∧ (∀ k, ¬ k ∈ ds → T[k]? = a.tmps[k]?) ∧ I (fun k => T.getD k undef) L w') m := by
        intro m
        induction m with
        | zero => intro _; trivial
        | succ m ih => intro hm; exact ⟨ih (by omega), hh m (by omega)⟩
      exact hh2 n (Nat.le_refl _)
    intro i hi
    have ho : ops[i]? = some (ops[i]'(by omega)) := Array.getElem?_eq_getElem (by omega)
    refine opOk_mk ho ?_
    rintro L a' w' hL hp hcl ⟨T, rfl, hT1, hT2, hI⟩ K hK
    refine stepsOk_spec hs i hi _ ho (fun k => T.getD k undef) L T w' (fun _ => rfl) (fun k hk => ?_) hL hp hcl hI K (fun v w'' hI' => ?_)
    · simp only [Array.getD_eq_getD_getElem?, hT2 k hk]
    · refine hK _ _ ?_
      have hm : match (ops[i]'(by omega)).dst with | none => True | some s => s ∈ ds := by
        have := (Array.all_eq_true_iff_forall_mem.1 hds) (ops[i]'(by omega)) (Array.getElem_mem _)
        revert this
        cases (ops[i]'(by omega)).dst with
        | none => intro _; trivial
        | some s => intro h; simpa using h
      revert hI' hm
      cases (ops[i]'(by omega)).dst with
      | none => intro hI' _; exact ⟨T, rfl, hT1, hT2, hI'⟩
      | some s =>
        intro hI' hm
        have hsl : s < T.size := by rw [hT1]; exact of_decide_eq_true (hall s hm)
        refine ⟨T.setIfInBounds s v, rfl, by simpa using hT1, fun k hk => ?_, ?_⟩
        · rw [Array.getElem?_setIfInBounds_ne (fun e => by subst e; exact hk hm)]
          exact hT2 k hk
        · have e : (fun k => (T.setIfInBounds s v).getD k undef) = upd (fun k => T.getD k undef) s v := by
            funext k; exact getD_set T s v hsl k
          rw [e]; exact hI'
  · rintro L a' w' hL ⟨T, rfl, hT1, hT2, hI⟩
    have := hdone (fun k => T.getD k undef) L w' hL (fun k hk => by simp only [Array.getD_eq_getD_getElem?, hT2 k hk]) hI
    rw [← fill_eq hT1 hT2] at this
    exact this
end
end Go.Proofs.YtjbobblnicnhnaaDoor
