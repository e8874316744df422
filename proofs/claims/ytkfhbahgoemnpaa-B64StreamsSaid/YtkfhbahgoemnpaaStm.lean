/-
  bytes.Clone, ref01.Flip, b64.Stream's Write and Close.
-/
import Derived.Maps.AppendAt
import Derived.Test.YtkfhbahgoemnpaaRows
import Derived.Test.YtkfhbahgoemnpaaLng
import Derived.Test.YtkfhbahgoemnpaaCod
import Derived.Test.YtkfhbahgoemnpaaRt
namespace Go.Proofs.Ytkfhbahgoemnpaa
open Go.RowKit Go.Maps
set_option linter.unusedVariables false
set_option linter.unusedSimpArgs false

/-- 'append(s, x...)', s the call's own: the block of what comes is s's own, or new. -/
theorem wpList_more_at {P : Program} {w : World} {ops : Array Oper} {rest : List Oper} {o : Oper} {a : Act} {Q : Exit → Act → World → Prop} (base : Nat) (hgd : o.guard = none) (s x : Operand) (t e : TypeId)
    (ho : o.op = .call { callee := .builtin .append, args := #[s, x], argTypes := #[t, t] }) (ht : P.underlying t = some (.slice e))
    {z : Value} {bytes : Nat} (hinfo : (P.info? e).map (fun i => (i.zero, i.size, i.bytes)) = some (some z, 1, bytes)) (hz : z.cells.size = 1) (hb : bytes ≤ 1000)
    {v : Value} {n : Nat} {xs : List Value} (hown : w.ownsRow base e 1 v n xs) {u : Value} {ys : List Value} (hsl : Sl w u ys) (h1c : ∀ y ∈ ys, y.oneCell' = true) (hn : n + ys.length ≤ 100000000) (hbase : base ≤ w.heap.size)
    (hs : a.eval s = v) (hx : a.eval x = u)
    (h : ∀ v' w', w'.ownsRow base e 1 v' (n + ys.length) (xs ++ ys) → w.grownBy w' v.ownBlock → (v'.ownBlock = v.ownBlock ∨ v'.ownBlock = some w.heap.size) → wpList P ops Q rest (a.put o.dst v') w') :
    wpList P ops Q (o :: rest) a w := by
  obtain ⟨i0, hi, hz0, hz1, hz2⟩ := info_parts hinfo
  obtain ⟨ao, cap, rfl, h1, h2, h3, hc⟩ := hsl
  cases ao with
  | none =>
    obtain rfl := h3 rfl
    have h0 : ys.length = 0 := by omega
    obtain rfl := List.eq_nil_of_length_eq_zero h0
    refine wpList_append_own_none hgd s x t ho base e i0 1 ht hi v n xs hs hown hx ?_
    refine h v w (by simpa using hown) ⟨rfl, rfl, rfl, Nat.le_refl _, fun _ _ _ => rfl⟩ (.inl rfl)
  | some ad =>
    refine wpList_append_own_at _ hgd s x t ho base e i0 z 1 bytes ht hi hz0 hz1 hz2 hz (by decide) v n xs hs hown ad ys.length cap ys hx (by simp) (fun j y hj => hc j y hj) h1c (by unfold maxLen; omega) ?_ hbase ?_
    · have : (n + ys.length) * bytes ≤ 100000000 * 1000 := Nat.mul_le_mul hn hb
      omega
    · intro v' w' q1 q2 _ q4
      exact h v' w' q1 q2 q4

set_option maxHeartbeats 400000 in
theorem clone_any (v : Value) (l : List UInt8) (w : World) (hv : SlB w v l) (hn : l.length ≤ 100000) :
    Calls Try.prog 36 #[v] w fun e w' => ∃ v', e = .returned v' ∧ w'.ownsRow w.heap.size 5 1 v' l.length (l.map Byt) ∧ Ext w w' := by
  have hv1 := hv.ext ((Below.refl _ w).alloc (Nat.le_refl _) (.cells #[] 5))
  have ho := own_empty w w.heap.size 5 (Nat.le_refl _)
  obtain ⟨ao, cap, rfl, hcap, hmax, hnil, hcell⟩ := hv
  cases ao with
  | none =>
    obtain rfl := hnil rfl
    have h0 : l = [] := List.eq_nil_of_length_eq_zero (by rw [List.length_map] at hcap; omega)
    subst h0
    clear hv1 ho hcell
    have hq : ∀ W, (binOp .eql 22 (.slice none 0 0) (.slice none 0 0)).run Try.prog W = .ok (.bool true) W := fun W => rfl
    go_enter Try.func36, Try.ntmps36
    go_wp2
    go_ret
    exact ⟨.slice none 0 0, rfl, World.ownsRow_nil _ _ _ _, Below.refl _ _⟩
  | some ad =>
    rw [List.length_map] at hv1
    have Hv := Lib.hid hv1; have Ho := Lib.hid ho; clear hv1 ho hcell hnil
    have hq : ∀ W, (binOp .eql 22 (.slice (some ad) (l.map Byt).length cap) (.slice none 0 0)).run Try.prog W = .ok (.bool false) W := fun W => rfl
    rw [List.length_map] at hq ⊢
    go_enter Try.func36, Try.ntmps36
    go_wp2_with (at_builtin; refine wpList_more w.heap.size rfl _ _ 22 5 rfl Try.underlying22 infoByte rfl (by omega) Ho.out Hv.out (byt_one l) (by simp; omega) (by simp) rfl rfl ?_; rintro v' w1 hown1 hgr1)
    go_ret
    rw [List.length_map, Nat.zero_add, List.nil_append] at hown1
    exact ⟨_, rfl, hown1, ((Below.refl _ w).alloc (Nat.le_refl _) _).grown hgr1 (by simp) (by simp [Value.ownBlock])⟩

set_option maxHeartbeats 400000 in
theorem flip_any (v : Value) (l : List UInt8) (B : Nat) (w : World) (hv : w.ownsRow B 5 1 v l.length (l.map Byt)) (hn : l.length ≤ 100000) :
    Calls Try.prog 15 #[v] w fun e w' => e = .returned (.tuple #[]) ∧ Chg (fun k => v.ownBlock = some k) w w' := by
  rcases hv.2 with ⟨hve, h0⟩ | ⟨g, cap, cur, hve, _, hg, hcap, hmax, hsz, htk⟩
  · subst hve
    have hl0 : l = [] := List.eq_nil_of_length_eq_zero h0
    subst hl0
    clear hv h0
    go_enter Try.func15, Try.ntmps15
    go_wp2
    go_loop [5] (fun i => i = .int .i64 0) (fun _ => 0)
    case atStart => rfl
    case round =>
      subst hrel
      go_wp2
      go_end0
      exact ⟨rfl, Chg.refl _ _⟩
  · subst hve
    have hix := run_index_adr (P := Try.prog) Try.underlying22 Try.sizeOf5 (ao := some ⟨g, 0, none⟩) (n := l.length) (cap := cap) (by simp) hcap
    simp only [adr_some, Nat.zero_add] at hix
    have hcell : ∀ j, j < l.length → cur[j]? = some (Byt (bt l j)) := fun j hj => by
      have h1 := byt_map l j hj
      rw [← htk, List.getElem?_take, Nat.mul_one, if_pos hj] at h1
      simpa using h1
    have HC := Lib.hid hcell; have HG := Lib.hid hg
    clear hv hcell htk hg
    generalize l.length = n at *
    go_enter Try.func15, Try.ntmps15
    go_wp2
    go_loopw [5] (fun i wr => ∃ k : Nat, k ≤ n ∧ i = .int .i64 k ∧ (∃ c2, wr.heap[g]? = some (.cells c2 5 (0, 0)) ∧ ∀ j, k ≤ j → j < n → c2[j]? = some (Byt (bt l j))) ∧ Chg (fun k => k = g) w wr) (fun i _ => n - (intOf i).toNat)
    case atStart => exact ⟨0, by omega, rfl, ⟨cur, HG.out, fun j _ hj => HC.out j hj⟩, Chg.refl _ _⟩
    case round =>
      obtain ⟨k, hk, rfl, ⟨c2, hg2, hc2⟩, hch⟩ := hrel
      by_cases h3 : k < n
      · have h4 := hc2 k (Nat.le_refl _) h3
        have hck : wr.cell? ⟨g, k, none⟩ = some (Byt (bt l k)) := by simp [World.cell?, hg2, h4]
        have hfr : wr.frozen? ⟨g, k, none⟩ = false := by simp [World.frozen?, hg2]
        have hb := (bt l k).toNat_lt
        have H2 := Lib.hid (show _ ∧ _ from ⟨hg2, hc2⟩)
        clear hg2 hc2 h4
        generalize bt l k = c at *
        go_wp2
        refine ⟨⟨k + 1, by omega, by first | go_num | omega, ⟨c2.setIfInBounds k (.int .u8 (bits .xor .u8 (c.toNat : Int) 90)), ?_, fun j h1 h2 => ?_⟩, hch.trans (Chg.setCell wr ⟨g, k, none⟩ _)⟩, by simp [intOf] <;> omega⟩
        · simp [World.setCell, Array.getElem?_modify, H2.out.1]
        · rw [Array.getElem?_setIfInBounds_ne (by omega)]
          exact H2.out.2 j (by omega) h2
      · go_wp2
        go_end0
        exact ⟨rfl, hch.mono fun k h => by simp [Value.ownBlock, h]⟩

/-- The bytes of whole triples. -/
def whole (l : List UInt8) : Nat := l.length / 3 * 3
theorem sl_head {w : World} {ao : Option Addr} {n cap k : Nat} {l m : List Value} (h : Sl w (.slice ao n cap) l) (hk : k ≤ l.length) (hm : m = l.take k) : Sl w (.slice ao k cap) m := by
  obtain ⟨ao', cap', hve, h1, h2, h3, hc⟩ := h
  cases hve
  subst hm
  have hlen : (l.take k).length = k := by simp; omega
  refine ⟨ao, cap, by rw [hlen], by omega, h2, h3, fun j u hu => hc j u ?_⟩
  rw [List.getElem?_take] at hu
  split at hu
  · exact hu
  · cases hu
/-- Only blocks of S turn. -/
structure Ch (S : Nat → Prop) (A C : World) : Prop where
  os : C.os = A.os
  tape : C.tape = A.tape
  output : C.output = A.output
  size : A.heap.size ≤ C.heap.size
  block : ∀ k, k < A.heap.size → ¬ S k → C.heap[k]? = A.heap[k]?
theorem Ch.trans {S : Nat → Prop} {A B C : World} (h : Ch S A B) (k : Ch S B C) : Ch S A C :=
  ⟨k.os.trans h.os, k.tape.trans h.tape, k.output.trans h.output, Nat.le_trans h.size k.size, fun i hi hs => (k.block i (Nat.lt_of_lt_of_le hi h.size) hs).trans (h.block i hi hs)⟩
theorem Ch.mono {S T : Nat → Prop} {A C : World} (h : Ch S A C) (hs : ∀ k, S k → T k) : Ch T A C := ⟨h.os, h.tape, h.output, h.size, fun k hk ht => h.block k hk (fun hS => ht (hs k hS))⟩
theorem Ch.of_ext {w w' : World} (S : Nat → Prop) (h : Ext w w') : Ch S w w' := ⟨h.os, h.tape, h.output, h.size, fun k hk _ => h.block k hk⟩
theorem Ch.of_grown {w w' : World} {row : Option Nat} (h : w.grownBy w' row) : Ch (fun k => row = some k) w w' := ⟨h.os, h.tape, h.output, h.size, fun k hk hs => h.block k hk (fun e => hs e.symm)⟩
theorem Chg.ch {S : Nat → Prop} {A C : World} (h : Chg S A C) : Ch S A C := ⟨h.os, h.tape, h.output, h.size, h.block⟩
theorem Ch.below {B : Nat} {S : Nat → Prop} {w A C : World} (h : Below B w A) (hc : Ch S A C) (hs : ∀ k, S k → B ≤ k) (hB : B ≤ w.heap.size) : Below B w C :=
  ⟨hc.os.trans h.os, hc.tape.trans h.tape, hc.output.trans h.output, Nat.le_trans h.size hc.size, fun k hk => (hc.block k (by have := h.size; omega) (fun hS => by have := hs k hS; omega)).trans (h.block k hk)⟩
theorem own_ch {B e : Nat} {S : Nat → Prop} {A C : World} {v : Value} {n : Nat} {xs : List Value} (h : A.ownsRow B e 1 v n xs) (hc : Ch S A C) (hs : ∀ k, v.ownBlock = some k → ¬ S k) : C.ownsRow B e 1 v n xs :=
  own_keep h fun g hg _ hk => hc.block g (kind_lt hk) (hs g hg)

set_option maxHeartbeats 1000000 in
theorem sWrite_any (b B : Nat) (v p : Value) (r l : List UInt8) (w : World) (hb : w.heap[b]? = some (.cells #[v] 31 (0, 0))) (hbB : b < B) (hBw : B ≤ w.heap.size)
    (hown : w.ownsRow B 5 1 v r.length (r.map Byt)) (hp : SlB w p l) (hr : r.length ≤ 1000) (hl : l.length ≤ 1000) :
    Calls Try.prog 14 #[.pointer (some ⟨b, 0, none⟩), p] w fun e w' => e = .returned (Str (allL plain true ((r ++ l).take (whole (r ++ l))))) ∧
      ∃ v', w'.heap[b]? = some (.cells #[v'] 31 (0, 0)) ∧ w'.ownsRow B 5 1 v' ((r ++ l).drop (whole (r ++ l))).length (((r ++ l).drop (whole (r ++ l))).map Byt) ∧
        (∀ k, v'.ownBlock = some k → w.heap.size ≤ k) ∧ Ch (fun k => k = b ∨ v.ownBlock = some k) w w' := by
  have hbs := (Array.getElem?_eq_some_iff.1 hb).1
  have hvb : ∀ k, v.ownBlock = some k → B ≤ k := fun k hk => (hown.lt k hk).1
  have hc0 := cell_of hb
  have HB := Lib.hid hb; have HO := Lib.hid hown; have HP := Lib.hid hp; have HV := Lib.hid hvb
  clear hb hown hp hvb
  obtain ⟨t, ht⟩ : ∃ t, t = r ++ l := ⟨_, rfl⟩
  have htl : t.length ≤ 2000 := by rw [ht, List.length_append]; omega
  have hw3 : whole t = t.length / 3 * 3 := rfl
  rw [← ht]
  have HT := Lib.hid ht; clear ht
  have Hw3 := Lib.hid hw3; clear hw3
  go_enter Try.func14, Try.ntmps14
  go_wp2_with (first
    | (at_builtin; refine wpList_more B rfl _ _ 22 5 rfl Try.underlying22 infoByte rfl (by omega) HO.out HP.out (byt_one _) (by simp; omega) hBw rfl rfl ?_; rintro v1 w1 hown1 hgr1; rw [← List.map_append, List.length_map, ← List.length_append, ← HT.out] at hown1; obtain ⟨ao, cap, hv1, hcap, hnil⟩ := own_form'' hown1; subst hv1; have hcb := cell_of ((hgr1.block b hbs (fun e => by have := HV.out b e.symm; omega)).trans HB.out); have hfb := frozen_of ((hgr1.block b hbs (fun e => by have := HV.out b e.symm; omega)).trans HB.out); have HG := Lib.hid hgr1; have HO1 := Lib.hid hown1; clear hown1 hgr1)
    | fail)
  obtain ⟨W2, hW2⟩ : ∃ W2, w1.setCell ⟨b, 0, none⟩ (.slice ao t.length cap) = W2 := ⟨_, rfl⟩
  have hch2 : Chg (fun k => k = b) w1 W2 := by rw [← hW2]; exact Chg.setCell w1 ⟨b, 0, none⟩ _
  have hb2 : W2.heap[b]? = some (.cells #[.slice ao t.length cap] 31 (0, 0)) := by rw [← hW2]; exact one_setCell ((HG.out.block b hbs (fun e => by have := HV.out b e.symm; omega)).trans HB.out)
  have ho2 : W2.ownsRow B 5 1 (.slice ao t.length cap) t.length (t.map Byt) := own_keep HO1.out fun g hg _ hk => hch2.block g (kind_lt hk) (fun e => by have := (HO1.out.lt g hg).1; omega)
  rw [hW2]
  clear hW2
  have hkt : whole t ≤ t.length := by rw [Hw3.out]; omega
  rw [show t.length / 3 * 3 = whole t from rfl]
  have hE := Encode_any (.slice ao (whole t) cap) (t.take (whole t)) W2 (sl_head (sl_of_own ho2) (by simpa using hkt) (by rw [List.map_take])) (by simp; omega)
  refine hE.mono ?_
  rintro e W3 ⟨he, hx3⟩
  subst he
  have hc3 := cell_of ((hx3.block b (Array.getElem?_eq_some_iff.1 hb2).1).trans hb2)
  have hs3 := ((sl_of_own ho2).ext hx3).resl (k := whole t) (by simpa using hkt)
  rw [← List.map_drop] at hs3
  have hrun2 : ∀ W, (Instr.slice 22 (.slice ao t.length cap) (some (.int .i64 ((t.length : Int) / 3 * 3))) none none).run Try.prog W = .ok (resl (.slice ao t.length cap) (whole t)) W := fun W => by
    have := run_resl (P := Try.prog) Try.underlying22 Try.sizeOf5 (ao := ao) (n := t.length) (cap := cap) W (whole t) hkt
    rwa [show ((whole t : Nat) : Int) = (t.length : Int) / 3 * 3 by rw [Hw3.out]; omega] at this
  obtain ⟨v4, hv4⟩ : ∃ v, resl (.slice ao t.length cap) (whole t) = v := ⟨_, rfl⟩
  rw [hv4] at hrun2 hs3
  obtain ⟨u, hu⟩ : ∃ u, u = t.drop (whole t) := ⟨_, rfl⟩
  have hul : u.length ≤ 2000 := by rw [hu]; simp; omega
  rw [← hu] at hs3
  have HU := Lib.hid hu; clear hu
  have H3 := Lib.hid hs3; have HO2 := Lib.hid ho2; have HB2 := Lib.hid hb2
  clear hs3 hv4 ho2 hb2 hE hcb hfb
  go_wp2_with fail
  refine (clone_any v4 u W3 H3.out (by omega)).mono ?_
  rintro e W4 ⟨v5, he, ho4, hx4⟩
  subst he
  obtain ⟨ao5, cap5, hv5, _, _⟩ := own_form'' ho4
  subst hv5
  have hb4 := (hx4.block b (by have := (Array.getElem?_eq_some_iff.1 HB2.out).1; have := hx3.size; omega)).trans ((hx3.block b (Array.getElem?_eq_some_iff.1 HB2.out).1).trans HB2.out)
  have hc4 := cell_of hb4; have hf4 := frozen_of hb4
  have HB4 := Lib.hid hb4; have HO4 := Lib.hid ho4
  clear hb4 ho4
  go_wp2_with fail
  go_ret
  have hz1 := HG.out.size; have hz2 := hch2.size; have hz3 := hx3.size; have hz4 := hx4.size
  rw [← HU.out]
  refine ⟨rfl, _, one_setCell HB4.out, ?_, fun k hk => by have := (HO4.out.lt k hk).1; omega, ?_⟩
  · exact own_keep (own_base HO4.out (by omega)) fun g hg _ hk => (Chg.setCell W4 ⟨b, 0, none⟩ _).block g (kind_lt hk) (fun e => by have := (HO4.out.lt g hg).1; simp at e; omega)
  · exact ((((Ch.of_grown HG.out).mono fun k h => Or.inr h).trans (hch2.ch.mono fun k h => Or.inl h)).trans ((Ch.of_ext _ hx3).trans (Ch.of_ext _ hx4))).trans ((Chg.setCell W4 ⟨b, 0, none⟩ _).ch.mono fun k h => Or.inl h)

set_option maxHeartbeats 400000 in
theorem sClose_any (b B : Nat) (v : Value) (r : List UInt8) (w : World) (hb : w.heap[b]? = some (.cells #[v] 31 (0, 0))) (hown : w.ownsRow B 5 1 v r.length (r.map Byt)) (hr : r.length ≤ 1000) :
    Calls Try.prog 17 #[.pointer (some ⟨b, 0, none⟩)] w fun e w' => e = .returned (Str (allL plain true r)) ∧ w'.heap[b]? = some (.cells #[.slice none 0 0] 31 (0, 0)) ∧ Ch (fun k => k = b) w w' := by
  have hbs := (Array.getElem?_eq_some_iff.1 hb).1
  have hc0 := cell_of hb
  have HB := Lib.hid hb; have HO := Lib.hid hown
  clear hb hown
  go_enter Try.func17, Try.ntmps17
  go_wp2_with fail
  refine (Encode_any v r w (sl_of_own HO.out) (by omega)).mono ?_
  rintro e W1 ⟨he, hx⟩
  subst he
  have hb1 := (hx.block b hbs).trans HB.out
  have hc1 := cell_of hb1; have hf1 := frozen_of hb1
  have HB1 := Lib.hid hb1; clear hb1
  go_wp2_with fail
  go_ret
  exact ⟨rfl, one_setCell HB1.out, (Ch.of_ext _ hx).trans (Chg.setCell W1 ⟨b, 0, none⟩ _).ch⟩
theorem sWrite_nil (p : Value) (w : World) : Calls Try.prog 14 #[.pointer none, p] w fun e w' => e = .returned (Str []) ∧ w' = w := by
  go_enter Try.func14, Try.ntmps14
  go_wp2
  go_ret
  exact ⟨rfl, rfl⟩
theorem sClose_nil (w : World) : Calls Try.prog 17 #[.pointer none] w fun e w' => e = .returned (Str []) ∧ w' = w := by
  go_enter Try.func17, Try.ntmps17
  go_wp2
  go_ret
  exact ⟨rfl, rfl⟩
end Go.Proofs.Ytkfhbahgoemnpaa
