/-
  slices.AppendSeq, slices.Collect over b64.Groups' iterator.
-/
import Derived.Test.YtkfhbahgoemnpaaDoorRows
import Derived.Test.YtkfhbahgoemnpaaDoorDec
import Derived.Test.YtkfhbahgoemnpaaDoorBridge
namespace Go.Proofs.YtkfhbahgoemnpaaDoor
open Go.RowKit
attribute [local go_sem] Oper.semAt_some
set_option linter.unusedVariables false
set_option linter.unusedSimpArgs false

theorem infoStr : (Tryd.prog.info? 9).map (fun i => (i.zero, i.size, i.bytes)) = some (some (.string ⟨#[]⟩), 1, 16) := by kernel_rfl

/-- A text's pieces. -/
def grpN (m : Nat) (l : List UInt8) (i : Nat) : List (List UInt8) := (List.range i).map fun j => (l.drop (m * j)).take m
def grpL (z : Int) (l : List UInt8) : List (List UInt8) := grpN (gsz z l.length) l (gcnt (gsz z l.length) l.length)
theorem grpN_succ (m : Nat) (l : List UInt8) (i : Nat) : grpN m l (i + 1) = grpN m l i ++ [(l.drop (m * i)).take m] := by simp [grpN, List.range_succ]
theorem grpN_len (m : Nat) (l : List UInt8) (i : Nat) : (grpN m l i).length = i := by simp [grpN]
theorem gcnt_le {m n : Nat} (hm : 0 < m) : gcnt m n ≤ n := by
  rcases Nat.lt_or_ge n (gcnt m n) with h | h
  · have h1 := (gcnt_lt (n := n) n hm).1 h
    have : n ≤ m * n := Nat.le_mul_of_pos_left n hm
    omega
  · exact h
theorem grpL_len (z : Int) (l : List UInt8) : (grpL z l).length ≤ l.length := by
  rw [grpL, grpN_len]; exact gcnt_le (gsz_pos _ _)

/-- All that lay is as it was, but for block b. -/
structure Bx (b : Nat) (w w' : World) : Prop where
  os : w'.os = w.os
  tape : w'.tape = w.tape
  output : w'.output = w.output
  size : w.heap.size ≤ w'.heap.size
  block : ∀ k, k < w.heap.size → k ≠ b → w'.heap[k]? = w.heap[k]?
theorem Bx.of_ext {b : Nat} {w w' : World} (h : Ext w w') : Bx b w w' := ⟨h.os, h.tape, h.output, h.size, fun k hk _ => h.block k hk⟩
theorem Bx.mv {b B : Nat} {mu : Nat → Prop} {w A C : World} (h : Bx b w A) (hm : Mv B mu A C) (h1 : ∀ k, mu k → k = b) (h2 : w.heap.size ≤ B) : Bx b w C :=
  ⟨hm.os.trans h.os, hm.tape.trans h.tape, hm.output.trans h.output, Nat.le_trans h.size hm.size, fun k hk hb =>
    (hm.block k (by have := h.size; omega) (fun h' => hb (h1 k h')) (.inl (by omega))).trans (h.block k hk hb)⟩
theorem Bx.mark {b : Nat} {w W : World} {D : Nat} (h : Bx b w W) (hB : w.heap.size ≤ D) (hD : W.heap[D]? = some (.deferred (some []))) : Bx b w (W.putObj D (.deferred none)) := by
  have hc := Chg.putObj (.deferred none) hD rfl rfl
  exact ⟨hc.os.trans h.os, hc.tape.trans h.tape, hc.output.trans h.output, Nat.le_trans h.size hc.size, fun k hk hb => by
    rw [World.putObj_heap_other (by omega)]; exact h.block k hk hb⟩
theorem Bx.below {b B : Nat} {w0 w w' : World} (h0 : Below B w0 w) (h : Bx b w w') (hb : B ≤ b) (hB : B ≤ w0.heap.size) : Below B w0 w' :=
  ⟨h.os.trans h0.os, h.tape.trans h0.tape, h.output.trans h0.output, Nat.le_trans h0.size h.size, fun k hk => (h.block k (by have := h0.size; omega) (by omega)).trans (h0.block k hk)⟩

/-- One more element in the box at s: what stays. -/
theorem box_push {s : Nat} {e t : TypeId} {W w1 : World} {own : Nat → Prop} {v v' : Value} {n : Nat} {xs xs' : List Value}
    (hbox : W.heap[s]? = some (.cells #[v] t (0, 0))) (hrow0 : W.ownsRow (s + 1) e 1 v n xs) (hrow : w1.ownsRow (s + 1) e 1 v' (n + 1) xs') (hg : W.grownBy w1 v.ownBlock) (ho : ∀ k, own k → k < s) :
    w1.cell? ⟨s, 0, none⟩ = some v ∧ w1.frozen? ⟨s, 0, none⟩ = false ∧ (w1.setCell ⟨s, 0, none⟩ v').heap[s]? = some (.cells #[v'] t (0, 0)) ∧ (w1.setCell ⟨s, 0, none⟩ v').ownsRow (s + 1) e 1 v' (n + 1) xs' ∧
      Kp (s + 1) own W (w1.setCell ⟨s, 0, none⟩ v') ∧ (w1.setCell ⟨s, 0, none⟩ v').os = W.os ∧ (w1.setCell ⟨s, 0, none⟩ v').tape = W.tape ∧ (w1.setCell ⟨s, 0, none⟩ v').output = W.output ∧
      W.heap.size ≤ (w1.setCell ⟨s, 0, none⟩ v').heap.size ∧ ∀ k, k < s → (w1.setCell ⟨s, 0, none⟩ v').heap[k]? = W.heap[k]? := by
  have hs := (Array.getElem?_eq_some_iff.1 hbox).1
  have hlt : ∀ k, v.ownBlock = some k → s + 1 ≤ k := fun k hk => (hrow0.lt k hk).1
  have hlow : ∀ k, k < s + 1 → w1.heap[k]? = W.heap[k]? := fun k hk => hg.block k (by omega) (fun e => by have := hlt k e.symm; omega)
  have e1 := (hlow s (by omega)).trans hbox
  have hc := Chg.setCell w1 ⟨s, 0, none⟩ v'
  have hgs := hg.size
  refine ⟨cell_of e1, frozen_of e1, one_setCell e1, own_keep hrow fun g _ hg' hk => hc.block g (kind_lt hk) (by simp; omega), ?_, hc.os.trans hg.os, hc.tape.trans hg.tape, hc.output.trans hg.output, Nat.le_trans hg.size hc.size, fun k hk => (hc.block k (by omega) (by simp; omega)).trans (hlow k (by omega))⟩
  refine (Kp.of_grown hg (fun k hk => ⟨by have := ho k hk; omega, fun e => by have := hlt k e; have := ho k hk; omega⟩) (fun k hk => ?_)).trans (Kp.of_chg hc (fun k hk => ?_) (fun k hk hB => ?_))
  · rcases hrow0.2 with ⟨hn, _⟩ | ⟨g, cap, cur, hv, _, hgg, _⟩
    · rw [hn] at hk; simp [Value.ownBlock] at hk
    · rw [hv] at hk; simp [Value.ownBlock] at hk; subst hk; exact ⟨_, kind_of_cells hgg⟩
  · have := ho k hk; simp; omega
  · simp at hk; omega

set_option maxHeartbeats 1000000 in
theorem appendSeq_any (l : List UInt8) (z : Int) (bs bz : Nat) (w : World) (hl : l.length ≤ 10000) (hbs : w.heap[bs]? = some (.cells #[Str l] 9 (0, 0))) (hbz : w.heap[bz]? = some (.cells #[.int .i64 z] 3 (0, 0))) :
    Calls Tryd.prog 26 #[.slice none 0 0, .func (.func 27) #[] #[.pointer (some ⟨bs, 0, none⟩), .pointer (some ⟨bz, 0, none⟩)]] w fun e w' =>
      ∃ v, e = .returned v ∧ w'.ownsRow w.heap.size 9 1 v (grpL z l).length ((grpL z l).map Str) ∧ Bx bs w w' := by
  refine (callsIn_wide (n := 5)).1 (callsIn_of_wp_marks Tryd.func26 rfl trivial (wpIn_wide.2 ?_) rfl)
  simp only [Tryd.ntmps26, List.size_toArray, List.length_cons, List.length_nil, Nat.reduceAdd, Nat.reduceSub, Array.replicate_succ, Array.replicate_zero, List.push_toArray, List.append_toArray, List.nil_append, List.cons_append]
  have hs1 := (Array.getElem?_eq_some_iff.1 hbs).1
  have hs2 := (Array.getElem?_eq_some_iff.1 hbz).1
  go_wp2
  obtain ⟨W0, hW0⟩ : ∃ W0, w.alloc (.cells #[.slice none 0 0] 36) = W0 := ⟨_, rfl⟩
  have hW0' : W0 = allocs w [.cells #[.slice none 0 0] 36] := hW0.symm
  have b0 : W0.heap[w.heap.size]? = some (.cells #[.slice none 0 0] 36 (0, 0)) := by rw [hW0']; exact allocs_at w _ 0 _ rfl
  have hext0 : Ext w W0 := by rw [hW0']; exact allocs_ext _ _
  have hsz0 : W0.heap.size = w.heap.size + 1 := by rw [hW0']; exact allocs_size _ _
  rw [hW0]
  clear hW0 hW0'
  have hit := groups_iter l z (by omega) bs bz W0 ((hext0.block bs hs1).trans hbs) ((hext0.block bz hs2).trans hbz)
  have hres := Lib.hid (show grpL z l = grpN (gsz z l.length) l (gcnt (gsz z l.length) l.length) from rfl)
  have hN := gcnt_le (n := l.length) (gsz_pos z l.length)
  generalize gsz z l.length = m at *
  generalize gcnt m l.length = N at *
  refine wpIn_wide.1 (wpIn_range (n := 5) (P := Tryd.prog) rfl (enters_of Tryd.func27 (by kernel_rfl) rfl) hit (fun k h => by omega) (fun k h => by omega) (fun _ => rfl)
    (fun i W => ∃ v, W.heap[w.heap.size]? = some (.cells #[v] 36 (0, 0)) ∧ W.ownsRow (w.heap.size + 1) 9 1 v (grpN m l i).length ((grpN m l i).map Str) ∧ Bx bs w W ∧ w.heap.size + 1 ≤ W.heap.size)
    (fun c i W => False) ?_ (fun _ _ _ _ h _ => h.elim)
    ⟨_, b0, World.ownsRow_nil _ _ _ _, Bx.of_ext hext0, by omega⟩ ?_ ?_ (fun _ _ _ _ _ _ h _ => h.elim))
  · rintro i A' C ⟨v, h0, hown, hbx, hsz⟩ hm
    exact ⟨v, hm.keeps h0 (by omega) (by omega), own_mv hown hm (fun k hk => by omega), hbx.mv hm (fun k hk => hk) (by omega), Nat.le_trans hsz hm.size⟩
  · rintro m' lp i W hi ⟨v, h0, hown, hbx, hsz⟩ hlp hrec
    gi_wp2
    refine ⟨Kp.refl _ _ _, fun W2 hm2 hrec2 => ?_⟩
    replace h0 := hm2.keeps h0 (fun h => h) (by omega)
    replace hown := own_mv hown hm2 (fun k hk => hk.elim)
    replace hbx := hbx.mv hm2 (fun k hk => hk.elim) (by omega)
    replace hsz := Nat.le_trans hsz hm2.size
    clear hm2 hrec hrec2
    have hdn := Lib.hid (grpN_succ m l i)
    have hdl : (grpN m l i).length ≤ 10000 := by rw [grpN_len]; omega
    generalize (l.drop (m * i)).take m = g at *
    have hc0 := cell_of h0
    have H0 := Lib.hid h0; have HO := Lib.hid hown; clear h0 hown
    gi_wp2_with (gi_at_builtin; refine wpListIn_push (w.heap.size + 1) rfl _ _ 36 9 rfl Tryd.underlying36 infoStr rfl (by omega) HO.out _ rfl (by omega) hsz rfl rfl ?_; rintro _ w1 ⟨g1, cap1, rfl⟩ hown1 hgr1; obtain ⟨q1, q2, q3, q4, q5, q6⟩ := box_push (own := fun k => k = bs ∨ k = bz) H0.out HO.out hown1 hgr1 (fun k hk => by omega); clear hown1 hgr1; have Q3 := Lib.hid q3; have Q4 := Lib.hid q4; have Q5 := Lib.hid q5; have Q6 := Lib.hid q6; clear q3 q4 q5 q6)
    obtain ⟨q7, q8, q9, q10, q11⟩ := Q6.out
    refine ⟨hsz0 ▸ Q5.out, _, Q3.out, ?_, ⟨q7.trans hbx.os, q8.trans hbx.tape, q9.trans hbx.output, Nat.le_trans hbx.size q10, fun k hk hb => (q11 k hk).trans (hbx.block k hk hb)⟩, Nat.le_trans hsz q10⟩
    rw [hdn.out, List.length_append, List.map_append]
    exact Q4.out
  · rintro D W hD ⟨v, h0, hown, hbx, hsz⟩ hdef
    have hc0 := cell_of h0
    have HO := Lib.hid hown; clear hown
    go_wp2
    refine marks_ret hdef (results_tmp rfl _ _) ⟨v, rfl, ?_, hbx.mark (by omega) hdef⟩
    rw [hres.out]
    exact own_base (own_put HO.out hdef) (by omega)

theorem collect_any (l : List UInt8) (z : Int) (bs bz : Nat) (w : World) (hl : l.length ≤ 10000) (hbs : w.heap[bs]? = some (.cells #[Str l] 9 (0, 0))) (hbz : w.heap[bz]? = some (.cells #[.int .i64 z] 3 (0, 0))) :
    Calls Tryd.prog 17 #[.func (.func 27) #[] #[.pointer (some ⟨bs, 0, none⟩), .pointer (some ⟨bz, 0, none⟩)]] w fun e w' =>
      ∃ v, e = .returned v ∧ w'.ownsRow w.heap.size 9 1 v (grpL z l).length ((grpL z l).map Str) ∧ Bx bs w w' := by
  have H1 := Lib.hid hbs; have H2 := Lib.hid hbz; clear hbs hbz
  go_enter Tryd.func17, Tryd.ntmps17
  go_wp2_with (go_at_call 26; refine (appendSeq_any l z bs bz _ hl H1.out H2.out).mono ?_; rintro e w' ⟨v, rfl, hown, hbx⟩; have Ho := Lib.hid hown; clear hown)
  go_ret
  exact ⟨v, rfl, Ho.out, hbx⟩
end Go.Proofs.YtkfhbahgoemnpaaDoor
