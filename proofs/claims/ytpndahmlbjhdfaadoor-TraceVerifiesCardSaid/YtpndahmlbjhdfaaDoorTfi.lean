/-
  (*trace.Trace).First, Last, Chain; what they are of a nil trace; Add of a nil one; Of.
-/
import Derived.BigGuardPart
import Derived.Test.YtpndahmlbjhdfaaDoorRows
import Derived.Test.YtpndahmlbjhdfaaDoorTco
namespace Go.Proofs.YtpndahmlbjhdfaaDoor
open Go.RowKit
set_option maxRecDepth 100000
attribute [local go_sem] Oper.semAt_some
set_option linter.unusedVariables false
set_option linter.unusedSimpArgs false
theorem agg_u64 : ∀ w, (isAgg 23).run Tryd.prog w = .ok false w := fun w => by simp [isAgg, run_underlying Tryd.underlying23, Result.andThen]
def firstN (es : List Ev) : Nat := match es with | [] => 0 | e :: _ => e.n
set_option maxHeartbeats 2000000 in
theorem first_of (po : Option Addr) (es : List Ev) (hok : ∀ e ∈ es, e.ok) (w : World) (hS : ∀ W, Ext w W → Calls Tryd.prog 14 #[.pointer po, .int .u64 0] W fun e w' => ∃ f, e = .returned f ∧ SeqOf f es W.heap.size w' ∧ Ext W w') :
    Calls Tryd.prog 15 #[.pointer po] w fun e w' => e = .returned (.int .u64 (firstN es : Int)) ∧ Ext w w' := by
  refine (callsIn_wide (n := 5)).1 (callsIn_of_wp_marks Tryd.func15 rfl trivial (wpIn_wide.2 ?_) rfl)
  simp only [Tryd.ntmps15, List.size_toArray, List.length_cons, List.length_nil, Nat.reduceAdd, Nat.reduceSub, Array.replicate_succ, Array.replicate_zero, List.push_toArray, List.append_toArray, List.nil_append, List.cons_append]
  have HS := Lib.hid hS; clear hS
  go_wp2_with fail
  obtain ⟨W0, hW0⟩ : ∃ W0, w.alloc (.cells #[.int .u64 0] 23) = W0 := ⟨_, rfl⟩
  have hx0 : Ext w W0 := by rw [← hW0]; exact Below.alloc (Below.refl _ _) (Nat.le_refl _) _
  have hb0 : W0.heap[w.heap.size]? = some (.cells #[.int .u64 0] 23 (0, 0)) := by rw [← hW0]; exact Array.getElem?_push_size
  have hs0 : W0.heap.size = w.heap.size + 1 := by rw [← hW0]; simp
  rw [hW0]
  clear hW0
  refine (HS.out W0 hx0).mono ?_
  rintro e W1 ⟨f, rfl, hsq, hx1⟩
  obtain ⟨gf, lb, own0, own1, rfl, eg, hit, ho0, ho1⟩ := hsq
  have hb1 := ext_at hx1 hb0
  have hx01 := ext_trans hx0 hx1
  have hs1 := hx1.size
  clear hx1 hb0 HS
  go_wp2_with fail
  refine wpIn_wide.1 (wpIn_range4 (n := 5) (P := Tryd.prog) rfl eg hit ho0 (fun k h => (ho1 k h).2)
    (fun o i W => i = 0 ∧ W.heap[w.heap.size]? = some (.cells #[.int .u64 0] 23 (0, 0)) ∧ Below w.heap.size w W ∧ W1.heap.size ≤ W.heap.size)
    (fun o c i W => c = .ret ∧ i = 0 ∧ W.heap[w.heap.size]? = some (.cells #[.int .u64 (firstN es : Int)] 23 (0, 0)) ∧ Below w.heap.size w W) ?_ ?_ ?_ ?_ ?_ ?_)
  · rintro o i A' C ⟨hi, h0, hbel, hsz⟩ hm
    exact ⟨hi, hm.keeps h0 (fun h => h) (by omega), hm.below hbel (fun k hk => hk.elim) (by omega) (Nat.le_refl _), Nat.le_trans hsz hm.size⟩
  · rintro o c i A' C ⟨hc, hi, h0, hbel⟩ hm
    exact ⟨hc, hi, hm.keeps h0 (fun h => h) (by omega), hm.below hbel (fun k hk => hk.elim) (by omega) (Nat.le_refl _)⟩
  · intro o W ho hx
    exact ⟨rfl, ext_at hx hb1, ext_trans hx01 hx, hx.size⟩
  · rintro o m' lp i W args hi ho ⟨rfl, h0, hbel, hsz⟩ hasz hitem hlp hrec
    unfold evItem at hitem
    subst hitem
    have hfn : firstN es = (es.getD 0 evD).n := by cases es <;> rfl
    have hme : es.getD 0 evD ∈ es := by simp [List.getD, hi]
    have heo := hok _ hme
    have HFN := Lib.hid hfn
    clear hfn hme
    generalize es.getD 0 evD = e at *
    obtain ⟨n', tk, kind, conn, text⟩ := e
    obtain ⟨g1, g2, g3, g4, g5, g6⟩ := heo
    simp only at g1 g2 g3 g4 g5 g6 HFN
    simp only [evC]
    gi_wp2
    have hown : ∀ k, o k ∨ own1 k → k ≠ w.heap.size ∧ k < W.heap.size := fun k hk => by
      rcases hk with hk | hk
      · have h1 := ho k hk; exact ⟨by omega, h1.2⟩
      · have := ho1 k hk; exact ⟨by omega, by omega⟩
    refine ⟨Kp.of_ext (Below.alloc (Below.refl _ _) (Nat.le_refl _) _) (fun k hk => (hown k hk).2), fun W2 hm2 hrec2 => ?_⟩
    have hbe : (W.alloc (.cells #[.int .u64 (n' : Int), .int .u64 (tk : Int), Str kind, .int .i64 conn, Str text] 37)).heap[W.heap.size]? = some (.cells #[.int .u64 (n' : Int), .int .u64 (tk : Int), Str kind, .int .i64 conn, Str text] 37 (0, 0)) := Array.getElem?_push_size
    have hxa : Ext W (W.alloc (.cells #[.int .u64 (n' : Int), .int .u64 (tk : Int), Str kind, .int .i64 conn, Str text] 37)) := Below.alloc (Below.refl _ _) (Nat.le_refl _) _
    have he2 : W2.heap[W.heap.size]? = some (.cells #[.int .u64 (n' : Int), .int .u64 (tk : Int), Str kind, .int .i64 conn, Str text] 37 (0, 0)) := (hm2.block _ (Array.getElem?_eq_some_iff.1 hbe).1 (fun h => h) (.inr ⟨_, kind_of_cells hbe⟩)).trans hbe
    have hb2 := hm2.keeps (ext_at hxa h0) (fun h => h) (by omega)
    have hw2 : Below w.heap.size w W2 := hm2.below (hbel.alloc (by omega) _) (fun k hk => hk.elim) (by omega) (Nat.le_refl _)
    have hs2 : W.heap.size + 1 ≤ W2.heap.size := by have := hm2.size; simpa using this
    obtain ⟨e0, e1, e2, e3, e4⟩ := cells5 he2
    have c0 := cell_of hb2; have f0 := frozen_of hb2
    have HB := Lib.hid hb2; have HW := Lib.hid hw2; have HOW := Lib.hid hown
    clear hxa hbe hm2 hb2 he2 hw2 hown hrec hrec2 h0 hbel ho ho0 ho1 hit
    gi_wp2
    have hch := Chg.setCell W2 ⟨w.heap.size, 0, none⟩ (.int .u64 (n' : Int))
    refine ⟨Kp.of_chg hch (fun k hk => ⟨by have := (HOW.out k hk).2; omega, (HOW.out k hk).1⟩) (fun k hk hB _ => ?_), rfl, rfl, by rw [HFN.out]; exact one_setCell HB.out, below_chg HW.out hch (fun k hk => Nat.le_of_eq hk.symm) (Nat.le_refl _)⟩
    have hk' : k = w.heap.size := hk
    omega
  · rintro o D W hD ⟨hi, h0, hbel, hsz⟩ hdef
    have hes : es = [] := List.eq_nil_of_length_eq_zero hi
    subst hes
    have c0 := cell_of h0; have f0 := frozen_of h0
    go_wp2
    have hs := one_setCell (u := .int .u64 0) h0
    have hch := Chg.setCell W ⟨w.heap.size, 0, none⟩ (.int .u64 0)
    have hne : D ≠ w.heap.size := by omega
    have hdef2 := (hch.block D (Array.getElem?_eq_some_iff.1 hdef).1 hne).trans hdef
    refine marks_ret_at hdef2 (results_cell1 rfl _ _ _ rfl agg_u64 (cell_of ((World.putObj_heap_other (by omega)).trans hs))) ⟨rfl, below_mark (below_chg hbel hch (fun k hk => Nat.le_of_eq hk.symm) (Nat.le_refl _)) (by omega) hdef2⟩
  · rintro o D c i W hD hi ⟨rfl, rfl, h0, hbel⟩ hdef
    gi_wp2
    refine marks_ret_at hdef (results_cell1 rfl _ _ _ rfl agg_u64 (cell_of ((World.putObj_heap_other (by omega)).trans h0))) ⟨rfl, below_mark hbel (by omega) hdef⟩
theorem first_nil (w : World) : Calls Tryd.prog 15 #[.pointer none] w fun e w' => e = .returned (.int .u64 0) ∧ Ext w w' :=
  first_of none [] (fun e h => by simp at h) w (fun W _ => since_nil 0 (by omega) W)
theorem qSince_zero (es : List Ev) (h : ∀ e ∈ es, 1 ≤ e.n) : es.filter (qSince 0) = es := by
  rw [List.filter_eq_self]
  intro e he
  have := h e he
  unfold qSince
  exact decide_eq_true (by omega)
theorem First_any (B p : Nat) (lv cv : Value) (S : TrS) (hlen : S.evs.length ≤ 1000) (hok : ∀ e ∈ S.evs, e.ok) (h1 : ∀ e ∈ S.evs, 1 ≤ e.n) (w : World) (hp : TrAt B p lv cv S w) :
    Calls Tryd.prog 15 #[.pointer (some ⟨p, 0, none⟩)] w fun e w' => e = .returned (.int .u64 (firstN S.evs : Int)) ∧ Ext w w' := by
  refine first_of _ S.evs hok w (fun W hx => ?_)
  have := since_any 0 (by omega) B p lv cv S hlen hok W (hp.ext hx)
  rw [qSince_zero S.evs h1] at this
  exact this
theorem last_nil (w : World) : Calls Tryd.prog 16 #[.pointer none] w fun e w' => e = .returned (.int .u64 0) ∧ w' = w := by
  go_enter Tryd.func16, Tryd.ntmps16
  go_wp2
  go_ret
  exact ⟨rfl, rfl⟩
theorem Last_any (B p : Nat) (lv cv : Value) (S : TrS) (hla : S.last ≤ 1000000) (w : World) (hp : TrAt B p lv cv S w) : Calls Tryd.prog 16 #[.pointer (some ⟨p, 0, none⟩)] w fun e w' => e = .returned (.int .u64 (S.last : Int)) ∧ w' = w := by
  obtain ⟨d0, d1, d2, d3⟩ := cells4 hp.blk
  clear hp
  go_enter Tryd.func16, Tryd.ntmps16
  go_wp2
  go_ret
  exact ⟨rfl, rfl⟩
theorem chain_nil (w : World) : Calls Tryd.prog 18 #[.pointer none] w fun e w' => e = .returned (.slice none 0 0) ∧ w' = w := by
  go_enter Tryd.func18, Tryd.ntmps18
  go_wp2
  go_ret
  exact ⟨rfl, rfl⟩
theorem Chain_any (B p : Nat) (lv cv : Value) (S : TrS) (hch : S.chain.length = 32) (w : World) (hp : TrAt B p lv cv S w) : Calls Tryd.prog 18 #[.pointer (some ⟨p, 0, none⟩)] w fun e w' => ∃ v', e = .returned v' ∧ OwnB w.heap.size v' S.chain w' ∧ Ext w w' := by
  obtain ⟨d0, d1, d2, d3⟩ := cells4 hp.blk
  have HC := Lib.hid (clone_any cv S.chain w hp.ch.sl (by omega))
  clear hp
  go_enter Tryd.func18, Tryd.ntmps18
  go_wp2_with fail
  refine HC.out.mono ?_
  rintro e w' ⟨v', rfl, ho, hx⟩
  go_wp2
  go_ret
  exact ⟨_, rfl, ho, hx⟩
theorem Add_nil (a : Nat) (ha : a < 18446744073709551616) (k t : List UInt8) (c : Int) (w : World) : Calls Tryd.prog 22 #[.pointer none, .int .u64 (a : Int), Str k, .int .i64 c, Str t] w fun e w' => e = .returned (.tuple #[.int .u64 0, .int .i64 6]) ∧ w' = w := by
  go_enter Tryd.func22, Tryd.ntmps22
  go_wp2
  go_ret2
  exact ⟨rfl, rfl⟩
/-! ### Of -/
theorem bytesK_inj {a b : List UInt8} (h : (⟨a.toArray⟩ : ByteArray) = ⟨b.toArray⟩) : a = b := by
  have h1 := congrArg (fun x : ByteArray => x.data.toList) h
  simpa using h1
theorem containsS_eq (ks : List (List UInt8)) (x : List UInt8) : Lib.containsS (ks.map fun k => (⟨k.toArray⟩ : ByteArray)) ⟨x.toArray⟩ = ks.contains x := by
  rw [Bool.eq_iff_iff, Lib.containsS_iff, List.contains_iff_mem, List.mem_map]
  constructor
  · rintro ⟨a, ha, h⟩
    exact bytesK_inj h ▸ ha
  · intro h
    exact ⟨x, h, rfl⟩
/-- A row of texts in the block B0. -/
def Kinds (B0 : Nat) (ks : List (List UInt8)) (W : World) : Prop := ∀ j, j < ks.length → W.cell? ⟨B0, 0 + j, none⟩ = some (Str (ks.getD j []))
theorem Kinds.blk {B0 : Nat} {ks : List (List UInt8)} {w W : World} (h : Kinds B0 ks w) (hk : W.heap[B0]? = w.heap[B0]?) : Kinds B0 ks W := by
  intro j hj
  have := h j hj
  unfold World.cell? at this ⊢
  simp only [hk]
  exact this
theorem contains_k (B0 c : Nat) (ks : List (List UInt8)) (x : List UInt8) (hl : ks.length ≤ 100) (W : World) (h : Kinds B0 ks W) :
    Calls Tryd.prog 41 #[.slice (some ⟨B0, 0, none⟩) ks.length c, Str x] W fun e w' => e = .returned (.bool (ks.contains x)) ∧ w' = W := by
  have := Tryd.slices_Contains_string B0 0 ks.length c (ks.map fun k => (⟨k.toArray⟩ : ByteArray)) ⟨x.toArray⟩ W (by simp) (by omega) (by
    intro j hj
    rw [List.length_map] at hj
    rw [h j hj]
    simp [List.getD, hj])
  rw [show (ks.map fun k => (⟨k.toArray⟩ : ByteArray)).take ks.length = ks.map fun k => (⟨k.toArray⟩ : ByteArray) from List.take_of_length_le (by simp), containsS_eq] at this
  exact this
theorem getElem?_push_old {a : Array Obj} {o : Obj} {k : Nat} (h : k < a.size) : (a.push o)[k]? = a[k]? := by
  rw [Array.getElem?_push]
  simp [Nat.ne_of_lt h]
theorem ofFn (ks : List (List UInt8)) (hl : ks.length ≤ 100) (b B0 c : Nat) (w0 : World) (hb : w0.heap[b]? = some (.cells #[.slice (some ⟨B0, 0, none⟩) ks.length c] 83 (0, 0))) (hK : Kinds B0 ks w0) (hB0 : B0 < w0.heap.size) :
    SoFn 40 #[.pointer (some ⟨b, 0, none⟩)] (fun k => k = b ∨ k = B0) (qOf ks) w0 := by
  intro W e hk he
  have hbW := (hk b (.inl rfl)).trans hb
  have cb := cell_of hbW
  have hbl := (Array.getElem?_eq_some_iff.1 hbW).1
  have hx : ∀ o, Ext W (W.alloc o) := fun o => Below.alloc (Below.refl _ _) (Nat.le_refl _) _
  have HX := Lib.hid hx
  have HK := Lib.hid (hK.blk (hk B0 (.inr rfl)))
  have HB0 := Lib.hid (show B0 < W.heap.size from by
    have h1 := hk B0 (.inr rfl)
    rw [Array.getElem?_eq_getElem hB0] at h1
    exact (Array.getElem?_eq_some_iff.1 h1).1)
  clear hB0
  have HQ := Lib.hid (show qOf ks e = ks.contains e.kind from rfl)
  obtain ⟨h1, h2, h3, h4, h5, h6⟩ := he
  clear hb hk hbW hx hK
  obtain ⟨n', tk, kind, conn, text⟩ := e
  simp only at h1 h2 h3 h4 h5 h6 HQ
  simp only [evC]
  show Calls Tryd.prog 40 #[.agg #[.int .u64 (n' : Int), .int .u64 (tk : Int), Str kind, .int .i64 conn, Str text], .pointer (some ⟨b, 0, none⟩)] W _
  go_enter Tryd.func40, Tryd.ntmps40
  go_wp2_with fail
  refine (contains_k B0 c ks kind hl _ (HK.out.blk (getElem?_push_old HB0.out))).mono ?_
  rintro e w' ⟨rfl, rfl⟩
  go_wp2
  go_ret
  exact ⟨by rw [HQ.out, List.contains_eq_mem]; rfl, HX.out _⟩
theorem of_any (ks : List (List UInt8)) (hl : ks.length ≤ 100) (B0 c : Nat) (B p : Nat) (lv cv : Value) (S : TrS) (hlen : S.evs.length ≤ 1000) (hok : ∀ e ∈ S.evs, e.ok) (w : World) (hp : TrAt B p lv cv S w) (hK : Kinds B0 ks w) (hB0 : B0 < w.heap.size) :
    Calls Tryd.prog 20 #[.pointer (some ⟨p, 0, none⟩), .slice (some ⟨B0, 0, none⟩) ks.length c] w fun e w' => ∃ f, e = .returned f ∧ SeqOf f (S.evs.filter (qOf ks)) B0 w' ∧ Ext w w' := by
  have HP := Lib.hid hp; clear hp
  have HK := Lib.hid hK; clear hK
  go_enter Tryd.func20, Tryd.ntmps20
  go_wp2_with fail
  refine (some_any _ _ _ _).mono ?_
  rintro e w' ⟨rfl, rfl⟩
  go_wp2
  go_ret
  obtain ⟨a1, a2, a3, a4, a5⟩ := three_allocs w (.cells #[.slice (some ⟨B0, 0, none⟩) ks.length c] 83) (.cells #[.pointer (some ⟨p, 0, none⟩)] 25) (.cells #[.func (.func 40) #[] #[.pointer (some ⟨w.heap.size, 0, none⟩)]] 79)
  have hlt := (Array.getElem?_eq_some_iff.1 HP.out.blk).1
  refine ⟨_, rfl, ⟨_, _, _, _, rfl, enters_some, some_iter 40 _ enters_of' (qOf ks) (fun k => k = w.heap.size ∨ k = B0) (w.heap.size + 1) (w.heap.size + 2) B p lv cv S hlen hok _ a2 a3 (HP.out.ext a5) (ofFn ks hl w.heap.size B0 c _ a1 (HK.out.blk (a5.block B0 hB0)) (by rw [a4]; omega)) (fun k hk => by rw [a4]; have hk' : k = w.heap.size ∨ k = B0 := hk; omega), fun k hk => ?_, fun k hk => ?_⟩, a5⟩
  · rw [a4]
    rcases hk with rfl | rfl | rfl | hk | hk
    · omega
    · omega
    · omega
    · have := (own_lt HP.out.row hk).2.1; omega
    · have hk' : k = w.heap.size ∨ k = B0 := hk; omega
  · rw [a4]
    rcases hk with rfl | rfl | rfl <;> omega
theorem of_nil (B0 n c : Nat) (w : World) :
    Calls Tryd.prog 20 #[.pointer none, .slice (some ⟨B0, 0, none⟩) n c] w fun e w' => ∃ f, e = .returned f ∧ SeqOf f [] w.heap.size w' ∧ Ext w w' := by
  go_enter Tryd.func20, Tryd.ntmps20
  go_wp2_with fail
  refine (some_any _ _ _ _).mono ?_
  rintro e w' ⟨rfl, rfl⟩
  go_wp2
  go_ret
  obtain ⟨a1, a2, a3, a4, a5⟩ := three_allocs w (.cells #[.slice (some ⟨B0, 0, none⟩) n c] 83) (.cells #[.pointer none] 25) (.cells #[.func (.func 40) #[] #[.pointer (some ⟨w.heap.size, 0, none⟩)]] 79)
  exact ⟨_, rfl, ⟨_, _, _, _, rfl, enters_some, some_nil (w.heap.size + 1) (w.heap.size + 2) _ a2, fun k hk => by rw [a4, hk]; omega, fun k hk => hk.elim⟩, a5⟩
end Go.Proofs.YtpndahmlbjhdfaaDoor
