/-
  slices.Collect of events; what Since, Of, About tell.
-/
import Derived.Test.YtpndahmlbjhdfaaDoorRows
import Derived.Test.YtpndahmlbjhdfaaDoorTrs
import Derived.Test.YtpndahmlbjhdfaaDoorShf
namespace Go.Proofs.YtpndahmlbjhdfaaDoor
open Go.RowKit
set_option maxRecDepth 100000
attribute [local go_sem] Oper.semAt_some
set_option linter.unusedVariables false
set_option linter.unusedSimpArgs false
theorem Iter4.ext {P : Program} {gf : Nat} {lb : Array Value} {N sz : Nat} {item : Nat → Array Value → World → Prop} {own0 own1 : Nat → Prop} {w w' : World} (h : Iter4 P gf lb N sz item own0 own1 w) (hx : Ext w w') (ho : ∀ k, own0 k → k < w.heap.size) : Iter4 P gf lb N sz item own0 own1 w' :=
  fun n l J Jx W hW hsz => h n l J Jx W (fun k hk => (hW k hk).trans (hx.block k (ho k hk))) (Nat.le_trans hx.size hsz)
set_option maxHeartbeats 2000000 in
theorem appendSeq_any (gf : Nat) (lb : Array Value) (eg : ∀ args w, (callFunc gf args).run Tryd.prog w = .ok (.enter gf args) w) (es : List Ev) (hl : es.length ≤ 1000000) (own0 own1 : Nat → Prop) (w : World) (hit : Iter4 Tryd.prog gf lb es.length 1 (evItem es) own0 own1 w) (ho0 : ∀ k, own0 k → k < w.heap.size) (ho1 : ∀ k, own1 k → k < w.heap.size) :
    Calls Tryd.prog 34 #[.slice none 0 0, .func (.func gf) #[] lb] w fun e w' => ∃ v', e = .returned v' ∧ OwnE w.heap.size v' es w' ∧ Ext w w' := by
  refine (callsIn_wide (n := 5)).1 (callsIn_of_wp_marks Tryd.func34 rfl trivial (wpIn_wide.2 ?_) rfl)
  simp only [Tryd.ntmps34, List.size_toArray, List.length_cons, List.length_nil, Nat.reduceAdd, Nat.reduceSub, Array.replicate_succ, Array.replicate_zero, List.push_toArray, List.append_toArray, List.nil_append, List.cons_append]
  have HIT := Lib.hid hit; clear hit
  go_wp2_with fail
  obtain ⟨W0, hW0⟩ : ∃ W0, w.alloc (.cells #[.slice none 0 0] 35) = W0 := ⟨_, rfl⟩
  have hx0 : Ext w W0 := by rw [← hW0]; exact Below.alloc (Below.refl _ _) (Nat.le_refl _) _
  have hb0 : W0.heap[w.heap.size]? = some (.cells #[.slice none 0 0] 35 (0, 0)) := by rw [← hW0]; exact Array.getElem?_push_size
  have hs0 : W0.heap.size = w.heap.size + 1 := by rw [← hW0]; simp
  rw [hW0]
  clear hW0
  refine wpIn_wide.1 (wpIn_range4 (n := 5) (P := Tryd.prog) rfl eg (HIT.out.ext hx0 ho0) (fun k h => by have := ho0 k h; omega) (fun k h => by have := ho1 k h; omega)
    (fun o i W => ∃ v Bx, W.heap[w.heap.size]? = some (.cells #[v] 35 (0, 0)) ∧ W.ownsRow Bx 37 5 v i ((es.take i).flatMap evL) ∧ W0.heap.size ≤ Bx ∧ Bx ≤ W.heap.size ∧ (∀ k, o k → k < Bx) ∧ Below w.heap.size w W)
    (fun o c i W => False) ?_ (fun _ _ _ _ _ h _ => h.elim) ?_ ?_ ?_ (fun _ _ _ _ _ _ _ h _ => h.elim))
  · rintro o i A' C ⟨v, Bx, q1, q2, q3, q4, q5, q6⟩ hm
    exact ⟨v, Bx, hm.keeps q1 (fun h => h) (by omega), ownz_keep q2 fun g _ _ hk => hm.block g (kind_lt hk) (fun h => h) (.inr ⟨_, hk⟩), q3, Nat.le_trans q4 hm.size, q5, hm.below q6 (fun k hk => hk.elim) (by omega) (Nat.le_refl _)⟩
  · intro o W ho hx
    exact ⟨.slice none 0 0, W.heap.size, ext_at hx hb0, World.ownsRow_nil _ _ _ _, hx.size, Nat.le_refl _, fun k hk => (ho k hk).2, ext_trans hx0 hx⟩
  · rintro o m' lp i W args hi ho ⟨v, Bx, q1, q2, q3, q4, q5, q6⟩ hasz hitem hlp hrec
    unfold evItem at hitem
    subst hitem
    have hme : es.getD i evD ∈ es := by simp [List.getD, hi]
    have hnx : (es.take (i + 1)).flatMap evL = (es.take i).flatMap evL ++ evL (es.getD i evD) := by
      have e : es.getD i evD = es[i] := by simp [List.getD, hi]
      rw [List.take_succ_eq_append_getElem hi, List.flatMap_append, List.flatMap_singleton, e]
    have HNX := Lib.hid hnx
    clear hnx hme
    generalize es.getD i evD = e at *
    have hel : evC e = (evL e).toArray := rfl
    obtain ⟨n', tk, kind, conn, text⟩ := e
    simp only [evC]
    have hbl := (Array.getElem?_eq_some_iff.1 q1).1
    clear hel
    gi_wp2
    have hown : ∀ k, o k ∨ own1 k → k < Bx ∧ k ≠ w.heap.size ∧ k < W.heap.size := fun k hk => by
      rcases hk with hk | hk
      · have h1 := ho k hk; have h2 := q5 k hk; exact ⟨h2, by omega, h1.2⟩
      · have := ho1 k hk; exact ⟨by omega, by omega, by omega⟩
    refine ⟨Kp.of_ext (Below.alloc (Below.refl _ _) (Nat.le_refl _) _) (fun k hk => (hown k hk).2.2), fun W2 hm2 hrec2 => ?_⟩
    have hbe : (W.alloc (.cells #[.int .u64 (n' : Int), .int .u64 (tk : Int), Str kind, .int .i64 conn, Str text] 37)).heap[W.heap.size]? = some (.cells #[.int .u64 (n' : Int), .int .u64 (tk : Int), Str kind, .int .i64 conn, Str text] 37 (0, 0)) := Array.getElem?_push_size
    have hxa : Ext W (W.alloc (.cells #[.int .u64 (n' : Int), .int .u64 (tk : Int), Str kind, .int .i64 conn, Str text] 37)) := Below.alloc (Below.refl _ _) (Nat.le_refl _) _
    have kp2 : ∀ (k : Nat) (ob : Obj), (W.alloc (.cells #[.int .u64 (n' : Int), .int .u64 (tk : Int), Str kind, .int .i64 conn, Str text] 37)).heap[k]? = some ob → (∃ e, kind? (W.alloc (.cells #[.int .u64 (n' : Int), .int .u64 (tk : Int), Str kind, .int .i64 conn, Str text] 37)) k = some e) → W2.heap[k]? = some ob := fun k ob h1 h2 => (hm2.block k (Array.getElem?_eq_some_iff.1 h1).1 (fun h => h) (.inr h2)).trans h1
    have hb2 := kp2 _ _ (ext_at hxa q1) ⟨_, kind_of_cells (ext_at hxa q1)⟩
    have he2 := kp2 _ _ hbe ⟨_, kind_of_cells hbe⟩
    have hr2 : W2.ownsRow Bx 37 5 v i ((es.take i).flatMap evL) := ownz_keep (ownz_ext q2 hxa) fun g _ _ hk => hm2.block g (kind_lt hk) (fun h => h) (.inr ⟨_, hk⟩)
    have hs2 : W.heap.size + 1 ≤ W2.heap.size := by have := hm2.size; simpa using this
    have hw2 : Below w.heap.size w W2 := hm2.below (q6.alloc (by omega) _) (fun k hk => hk.elim) (by omega) (Nat.le_refl _)
    have hown2 : ∀ k, o k ∨ own1 k → k < Bx ∧ k ≠ w.heap.size ∧ k < W2.heap.size := fun k hk => ⟨(hown k hk).1, (hown k hk).2.1, by have := (hown k hk).2.2; omega⟩
    have cbx := cell_of hb2
    obtain ⟨e0, e1, e2, e3, e4⟩ := cells5 he2
    have HR := Lib.hid hr2; have HB := Lib.hid hb2; have HW := Lib.hid hw2; have HOW := Lib.hid hown2
    have hB0 : w.heap.size < Bx := by omega
    have hbx2 : Bx ≤ W2.heap.size := by omega
    have hbl2 : w.heap.size < W2.heap.size := by omega
    clear hxa hbe kp2 hm2 hb2 he2 hr2 hw2 hown hown2 q1 q2 q5 q6 hrec hrec2
    gi_wp2_with (gi_at_builtin; refine wpListIn_pushz Bx rfl _ _ 35 37 rfl Tryd.underlying35 infoEv rfl (by omega) (by omega) HR.out [.int .u64 (n' : Int), .int .u64 (tk : Int), Str kind, .int .i64 conn, Str text] rfl (by simp [Str, Value.oneCell']) (by omega) hbx2 rfl rfl ?_; rintro _ w1 ⟨g1, cap1, rfl⟩ hown1 hgr1; obtain ⟨q1, q2, q3, q4, q5, q6, q7, q8, q9⟩ := boxz_push (own := fun k => o k ∨ own1 k) hB0 HB.out HR.out hown1 hgr1 HOW.out; clear hown1 hgr1; have Q3 := Lib.hid q3; have Q4 := Lib.hid q4; have Q5 := Lib.hid q5; have Q6 := Lib.hid q6; have Q7 := Lib.hid q7; have Q8 := Lib.hid q8; clear q3 q4 q5 q6 q7 q8 q9)
    refine ⟨⟨Q5.out.size, Q5.out.own, fun k hk hB hn => ?_⟩, _, Bx, Q3.out, by rw [HNX.out]; exact Q4.out, by omega, Nat.le_trans hbx2 Q7.out, fun k hk => (HOW.out k (.inl hk)).1, Q6.out _ _ (Nat.le_refl _) HW.out⟩
    by_cases hkb : k < Bx
    · exact Q8.out k hkb (fun e => by rw [e, kind_of_cells HB.out] at hn; cases hn) hk
    · exact Q5.out.other k hk (by omega) hn
  · rintro o D W hD ⟨v, Bx, q1, q2, q3, q4, q5, q6⟩ hdef
    have cbx := cell_of q1
    have HQ := Lib.hid (show _ ∧ _ ∧ _ from ⟨q2, q6, hdef⟩)
    clear q2 q5 q6 hdef q1
    go_wp2
    obtain ⟨q2, q6, hdef⟩ := HQ.out
    rw [List.take_length] at q2
    refine marks_ret hdef (results_tmp rfl _ _) ⟨v, rfl, ?_, below_mark q6 (by omega) hdef⟩
    have q7 : OwnE Bx v es W := q2
    refine (q7.base (by omega)).keep fun g hg => World.putObj_heap_other fun e => ?_
    have h1 := (own_lt q7 hg).2.2
    subst e; rw [kind_none hdef rfl] at h1; cases h1
theorem collect_any (gf : Nat) (lb : Array Value) (eg : ∀ args w, (callFunc gf args).run Tryd.prog w = .ok (.enter gf args) w) (es : List Ev) (hl : es.length ≤ 1000000) (own0 own1 : Nat → Prop) (w : World) (hit : Iter4 Tryd.prog gf lb es.length 1 (evItem es) own0 own1 w) (ho0 : ∀ k, own0 k → k < w.heap.size) (ho1 : ∀ k, own1 k → k < w.heap.size) :
    Calls Tryd.prog 13 #[.func (.func gf) #[] lb] w fun e w' => ∃ v', e = .returned v' ∧ OwnE w.heap.size v' es w' ∧ Ext w w' := by
  have H := Lib.hid (appendSeq_any gf lb eg es hl own0 own1 w hit ho0 ho1)
  clear hit
  go_enter Tryd.func13, Tryd.ntmps13
  go_wp2_with fail
  refine H.out.mono ?_
  rintro e w' ⟨v', rfl, ho, hx⟩
  go_wp2
  go_ret
  exact ⟨_, rfl, ho, hx⟩
/-! ### The three functions of events -/
def qSince (n : Nat) (e : Ev) : Bool := decide (n < e.n)
def qAbout (c : Int) (e : Ev) : Bool := decide (e.conn = c)
theorem sinceFn (n : Nat) (hn : n < 18446744073709551616) (b : Nat) (w0 : World) (hb : w0.heap[b]? = some (.cells #[.int .u64 (n : Int)] 23 (0, 0))) :
    SoFn 36 #[.pointer (some ⟨b, 0, none⟩)] (fun k => k = b) (qSince n) w0 := by
  intro W e hk he
  have hbW := (hk b rfl).trans hb
  have cb := cell_of hbW
  have hbl := (Array.getElem?_eq_some_iff.1 hbW).1
  have hx : ∀ o, Ext W (W.alloc o) := fun o => Below.alloc (Below.refl _ _) (Nat.le_refl _) _
  have HX := Lib.hid hx
  have HQ := Lib.hid (show qSince n e = decide (n < e.n) from rfl)
  obtain ⟨h1, h2, h3, h4, h5, h6⟩ := he
  clear hb hk hbW hx
  obtain ⟨n', tk, kind, conn, text⟩ := e
  simp only at h1 h2 h3 h4 h5 h6 HQ
  simp only [evC]
  show Calls Tryd.prog 36 #[.agg #[.int .u64 (n' : Int), .int .u64 (tk : Int), Str kind, .int .i64 conn, Str text], .pointer (some ⟨b, 0, none⟩)] W _
  go_enter Tryd.func36, Tryd.ntmps36
  go_wp2
  go_ret
  exact ⟨by rw [HQ.out]; rfl, HX.out _⟩
theorem aboutFn (c : Int) (h1c : -9223372036854775808 ≤ c) (h2c : c ≤ 9223372036854775807) (b : Nat) (w0 : World) (hb : w0.heap[b]? = some (.cells #[.int .i64 c] 3 (0, 0))) :
    SoFn 42 #[.pointer (some ⟨b, 0, none⟩)] (fun k => k = b) (qAbout c) w0 := by
  intro W e hk he
  have hbW := (hk b rfl).trans hb
  have cb := cell_of hbW
  have hbl := (Array.getElem?_eq_some_iff.1 hbW).1
  have hx : ∀ o, Ext W (W.alloc o) := fun o => Below.alloc (Below.refl _ _) (Nat.le_refl _) _
  have HX := Lib.hid hx
  have HQ := Lib.hid (show qAbout c e = (e.conn == c) by unfold qAbout; rw [Bool.eq_iff_iff]; simp)
  obtain ⟨h1, h2, h3, h4, h5, h6⟩ := he
  clear hb hk hbW hx
  obtain ⟨n', tk, kind, conn, text⟩ := e
  simp only at h1 h2 h3 h4 h5 h6 HQ
  simp only [evC]
  show Calls Tryd.prog 42 #[.agg #[.int .u64 (n' : Int), .int .u64 (tk : Int), Str kind, .int .i64 conn, Str text], .pointer (some ⟨b, 0, none⟩)] W _
  go_enter Tryd.func42, Tryd.ntmps42
  go_wp2
  go_ret
  exact ⟨by rw [HQ.out]; rfl, HX.out _⟩
def qOf (ks : List (List UInt8)) (e : Ev) : Bool := ks.contains e.kind
theorem enters_since : ∀ args w, (callFunc 36 args).run Tryd.prog w = .ok (.enter 36 args) w := enters_of Tryd.func36 (by kernel_rfl) rfl
theorem enters_about : ∀ args w, (callFunc 42 args).run Tryd.prog w = .ok (.enter 42 args) w := enters_of Tryd.func42 (by kernel_rfl) rfl
theorem enters_of' : ∀ args w, (callFunc 40 args).run Tryd.prog w = .ok (.enter 40 args) w := enters_of Tryd.func40 (by kernel_rfl) rfl
theorem enters_some : ∀ args w, (callFunc 61 args).run Tryd.prog w = .ok (.enter 61 args) w := enters_of Tryd.func61 (by kernel_rfl) rfl
theorem some_any (po : Option Addr) (gf : Nat) (lb : Array Value) (w : World) :
    Calls Tryd.prog 35 #[.pointer po, .func (.func gf) #[] lb] w fun e w' => e = .returned (.func (.func 61) #[] #[.pointer (some ⟨w.heap.size, 0, none⟩), .pointer (some ⟨w.heap.size + 1, 0, none⟩)]) ∧ w' = (w.alloc (.cells #[.pointer po] 25)).alloc (.cells #[.func (.func gf) #[] lb] 79) := by
  go_enter Tryd.func35, Tryd.ntmps35
  go_wp2
  go_ret
  exact ⟨rfl, rfl⟩
/-- A function value that tells these events. -/
def SeqOf (f : Value) (es : List Ev) (lo : Nat) (w : World) : Prop :=
  ∃ gf lb own0 own1, f = .func (.func gf) #[] lb ∧ (∀ args w, (callFunc gf args).run Tryd.prog w = .ok (.enter gf args) w) ∧ Iter4 Tryd.prog gf lb es.length 1 (evItem es) own0 own1 w ∧ (∀ k, own0 k → k < w.heap.size) ∧ ∀ k, own1 k → lo ≤ k ∧ k < w.heap.size
theorem collectS_any (f : Value) (es : List Ev) (hl : es.length ≤ 1000000) (lo : Nat) (w : World) (h : SeqOf f es lo w) :
    Calls Tryd.prog 13 #[f] w fun e w' => ∃ v', e = .returned v' ∧ OwnE w.heap.size v' es w' ∧ Ext w w' := by
  obtain ⟨gf, lb, own0, own1, rfl, eg, hit, h0, h1⟩ := h
  exact collect_any gf lb eg es hl own0 own1 w hit h0 (fun k hk => (h1 k hk).2)
set_option maxHeartbeats 1000000 in
theorem some_nil (bx1 bx2 : Nat) (w0 : World) (hb1 : w0.heap[bx1]? = some (.cells #[.pointer none] 25 (0, 0))) :
    Iter4 Tryd.prog 61 #[.pointer (some ⟨bx1, 0, none⟩), .pointer (some ⟨bx2, 0, none⟩)] 0 1 (evItem []) (fun k => k = bx1) (fun _ => False) w0 := by
  intro n lp J Jx W hW hsz hJ hJx hY h0
  have cb1 := cell_of ((hW bx1 rfl).trans hb1)
  have hJ0 := h0 (fun _ => False) W (fun k h => h.elim) (ext_refl W)
  clear hb1 hW hJ hJx hY h0
  refine callsIn_of_wp Tryd.func61 rfl trivial ?_ rfl
  simp only [Tryd.ntmps61, List.size_toArray, List.length_cons, List.length_nil, Nat.reduceAdd, Nat.reduceSub, Array.replicate_succ, Array.replicate_zero, List.push_toArray, List.append_toArray, List.nil_append, List.cons_append]
  gi_wp2
  refine bodyPost_ret (results_none rfl _ _ _) rfl ?_
  exact ⟨⟨_, rfl⟩, (fun _ => False), fun k h => h.elim, .inl hJ0⟩
theorem three_allocs (w : World) (a b c : Obj) : (((w.alloc a).alloc b).alloc c).heap[w.heap.size]? = some a ∧ (((w.alloc a).alloc b).alloc c).heap[w.heap.size + 1]? = some b ∧ (((w.alloc a).alloc b).alloc c).heap[w.heap.size + 2]? = some c ∧ (((w.alloc a).alloc b).alloc c).heap.size = w.heap.size + 3 ∧ Ext w (((w.alloc a).alloc b).alloc c) := by
  have h1 := heap_alloc_new w a
  have h2 := heap_alloc_new (w.alloc a) b
  have h3 := heap_alloc_new ((w.alloc a).alloc b) c
  rw [show (w.alloc a).heap.size = w.heap.size + 1 by simp] at h2
  rw [show ((w.alloc a).alloc b).heap.size = w.heap.size + 2 by simp] at h3
  have x1 : Ext w (w.alloc a) := Below.alloc (Below.refl _ _) (Nat.le_refl _) _
  have x2 : Ext (w.alloc a) ((w.alloc a).alloc b) := Below.alloc (Below.refl _ _) (Nat.le_refl _) _
  have x3 : Ext ((w.alloc a).alloc b) (((w.alloc a).alloc b).alloc c) := Below.alloc (Below.refl _ _) (Nat.le_refl _) _
  exact ⟨ext_at (ext_trans x2 x3) h1, ext_at x3 h2, h3, by simp, ext_trans x1 (ext_trans x2 x3)⟩
theorem since_any (n : Nat) (hn : n < 18446744073709551616) (B p : Nat) (lv cv : Value) (S : TrS) (hlen : S.evs.length ≤ 1000) (hok : ∀ e ∈ S.evs, e.ok) (w : World) (hp : TrAt B p lv cv S w) :
    Calls Tryd.prog 14 #[.pointer (some ⟨p, 0, none⟩), .int .u64 (n : Int)] w fun e w' => ∃ f, e = .returned f ∧ SeqOf f (S.evs.filter (qSince n)) w.heap.size w' ∧ Ext w w' := by
  have HP := Lib.hid hp; clear hp
  go_enter Tryd.func14, Tryd.ntmps14
  go_wp2_with fail
  refine (some_any _ _ _ _).mono ?_
  rintro e w' ⟨rfl, rfl⟩
  go_wp2
  go_ret
  obtain ⟨a1, a2, a3, a4, a5⟩ := three_allocs w (.cells #[.int .u64 (n : Int)] 23) (.cells #[.pointer (some ⟨p, 0, none⟩)] 25) (.cells #[.func (.func 36) #[] #[.pointer (some ⟨w.heap.size, 0, none⟩)]] 79)
  have hlt := (Array.getElem?_eq_some_iff.1 HP.out.blk).1
  refine ⟨_, rfl, ⟨_, _, _, _, rfl, enters_some, some_iter 36 _ enters_since (qSince n) (fun k => k = w.heap.size) (w.heap.size + 1) (w.heap.size + 2) B p lv cv S hlen hok _ a2 a3 (HP.out.ext a5) (sinceFn n hn w.heap.size _ a1) (fun k hk => by rw [hk, a4]; omega), fun k hk => ?_, fun k hk => ?_⟩, a5⟩
  · rw [a4]
    rcases hk with rfl | rfl | rfl | hk | rfl
    · omega
    · omega
    · omega
    · have := (own_lt HP.out.row hk).2.1; omega
    · omega
  · rw [a4]
    rcases hk with rfl | rfl <;> omega
theorem since_nil (n : Nat) (hn : n < 18446744073709551616) (w : World) :
    Calls Tryd.prog 14 #[.pointer none, .int .u64 (n : Int)] w fun e w' => ∃ f, e = .returned f ∧ SeqOf f [] w.heap.size w' ∧ Ext w w' := by
  go_enter Tryd.func14, Tryd.ntmps14
  go_wp2_with fail
  refine (some_any _ _ _ _).mono ?_
  rintro e w' ⟨rfl, rfl⟩
  go_wp2
  go_ret
  obtain ⟨a1, a2, a3, a4, a5⟩ := three_allocs w (.cells #[.int .u64 (n : Int)] 23) (.cells #[.pointer none] 25) (.cells #[.func (.func 36) #[] #[.pointer (some ⟨w.heap.size, 0, none⟩)]] 79)
  exact ⟨_, rfl, ⟨_, _, _, _, rfl, enters_some, some_nil (w.heap.size + 1) (w.heap.size + 2) _ a2, fun k hk => by rw [a4, hk]; omega, fun k hk => hk.elim⟩, a5⟩
theorem about_any (n : Int) (hn : -9223372036854775808 ≤ n ∧ n ≤ 9223372036854775807) (B p : Nat) (lv cv : Value) (S : TrS) (hlen : S.evs.length ≤ 1000) (hok : ∀ e ∈ S.evs, e.ok) (w : World) (hp : TrAt B p lv cv S w) :
    Calls Tryd.prog 21 #[.pointer (some ⟨p, 0, none⟩), .int .i64 n] w fun e w' => ∃ f, e = .returned f ∧ SeqOf f (S.evs.filter (qAbout n)) w.heap.size w' ∧ Ext w w' := by
  have HP := Lib.hid hp; clear hp
  go_enter Tryd.func21, Tryd.ntmps21
  go_wp2_with fail
  refine (some_any _ _ _ _).mono ?_
  rintro e w' ⟨rfl, rfl⟩
  go_wp2
  go_ret
  obtain ⟨a1, a2, a3, a4, a5⟩ := three_allocs w (.cells #[.int .i64 n] 3) (.cells #[.pointer (some ⟨p, 0, none⟩)] 25) (.cells #[.func (.func 42) #[] #[.pointer (some ⟨w.heap.size, 0, none⟩)]] 79)
  have hlt := (Array.getElem?_eq_some_iff.1 HP.out.blk).1
  refine ⟨_, rfl, ⟨_, _, _, _, rfl, enters_some, some_iter 42 _ enters_about (qAbout n) (fun k => k = w.heap.size) (w.heap.size + 1) (w.heap.size + 2) B p lv cv S hlen hok _ a2 a3 (HP.out.ext a5) (aboutFn n hn.1 hn.2 w.heap.size _ a1) (fun k hk => by rw [hk, a4]; omega), fun k hk => ?_, fun k hk => ?_⟩, a5⟩
  · rw [a4]
    rcases hk with rfl | rfl | rfl | hk | rfl
    · omega
    · omega
    · omega
    · have := (own_lt HP.out.row hk).2.1; omega
    · omega
  · rw [a4]
    rcases hk with rfl | rfl <;> omega
theorem about_nil (n : Int) (hn : -9223372036854775808 ≤ n ∧ n ≤ 9223372036854775807) (w : World) :
    Calls Tryd.prog 21 #[.pointer none, .int .i64 n] w fun e w' => ∃ f, e = .returned f ∧ SeqOf f [] w.heap.size w' ∧ Ext w w' := by
  go_enter Tryd.func21, Tryd.ntmps21
  go_wp2_with fail
  refine (some_any _ _ _ _).mono ?_
  rintro e w' ⟨rfl, rfl⟩
  go_wp2
  go_ret
  obtain ⟨a1, a2, a3, a4, a5⟩ := three_allocs w (.cells #[.int .i64 n] 3) (.cells #[.pointer none] 25) (.cells #[.func (.func 42) #[] #[.pointer (some ⟨w.heap.size, 0, none⟩)]] 79)
  exact ⟨_, rfl, ⟨_, _, _, _, rfl, enters_some, some_nil (w.heap.size + 1) (w.heap.size + 2) _ a2, fun k hk => by rw [a4, hk]; omega, fun k hk => hk.elim⟩, a5⟩
end Go.Proofs.YtpndahmlbjhdfaaDoor
