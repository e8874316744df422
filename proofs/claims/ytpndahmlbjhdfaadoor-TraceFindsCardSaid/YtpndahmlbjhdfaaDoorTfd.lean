/-
  TraceFinds: the law's walk (printed by wip/tools/trace_finds.py).
-/
import Derived.BigGuardPart
import Derived.Test.YtpndahmlbjhdfaaDoorRows
import Derived.Test.YtpndahmlbjhdfaaDoorTbu
import Derived.Test.YtpndahmlbjhdfaaDoorTbk
import Derived.Test.YtpndahmlbjhdfaaDoorTeq
import Derived.Test.YtpndahmlbjhdfaaDoorRkn
import Derived.Test.YtpndahmlbjhdfaaDoorTfi
import Derived.Test.YtpndahmlbjhdfaaDoorTgl
import Derived.Test.YtpndahmlbjhdfaaDoorPaw
namespace Go.Proofs.YtpndahmlbjhdfaaDoor
open Go.RowKit
set_option maxRecDepth 100000
attribute [local go_sem] Oper.semAt_some
set_option linter.unusedVariables false
set_option linter.unusedSimpArgs false
theorem own_snoc {B : Nat} {v : Value} {l : List Ev} {e : Ev} {W : World} (h : W.ownsRow B 32 5 v (l.length + 1) (l.flatMap evL ++ evL e)) : OwnF B v (l ++ [e]) W := by
  unfold OwnF
  rw [List.length_append, List.flatMap_append]
  simpa using h
/-- A push to the one row leaves the other, and they lie apart as they did. -/
theorem two_push {B : Nat} {v1 v1' v2 : Value} {l2 : List Ev} {W w1 : World} (h2 : OwnF B v2 l2 W) (hd : ∀ k, v1.ownBlock = some k → v2.ownBlock ≠ some k) (hg : W.grownBy w1 v1.ownBlock)
    (hw : ∀ k, v1'.ownBlock = some k → v1.ownBlock = some k ∨ W.heap.size ≤ k) : OwnF B v2 l2 w1 ∧ (∀ k, v1'.ownBlock = some k → v2.ownBlock ≠ some k) ∧ ∀ k, v2.ownBlock = some k → v1'.ownBlock ≠ some k := by
  have hx : ∀ k, v1'.ownBlock = some k → v2.ownBlock ≠ some k := fun k hk e => by
    rcases hw k hk with h | h
    · exact hd k h e
    · have := (own_lt h2 e).2.1; omega
  refine ⟨h2.keep fun g hg' => hg.block g (own_lt h2 hg').2.1 (fun e => hd g e.symm hg'), hx, fun k hk e => hx k e hk⟩
theorem ext_pushE {B : Nat} {w0 W w1 : World} {v : Value} {l : List Ev} (hB : w0.heap.size = B) (h : Ext w0 W) (ho : OwnF B v l W) (hg : W.grownBy w1 v.ownBlock) : Ext w0 w1 := by
  subst hB; exact ext_pushz h ho hg
theorem qOf_two (one two k : List UInt8) (n tk : Nat) (c : Int) (t : List UInt8) : qOf [one, two] ⟨n, tk, k, c, t⟩ = (k == one || k == two) := by
  rw [Bool.eq_iff_iff]
  simp [qOf, List.contains_cons]

theorem two_allocs (w C : World) (a b : Obj) (h : (w.alloc a).alloc b = C) : C.heap[w.heap.size]? = some a ∧ C.heap[w.heap.size + 1]? = some b ∧ Ext w C := by
  subst h
  have h1 := heap_alloc_new w a
  have h2 := heap_alloc_new (w.alloc a) b
  rw [show (w.alloc a).heap.size = w.heap.size + 1 by simp] at h2
  have x1 : Ext w (w.alloc a) := Below.alloc (Below.refl _ _) (Nat.le_refl _) _
  have x2 : Ext (w.alloc a) ((w.alloc a).alloc b) := Below.alloc (Below.refl _ _) (Nat.le_refl _) _
  exact ⟨ext_at x2 h1, h2, ext_trans x1 x2⟩
theorem run_min_at (P : Program) (a b c : Int) (h : c = min a b) : ∀ (ts : Array TypeId) (t : TypeId) (W : World), (Builtin.min_ ts t #[.int .i64 a, .int .i64 b]).run P W = .ok (.int .i64 c) W := by
  intro ts t W
  subst h
  simp only [Builtin.min_, List.foldlM, Builtin.min2, Sem.run_bind, Sem.run_pure, Result.andThen]
  by_cases h : b < a
  · rw [if_pos (by omega)]; simp [Int.min_eq_right (Int.le_of_lt h)]
  · rw [if_neg (by omega)]; simp [Int.min_eq_left (Int.not_lt.1 h)]
def moreK : List UInt8 := [109, 111, 114, 101]
def moreE (n : Nat) : Ev := ⟨n, 1, moreK, 0, []⟩
def moreL (L : List Ev) : Nat → List Ev
  | 0 => L
  | i + 1 => moreL L i ++ [moreE ((moreL L i).length + 1)]
theorem moreL_len (L : List Ev) : ∀ i, (moreL L i).length = L.length + i
  | 0 => rfl
  | i + 1 => by simp only [moreL, List.length_append, List.length_singleton, moreL_len L i]; omega
theorem moreE_right (n : Nat) (h1 : 1 ≤ n) (h2 : n ≤ 1000) : (moreE n).right = true := by
  have hk : plnB moreK = true := by decide +kernel
  simp [Ev.right, moreE, hk]
  exact ⟨decide_eq_true (by omega), decide_eq_true (by omega)⟩
theorem moreE_ok (n : Nat) (h1 : 1 ≤ n) (h2 : n ≤ 1000) : (moreE n).ok := (right_ok (moreE_right n h1 h2)).1
theorem TrAt.mv {B B' p : Nat} {lv cv : Value} {S : TrS} {A C : World} (h : TrAt B p lv cv S A) (hm : Mv B' (fun _ => False) A C) : TrAt B p lv cv S C :=
  h.keep fun k hk => by
    rcases hk with rfl | hk | hk
    · exact hm.block _ (Array.getElem?_eq_some_iff.1 h.blk).1 (fun h => h) (.inr ⟨_, kind_of_cells h.blk⟩)
    · exact hm.block _ (own_lt h.row hk).2.1 (fun h => h) (.inr ⟨_, (own_lt h.row hk).2.2⟩)
    · exact hm.block _ (own_lt h.ch hk).2.1 (fun h => h) (.inr ⟨_, (own_lt h.ch hk).2.2⟩)
theorem Mv.at' {B : Nat} {A C : World} (hm : Mv B (fun _ => False) A C) {k : Nat} {c : Array Value} {t : TypeId} {f : Nat × Nat} (h : A.heap[k]? = some (.cells c t f)) : C.heap[k]? = some (.cells c t f) :=
  (hm.block k (Array.getElem?_eq_some_iff.1 h).1 (fun h => h) (.inr ⟨_, kind_of_cells h⟩)).trans h
theorem Ch.kept {B p : Nat} {lv cv : Value} {S : TrS} {A C : World} (h : TrAt B p lv cv S A) (hc : Ch (fun k => k = p ∨ lv.ownBlock = some k) A C) {b : Nat} {c : Array Value} {t : TypeId} {f : Nat × Nat} (hb : A.heap[b]? = some (.cells c t f)) (h1 : t ≠ 81) (h2 : t ≠ 37) : C.heap[b]? = some (.cells c t f) :=
  (hc.block b (Array.getElem?_eq_some_iff.1 hb).1 (fun hS => by
    rcases hS with e | e
    · exact kind_ne (kind_of_cells hb) (kind_of_cells h.blk) h1 e
    · exact kind_ne (kind_of_cells hb) (own_lt h.row e).2.2 h2 rfl)).trans hb
/-- The rounds: i more were added; the boxes (bt: the trace; bn: how many; the next: how many at most); the trace's row lies in none of the iterator's blocks. -/
structure FindI (w : World) (B p q : Nat) (xv : Value) (L : List Ev) (bt bn ss lo hi : Nat) (o : Nat → Prop) (i : Nat) (W : World) : Prop where
  tr : ∃ lv cv, TrAt B p lv cv (stOf 20 (moreL L i)) W ∧ ∀ g, lv.ownBlock = some g → g < lo ∨ (hi ≤ g ∧ ¬ o g)
  t : W.heap[bt]? = some (.cells #[.pointer (some ⟨p, 0, none⟩)] 25 (0, 0))
  n : W.heap[bn]? = some (.cells #[.int .i64 (i : Int)] 3 (0, 0))
  k : W.heap[bn + 1]? = some (.cells #[.int .i64 (1 + (ss : Int))] 3 (0, 0))
  q : W.heap[q]? = some (.cells #[.int .i64 20, xv] 43 (0, 0))
  x : Below w.heap.size w W
  s : hi ≤ W.heap.size
theorem FindI.mv {w A C : World} {B p q : Nat} {xv : Value} {L : List Ev} {bt bn ss lo hi : Nat} {o : Nat → Prop} {i : Nat} (h : FindI w B p q xv L bt bn ss lo hi o i A) (hm : Mv hi (fun _ => False) A C) (hw : w.heap.size ≤ hi) : FindI w B p q xv L bt bn ss lo hi o i C := by
  obtain ⟨⟨lv, cv, h1, h2⟩, h3, h4, h5, h8, h6, h7⟩ := h
  exact ⟨⟨lv, cv, h1.mv hm, h2⟩, hm.at' h3, hm.at' h4, hm.at' h5, hm.at' h8, hm.below h6 (fun k hk => hk.elim) hw (Nat.le_refl _), Nat.le_trans h7 hm.size⟩
set_option maxHeartbeats 4000000 in
theorem finds_any (v : Value) (os : List OpE) (hok : ∀ o ∈ os, o.ok) (one two : List UInt8) (conn : Int) (hc0 : -9223372036854775808 ≤ conn) (hc1 : conn ≤ 9223372036854775807) (stop : Int) (hs0 : 0 ≤ stop) (hs1 : stop ≤ 255) (w : World) (hv : RowO w v os) (hT : Tw w) :
    Calls Tryd.prog 4 #[v, Str one, Str two, .int .i64 conn, .int .u8 stop] w fun e w' => e = .returned (.bool true) ∧ Ext w w' := by
  obtain ⟨ss, hss, hss9⟩ : ∃ ss : Nat, stop.tmod 9 = (ss : Int) ∧ ss < 9 := by
    refine ⟨(stop % 9).toNat, ?_, ?_⟩
    · rw [Int.tmod_eq_emod_of_nonneg hs0]; omega
    · omega
  have hss' : stop % 9 = (ss : Int) := by rw [← Int.tmod_eq_emod_of_nonneg hs0]; exact hss
  have HAW := Lib.hid (awake_law w hT)
  have HT := Lib.hid hT; have HV := Lib.hid hv
  obtain ⟨ao, cap, rfl, -⟩ := id hv
  have HBU := Lib.hid (show ∀ W, Ext w W → Calls Tryd.prog 9 #[.int .i64 20, .slice ao os.length cap] W (BuildR 20 os W) from fun W (hx : Ext w W) =>
    build_any 20 (by omega) (by omega) _ os hok W (hv.ext hx) (hT.ext hx))
  clear hT hv hok
  refine (callsIn_wide (n := 5)).1 (callsIn_of_wp_marks Tryd.func4 rfl trivial (wpIn_wide.2 ?_) rfl)
  simp only [Tryd.ntmps4, List.size_toArray, List.length_cons, List.length_nil, Nat.reduceAdd, Nat.reduceSub, Array.replicate_succ, Array.replicate_zero, List.push_toArray, List.append_toArray, List.nil_append, List.cons_append]
  go_wp2_with (go_at_call 8; refine HAW.out.mono ?_; rintro e W1 ⟨rfl, hx1⟩)
  refine (HBU.out W1 hx1).mono ?_
  rintro e W2 ⟨p, q, lv, cv, xv, rfl, htr, hrf, hx2⟩
  have hg := bldL_good (os.take 40)
  have hLl : (bldL (os.take 40)).length ≤ 40 := by have := hg.2; rw [List.length_take] at this; omega
  have HG := Lib.hid hg.1
  have HX2 := Lib.hid (ext_trans hx1 hx2)
  have hw1 := hx1.size
  have hw2 := hx2.size
  clear hx1 hx2 hg HBU HAW
  generalize bldL (os.take 40) = Ls at *
  obtain ⟨xao, xcap, rfl, -⟩ := id (show RowE W2 xv Ls from rowC_of_own evL_len hrf.row)
  have HTR := Lib.hid htr; have HRF := Lib.hid hrf
  have HKN := Lib.hid (fun W hx => known_any W1.heap.size q (.slice xao Ls.length xcap) 20 Ls (by omega) (by omega) W (HRF.out.ext hx))
  obtain ⟨W3, hW3⟩ : ∃ W3, W2.alloc (.cells #[.pointer (some ⟨p, 0, none⟩)] 25) = W3 := ⟨_, rfl⟩
  have hx3 : Ext W2 W3 := by rw [← hW3]; exact Below.alloc (Below.refl _ _) (Nat.le_refl _) _
  have hb3 : W3.heap[W2.heap.size]? = some (.cells #[.pointer (some ⟨p, 0, none⟩)] 25 (0, 0)) := by rw [← hW3]; exact Array.getElem?_push_size
  have HX3 := Lib.hid hx3; have HB3 := Lib.hid hb3
  clear htr hrf hx3 hb3
  go_wp2_with fail
  clear hW3
  refine (HKN.out W3 HX3.out).mono ?_
  rintro e W4 ⟨yv, rfl, hy, hx4⟩
  obtain ⟨Kn, hK⟩ : ∃ Kn, Ls.drop (Ls.length - 20) = Kn := ⟨_, rfl⟩
  rw [hK] at hy HKN
  have HKd := Lib.hid hK
  have hKl : Kn.length ≤ 20 := by rw [← hK, List.length_drop]; omega
  obtain ⟨ya, yc, rfl, -⟩ := id hy
  have HY := Lib.hid hy; have HX4 := Lib.hid (ext_trans HX3.out hx4); have HB4 := Lib.hid (ext_at hx4 HB3.out)
  clear hy hx4 hK HB3
  go_wp2_with fail
  go_loopw [14, 15, 34] (fun v1 v2 i wr => ∃ k : Nat, k ≤ Kn.length ∧ i = .int .i64 k ∧ Hid (OwnF W4.heap.size v1 ((Kn.take k).filter (qOf [one, two])) wr) ∧ Hid (OwnF W4.heap.size v2 ((Kn.take k).filter (qAbout conn)) wr) ∧ Hid (∀ k, v1.ownBlock = some k → v2.ownBlock ≠ some k) ∧ Ext W4 wr) (fun _ _ i _ => Kn.length - (intOf i).toNat)
  case atStart => exact ⟨0, by omega, rfl, Lib.hid (World.ownsRow_nil _ _ _ _), Lib.hid (World.ownsRow_nil _ _ _ _), Lib.hid (fun k hk => by simp [Value.ownBlock] at hk), ext_refl _⟩
  case round =>
    obtain ⟨k, hk, rfl, HO1, HO2, HDJ, hx⟩ := hrel
    by_cases h3 : k < Kn.length
    · obtain ⟨g, o, cap', hv, hcl⟩ := row_cells ((HY.out).ext hx) (by intro h; rw [h] at h3; simp at h3)
      cases hv
      obtain ⟨d0, d1, d2, d3, d4⟩ := hcl k h3
      have hix := index_evR g o Kn.length yc k h3
      have hlt : g < wr.heap.size := by
        have := d0
        unfold World.cell? at this
        exact Nat.lt_of_not_le fun h => by rw [Array.getElem?_eq_none h] at this; cases this
      have HF1 := Lib.hid (filter_take (q := qOf [one, two]) Kn k h3)
      have HF2 := Lib.hid (filter_take (q := qAbout conn) Kn k h3)
      have hfl1 : ((Kn.take k).filter (qOf [one, two])).length ≤ 20 := by
        have h1 := List.length_filter_le (qOf [one, two]) (Kn.take k)
        rw [List.length_take] at h1; omega
      have hfl2 : ((Kn.take k).filter (qAbout conn)).length ≤ 20 := by
        have h1 := List.length_filter_le (qAbout conn) (Kn.take k)
        rw [List.length_take] at h1; omega
      clear hcl
      generalize Kn.getD k evD = ev at *
      obtain ⟨en, ek, ekind, econn, etext⟩ := ev
      have HQ1 := Lib.hid (qOf_two one two ekind en ek econn etext)
      have HQ2 := Lib.hid (show qAbout conn ⟨en, ek, ekind, econn, etext⟩ = decide (econn = conn) from rfl)
      simp only at d0 d1 d2 d3 d4
      obtain ⟨Wb, hWb⟩ : ∃ Wb, wr.alloc (.cells #[.int .u64 (en : Int), .int .u64 (ek : Int), Str ekind, .int .i64 econn, Str etext] 32) = Wb := ⟨_, rfl⟩
      have hxb : Ext wr Wb := by rw [← hWb]; exact Below.alloc (Below.refl _ _) (Nat.le_refl _) _
      have hbb : Wb.heap[wr.heap.size]? = some (.cells #[.int .u64 (en : Int), .int .u64 (ek : Int), Str ekind, .int .i64 econn, Str etext] 32 (0, 0)) := by rw [← hWb]; exact Array.getElem?_push_size
      have hszb : wr.heap.size < Wb.heap.size := by rw [← hWb]; simp
      have HX := Lib.hid (ext_trans hx hxb)
      have hsz := HX.out.size
      have HA1 := Lib.hid (show OwnF W4.heap.size _ _ Wb from ownz_ext HO1.out hxb)
      have HA2 := Lib.hid (show OwnF W4.heap.size _ _ Wb from ownz_ext HO2.out hxb)
      have HL1 := Lib.hid (fun k hk => (own_lt HO1.out (k := k) hk).2.1)
      have HL2 := Lib.hid (fun k hk => (own_lt HO2.out (k := k) hk).2.1)
      obtain ⟨q0, q1, q2, q3, q4⟩ := cells5 hbb
      have HBB := Lib.hid hbb
      clear hxb hbb hx HO1 HO2
      generalize (Kn.take k).filter (qOf [one, two]) = out1 at *
      generalize (Kn.take k).filter (qAbout conn) = out2 at *
      by_cases h1 : ekind = one
      · have hb1 : (ekind == one) = true := by simp [h1]
        clear h1
        by_cases hc : econn = conn
        · subst hc
          have hfn1 := HF1.out
          rw [HQ1.out, show (ekind == one || ekind == two) = true by simp [hb1]] at hfn1
          have hfn2 := HF2.out
          rw [HQ2.out, show decide (econn = econn) = true from decide_eq_true rfl] at hfn2
          simp only [if_true, if_false, if_pos, Bool.false_eq_true, List.append_nil] at hfn1 hfn2
          have HFN1 := Lib.hid hfn1; have HFN2 := Lib.hid hfn2
          clear hfn1 hfn2 HF1 HF2 HQ1 HQ2
          go_wp2_with (first | (at_builtin; refine wpList_pushzW W4.heap.size rfl (.tmp 48) (.tmp 50) 29 32 rfl Tryd.underlying29 infoEvR rfl (by omega) (by omega) HA1.out [.int .u64 (en : Int), .int .u64 (ek : Int), Str ekind, .int .i64 econn, Str etext] rfl (by simp [Str, Value.oneCell']) (by omega) hsz rfl rfl ?_; rintro v9 w1 hown1 hgr1 hwh1; have HB1 := Lib.hid (own_snoc (e := ⟨en, ek, ekind, econn, etext⟩) hown1); have HTP := Lib.hid (two_push HA2.out HDJ.out hgr1 hwh1); have HE1 := Lib.hid (ext_pushE rfl HX.out HA1.out hgr1); have hbb := (hgr1.block wr.heap.size (by omega) (fun e => by have := HL1.out _ e.symm; omega)).trans HBB.out; have hs1 := hgr1.size; have hsz : W4.heap.size ≤ w1.heap.size := HE1.out.size; obtain ⟨q0, q1, q2, q3, q4⟩ := cells5 hbb; clear hbb hown1 hgr1 hwh1) | (at_builtin; refine wpList_pushzW W4.heap.size rfl (.tmp 56) (.tmp 58) 29 32 rfl Tryd.underlying29 infoEvR rfl (by omega) (by omega) HTP.out.1 [.int .u64 (en : Int), .int .u64 (ek : Int), Str ekind, .int .i64 econn, Str etext] rfl (by simp [Str, Value.oneCell']) (by omega) hsz rfl rfl ?_; rintro v8 w2 hown2 hgr2 hwh2; have HB2 := Lib.hid (own_snoc (e := ⟨en, ek, ekind, econn, etext⟩) hown2); have HTQ := Lib.hid (two_push HB1.out (fun k hk e => (HTP.out.2.1) k e hk) hgr2 hwh2); have HE2 := Lib.hid (ext_pushE rfl HE1.out HTP.out.1 hgr2); clear hown2 hgr2 hwh2))
          go_roundw
          case rel => exact ⟨k + 1, by omega, by go_num, Lib.hid (by rw [HFN1.out]; exact HTQ.out.1), Lib.hid (by rw [HFN2.out]; exact HB2.out), Lib.hid (HTQ.out.2.2), HE2.out⟩
          case measure => simp [intOf]; omega
        · have hfn1 := HF1.out
          rw [HQ1.out, show (ekind == one || ekind == two) = true by simp [hb1]] at hfn1
          have hfn2 := HF2.out
          rw [HQ2.out, show decide (econn = conn) = false from decide_eq_false hc] at hfn2
          simp only [if_true, if_false, if_pos, Bool.false_eq_true, List.append_nil] at hfn1 hfn2
          have HFN1 := Lib.hid hfn1; have HFN2 := Lib.hid hfn2
          clear hfn1 hfn2 HF1 HF2 HQ1 HQ2
          go_wp2_with (at_builtin; refine wpList_pushzW W4.heap.size rfl (.tmp 48) (.tmp 50) 29 32 rfl Tryd.underlying29 infoEvR rfl (by omega) (by omega) HA1.out [.int .u64 (en : Int), .int .u64 (ek : Int), Str ekind, .int .i64 econn, Str etext] rfl (by simp [Str, Value.oneCell']) (by omega) hsz rfl rfl ?_; rintro v9 w1 hown1 hgr1 hwh1; have HB1 := Lib.hid (own_snoc (e := ⟨en, ek, ekind, econn, etext⟩) hown1); have HTP := Lib.hid (two_push HA2.out HDJ.out hgr1 hwh1); have HE1 := Lib.hid (ext_pushE rfl HX.out HA1.out hgr1); have hbb := (hgr1.block wr.heap.size (by omega) (fun e => by have := HL1.out _ e.symm; omega)).trans HBB.out; have hs1 := hgr1.size; have hsz : W4.heap.size ≤ w1.heap.size := HE1.out.size; obtain ⟨q0, q1, q2, q3, q4⟩ := cells5 hbb; clear hbb hown1 hgr1 hwh1)
          go_roundw
          case rel => exact ⟨k + 1, by omega, by go_num, Lib.hid (by rw [HFN1.out]; exact HB1.out), Lib.hid (by rw [HFN2.out]; exact HTP.out.1), Lib.hid (HTP.out.2.1), HE1.out⟩
          case measure => simp [intOf]; omega
      · have hb1 : (ekind == one) = false := by simp [h1]
        clear h1
        by_cases h2 : ekind = two
        · have hb2 : (ekind == two) = true := by simp [h2]
          clear h2
          by_cases hc : econn = conn
          · subst hc
            have hfn1 := HF1.out
            rw [HQ1.out, show (ekind == one || ekind == two) = true by simp [hb1, hb2]] at hfn1
            have hfn2 := HF2.out
            rw [HQ2.out, show decide (econn = econn) = true from decide_eq_true rfl] at hfn2
            simp only [if_true, if_false, if_pos, Bool.false_eq_true, List.append_nil] at hfn1 hfn2
            have HFN1 := Lib.hid hfn1; have HFN2 := Lib.hid hfn2
            clear hfn1 hfn2 HF1 HF2 HQ1 HQ2
            go_wp2_with (first | (at_builtin; refine wpList_pushzW W4.heap.size rfl (.tmp 48) (.tmp 50) 29 32 rfl Tryd.underlying29 infoEvR rfl (by omega) (by omega) HA1.out [.int .u64 (en : Int), .int .u64 (ek : Int), Str ekind, .int .i64 econn, Str etext] rfl (by simp [Str, Value.oneCell']) (by omega) hsz rfl rfl ?_; rintro v9 w1 hown1 hgr1 hwh1; have HB1 := Lib.hid (own_snoc (e := ⟨en, ek, ekind, econn, etext⟩) hown1); have HTP := Lib.hid (two_push HA2.out HDJ.out hgr1 hwh1); have HE1 := Lib.hid (ext_pushE rfl HX.out HA1.out hgr1); have hbb := (hgr1.block wr.heap.size (by omega) (fun e => by have := HL1.out _ e.symm; omega)).trans HBB.out; have hs1 := hgr1.size; have hsz : W4.heap.size ≤ w1.heap.size := HE1.out.size; obtain ⟨q0, q1, q2, q3, q4⟩ := cells5 hbb; clear hbb hown1 hgr1 hwh1) | (at_builtin; refine wpList_pushzW W4.heap.size rfl (.tmp 56) (.tmp 58) 29 32 rfl Tryd.underlying29 infoEvR rfl (by omega) (by omega) HTP.out.1 [.int .u64 (en : Int), .int .u64 (ek : Int), Str ekind, .int .i64 econn, Str etext] rfl (by simp [Str, Value.oneCell']) (by omega) hsz rfl rfl ?_; rintro v8 w2 hown2 hgr2 hwh2; have HB2 := Lib.hid (own_snoc (e := ⟨en, ek, ekind, econn, etext⟩) hown2); have HTQ := Lib.hid (two_push HB1.out (fun k hk e => (HTP.out.2.1) k e hk) hgr2 hwh2); have HE2 := Lib.hid (ext_pushE rfl HE1.out HTP.out.1 hgr2); clear hown2 hgr2 hwh2))
            go_roundw
            case rel => exact ⟨k + 1, by omega, by go_num, Lib.hid (by rw [HFN1.out]; exact HTQ.out.1), Lib.hid (by rw [HFN2.out]; exact HB2.out), Lib.hid (HTQ.out.2.2), HE2.out⟩
            case measure => simp [intOf]; omega
          · have hfn1 := HF1.out
            rw [HQ1.out, show (ekind == one || ekind == two) = true by simp [hb1, hb2]] at hfn1
            have hfn2 := HF2.out
            rw [HQ2.out, show decide (econn = conn) = false from decide_eq_false hc] at hfn2
            simp only [if_true, if_false, if_pos, Bool.false_eq_true, List.append_nil] at hfn1 hfn2
            have HFN1 := Lib.hid hfn1; have HFN2 := Lib.hid hfn2
            clear hfn1 hfn2 HF1 HF2 HQ1 HQ2
            go_wp2_with (at_builtin; refine wpList_pushzW W4.heap.size rfl (.tmp 48) (.tmp 50) 29 32 rfl Tryd.underlying29 infoEvR rfl (by omega) (by omega) HA1.out [.int .u64 (en : Int), .int .u64 (ek : Int), Str ekind, .int .i64 econn, Str etext] rfl (by simp [Str, Value.oneCell']) (by omega) hsz rfl rfl ?_; rintro v9 w1 hown1 hgr1 hwh1; have HB1 := Lib.hid (own_snoc (e := ⟨en, ek, ekind, econn, etext⟩) hown1); have HTP := Lib.hid (two_push HA2.out HDJ.out hgr1 hwh1); have HE1 := Lib.hid (ext_pushE rfl HX.out HA1.out hgr1); have hbb := (hgr1.block wr.heap.size (by omega) (fun e => by have := HL1.out _ e.symm; omega)).trans HBB.out; have hs1 := hgr1.size; have hsz : W4.heap.size ≤ w1.heap.size := HE1.out.size; obtain ⟨q0, q1, q2, q3, q4⟩ := cells5 hbb; clear hbb hown1 hgr1 hwh1)
            go_roundw
            case rel => exact ⟨k + 1, by omega, by go_num, Lib.hid (by rw [HFN1.out]; exact HB1.out), Lib.hid (by rw [HFN2.out]; exact HTP.out.1), Lib.hid (HTP.out.2.1), HE1.out⟩
            case measure => simp [intOf]; omega
        · have hb2 : (ekind == two) = false := by simp [h2]
          clear h2
          by_cases hc : econn = conn
          · subst hc
            have hfn1 := HF1.out
            rw [HQ1.out, show (ekind == one || ekind == two) = false by simp [hb1, hb2]] at hfn1
            have hfn2 := HF2.out
            rw [HQ2.out, show decide (econn = econn) = true from decide_eq_true rfl] at hfn2
            simp only [if_true, if_false, if_pos, Bool.false_eq_true, List.append_nil] at hfn1 hfn2
            have HFN1 := Lib.hid hfn1; have HFN2 := Lib.hid hfn2
            clear hfn1 hfn2 HF1 HF2 HQ1 HQ2
            go_wp2_with (at_builtin; refine wpList_pushzW W4.heap.size rfl (.tmp 56) (.tmp 58) 29 32 rfl Tryd.underlying29 infoEvR rfl (by omega) (by omega) HA2.out [.int .u64 (en : Int), .int .u64 (ek : Int), Str ekind, .int .i64 econn, Str etext] rfl (by simp [Str, Value.oneCell']) (by omega) hsz rfl rfl ?_; rintro v8 w2 hown2 hgr2 hwh2; have HB2 := Lib.hid (own_snoc (e := ⟨en, ek, ekind, econn, etext⟩) hown2); have HTQ := Lib.hid (two_push HA1.out (fun k hk e => (HDJ.out) k e hk) hgr2 hwh2); have HE2 := Lib.hid (ext_pushE rfl HX.out HA2.out hgr2); clear hown2 hgr2 hwh2)
            go_roundw
            case rel => exact ⟨k + 1, by omega, by go_num, Lib.hid (by rw [HFN1.out]; exact HTQ.out.1), Lib.hid (by rw [HFN2.out]; exact HB2.out), Lib.hid (HTQ.out.2.2), HE2.out⟩
            case measure => simp [intOf]; omega
          · have hfn1 := HF1.out
            rw [HQ1.out, show (ekind == one || ekind == two) = false by simp [hb1, hb2]] at hfn1
            have hfn2 := HF2.out
            rw [HQ2.out, show decide (econn = conn) = false from decide_eq_false hc] at hfn2
            simp only [if_true, if_false, if_pos, Bool.false_eq_true, List.append_nil] at hfn1 hfn2
            have HFN1 := Lib.hid hfn1; have HFN2 := Lib.hid hfn2
            clear hfn1 hfn2 HF1 HF2 HQ1 HQ2
            go_wp2
            go_roundw
            case rel => exact ⟨k + 1, by omega, by go_num, Lib.hid (by rw [HFN1.out]; exact HA1.out), Lib.hid (by rw [HFN2.out]; exact HA2.out), Lib.hid (HDJ.out), HX.out⟩
            case measure => simp [intOf]; omega
    · obtain rfl : k = Kn.length := by omega
      have hO1 := HO1.out; have hO2 := HO2.out
      rw [List.take_length] at hO1 hO2
      have HW1 := Lib.hid (show RowE wr _ (Kn.filter (qOf [one, two])) from rowC_of_own evL_len hO1)
      have HW2 := Lib.hid (show RowE wr _ (Kn.filter (qAbout conn)) from rowC_of_own evL_len hO2)
      obtain ⟨ra1, rc1, rfl, -⟩ := id HW1.out
      obtain ⟨ra2, rc2, rfl, -⟩ := id HW2.out
      have hl1 : (Kn.filter (qOf [one, two])).length ≤ 20 := Nat.le_trans (List.length_filter_le _ _) hKl
      have hl2 : (Kn.filter (qAbout conn)).length ≤ 20 := Nat.le_trans (List.length_filter_le _ _) hKl
      have hokK : ∀ e ∈ Kn, e.ok := fun e he => (goodL_mem HG.out (by rw [← HKd.out] at he; exact List.mem_of_mem_drop he)).1
      have h1K : ∀ e ∈ Kn, 1 ≤ e.n := fun e he => (goodL_mem HG.out (by rw [← HKd.out] at he; exact List.mem_of_mem_drop he)).2
      have hevs : (stOf 20 Ls).evs = Kn := HKd.out
      obtain ⟨Wk, hWk⟩ : ∃ Wk, wr.alloc (.cells #[Str one, Str two] 9) = Wk := ⟨_, rfl⟩
      have hxk : Ext wr Wk := by rw [← hWk]; exact Below.alloc (Below.refl _ _) (Nat.le_refl _) _
      have hbk : Wk.heap[wr.heap.size]? = some (.cells #[Str one, Str two] 9 (0, 0)) := by rw [← hWk]; exact Array.getElem?_push_size
      have hkin : Kinds wr.heap.size [one, two] Wk := by
        intro j hj
        have hj' : j = 0 ∨ j = 1 := by simp at hj; omega
        rcases hj' with rfl | rfl <;> simp [World.cell?, hbk]
      have HB := Lib.hid (ext_at (ext_trans hx hxk) HB4.out)
      have cb := cell_of (ext_at hx HB4.out)
      have HX := Lib.hid (ext_trans HX4.out (ext_trans hx hxk))
      have HXK := Lib.hid hxk
      have HOF := Lib.hid (of_any [one, two] (by simp) wr.heap.size 2 W1.heap.size p lv cv (stOf 20 Ls) (by rw [hevs]; omega) (by rw [hevs]; exact hokK) Wk (HTR.out.ext HX.out) hkin (Array.getElem?_eq_some_iff.1 hbk).1)
      have HAB := Lib.hid (fun W (hx : Ext W2 W) => about_any conn ⟨hc0, hc1⟩ W1.heap.size p lv cv (stOf 20 Ls) (by rw [hevs]; omega) (by rw [hevs]; exact hokK) W (HTR.out.ext hx))
      have HSI := Lib.hid (fun W (hx : Ext W2 W) => since_any 0 (by omega) W1.heap.size p lv cv (stOf 20 Ls) (by rw [hevs]; omega) (by rw [hevs]; exact hokK) W (HTR.out.ext hx))
      rw [hevs] at HOF HAB HSI
      have HSZ := Lib.hid (qSince_zero Kn h1K)
      rw [HSZ.out] at HSI
      clear hO1 hO2 HO1 HO2 HDJ hx hxk hbk hkin hokK h1K hevs
      go_wp2_with fail
      clear hWk cb
      refine HOF.out.mono ?_
      rintro e W6 ⟨f6, rfl, hsq, hx⟩
      have HX6 := Lib.hid (ext_trans HX.out hx)
      have HB6 := Lib.hid (ext_at hx HB.out)
      have HE6 := Lib.hid (ext_trans HXK.out hx)
      have HC := Lib.hid (collectS_any f6 _ (by omega) _ W6 hsq)
      clear hsq hx HOF
      go_wp2_with fail
      refine HC.out.mono ?_
      rintro e W7 ⟨v7, rfl, ho, hx⟩
      have HX7 := Lib.hid (ext_trans HX6.out hx)
      have HB7 := Lib.hid (ext_at hx HB6.out)
      have HE7 := Lib.hid (ext_trans HE6.out hx)
      have HC2 := Lib.hid (back_any v7 _ (by omega) W7 ho.row)
      clear ho hx HC
      go_wp2_with fail
      refine HC2.out.mono ?_
      rintro e W8 ⟨v8, rfl, ho, hx⟩
      have HX8 := Lib.hid (ext_trans HX7.out hx)
      have HB8 := Lib.hid (ext_at hx HB7.out)
      have HE8 := Lib.hid (ext_trans HE7.out hx)
      have HC3 := Lib.hid (equalE_same v8 _ _ (by omega) W8 (rowC_of_own evL_len ho) (HW1.out.ext HE8.out))
      clear ho hx HC2
      go_wp2_with fail
      refine HC3.out.mono ?_
      rintro e W9 ⟨rfl, hx⟩
      have HX9 := Lib.hid (ext_trans HX8.out hx)
      have HB9 := Lib.hid (ext_at hx HB8.out)
      have HE9 := Lib.hid (ext_trans HE8.out hx)
      clear hx HC3
      have cb := cell_of HB9.out
      go_wp2_with fail
      clear cb
      refine (HAB.out W9 HX9.out).mono ?_
      rintro e W10 ⟨f10, rfl, hsq, hx⟩
      have HX10 := Lib.hid (ext_trans HX9.out hx)
      have HB10 := Lib.hid (ext_at hx HB9.out)
      have HE10 := Lib.hid (ext_trans HE9.out hx)
      have HC := Lib.hid (collectS_any f10 _ (by omega) _ W10 hsq)
      clear hsq hx HAB
      go_wp2_with fail
      refine HC.out.mono ?_
      rintro e W11 ⟨v11, rfl, ho, hx⟩
      have HX11 := Lib.hid (ext_trans HX10.out hx)
      have HB11 := Lib.hid (ext_at hx HB10.out)
      have HE11 := Lib.hid (ext_trans HE10.out hx)
      have HC2 := Lib.hid (back_any v11 _ (by omega) W11 ho.row)
      clear ho hx HC
      go_wp2_with fail
      refine HC2.out.mono ?_
      rintro e W12 ⟨v12, rfl, ho, hx⟩
      have HX12 := Lib.hid (ext_trans HX11.out hx)
      have HB12 := Lib.hid (ext_at hx HB11.out)
      have HE12 := Lib.hid (ext_trans HE11.out hx)
      have HC3 := Lib.hid (equalE_same v12 _ _ (by omega) W12 (rowC_of_own evL_len ho) (HW2.out.ext HE12.out))
      clear ho hx HC2
      go_wp2_with fail
      refine HC3.out.mono ?_
      rintro e W13 ⟨rfl, hx⟩
      have HX13 := Lib.hid (ext_trans HX12.out hx)
      have HB13 := Lib.hid (ext_at hx HB12.out)
      clear hx HC3
      obtain ⟨W14, hW14⟩ : ∃ W14, (W13.alloc (.cells #[.int .i64 0] 3)).alloc (.cells #[.int .i64 (1 + (ss : Int))] 3) = W14 := ⟨_, rfl⟩
      obtain ⟨hbn, hbk, hx⟩ := two_allocs W13 W14 _ _ hW14
      have HX14 := Lib.hid (ext_trans HX13.out hx)
      have HB14 := Lib.hid (ext_at hx HB13.out)
      have HBN := Lib.hid hbn; have HBK := Lib.hid hbk
      have hs14 : W13.heap.size + 1 < W14.heap.size := (Array.getElem?_eq_some_iff.1 hbk).1
      clear hx hbn hbk
      go_wp2_with fail
      clear hW14
      refine (HKN.out W14 HX14.out).mono ?_
      rintro e W15 ⟨y15, rfl, hy, hx⟩
      obtain ⟨ya5, yc5, rfl, -⟩ := hy
      have HX15 := Lib.hid (ext_trans HX14.out hx)
      have HB15 := Lib.hid (ext_at hx HB14.out)
      have hs15 := hx.size
      have hs2 := HX14.out.size
      have hs213 := (Array.getElem?_eq_some_iff.1 HB13.out).1
      have HBN15 := Lib.hid (ext_at hx HBN.out); have HBK15 := Lib.hid (ext_at hx HBK.out)
      clear hx HKN HBN HBK
      have cb := cell_of HB15.out
      go_wp2_with fail
      clear cb
      refine (HSI.out W15 HX15.out).mono ?_
      rintro e W16 ⟨f16, rfl, hsq, hx⟩
      obtain ⟨gf, lb, own0, own1, rfl, eg, hit, ho0, ho1⟩ := hsq
      have HX16 := Lib.hid (ext_trans HX2.out (ext_trans HX15.out hx))
      have htr := HTR.out.ext (ext_trans HX15.out hx)
      have hbt := ext_at hx HB15.out
      have hbn := ext_at hx HBN15.out
      have hbk := ext_at hx HBK15.out
      have hbq := ext_at (ext_trans HX15.out hx) HRF.out.blk
      have hq2 := (Array.getElem?_eq_some_iff.1 HRF.out.blk).1
      have hlv0 : ∀ g, lv.ownBlock = some g → g < W15.heap.size := fun g hg => (own_lt (HTR.out.ext HX15.out).row hg).2.1
      have hp0 : p < W15.heap.size := (Array.getElem?_eq_some_iff.1 (HTR.out.ext HX15.out).blk).1
      have hs16 := hx.size
      clear hx
      go_wp2_with fail
      refine wpIn_wide.1 (wpIn_range4 (n := 5) (P := Tryd.prog) rfl eg hit ho0 (fun k h => (ho1 k h).2)
        (fun o i W => i < 1 + ss ∧ FindI w W1.heap.size p q (.slice xao Ls.length xcap) Ls W2.heap.size W13.heap.size ss W15.heap.size W16.heap.size o i W)
        (fun o c i W => c = .exit 2 ∧ i + 1 = 1 + ss ∧ FindI w W1.heap.size p q (.slice xao Ls.length xcap) Ls W2.heap.size W13.heap.size ss W15.heap.size W16.heap.size o (i + 1) W) ?_ ?_ ?_ ?_ ?_ ?_)
      · rintro o i A' C ⟨h1, h⟩ hm
        exact ⟨h1, h.mv hm (by omega)⟩
      · rintro o c i A' C ⟨h0, h1, h⟩ hm
        exact ⟨h0, h1, h.mv hm (by omega)⟩
      · intro o W ho hx
        exact ⟨by omega, ⟨lv, cv, htr.ext hx, fun g hg => .inl (hlv0 g hg)⟩, ext_at hx hbt, ext_at hx hbn, ext_at hx hbk, ext_at hx hbq, ext_trans HX16.out hx, hx.size⟩
      · rintro o m' lp i W args hi ho ⟨hik, hI⟩ hasz hitem hlp hrec
        unfold evItem at hitem
        subst hitem
        gi_wp2
        refine ⟨Kp.refl _ _ _, fun Wr hm2 hrec2 => ?_⟩
        have hI2 := hI.mv hm2 (by have := HX16.out.size; omega)
        obtain ⟨⟨lv', cv', htr2, hlv2⟩, ht2, hn2, hk2, hq2', hx2, hs2⟩ := hI2
        have cbt := cell_of ht2
        have hLl' := moreL_len Ls i
        have HAD := Lib.hid (Add_any W1.heap.size p lv' cv' (stOf 20 (moreL Ls i)) (stOf_fit 20 (by omega) (by omega) _ (by omega)) 1 moreK 0 [] (moreE_ok _ (by omega) (by show (moreL Ls i).length + 1 ≤ 1000; omega)) Wr htr2 (HT.out.ext hx2))
        gi_wp2_with fail
        refine ⟨trivial, fun h => by simp [Fence.wide] at h, ?_⟩
        refine (CallsIn.inRound lp (callsIn_wide.2 HAD.out)).mono ?_
        rintro e W5 (⟨hr, -⟩ | ⟨-, rfl, lv9, cv9, htr5, hch, hw5, -⟩)
        · have := moreE_right ((moreL Ls i).length + 1) (by omega) (by omega)
          rw [show (Ev.mk ((stOf 20 (moreL Ls i)).last + 1) 1 moreK 0 []) = moreE ((moreL Ls i).length + 1) from rfl, this] at hr
          cases hr
        have e5 : addS (stOf 20 (moreL Ls i)) ⟨(stOf 20 (moreL Ls i)).last + 1, 1, moreK, 0, []⟩ = stOf 20 (moreL Ls (i + 1)) := stOf_add 20 (by omega) (moreL Ls i) (moreE ((moreL Ls i).length + 1)) (moreE_right _ (by omega) (by omega))
        rw [e5] at htr5
        have ht5 := hch.kept htr2 ht2 (by decide) (by decide)
        have hn5 := hch.kept htr2 hn2 (by decide) (by decide)
        have hk5 := hch.kept htr2 hk2 (by decide) (by decide)
        have hq5 := hch.kept htr2 hq2' (by decide) (by decide)
        have hx5 := Ch.below hx2 hch (fun k hS => by rcases hS with rfl | e; exact Nat.le_trans hw1 htr2.low; exact Nat.le_trans hw1 (own_lt htr2.row e).1) (Nat.le_refl _)
        have hs5 := hch.size
        have hlv5 : ∀ g, lv9.ownBlock = some g → g < W15.heap.size ∨ (W16.heap.size ≤ g ∧ ¬ o g) := fun g hg => by
          rcases hw5 g hg with h | h
          · exact hlv2 g h
          · exact .inr ⟨by omega, fun ho' => by have := (ho g ho').2; have := hm2.size; omega⟩
        have hkp : Kp W16.heap.size (fun k => o k ∨ own1 k) Wr W5 := hch.kp (fun k hk => by
          have hb : k < Wr.heap.size ∧ ¬ (k = p) := by
            rcases hk with hk | hk
            · have := (ho k hk); have := hm2.size; exact ⟨by omega, by omega⟩
            · have := (ho1 k hk); exact ⟨by omega, by omega⟩
          refine ⟨hb.1, fun hS => ?_⟩
          rcases hS with e | e
          · exact hb.2 e
          · rcases hk with hk | hk
            · rcases hlv2 k e with h | h
              · have := (ho k hk).1; omega
              · exact h.2 hk
            · rcases hlv2 k e with h | h
              · have := (ho1 k hk).1; omega
              · have := (ho1 k hk).2; omega) (fun k hS hB hlt => by
          rcases hS with rfl | e
          · exact ⟨_, kind_of_cells htr2.blk⟩
          · exact ⟨_, (own_lt htr2.row e).2.2⟩)
        have c5 := cell_of hn5; have f5 := frozen_of hn5; have ck5 := cell_of hk5
        have HN5 := Lib.hid hn5
        have hch6 := Chg.setCell W5 ⟨W13.heap.size, 0, none⟩ (.int .i64 ((i : Int) + 1))
        have hkp6 := hkp.trans (Kp.of_chg hch6 (fun k hk => ?kk) (fun k hk hB _ => by have hk' : k = W13.heap.size := hk; omega))
        case kk =>
          have hb : k < Wr.heap.size ∧ ¬ (k = W13.heap.size) := by
            rcases hk with hk | hk
            · have := (ho k hk); have := hm2.size; exact ⟨by omega, by omega⟩
            · have := (ho1 k hk); exact ⟨by omega, by omega⟩
          exact ⟨by omega, hb.2⟩
        have HK6 := Lib.hid hkp6
        have hne6 : ∀ {k : Nat} {c : Array Value} {t : TypeId} {f : Nat × Nat}, W5.heap[k]? = some (.cells c t f) → k ≠ W13.heap.size → (W5.setCell ⟨W13.heap.size, 0, none⟩ (.int .i64 ((i : Int) + 1))).heap[k]? = some (.cells c t f) := fun h hne => (hch6.block _ (Array.getElem?_eq_some_iff.1 h).1 hne).trans h
        have htr6 : TrAt W1.heap.size p lv9 cv9 (stOf 20 (moreL Ls (i + 1))) (W5.setCell ⟨W13.heap.size, 0, none⟩ (.int .i64 ((i : Int) + 1))) := htr5.keep fun k hk => hch6.block k (by
            rcases hk with rfl | hk | hk
            · exact (Array.getElem?_eq_some_iff.1 htr5.blk).1
            · exact (own_lt htr5.row hk).2.1
            · exact (own_lt htr5.ch hk).2.1) (by
            show ¬ k = W13.heap.size
            rcases hk with rfl | hk | hk
            · exact fun e => kind_ne (kind_of_cells hn5) (kind_of_cells htr5.blk) (by decide) e.symm
            · exact fun e => kind_ne (kind_of_cells hn5) (own_lt htr5.row hk).2.2 (by decide) e.symm
            · exact fun e => kind_ne (kind_of_cells hn5) (own_lt htr5.ch hk).2.2 (by decide) e.symm)
        have HI6 := Lib.hid (show FindI w W1.heap.size p q (.slice xao Ls.length xcap) Ls W2.heap.size W13.heap.size ss W15.heap.size W16.heap.size o (i + 1) (W5.setCell ⟨W13.heap.size, 0, none⟩ (.int .i64 ((i : Int) + 1))) from
          ⟨⟨lv9, cv9, htr6, hlv5⟩, hne6 ht5 (by omega), one_setCell hn5, hne6 hk5 (by omega), hne6 hq5 (by omega), below_chg hx5 hch6 (fun k hk => by have hk' : k = W13.heap.size := hk; have := HX13.out.size; omega) (Nat.le_refl _), by have := hch6.size; omega⟩)
        clear htr2 hlv2 ht2 hn2 hk2 hq2' hq5 hx2 hs2 hI hch hw5 htr5 ht5 hn5 hk5 hx5 hlv5 hkp hch6 hkp6 hne6 htr6 cbt hm2 hrec hrec2 e5
        by_cases hc : i + 1 = 1 + ss
        · have hci : (i : Int) + 1 = 1 + (ss : Int) := by omega
          gi_wp2
          have a6 := HK6.out; have b6 := HI6.out
          rw [hci] at a6 b6
          exact ⟨a6, rfl, hc, b6⟩
        · have hci : ¬ (i : Int) + 1 = 1 + (ss : Int) := by omega
          gi_wp2
          exact ⟨HK6.out, by omega, HI6.out⟩
      · rintro o D W hD ⟨hi, ⟨lv', cv', htr', -⟩, ht', hn', hk', hq', hx', hs'⟩ hdef
        have ct := cell_of ht'; have cn := cell_of hn'; have ck := cell_of hk'
        have cq := (cells2 hq').2
        have hll := moreL_len Ls Kn.length
        have hL9 := fun n => Last_any W1.heap.size p lv' cv' (stOf 20 (moreL Ls Kn.length)) (by show (moreL Ls Kn.length).length ≤ 1000000; omega) (W.drewN n) (htr'.keep fun k _ => by simp)
        rw [show (stOf 20 (moreL Ls Kn.length)).last = (moreL Ls Kn.length).length from rfl, hll, show ((Ls.length + Kn.length : Nat) : Int) = (Ls.length : Int) + (Kn.length : Int) by omega] at hL9
        rw [show ((Kn.length : Nat) : Int) = (Kn.length : Int) by omega] at cn
        have hmin := run_min_at Tryd.prog (1 + (ss : Int)) (Kn.length : Int) (Kn.length : Int) (by omega)
        have HL9 := Lib.hid hL9
        have HZ := Lib.hid (show _ ∧ _ from ⟨hx', hdef⟩)
        clear hL9 htr' ht' hn' hk' hq' hx' hdef HG HT HV
        go_wp2_with fail
        refine wp_region_quiet_lit (by kernel_rfl) (by kernel_rfl) ?_
        repeat (first
          | go_big_quiet_skip
          | (go_big_quiet_want; go_big_quiet_op; (try go_bits); first | go_big_quiet_on | go_big_quiet_call (first | exact Calls.quiet_of_same (HL9.out _))))
        refine wpQuiet_nil ?_
        intro _ hw'
        obtain ⟨nq, hw''⟩ := hw'
        subst hw''
        obtain ⟨hx', hdef⟩ := HZ.out
        go_wp2
        refine marks_ret (D := D) hdef (results_tmp rfl _ _) ⟨rfl, below_mark (Below.drewN hx' nq) (by omega) hdef⟩
      · rintro o D c i W hD hi ⟨rfl, hc, ⟨lv', cv', htr', -⟩, ht', hn', hk', hq', hx', hs'⟩ hdef
        obtain rfl : i = ss := by omega
        have ct := cell_of ht'; have cn := cell_of hn'; have ck := cell_of hk'
        have cq := (cells2 hq').2
        have hll := moreL_len Ls (i + 1)
        have hL9 := fun n => Last_any W1.heap.size p lv' cv' (stOf 20 (moreL Ls (i + 1))) (by show (moreL Ls (i + 1)).length ≤ 1000000; omega) (W.drewN n) (htr'.keep fun k _ => by simp)
        rw [show (stOf 20 (moreL Ls (i + 1))).last = (moreL Ls (i + 1)).length from rfl, hll, show ((Ls.length + (i + 1) : Nat) : Int) = (Ls.length : Int) + (1 + (i : Int)) by omega] at hL9
        rw [show (((i + 1) : Nat) : Int) = (1 + (i : Int)) by omega] at cn
        have hmin := run_min_at Tryd.prog (1 + (i : Int)) (Kn.length : Int) (1 + (i : Int)) (by omega)
        have HL9 := Lib.hid hL9
        have HZ := Lib.hid (show _ ∧ _ from ⟨hx', hdef⟩)
        clear hL9 htr' ht' hn' hk' hq' hx' hdef HG HT HV
        gi_wp2
        go_wp2_with fail
        refine wp_region_quiet_lit (by kernel_rfl) (by kernel_rfl) ?_
        repeat (first
          | go_big_quiet_skip
          | (go_big_quiet_want; go_big_quiet_op; (try go_bits); first | go_big_quiet_on | go_big_quiet_call (first | exact Calls.quiet_of_same (HL9.out _))))
        refine wpQuiet_nil ?_
        intro _ hw'
        obtain ⟨nq, hw''⟩ := hw'
        subst hw''
        obtain ⟨hx', hdef⟩ := HZ.out
        go_wp2
        refine marks_ret (D := D) hdef (results_tmp rfl _ _) ⟨rfl, below_mark (Below.drewN hx' nq) (by omega) hdef⟩
end Go.Proofs.YtpndahmlbjhdfaaDoor
