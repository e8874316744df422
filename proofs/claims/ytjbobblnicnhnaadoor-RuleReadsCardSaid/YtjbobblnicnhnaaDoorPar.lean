/-
  rule.Parse.
-/
import Derived.WalkMore
import Derived.Test.YtjbobblnicnhnaaDoorRows
import Derived.Test.YtjbobblnicnhnaaDoorPol
import Derived.Test.YtjbobblnicnhnaaDoorLnl
import Derived.Test.YtjbobblnicnhnaaDoorKit
import Derived.Shelf.Abstract
namespace Go.Proofs.YtjbobblnicnhnaaDoor
open Go.RowKit Go.Shelf
set_option maxRecDepth 100000
attribute [local go_sem] Oper.semAt_some
set_option linter.unusedVariables false
set_option linter.unusedSimpArgs false

/-- What Parse answers. -/
def ParQ (w w' : World) (e : Ending) : PR → Prop
  | .long => e = .returned (.tuple #[.pointer none, .int .i64 0, .int .i64 3])
  | .bad n => e = .returned (.tuple #[.pointer none, .int .i64 (n : Int), .int .i64 4])
  | .full => e = .returned (.tuple #[.pointer none, .int .i64 0, .int .i64 8])
  | .ok rs => ∃ b, e = .returned (.tuple #[.pointer (some ⟨b, 0, none⟩), .int .i64 0, .int .i64 0]) ∧ w.heap.size ≤ b ∧ PolAt w' b rs
def ParR (l : List UInt8) (w w' : World) (e : Ending) : Prop := ParQ w w' e (parseR l)
theorem parR_of {l : List UInt8} {w w' : World} {e : Ending} {r : PR} (h : parseR l = r) (hr : ParQ w w' e r) : ParR l w w' e := by
  unfold ParR; rw [h]; exact hr
theorem infoRule : (Tryd.prog.info? 28).map (fun i => (i.zero, i.size, i.bytes)) = some (some (.agg #[.bool false, .string ⟨#[]⟩, .string ⟨#[]⟩, .string ⟨#[]⟩, .int .i64 0, .int .i64 0]), 6, 72) := by kernel_rfl

theorem ownz_shape {w : World} {base e z : Nat} {v : Value} {n : Nat} {xs : List Value} (h : w.ownsRow base e z v n xs) : ∃ ao cap, v = .slice ao n cap ∧ n ≤ cap := by
  rcases h.2 with ⟨hn, h0⟩ | ⟨g, cap, cur, hv, _, _, hn, _⟩
  · exact ⟨none, 0, by rw [hn, h0], by omega⟩
  · exact ⟨_, cap, hv, hn⟩
theorem set3 {W : World} {s : Nat} {a b c u0 u1 u2 : Value} {t0 t1 t2 : TypeId} (h0 : W.heap[s]? = some (.cells #[a] t0 (0, 0))) (h1 : W.heap[s + 1]? = some (.cells #[b] t1 (0, 0))) (h2 : W.heap[s + 2]? = some (.cells #[c] t2 (0, 0))) :
    (((W.setCell ⟨s, 0, none⟩ u0).setCell ⟨s + 1, 0, none⟩ u1).setCell ⟨s + 2, 0, none⟩ u2).heap[s]? = some (.cells #[u0] t0 (0, 0)) ∧ (((W.setCell ⟨s, 0, none⟩ u0).setCell ⟨s + 1, 0, none⟩ u1).setCell ⟨s + 2, 0, none⟩ u2).heap[s + 1]? = some (.cells #[u1] t1 (0, 0)) ∧
      (((W.setCell ⟨s, 0, none⟩ u0).setCell ⟨s + 1, 0, none⟩ u1).setCell ⟨s + 2, 0, none⟩ u2).heap[s + 2]? = some (.cells #[u2] t2 (0, 0)) ∧
      Chg (fun k => k = s ∨ k = s + 1 ∨ k = s + 2) W (((W.setCell ⟨s, 0, none⟩ u0).setCell ⟨s + 1, 0, none⟩ u1).setCell ⟨s + 2, 0, none⟩ u2) := by
  have e0 := one_setCell (u := u0) h0
  have e1 : (W.setCell ⟨s, 0, none⟩ u0).heap[s + 1]? = some (.cells #[b] t1 (0, 0)) := by rw [Below.heap_setCell _ _ _ _ (by simp)]; exact h1
  have e2 : (W.setCell ⟨s, 0, none⟩ u0).heap[s + 2]? = some (.cells #[c] t2 (0, 0)) := by rw [Below.heap_setCell _ _ _ _ (by simp)]; exact h2
  have f0 : ((W.setCell ⟨s, 0, none⟩ u0).setCell ⟨s + 1, 0, none⟩ u1).heap[s]? = some (.cells #[u0] t0 (0, 0)) := by rw [Below.heap_setCell _ _ _ _ (by simp)]; exact e0
  have f1 := one_setCell (u := u1) e1
  have f2 : ((W.setCell ⟨s, 0, none⟩ u0).setCell ⟨s + 1, 0, none⟩ u1).heap[s + 2]? = some (.cells #[c] t2 (0, 0)) := by rw [Below.heap_setCell _ _ _ _ (by simp)]; exact e2
  refine ⟨?_, ?_, one_setCell f2, (((Chg.setCell W ⟨s, 0, none⟩ u0).mono fun k h => .inl h).trans ((Chg.setCell _ ⟨s + 1, 0, none⟩ u1).mono fun k h => .inr (.inl h))).trans ((Chg.setCell _ ⟨s + 2, 0, none⟩ u2).mono fun k h => .inr (.inr h))⟩
  · rw [Below.heap_setCell _ _ _ _ (by simp)]; exact f0
  · rw [Below.heap_setCell _ _ _ _ (by simp)]; exact f1
set_option maxHeartbeats 4000000 in
theorem parse_any (l : List UInt8) (hl : l.length ≤ 100000) (w : World) (hL : Lb w) :
    Calls Tryd.prog 28 #[Str l] w fun e w' => ParR l w w' e ∧ Ext w w' := by
  refine (callsIn_wide (n := 5)).1 (callsIn_of_wp_marks Tryd.func28 rfl trivial (wpIn_wide.2 ?_) rfl)
  simp only [Tryd.ntmps28, List.size_toArray, List.length_cons, List.length_nil, Nat.reduceAdd, Nat.reduceSub, Array.replicate_succ, Array.replicate_zero, List.push_toArray, List.append_toArray, List.nil_append, List.cons_append]
  have hpr := Lib.hid (show parseR l = if 4096 < l.length then .long else
    if (lnL l).all okL then (if 32 < (rulesL (lnL l)).length then .full else .ok (rulesL (lnL l))) else .bad ((lnL l).findIdx (fun x => !okL x) + 1) from rfl)
  have HL := Lib.hid hL
  by_cases h4 : 4096 < l.length
  · have t1 : decide ((4096 : Int) < (l.length : Int)) = true := by simp; omega
    have HP := Lib.hid (show parseR l = .long by rw [hpr.out, if_pos h4])
    clear hpr h4
    go_wp2
    go_step3
    go_wp2
    simp only [Exit.noGoto]
    obtain ⟨W0, hW0⟩ : ∃ W0, ((w.alloc (.cells #[.pointer none] 37)).alloc (.cells #[.int .i64 0] 3)).alloc (.cells #[.int .i64 3] 38) = W0 := ⟨_, rfl⟩
    have hW0' : W0 = allocs w [.cells #[.pointer none] 37, .cells #[.int .i64 0] 3, .cells #[.int .i64 3] 38] := hW0.symm
    have b0 : W0.heap[w.heap.size]? = some (.cells #[.pointer none] 37 (0, 0)) := by rw [hW0']; exact allocs_at w _ 0 _ rfl
    have b1 : W0.heap[w.heap.size + 1]? = some (.cells #[.int .i64 0] 3 (0, 0)) := by rw [hW0']; exact allocs_at w _ 1 _ rfl
    have b2 : W0.heap[w.heap.size + 2]? = some (.cells #[.int .i64 3] 38 (0, 0)) := by rw [hW0']; exact allocs_at w _ 2 _ rfl
    have hext0 : Ext w W0 := by rw [hW0']; exact allocs_ext _ _
    simp only [Nat.add_assoc, Nat.reduceAdd]
    rw [hW0]
    refine ⟨_, results_cells3 rfl _ _ _ rfl rfl rfl Tryd.isAgg37 Tryd.isAgg3 Tryd.isAgg38 (cell_of b0) (cell_of b1) (cell_of b2), parR_of HP.out rfl, hext0⟩
  · have t1 : decide ((4096 : Int) < (l.length : Int)) = false := by simp; omega
    rw [if_neg h4] at hpr
    have hll := lnL_len l
    go_wp2
    go_step3
    go_wp2
    go_step3
    go_wp2_with (go_at_call 49; refine (lines_any _ _).mono ?_; rintro e w' ⟨rfl, rfl⟩)
    obtain ⟨W0, hW0⟩ : ∃ W0, (((((w.alloc (.cells #[.pointer none] 37)).alloc (.cells #[.int .i64 0] 3)).alloc (.cells #[.int .i64 0] 38)).alloc (.cells #[.slice none 0 0] 75)).alloc (.cells #[.pointer (some ⟨w.heap.size + 1 + 1 + 1, 0, none⟩)] 37)).alloc (.cells #[Str l] 9) = W0 := ⟨_, rfl⟩
    have hW0' : W0 = allocs w [.cells #[.pointer none] 37, .cells #[.int .i64 0] 3, .cells #[.int .i64 0] 38, .cells #[.slice none 0 0] 75, .cells #[.pointer (some ⟨w.heap.size + 1 + 1 + 1, 0, none⟩)] 37, .cells #[Str l] 9] := hW0.symm
    have b0 : W0.heap[w.heap.size]? = some (.cells #[.pointer none] 37 (0, 0)) := by rw [hW0']; exact allocs_at w _ 0 _ rfl
    have b1 : W0.heap[w.heap.size + 1]? = some (.cells #[.int .i64 0] 3 (0, 0)) := by rw [hW0']; exact allocs_at w _ 1 _ rfl
    have b2 : W0.heap[w.heap.size + 2]? = some (.cells #[.int .i64 0] 38 (0, 0)) := by rw [hW0']; exact allocs_at w _ 2 _ rfl
    have b3 : W0.heap[w.heap.size + 3]? = some (.cells #[.slice none 0 0] 75 (0, 0)) := by rw [hW0']; exact allocs_at w _ 3 _ rfl
    have b4 : W0.heap[w.heap.size + 4]? = some (.cells #[.pointer (some ⟨w.heap.size + 3, 0, none⟩)] 37 (0, 0)) := by rw [hW0']; exact allocs_at w _ 4 _ rfl
    have b5 : W0.heap[w.heap.size + 5]? = some (.cells #[Str l] 9 (0, 0)) := by rw [hW0']; exact allocs_at w _ 5 _ rfl
    have hext0 : Ext w W0 := by rw [hW0']; exact allocs_ext _ _
    have hsz0 : W0.heap.size = w.heap.size + 6 := by rw [hW0']; exact allocs_size _ _
    have hlt : ∀ k, libB k → k < w.heap.size := fun k hk => hL.lt hk
    simp only [Nat.add_assoc, Nat.reduceAdd]
    simp only [Nat.add_assoc, Nat.reduceAdd] at hW0
    rw [hW0]
    clear hW0 hW0'
    have hit := lines_iter l hl (w.heap.size + 5) W0 b5 (HL.out.ext hext0) (fun h => by have := hlt _ h; omega)
    have hpart := lnL_part l
    obtain ⟨ls, hls⟩ : ∃ ls, lnL l = ls := ⟨_, rfl⟩
    rw [hls] at hit hll hpr hpart
    have HPT := Lib.hid hpart
    clear hls hpart hL
    refine wpIn_wide.1 (wpIn_range (n := 5) (P := Tryd.prog) rfl (enters_of Tryd.func68 (by kernel_rfl) rfl) hit (fun k h => by rcases h with h | h; omega; have := hlt k h; omega) (fun k h => by omega) (fun _ => rfl)
      (fun i W => (ls.take i).all okL = true ∧ W.heap[w.heap.size]? = some (.cells #[.pointer none] 37 (0, 0)) ∧ W.heap[w.heap.size + 1]? = some (.cells #[.int .i64 0] 3 (0, 0)) ∧ W.heap[w.heap.size + 2]? = some (.cells #[.int .i64 0] 38 (0, 0)) ∧
        W.heap[w.heap.size + 4]? = some (.cells #[.pointer (some ⟨w.heap.size + 3, 0, none⟩)] 37 (0, 0)) ∧ ∃ v, W.heap[w.heap.size + 3]? = some (.cells #[v] 75 (0, 0)) ∧
        W.ownsRow (w.heap.size + 6) 28 6 v (rulesL (ls.take i)).length ((rulesL (ls.take i)).flatMap ruC) ∧ Below w.heap.size w W ∧ w.heap.size + 6 ≤ W.heap.size)
      (fun c i W => c = .ret ∧ (ls.all okL = false ∧ ls.findIdx (fun x => !okL x) = i) ∧ W.heap[w.heap.size]? = some (.cells #[.pointer none] 37 (0, 0)) ∧ W.heap[w.heap.size + 1]? = some (.cells #[.int .i64 ((i : Int) + 1)] 3 (0, 0)) ∧ W.heap[w.heap.size + 2]? = some (.cells #[.int .i64 4] 38 (0, 0)) ∧
        Below w.heap.size w W ∧ w.heap.size + 6 ≤ W.heap.size) ?_ ?_
      ⟨rfl, b0, b1, b2, b4, _, b3, World.ownsRow_nil _ _ _ _, hext0, by omega⟩ ?_ ?_ ?_)
    · rintro i A' C ⟨hok, h0, h1, h2, h4, v, h3, hown, hbel, hsz⟩ hm
      exact ⟨hok, hm.keeps h0 (by omega) (by omega), hm.keeps h1 (by omega) (by omega), hm.keeps h2 (by omega) (by omega), hm.keeps h4 (by omega) (by omega), v, hm.keeps h3 (by omega) (by omega), ownz_mv hown hm (fun k hk => by omega), hm.below hbel (fun k hk => by omega) (by omega) (Nat.le_refl _), Nat.le_trans hsz hm.size⟩
    · rintro c i A' C ⟨hc, hok, h0, h1, h2, hbel, hsz⟩ hm
      exact ⟨hc, hok, hm.keeps h0 (by omega) (by omega), hm.keeps h1 (by omega) (by omega), hm.keeps h2 (by omega) (by omega), hm.below hbel (fun k hk => by omega) (by omega) (Nat.le_refl _), Nat.le_trans hsz hm.size⟩
    · rintro m lp i W hi ⟨hok, h0, h1, h2, h4, v, h3, hown, hbel, hsz⟩ hlp hrec
      have hpt := (HPT.out (ls.getD i []) (by simp [List.getD, hi])).1
      have hokS := okL_snoc ls i hi hok
      have hruS := rulesL_snoc ls i hi
      have hrl := rulesL_len (ls.take i)
      have hil : (ls.take i).length ≤ i := List.length_take_le _ _
      have hokx : okL (ls.getD i []) = (skipB (ls.getD i []) || (lineO (ls.getD i [])).isSome) := rfl
      have hrux : ruL (ls.getD i []) = if skipB (ls.getD i []) then [] else (lineO (ls.getD i [])).toList := rfl
      have hskx : skipB (ls.getD i []) = ((ls.getD i [] == []) || Lib.hasPrefix (ls.getD i []) [35]) := rfl
      generalize ls.getD i [] = x at *
      have HOK := Lib.hid hokS; have HRU := Lib.hid hruS; have HOKX := Lib.hid hokx; have HRUX := Lib.hid hrux; have HSKX := Lib.hid hskx
      clear hokS hruS hokx hrux hskx hok
      gi_wp2
      refine ⟨Kp.refl _ _ _, fun W2 hm2 hrec2 => ?_⟩
      replace h0 := hm2.keeps h0 (fun h => h) (by omega)
      replace h1 := hm2.keeps h1 (fun h => h) (by omega)
      replace h2 := hm2.keeps h2 (fun h => h) (by omega)
      replace h3 := hm2.keeps h3 (fun h => h) (by omega)
      replace h4 := hm2.keeps h4 (fun h => h) (by omega)
      replace hown := ownz_mv hown hm2 (fun k hk => hk.elim)
      replace hbel := hm2.below hbel (fun k hk => hk.elim) (by omega) (Nat.le_refl _)
      replace hsz := Nat.le_trans hsz hm2.size
      clear hm2 hrec hrec2
      have hL2 : Lb W2 := HL.out.keep fun k hk => hbel.block k (hlt k hk)
      have SKIP : skipB x = true → Kp W0.heap.size (fun k => k = w.heap.size + 5 ∨ libB k) W2 W2 ∧ (ls.take (i + 1)).all okL = true ∧ W2.heap[w.heap.size]? = some (.cells #[.pointer none] 37 (0, 0)) ∧ W2.heap[w.heap.size + 1]? = some (.cells #[.int .i64 0] 3 (0, 0)) ∧ W2.heap[w.heap.size + 2]? = some (.cells #[.int .i64 0] 38 (0, 0)) ∧
          W2.heap[w.heap.size + 4]? = some (.cells #[.pointer (some ⟨w.heap.size + 3, 0, none⟩)] 37 (0, 0)) ∧ ∃ v, W2.heap[w.heap.size + 3]? = some (.cells #[v] 75 (0, 0)) ∧
          W2.ownsRow (w.heap.size + 6) 28 6 v (rulesL (ls.take (i + 1))).length ((rulesL (ls.take (i + 1))).flatMap ruC) ∧ Below w.heap.size w W2 ∧ w.heap.size + 6 ≤ W2.heap.size := fun hs => by
        have e1 : rulesL (ls.take (i + 1)) = rulesL (ls.take i) := by rw [HRU.out, HRUX.out, if_pos hs, List.append_nil]
        rw [e1]
        exact ⟨Kp.refl _ _ _, HOK.out.1 (by rw [HOKX.out, hs]; rfl), h0, h1, h2, h4, v, h3, hown, hbel, hsz⟩
      have HSKIP := Lib.hid SKIP
      have H0 := Lib.hid h0; have H1 := Lib.hid h1; have H2 := Lib.hid h2; have H3 := Lib.hid h3; have H4 := Lib.hid h4; have HOWN := Lib.hid hown
      clear SKIP h0 h1 h2 h3 h4 hown
      have HPX := Lib.hid (fun W => hasPrefix_any x [35] W)
      by_cases hx0 : x = []
      · subst hx0
        gi_wp2
        refine ⟨trivial, ?_⟩
        gi_wp2
        exact HSKIP.out rfl
      · have t0 : (x == []) = false := by simpa using hx0
        clear hx0
        cases hpx : Lib.hasPrefix x [35] with
        | true =>
          have HS := Lib.hid (show skipB x = true by rw [HSKX.out, hpx]; simp)
          rw [hpx] at HPX
          clear hpx
          gi_wp2_with (refine ⟨trivial, fun h => by simp [Fence.wide] at h, ?_⟩; gi_at_call 50; refine (CallsIn.inRound lp (callsIn_wide.2 (HPX.out _))).mono ?_; rintro e W3 ⟨rfl, rfl⟩)
          exact HSKIP.out HS.out
        | false =>
          have HS := Lib.hid (show skipB x = false by rw [HSKX.out, hpx, t0]; rfl)
          rw [hpx] at HPX
          clear hpx HSKIP HSKX
          have HLN := Lib.hid (line_any x (by omega) W2 hL2)
          gi_wp2_with (refine ⟨trivial, fun h => by simp [Fence.wide] at h, ?_⟩; gi_at_call 50; refine (CallsIn.inRound lp (callsIn_wide.2 (HPX.out _))).mono ?_; rintro e W3 ⟨he, hw⟩; subst he; subst W3; refine Hid.out ?_)
          refine Lib.hid ?_
          gi_wp2_with (refine ⟨trivial, fun h => by simp [Fence.wide] at h, ?_⟩; gi_at_call 51; refine (CallsIn.inRound lp (callsIn_wide.2 (HLN.out))).mono ?_; rintro e W4 ⟨⟨r, he, hrb, hrx⟩, hx4⟩; subst he; have HRX := Lib.hid hrx; have HX4 := Lib.hid hx4; have HRB := Lib.hid hrb; clear hrx hx4 hrb; refine Hid.out ?_)
          refine Lib.hid ?_
          have hs4 := HX4.out.size
          have q0 := (HX4.out.block _ (by omega)).trans H0.out; have q1 := (HX4.out.block _ (by omega)).trans H1.out; have q2 := (HX4.out.block _ (by omega)).trans H2.out
          have q3 := (HX4.out.block _ (by omega)).trans H3.out; have q4 := (HX4.out.block _ (by omega)).trans H4.out
          have hkp4 : Kp W0.heap.size (fun k => k = w.heap.size + 5 ∨ libB k) W2 W4 := Kp.of_ext HX4.out (fun k hk => by rcases hk with hk | hk; omega; have := hlt k hk; omega)
          have hbel4 : Below w.heap.size w W4 := hbel.trans (HX4.out.mono hbel.size)
          have hown4 := ownz_ext HOWN.out HX4.out
          clear H0 H1 H2 H3 H4 HOWN
          have H0 := Lib.hid q0; have H1 := Lib.hid q1; have H2 := Lib.hid q2; have H3 := Lib.hid q3; have H4 := Lib.hid q4; have HOWN := Lib.hid hown4; have HKP := Lib.hid hkp4; have HBL := Lib.hid hbel4
          clear q0 q1 q2 q3 q4 hkp4 hown4 hbel hbel4 HX4
          have hlow : w.heap.size + 6 ≤ W4.heap.size := by omega
          cases hlo : lineO x with
          | none =>
            rw [hlo] at HOKX
            have HBAD := Lib.hid (HOK.out.2 (by rw [HOKX.out, HS.out]; rfl))
            have c0 := cell_of H0.out; have c1 := cell_of H1.out; have c2 := cell_of H2.out
            have f0 := frozen_of H0.out; have f1 := frozen_of H1.out; have f2 := frozen_of H2.out
            clear hlo HOK
            have lowF : ∀ (W : World) (o : Obj) (k : Nat) (a : Nat), k < W.heap.size → (W.alloc o).frozen? ⟨k, a, none⟩ = W.frozen? ⟨k, a, none⟩ := fun W o k a hk => by
              simp only [World.frozen?, Below.heap_alloc W o k hk]
            have z0 : ∀ o, (W4.alloc o).frozen? ⟨w.heap.size, 0, none⟩ = false := fun o => (lowF _ _ _ _ (by omega)).trans f0
            have z1 : ∀ o a v, ((W4.setCell a v).alloc o).frozen? ⟨w.heap.size + 1, 0, none⟩ = false := fun o a v => (lowF _ _ _ _ (by simp; omega)).trans (by rw [World.frozen?_setCell]; exact f1)
            have z2 : ∀ o a v a' v', (((W4.setCell a v).setCell a' v').alloc o).frozen? ⟨w.heap.size + 2, 0, none⟩ = false := fun o a v a' v' => (lowF _ _ _ _ (by simp; omega)).trans (by rw [World.frozen?_setCell, World.frozen?_setCell]; exact f2)
            clear lowF
            have hz0 : w.heap.size < W4.heap.size := by omega
            have hz1 : w.heap.size + 1 < W4.heap.size := by omega
            have hz2 : w.heap.size + 2 < W4.heap.size := by omega
            gi_wp2
            obtain ⟨q0, q1, q2, qc⟩ := set3 (u0 := .pointer none) (u1 := .int .i64 ((i : Int) + 1)) (u2 := .int .i64 4) H0.out H1.out H2.out
            generalize (((W4.setCell ⟨w.heap.size, 0, none⟩ (.pointer none)).setCell ⟨w.heap.size + 1, 0, none⟩ (.int .i64 ((i : Int) + 1))).setCell ⟨w.heap.size + 2, 0, none⟩ (.int .i64 4)) = X at *
            have hxs := qc.size
            obtain ⟨Y, hY⟩ : ∃ Y, X.alloc (.cells #[.bool r.al, Str r.ro, Str r.te, Str r.ho, .int .i64 r.fr, .int .i64 r.to] 28) = Y := ⟨_, rfl⟩
            have hxy : Ext X Y := by rw [← hY]; exact Below.alloc (Below.refl _ _) (Nat.le_refl _) _
            have fin : Kp W0.heap.size (fun k => k = w.heap.size + 5 ∨ libB k) W2 Y ∧ Code.ret = Code.ret ∧ (ls.all okL = false ∧ ls.findIdx (fun x => !okL x) = i) ∧ Y.heap[w.heap.size]? = some (.cells #[.pointer none] 37 (0, 0)) ∧ Y.heap[w.heap.size + 1]? = some (.cells #[.int .i64 ((i : Int) + 1)] 3 (0, 0)) ∧ Y.heap[w.heap.size + 2]? = some (.cells #[.int .i64 4] 38 (0, 0)) ∧
                Below w.heap.size w Y ∧ w.heap.size + 6 ≤ Y.heap.size := by
              refine ⟨?_, rfl, HBAD.out, (hxy.block _ (by omega)).trans q0, (hxy.block _ (by omega)).trans q1, (hxy.block _ (by omega)).trans q2, (below_chg HBL.out qc (fun k hk => by omega) (Nat.le_refl _)).trans (hxy.mono (by omega)), by have := hxy.size; omega⟩
              refine HKP.out.trans ((Kp.of_chg qc (fun k hk => ?_) (fun k hk hB => by omega)).trans (Kp.of_ext hxy (fun k hk => ?_)))
              · rcases hk with hk | hk
                · omega
                · have := hlt k hk; omega
              · rcases hk with hk | hk
                · omega
                · have := hlt k hk; omega
            rw [← hY] at fin
            exact fin
          | some r' =>
            obtain rfl := HRX.out r' hlo
            rw [hlo] at HOKX HRUX
            have HGOOD := Lib.hid (HOK.out.1 (by rw [HOKX.out]; simp))
            have HRS := Lib.hid (show rulesL (ls.take (i + 1)) = rulesL (ls.take i) ++ [r] by rw [HRU.out, HRUX.out, HS.out]; simp)
            clear hlo HOK HRU HRUX
            gi_wp2
            obtain ⟨W5, hW5⟩ : ∃ W5, W4.alloc (.cells #[.bool r.al, Str r.ro, Str r.te, Str r.ho, .int .i64 r.fr, .int .i64 r.to] 28) = W5 := ⟨_, rfl⟩
            have hx5 : Ext W4 W5 := by rw [← hW5]; exact Below.alloc (Below.refl _ _) (Nat.le_refl _) _
            have hb5 : W5.heap[W4.heap.size]? = some (.cells #[.bool r.al, Str r.ro, Str r.te, Str r.ho, .int .i64 r.fr, .int .i64 r.to] 28 (0, 0)) := by rw [← hW5]; exact Array.getElem?_push_size
            rw [hW5]
            have hgg := (Array.getElem?_eq_some_iff.1 hb5).1
            have h0 := (hx5.block _ (by omega)).trans H0.out; have h1 := (hx5.block _ (by omega)).trans H1.out; have h2 := (hx5.block _ (by omega)).trans H2.out; have h3 := (hx5.block _ (by omega)).trans H3.out; have h4 := (hx5.block _ (by omega)).trans H4.out
            have hkp5 := HKP.out.trans (Kp.of_ext (B := W0.heap.size) (own := fun k => k = w.heap.size + 5 ∨ libB k) hx5 (fun k hk => by rcases hk with hk | hk; omega; have := hlt k hk; omega))
            have hbel5 : Below w.heap.size w W5 := HBL.out.trans (hx5.mono (by omega))
            have hown5 := ownz_ext HOWN.out hx5
            have hw5 : w.heap.size + 6 ≤ W5.heap.size := by omega
            obtain ⟨g0, g1, g2, g3, g4, g5⟩ := cells6 hb5
            clear hW5 hx5 hb5 H0 H1 H2 H3 H4 HKP HBL HOWN
            generalize W4.heap.size = gg at *
            have hrlen : (rulesL (ls.take i)).length ≤ 100001 := by omega
            generalize (rulesL (ls.take i)) = rsl at *
            have hmx : Tryd.prog.follows .mixedOrders = true := by kernel_rfl
            have hvb : ∀ k, v.ownBlock = some k → w.heap.size + 6 ≤ k := fun k hk => by
              rcases hown5.2 with ⟨hn, _⟩ | ⟨g, cap, cur, hv, hbg, _⟩
              · rw [hn] at hk; simp [Value.ownBlock] at hk
              · rw [hv] at hk; simp [Value.ownBlock] at hk; omega
            have c3 := cell_of h3; have c4 := cell_of h4
            have hs3 : w.heap.size + 3 < W5.heap.size := by omega
            have hs4' : w.heap.size + 4 < W5.heap.size := by omega
            have fin : ∀ (v' : Value) (w1 : World), w1.heap[w.heap.size + 3]? = some (.cells #[v] 75 (0, 0)) → w1.ownsRow (w.heap.size + 6) 28 6 v' (rsl.length + 1) (rsl.flatMap ruC ++ ruC r) → (W5.drew).grownBy w1 v.ownBlock →
                Kp W0.heap.size (fun k => k = w.heap.size + 5 ∨ libB k) W2 (w1.setCell ⟨w.heap.size + 3, 0, none⟩ v') ∧ (ls.take (i + 1)).all okL = true ∧ (w1.setCell ⟨w.heap.size + 3, 0, none⟩ v').heap[w.heap.size]? = some (.cells #[.pointer none] 37 (0, 0)) ∧ (w1.setCell ⟨w.heap.size + 3, 0, none⟩ v').heap[w.heap.size + 1]? = some (.cells #[.int .i64 0] 3 (0, 0)) ∧ (w1.setCell ⟨w.heap.size + 3, 0, none⟩ v').heap[w.heap.size + 2]? = some (.cells #[.int .i64 0] 38 (0, 0)) ∧
                  (w1.setCell ⟨w.heap.size + 3, 0, none⟩ v').heap[w.heap.size + 4]? = some (.cells #[.pointer (some ⟨w.heap.size + 3, 0, none⟩)] 37 (0, 0)) ∧ ∃ v2, (w1.setCell ⟨w.heap.size + 3, 0, none⟩ v').heap[w.heap.size + 3]? = some (.cells #[v2] 75 (0, 0)) ∧
                  (w1.setCell ⟨w.heap.size + 3, 0, none⟩ v').ownsRow (w.heap.size + 6) 28 6 v2 (rulesL (ls.take (i + 1))).length ((rulesL (ls.take (i + 1))).flatMap ruC) ∧ Below w.heap.size w (w1.setCell ⟨w.heap.size + 3, 0, none⟩ v') ∧ w.heap.size + 6 ≤ (w1.setCell ⟨w.heap.size + 3, 0, none⟩ v').heap.size := by
              intro v' w1 hm3 hown1 hg
              have hg' : W5.grownBy w1 v.ownBlock := ⟨hg.os, hg.tape, hg.output, hg.size, hg.block⟩
              have hgs := hg'.size
              have hlow1 : ∀ k, k < w.heap.size + 6 → w1.heap[k]? = W5.heap[k]? := fun k hk => hg'.block k (by omega) (fun e => by have := hvb k e.symm; omega)
              have hc := Chg.setCell w1 ⟨w.heap.size + 3, 0, none⟩ v'
              refine ⟨?_, HGOOD.out, (hc.block _ (by omega) (by simp)).trans ((hlow1 _ (by omega)).trans h0), (hc.block _ (by omega) (by simp)).trans ((hlow1 _ (by omega)).trans h1), (hc.block _ (by omega) (by simp)).trans ((hlow1 _ (by omega)).trans h2), (hc.block _ (by omega) (by simp)).trans ((hlow1 _ (by omega)).trans h4), v', one_setCell hm3, ?_, ?_, by simp; omega⟩
              · refine hkp5.trans ((Kp.of_grown hg' (fun k hk => ?_) (fun k hk => ?_)).trans (Kp.of_chg hc (fun k hk => ?_) (fun k hk hB => by simp at hk; omega)))
                · rcases hk with hk | hk
                  · exact ⟨by omega, fun e => by have := hvb k e; omega⟩
                  · have := hlt k hk; exact ⟨by omega, fun e => by have := hvb k e; omega⟩
                · rcases hown5.2 with ⟨hn, _⟩ | ⟨g, cap, cur, hv, _, hgg, _⟩
                  · rw [hn] at hk; simp [Value.ownBlock] at hk
                  · rw [hv] at hk; simp [Value.ownBlock] at hk; subst hk; exact ⟨_, kind_of_cells hgg⟩
                · rcases hk with hk | hk
                  · simp; omega
                  · have := hlt k hk; simp; omega
              · rw [HRS.out, List.length_append, List.flatMap_append]
                simp only [List.length_cons, List.length_nil, List.flatMap_cons, List.flatMap_nil, List.append_nil]
                exact ownz_keep hown1 fun g hg2 hbg hk => hc.block g (kind_lt hk) (by simp; omega)
              · exact below_chg (hbel5.grown hg' (by omega) (fun k hk => by have := hvb k hk; omega)) hc (by simp; try omega) (Nat.le_refl _)
            have HO : Hid (W5.drew.ownsRow (w.heap.size + 6) 28 6 v rsl.length (rsl.flatMap ruC)) := Lib.hid (ownz_ext hown5 (Below.drew (Below.refl _ _)))
            have Fin := Lib.hid fin; have HB3 := Lib.hid h3; have HB4 := Lib.hid h4
            clear fin h0 h1 h2 h3 h4 hown5 hkp5 hbel5 HRS HGOOD
            refine wpIn_region_unround (r := some lp) hmx (by kernel_rfl) ?_
            -- region 11
            refine wpAnyIn_ready (rs := [0, 1, 5]) (by kernel_rfl) (by simp) ?_
            refine AllReadyIn.cons rfl (fun K hK => ?_) ?_
            · skip
              go_simp
              refine hK _ _ ?_
              clear hK K
              refine wpAnyIn_ready (rs := [1, 5]) (by kernel_rfl) (by simp) ?_
              refine AllReadyIn.cons rfl (fun K hK => ?_) ?_
              · skip
                go_simp
                refine hK _ _ ?_
                clear hK K
                refine wpAnyIn_take (i := 2) (v := ?_) rfl rfl (by kernel_rfl) (by kernel_rfl) (by kernel_rfl) (fun _ _ _ h => h) ⟨Or.inl ⟨by rfl, ?_⟩, fun _ => rfl⟩ ?_
                rotate_left 1
                · (intro _; go_simp; (try with_reducible rfl))
                refine wpAnyIn_take (i := 3) (v := ?_) rfl rfl (by kernel_rfl) (by kernel_rfl) (by kernel_rfl) (fun _ _ _ h => h) ⟨Or.inl ⟨by rfl, ?_⟩, fun _ => rfl⟩ ?_
                rotate_left 1
                · (intro _; go_simp; (try with_reducible rfl))
                refine wpAnyIn_ready (rs := [4, 5]) (by kernel_rfl) (by simp) ?_
                refine AllReadyIn.cons rfl (fun K hK => ?_) ?_
                · skip
                  go_simp
                  refine hK _ _ ?_
                  clear hK K
                  refine wpAnyIn_ready (rs := [5]) (by kernel_rfl) (by simp) ?_
                  refine AllReadyIn.cons rfl (fun K hK => ?_) AllReadyIn.nil
                  go_simp
                  refine hK _ _ ?_
                  clear hK K
                  refine wpAnyIn_ready (rs := [6]) (by kernel_rfl) (by simp) ?_
                  refine AllReadyIn.cons rfl (fun K hK => ?_) AllReadyIn.nil
                  go_simp
                  refine hK _ _ ?_
                  clear hK K
                  refine wpAnyIn_ready (rs := [7]) (by kernel_rfl) (by simp) ?_
                  refine AllReadyIn.cons rfl (fun K hK => ?_) AllReadyIn.nil
                  (try rw [drew_alloc]; refine stepIn_push (w.heap.size + 6) rfl _ _ 35 28 rfl Tryd.underlying35 infoRule rfl (by omega) (by omega) (us := ruC r) HO.out rfl (by simp [Str, Value.oneCell']) (by omega) hw5 rfl rfl ?_; rintro _ w1 ⟨g1, cap1, rfl⟩ hown1 hgr1; have hm3 := (hgr1.block (w.heap.size + 3) (by show _ < W5.heap.size; omega) (fun e => by have := hvb _ e.symm; omega)).trans HB3.out; have hm4 := (hgr1.block (w.heap.size + 4) (by show _ < W5.heap.size; omega) (fun e => by have := hvb _ e.symm; omega)).trans HB4.out; have d3 : w1.cell? ⟨w.heap.size + 3, 0, none⟩ = some v := cell_of hm3; have e3 : w1.frozen? ⟨w.heap.size + 3, 0, none⟩ = false := frozen_of hm3; have d4 : w1.cell? ⟨w.heap.size + 4, 0, none⟩ = some (.pointer (some ⟨w.heap.size + 3, 0, none⟩)) := cell_of hm4; have Hm3 := Lib.hid hm3; have Hown1 := Lib.hid hown1; have Hgr1 := Lib.hid hgr1; clear hm3 hm4 hown1 hgr1)
                  try go_simp
                  refine hK _ _ ?_
                  clear hK K
                  refine wpAnyIn_take (i := 8) (v := ?_) rfl rfl (by kernel_rfl) (by kernel_rfl) (by kernel_rfl) (fun _ _ _ h => h) ⟨Or.inl ⟨by rfl, ?_⟩, fun _ => rfl⟩ ?_
                  rotate_left 1
                  · (intro _; go_simp; (try with_reducible rfl))
                  refine wpAnyIn_take (i := 9) (v := ?_) rfl rfl (by kernel_rfl) (by kernel_rfl) (by kernel_rfl) (fun _ _ _ h => h) ⟨Or.inl ⟨by rfl, ?_⟩, fun _ => rfl⟩ ?_
                  rotate_left 1
                  · (intro _; go_simp; (try with_reducible rfl))
                  refine wpAnyIn_ready (rs := [10]) (by kernel_rfl) (by simp) ?_
                  refine AllReadyIn.cons rfl (fun K hK => ?_) AllReadyIn.nil
                  go_simp
                  refine hK _ _ ?_
                  clear hK K
                  refine wpAnyIn_done (by kernel_rfl) ?_ _
                  gi_wp2
                  exact Fin.out _ _ Hm3.out Hown1.out Hgr1.out
                refine AllReadyIn.cons rfl (fun K hK => ?_) ?_
                · skip
                  go_simp
                  refine hK _ _ ?_
                  clear hK K
                  refine wpAnyIn_ready (rs := [4, 6]) (by kernel_rfl) (by simp) ?_
                  refine AllReadyIn.cons rfl (fun K hK => ?_) ?_
                  · skip
                    go_simp
                    refine hK _ _ ?_
                    clear hK K
                    refine wpAnyIn_ready (rs := [6]) (by kernel_rfl) (by simp) ?_
                    refine AllReadyIn.cons rfl (fun K hK => ?_) AllReadyIn.nil
                    go_simp
                    refine hK _ _ ?_
                    clear hK K
                    refine wpAnyIn_ready (rs := [7]) (by kernel_rfl) (by simp) ?_
                    refine AllReadyIn.cons rfl (fun K hK => ?_) AllReadyIn.nil
                    (try rw [drew_alloc]; refine stepIn_push (w.heap.size + 6) rfl _ _ 35 28 rfl Tryd.underlying35 infoRule rfl (by omega) (by omega) (us := ruC r) HO.out rfl (by simp [Str, Value.oneCell']) (by omega) hw5 rfl rfl ?_; rintro _ w1 ⟨g1, cap1, rfl⟩ hown1 hgr1; have hm3 := (hgr1.block (w.heap.size + 3) (by show _ < W5.heap.size; omega) (fun e => by have := hvb _ e.symm; omega)).trans HB3.out; have hm4 := (hgr1.block (w.heap.size + 4) (by show _ < W5.heap.size; omega) (fun e => by have := hvb _ e.symm; omega)).trans HB4.out; have d3 : w1.cell? ⟨w.heap.size + 3, 0, none⟩ = some v := cell_of hm3; have e3 : w1.frozen? ⟨w.heap.size + 3, 0, none⟩ = false := frozen_of hm3; have d4 : w1.cell? ⟨w.heap.size + 4, 0, none⟩ = some (.pointer (some ⟨w.heap.size + 3, 0, none⟩)) := cell_of hm4; have Hm3 := Lib.hid hm3; have Hown1 := Lib.hid hown1; have Hgr1 := Lib.hid hgr1; clear hm3 hm4 hown1 hgr1)
                    try go_simp
                    refine hK _ _ ?_
                    clear hK K
                    refine wpAnyIn_take (i := 8) (v := ?_) rfl rfl (by kernel_rfl) (by kernel_rfl) (by kernel_rfl) (fun _ _ _ h => h) ⟨Or.inl ⟨by rfl, ?_⟩, fun _ => rfl⟩ ?_
                    rotate_left 1
                    · (intro _; go_simp; (try with_reducible rfl))
                    refine wpAnyIn_take (i := 9) (v := ?_) rfl rfl (by kernel_rfl) (by kernel_rfl) (by kernel_rfl) (fun _ _ _ h => h) ⟨Or.inl ⟨by rfl, ?_⟩, fun _ => rfl⟩ ?_
                    rotate_left 1
                    · (intro _; go_simp; (try with_reducible rfl))
                    refine wpAnyIn_ready (rs := [10]) (by kernel_rfl) (by simp) ?_
                    refine AllReadyIn.cons rfl (fun K hK => ?_) AllReadyIn.nil
                    go_simp
                    refine hK _ _ ?_
                    clear hK K
                    refine wpAnyIn_done (by kernel_rfl) ?_ _
                    gi_wp2
                    exact Fin.out _ _ Hm3.out Hown1.out Hgr1.out
                  refine AllReadyIn.cons rfl (fun K hK => ?_) ?_
                  · skip
                    go_simp
                    refine hK _ _ ?_
                    clear hK K
                    refine wpAnyIn_ready (rs := [4]) (by kernel_rfl) (by simp) ?_
                    refine AllReadyIn.cons rfl (fun K hK => ?_) AllReadyIn.nil
                    go_simp
                    refine hK _ _ ?_
                    clear hK K
                    refine wpAnyIn_ready (rs := [7]) (by kernel_rfl) (by simp) ?_
                    refine AllReadyIn.cons rfl (fun K hK => ?_) AllReadyIn.nil
                    (try rw [drew_alloc]; refine stepIn_push (w.heap.size + 6) rfl _ _ 35 28 rfl Tryd.underlying35 infoRule rfl (by omega) (by omega) (us := ruC r) HO.out rfl (by simp [Str, Value.oneCell']) (by omega) hw5 rfl rfl ?_; rintro _ w1 ⟨g1, cap1, rfl⟩ hown1 hgr1; have hm3 := (hgr1.block (w.heap.size + 3) (by show _ < W5.heap.size; omega) (fun e => by have := hvb _ e.symm; omega)).trans HB3.out; have hm4 := (hgr1.block (w.heap.size + 4) (by show _ < W5.heap.size; omega) (fun e => by have := hvb _ e.symm; omega)).trans HB4.out; have d3 : w1.cell? ⟨w.heap.size + 3, 0, none⟩ = some v := cell_of hm3; have e3 : w1.frozen? ⟨w.heap.size + 3, 0, none⟩ = false := frozen_of hm3; have d4 : w1.cell? ⟨w.heap.size + 4, 0, none⟩ = some (.pointer (some ⟨w.heap.size + 3, 0, none⟩)) := cell_of hm4; have Hm3 := Lib.hid hm3; have Hown1 := Lib.hid hown1; have Hgr1 := Lib.hid hgr1; clear hm3 hm4 hown1 hgr1)
                    try go_simp
                    refine hK _ _ ?_
                    clear hK K
                    refine wpAnyIn_take (i := 8) (v := ?_) rfl rfl (by kernel_rfl) (by kernel_rfl) (by kernel_rfl) (fun _ _ _ h => h) ⟨Or.inl ⟨by rfl, ?_⟩, fun _ => rfl⟩ ?_
                    rotate_left 1
                    · (intro _; go_simp; (try with_reducible rfl))
                    refine wpAnyIn_take (i := 9) (v := ?_) rfl rfl (by kernel_rfl) (by kernel_rfl) (by kernel_rfl) (fun _ _ _ h => h) ⟨Or.inl ⟨by rfl, ?_⟩, fun _ => rfl⟩ ?_
                    rotate_left 1
                    · (intro _; go_simp; (try with_reducible rfl))
                    refine wpAnyIn_ready (rs := [10]) (by kernel_rfl) (by simp) ?_
                    refine AllReadyIn.cons rfl (fun K hK => ?_) AllReadyIn.nil
                    go_simp
                    refine hK _ _ ?_
                    clear hK K
                    refine wpAnyIn_done (by kernel_rfl) ?_ _
                    gi_wp2
                    exact Fin.out _ _ Hm3.out Hown1.out Hgr1.out
                  exact AllReadyIn.nil
                exact AllReadyIn.nil
              refine AllReadyIn.cons rfl (fun K hK => ?_) ?_
              · skip
                go_simp
                refine hK _ _ ?_
                clear hK K
                refine wpAnyIn_ready (rs := [1, 6]) (by kernel_rfl) (by simp) ?_
                refine AllReadyIn.cons rfl (fun K hK => ?_) ?_
                · skip
                  go_simp
                  refine hK _ _ ?_
                  clear hK K
                  refine wpAnyIn_take (i := 2) (v := ?_) rfl rfl (by kernel_rfl) (by kernel_rfl) (by kernel_rfl) (fun _ _ _ h => h) ⟨Or.inl ⟨by rfl, ?_⟩, fun _ => rfl⟩ ?_
                  rotate_left 1
                  · (intro _; go_simp; (try with_reducible rfl))
                  refine wpAnyIn_take (i := 3) (v := ?_) rfl rfl (by kernel_rfl) (by kernel_rfl) (by kernel_rfl) (fun _ _ _ h => h) ⟨Or.inl ⟨by rfl, ?_⟩, fun _ => rfl⟩ ?_
                  rotate_left 1
                  · (intro _; go_simp; (try with_reducible rfl))
                  refine wpAnyIn_ready (rs := [4, 6]) (by kernel_rfl) (by simp) ?_
                  refine AllReadyIn.cons rfl (fun K hK => ?_) ?_
                  · skip
                    go_simp
                    refine hK _ _ ?_
                    clear hK K
                    refine wpAnyIn_ready (rs := [6]) (by kernel_rfl) (by simp) ?_
                    refine AllReadyIn.cons rfl (fun K hK => ?_) AllReadyIn.nil
                    go_simp
                    refine hK _ _ ?_
                    clear hK K
                    refine wpAnyIn_ready (rs := [7]) (by kernel_rfl) (by simp) ?_
                    refine AllReadyIn.cons rfl (fun K hK => ?_) AllReadyIn.nil
                    (try rw [drew_alloc]; refine stepIn_push (w.heap.size + 6) rfl _ _ 35 28 rfl Tryd.underlying35 infoRule rfl (by omega) (by omega) (us := ruC r) HO.out rfl (by simp [Str, Value.oneCell']) (by omega) hw5 rfl rfl ?_; rintro _ w1 ⟨g1, cap1, rfl⟩ hown1 hgr1; have hm3 := (hgr1.block (w.heap.size + 3) (by show _ < W5.heap.size; omega) (fun e => by have := hvb _ e.symm; omega)).trans HB3.out; have hm4 := (hgr1.block (w.heap.size + 4) (by show _ < W5.heap.size; omega) (fun e => by have := hvb _ e.symm; omega)).trans HB4.out; have d3 : w1.cell? ⟨w.heap.size + 3, 0, none⟩ = some v := cell_of hm3; have e3 : w1.frozen? ⟨w.heap.size + 3, 0, none⟩ = false := frozen_of hm3; have d4 : w1.cell? ⟨w.heap.size + 4, 0, none⟩ = some (.pointer (some ⟨w.heap.size + 3, 0, none⟩)) := cell_of hm4; have Hm3 := Lib.hid hm3; have Hown1 := Lib.hid hown1; have Hgr1 := Lib.hid hgr1; clear hm3 hm4 hown1 hgr1)
                    try go_simp
                    refine hK _ _ ?_
                    clear hK K
                    refine wpAnyIn_take (i := 8) (v := ?_) rfl rfl (by kernel_rfl) (by kernel_rfl) (by kernel_rfl) (fun _ _ _ h => h) ⟨Or.inl ⟨by rfl, ?_⟩, fun _ => rfl⟩ ?_
                    rotate_left 1
                    · (intro _; go_simp; (try with_reducible rfl))
                    refine wpAnyIn_take (i := 9) (v := ?_) rfl rfl (by kernel_rfl) (by kernel_rfl) (by kernel_rfl) (fun _ _ _ h => h) ⟨Or.inl ⟨by rfl, ?_⟩, fun _ => rfl⟩ ?_
                    rotate_left 1
                    · (intro _; go_simp; (try with_reducible rfl))
                    refine wpAnyIn_ready (rs := [10]) (by kernel_rfl) (by simp) ?_
                    refine AllReadyIn.cons rfl (fun K hK => ?_) AllReadyIn.nil
                    go_simp
                    refine hK _ _ ?_
                    clear hK K
                    refine wpAnyIn_done (by kernel_rfl) ?_ _
                    gi_wp2
                    exact Fin.out _ _ Hm3.out Hown1.out Hgr1.out
                  refine AllReadyIn.cons rfl (fun K hK => ?_) ?_
                  · skip
                    go_simp
                    refine hK _ _ ?_
                    clear hK K
                    refine wpAnyIn_ready (rs := [4]) (by kernel_rfl) (by simp) ?_
                    refine AllReadyIn.cons rfl (fun K hK => ?_) AllReadyIn.nil
                    go_simp
                    refine hK _ _ ?_
                    clear hK K
                    refine wpAnyIn_ready (rs := [7]) (by kernel_rfl) (by simp) ?_
                    refine AllReadyIn.cons rfl (fun K hK => ?_) AllReadyIn.nil
                    (try rw [drew_alloc]; refine stepIn_push (w.heap.size + 6) rfl _ _ 35 28 rfl Tryd.underlying35 infoRule rfl (by omega) (by omega) (us := ruC r) HO.out rfl (by simp [Str, Value.oneCell']) (by omega) hw5 rfl rfl ?_; rintro _ w1 ⟨g1, cap1, rfl⟩ hown1 hgr1; have hm3 := (hgr1.block (w.heap.size + 3) (by show _ < W5.heap.size; omega) (fun e => by have := hvb _ e.symm; omega)).trans HB3.out; have hm4 := (hgr1.block (w.heap.size + 4) (by show _ < W5.heap.size; omega) (fun e => by have := hvb _ e.symm; omega)).trans HB4.out; have d3 : w1.cell? ⟨w.heap.size + 3, 0, none⟩ = some v := cell_of hm3; have e3 : w1.frozen? ⟨w.heap.size + 3, 0, none⟩ = false := frozen_of hm3; have d4 : w1.cell? ⟨w.heap.size + 4, 0, none⟩ = some (.pointer (some ⟨w.heap.size + 3, 0, none⟩)) := cell_of hm4; have Hm3 := Lib.hid hm3; have Hown1 := Lib.hid hown1; have Hgr1 := Lib.hid hgr1; clear hm3 hm4 hown1 hgr1)
                    try go_simp
                    refine hK _ _ ?_
                    clear hK K
                    refine wpAnyIn_take (i := 8) (v := ?_) rfl rfl (by kernel_rfl) (by kernel_rfl) (by kernel_rfl) (fun _ _ _ h => h) ⟨Or.inl ⟨by rfl, ?_⟩, fun _ => rfl⟩ ?_
                    rotate_left 1
                    · (intro _; go_simp; (try with_reducible rfl))
                    refine wpAnyIn_take (i := 9) (v := ?_) rfl rfl (by kernel_rfl) (by kernel_rfl) (by kernel_rfl) (fun _ _ _ h => h) ⟨Or.inl ⟨by rfl, ?_⟩, fun _ => rfl⟩ ?_
                    rotate_left 1
                    · (intro _; go_simp; (try with_reducible rfl))
                    refine wpAnyIn_ready (rs := [10]) (by kernel_rfl) (by simp) ?_
                    refine AllReadyIn.cons rfl (fun K hK => ?_) AllReadyIn.nil
                    go_simp
                    refine hK _ _ ?_
                    clear hK K
                    refine wpAnyIn_done (by kernel_rfl) ?_ _
                    gi_wp2
                    exact Fin.out _ _ Hm3.out Hown1.out Hgr1.out
                  exact AllReadyIn.nil
                refine AllReadyIn.cons rfl (fun K hK => ?_) ?_
                · skip
                  go_simp
                  refine hK _ _ ?_
                  clear hK K
                  refine wpAnyIn_ready (rs := [1]) (by kernel_rfl) (by simp) ?_
                  refine AllReadyIn.cons rfl (fun K hK => ?_) AllReadyIn.nil
                  go_simp
                  refine hK _ _ ?_
                  clear hK K
                  refine wpAnyIn_take (i := 2) (v := ?_) rfl rfl (by kernel_rfl) (by kernel_rfl) (by kernel_rfl) (fun _ _ _ h => h) ⟨Or.inl ⟨by rfl, ?_⟩, fun _ => rfl⟩ ?_
                  rotate_left 1
                  · (intro _; go_simp; (try with_reducible rfl))
                  refine wpAnyIn_take (i := 3) (v := ?_) rfl rfl (by kernel_rfl) (by kernel_rfl) (by kernel_rfl) (fun _ _ _ h => h) ⟨Or.inl ⟨by rfl, ?_⟩, fun _ => rfl⟩ ?_
                  rotate_left 1
                  · (intro _; go_simp; (try with_reducible rfl))
                  refine wpAnyIn_ready (rs := [4]) (by kernel_rfl) (by simp) ?_
                  refine AllReadyIn.cons rfl (fun K hK => ?_) AllReadyIn.nil
                  go_simp
                  refine hK _ _ ?_
                  clear hK K
                  refine wpAnyIn_ready (rs := [7]) (by kernel_rfl) (by simp) ?_
                  refine AllReadyIn.cons rfl (fun K hK => ?_) AllReadyIn.nil
                  (try rw [drew_alloc]; refine stepIn_push (w.heap.size + 6) rfl _ _ 35 28 rfl Tryd.underlying35 infoRule rfl (by omega) (by omega) (us := ruC r) HO.out rfl (by simp [Str, Value.oneCell']) (by omega) hw5 rfl rfl ?_; rintro _ w1 ⟨g1, cap1, rfl⟩ hown1 hgr1; have hm3 := (hgr1.block (w.heap.size + 3) (by show _ < W5.heap.size; omega) (fun e => by have := hvb _ e.symm; omega)).trans HB3.out; have hm4 := (hgr1.block (w.heap.size + 4) (by show _ < W5.heap.size; omega) (fun e => by have := hvb _ e.symm; omega)).trans HB4.out; have d3 : w1.cell? ⟨w.heap.size + 3, 0, none⟩ = some v := cell_of hm3; have e3 : w1.frozen? ⟨w.heap.size + 3, 0, none⟩ = false := frozen_of hm3; have d4 : w1.cell? ⟨w.heap.size + 4, 0, none⟩ = some (.pointer (some ⟨w.heap.size + 3, 0, none⟩)) := cell_of hm4; have Hm3 := Lib.hid hm3; have Hown1 := Lib.hid hown1; have Hgr1 := Lib.hid hgr1; clear hm3 hm4 hown1 hgr1)
                  try go_simp
                  refine hK _ _ ?_
                  clear hK K
                  refine wpAnyIn_take (i := 8) (v := ?_) rfl rfl (by kernel_rfl) (by kernel_rfl) (by kernel_rfl) (fun _ _ _ h => h) ⟨Or.inl ⟨by rfl, ?_⟩, fun _ => rfl⟩ ?_
                  rotate_left 1
                  · (intro _; go_simp; (try with_reducible rfl))
                  refine wpAnyIn_take (i := 9) (v := ?_) rfl rfl (by kernel_rfl) (by kernel_rfl) (by kernel_rfl) (fun _ _ _ h => h) ⟨Or.inl ⟨by rfl, ?_⟩, fun _ => rfl⟩ ?_
                  rotate_left 1
                  · (intro _; go_simp; (try with_reducible rfl))
                  refine wpAnyIn_ready (rs := [10]) (by kernel_rfl) (by simp) ?_
                  refine AllReadyIn.cons rfl (fun K hK => ?_) AllReadyIn.nil
                  go_simp
                  refine hK _ _ ?_
                  clear hK K
                  refine wpAnyIn_done (by kernel_rfl) ?_ _
                  gi_wp2
                  exact Fin.out _ _ Hm3.out Hown1.out Hgr1.out
                exact AllReadyIn.nil
              exact AllReadyIn.nil
            refine AllReadyIn.cons rfl (fun K hK => ?_) ?_
            · skip
              go_simp
              refine hK _ _ ?_
              clear hK K
              refine wpAnyIn_take (i := 2) (v := ?_) rfl rfl (by kernel_rfl) (by kernel_rfl) (by kernel_rfl) (fun _ _ _ h => h) ⟨Or.inl ⟨by rfl, ?_⟩, fun _ => rfl⟩ ?_
              rotate_left 1
              · (intro _; go_simp; (try with_reducible rfl))
              refine wpAnyIn_take (i := 3) (v := ?_) rfl rfl (by kernel_rfl) (by kernel_rfl) (by kernel_rfl) (fun _ _ _ h => h) ⟨Or.inl ⟨by rfl, ?_⟩, fun _ => rfl⟩ ?_
              rotate_left 1
              · (intro _; go_simp; (try with_reducible rfl))
              refine wpAnyIn_ready (rs := [0, 4, 5]) (by kernel_rfl) (by simp) ?_
              refine AllReadyIn.cons rfl (fun K hK => ?_) ?_
              · skip
                go_simp
                refine hK _ _ ?_
                clear hK K
                refine wpAnyIn_ready (rs := [4, 5]) (by kernel_rfl) (by simp) ?_
                refine AllReadyIn.cons rfl (fun K hK => ?_) ?_
                · skip
                  go_simp
                  refine hK _ _ ?_
                  clear hK K
                  refine wpAnyIn_ready (rs := [5]) (by kernel_rfl) (by simp) ?_
                  refine AllReadyIn.cons rfl (fun K hK => ?_) AllReadyIn.nil
                  go_simp
                  refine hK _ _ ?_
                  clear hK K
                  refine wpAnyIn_ready (rs := [6]) (by kernel_rfl) (by simp) ?_
                  refine AllReadyIn.cons rfl (fun K hK => ?_) AllReadyIn.nil
                  go_simp
                  refine hK _ _ ?_
                  clear hK K
                  refine wpAnyIn_ready (rs := [7]) (by kernel_rfl) (by simp) ?_
                  refine AllReadyIn.cons rfl (fun K hK => ?_) AllReadyIn.nil
                  (try rw [drew_alloc]; refine stepIn_push (w.heap.size + 6) rfl _ _ 35 28 rfl Tryd.underlying35 infoRule rfl (by omega) (by omega) (us := ruC r) HO.out rfl (by simp [Str, Value.oneCell']) (by omega) hw5 rfl rfl ?_; rintro _ w1 ⟨g1, cap1, rfl⟩ hown1 hgr1; have hm3 := (hgr1.block (w.heap.size + 3) (by show _ < W5.heap.size; omega) (fun e => by have := hvb _ e.symm; omega)).trans HB3.out; have hm4 := (hgr1.block (w.heap.size + 4) (by show _ < W5.heap.size; omega) (fun e => by have := hvb _ e.symm; omega)).trans HB4.out; have d3 : w1.cell? ⟨w.heap.size + 3, 0, none⟩ = some v := cell_of hm3; have e3 : w1.frozen? ⟨w.heap.size + 3, 0, none⟩ = false := frozen_of hm3; have d4 : w1.cell? ⟨w.heap.size + 4, 0, none⟩ = some (.pointer (some ⟨w.heap.size + 3, 0, none⟩)) := cell_of hm4; have Hm3 := Lib.hid hm3; have Hown1 := Lib.hid hown1; have Hgr1 := Lib.hid hgr1; clear hm3 hm4 hown1 hgr1)
                  try go_simp
                  refine hK _ _ ?_
                  clear hK K
                  refine wpAnyIn_take (i := 8) (v := ?_) rfl rfl (by kernel_rfl) (by kernel_rfl) (by kernel_rfl) (fun _ _ _ h => h) ⟨Or.inl ⟨by rfl, ?_⟩, fun _ => rfl⟩ ?_
                  rotate_left 1
                  · (intro _; go_simp; (try with_reducible rfl))
                  refine wpAnyIn_take (i := 9) (v := ?_) rfl rfl (by kernel_rfl) (by kernel_rfl) (by kernel_rfl) (fun _ _ _ h => h) ⟨Or.inl ⟨by rfl, ?_⟩, fun _ => rfl⟩ ?_
                  rotate_left 1
                  · (intro _; go_simp; (try with_reducible rfl))
                  refine wpAnyIn_ready (rs := [10]) (by kernel_rfl) (by simp) ?_
                  refine AllReadyIn.cons rfl (fun K hK => ?_) AllReadyIn.nil
                  go_simp
                  refine hK _ _ ?_
                  clear hK K
                  refine wpAnyIn_done (by kernel_rfl) ?_ _
                  gi_wp2
                  exact Fin.out _ _ Hm3.out Hown1.out Hgr1.out
                refine AllReadyIn.cons rfl (fun K hK => ?_) ?_
                · skip
                  go_simp
                  refine hK _ _ ?_
                  clear hK K
                  refine wpAnyIn_ready (rs := [4, 6]) (by kernel_rfl) (by simp) ?_
                  refine AllReadyIn.cons rfl (fun K hK => ?_) ?_
                  · skip
                    go_simp
                    refine hK _ _ ?_
                    clear hK K
                    refine wpAnyIn_ready (rs := [6]) (by kernel_rfl) (by simp) ?_
                    refine AllReadyIn.cons rfl (fun K hK => ?_) AllReadyIn.nil
                    go_simp
                    refine hK _ _ ?_
                    clear hK K
                    refine wpAnyIn_ready (rs := [7]) (by kernel_rfl) (by simp) ?_
                    refine AllReadyIn.cons rfl (fun K hK => ?_) AllReadyIn.nil
                    (try rw [drew_alloc]; refine stepIn_push (w.heap.size + 6) rfl _ _ 35 28 rfl Tryd.underlying35 infoRule rfl (by omega) (by omega) (us := ruC r) HO.out rfl (by simp [Str, Value.oneCell']) (by omega) hw5 rfl rfl ?_; rintro _ w1 ⟨g1, cap1, rfl⟩ hown1 hgr1; have hm3 := (hgr1.block (w.heap.size + 3) (by show _ < W5.heap.size; omega) (fun e => by have := hvb _ e.symm; omega)).trans HB3.out; have hm4 := (hgr1.block (w.heap.size + 4) (by show _ < W5.heap.size; omega) (fun e => by have := hvb _ e.symm; omega)).trans HB4.out; have d3 : w1.cell? ⟨w.heap.size + 3, 0, none⟩ = some v := cell_of hm3; have e3 : w1.frozen? ⟨w.heap.size + 3, 0, none⟩ = false := frozen_of hm3; have d4 : w1.cell? ⟨w.heap.size + 4, 0, none⟩ = some (.pointer (some ⟨w.heap.size + 3, 0, none⟩)) := cell_of hm4; have Hm3 := Lib.hid hm3; have Hown1 := Lib.hid hown1; have Hgr1 := Lib.hid hgr1; clear hm3 hm4 hown1 hgr1)
                    try go_simp
                    refine hK _ _ ?_
                    clear hK K
                    refine wpAnyIn_take (i := 8) (v := ?_) rfl rfl (by kernel_rfl) (by kernel_rfl) (by kernel_rfl) (fun _ _ _ h => h) ⟨Or.inl ⟨by rfl, ?_⟩, fun _ => rfl⟩ ?_
                    rotate_left 1
                    · (intro _; go_simp; (try with_reducible rfl))
                    refine wpAnyIn_take (i := 9) (v := ?_) rfl rfl (by kernel_rfl) (by kernel_rfl) (by kernel_rfl) (fun _ _ _ h => h) ⟨Or.inl ⟨by rfl, ?_⟩, fun _ => rfl⟩ ?_
                    rotate_left 1
                    · (intro _; go_simp; (try with_reducible rfl))
                    refine wpAnyIn_ready (rs := [10]) (by kernel_rfl) (by simp) ?_
                    refine AllReadyIn.cons rfl (fun K hK => ?_) AllReadyIn.nil
                    go_simp
                    refine hK _ _ ?_
                    clear hK K
                    refine wpAnyIn_done (by kernel_rfl) ?_ _
                    gi_wp2
                    exact Fin.out _ _ Hm3.out Hown1.out Hgr1.out
                  refine AllReadyIn.cons rfl (fun K hK => ?_) ?_
                  · skip
                    go_simp
                    refine hK _ _ ?_
                    clear hK K
                    refine wpAnyIn_ready (rs := [4]) (by kernel_rfl) (by simp) ?_
                    refine AllReadyIn.cons rfl (fun K hK => ?_) AllReadyIn.nil
                    go_simp
                    refine hK _ _ ?_
                    clear hK K
                    refine wpAnyIn_ready (rs := [7]) (by kernel_rfl) (by simp) ?_
                    refine AllReadyIn.cons rfl (fun K hK => ?_) AllReadyIn.nil
                    (try rw [drew_alloc]; refine stepIn_push (w.heap.size + 6) rfl _ _ 35 28 rfl Tryd.underlying35 infoRule rfl (by omega) (by omega) (us := ruC r) HO.out rfl (by simp [Str, Value.oneCell']) (by omega) hw5 rfl rfl ?_; rintro _ w1 ⟨g1, cap1, rfl⟩ hown1 hgr1; have hm3 := (hgr1.block (w.heap.size + 3) (by show _ < W5.heap.size; omega) (fun e => by have := hvb _ e.symm; omega)).trans HB3.out; have hm4 := (hgr1.block (w.heap.size + 4) (by show _ < W5.heap.size; omega) (fun e => by have := hvb _ e.symm; omega)).trans HB4.out; have d3 : w1.cell? ⟨w.heap.size + 3, 0, none⟩ = some v := cell_of hm3; have e3 : w1.frozen? ⟨w.heap.size + 3, 0, none⟩ = false := frozen_of hm3; have d4 : w1.cell? ⟨w.heap.size + 4, 0, none⟩ = some (.pointer (some ⟨w.heap.size + 3, 0, none⟩)) := cell_of hm4; have Hm3 := Lib.hid hm3; have Hown1 := Lib.hid hown1; have Hgr1 := Lib.hid hgr1; clear hm3 hm4 hown1 hgr1)
                    try go_simp
                    refine hK _ _ ?_
                    clear hK K
                    refine wpAnyIn_take (i := 8) (v := ?_) rfl rfl (by kernel_rfl) (by kernel_rfl) (by kernel_rfl) (fun _ _ _ h => h) ⟨Or.inl ⟨by rfl, ?_⟩, fun _ => rfl⟩ ?_
                    rotate_left 1
                    · (intro _; go_simp; (try with_reducible rfl))
                    refine wpAnyIn_take (i := 9) (v := ?_) rfl rfl (by kernel_rfl) (by kernel_rfl) (by kernel_rfl) (fun _ _ _ h => h) ⟨Or.inl ⟨by rfl, ?_⟩, fun _ => rfl⟩ ?_
                    rotate_left 1
                    · (intro _; go_simp; (try with_reducible rfl))
                    refine wpAnyIn_ready (rs := [10]) (by kernel_rfl) (by simp) ?_
                    refine AllReadyIn.cons rfl (fun K hK => ?_) AllReadyIn.nil
                    go_simp
                    refine hK _ _ ?_
                    clear hK K
                    refine wpAnyIn_done (by kernel_rfl) ?_ _
                    gi_wp2
                    exact Fin.out _ _ Hm3.out Hown1.out Hgr1.out
                  exact AllReadyIn.nil
                exact AllReadyIn.nil
              refine AllReadyIn.cons rfl (fun K hK => ?_) ?_
              · skip
                go_simp
                refine hK _ _ ?_
                clear hK K
                refine wpAnyIn_ready (rs := [0, 5]) (by kernel_rfl) (by simp) ?_
                refine AllReadyIn.cons rfl (fun K hK => ?_) ?_
                · skip
                  go_simp
                  refine hK _ _ ?_
                  clear hK K
                  refine wpAnyIn_ready (rs := [5]) (by kernel_rfl) (by simp) ?_
                  refine AllReadyIn.cons rfl (fun K hK => ?_) AllReadyIn.nil
                  go_simp
                  refine hK _ _ ?_
                  clear hK K
                  refine wpAnyIn_ready (rs := [6]) (by kernel_rfl) (by simp) ?_
                  refine AllReadyIn.cons rfl (fun K hK => ?_) AllReadyIn.nil
                  go_simp
                  refine hK _ _ ?_
                  clear hK K
                  refine wpAnyIn_ready (rs := [7]) (by kernel_rfl) (by simp) ?_
                  refine AllReadyIn.cons rfl (fun K hK => ?_) AllReadyIn.nil
                  (try rw [drew_alloc]; refine stepIn_push (w.heap.size + 6) rfl _ _ 35 28 rfl Tryd.underlying35 infoRule rfl (by omega) (by omega) (us := ruC r) HO.out rfl (by simp [Str, Value.oneCell']) (by omega) hw5 rfl rfl ?_; rintro _ w1 ⟨g1, cap1, rfl⟩ hown1 hgr1; have hm3 := (hgr1.block (w.heap.size + 3) (by show _ < W5.heap.size; omega) (fun e => by have := hvb _ e.symm; omega)).trans HB3.out; have hm4 := (hgr1.block (w.heap.size + 4) (by show _ < W5.heap.size; omega) (fun e => by have := hvb _ e.symm; omega)).trans HB4.out; have d3 : w1.cell? ⟨w.heap.size + 3, 0, none⟩ = some v := cell_of hm3; have e3 : w1.frozen? ⟨w.heap.size + 3, 0, none⟩ = false := frozen_of hm3; have d4 : w1.cell? ⟨w.heap.size + 4, 0, none⟩ = some (.pointer (some ⟨w.heap.size + 3, 0, none⟩)) := cell_of hm4; have Hm3 := Lib.hid hm3; have Hown1 := Lib.hid hown1; have Hgr1 := Lib.hid hgr1; clear hm3 hm4 hown1 hgr1)
                  try go_simp
                  refine hK _ _ ?_
                  clear hK K
                  refine wpAnyIn_take (i := 8) (v := ?_) rfl rfl (by kernel_rfl) (by kernel_rfl) (by kernel_rfl) (fun _ _ _ h => h) ⟨Or.inl ⟨by rfl, ?_⟩, fun _ => rfl⟩ ?_
                  rotate_left 1
                  · (intro _; go_simp; (try with_reducible rfl))
                  refine wpAnyIn_take (i := 9) (v := ?_) rfl rfl (by kernel_rfl) (by kernel_rfl) (by kernel_rfl) (fun _ _ _ h => h) ⟨Or.inl ⟨by rfl, ?_⟩, fun _ => rfl⟩ ?_
                  rotate_left 1
                  · (intro _; go_simp; (try with_reducible rfl))
                  refine wpAnyIn_ready (rs := [10]) (by kernel_rfl) (by simp) ?_
                  refine AllReadyIn.cons rfl (fun K hK => ?_) AllReadyIn.nil
                  go_simp
                  refine hK _ _ ?_
                  clear hK K
                  refine wpAnyIn_done (by kernel_rfl) ?_ _
                  gi_wp2
                  exact Fin.out _ _ Hm3.out Hown1.out Hgr1.out
                refine AllReadyIn.cons rfl (fun K hK => ?_) ?_
                · skip
                  go_simp
                  refine hK _ _ ?_
                  clear hK K
                  refine wpAnyIn_ready (rs := [0, 6]) (by kernel_rfl) (by simp) ?_
                  refine AllReadyIn.cons rfl (fun K hK => ?_) ?_
                  · skip
                    go_simp
                    refine hK _ _ ?_
                    clear hK K
                    refine wpAnyIn_ready (rs := [6]) (by kernel_rfl) (by simp) ?_
                    refine AllReadyIn.cons rfl (fun K hK => ?_) AllReadyIn.nil
                    go_simp
                    refine hK _ _ ?_
                    clear hK K
                    refine wpAnyIn_ready (rs := [7]) (by kernel_rfl) (by simp) ?_
                    refine AllReadyIn.cons rfl (fun K hK => ?_) AllReadyIn.nil
                    (try rw [drew_alloc]; refine stepIn_push (w.heap.size + 6) rfl _ _ 35 28 rfl Tryd.underlying35 infoRule rfl (by omega) (by omega) (us := ruC r) HO.out rfl (by simp [Str, Value.oneCell']) (by omega) hw5 rfl rfl ?_; rintro _ w1 ⟨g1, cap1, rfl⟩ hown1 hgr1; have hm3 := (hgr1.block (w.heap.size + 3) (by show _ < W5.heap.size; omega) (fun e => by have := hvb _ e.symm; omega)).trans HB3.out; have hm4 := (hgr1.block (w.heap.size + 4) (by show _ < W5.heap.size; omega) (fun e => by have := hvb _ e.symm; omega)).trans HB4.out; have d3 : w1.cell? ⟨w.heap.size + 3, 0, none⟩ = some v := cell_of hm3; have e3 : w1.frozen? ⟨w.heap.size + 3, 0, none⟩ = false := frozen_of hm3; have d4 : w1.cell? ⟨w.heap.size + 4, 0, none⟩ = some (.pointer (some ⟨w.heap.size + 3, 0, none⟩)) := cell_of hm4; have Hm3 := Lib.hid hm3; have Hown1 := Lib.hid hown1; have Hgr1 := Lib.hid hgr1; clear hm3 hm4 hown1 hgr1)
                    try go_simp
                    refine hK _ _ ?_
                    clear hK K
                    refine wpAnyIn_take (i := 8) (v := ?_) rfl rfl (by kernel_rfl) (by kernel_rfl) (by kernel_rfl) (fun _ _ _ h => h) ⟨Or.inl ⟨by rfl, ?_⟩, fun _ => rfl⟩ ?_
                    rotate_left 1
                    · (intro _; go_simp; (try with_reducible rfl))
                    refine wpAnyIn_take (i := 9) (v := ?_) rfl rfl (by kernel_rfl) (by kernel_rfl) (by kernel_rfl) (fun _ _ _ h => h) ⟨Or.inl ⟨by rfl, ?_⟩, fun _ => rfl⟩ ?_
                    rotate_left 1
                    · (intro _; go_simp; (try with_reducible rfl))
                    refine wpAnyIn_ready (rs := [10]) (by kernel_rfl) (by simp) ?_
                    refine AllReadyIn.cons rfl (fun K hK => ?_) AllReadyIn.nil
                    go_simp
                    refine hK _ _ ?_
                    clear hK K
                    refine wpAnyIn_done (by kernel_rfl) ?_ _
                    gi_wp2
                    exact Fin.out _ _ Hm3.out Hown1.out Hgr1.out
                  refine AllReadyIn.cons rfl (fun K hK => ?_) ?_
                  · skip
                    go_simp
                    refine hK _ _ ?_
                    clear hK K
                    refine wpAnyIn_ready (rs := [0, 7]) (by kernel_rfl) (by simp) ?_
                    refine AllReadyIn.cons rfl (fun K hK => ?_) ?_
                    · skip
                      go_simp
                      refine hK _ _ ?_
                      clear hK K
                      refine wpAnyIn_ready (rs := [7]) (by kernel_rfl) (by simp) ?_
                      refine AllReadyIn.cons rfl (fun K hK => ?_) AllReadyIn.nil
                      (try rw [drew_alloc]; refine stepIn_push (w.heap.size + 6) rfl _ _ 35 28 rfl Tryd.underlying35 infoRule rfl (by omega) (by omega) (us := ruC r) HO.out rfl (by simp [Str, Value.oneCell']) (by omega) hw5 rfl rfl ?_; rintro _ w1 ⟨g1, cap1, rfl⟩ hown1 hgr1; have hm3 := (hgr1.block (w.heap.size + 3) (by show _ < W5.heap.size; omega) (fun e => by have := hvb _ e.symm; omega)).trans HB3.out; have hm4 := (hgr1.block (w.heap.size + 4) (by show _ < W5.heap.size; omega) (fun e => by have := hvb _ e.symm; omega)).trans HB4.out; have d3 : w1.cell? ⟨w.heap.size + 3, 0, none⟩ = some v := cell_of hm3; have e3 : w1.frozen? ⟨w.heap.size + 3, 0, none⟩ = false := frozen_of hm3; have d4 : w1.cell? ⟨w.heap.size + 4, 0, none⟩ = some (.pointer (some ⟨w.heap.size + 3, 0, none⟩)) := cell_of hm4; have Hm3 := Lib.hid hm3; have Hown1 := Lib.hid hown1; have Hgr1 := Lib.hid hgr1; clear hm3 hm4 hown1 hgr1)
                      try go_simp
                      refine hK _ _ ?_
                      clear hK K
                      refine wpAnyIn_take (i := 8) (v := ?_) rfl rfl (by kernel_rfl) (by kernel_rfl) (by kernel_rfl) (fun _ _ _ h => h) ⟨Or.inl ⟨by rfl, ?_⟩, fun _ => rfl⟩ ?_
                      rotate_left 1
                      · (intro _; go_simp; (try with_reducible rfl))
                      refine wpAnyIn_take (i := 9) (v := ?_) rfl rfl (by kernel_rfl) (by kernel_rfl) (by kernel_rfl) (fun _ _ _ h => h) ⟨Or.inl ⟨by rfl, ?_⟩, fun _ => rfl⟩ ?_
                      rotate_left 1
                      · (intro _; go_simp; (try with_reducible rfl))
                      refine wpAnyIn_ready (rs := [10]) (by kernel_rfl) (by simp) ?_
                      refine AllReadyIn.cons rfl (fun K hK => ?_) AllReadyIn.nil
                      go_simp
                      refine hK _ _ ?_
                      clear hK K
                      refine wpAnyIn_done (by kernel_rfl) ?_ _
                      gi_wp2
                      exact Fin.out _ _ Hm3.out Hown1.out Hgr1.out
                    refine AllReadyIn.cons rfl (fun K hK => ?_) ?_
                    · skip
                      (try rw [drew_alloc]; refine stepIn_push (w.heap.size + 6) rfl _ _ 35 28 rfl Tryd.underlying35 infoRule rfl (by omega) (by omega) (us := ruC r) HO.out rfl (by simp [Str, Value.oneCell']) (by omega) hw5 rfl rfl ?_; rintro _ w1 ⟨g1, cap1, rfl⟩ hown1 hgr1; have hm3 := (hgr1.block (w.heap.size + 3) (by show _ < W5.heap.size; omega) (fun e => by have := hvb _ e.symm; omega)).trans HB3.out; have hm4 := (hgr1.block (w.heap.size + 4) (by show _ < W5.heap.size; omega) (fun e => by have := hvb _ e.symm; omega)).trans HB4.out; have d3 : w1.cell? ⟨w.heap.size + 3, 0, none⟩ = some v := cell_of hm3; have e3 : w1.frozen? ⟨w.heap.size + 3, 0, none⟩ = false := frozen_of hm3; have d4 : w1.cell? ⟨w.heap.size + 4, 0, none⟩ = some (.pointer (some ⟨w.heap.size + 3, 0, none⟩)) := cell_of hm4; have Hm3 := Lib.hid hm3; have Hown1 := Lib.hid hown1; have Hgr1 := Lib.hid hgr1; clear hm3 hm4 hown1 hgr1)
                      try go_simp
                      refine hK _ _ ?_
                      clear hK K
                      refine wpAnyIn_ready (rs := [0]) (by kernel_rfl) (by simp) ?_
                      refine AllReadyIn.cons rfl (fun K hK => ?_) AllReadyIn.nil
                      go_simp
                      refine hK _ _ ?_
                      clear hK K
                      refine wpAnyIn_take (i := 8) (v := ?_) rfl rfl (by kernel_rfl) (by kernel_rfl) (by kernel_rfl) (fun _ _ _ h => h) ⟨Or.inl ⟨by rfl, ?_⟩, fun _ => rfl⟩ ?_
                      rotate_left 1
                      · (intro _; go_simp; (try with_reducible rfl))
                      refine wpAnyIn_take (i := 9) (v := ?_) rfl rfl (by kernel_rfl) (by kernel_rfl) (by kernel_rfl) (fun _ _ _ h => h) ⟨Or.inl ⟨by rfl, ?_⟩, fun _ => rfl⟩ ?_
                      rotate_left 1
                      · (intro _; go_simp; (try with_reducible rfl))
                      refine wpAnyIn_ready (rs := [10]) (by kernel_rfl) (by simp) ?_
                      refine AllReadyIn.cons rfl (fun K hK => ?_) AllReadyIn.nil
                      go_simp
                      refine hK _ _ ?_
                      clear hK K
                      refine wpAnyIn_done (by kernel_rfl) ?_ _
                      gi_wp2
                      exact Fin.out _ _ Hm3.out Hown1.out Hgr1.out
                    exact AllReadyIn.nil
                  exact AllReadyIn.nil
                exact AllReadyIn.nil
              refine AllReadyIn.cons rfl (fun K hK => ?_) ?_
              · skip
                go_simp
                refine hK _ _ ?_
                clear hK K
                refine wpAnyIn_ready (rs := [0, 4, 6]) (by kernel_rfl) (by simp) ?_
                refine AllReadyIn.cons rfl (fun K hK => ?_) ?_
                · skip
                  go_simp
                  refine hK _ _ ?_
                  clear hK K
                  refine wpAnyIn_ready (rs := [4, 6]) (by kernel_rfl) (by simp) ?_
                  refine AllReadyIn.cons rfl (fun K hK => ?_) ?_
                  · skip
                    go_simp
                    refine hK _ _ ?_
                    clear hK K
                    refine wpAnyIn_ready (rs := [6]) (by kernel_rfl) (by simp) ?_
                    refine AllReadyIn.cons rfl (fun K hK => ?_) AllReadyIn.nil
                    go_simp
                    refine hK _ _ ?_
                    clear hK K
                    refine wpAnyIn_ready (rs := [7]) (by kernel_rfl) (by simp) ?_
                    refine AllReadyIn.cons rfl (fun K hK => ?_) AllReadyIn.nil
                    (try rw [drew_alloc]; refine stepIn_push (w.heap.size + 6) rfl _ _ 35 28 rfl Tryd.underlying35 infoRule rfl (by omega) (by omega) (us := ruC r) HO.out rfl (by simp [Str, Value.oneCell']) (by omega) hw5 rfl rfl ?_; rintro _ w1 ⟨g1, cap1, rfl⟩ hown1 hgr1; have hm3 := (hgr1.block (w.heap.size + 3) (by show _ < W5.heap.size; omega) (fun e => by have := hvb _ e.symm; omega)).trans HB3.out; have hm4 := (hgr1.block (w.heap.size + 4) (by show _ < W5.heap.size; omega) (fun e => by have := hvb _ e.symm; omega)).trans HB4.out; have d3 : w1.cell? ⟨w.heap.size + 3, 0, none⟩ = some v := cell_of hm3; have e3 : w1.frozen? ⟨w.heap.size + 3, 0, none⟩ = false := frozen_of hm3; have d4 : w1.cell? ⟨w.heap.size + 4, 0, none⟩ = some (.pointer (some ⟨w.heap.size + 3, 0, none⟩)) := cell_of hm4; have Hm3 := Lib.hid hm3; have Hown1 := Lib.hid hown1; have Hgr1 := Lib.hid hgr1; clear hm3 hm4 hown1 hgr1)
                    try go_simp
                    refine hK _ _ ?_
                    clear hK K
                    refine wpAnyIn_take (i := 8) (v := ?_) rfl rfl (by kernel_rfl) (by kernel_rfl) (by kernel_rfl) (fun _ _ _ h => h) ⟨Or.inl ⟨by rfl, ?_⟩, fun _ => rfl⟩ ?_
                    rotate_left 1
                    · (intro _; go_simp; (try with_reducible rfl))
                    refine wpAnyIn_take (i := 9) (v := ?_) rfl rfl (by kernel_rfl) (by kernel_rfl) (by kernel_rfl) (fun _ _ _ h => h) ⟨Or.inl ⟨by rfl, ?_⟩, fun _ => rfl⟩ ?_
                    rotate_left 1
                    · (intro _; go_simp; (try with_reducible rfl))
                    refine wpAnyIn_ready (rs := [10]) (by kernel_rfl) (by simp) ?_
                    refine AllReadyIn.cons rfl (fun K hK => ?_) AllReadyIn.nil
                    go_simp
                    refine hK _ _ ?_
                    clear hK K
                    refine wpAnyIn_done (by kernel_rfl) ?_ _
                    gi_wp2
                    exact Fin.out _ _ Hm3.out Hown1.out Hgr1.out
                  refine AllReadyIn.cons rfl (fun K hK => ?_) ?_
                  · skip
                    go_simp
                    refine hK _ _ ?_
                    clear hK K
                    refine wpAnyIn_ready (rs := [4]) (by kernel_rfl) (by simp) ?_
                    refine AllReadyIn.cons rfl (fun K hK => ?_) AllReadyIn.nil
                    go_simp
                    refine hK _ _ ?_
                    clear hK K
                    refine wpAnyIn_ready (rs := [7]) (by kernel_rfl) (by simp) ?_
                    refine AllReadyIn.cons rfl (fun K hK => ?_) AllReadyIn.nil
                    (try rw [drew_alloc]; refine stepIn_push (w.heap.size + 6) rfl _ _ 35 28 rfl Tryd.underlying35 infoRule rfl (by omega) (by omega) (us := ruC r) HO.out rfl (by simp [Str, Value.oneCell']) (by omega) hw5 rfl rfl ?_; rintro _ w1 ⟨g1, cap1, rfl⟩ hown1 hgr1; have hm3 := (hgr1.block (w.heap.size + 3) (by show _ < W5.heap.size; omega) (fun e => by have := hvb _ e.symm; omega)).trans HB3.out; have hm4 := (hgr1.block (w.heap.size + 4) (by show _ < W5.heap.size; omega) (fun e => by have := hvb _ e.symm; omega)).trans HB4.out; have d3 : w1.cell? ⟨w.heap.size + 3, 0, none⟩ = some v := cell_of hm3; have e3 : w1.frozen? ⟨w.heap.size + 3, 0, none⟩ = false := frozen_of hm3; have d4 : w1.cell? ⟨w.heap.size + 4, 0, none⟩ = some (.pointer (some ⟨w.heap.size + 3, 0, none⟩)) := cell_of hm4; have Hm3 := Lib.hid hm3; have Hown1 := Lib.hid hown1; have Hgr1 := Lib.hid hgr1; clear hm3 hm4 hown1 hgr1)
                    try go_simp
                    refine hK _ _ ?_
                    clear hK K
                    refine wpAnyIn_take (i := 8) (v := ?_) rfl rfl (by kernel_rfl) (by kernel_rfl) (by kernel_rfl) (fun _ _ _ h => h) ⟨Or.inl ⟨by rfl, ?_⟩, fun _ => rfl⟩ ?_
                    rotate_left 1
                    · (intro _; go_simp; (try with_reducible rfl))
                    refine wpAnyIn_take (i := 9) (v := ?_) rfl rfl (by kernel_rfl) (by kernel_rfl) (by kernel_rfl) (fun _ _ _ h => h) ⟨Or.inl ⟨by rfl, ?_⟩, fun _ => rfl⟩ ?_
                    rotate_left 1
                    · (intro _; go_simp; (try with_reducible rfl))
                    refine wpAnyIn_ready (rs := [10]) (by kernel_rfl) (by simp) ?_
                    refine AllReadyIn.cons rfl (fun K hK => ?_) AllReadyIn.nil
                    go_simp
                    refine hK _ _ ?_
                    clear hK K
                    refine wpAnyIn_done (by kernel_rfl) ?_ _
                    gi_wp2
                    exact Fin.out _ _ Hm3.out Hown1.out Hgr1.out
                  exact AllReadyIn.nil
                refine AllReadyIn.cons rfl (fun K hK => ?_) ?_
                · skip
                  go_simp
                  refine hK _ _ ?_
                  clear hK K
                  refine wpAnyIn_ready (rs := [0, 6]) (by kernel_rfl) (by simp) ?_
                  refine AllReadyIn.cons rfl (fun K hK => ?_) ?_
                  · skip
                    go_simp
                    refine hK _ _ ?_
                    clear hK K
                    refine wpAnyIn_ready (rs := [6]) (by kernel_rfl) (by simp) ?_
                    refine AllReadyIn.cons rfl (fun K hK => ?_) AllReadyIn.nil
                    go_simp
                    refine hK _ _ ?_
                    clear hK K
                    refine wpAnyIn_ready (rs := [7]) (by kernel_rfl) (by simp) ?_
                    refine AllReadyIn.cons rfl (fun K hK => ?_) AllReadyIn.nil
                    (try rw [drew_alloc]; refine stepIn_push (w.heap.size + 6) rfl _ _ 35 28 rfl Tryd.underlying35 infoRule rfl (by omega) (by omega) (us := ruC r) HO.out rfl (by simp [Str, Value.oneCell']) (by omega) hw5 rfl rfl ?_; rintro _ w1 ⟨g1, cap1, rfl⟩ hown1 hgr1; have hm3 := (hgr1.block (w.heap.size + 3) (by show _ < W5.heap.size; omega) (fun e => by have := hvb _ e.symm; omega)).trans HB3.out; have hm4 := (hgr1.block (w.heap.size + 4) (by show _ < W5.heap.size; omega) (fun e => by have := hvb _ e.symm; omega)).trans HB4.out; have d3 : w1.cell? ⟨w.heap.size + 3, 0, none⟩ = some v := cell_of hm3; have e3 : w1.frozen? ⟨w.heap.size + 3, 0, none⟩ = false := frozen_of hm3; have d4 : w1.cell? ⟨w.heap.size + 4, 0, none⟩ = some (.pointer (some ⟨w.heap.size + 3, 0, none⟩)) := cell_of hm4; have Hm3 := Lib.hid hm3; have Hown1 := Lib.hid hown1; have Hgr1 := Lib.hid hgr1; clear hm3 hm4 hown1 hgr1)
                    try go_simp
                    refine hK _ _ ?_
                    clear hK K
                    refine wpAnyIn_take (i := 8) (v := ?_) rfl rfl (by kernel_rfl) (by kernel_rfl) (by kernel_rfl) (fun _ _ _ h => h) ⟨Or.inl ⟨by rfl, ?_⟩, fun _ => rfl⟩ ?_
                    rotate_left 1
                    · (intro _; go_simp; (try with_reducible rfl))
                    refine wpAnyIn_take (i := 9) (v := ?_) rfl rfl (by kernel_rfl) (by kernel_rfl) (by kernel_rfl) (fun _ _ _ h => h) ⟨Or.inl ⟨by rfl, ?_⟩, fun _ => rfl⟩ ?_
                    rotate_left 1
                    · (intro _; go_simp; (try with_reducible rfl))
                    refine wpAnyIn_ready (rs := [10]) (by kernel_rfl) (by simp) ?_
                    refine AllReadyIn.cons rfl (fun K hK => ?_) AllReadyIn.nil
                    go_simp
                    refine hK _ _ ?_
                    clear hK K
                    refine wpAnyIn_done (by kernel_rfl) ?_ _
                    gi_wp2
                    exact Fin.out _ _ Hm3.out Hown1.out Hgr1.out
                  refine AllReadyIn.cons rfl (fun K hK => ?_) ?_
                  · skip
                    go_simp
                    refine hK _ _ ?_
                    clear hK K
                    refine wpAnyIn_ready (rs := [0, 7]) (by kernel_rfl) (by simp) ?_
                    refine AllReadyIn.cons rfl (fun K hK => ?_) ?_
                    · skip
                      go_simp
                      refine hK _ _ ?_
                      clear hK K
                      refine wpAnyIn_ready (rs := [7]) (by kernel_rfl) (by simp) ?_
                      refine AllReadyIn.cons rfl (fun K hK => ?_) AllReadyIn.nil
                      (try rw [drew_alloc]; refine stepIn_push (w.heap.size + 6) rfl _ _ 35 28 rfl Tryd.underlying35 infoRule rfl (by omega) (by omega) (us := ruC r) HO.out rfl (by simp [Str, Value.oneCell']) (by omega) hw5 rfl rfl ?_; rintro _ w1 ⟨g1, cap1, rfl⟩ hown1 hgr1; have hm3 := (hgr1.block (w.heap.size + 3) (by show _ < W5.heap.size; omega) (fun e => by have := hvb _ e.symm; omega)).trans HB3.out; have hm4 := (hgr1.block (w.heap.size + 4) (by show _ < W5.heap.size; omega) (fun e => by have := hvb _ e.symm; omega)).trans HB4.out; have d3 : w1.cell? ⟨w.heap.size + 3, 0, none⟩ = some v := cell_of hm3; have e3 : w1.frozen? ⟨w.heap.size + 3, 0, none⟩ = false := frozen_of hm3; have d4 : w1.cell? ⟨w.heap.size + 4, 0, none⟩ = some (.pointer (some ⟨w.heap.size + 3, 0, none⟩)) := cell_of hm4; have Hm3 := Lib.hid hm3; have Hown1 := Lib.hid hown1; have Hgr1 := Lib.hid hgr1; clear hm3 hm4 hown1 hgr1)
                      try go_simp
                      refine hK _ _ ?_
                      clear hK K
                      refine wpAnyIn_take (i := 8) (v := ?_) rfl rfl (by kernel_rfl) (by kernel_rfl) (by kernel_rfl) (fun _ _ _ h => h) ⟨Or.inl ⟨by rfl, ?_⟩, fun _ => rfl⟩ ?_
                      rotate_left 1
                      · (intro _; go_simp; (try with_reducible rfl))
                      refine wpAnyIn_take (i := 9) (v := ?_) rfl rfl (by kernel_rfl) (by kernel_rfl) (by kernel_rfl) (fun _ _ _ h => h) ⟨Or.inl ⟨by rfl, ?_⟩, fun _ => rfl⟩ ?_
                      rotate_left 1
                      · (intro _; go_simp; (try with_reducible rfl))
                      refine wpAnyIn_ready (rs := [10]) (by kernel_rfl) (by simp) ?_
                      refine AllReadyIn.cons rfl (fun K hK => ?_) AllReadyIn.nil
                      go_simp
                      refine hK _ _ ?_
                      clear hK K
                      refine wpAnyIn_done (by kernel_rfl) ?_ _
                      gi_wp2
                      exact Fin.out _ _ Hm3.out Hown1.out Hgr1.out
                    refine AllReadyIn.cons rfl (fun K hK => ?_) ?_
                    · skip
                      (try rw [drew_alloc]; refine stepIn_push (w.heap.size + 6) rfl _ _ 35 28 rfl Tryd.underlying35 infoRule rfl (by omega) (by omega) (us := ruC r) HO.out rfl (by simp [Str, Value.oneCell']) (by omega) hw5 rfl rfl ?_; rintro _ w1 ⟨g1, cap1, rfl⟩ hown1 hgr1; have hm3 := (hgr1.block (w.heap.size + 3) (by show _ < W5.heap.size; omega) (fun e => by have := hvb _ e.symm; omega)).trans HB3.out; have hm4 := (hgr1.block (w.heap.size + 4) (by show _ < W5.heap.size; omega) (fun e => by have := hvb _ e.symm; omega)).trans HB4.out; have d3 : w1.cell? ⟨w.heap.size + 3, 0, none⟩ = some v := cell_of hm3; have e3 : w1.frozen? ⟨w.heap.size + 3, 0, none⟩ = false := frozen_of hm3; have d4 : w1.cell? ⟨w.heap.size + 4, 0, none⟩ = some (.pointer (some ⟨w.heap.size + 3, 0, none⟩)) := cell_of hm4; have Hm3 := Lib.hid hm3; have Hown1 := Lib.hid hown1; have Hgr1 := Lib.hid hgr1; clear hm3 hm4 hown1 hgr1)
                      try go_simp
                      refine hK _ _ ?_
                      clear hK K
                      refine wpAnyIn_ready (rs := [0]) (by kernel_rfl) (by simp) ?_
                      refine AllReadyIn.cons rfl (fun K hK => ?_) AllReadyIn.nil
                      go_simp
                      refine hK _ _ ?_
                      clear hK K
                      refine wpAnyIn_take (i := 8) (v := ?_) rfl rfl (by kernel_rfl) (by kernel_rfl) (by kernel_rfl) (fun _ _ _ h => h) ⟨Or.inl ⟨by rfl, ?_⟩, fun _ => rfl⟩ ?_
                      rotate_left 1
                      · (intro _; go_simp; (try with_reducible rfl))
                      refine wpAnyIn_take (i := 9) (v := ?_) rfl rfl (by kernel_rfl) (by kernel_rfl) (by kernel_rfl) (fun _ _ _ h => h) ⟨Or.inl ⟨by rfl, ?_⟩, fun _ => rfl⟩ ?_
                      rotate_left 1
                      · (intro _; go_simp; (try with_reducible rfl))
                      refine wpAnyIn_ready (rs := [10]) (by kernel_rfl) (by simp) ?_
                      refine AllReadyIn.cons rfl (fun K hK => ?_) AllReadyIn.nil
                      go_simp
                      refine hK _ _ ?_
                      clear hK K
                      refine wpAnyIn_done (by kernel_rfl) ?_ _
                      gi_wp2
                      exact Fin.out _ _ Hm3.out Hown1.out Hgr1.out
                    exact AllReadyIn.nil
                  exact AllReadyIn.nil
                refine AllReadyIn.cons rfl (fun K hK => ?_) ?_
                · skip
                  go_simp
                  refine hK _ _ ?_
                  clear hK K
                  refine wpAnyIn_ready (rs := [0, 4]) (by kernel_rfl) (by simp) ?_
                  refine AllReadyIn.cons rfl (fun K hK => ?_) ?_
                  · skip
                    go_simp
                    refine hK _ _ ?_
                    clear hK K
                    refine wpAnyIn_ready (rs := [4]) (by kernel_rfl) (by simp) ?_
                    refine AllReadyIn.cons rfl (fun K hK => ?_) AllReadyIn.nil
                    go_simp
                    refine hK _ _ ?_
                    clear hK K
                    refine wpAnyIn_ready (rs := [7]) (by kernel_rfl) (by simp) ?_
                    refine AllReadyIn.cons rfl (fun K hK => ?_) AllReadyIn.nil
                    (try rw [drew_alloc]; refine stepIn_push (w.heap.size + 6) rfl _ _ 35 28 rfl Tryd.underlying35 infoRule rfl (by omega) (by omega) (us := ruC r) HO.out rfl (by simp [Str, Value.oneCell']) (by omega) hw5 rfl rfl ?_; rintro _ w1 ⟨g1, cap1, rfl⟩ hown1 hgr1; have hm3 := (hgr1.block (w.heap.size + 3) (by show _ < W5.heap.size; omega) (fun e => by have := hvb _ e.symm; omega)).trans HB3.out; have hm4 := (hgr1.block (w.heap.size + 4) (by show _ < W5.heap.size; omega) (fun e => by have := hvb _ e.symm; omega)).trans HB4.out; have d3 : w1.cell? ⟨w.heap.size + 3, 0, none⟩ = some v := cell_of hm3; have e3 : w1.frozen? ⟨w.heap.size + 3, 0, none⟩ = false := frozen_of hm3; have d4 : w1.cell? ⟨w.heap.size + 4, 0, none⟩ = some (.pointer (some ⟨w.heap.size + 3, 0, none⟩)) := cell_of hm4; have Hm3 := Lib.hid hm3; have Hown1 := Lib.hid hown1; have Hgr1 := Lib.hid hgr1; clear hm3 hm4 hown1 hgr1)
                    try go_simp
                    refine hK _ _ ?_
                    clear hK K
                    refine wpAnyIn_take (i := 8) (v := ?_) rfl rfl (by kernel_rfl) (by kernel_rfl) (by kernel_rfl) (fun _ _ _ h => h) ⟨Or.inl ⟨by rfl, ?_⟩, fun _ => rfl⟩ ?_
                    rotate_left 1
                    · (intro _; go_simp; (try with_reducible rfl))
                    refine wpAnyIn_take (i := 9) (v := ?_) rfl rfl (by kernel_rfl) (by kernel_rfl) (by kernel_rfl) (fun _ _ _ h => h) ⟨Or.inl ⟨by rfl, ?_⟩, fun _ => rfl⟩ ?_
                    rotate_left 1
                    · (intro _; go_simp; (try with_reducible rfl))
                    refine wpAnyIn_ready (rs := [10]) (by kernel_rfl) (by simp) ?_
                    refine AllReadyIn.cons rfl (fun K hK => ?_) AllReadyIn.nil
                    go_simp
                    refine hK _ _ ?_
                    clear hK K
                    refine wpAnyIn_done (by kernel_rfl) ?_ _
                    gi_wp2
                    exact Fin.out _ _ Hm3.out Hown1.out Hgr1.out
                  refine AllReadyIn.cons rfl (fun K hK => ?_) ?_
                  · skip
                    go_simp
                    refine hK _ _ ?_
                    clear hK K
                    refine wpAnyIn_ready (rs := [0, 7]) (by kernel_rfl) (by simp) ?_
                    refine AllReadyIn.cons rfl (fun K hK => ?_) ?_
                    · skip
                      go_simp
                      refine hK _ _ ?_
                      clear hK K
                      refine wpAnyIn_ready (rs := [7]) (by kernel_rfl) (by simp) ?_
                      refine AllReadyIn.cons rfl (fun K hK => ?_) AllReadyIn.nil
                      (try rw [drew_alloc]; refine stepIn_push (w.heap.size + 6) rfl _ _ 35 28 rfl Tryd.underlying35 infoRule rfl (by omega) (by omega) (us := ruC r) HO.out rfl (by simp [Str, Value.oneCell']) (by omega) hw5 rfl rfl ?_; rintro _ w1 ⟨g1, cap1, rfl⟩ hown1 hgr1; have hm3 := (hgr1.block (w.heap.size + 3) (by show _ < W5.heap.size; omega) (fun e => by have := hvb _ e.symm; omega)).trans HB3.out; have hm4 := (hgr1.block (w.heap.size + 4) (by show _ < W5.heap.size; omega) (fun e => by have := hvb _ e.symm; omega)).trans HB4.out; have d3 : w1.cell? ⟨w.heap.size + 3, 0, none⟩ = some v := cell_of hm3; have e3 : w1.frozen? ⟨w.heap.size + 3, 0, none⟩ = false := frozen_of hm3; have d4 : w1.cell? ⟨w.heap.size + 4, 0, none⟩ = some (.pointer (some ⟨w.heap.size + 3, 0, none⟩)) := cell_of hm4; have Hm3 := Lib.hid hm3; have Hown1 := Lib.hid hown1; have Hgr1 := Lib.hid hgr1; clear hm3 hm4 hown1 hgr1)
                      try go_simp
                      refine hK _ _ ?_
                      clear hK K
                      refine wpAnyIn_take (i := 8) (v := ?_) rfl rfl (by kernel_rfl) (by kernel_rfl) (by kernel_rfl) (fun _ _ _ h => h) ⟨Or.inl ⟨by rfl, ?_⟩, fun _ => rfl⟩ ?_
                      rotate_left 1
                      · (intro _; go_simp; (try with_reducible rfl))
                      refine wpAnyIn_take (i := 9) (v := ?_) rfl rfl (by kernel_rfl) (by kernel_rfl) (by kernel_rfl) (fun _ _ _ h => h) ⟨Or.inl ⟨by rfl, ?_⟩, fun _ => rfl⟩ ?_
                      rotate_left 1
                      · (intro _; go_simp; (try with_reducible rfl))
                      refine wpAnyIn_ready (rs := [10]) (by kernel_rfl) (by simp) ?_
                      refine AllReadyIn.cons rfl (fun K hK => ?_) AllReadyIn.nil
                      go_simp
                      refine hK _ _ ?_
                      clear hK K
                      refine wpAnyIn_done (by kernel_rfl) ?_ _
                      gi_wp2
                      exact Fin.out _ _ Hm3.out Hown1.out Hgr1.out
                    refine AllReadyIn.cons rfl (fun K hK => ?_) ?_
                    · skip
                      (try rw [drew_alloc]; refine stepIn_push (w.heap.size + 6) rfl _ _ 35 28 rfl Tryd.underlying35 infoRule rfl (by omega) (by omega) (us := ruC r) HO.out rfl (by simp [Str, Value.oneCell']) (by omega) hw5 rfl rfl ?_; rintro _ w1 ⟨g1, cap1, rfl⟩ hown1 hgr1; have hm3 := (hgr1.block (w.heap.size + 3) (by show _ < W5.heap.size; omega) (fun e => by have := hvb _ e.symm; omega)).trans HB3.out; have hm4 := (hgr1.block (w.heap.size + 4) (by show _ < W5.heap.size; omega) (fun e => by have := hvb _ e.symm; omega)).trans HB4.out; have d3 : w1.cell? ⟨w.heap.size + 3, 0, none⟩ = some v := cell_of hm3; have e3 : w1.frozen? ⟨w.heap.size + 3, 0, none⟩ = false := frozen_of hm3; have d4 : w1.cell? ⟨w.heap.size + 4, 0, none⟩ = some (.pointer (some ⟨w.heap.size + 3, 0, none⟩)) := cell_of hm4; have Hm3 := Lib.hid hm3; have Hown1 := Lib.hid hown1; have Hgr1 := Lib.hid hgr1; clear hm3 hm4 hown1 hgr1)
                      try go_simp
                      refine hK _ _ ?_
                      clear hK K
                      refine wpAnyIn_ready (rs := [0]) (by kernel_rfl) (by simp) ?_
                      refine AllReadyIn.cons rfl (fun K hK => ?_) AllReadyIn.nil
                      go_simp
                      refine hK _ _ ?_
                      clear hK K
                      refine wpAnyIn_take (i := 8) (v := ?_) rfl rfl (by kernel_rfl) (by kernel_rfl) (by kernel_rfl) (fun _ _ _ h => h) ⟨Or.inl ⟨by rfl, ?_⟩, fun _ => rfl⟩ ?_
                      rotate_left 1
                      · (intro _; go_simp; (try with_reducible rfl))
                      refine wpAnyIn_take (i := 9) (v := ?_) rfl rfl (by kernel_rfl) (by kernel_rfl) (by kernel_rfl) (fun _ _ _ h => h) ⟨Or.inl ⟨by rfl, ?_⟩, fun _ => rfl⟩ ?_
                      rotate_left 1
                      · (intro _; go_simp; (try with_reducible rfl))
                      refine wpAnyIn_ready (rs := [10]) (by kernel_rfl) (by simp) ?_
                      refine AllReadyIn.cons rfl (fun K hK => ?_) AllReadyIn.nil
                      go_simp
                      refine hK _ _ ?_
                      clear hK K
                      refine wpAnyIn_done (by kernel_rfl) ?_ _
                      gi_wp2
                      exact Fin.out _ _ Hm3.out Hown1.out Hgr1.out
                    exact AllReadyIn.nil
                  exact AllReadyIn.nil
                exact AllReadyIn.nil
              exact AllReadyIn.nil
            refine AllReadyIn.cons rfl (fun K hK => ?_) ?_
            · skip
              go_simp
              refine hK _ _ ?_
              clear hK K
              refine wpAnyIn_ready (rs := [0, 1, 6]) (by kernel_rfl) (by simp) ?_
              refine AllReadyIn.cons rfl (fun K hK => ?_) ?_
              · skip
                go_simp
                refine hK _ _ ?_
                clear hK K
                refine wpAnyIn_ready (rs := [1, 6]) (by kernel_rfl) (by simp) ?_
                refine AllReadyIn.cons rfl (fun K hK => ?_) ?_
                · skip
                  go_simp
                  refine hK _ _ ?_
                  clear hK K
                  refine wpAnyIn_take (i := 2) (v := ?_) rfl rfl (by kernel_rfl) (by kernel_rfl) (by kernel_rfl) (fun _ _ _ h => h) ⟨Or.inl ⟨by rfl, ?_⟩, fun _ => rfl⟩ ?_
                  rotate_left 1
                  · (intro _; go_simp; (try with_reducible rfl))
                  refine wpAnyIn_take (i := 3) (v := ?_) rfl rfl (by kernel_rfl) (by kernel_rfl) (by kernel_rfl) (fun _ _ _ h => h) ⟨Or.inl ⟨by rfl, ?_⟩, fun _ => rfl⟩ ?_
                  rotate_left 1
                  · (intro _; go_simp; (try with_reducible rfl))
                  refine wpAnyIn_ready (rs := [4, 6]) (by kernel_rfl) (by simp) ?_
                  refine AllReadyIn.cons rfl (fun K hK => ?_) ?_
                  · skip
                    go_simp
                    refine hK _ _ ?_
                    clear hK K
                    refine wpAnyIn_ready (rs := [6]) (by kernel_rfl) (by simp) ?_
                    refine AllReadyIn.cons rfl (fun K hK => ?_) AllReadyIn.nil
                    go_simp
                    refine hK _ _ ?_
                    clear hK K
                    refine wpAnyIn_ready (rs := [7]) (by kernel_rfl) (by simp) ?_
                    refine AllReadyIn.cons rfl (fun K hK => ?_) AllReadyIn.nil
                    (try rw [drew_alloc]; refine stepIn_push (w.heap.size + 6) rfl _ _ 35 28 rfl Tryd.underlying35 infoRule rfl (by omega) (by omega) (us := ruC r) HO.out rfl (by simp [Str, Value.oneCell']) (by omega) hw5 rfl rfl ?_; rintro _ w1 ⟨g1, cap1, rfl⟩ hown1 hgr1; have hm3 := (hgr1.block (w.heap.size + 3) (by show _ < W5.heap.size; omega) (fun e => by have := hvb _ e.symm; omega)).trans HB3.out; have hm4 := (hgr1.block (w.heap.size + 4) (by show _ < W5.heap.size; omega) (fun e => by have := hvb _ e.symm; omega)).trans HB4.out; have d3 : w1.cell? ⟨w.heap.size + 3, 0, none⟩ = some v := cell_of hm3; have e3 : w1.frozen? ⟨w.heap.size + 3, 0, none⟩ = false := frozen_of hm3; have d4 : w1.cell? ⟨w.heap.size + 4, 0, none⟩ = some (.pointer (some ⟨w.heap.size + 3, 0, none⟩)) := cell_of hm4; have Hm3 := Lib.hid hm3; have Hown1 := Lib.hid hown1; have Hgr1 := Lib.hid hgr1; clear hm3 hm4 hown1 hgr1)
                    try go_simp
                    refine hK _ _ ?_
                    clear hK K
                    refine wpAnyIn_take (i := 8) (v := ?_) rfl rfl (by kernel_rfl) (by kernel_rfl) (by kernel_rfl) (fun _ _ _ h => h) ⟨Or.inl ⟨by rfl, ?_⟩, fun _ => rfl⟩ ?_
                    rotate_left 1
                    · (intro _; go_simp; (try with_reducible rfl))
                    refine wpAnyIn_take (i := 9) (v := ?_) rfl rfl (by kernel_rfl) (by kernel_rfl) (by kernel_rfl) (fun _ _ _ h => h) ⟨Or.inl ⟨by rfl, ?_⟩, fun _ => rfl⟩ ?_
                    rotate_left 1
                    · (intro _; go_simp; (try with_reducible rfl))
                    refine wpAnyIn_ready (rs := [10]) (by kernel_rfl) (by simp) ?_
                    refine AllReadyIn.cons rfl (fun K hK => ?_) AllReadyIn.nil
                    go_simp
                    refine hK _ _ ?_
                    clear hK K
                    refine wpAnyIn_done (by kernel_rfl) ?_ _
                    gi_wp2
                    exact Fin.out _ _ Hm3.out Hown1.out Hgr1.out
                  refine AllReadyIn.cons rfl (fun K hK => ?_) ?_
                  · skip
                    go_simp
                    refine hK _ _ ?_
                    clear hK K
                    refine wpAnyIn_ready (rs := [4]) (by kernel_rfl) (by simp) ?_
                    refine AllReadyIn.cons rfl (fun K hK => ?_) AllReadyIn.nil
                    go_simp
                    refine hK _ _ ?_
                    clear hK K
                    refine wpAnyIn_ready (rs := [7]) (by kernel_rfl) (by simp) ?_
                    refine AllReadyIn.cons rfl (fun K hK => ?_) AllReadyIn.nil
                    (try rw [drew_alloc]; refine stepIn_push (w.heap.size + 6) rfl _ _ 35 28 rfl Tryd.underlying35 infoRule rfl (by omega) (by omega) (us := ruC r) HO.out rfl (by simp [Str, Value.oneCell']) (by omega) hw5 rfl rfl ?_; rintro _ w1 ⟨g1, cap1, rfl⟩ hown1 hgr1; have hm3 := (hgr1.block (w.heap.size + 3) (by show _ < W5.heap.size; omega) (fun e => by have := hvb _ e.symm; omega)).trans HB3.out; have hm4 := (hgr1.block (w.heap.size + 4) (by show _ < W5.heap.size; omega) (fun e => by have := hvb _ e.symm; omega)).trans HB4.out; have d3 : w1.cell? ⟨w.heap.size + 3, 0, none⟩ = some v := cell_of hm3; have e3 : w1.frozen? ⟨w.heap.size + 3, 0, none⟩ = false := frozen_of hm3; have d4 : w1.cell? ⟨w.heap.size + 4, 0, none⟩ = some (.pointer (some ⟨w.heap.size + 3, 0, none⟩)) := cell_of hm4; have Hm3 := Lib.hid hm3; have Hown1 := Lib.hid hown1; have Hgr1 := Lib.hid hgr1; clear hm3 hm4 hown1 hgr1)
                    try go_simp
                    refine hK _ _ ?_
                    clear hK K
                    refine wpAnyIn_take (i := 8) (v := ?_) rfl rfl (by kernel_rfl) (by kernel_rfl) (by kernel_rfl) (fun _ _ _ h => h) ⟨Or.inl ⟨by rfl, ?_⟩, fun _ => rfl⟩ ?_
                    rotate_left 1
                    · (intro _; go_simp; (try with_reducible rfl))
                    refine wpAnyIn_take (i := 9) (v := ?_) rfl rfl (by kernel_rfl) (by kernel_rfl) (by kernel_rfl) (fun _ _ _ h => h) ⟨Or.inl ⟨by rfl, ?_⟩, fun _ => rfl⟩ ?_
                    rotate_left 1
                    · (intro _; go_simp; (try with_reducible rfl))
                    refine wpAnyIn_ready (rs := [10]) (by kernel_rfl) (by simp) ?_
                    refine AllReadyIn.cons rfl (fun K hK => ?_) AllReadyIn.nil
                    go_simp
                    refine hK _ _ ?_
                    clear hK K
                    refine wpAnyIn_done (by kernel_rfl) ?_ _
                    gi_wp2
                    exact Fin.out _ _ Hm3.out Hown1.out Hgr1.out
                  exact AllReadyIn.nil
                refine AllReadyIn.cons rfl (fun K hK => ?_) ?_
                · skip
                  go_simp
                  refine hK _ _ ?_
                  clear hK K
                  refine wpAnyIn_ready (rs := [1]) (by kernel_rfl) (by simp) ?_
                  refine AllReadyIn.cons rfl (fun K hK => ?_) AllReadyIn.nil
                  go_simp
                  refine hK _ _ ?_
                  clear hK K
                  refine wpAnyIn_take (i := 2) (v := ?_) rfl rfl (by kernel_rfl) (by kernel_rfl) (by kernel_rfl) (fun _ _ _ h => h) ⟨Or.inl ⟨by rfl, ?_⟩, fun _ => rfl⟩ ?_
                  rotate_left 1
                  · (intro _; go_simp; (try with_reducible rfl))
                  refine wpAnyIn_take (i := 3) (v := ?_) rfl rfl (by kernel_rfl) (by kernel_rfl) (by kernel_rfl) (fun _ _ _ h => h) ⟨Or.inl ⟨by rfl, ?_⟩, fun _ => rfl⟩ ?_
                  rotate_left 1
                  · (intro _; go_simp; (try with_reducible rfl))
                  refine wpAnyIn_ready (rs := [4]) (by kernel_rfl) (by simp) ?_
                  refine AllReadyIn.cons rfl (fun K hK => ?_) AllReadyIn.nil
                  go_simp
                  refine hK _ _ ?_
                  clear hK K
                  refine wpAnyIn_ready (rs := [7]) (by kernel_rfl) (by simp) ?_
                  refine AllReadyIn.cons rfl (fun K hK => ?_) AllReadyIn.nil
                  (try rw [drew_alloc]; refine stepIn_push (w.heap.size + 6) rfl _ _ 35 28 rfl Tryd.underlying35 infoRule rfl (by omega) (by omega) (us := ruC r) HO.out rfl (by simp [Str, Value.oneCell']) (by omega) hw5 rfl rfl ?_; rintro _ w1 ⟨g1, cap1, rfl⟩ hown1 hgr1; have hm3 := (hgr1.block (w.heap.size + 3) (by show _ < W5.heap.size; omega) (fun e => by have := hvb _ e.symm; omega)).trans HB3.out; have hm4 := (hgr1.block (w.heap.size + 4) (by show _ < W5.heap.size; omega) (fun e => by have := hvb _ e.symm; omega)).trans HB4.out; have d3 : w1.cell? ⟨w.heap.size + 3, 0, none⟩ = some v := cell_of hm3; have e3 : w1.frozen? ⟨w.heap.size + 3, 0, none⟩ = false := frozen_of hm3; have d4 : w1.cell? ⟨w.heap.size + 4, 0, none⟩ = some (.pointer (some ⟨w.heap.size + 3, 0, none⟩)) := cell_of hm4; have Hm3 := Lib.hid hm3; have Hown1 := Lib.hid hown1; have Hgr1 := Lib.hid hgr1; clear hm3 hm4 hown1 hgr1)
                  try go_simp
                  refine hK _ _ ?_
                  clear hK K
                  refine wpAnyIn_take (i := 8) (v := ?_) rfl rfl (by kernel_rfl) (by kernel_rfl) (by kernel_rfl) (fun _ _ _ h => h) ⟨Or.inl ⟨by rfl, ?_⟩, fun _ => rfl⟩ ?_
                  rotate_left 1
                  · (intro _; go_simp; (try with_reducible rfl))
                  refine wpAnyIn_take (i := 9) (v := ?_) rfl rfl (by kernel_rfl) (by kernel_rfl) (by kernel_rfl) (fun _ _ _ h => h) ⟨Or.inl ⟨by rfl, ?_⟩, fun _ => rfl⟩ ?_
                  rotate_left 1
                  · (intro _; go_simp; (try with_reducible rfl))
                  refine wpAnyIn_ready (rs := [10]) (by kernel_rfl) (by simp) ?_
                  refine AllReadyIn.cons rfl (fun K hK => ?_) AllReadyIn.nil
                  go_simp
                  refine hK _ _ ?_
                  clear hK K
                  refine wpAnyIn_done (by kernel_rfl) ?_ _
                  gi_wp2
                  exact Fin.out _ _ Hm3.out Hown1.out Hgr1.out
                exact AllReadyIn.nil
              refine AllReadyIn.cons rfl (fun K hK => ?_) ?_
              · skip
                go_simp
                refine hK _ _ ?_
                clear hK K
                refine wpAnyIn_take (i := 2) (v := ?_) rfl rfl (by kernel_rfl) (by kernel_rfl) (by kernel_rfl) (fun _ _ _ h => h) ⟨Or.inl ⟨by rfl, ?_⟩, fun _ => rfl⟩ ?_
                rotate_left 1
                · (intro _; go_simp; (try with_reducible rfl))
                refine wpAnyIn_take (i := 3) (v := ?_) rfl rfl (by kernel_rfl) (by kernel_rfl) (by kernel_rfl) (fun _ _ _ h => h) ⟨Or.inl ⟨by rfl, ?_⟩, fun _ => rfl⟩ ?_
                rotate_left 1
                · (intro _; go_simp; (try with_reducible rfl))
                refine wpAnyIn_ready (rs := [0, 4, 6]) (by kernel_rfl) (by simp) ?_
                refine AllReadyIn.cons rfl (fun K hK => ?_) ?_
                · skip
                  go_simp
                  refine hK _ _ ?_
                  clear hK K
                  refine wpAnyIn_ready (rs := [4, 6]) (by kernel_rfl) (by simp) ?_
                  refine AllReadyIn.cons rfl (fun K hK => ?_) ?_
                  · skip
                    go_simp
                    refine hK _ _ ?_
                    clear hK K
                    refine wpAnyIn_ready (rs := [6]) (by kernel_rfl) (by simp) ?_
                    refine AllReadyIn.cons rfl (fun K hK => ?_) AllReadyIn.nil
                    go_simp
                    refine hK _ _ ?_
                    clear hK K
                    refine wpAnyIn_ready (rs := [7]) (by kernel_rfl) (by simp) ?_
                    refine AllReadyIn.cons rfl (fun K hK => ?_) AllReadyIn.nil
                    (try rw [drew_alloc]; refine stepIn_push (w.heap.size + 6) rfl _ _ 35 28 rfl Tryd.underlying35 infoRule rfl (by omega) (by omega) (us := ruC r) HO.out rfl (by simp [Str, Value.oneCell']) (by omega) hw5 rfl rfl ?_; rintro _ w1 ⟨g1, cap1, rfl⟩ hown1 hgr1; have hm3 := (hgr1.block (w.heap.size + 3) (by show _ < W5.heap.size; omega) (fun e => by have := hvb _ e.symm; omega)).trans HB3.out; have hm4 := (hgr1.block (w.heap.size + 4) (by show _ < W5.heap.size; omega) (fun e => by have := hvb _ e.symm; omega)).trans HB4.out; have d3 : w1.cell? ⟨w.heap.size + 3, 0, none⟩ = some v := cell_of hm3; have e3 : w1.frozen? ⟨w.heap.size + 3, 0, none⟩ = false := frozen_of hm3; have d4 : w1.cell? ⟨w.heap.size + 4, 0, none⟩ = some (.pointer (some ⟨w.heap.size + 3, 0, none⟩)) := cell_of hm4; have Hm3 := Lib.hid hm3; have Hown1 := Lib.hid hown1; have Hgr1 := Lib.hid hgr1; clear hm3 hm4 hown1 hgr1)
                    try go_simp
                    refine hK _ _ ?_
                    clear hK K
                    refine wpAnyIn_take (i := 8) (v := ?_) rfl rfl (by kernel_rfl) (by kernel_rfl) (by kernel_rfl) (fun _ _ _ h => h) ⟨Or.inl ⟨by rfl, ?_⟩, fun _ => rfl⟩ ?_
                    rotate_left 1
                    · (intro _; go_simp; (try with_reducible rfl))
                    refine wpAnyIn_take (i := 9) (v := ?_) rfl rfl (by kernel_rfl) (by kernel_rfl) (by kernel_rfl) (fun _ _ _ h => h) ⟨Or.inl ⟨by rfl, ?_⟩, fun _ => rfl⟩ ?_
                    rotate_left 1
                    · (intro _; go_simp; (try with_reducible rfl))
                    refine wpAnyIn_ready (rs := [10]) (by kernel_rfl) (by simp) ?_
                    refine AllReadyIn.cons rfl (fun K hK => ?_) AllReadyIn.nil
                    go_simp
                    refine hK _ _ ?_
                    clear hK K
                    refine wpAnyIn_done (by kernel_rfl) ?_ _
                    gi_wp2
                    exact Fin.out _ _ Hm3.out Hown1.out Hgr1.out
                  refine AllReadyIn.cons rfl (fun K hK => ?_) ?_
                  · skip
                    go_simp
                    refine hK _ _ ?_
                    clear hK K
                    refine wpAnyIn_ready (rs := [4]) (by kernel_rfl) (by simp) ?_
                    refine AllReadyIn.cons rfl (fun K hK => ?_) AllReadyIn.nil
                    go_simp
                    refine hK _ _ ?_
                    clear hK K
                    refine wpAnyIn_ready (rs := [7]) (by kernel_rfl) (by simp) ?_
                    refine AllReadyIn.cons rfl (fun K hK => ?_) AllReadyIn.nil
                    (try rw [drew_alloc]; refine stepIn_push (w.heap.size + 6) rfl _ _ 35 28 rfl Tryd.underlying35 infoRule rfl (by omega) (by omega) (us := ruC r) HO.out rfl (by simp [Str, Value.oneCell']) (by omega) hw5 rfl rfl ?_; rintro _ w1 ⟨g1, cap1, rfl⟩ hown1 hgr1; have hm3 := (hgr1.block (w.heap.size + 3) (by show _ < W5.heap.size; omega) (fun e => by have := hvb _ e.symm; omega)).trans HB3.out; have hm4 := (hgr1.block (w.heap.size + 4) (by show _ < W5.heap.size; omega) (fun e => by have := hvb _ e.symm; omega)).trans HB4.out; have d3 : w1.cell? ⟨w.heap.size + 3, 0, none⟩ = some v := cell_of hm3; have e3 : w1.frozen? ⟨w.heap.size + 3, 0, none⟩ = false := frozen_of hm3; have d4 : w1.cell? ⟨w.heap.size + 4, 0, none⟩ = some (.pointer (some ⟨w.heap.size + 3, 0, none⟩)) := cell_of hm4; have Hm3 := Lib.hid hm3; have Hown1 := Lib.hid hown1; have Hgr1 := Lib.hid hgr1; clear hm3 hm4 hown1 hgr1)
                    try go_simp
                    refine hK _ _ ?_
                    clear hK K
                    refine wpAnyIn_take (i := 8) (v := ?_) rfl rfl (by kernel_rfl) (by kernel_rfl) (by kernel_rfl) (fun _ _ _ h => h) ⟨Or.inl ⟨by rfl, ?_⟩, fun _ => rfl⟩ ?_
                    rotate_left 1
                    · (intro _; go_simp; (try with_reducible rfl))
                    refine wpAnyIn_take (i := 9) (v := ?_) rfl rfl (by kernel_rfl) (by kernel_rfl) (by kernel_rfl) (fun _ _ _ h => h) ⟨Or.inl ⟨by rfl, ?_⟩, fun _ => rfl⟩ ?_
                    rotate_left 1
                    · (intro _; go_simp; (try with_reducible rfl))
                    refine wpAnyIn_ready (rs := [10]) (by kernel_rfl) (by simp) ?_
                    refine AllReadyIn.cons rfl (fun K hK => ?_) AllReadyIn.nil
                    go_simp
                    refine hK _ _ ?_
                    clear hK K
                    refine wpAnyIn_done (by kernel_rfl) ?_ _
                    gi_wp2
                    exact Fin.out _ _ Hm3.out Hown1.out Hgr1.out
                  exact AllReadyIn.nil
                refine AllReadyIn.cons rfl (fun K hK => ?_) ?_
                · skip
                  go_simp
                  refine hK _ _ ?_
                  clear hK K
                  refine wpAnyIn_ready (rs := [0, 6]) (by kernel_rfl) (by simp) ?_
                  refine AllReadyIn.cons rfl (fun K hK => ?_) ?_
                  · skip
                    go_simp
                    refine hK _ _ ?_
                    clear hK K
                    refine wpAnyIn_ready (rs := [6]) (by kernel_rfl) (by simp) ?_
                    refine AllReadyIn.cons rfl (fun K hK => ?_) AllReadyIn.nil
                    go_simp
                    refine hK _ _ ?_
                    clear hK K
                    refine wpAnyIn_ready (rs := [7]) (by kernel_rfl) (by simp) ?_
                    refine AllReadyIn.cons rfl (fun K hK => ?_) AllReadyIn.nil
                    (try rw [drew_alloc]; refine stepIn_push (w.heap.size + 6) rfl _ _ 35 28 rfl Tryd.underlying35 infoRule rfl (by omega) (by omega) (us := ruC r) HO.out rfl (by simp [Str, Value.oneCell']) (by omega) hw5 rfl rfl ?_; rintro _ w1 ⟨g1, cap1, rfl⟩ hown1 hgr1; have hm3 := (hgr1.block (w.heap.size + 3) (by show _ < W5.heap.size; omega) (fun e => by have := hvb _ e.symm; omega)).trans HB3.out; have hm4 := (hgr1.block (w.heap.size + 4) (by show _ < W5.heap.size; omega) (fun e => by have := hvb _ e.symm; omega)).trans HB4.out; have d3 : w1.cell? ⟨w.heap.size + 3, 0, none⟩ = some v := cell_of hm3; have e3 : w1.frozen? ⟨w.heap.size + 3, 0, none⟩ = false := frozen_of hm3; have d4 : w1.cell? ⟨w.heap.size + 4, 0, none⟩ = some (.pointer (some ⟨w.heap.size + 3, 0, none⟩)) := cell_of hm4; have Hm3 := Lib.hid hm3; have Hown1 := Lib.hid hown1; have Hgr1 := Lib.hid hgr1; clear hm3 hm4 hown1 hgr1)
                    try go_simp
                    refine hK _ _ ?_
                    clear hK K
                    refine wpAnyIn_take (i := 8) (v := ?_) rfl rfl (by kernel_rfl) (by kernel_rfl) (by kernel_rfl) (fun _ _ _ h => h) ⟨Or.inl ⟨by rfl, ?_⟩, fun _ => rfl⟩ ?_
                    rotate_left 1
                    · (intro _; go_simp; (try with_reducible rfl))
                    refine wpAnyIn_take (i := 9) (v := ?_) rfl rfl (by kernel_rfl) (by kernel_rfl) (by kernel_rfl) (fun _ _ _ h => h) ⟨Or.inl ⟨by rfl, ?_⟩, fun _ => rfl⟩ ?_
                    rotate_left 1
                    · (intro _; go_simp; (try with_reducible rfl))
                    refine wpAnyIn_ready (rs := [10]) (by kernel_rfl) (by simp) ?_
                    refine AllReadyIn.cons rfl (fun K hK => ?_) AllReadyIn.nil
                    go_simp
                    refine hK _ _ ?_
                    clear hK K
                    refine wpAnyIn_done (by kernel_rfl) ?_ _
                    gi_wp2
                    exact Fin.out _ _ Hm3.out Hown1.out Hgr1.out
                  refine AllReadyIn.cons rfl (fun K hK => ?_) ?_
                  · skip
                    go_simp
                    refine hK _ _ ?_
                    clear hK K
                    refine wpAnyIn_ready (rs := [0, 7]) (by kernel_rfl) (by simp) ?_
                    refine AllReadyIn.cons rfl (fun K hK => ?_) ?_
                    · skip
                      go_simp
                      refine hK _ _ ?_
                      clear hK K
                      refine wpAnyIn_ready (rs := [7]) (by kernel_rfl) (by simp) ?_
                      refine AllReadyIn.cons rfl (fun K hK => ?_) AllReadyIn.nil
                      (try rw [drew_alloc]; refine stepIn_push (w.heap.size + 6) rfl _ _ 35 28 rfl Tryd.underlying35 infoRule rfl (by omega) (by omega) (us := ruC r) HO.out rfl (by simp [Str, Value.oneCell']) (by omega) hw5 rfl rfl ?_; rintro _ w1 ⟨g1, cap1, rfl⟩ hown1 hgr1; have hm3 := (hgr1.block (w.heap.size + 3) (by show _ < W5.heap.size; omega) (fun e => by have := hvb _ e.symm; omega)).trans HB3.out; have hm4 := (hgr1.block (w.heap.size + 4) (by show _ < W5.heap.size; omega) (fun e => by have := hvb _ e.symm; omega)).trans HB4.out; have d3 : w1.cell? ⟨w.heap.size + 3, 0, none⟩ = some v := cell_of hm3; have e3 : w1.frozen? ⟨w.heap.size + 3, 0, none⟩ = false := frozen_of hm3; have d4 : w1.cell? ⟨w.heap.size + 4, 0, none⟩ = some (.pointer (some ⟨w.heap.size + 3, 0, none⟩)) := cell_of hm4; have Hm3 := Lib.hid hm3; have Hown1 := Lib.hid hown1; have Hgr1 := Lib.hid hgr1; clear hm3 hm4 hown1 hgr1)
                      try go_simp
                      refine hK _ _ ?_
                      clear hK K
                      refine wpAnyIn_take (i := 8) (v := ?_) rfl rfl (by kernel_rfl) (by kernel_rfl) (by kernel_rfl) (fun _ _ _ h => h) ⟨Or.inl ⟨by rfl, ?_⟩, fun _ => rfl⟩ ?_
                      rotate_left 1
                      · (intro _; go_simp; (try with_reducible rfl))
                      refine wpAnyIn_take (i := 9) (v := ?_) rfl rfl (by kernel_rfl) (by kernel_rfl) (by kernel_rfl) (fun _ _ _ h => h) ⟨Or.inl ⟨by rfl, ?_⟩, fun _ => rfl⟩ ?_
                      rotate_left 1
                      · (intro _; go_simp; (try with_reducible rfl))
                      refine wpAnyIn_ready (rs := [10]) (by kernel_rfl) (by simp) ?_
                      refine AllReadyIn.cons rfl (fun K hK => ?_) AllReadyIn.nil
                      go_simp
                      refine hK _ _ ?_
                      clear hK K
                      refine wpAnyIn_done (by kernel_rfl) ?_ _
                      gi_wp2
                      exact Fin.out _ _ Hm3.out Hown1.out Hgr1.out
                    refine AllReadyIn.cons rfl (fun K hK => ?_) ?_
                    · skip
                      (try rw [drew_alloc]; refine stepIn_push (w.heap.size + 6) rfl _ _ 35 28 rfl Tryd.underlying35 infoRule rfl (by omega) (by omega) (us := ruC r) HO.out rfl (by simp [Str, Value.oneCell']) (by omega) hw5 rfl rfl ?_; rintro _ w1 ⟨g1, cap1, rfl⟩ hown1 hgr1; have hm3 := (hgr1.block (w.heap.size + 3) (by show _ < W5.heap.size; omega) (fun e => by have := hvb _ e.symm; omega)).trans HB3.out; have hm4 := (hgr1.block (w.heap.size + 4) (by show _ < W5.heap.size; omega) (fun e => by have := hvb _ e.symm; omega)).trans HB4.out; have d3 : w1.cell? ⟨w.heap.size + 3, 0, none⟩ = some v := cell_of hm3; have e3 : w1.frozen? ⟨w.heap.size + 3, 0, none⟩ = false := frozen_of hm3; have d4 : w1.cell? ⟨w.heap.size + 4, 0, none⟩ = some (.pointer (some ⟨w.heap.size + 3, 0, none⟩)) := cell_of hm4; have Hm3 := Lib.hid hm3; have Hown1 := Lib.hid hown1; have Hgr1 := Lib.hid hgr1; clear hm3 hm4 hown1 hgr1)
                      try go_simp
                      refine hK _ _ ?_
                      clear hK K
                      refine wpAnyIn_ready (rs := [0]) (by kernel_rfl) (by simp) ?_
                      refine AllReadyIn.cons rfl (fun K hK => ?_) AllReadyIn.nil
                      go_simp
                      refine hK _ _ ?_
                      clear hK K
                      refine wpAnyIn_take (i := 8) (v := ?_) rfl rfl (by kernel_rfl) (by kernel_rfl) (by kernel_rfl) (fun _ _ _ h => h) ⟨Or.inl ⟨by rfl, ?_⟩, fun _ => rfl⟩ ?_
                      rotate_left 1
                      · (intro _; go_simp; (try with_reducible rfl))
                      refine wpAnyIn_take (i := 9) (v := ?_) rfl rfl (by kernel_rfl) (by kernel_rfl) (by kernel_rfl) (fun _ _ _ h => h) ⟨Or.inl ⟨by rfl, ?_⟩, fun _ => rfl⟩ ?_
                      rotate_left 1
                      · (intro _; go_simp; (try with_reducible rfl))
                      refine wpAnyIn_ready (rs := [10]) (by kernel_rfl) (by simp) ?_
                      refine AllReadyIn.cons rfl (fun K hK => ?_) AllReadyIn.nil
                      go_simp
                      refine hK _ _ ?_
                      clear hK K
                      refine wpAnyIn_done (by kernel_rfl) ?_ _
                      gi_wp2
                      exact Fin.out _ _ Hm3.out Hown1.out Hgr1.out
                    exact AllReadyIn.nil
                  exact AllReadyIn.nil
                refine AllReadyIn.cons rfl (fun K hK => ?_) ?_
                · skip
                  go_simp
                  refine hK _ _ ?_
                  clear hK K
                  refine wpAnyIn_ready (rs := [0, 4]) (by kernel_rfl) (by simp) ?_
                  refine AllReadyIn.cons rfl (fun K hK => ?_) ?_
                  · skip
                    go_simp
                    refine hK _ _ ?_
                    clear hK K
                    refine wpAnyIn_ready (rs := [4]) (by kernel_rfl) (by simp) ?_
                    refine AllReadyIn.cons rfl (fun K hK => ?_) AllReadyIn.nil
                    go_simp
                    refine hK _ _ ?_
                    clear hK K
                    refine wpAnyIn_ready (rs := [7]) (by kernel_rfl) (by simp) ?_
                    refine AllReadyIn.cons rfl (fun K hK => ?_) AllReadyIn.nil
                    (try rw [drew_alloc]; refine stepIn_push (w.heap.size + 6) rfl _ _ 35 28 rfl Tryd.underlying35 infoRule rfl (by omega) (by omega) (us := ruC r) HO.out rfl (by simp [Str, Value.oneCell']) (by omega) hw5 rfl rfl ?_; rintro _ w1 ⟨g1, cap1, rfl⟩ hown1 hgr1; have hm3 := (hgr1.block (w.heap.size + 3) (by show _ < W5.heap.size; omega) (fun e => by have := hvb _ e.symm; omega)).trans HB3.out; have hm4 := (hgr1.block (w.heap.size + 4) (by show _ < W5.heap.size; omega) (fun e => by have := hvb _ e.symm; omega)).trans HB4.out; have d3 : w1.cell? ⟨w.heap.size + 3, 0, none⟩ = some v := cell_of hm3; have e3 : w1.frozen? ⟨w.heap.size + 3, 0, none⟩ = false := frozen_of hm3; have d4 : w1.cell? ⟨w.heap.size + 4, 0, none⟩ = some (.pointer (some ⟨w.heap.size + 3, 0, none⟩)) := cell_of hm4; have Hm3 := Lib.hid hm3; have Hown1 := Lib.hid hown1; have Hgr1 := Lib.hid hgr1; clear hm3 hm4 hown1 hgr1)
                    try go_simp
                    refine hK _ _ ?_
                    clear hK K
                    refine wpAnyIn_take (i := 8) (v := ?_) rfl rfl (by kernel_rfl) (by kernel_rfl) (by kernel_rfl) (fun _ _ _ h => h) ⟨Or.inl ⟨by rfl, ?_⟩, fun _ => rfl⟩ ?_
                    rotate_left 1
                    · (intro _; go_simp; (try with_reducible rfl))
                    refine wpAnyIn_take (i := 9) (v := ?_) rfl rfl (by kernel_rfl) (by kernel_rfl) (by kernel_rfl) (fun _ _ _ h => h) ⟨Or.inl ⟨by rfl, ?_⟩, fun _ => rfl⟩ ?_
                    rotate_left 1
                    · (intro _; go_simp; (try with_reducible rfl))
                    refine wpAnyIn_ready (rs := [10]) (by kernel_rfl) (by simp) ?_
                    refine AllReadyIn.cons rfl (fun K hK => ?_) AllReadyIn.nil
                    go_simp
                    refine hK _ _ ?_
                    clear hK K
                    refine wpAnyIn_done (by kernel_rfl) ?_ _
                    gi_wp2
                    exact Fin.out _ _ Hm3.out Hown1.out Hgr1.out
                  refine AllReadyIn.cons rfl (fun K hK => ?_) ?_
                  · skip
                    go_simp
                    refine hK _ _ ?_
                    clear hK K
                    refine wpAnyIn_ready (rs := [0, 7]) (by kernel_rfl) (by simp) ?_
                    refine AllReadyIn.cons rfl (fun K hK => ?_) ?_
                    · skip
                      go_simp
                      refine hK _ _ ?_
                      clear hK K
                      refine wpAnyIn_ready (rs := [7]) (by kernel_rfl) (by simp) ?_
                      refine AllReadyIn.cons rfl (fun K hK => ?_) AllReadyIn.nil
                      (try rw [drew_alloc]; refine stepIn_push (w.heap.size + 6) rfl _ _ 35 28 rfl Tryd.underlying35 infoRule rfl (by omega) (by omega) (us := ruC r) HO.out rfl (by simp [Str, Value.oneCell']) (by omega) hw5 rfl rfl ?_; rintro _ w1 ⟨g1, cap1, rfl⟩ hown1 hgr1; have hm3 := (hgr1.block (w.heap.size + 3) (by show _ < W5.heap.size; omega) (fun e => by have := hvb _ e.symm; omega)).trans HB3.out; have hm4 := (hgr1.block (w.heap.size + 4) (by show _ < W5.heap.size; omega) (fun e => by have := hvb _ e.symm; omega)).trans HB4.out; have d3 : w1.cell? ⟨w.heap.size + 3, 0, none⟩ = some v := cell_of hm3; have e3 : w1.frozen? ⟨w.heap.size + 3, 0, none⟩ = false := frozen_of hm3; have d4 : w1.cell? ⟨w.heap.size + 4, 0, none⟩ = some (.pointer (some ⟨w.heap.size + 3, 0, none⟩)) := cell_of hm4; have Hm3 := Lib.hid hm3; have Hown1 := Lib.hid hown1; have Hgr1 := Lib.hid hgr1; clear hm3 hm4 hown1 hgr1)
                      try go_simp
                      refine hK _ _ ?_
                      clear hK K
                      refine wpAnyIn_take (i := 8) (v := ?_) rfl rfl (by kernel_rfl) (by kernel_rfl) (by kernel_rfl) (fun _ _ _ h => h) ⟨Or.inl ⟨by rfl, ?_⟩, fun _ => rfl⟩ ?_
                      rotate_left 1
                      · (intro _; go_simp; (try with_reducible rfl))
                      refine wpAnyIn_take (i := 9) (v := ?_) rfl rfl (by kernel_rfl) (by kernel_rfl) (by kernel_rfl) (fun _ _ _ h => h) ⟨Or.inl ⟨by rfl, ?_⟩, fun _ => rfl⟩ ?_
                      rotate_left 1
                      · (intro _; go_simp; (try with_reducible rfl))
                      refine wpAnyIn_ready (rs := [10]) (by kernel_rfl) (by simp) ?_
                      refine AllReadyIn.cons rfl (fun K hK => ?_) AllReadyIn.nil
                      go_simp
                      refine hK _ _ ?_
                      clear hK K
                      refine wpAnyIn_done (by kernel_rfl) ?_ _
                      gi_wp2
                      exact Fin.out _ _ Hm3.out Hown1.out Hgr1.out
                    refine AllReadyIn.cons rfl (fun K hK => ?_) ?_
                    · skip
                      (try rw [drew_alloc]; refine stepIn_push (w.heap.size + 6) rfl _ _ 35 28 rfl Tryd.underlying35 infoRule rfl (by omega) (by omega) (us := ruC r) HO.out rfl (by simp [Str, Value.oneCell']) (by omega) hw5 rfl rfl ?_; rintro _ w1 ⟨g1, cap1, rfl⟩ hown1 hgr1; have hm3 := (hgr1.block (w.heap.size + 3) (by show _ < W5.heap.size; omega) (fun e => by have := hvb _ e.symm; omega)).trans HB3.out; have hm4 := (hgr1.block (w.heap.size + 4) (by show _ < W5.heap.size; omega) (fun e => by have := hvb _ e.symm; omega)).trans HB4.out; have d3 : w1.cell? ⟨w.heap.size + 3, 0, none⟩ = some v := cell_of hm3; have e3 : w1.frozen? ⟨w.heap.size + 3, 0, none⟩ = false := frozen_of hm3; have d4 : w1.cell? ⟨w.heap.size + 4, 0, none⟩ = some (.pointer (some ⟨w.heap.size + 3, 0, none⟩)) := cell_of hm4; have Hm3 := Lib.hid hm3; have Hown1 := Lib.hid hown1; have Hgr1 := Lib.hid hgr1; clear hm3 hm4 hown1 hgr1)
                      try go_simp
                      refine hK _ _ ?_
                      clear hK K
                      refine wpAnyIn_ready (rs := [0]) (by kernel_rfl) (by simp) ?_
                      refine AllReadyIn.cons rfl (fun K hK => ?_) AllReadyIn.nil
                      go_simp
                      refine hK _ _ ?_
                      clear hK K
                      refine wpAnyIn_take (i := 8) (v := ?_) rfl rfl (by kernel_rfl) (by kernel_rfl) (by kernel_rfl) (fun _ _ _ h => h) ⟨Or.inl ⟨by rfl, ?_⟩, fun _ => rfl⟩ ?_
                      rotate_left 1
                      · (intro _; go_simp; (try with_reducible rfl))
                      refine wpAnyIn_take (i := 9) (v := ?_) rfl rfl (by kernel_rfl) (by kernel_rfl) (by kernel_rfl) (fun _ _ _ h => h) ⟨Or.inl ⟨by rfl, ?_⟩, fun _ => rfl⟩ ?_
                      rotate_left 1
                      · (intro _; go_simp; (try with_reducible rfl))
                      refine wpAnyIn_ready (rs := [10]) (by kernel_rfl) (by simp) ?_
                      refine AllReadyIn.cons rfl (fun K hK => ?_) AllReadyIn.nil
                      go_simp
                      refine hK _ _ ?_
                      clear hK K
                      refine wpAnyIn_done (by kernel_rfl) ?_ _
                      gi_wp2
                      exact Fin.out _ _ Hm3.out Hown1.out Hgr1.out
                    exact AllReadyIn.nil
                  exact AllReadyIn.nil
                exact AllReadyIn.nil
              refine AllReadyIn.cons rfl (fun K hK => ?_) ?_
              · skip
                go_simp
                refine hK _ _ ?_
                clear hK K
                refine wpAnyIn_ready (rs := [0, 1]) (by kernel_rfl) (by simp) ?_
                refine AllReadyIn.cons rfl (fun K hK => ?_) ?_
                · skip
                  go_simp
                  refine hK _ _ ?_
                  clear hK K
                  refine wpAnyIn_ready (rs := [1]) (by kernel_rfl) (by simp) ?_
                  refine AllReadyIn.cons rfl (fun K hK => ?_) AllReadyIn.nil
                  go_simp
                  refine hK _ _ ?_
                  clear hK K
                  refine wpAnyIn_take (i := 2) (v := ?_) rfl rfl (by kernel_rfl) (by kernel_rfl) (by kernel_rfl) (fun _ _ _ h => h) ⟨Or.inl ⟨by rfl, ?_⟩, fun _ => rfl⟩ ?_
                  rotate_left 1
                  · (intro _; go_simp; (try with_reducible rfl))
                  refine wpAnyIn_take (i := 3) (v := ?_) rfl rfl (by kernel_rfl) (by kernel_rfl) (by kernel_rfl) (fun _ _ _ h => h) ⟨Or.inl ⟨by rfl, ?_⟩, fun _ => rfl⟩ ?_
                  rotate_left 1
                  · (intro _; go_simp; (try with_reducible rfl))
                  refine wpAnyIn_ready (rs := [4]) (by kernel_rfl) (by simp) ?_
                  refine AllReadyIn.cons rfl (fun K hK => ?_) AllReadyIn.nil
                  go_simp
                  refine hK _ _ ?_
                  clear hK K
                  refine wpAnyIn_ready (rs := [7]) (by kernel_rfl) (by simp) ?_
                  refine AllReadyIn.cons rfl (fun K hK => ?_) AllReadyIn.nil
                  (try rw [drew_alloc]; refine stepIn_push (w.heap.size + 6) rfl _ _ 35 28 rfl Tryd.underlying35 infoRule rfl (by omega) (by omega) (us := ruC r) HO.out rfl (by simp [Str, Value.oneCell']) (by omega) hw5 rfl rfl ?_; rintro _ w1 ⟨g1, cap1, rfl⟩ hown1 hgr1; have hm3 := (hgr1.block (w.heap.size + 3) (by show _ < W5.heap.size; omega) (fun e => by have := hvb _ e.symm; omega)).trans HB3.out; have hm4 := (hgr1.block (w.heap.size + 4) (by show _ < W5.heap.size; omega) (fun e => by have := hvb _ e.symm; omega)).trans HB4.out; have d3 : w1.cell? ⟨w.heap.size + 3, 0, none⟩ = some v := cell_of hm3; have e3 : w1.frozen? ⟨w.heap.size + 3, 0, none⟩ = false := frozen_of hm3; have d4 : w1.cell? ⟨w.heap.size + 4, 0, none⟩ = some (.pointer (some ⟨w.heap.size + 3, 0, none⟩)) := cell_of hm4; have Hm3 := Lib.hid hm3; have Hown1 := Lib.hid hown1; have Hgr1 := Lib.hid hgr1; clear hm3 hm4 hown1 hgr1)
                  try go_simp
                  refine hK _ _ ?_
                  clear hK K
                  refine wpAnyIn_take (i := 8) (v := ?_) rfl rfl (by kernel_rfl) (by kernel_rfl) (by kernel_rfl) (fun _ _ _ h => h) ⟨Or.inl ⟨by rfl, ?_⟩, fun _ => rfl⟩ ?_
                  rotate_left 1
                  · (intro _; go_simp; (try with_reducible rfl))
                  refine wpAnyIn_take (i := 9) (v := ?_) rfl rfl (by kernel_rfl) (by kernel_rfl) (by kernel_rfl) (fun _ _ _ h => h) ⟨Or.inl ⟨by rfl, ?_⟩, fun _ => rfl⟩ ?_
                  rotate_left 1
                  · (intro _; go_simp; (try with_reducible rfl))
                  refine wpAnyIn_ready (rs := [10]) (by kernel_rfl) (by simp) ?_
                  refine AllReadyIn.cons rfl (fun K hK => ?_) AllReadyIn.nil
                  go_simp
                  refine hK _ _ ?_
                  clear hK K
                  refine wpAnyIn_done (by kernel_rfl) ?_ _
                  gi_wp2
                  exact Fin.out _ _ Hm3.out Hown1.out Hgr1.out
                refine AllReadyIn.cons rfl (fun K hK => ?_) ?_
                · skip
                  go_simp
                  refine hK _ _ ?_
                  clear hK K
                  refine wpAnyIn_take (i := 2) (v := ?_) rfl rfl (by kernel_rfl) (by kernel_rfl) (by kernel_rfl) (fun _ _ _ h => h) ⟨Or.inl ⟨by rfl, ?_⟩, fun _ => rfl⟩ ?_
                  rotate_left 1
                  · (intro _; go_simp; (try with_reducible rfl))
                  refine wpAnyIn_take (i := 3) (v := ?_) rfl rfl (by kernel_rfl) (by kernel_rfl) (by kernel_rfl) (fun _ _ _ h => h) ⟨Or.inl ⟨by rfl, ?_⟩, fun _ => rfl⟩ ?_
                  rotate_left 1
                  · (intro _; go_simp; (try with_reducible rfl))
                  refine wpAnyIn_ready (rs := [0, 4]) (by kernel_rfl) (by simp) ?_
                  refine AllReadyIn.cons rfl (fun K hK => ?_) ?_
                  · skip
                    go_simp
                    refine hK _ _ ?_
                    clear hK K
                    refine wpAnyIn_ready (rs := [4]) (by kernel_rfl) (by simp) ?_
                    refine AllReadyIn.cons rfl (fun K hK => ?_) AllReadyIn.nil
                    go_simp
                    refine hK _ _ ?_
                    clear hK K
                    refine wpAnyIn_ready (rs := [7]) (by kernel_rfl) (by simp) ?_
                    refine AllReadyIn.cons rfl (fun K hK => ?_) AllReadyIn.nil
                    (try rw [drew_alloc]; refine stepIn_push (w.heap.size + 6) rfl _ _ 35 28 rfl Tryd.underlying35 infoRule rfl (by omega) (by omega) (us := ruC r) HO.out rfl (by simp [Str, Value.oneCell']) (by omega) hw5 rfl rfl ?_; rintro _ w1 ⟨g1, cap1, rfl⟩ hown1 hgr1; have hm3 := (hgr1.block (w.heap.size + 3) (by show _ < W5.heap.size; omega) (fun e => by have := hvb _ e.symm; omega)).trans HB3.out; have hm4 := (hgr1.block (w.heap.size + 4) (by show _ < W5.heap.size; omega) (fun e => by have := hvb _ e.symm; omega)).trans HB4.out; have d3 : w1.cell? ⟨w.heap.size + 3, 0, none⟩ = some v := cell_of hm3; have e3 : w1.frozen? ⟨w.heap.size + 3, 0, none⟩ = false := frozen_of hm3; have d4 : w1.cell? ⟨w.heap.size + 4, 0, none⟩ = some (.pointer (some ⟨w.heap.size + 3, 0, none⟩)) := cell_of hm4; have Hm3 := Lib.hid hm3; have Hown1 := Lib.hid hown1; have Hgr1 := Lib.hid hgr1; clear hm3 hm4 hown1 hgr1)
                    try go_simp
                    refine hK _ _ ?_
                    clear hK K
                    refine wpAnyIn_take (i := 8) (v := ?_) rfl rfl (by kernel_rfl) (by kernel_rfl) (by kernel_rfl) (fun _ _ _ h => h) ⟨Or.inl ⟨by rfl, ?_⟩, fun _ => rfl⟩ ?_
                    rotate_left 1
                    · (intro _; go_simp; (try with_reducible rfl))
                    refine wpAnyIn_take (i := 9) (v := ?_) rfl rfl (by kernel_rfl) (by kernel_rfl) (by kernel_rfl) (fun _ _ _ h => h) ⟨Or.inl ⟨by rfl, ?_⟩, fun _ => rfl⟩ ?_
                    rotate_left 1
                    · (intro _; go_simp; (try with_reducible rfl))
                    refine wpAnyIn_ready (rs := [10]) (by kernel_rfl) (by simp) ?_
                    refine AllReadyIn.cons rfl (fun K hK => ?_) AllReadyIn.nil
                    go_simp
                    refine hK _ _ ?_
                    clear hK K
                    refine wpAnyIn_done (by kernel_rfl) ?_ _
                    gi_wp2
                    exact Fin.out _ _ Hm3.out Hown1.out Hgr1.out
                  refine AllReadyIn.cons rfl (fun K hK => ?_) ?_
                  · skip
                    go_simp
                    refine hK _ _ ?_
                    clear hK K
                    refine wpAnyIn_ready (rs := [0, 7]) (by kernel_rfl) (by simp) ?_
                    refine AllReadyIn.cons rfl (fun K hK => ?_) ?_
                    · skip
                      go_simp
                      refine hK _ _ ?_
                      clear hK K
                      refine wpAnyIn_ready (rs := [7]) (by kernel_rfl) (by simp) ?_
                      refine AllReadyIn.cons rfl (fun K hK => ?_) AllReadyIn.nil
                      (try rw [drew_alloc]; refine stepIn_push (w.heap.size + 6) rfl _ _ 35 28 rfl Tryd.underlying35 infoRule rfl (by omega) (by omega) (us := ruC r) HO.out rfl (by simp [Str, Value.oneCell']) (by omega) hw5 rfl rfl ?_; rintro _ w1 ⟨g1, cap1, rfl⟩ hown1 hgr1; have hm3 := (hgr1.block (w.heap.size + 3) (by show _ < W5.heap.size; omega) (fun e => by have := hvb _ e.symm; omega)).trans HB3.out; have hm4 := (hgr1.block (w.heap.size + 4) (by show _ < W5.heap.size; omega) (fun e => by have := hvb _ e.symm; omega)).trans HB4.out; have d3 : w1.cell? ⟨w.heap.size + 3, 0, none⟩ = some v := cell_of hm3; have e3 : w1.frozen? ⟨w.heap.size + 3, 0, none⟩ = false := frozen_of hm3; have d4 : w1.cell? ⟨w.heap.size + 4, 0, none⟩ = some (.pointer (some ⟨w.heap.size + 3, 0, none⟩)) := cell_of hm4; have Hm3 := Lib.hid hm3; have Hown1 := Lib.hid hown1; have Hgr1 := Lib.hid hgr1; clear hm3 hm4 hown1 hgr1)
                      try go_simp
                      refine hK _ _ ?_
                      clear hK K
                      refine wpAnyIn_take (i := 8) (v := ?_) rfl rfl (by kernel_rfl) (by kernel_rfl) (by kernel_rfl) (fun _ _ _ h => h) ⟨Or.inl ⟨by rfl, ?_⟩, fun _ => rfl⟩ ?_
                      rotate_left 1
                      · (intro _; go_simp; (try with_reducible rfl))
                      refine wpAnyIn_take (i := 9) (v := ?_) rfl rfl (by kernel_rfl) (by kernel_rfl) (by kernel_rfl) (fun _ _ _ h => h) ⟨Or.inl ⟨by rfl, ?_⟩, fun _ => rfl⟩ ?_
                      rotate_left 1
                      · (intro _; go_simp; (try with_reducible rfl))
                      refine wpAnyIn_ready (rs := [10]) (by kernel_rfl) (by simp) ?_
                      refine AllReadyIn.cons rfl (fun K hK => ?_) AllReadyIn.nil
                      go_simp
                      refine hK _ _ ?_
                      clear hK K
                      refine wpAnyIn_done (by kernel_rfl) ?_ _
                      gi_wp2
                      exact Fin.out _ _ Hm3.out Hown1.out Hgr1.out
                    refine AllReadyIn.cons rfl (fun K hK => ?_) ?_
                    · skip
                      (try rw [drew_alloc]; refine stepIn_push (w.heap.size + 6) rfl _ _ 35 28 rfl Tryd.underlying35 infoRule rfl (by omega) (by omega) (us := ruC r) HO.out rfl (by simp [Str, Value.oneCell']) (by omega) hw5 rfl rfl ?_; rintro _ w1 ⟨g1, cap1, rfl⟩ hown1 hgr1; have hm3 := (hgr1.block (w.heap.size + 3) (by show _ < W5.heap.size; omega) (fun e => by have := hvb _ e.symm; omega)).trans HB3.out; have hm4 := (hgr1.block (w.heap.size + 4) (by show _ < W5.heap.size; omega) (fun e => by have := hvb _ e.symm; omega)).trans HB4.out; have d3 : w1.cell? ⟨w.heap.size + 3, 0, none⟩ = some v := cell_of hm3; have e3 : w1.frozen? ⟨w.heap.size + 3, 0, none⟩ = false := frozen_of hm3; have d4 : w1.cell? ⟨w.heap.size + 4, 0, none⟩ = some (.pointer (some ⟨w.heap.size + 3, 0, none⟩)) := cell_of hm4; have Hm3 := Lib.hid hm3; have Hown1 := Lib.hid hown1; have Hgr1 := Lib.hid hgr1; clear hm3 hm4 hown1 hgr1)
                      try go_simp
                      refine hK _ _ ?_
                      clear hK K
                      refine wpAnyIn_ready (rs := [0]) (by kernel_rfl) (by simp) ?_
                      refine AllReadyIn.cons rfl (fun K hK => ?_) AllReadyIn.nil
                      go_simp
                      refine hK _ _ ?_
                      clear hK K
                      refine wpAnyIn_take (i := 8) (v := ?_) rfl rfl (by kernel_rfl) (by kernel_rfl) (by kernel_rfl) (fun _ _ _ h => h) ⟨Or.inl ⟨by rfl, ?_⟩, fun _ => rfl⟩ ?_
                      rotate_left 1
                      · (intro _; go_simp; (try with_reducible rfl))
                      refine wpAnyIn_take (i := 9) (v := ?_) rfl rfl (by kernel_rfl) (by kernel_rfl) (by kernel_rfl) (fun _ _ _ h => h) ⟨Or.inl ⟨by rfl, ?_⟩, fun _ => rfl⟩ ?_
                      rotate_left 1
                      · (intro _; go_simp; (try with_reducible rfl))
                      refine wpAnyIn_ready (rs := [10]) (by kernel_rfl) (by simp) ?_
                      refine AllReadyIn.cons rfl (fun K hK => ?_) AllReadyIn.nil
                      go_simp
                      refine hK _ _ ?_
                      clear hK K
                      refine wpAnyIn_done (by kernel_rfl) ?_ _
                      gi_wp2
                      exact Fin.out _ _ Hm3.out Hown1.out Hgr1.out
                    exact AllReadyIn.nil
                  exact AllReadyIn.nil
                exact AllReadyIn.nil
              exact AllReadyIn.nil
            exact AllReadyIn.nil
            -- end of region 11
    · rintro D W hD ⟨hok, h0, h1, h2, h4, v, h3, hown, hbel, hsz⟩ hdef
      rw [List.take_length] at hok hown
      rw [hok] at hpr
      obtain ⟨ao, cap, rfl, hncap⟩ := ownz_shape hown
      have c4 := cell_of h4; have c3 := cell_of h3
      have H0 := Lib.hid h0; have H1 := Lib.hid h1; have H2 := Lib.hid h2; have H3 := Lib.hid h3; have HOWN := Lib.hid hown; have HB := Lib.hid hbel; have HD := Lib.hid hdef
      have g0 := cell_of h0; have g1 := cell_of h1; have g2 := cell_of h2; have f0 := frozen_of h0; have f1 := frozen_of h1; have f2 := frozen_of h2
      clear h0 h1 h2 h3 h4 hown hbel hdef
      have hne : ∀ k, k ≤ w.heap.size + 2 → k ≠ D := fun k hk => by omega
      by_cases h32 : 32 < (rulesL ls).length
      · have t2 : decide ((32 : Int) < ((rulesL ls).length : Int)) = true := by simp; omega
        have HP := Lib.hid (show parseR l = .full by rw [hpr.out]; simp [h32])
        clear hpr h32
        go_wp2
        simp only [Exit.noGoto]
        obtain ⟨q0, q1, q2, qc⟩ := set3 (u0 := .pointer none) (u1 := .int .i64 0) (u2 := .int .i64 8) H0.out H1.out H2.out
        have hdef2 := (qc.block D (Array.getElem?_eq_some_iff.1 HD.out).1 (by omega)).trans HD.out
        refine marks_ret_at hdef2 (results_cells3 rfl _ _ _ rfl rfl rfl Tryd.isAgg37 Tryd.isAgg3 Tryd.isAgg38 (cell_of ((World.putObj_heap_other (hne _ (by omega))).trans q0)) (cell_of ((World.putObj_heap_other (hne _ (by omega))).trans q1)) (cell_of ((World.putObj_heap_other (hne _ (by omega))).trans q2))) ⟨parR_of HP.out rfl, below_mark (below_chg HB.out qc (fun k hk => by omega) (Nat.le_refl _)) (by omega) hdef2⟩
      · have t2 : decide ((32 : Int) < ((rulesL ls).length : Int)) = false := by simp; omega
        have HP := Lib.hid (show parseR l = .ok (rulesL ls) by rw [hpr.out]; simp [h32])
        clear hpr h32
        go_wp2
        simp only [Exit.noGoto]
        obtain ⟨q0, q1, q2, qc⟩ := set3 (u0 := .pointer (some ⟨w.heap.size + 3, 0, none⟩)) (u1 := .int .i64 0) (u2 := .int .i64 0) H0.out H1.out H2.out
        have hdef2 := (qc.block D (Array.getElem?_eq_some_iff.1 HD.out).1 (by omega)).trans HD.out
        have hb3 := (qc.block (w.heap.size + 3) (by omega) (by omega)).trans H3.out
        refine marks_ret_at hdef2 (results_cells3 rfl _ _ _ rfl rfl rfl Tryd.isAgg37 Tryd.isAgg3 Tryd.isAgg38 (cell_of ((World.putObj_heap_other (hne _ (by omega))).trans q0)) (cell_of ((World.putObj_heap_other (hne _ (by omega))).trans q1)) (cell_of ((World.putObj_heap_other (hne _ (by omega))).trans q2))) ⟨parR_of HP.out ⟨w.heap.size + 3, rfl, by omega, _, (World.putObj_heap_other (by omega)).trans hb3, ?_⟩, below_mark (below_chg HB.out qc (fun k hk => by omega) (Nat.le_refl _)) (by omega) hdef2⟩
        refine rowC_of_own (B := w.heap.size + 6) (e := 28) ruC_len (ownz_put ?_ hdef2)
        exact ownz_keep HOWN.out fun g hg hbg hk => qc.block g (kind_lt hk) (by omega)
    · rintro D c i W hD hi ⟨rfl, ⟨hok, hfi⟩, h0, h1, h2, hbel, hsz⟩ hdef
      have HP := Lib.hid (show parseR l = .bad (i + 1) by rw [hpr.out, hok, hfi]; rfl)
      clear hpr
      refine wpIn_wide.2 ?_
      go_wp2
      simp only [Exit.noGoto]
      have hne : ∀ k, k ≤ w.heap.size + 2 → k ≠ D := fun k hk => by omega
      refine marks_ret_at (D := D) hdef (results_cells3 rfl _ _ _ rfl rfl rfl Tryd.isAgg37 Tryd.isAgg3 Tryd.isAgg38 (cell_of ((World.putObj_heap_other (hne _ (by omega))).trans h0)) (cell_of ((World.putObj_heap_other (hne _ (by omega))).trans h1)) (cell_of ((World.putObj_heap_other (hne _ (by omega))).trans h2))) ⟨parR_of HP.out (by simp [ParQ]), below_mark hbel (by omega) hdef⟩
end Go.Proofs.YtjbobblnicnhnaaDoor
