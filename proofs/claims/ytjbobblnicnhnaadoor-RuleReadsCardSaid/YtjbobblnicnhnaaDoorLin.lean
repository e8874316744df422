/-
  rule.line.
-/
import Derived.BigGuardPart
import Derived.RegionTactic
import Derived.Deep.RegionWith
import Derived.Test.YtjbobblnicnhnaaDoorRows
import Derived.Test.YtjbobblnicnhnaaDoorPrt
import Derived.Test.YtjbobblnicnhnaaDoorRul
namespace Go.Proofs.YtjbobblnicnhnaaDoor
open Go.RowKit
set_option maxRecDepth 100000
set_option linter.unusedVariables false
set_option linter.unusedSimpArgs false

def allowL : List UInt8 := [97, 108, 108, 111, 119]
def denyL : List UInt8 := [100, 101, 110, 121]
/-- Out of five words. -/
def lineW (v ro te ho po : List UInt8) : Option Ru :=
  if v = allowL ∨ v = denyL then
    match spanO po with
    | some (a, b) => if ruOk ⟨v == allowL, ro, te, ho, a, b⟩ then some ⟨v == allowL, ro, te, ho, a, b⟩ else none
    | none => none
  else none
/-- A rule of a line; none: it is none. -/
def lineO (l : List UInt8) : Option Ru := match spb 32 l with | [v, ro, te, ho, po] => lineW v ro te ho po | _ => none
theorem lineO_five {l v ro te ho po : List UInt8} (h : spb 32 l = [v, ro, te, ho, po]) : lineO l = lineW v ro te ho po := by unfold lineO; rw [h]
theorem lineO_other {l : List UInt8} (h : (spb 32 l).length ≠ 5) : lineO l = none := by
  unfold lineO
  split
  · rename_i e; rw [e] at h; simp at h
  · rfl
def LineR (l : List UInt8) (e : Ending) : Prop := ∃ r : Ru, e = .returned (.tuple #[ruV r, .bool (lineO l).isSome]) ∧ RuB r ∧ ∀ x, lineO l = some x → r = x

theorem frozen_row {W : World} {b : Nat} {cs : Array Value} {t : TypeId} (h : W.heap[b]? = some (.cells cs t (0, 0))) (o : Nat) : W.frozen? ⟨b, o, none⟩ = false := by simp [World.frozen?, h]
theorem setCell_row {W : World} {b : Nat} {cs : Array Value} {t : TypeId} {f : Nat × Nat} (h : W.heap[b]? = some (.cells cs t f)) (i : Nat) (v : Value) : (W.setCell ⟨b, i, none⟩ v).heap[b]? = some (.cells (cs.setIfInBounds i v) t f) := by
  simp [World.setCell, Array.getElem?_modify, h]
theorem set6 {W : World} {b : Nat} {v0 v1 v2 v3 v4 v5 : Value} {t : TypeId} (h : W.heap[b]? = some (.cells #[v0, v1, v2, v3, v4, v5] t (0, 0))) (u0 u1 u2 u3 u4 u5 : Value) :
    ((((((W.setCell ⟨b, 0, none⟩ u0).setCell ⟨b, 1, none⟩ u1).setCell ⟨b, 2, none⟩ u2).setCell ⟨b, 3, none⟩ u3).setCell ⟨b, 4, none⟩ u4).setCell ⟨b, 5, none⟩ u5).heap[b]? = some (.cells #[u0, u1, u2, u3, u4, u5] t (0, 0)) := by
  have h1 := setCell_row (setCell_row (setCell_row (setCell_row (setCell_row (setCell_row h 0 u0) 1 u1) 2 u2) 3 u3) 4 u4) 5 u5
  simpa using h1
theorem below_set6 {B : Nat} {w W : World} {b : Nat} (h : Below B w W) (hb : B ≤ b) (u0 u1 u2 u3 u4 u5 : Value) :
    Below B w ((((((W.setCell ⟨b, 0, none⟩ u0).setCell ⟨b, 1, none⟩ u1).setCell ⟨b, 2, none⟩ u2).setCell ⟨b, 3, none⟩ u3).setCell ⟨b, 4, none⟩ u4).setCell ⟨b, 5, none⟩ u5) :=
  (((((h.setCell (by simpa using hb) _).setCell (by simpa using hb) _).setCell (by simpa using hb) _).setCell (by simpa using hb) _).setCell (by simpa using hb) _).setCell (by simpa using hb) _
set_option maxHeartbeats 2000000 in
theorem line_any (l : List UInt8) (hl : l.length ≤ 10000) (w : World) (hL : Lb w) :
    Calls Tryd.prog 51 #[Str l] w fun e w' => LineR l e ∧ Ext w w' := by
  have HL := Lib.hid hL; clear hL
  by_cases h5 : (spb 32 l).length = 5
  · obtain ⟨v, ro, te, ho, po, hsp⟩ : ∃ v ro te ho po, spb 32 l = [v, ro, te, ho, po] := by
      match hm : spb 32 l, h5 with
      | [v, ro, te, ho, po], _ => exact ⟨v, ro, te, ho, po, rfl⟩
    have hlo := lineO_five hsp
    have hpt := spb_part 32 l
    rw [hsp] at hpt
    have lv := hpt v (by simp); have lr := hpt ro (by simp); have lt := hpt te (by simp); have lh := hpt ho (by simp); have lp := hpt po (by simp)
    have HLO := Lib.hid hlo
    have hsl := split_any l 32 (by omega)
    rw [hsp] at hsl
    have HSL := Lib.hid hsl
    have HSP := Lib.hid (fun W hW => span_any po (by omega) W hW)
    clear hpt hlo hsp h5 hsl
    go_enter Tryd.func51, Tryd.ntmps51
    go_wp2_with fail
    obtain ⟨W1, hW1⟩ : ∃ W1, w.alloc (.cells #[.bool false, Str [], Str [], Str [], .int .i64 0, .int .i64 0] 28) = W1 := ⟨_, rfl⟩
    have hx : Ext w W1 := by rw [← hW1]; exact Below.alloc (Below.refl _ _) (Nat.le_refl _) _
    have hc : W1.heap[w.heap.size]? = some (.cells #[.bool false, Str [], Str [], Str [], .int .i64 0, .int .i64 0] 28 (0, 0)) := by rw [← hW1]; exact Array.getElem?_push_size
    rw [hW1]
    refine (HSL.out W1 (HL.out.ext hx)).mono ?_
    rintro e W2 ⟨he, hw⟩
    subst he
    have hx2 : Ext W1 W2 := by rw [hw]; exact Below.alloc (Below.refl _ _) (Nat.le_refl _) _
    have hc2 := (hx2.block _ (Array.getElem?_eq_some_iff.1 hc).1).trans hc
    have hs2 : W2.heap[W1.heap.size]? = some (.cells #[Str v, Str ro, Str te, Str ho, Str po] 9 (0, 0)) := by rw [hw]; exact Array.getElem?_push_size
    have p0 : W2.cell? ⟨W1.heap.size, 0, none⟩ = some (Str v) := by simp [World.cell?, hs2]
    have p1 : W2.cell? ⟨W1.heap.size, 1, none⟩ = some (Str ro) := by simp [World.cell?, hs2]
    have p2 : W2.cell? ⟨W1.heap.size, 2, none⟩ = some (Str te) := by simp [World.cell?, hs2]
    have p3 : W2.cell? ⟨W1.heap.size, 3, none⟩ = some (Str ho) := by simp [World.cell?, hs2]
    have p4 : W2.cell? ⟨W1.heap.size, 4, none⟩ = some (Str po) := by simp [World.cell?, hs2]
    have HX := Lib.hid (ext_trans hx hx2)
    have HC2 := Lib.hid hc2
    clear hw hx hx2 hc hW1 hs2 hc2 HSL
    generalize hg : W1.heap.size = g at *
    clear hg
    by_cases hva : v = allowL ∨ v = denyL
    · have hva1 : ((v == [97, 108, 108, 111, 119]) = true) ∨ ((v == [97, 108, 108, 111, 119]) = false ∧ (v == [100, 101, 110, 121]) = true) := by
        rcases hva with h | h
        · left; rw [h]; rfl
        · right; rw [h]; exact ⟨rfl, rfl⟩
      have HLW := Lib.hid (show lineO l = match spanO po with
          | some (a, b) => if ruOk ⟨v == allowL, ro, te, ho, a, b⟩ then some ⟨v == allowL, ro, te, ho, a, b⟩ else none
          | none => none by rw [HLO.out, lineW, if_pos hva])
      clear HLO hva
      have hal : (v == allowL) = (v == [97, 108, 108, 111, 119]) := rfl
      rw [hal] at HLW
      clear hal
      rcases hva1 with hv1 | ⟨hv1, hv2⟩
      · rw [hv1] at HLW
        go_wp2_with fail
        refine (HSP.out W2 (HL.out.ext HX.out)).mono ?_
        rintro e W3 ⟨⟨f, t, he, hf, ht, hft⟩, hx3⟩
        subst he
        have q0 := ext_cell hx3 p0; have q1 := ext_cell hx3 p1; have q2 := ext_cell hx3 p2; have q3 := ext_cell hx3 p3
        have hc3 := (hx3.block _ (Array.getElem?_eq_some_iff.1 HC2.out).1).trans HC2.out
        have HX3 := Lib.hid (ext_trans HX.out hx3)
        have HC3 := Lib.hid hc3
        have HFT := Lib.hid hft
        have hgs := World.block_lt_of_cell? W3 _ q0
        simp only at hgs
        clear hx3 p0 p1 p2 p3 p4 hc3 HC2 HX HSP hft
        go_wp2
        go_region
        obtain ⟨W4, hW4⟩ : ∃ W4, W3.alloc (.cells #[.bool true, Str ro, Str te, Str ho, .int .i64 f, .int .i64 t] 28) = W4 := ⟨_, rfl⟩
        have hx4 : Ext W3 W4 := by rw [← hW4]; exact Below.alloc (Below.refl _ _) (Nat.le_refl _) _
        have hn4 : W4.heap[W3.heap.size]? = some (.cells #[.bool true, Str ro, Str te, Str ho, .int .i64 f, .int .i64 t] 28 (0, 0)) := by rw [← hW4]; exact Array.getElem?_push_size
        have ho4 := (hx4.block _ (Array.getElem?_eq_some_iff.1 HC3.out).1).trans HC3.out
        have hw2 : w.heap.size < W3.heap.size := (Array.getElem?_eq_some_iff.1 HC3.out).1
        rw [hW4]
        have HX4 := Lib.hid (ext_trans HX3.out hx4); have HN4 := Lib.hid hn4; have HO4 := Lib.hid ho4
        clear hW4 hx4 HC3 HX3 q0 q1 q2 q3
        obtain ⟨c0, c1, c2, c3, c4, c5⟩ := cells6 hn4
        obtain ⟨d0, d1, d2, d3, d4, d5⟩ := cells6 ho4
        have hfz := frozen_row ho4
        clear hn4 ho4
        generalize W3.heap.size = gg at *
        cases hsp : spanO po with
        | none =>
          rw [hsp] at HLW
          have HN := Lib.hid (show lineO l = none from HLW.out)
          clear hsp HLW
          go_wp2
          go_region
          all_goals
            go_wp2
            have h6 := set6 HO4.out (.bool true) (Str ro) (Str te) (Str ho) (.int .i64 f) (.int .i64 t)
            have hb6 := below_set6 HX4.out (Nat.le_refl _) (.bool true) (Str ro) (Str te) (Str ho) (.int .i64 f) (.int .i64 t)
            simp only [Str] at h6 hb6
            generalize ((((((W4.setCell _ _).setCell _ _).setCell _ _).setCell _ _).setCell _ _).setCell _ _) = W5 at *
            obtain ⟨e0, e1, e2, e3, e4, e5⟩ := cells6 h6
            refine bodyPost_ret (v := .tuple #[ruV ⟨true, ro, te, ho, f, t⟩, .bool false]) (by simp [results, Tryd.results51, go_sem, e0, e1, e2, e3, e4, e5]) rfl ?_
            exact ⟨⟨⟨true, ro, te, ho, f, t⟩, by rw [HN.out]; rfl, ⟨by simp; omega, by simp; omega, by simp; omega, hf.1, hf.2, ht.1, ht.2⟩, fun x h => by rw [HN.out] at h; cases h⟩, Below.drew (Below.drew hb6)⟩
        | some ab =>
          obtain ⟨aa, bb⟩ := ab
          obtain ⟨rfl, rfl⟩ := HFT.out aa bb hsp
          rw [hsp] at HLW
          have HLW2 := Lib.hid (show lineO l = if ruOk ⟨true, ro, te, ho, (aa : Int), (bb : Int)⟩ then some ⟨true, ro, te, ho, (aa : Int), (bb : Int)⟩ else none from HLW.out)
          clear hsp HLW HFT
          have hrb : RuB ⟨true, ro, te, ho, (aa : Int), (bb : Int)⟩ := ⟨by simp; omega, by simp; omega, by simp; omega, hf.1, hf.2, ht.1, ht.2⟩
          have HRT := Lib.hid (fun W => right_any _ hrb W)
          have HRB := Lib.hid hrb
          have HLR : Hid ((lineO l).isSome = ruOk ⟨true, ro, te, ho, (aa : Int), (bb : Int)⟩ ∧ ∀ x, lineO l = some x → ⟨true, ro, te, ho, (aa : Int), (bb : Int)⟩ = x) := by
            have := HLW2.out
            split at this
            · rename_i h; exact ⟨by rw [this, h]; rfl, fun x hx => by rw [this] at hx; injection hx⟩
            · rename_i h; exact ⟨by rw [this]; simp at h; rw [h]; rfl, fun x hx => by rw [this] at hx; cases hx⟩
          generalize ruOk ⟨true, ro, te, ho, (aa : Int), (bb : Int)⟩ = okr at *
          clear hrb HLW2
          go_wp2
          go_region_with (go_at_call 45; refine (HRT.out _).mono ?_; rintro e W5 ⟨he, hx5⟩; subst he; have g0 := ext_cell (w := W4.drew.drew) hx5 c0; have g1 := ext_cell (w := W4.drew.drew) hx5 c1; have g2 := ext_cell (w := W4.drew.drew) hx5 c2; have g3 := ext_cell (w := W4.drew.drew) hx5 c3; have g4 := ext_cell (w := W4.drew.drew) hx5 c4; have g5 := ext_cell (w := W4.drew.drew) hx5 c5; have HO5 := Lib.hid ((hx5.block _ (Array.getElem?_eq_some_iff.1 HO4.out).1).trans HO4.out); have HX5 := Lib.hid (ext_trans HX4.out ((Below.drew (Below.drew (Below.refl _ W4))).trans hx5)); obtain ⟨j0, j1, j2, j3, j4, j5⟩ := cells6 HO5.out; have jf := frozen_row HO5.out; clear hx5)
          all_goals
            go_wp2
            have h6 := set6 HO5.out (.bool true) (Str ro) (Str te) (Str ho) (.int .i64 (aa : Int)) (.int .i64 (bb : Int))
            have hb6 := below_set6 HX5.out (Nat.le_refl _) (.bool true) (Str ro) (Str te) (Str ho) (.int .i64 (aa : Int)) (.int .i64 (bb : Int))
            simp only [Str] at h6 hb6
            generalize ((((((W5.setCell _ _).setCell _ _).setCell _ _).setCell _ _).setCell _ _).setCell _ _) = W6 at *
            obtain ⟨e0, e1, e2, e3, e4, e5⟩ := cells6 h6
            refine bodyPost_ret (v := .tuple #[ruV ⟨true, ro, te, ho, (aa : Int), (bb : Int)⟩, .bool okr]) (by simp [results, Tryd.results51, go_sem, e0, e1, e2, e3, e4, e5]) rfl ?_
            exact ⟨⟨⟨true, ro, te, ho, (aa : Int), (bb : Int)⟩, by rw [HLR.out.1], HRB.out, fun x h => HLR.out.2 x h⟩, hb6⟩
      · rw [hv1] at HLW
        go_wp2_with fail
        refine (HSP.out W2 (HL.out.ext HX.out)).mono ?_
        rintro e W3 ⟨⟨f, t, he, hf, ht, hft⟩, hx3⟩
        subst he
        have q0 := ext_cell hx3 p0; have q1 := ext_cell hx3 p1; have q2 := ext_cell hx3 p2; have q3 := ext_cell hx3 p3
        have hc3 := (hx3.block _ (Array.getElem?_eq_some_iff.1 HC2.out).1).trans HC2.out
        have HX3 := Lib.hid (ext_trans HX.out hx3)
        have HC3 := Lib.hid hc3
        have HFT := Lib.hid hft
        have hgs := World.block_lt_of_cell? W3 _ q0
        simp only at hgs
        clear hx3 p0 p1 p2 p3 p4 hc3 HC2 HX HSP hft
        go_wp2
        go_region
        obtain ⟨W4, hW4⟩ : ∃ W4, W3.alloc (.cells #[.bool false, Str ro, Str te, Str ho, .int .i64 f, .int .i64 t] 28) = W4 := ⟨_, rfl⟩
        have hx4 : Ext W3 W4 := by rw [← hW4]; exact Below.alloc (Below.refl _ _) (Nat.le_refl _) _
        have hn4 : W4.heap[W3.heap.size]? = some (.cells #[.bool false, Str ro, Str te, Str ho, .int .i64 f, .int .i64 t] 28 (0, 0)) := by rw [← hW4]; exact Array.getElem?_push_size
        have ho4 := (hx4.block _ (Array.getElem?_eq_some_iff.1 HC3.out).1).trans HC3.out
        have hw2 : w.heap.size < W3.heap.size := (Array.getElem?_eq_some_iff.1 HC3.out).1
        rw [hW4]
        have HX4 := Lib.hid (ext_trans HX3.out hx4); have HN4 := Lib.hid hn4; have HO4 := Lib.hid ho4
        clear hW4 hx4 HC3 HX3 q0 q1 q2 q3
        obtain ⟨c0, c1, c2, c3, c4, c5⟩ := cells6 hn4
        obtain ⟨d0, d1, d2, d3, d4, d5⟩ := cells6 ho4
        have hfz := frozen_row ho4
        clear hn4 ho4
        generalize W3.heap.size = gg at *
        cases hsp : spanO po with
        | none =>
          rw [hsp] at HLW
          have HN := Lib.hid (show lineO l = none from HLW.out)
          clear hsp HLW
          go_wp2
          go_region
          all_goals
            go_wp2
            have h6 := set6 HO4.out (.bool false) (Str ro) (Str te) (Str ho) (.int .i64 f) (.int .i64 t)
            have hb6 := below_set6 HX4.out (Nat.le_refl _) (.bool false) (Str ro) (Str te) (Str ho) (.int .i64 f) (.int .i64 t)
            simp only [Str] at h6 hb6
            generalize ((((((W4.setCell _ _).setCell _ _).setCell _ _).setCell _ _).setCell _ _).setCell _ _) = W5 at *
            obtain ⟨e0, e1, e2, e3, e4, e5⟩ := cells6 h6
            refine bodyPost_ret (v := .tuple #[ruV ⟨false, ro, te, ho, f, t⟩, .bool false]) (by simp [results, Tryd.results51, go_sem, e0, e1, e2, e3, e4, e5]) rfl ?_
            exact ⟨⟨⟨false, ro, te, ho, f, t⟩, by rw [HN.out]; rfl, ⟨by simp; omega, by simp; omega, by simp; omega, hf.1, hf.2, ht.1, ht.2⟩, fun x h => by rw [HN.out] at h; cases h⟩, Below.drew (Below.drew hb6)⟩
        | some ab =>
          obtain ⟨aa, bb⟩ := ab
          obtain ⟨rfl, rfl⟩ := HFT.out aa bb hsp
          rw [hsp] at HLW
          have HLW2 := Lib.hid (show lineO l = if ruOk ⟨false, ro, te, ho, (aa : Int), (bb : Int)⟩ then some ⟨false, ro, te, ho, (aa : Int), (bb : Int)⟩ else none from HLW.out)
          clear hsp HLW HFT
          have hrb : RuB ⟨false, ro, te, ho, (aa : Int), (bb : Int)⟩ := ⟨by simp; omega, by simp; omega, by simp; omega, hf.1, hf.2, ht.1, ht.2⟩
          have HRT := Lib.hid (fun W => right_any _ hrb W)
          have HRB := Lib.hid hrb
          have HLR : Hid ((lineO l).isSome = ruOk ⟨false, ro, te, ho, (aa : Int), (bb : Int)⟩ ∧ ∀ x, lineO l = some x → ⟨false, ro, te, ho, (aa : Int), (bb : Int)⟩ = x) := by
            have := HLW2.out
            split at this
            · rename_i h; exact ⟨by rw [this, h]; rfl, fun x hx => by rw [this] at hx; injection hx⟩
            · rename_i h; exact ⟨by rw [this]; simp at h; rw [h]; rfl, fun x hx => by rw [this] at hx; cases hx⟩
          generalize ruOk ⟨false, ro, te, ho, (aa : Int), (bb : Int)⟩ = okr at *
          clear hrb HLW2
          go_wp2
          go_region_with (go_at_call 45; refine (HRT.out _).mono ?_; rintro e W5 ⟨he, hx5⟩; subst he; have g0 := ext_cell (w := W4.drew.drew) hx5 c0; have g1 := ext_cell (w := W4.drew.drew) hx5 c1; have g2 := ext_cell (w := W4.drew.drew) hx5 c2; have g3 := ext_cell (w := W4.drew.drew) hx5 c3; have g4 := ext_cell (w := W4.drew.drew) hx5 c4; have g5 := ext_cell (w := W4.drew.drew) hx5 c5; have HO5 := Lib.hid ((hx5.block _ (Array.getElem?_eq_some_iff.1 HO4.out).1).trans HO4.out); have HX5 := Lib.hid (ext_trans HX4.out ((Below.drew (Below.drew (Below.refl _ W4))).trans hx5)); obtain ⟨j0, j1, j2, j3, j4, j5⟩ := cells6 HO5.out; have jf := frozen_row HO5.out; clear hx5)
          all_goals
            go_wp2
            have h6 := set6 HO5.out (.bool false) (Str ro) (Str te) (Str ho) (.int .i64 (aa : Int)) (.int .i64 (bb : Int))
            have hb6 := below_set6 HX5.out (Nat.le_refl _) (.bool false) (Str ro) (Str te) (Str ho) (.int .i64 (aa : Int)) (.int .i64 (bb : Int))
            simp only [Str] at h6 hb6
            generalize ((((((W5.setCell _ _).setCell _ _).setCell _ _).setCell _ _).setCell _ _).setCell _ _) = W6 at *
            obtain ⟨e0, e1, e2, e3, e4, e5⟩ := cells6 h6
            refine bodyPost_ret (v := .tuple #[ruV ⟨false, ro, te, ho, (aa : Int), (bb : Int)⟩, .bool okr]) (by simp [results, Tryd.results51, go_sem, e0, e1, e2, e3, e4, e5]) rfl ?_
            exact ⟨⟨⟨false, ro, te, ho, (aa : Int), (bb : Int)⟩, by rw [HLR.out.1], HRB.out, fun x h => HLR.out.2 x h⟩, hb6⟩
    · have HN := Lib.hid (show lineO l = none by rw [HLO.out, lineW, if_neg hva])
      have hv1 : (v == [97, 108, 108, 111, 119]) = false := by
        rw [beq_eq_false_iff_ne]; exact fun h => hva (.inl h)
      have hv2 : (v == [100, 101, 110, 121]) = false := by
        rw [beq_eq_false_iff_ne]; exact fun h => hva (.inr h)
      clear HLO hva
      obtain ⟨c0, c1, c2, c3, c4, c5⟩ := cells6 HC2.out
      have hfz := frozen_row HC2.out
      have h6 := set6 HC2.out (.bool false) (Str []) (Str []) (Str []) (.int .i64 0) (.int .i64 0)
      have hb6 := below_set6 HX.out (Nat.le_refl _) (.bool false) (Str []) (Str []) (Str []) (.int .i64 0) (.int .i64 0)
      have H6 := Lib.hid h6; have HB6 := Lib.hid hb6
      clear h6 hb6 HC2
      go_wp2
      have H6' := H6.out; have HB6' := HB6.out
      simp only [Str] at H6' HB6'
      generalize ((((((W2.setCell _ _).setCell _ _).setCell _ _).setCell _ _).setCell _ _).setCell _ _) = W3 at *
      obtain ⟨d0, d1, d2, d3, d4, d5⟩ := cells6 H6'
      refine bodyPost_ret (v := .tuple #[ruV ⟨false, [], [], [], 0, 0⟩, .bool false]) (by simp [results, Tryd.results51, go_sem, d0, d1, d2, d3, d4, d5]) rfl ?_
      exact ⟨⟨⟨false, [], [], [], 0, 0⟩, by rw [HN.out]; rfl, ⟨by simp, by simp, by simp, by simp, by simp, by simp, by simp⟩, fun x h => by rw [HN.out] at h; cases h⟩, HB6'⟩
  · have HN := Lib.hid (lineO_other h5)
    go_enter Tryd.func51, Tryd.ntmps51
    go_wp2_with fail
    obtain ⟨W1, hW1⟩ : ∃ W1, w.alloc (.cells #[.bool false, Str [], Str [], Str [], .int .i64 0, .int .i64 0] 28) = W1 := ⟨_, rfl⟩
    have hx : Ext w W1 := by rw [← hW1]; exact Below.alloc (Below.refl _ _) (Nat.le_refl _) _
    have hc : W1.heap[w.heap.size]? = some (.cells #[.bool false, Str [], Str [], Str [], .int .i64 0, .int .i64 0] 28 (0, 0)) := by rw [← hW1]; exact Array.getElem?_push_size
    rw [hW1]
    refine (split_any l 32 (by omega) W1 (HL.out.ext hx)).mono ?_
    rintro e W2 ⟨he, hw⟩
    subst he
    have hx2 : Ext W1 W2 := by rw [hw]; exact Below.alloc (Below.refl _ _) (Nat.le_refl _) _
    have hc2 := (hx2.block _ (Array.getElem?_eq_some_iff.1 hc).1).trans hc
    obtain ⟨c0, c1, c2, c3, c4, c5⟩ := cells6 hc2
    have t1 : (((spb 32 l).length : Int) == 5) = false := by simp; omega
    have t2 : (((spb 32 l).length : Int) != 5) = true := by simp; omega
    have HX := Lib.hid (ext_trans hx hx2)
    have hfz := frozen_row hc2
    have h6 := set6 hc2 (.bool false) (Str []) (Str []) (Str []) (.int .i64 0) (.int .i64 0)
    have hb6 := below_set6 HX.out (Nat.le_refl _) (.bool false) (Str []) (Str []) (Str []) (.int .i64 0) (.int .i64 0)
    have H6 := Lib.hid h6; have HB6 := Lib.hid hb6
    clear hw hx hx2 hc hW1 h6 hb6 hc2
    go_wp2
    have H6' := H6.out; have HB6' := HB6.out
    simp only [Str] at H6' HB6'
    generalize ((((((W2.setCell _ _).setCell _ _).setCell _ _).setCell _ _).setCell _ _).setCell _ _) = W3 at *
    obtain ⟨d0, d1, d2, d3, d4, d5⟩ := cells6 H6'
    refine bodyPost_ret (v := .tuple #[ruV ⟨false, [], [], [], 0, 0⟩, .bool false]) (by simp [results, Tryd.results51, go_sem, d0, d1, d2, d3, d4, d5]) rfl ?_
    exact ⟨⟨⟨false, [], [], [], 0, 0⟩, by rw [HN.out]; rfl, ⟨by simp, by simp, by simp, by simp, by simp, by simp, by simp⟩, fun x h => by rw [HN.out] at h; cases h⟩, HB6'⟩
end Go.Proofs.YtjbobblnicnhnaaDoor
