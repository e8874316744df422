/-
  ref16.Line: its walk.
-/
import Derived.BigGuardPart
import Derived.RegionTactic
import Derived.Deep.DrawnRows
import Derived.Deep.LoopGhost
import Derived.Deep.CutBlock
import Derived.Deep.DeepCutAuto
import Derived.Test.YtjbobblnicnhnaaDoorRows
import Derived.Test.YtjbobblnicnhnaaDoorRne
import Derived.Test.YtjbobblnicnhnaaDoorRlns
import Derived.Test.YtjbobblnicnhnaaDoorRul
import Derived.Test.YtjbobblnicnhnaaDoorPar
import Derived.Test.YtjbobblnicnhnaaDoorKit
namespace Go.Proofs.YtjbobblnicnhnaaDoor
open Go.RowKit
set_option maxRecDepth 100000
attribute [local go_sem ↓] Go.wp_at_zero Go.wp_at_succ
set_option linter.unusedVariables false
set_option linter.unusedSimpArgs false

theorem cells6' {W : World} {b : Nat} {v0 v1 v2 v3 v4 v5 : Value} {t : TypeId} (h : W.heap[b]? = some (.cells #[v0, v1, v2, v3, v4, v5] t (0, 0))) :
    W.cell? ⟨b, 0, none⟩ = some v0 ∧ W.cell? ⟨b, 1, none⟩ = some v1 ∧ W.cell? ⟨b, 2, none⟩ = some v2 ∧ W.cell? ⟨b, 3, none⟩ = some v3 ∧ W.cell? ⟨b, 4, none⟩ = some v4 ∧ W.cell? ⟨b, 5, none⟩ = some v5 := by
  refine ⟨?_, ?_, ?_, ?_, ?_, ?_⟩ <;> simp [World.cell?, h]
theorem set6w {W : World} {b : Nat} {v0 v1 v2 v3 v4 v5 : Value} {t : TypeId} (h : W.heap[b]? = some (.cells #[v0, v1, v2, v3, v4, v5] t (0, 0))) (a0 a1 a2 a3 a4 a5 : Value) :
    ∃ W9, (((((W.setCell ⟨b, 0, none⟩ a0).setCell ⟨b, 1, none⟩ a1).setCell ⟨b, 2, none⟩ a2).setCell ⟨b, 3, none⟩ a3).setCell ⟨b, 4, none⟩ a4).setCell ⟨b, 5, none⟩ a5 = W9 ∧ W9.heap[b]? = some (.cells #[a0, a1, a2, a3, a4, a5] t (0, 0)) ∧ Chg (fun q => q = b) W W9 := by
  refine ⟨_, rfl, set6 h a0 a1 a2 a3 a4 a5, ?_⟩
  exact (((((Chg.setCell W ⟨b, 0, none⟩ a0).trans (Chg.setCell _ ⟨b, 1, none⟩ a1)).trans (Chg.setCell _ ⟨b, 2, none⟩ a2)).trans (Chg.setCell _ ⟨b, 3, none⟩ a3)).trans (Chg.setCell _ ⟨b, 4, none⟩ a4)).trans (Chg.setCell _ ⟨b, 5, none⟩ a5)
def ruZ : Ru := ⟨false, [], [], [], 0, 0⟩
theorem ruZ_b : RuB ruZ := ⟨by simp [ruZ], by simp [ruZ], by simp [ruZ], by simp [ruZ], by simp [ruZ], by simp [ruZ], by simp [ruZ]⟩
theorem line_no {l : List UInt8} (h : lineO l = none) : LineR l (.returned (.tuple #[.agg #[.bool false, Str [], Str [], Str [], .int .i64 0, .int .i64 0], .bool false])) :=
  ⟨ruZ, by rw [h]; rfl, ruZ_b, fun x hx => by rw [h] at hx; cases hx⟩
theorem ext_setR {w w' : World} {b i : Nat} {x : Value} (h : Ext w w') (hb : w.heap.size ≤ b) : Ext w (w'.setCell ⟨b, i, none⟩ x) :=
  below_chg h (Chg.setCell w' ⟨b, i, none⟩ x) (fun k hk => by have hk' : k = b := hk; omega) (Nat.le_refl _)
set_option maxHeartbeats 4000000 in
theorem lineR_any (l : List UInt8) (hl : l.length ≤ 10000) (w : World) :
    Calls Tryd.prog 53 #[Str l] w fun e w' => LineR l e ∧ Ext w w' := by
  obtain ⟨W1, hW1⟩ : ∃ W1, w.alloc (.cells #[.bool false, Str [], Str [], Str [], .int .i64 0, .int .i64 0] 26) = W1 := ⟨_, rfl⟩
  have hx1 : Ext w W1 := by rw [← hW1]; exact Below.alloc (Below.refl _ _) (Nat.le_refl _) _
  have hc1 : W1.heap[w.heap.size]? = some (.cells #[.bool false, Str [], Str [], Str [], .int .i64 0, .int .i64 0] 26 (0, 0)) := by rw [← hW1]; exact Array.getElem?_push_size
  have HS := Lib.hid (split15_any l 32 hl W1)
  have hpart := spb_part 32 l
  go_enter Tryd.func53, Tryd.ntmps53
  go_wp2_with fail
  try rw [hW1]
  clear hW1
  refine Calls.mono HS.out ?_
  rintro e W2 ⟨v, he, hown, hx2⟩
  subst he
  have HX2 := Lib.hid (ext_trans hx1 hx2)
  have HC2 := Lib.hid (ext_at hx2 hc1)
  have hb0 : w.heap.size < W1.heap.size := (Array.getElem?_eq_some_iff.1 hc1).1
  have hbs := hx2.size
  clear hx1 hx2 hc1 HS
  by_cases h5 : (spb 32 l).length = 5
  · obtain ⟨vb, ro, te, ho, po, hsp⟩ : ∃ v ro te ho po, spb 32 l = [v, ro, te, ho, po] := by
      match hm : spb 32 l, h5 with
      | [v, ro, te, ho, po], _ => exact ⟨v, ro, te, ho, po, rfl⟩
    rw [hsp] at hown hpart
    obtain ⟨g, cap, hv, hcap, hcells⟩ : ∃ g cap, v = .slice (some ⟨g, 0, none⟩) 5 cap ∧ 5 ≤ cap ∧ ∀ (k : Nat) x, ([Str vb, Str ro, Str te, Str ho, Str po] : List Value)[k]? = some x → W2.cell? ⟨g, k, none⟩ = some x := by
      obtain ⟨ao, cp, hv, h1, h2, h3, hc⟩ := sl_of_own hown
      rcases hown.2 with ⟨_, h0⟩ | ⟨g, cap, cur, hv2, _⟩
      · simp at h0
      · rw [hv2] at hv
        simp only [Value.slice.injEq] at hv
        obtain ⟨rfl, hn, rfl⟩ := hv
        refine ⟨g, cap, by rw [hv2]; rfl, by simpa using h1, fun k x hx => ?_⟩
        have := hc k x (by simpa using hx)
        rwa [adr_some, Nat.zero_add] at this
    subst hv
    have hix : ∀ (k : Nat) W, k < 5 → (Instr.indexAt 31 (.slice (some ⟨g, 0, none⟩) 5 cap) (.int .i64 (k : Int))).run Tryd.prog W = .ok (.pointer (some ⟨g, k, none⟩)) W := fun k W hk => by
      have := run_index_adr (P := Tryd.prog) Tryd.underlying31 Tryd.sizeOf9 (ao := some ⟨g, 0, none⟩) (n := 5) (cap := cap) (by simp) hcap W k hk
      rwa [adr_some, Nat.zero_add] at this
    have i0 : ∀ W, (Instr.indexAt 31 (.slice (some ⟨g, 0, none⟩) 5 cap) (.int .i64 0)).run Tryd.prog W = .ok (.pointer (some ⟨g, 0, none⟩)) W := fun W => hix 0 W (by omega)
    have i1 : ∀ W, (Instr.indexAt 31 (.slice (some ⟨g, 0, none⟩) 5 cap) (.int .i64 1)).run Tryd.prog W = .ok (.pointer (some ⟨g, 1, none⟩)) W := fun W => hix 1 W (by omega)
    have i2 : ∀ W, (Instr.indexAt 31 (.slice (some ⟨g, 0, none⟩) 5 cap) (.int .i64 2)).run Tryd.prog W = .ok (.pointer (some ⟨g, 2, none⟩)) W := fun W => hix 2 W (by omega)
    have i3 : ∀ W, (Instr.indexAt 31 (.slice (some ⟨g, 0, none⟩) 5 cap) (.int .i64 3)).run Tryd.prog W = .ok (.pointer (some ⟨g, 3, none⟩)) W := fun W => hix 3 W (by omega)
    have i4 : ∀ W, (Instr.indexAt 31 (.slice (some ⟨g, 0, none⟩) 5 cap) (.int .i64 4)).run Tryd.prog W = .ok (.pointer (some ⟨g, 4, none⟩)) W := fun W => hix 4 W (by omega)
    have k0 := hcells 0 _ rfl
    have k1 := hcells 1 _ rfl
    have k2 := hcells 2 _ rfl
    have k3 := hcells 3 _ rfl
    have k4 := hcells 4 _ rfl
    have hl0 := hpart vb (by simp); have hl1 := hpart ro (by simp); have hl2 := hpart te (by simp); have hl3 := hpart ho (by simp); have hl4 := hpart po (by simp)
    clear hix hcells hown hpart h5 hcap
    by_cases hv : vb = allowL ∨ vb = denyL
    · have HLO := Lib.hid (lineO_five hsp)
      have HREF := Lib.hid (lineW_ref (ro := ro) (te := te) (ho := ho) (po := po) hv)
      have HBD := Lib.hid (And.intro hl1 (And.intro hl2 hl3))
      have HV := Lib.hid hv
      go_upto_region 2 with fail
      go_cut [23] from 9 (fun s23 wx => wx = W2 ∧ s23 = .bool false)
      case first =>
        rcases hv with rfl | rfl
        · have h1 : (allowL == [97, 108, 108, 111, 119]) = true := rfl
          go_wp2
          go_meet
          exact ⟨rfl, rfl⟩
        · have h1 : (denyL == [97, 108, 108, 111, 119]) = false := rfl
          have h2 : (denyL == [100, 101, 110, 121]) = true := rfl
          go_wp2
          go_meet
          exact ⟨rfl, rfl⟩
      case rest =>
        obtain ⟨hwx, rfl⟩ := hcut
        subst wc
        have HK0 := Lib.hid k0; have HK1 := Lib.hid k1; have HK2 := Lib.hid k2; have HK3 := Lib.hid k3; have HK4 := Lib.hid k4
        obtain ⟨al, hal⟩ : ∃ b, (vb == [97, 108, 108, 111, 119]) = b := ⟨_, rfl⟩
        have HAL := Lib.hid (show (vb == allowL) = al from hal)
        obtain ⟨gs, hgs⟩ : ∃ gs, W2.heap.size = gs := ⟨_, rfl⟩
        have HGS := Lib.hid hgs
        clear hv hsp k0 k1 k2 k3 k4 hgs
        go_upto_region 4 with fail
        -- inv {'ops': [('mv', 25, 4, '.slice (some ⟨g, 0, none⟩) 5 cap'), ('op', 26, [0], '.pointer (some ⟨g, 0, none⟩)'), ('lf', 27, 1, 'Str vb', 'have d0 := ext_cell E0 HK0.out'), ('op', 28, [2], '.bool al'), ('mv', 29, 4, '.slice (some ⟨g, 0, none⟩) 5 cap'), ('op', 30, [4], '.pointer (some ⟨g, 1, none⟩)'), ('lf', 31, 5, 'Str ro', 'have d0 := ext_cell E0 HK1.out'), ('mv', 32, 4, '.slice (some ⟨g, 0, none⟩) 5 cap'), ('op', 33, [7], '.pointer (some ⟨g, 2, none⟩)'), ('lf', 34, 8, 'Str te', 'have d0 := ext_cell E0 HK2.out'), ('mv', 35, 4, '.slice (some ⟨g, 0, none⟩) 5 cap'), ('op', 36, [10], '.pointer (some ⟨g, 3, none⟩)'), ('lf', 37, 11, 'Str ho', 'have d0 := ext_cell E0 HK3.out'), ('op', 38, [3, 6, 9, 12], '.agg #[.bool al, Str ro, Str te, Str ho, .int .i64 1, .int .i64 65535]'), ('al', 5, 'gs', ['.bool false', '.string ⟨#[]⟩', '.string ⟨#[]⟩', '.string ⟨#[]⟩', '.int .i64 0', '.int .i64 0'], '26'), ('st', None, [13, 14], "have hc9 := X1 (hp.of 14 (by kernel_rfl)) hL; have hf9 := frozen_row hc9; have hb9 := (Array.getElem?_eq_some_iff.1 hc9).1; obtain ⟨z0, z1, z2, z3, z4, z5⟩ := cells6' hc9")], 'W': [('E0', "Ext W2 w'", 'Below.drew (Below.refl _ _)'), ('V0', "L 14 = false → w'.heap.size = gs", 'fun _ => HGS.out'), ('X1', "L 14 = true → L 15 = false → w'.heap[gs]? = some (.cells #[.bool false, .string ⟨#[]⟩, .string ⟨#[]⟩, .string ⟨#[]⟩, .int .i64 0, .int .i64 0] 26 (0, 0))", '(fun h => by cases h)'), ('Y2', "L 15 = true → w'.heap[gs]? = some (.cells #[.bool al, Str ro, Str te, Str ho, .int .i64 1, .int .i64 65535] 26 (0, 0))", '(fun h => by cases h)')], 'over': {14: {'X1': 'fun _ _ => by rw [← hsz]; exact Array.getElem?_push_size', 'Y2': 'fun h => absurd h (by simp [hcl.not 15 (by kernel_rfl) hL])'}, 15: {'E0': 'ext_setR (ext_setR (ext_setR (ext_setR (ext_setR (ext_setR (E0) (by have := HGS.out; omega)) (by have := HGS.out; omega)) (by have := HGS.out; omega)) (by have := HGS.out; omega)) (by have := HGS.out; omega)) (by have := HGS.out; omega)', 'V0': 'fun h => absurd (hp.of 14 (by kernel_rfl)) (by simp at h; simp [h])', 'X1': 'fun h h2 => absurd h2 (by simp)', 'Y2': 'fun _ => set6 hc9 _ _ _ _ _ _'}}, 'fin': [('Y2', 15)]}
        refine wp_region_any (by kernel_rfl) ?_
        change wpAny _ _ _ _ _ _ _ (World.drew _)
        refine wpAny_inv (n := 16) [25, 26, 27, 28, 29, 30, 31, 32, 33, 34, 35, 36, 37, 38, 5] (fun u L w' =>
            (L 0 = true → u 25 = .slice (some ⟨g, 0, none⟩) 5 cap) ∧
            (L 1 = true → u 26 = .pointer (some ⟨g, 0, none⟩)) ∧
            (L 2 = true → u 27 = Str vb) ∧
            (L 3 = true → u 28 = .bool al) ∧
            (L 4 = true → u 29 = .slice (some ⟨g, 0, none⟩) 5 cap) ∧
            (L 5 = true → u 30 = .pointer (some ⟨g, 1, none⟩)) ∧
            (L 6 = true → u 31 = Str ro) ∧
            (L 7 = true → u 32 = .slice (some ⟨g, 0, none⟩) 5 cap) ∧
            (L 8 = true → u 33 = .pointer (some ⟨g, 2, none⟩)) ∧
            (L 9 = true → u 34 = Str te) ∧
            (L 10 = true → u 35 = .slice (some ⟨g, 0, none⟩) 5 cap) ∧
            (L 11 = true → u 36 = .pointer (some ⟨g, 3, none⟩)) ∧
            (L 12 = true → u 37 = Str ho) ∧
            (L 13 = true → u 38 = .agg #[.bool al, Str ro, Str te, Str ho, .int .i64 1, .int .i64 65535]) ∧
            (L 14 = true → u 5 = .pointer (some ⟨gs, 0, none⟩)) ∧
            (Ext W2 w') ∧
            (L 14 = false → w'.heap.size = gs) ∧
            (L 14 = true → L 15 = false → w'.heap[gs]? = some (.cells #[.bool false, .string ⟨#[]⟩, .string ⟨#[]⟩, .string ⟨#[]⟩, .int .i64 0, .int .i64 0] 26 (0, 0))) ∧
            (L 15 = true → w'.heap[gs]? = some (.cells #[.bool al, Str ro, Str te, Str ho, .int .i64 1, .int .i64 65535] 26 (0, 0))))
          (by rfl) (by kernel_rfl) (by kernel_rfl) (by rfl) ?_ ?_ ?_
        · exact ⟨(fun h => by cases h), (fun h => by cases h), (fun h => by cases h), (fun h => by cases h), (fun h => by cases h), (fun h => by cases h), (fun h => by cases h), (fun h => by cases h), (fun h => by cases h), (fun h => by cases h), (fun h => by cases h), (fun h => by cases h), (fun h => by cases h), (fun h => by cases h), (fun h => by cases h), Below.drew (Below.refl _ _), fun _ => HGS.out, (fun h => by cases h), (fun h => by cases h)⟩
        · refine ⟨⟨⟨⟨⟨⟨⟨⟨⟨⟨⟨⟨⟨⟨⟨⟨trivial, ?_⟩, ?_⟩, ?_⟩, ?_⟩, ?_⟩, ?_⟩, ?_⟩, ?_⟩, ?_⟩, ?_⟩, ?_⟩, ?_⟩, ?_⟩, ?_⟩, ?_⟩, ?_⟩
          · refine stepOk_some (i := 0) (by rfl) (by rfl) ?_
            rintro u L T w' hT hu hL hp hcl ⟨C0, C1, C2, C3, C4, C5, C6, C7, C8, C9, C10, C11, C12, C13, C14, E0, V0, X1, Y2⟩ K hK
            have e1 : u 4 = .slice (some ⟨g, 0, none⟩) 5 cap := hu 4 (by decide)
            go_simp
            refine hK _ _ ?_
            exact ⟨fun _ => rfl, fun h => C1 (by simpa using h), fun h => C2 (by simpa using h), fun h => C3 (by simpa using h), fun h => C4 (by simpa using h), fun h => C5 (by simpa using h), fun h => C6 (by simpa using h), fun h => C7 (by simpa using h), fun h => C8 (by simpa using h), fun h => C9 (by simpa using h), fun h => C10 (by simpa using h), fun h => C11 (by simpa using h), fun h => C12 (by simpa using h), fun h => C13 (by simpa using h), fun h => C14 (by simpa using h), E0, fun h => V0 (by simpa using h), fun h h2 => X1 (by simpa using h) (by simpa using h2), fun h => Y2 (by simpa using h)⟩
          · refine stepOk_some (i := 1) (by rfl) (by rfl) ?_
            rintro u L T w' hT hu hL hp hcl ⟨C0, C1, C2, C3, C4, C5, C6, C7, C8, C9, C10, C11, C12, C13, C14, E0, V0, X1, Y2⟩ K hK
            have e0 := C0 (hp.of 0 (by kernel_rfl))
            go_simp
            try go_bits
            try (rw [if_neg (by omega)]; go_simp)
            try (rw [if_pos (by omega)]; go_simp)
            refine hK _ _ ?_
            exact ⟨fun h => C0 (by simpa using h), fun _ => rfl, fun h => C2 (by simpa using h), fun h => C3 (by simpa using h), fun h => C4 (by simpa using h), fun h => C5 (by simpa using h), fun h => C6 (by simpa using h), fun h => C7 (by simpa using h), fun h => C8 (by simpa using h), fun h => C9 (by simpa using h), fun h => C10 (by simpa using h), fun h => C11 (by simpa using h), fun h => C12 (by simpa using h), fun h => C13 (by simpa using h), fun h => C14 (by simpa using h), E0, fun h => V0 (by simpa using h), fun h h2 => X1 (by simpa using h) (by simpa using h2), fun h => Y2 (by simpa using h)⟩
          · refine stepOk_some (i := 2) (by rfl) (by rfl) ?_
            rintro u L T w' hT hu hL hp hcl ⟨C0, C1, C2, C3, C4, C5, C6, C7, C8, C9, C10, C11, C12, C13, C14, E0, V0, X1, Y2⟩ K hK
            have e1 := C1 (hp.of 1 (by kernel_rfl))
            have d0 := ext_cell E0 HK0.out
            go_simp
            refine hK _ _ ?_
            exact ⟨fun h => C0 (by simpa using h), fun h => C1 (by simpa using h), fun _ => rfl, fun h => C3 (by simpa using h), fun h => C4 (by simpa using h), fun h => C5 (by simpa using h), fun h => C6 (by simpa using h), fun h => C7 (by simpa using h), fun h => C8 (by simpa using h), fun h => C9 (by simpa using h), fun h => C10 (by simpa using h), fun h => C11 (by simpa using h), fun h => C12 (by simpa using h), fun h => C13 (by simpa using h), fun h => C14 (by simpa using h), E0, fun h => V0 (by simpa using h), fun h h2 => X1 (by simpa using h) (by simpa using h2), fun h => Y2 (by simpa using h)⟩
          · refine stepOk_some (i := 3) (by rfl) (by rfl) ?_
            rintro u L T w' hT hu hL hp hcl ⟨C0, C1, C2, C3, C4, C5, C6, C7, C8, C9, C10, C11, C12, C13, C14, E0, V0, X1, Y2⟩ K hK
            have e2 := C2 (hp.of 2 (by kernel_rfl))
            go_simp
            try go_bits
            try (rw [if_neg (by omega)]; go_simp)
            try (rw [if_pos (by omega)]; go_simp)
            refine hK _ _ ?_
            exact ⟨fun h => C0 (by simpa using h), fun h => C1 (by simpa using h), fun h => C2 (by simpa using h), fun _ => rfl, fun h => C4 (by simpa using h), fun h => C5 (by simpa using h), fun h => C6 (by simpa using h), fun h => C7 (by simpa using h), fun h => C8 (by simpa using h), fun h => C9 (by simpa using h), fun h => C10 (by simpa using h), fun h => C11 (by simpa using h), fun h => C12 (by simpa using h), fun h => C13 (by simpa using h), fun h => C14 (by simpa using h), E0, fun h => V0 (by simpa using h), fun h h2 => X1 (by simpa using h) (by simpa using h2), fun h => Y2 (by simpa using h)⟩
          · refine stepOk_some (i := 4) (by rfl) (by rfl) ?_
            rintro u L T w' hT hu hL hp hcl ⟨C0, C1, C2, C3, C4, C5, C6, C7, C8, C9, C10, C11, C12, C13, C14, E0, V0, X1, Y2⟩ K hK
            have e1 : u 4 = .slice (some ⟨g, 0, none⟩) 5 cap := hu 4 (by decide)
            go_simp
            refine hK _ _ ?_
            exact ⟨fun h => C0 (by simpa using h), fun h => C1 (by simpa using h), fun h => C2 (by simpa using h), fun h => C3 (by simpa using h), fun _ => rfl, fun h => C5 (by simpa using h), fun h => C6 (by simpa using h), fun h => C7 (by simpa using h), fun h => C8 (by simpa using h), fun h => C9 (by simpa using h), fun h => C10 (by simpa using h), fun h => C11 (by simpa using h), fun h => C12 (by simpa using h), fun h => C13 (by simpa using h), fun h => C14 (by simpa using h), E0, fun h => V0 (by simpa using h), fun h h2 => X1 (by simpa using h) (by simpa using h2), fun h => Y2 (by simpa using h)⟩
          · refine stepOk_some (i := 5) (by rfl) (by rfl) ?_
            rintro u L T w' hT hu hL hp hcl ⟨C0, C1, C2, C3, C4, C5, C6, C7, C8, C9, C10, C11, C12, C13, C14, E0, V0, X1, Y2⟩ K hK
            have e4 := C4 (hp.of 4 (by kernel_rfl))
            go_simp
            try go_bits
            try (rw [if_neg (by omega)]; go_simp)
            try (rw [if_pos (by omega)]; go_simp)
            refine hK _ _ ?_
            exact ⟨fun h => C0 (by simpa using h), fun h => C1 (by simpa using h), fun h => C2 (by simpa using h), fun h => C3 (by simpa using h), fun h => C4 (by simpa using h), fun _ => rfl, fun h => C6 (by simpa using h), fun h => C7 (by simpa using h), fun h => C8 (by simpa using h), fun h => C9 (by simpa using h), fun h => C10 (by simpa using h), fun h => C11 (by simpa using h), fun h => C12 (by simpa using h), fun h => C13 (by simpa using h), fun h => C14 (by simpa using h), E0, fun h => V0 (by simpa using h), fun h h2 => X1 (by simpa using h) (by simpa using h2), fun h => Y2 (by simpa using h)⟩
          · refine stepOk_some (i := 6) (by rfl) (by rfl) ?_
            rintro u L T w' hT hu hL hp hcl ⟨C0, C1, C2, C3, C4, C5, C6, C7, C8, C9, C10, C11, C12, C13, C14, E0, V0, X1, Y2⟩ K hK
            have e5 := C5 (hp.of 5 (by kernel_rfl))
            have d0 := ext_cell E0 HK1.out
            go_simp
            refine hK _ _ ?_
            exact ⟨fun h => C0 (by simpa using h), fun h => C1 (by simpa using h), fun h => C2 (by simpa using h), fun h => C3 (by simpa using h), fun h => C4 (by simpa using h), fun h => C5 (by simpa using h), fun _ => rfl, fun h => C7 (by simpa using h), fun h => C8 (by simpa using h), fun h => C9 (by simpa using h), fun h => C10 (by simpa using h), fun h => C11 (by simpa using h), fun h => C12 (by simpa using h), fun h => C13 (by simpa using h), fun h => C14 (by simpa using h), E0, fun h => V0 (by simpa using h), fun h h2 => X1 (by simpa using h) (by simpa using h2), fun h => Y2 (by simpa using h)⟩
          · refine stepOk_some (i := 7) (by rfl) (by rfl) ?_
            rintro u L T w' hT hu hL hp hcl ⟨C0, C1, C2, C3, C4, C5, C6, C7, C8, C9, C10, C11, C12, C13, C14, E0, V0, X1, Y2⟩ K hK
            have e1 : u 4 = .slice (some ⟨g, 0, none⟩) 5 cap := hu 4 (by decide)
            go_simp
            refine hK _ _ ?_
            exact ⟨fun h => C0 (by simpa using h), fun h => C1 (by simpa using h), fun h => C2 (by simpa using h), fun h => C3 (by simpa using h), fun h => C4 (by simpa using h), fun h => C5 (by simpa using h), fun h => C6 (by simpa using h), fun _ => rfl, fun h => C8 (by simpa using h), fun h => C9 (by simpa using h), fun h => C10 (by simpa using h), fun h => C11 (by simpa using h), fun h => C12 (by simpa using h), fun h => C13 (by simpa using h), fun h => C14 (by simpa using h), E0, fun h => V0 (by simpa using h), fun h h2 => X1 (by simpa using h) (by simpa using h2), fun h => Y2 (by simpa using h)⟩
          · refine stepOk_some (i := 8) (by rfl) (by rfl) ?_
            rintro u L T w' hT hu hL hp hcl ⟨C0, C1, C2, C3, C4, C5, C6, C7, C8, C9, C10, C11, C12, C13, C14, E0, V0, X1, Y2⟩ K hK
            have e7 := C7 (hp.of 7 (by kernel_rfl))
            go_simp
            try go_bits
            try (rw [if_neg (by omega)]; go_simp)
            try (rw [if_pos (by omega)]; go_simp)
            refine hK _ _ ?_
            exact ⟨fun h => C0 (by simpa using h), fun h => C1 (by simpa using h), fun h => C2 (by simpa using h), fun h => C3 (by simpa using h), fun h => C4 (by simpa using h), fun h => C5 (by simpa using h), fun h => C6 (by simpa using h), fun h => C7 (by simpa using h), fun _ => rfl, fun h => C9 (by simpa using h), fun h => C10 (by simpa using h), fun h => C11 (by simpa using h), fun h => C12 (by simpa using h), fun h => C13 (by simpa using h), fun h => C14 (by simpa using h), E0, fun h => V0 (by simpa using h), fun h h2 => X1 (by simpa using h) (by simpa using h2), fun h => Y2 (by simpa using h)⟩
          · refine stepOk_some (i := 9) (by rfl) (by rfl) ?_
            rintro u L T w' hT hu hL hp hcl ⟨C0, C1, C2, C3, C4, C5, C6, C7, C8, C9, C10, C11, C12, C13, C14, E0, V0, X1, Y2⟩ K hK
            have e8 := C8 (hp.of 8 (by kernel_rfl))
            have d0 := ext_cell E0 HK2.out
            go_simp
            refine hK _ _ ?_
            exact ⟨fun h => C0 (by simpa using h), fun h => C1 (by simpa using h), fun h => C2 (by simpa using h), fun h => C3 (by simpa using h), fun h => C4 (by simpa using h), fun h => C5 (by simpa using h), fun h => C6 (by simpa using h), fun h => C7 (by simpa using h), fun h => C8 (by simpa using h), fun _ => rfl, fun h => C10 (by simpa using h), fun h => C11 (by simpa using h), fun h => C12 (by simpa using h), fun h => C13 (by simpa using h), fun h => C14 (by simpa using h), E0, fun h => V0 (by simpa using h), fun h h2 => X1 (by simpa using h) (by simpa using h2), fun h => Y2 (by simpa using h)⟩
          · refine stepOk_some (i := 10) (by rfl) (by rfl) ?_
            rintro u L T w' hT hu hL hp hcl ⟨C0, C1, C2, C3, C4, C5, C6, C7, C8, C9, C10, C11, C12, C13, C14, E0, V0, X1, Y2⟩ K hK
            have e1 : u 4 = .slice (some ⟨g, 0, none⟩) 5 cap := hu 4 (by decide)
            go_simp
            refine hK _ _ ?_
            exact ⟨fun h => C0 (by simpa using h), fun h => C1 (by simpa using h), fun h => C2 (by simpa using h), fun h => C3 (by simpa using h), fun h => C4 (by simpa using h), fun h => C5 (by simpa using h), fun h => C6 (by simpa using h), fun h => C7 (by simpa using h), fun h => C8 (by simpa using h), fun h => C9 (by simpa using h), fun _ => rfl, fun h => C11 (by simpa using h), fun h => C12 (by simpa using h), fun h => C13 (by simpa using h), fun h => C14 (by simpa using h), E0, fun h => V0 (by simpa using h), fun h h2 => X1 (by simpa using h) (by simpa using h2), fun h => Y2 (by simpa using h)⟩
          · refine stepOk_some (i := 11) (by rfl) (by rfl) ?_
            rintro u L T w' hT hu hL hp hcl ⟨C0, C1, C2, C3, C4, C5, C6, C7, C8, C9, C10, C11, C12, C13, C14, E0, V0, X1, Y2⟩ K hK
            have e10 := C10 (hp.of 10 (by kernel_rfl))
            go_simp
            try go_bits
            try (rw [if_neg (by omega)]; go_simp)
            try (rw [if_pos (by omega)]; go_simp)
            refine hK _ _ ?_
            exact ⟨fun h => C0 (by simpa using h), fun h => C1 (by simpa using h), fun h => C2 (by simpa using h), fun h => C3 (by simpa using h), fun h => C4 (by simpa using h), fun h => C5 (by simpa using h), fun h => C6 (by simpa using h), fun h => C7 (by simpa using h), fun h => C8 (by simpa using h), fun h => C9 (by simpa using h), fun h => C10 (by simpa using h), fun _ => rfl, fun h => C12 (by simpa using h), fun h => C13 (by simpa using h), fun h => C14 (by simpa using h), E0, fun h => V0 (by simpa using h), fun h h2 => X1 (by simpa using h) (by simpa using h2), fun h => Y2 (by simpa using h)⟩
          · refine stepOk_some (i := 12) (by rfl) (by rfl) ?_
            rintro u L T w' hT hu hL hp hcl ⟨C0, C1, C2, C3, C4, C5, C6, C7, C8, C9, C10, C11, C12, C13, C14, E0, V0, X1, Y2⟩ K hK
            have e11 := C11 (hp.of 11 (by kernel_rfl))
            have d0 := ext_cell E0 HK3.out
            go_simp
            refine hK _ _ ?_
            exact ⟨fun h => C0 (by simpa using h), fun h => C1 (by simpa using h), fun h => C2 (by simpa using h), fun h => C3 (by simpa using h), fun h => C4 (by simpa using h), fun h => C5 (by simpa using h), fun h => C6 (by simpa using h), fun h => C7 (by simpa using h), fun h => C8 (by simpa using h), fun h => C9 (by simpa using h), fun h => C10 (by simpa using h), fun h => C11 (by simpa using h), fun _ => rfl, fun h => C13 (by simpa using h), fun h => C14 (by simpa using h), E0, fun h => V0 (by simpa using h), fun h h2 => X1 (by simpa using h) (by simpa using h2), fun h => Y2 (by simpa using h)⟩
          · refine stepOk_some (i := 13) (by rfl) (by rfl) ?_
            rintro u L T w' hT hu hL hp hcl ⟨C0, C1, C2, C3, C4, C5, C6, C7, C8, C9, C10, C11, C12, C13, C14, E0, V0, X1, Y2⟩ K hK
            have e3 := C3 (hp.of 3 (by kernel_rfl))
            have e6 := C6 (hp.of 6 (by kernel_rfl))
            have e9 := C9 (hp.of 9 (by kernel_rfl))
            have e12 := C12 (hp.of 12 (by kernel_rfl))
            go_simp
            try go_bits
            try (rw [if_neg (by omega)]; go_simp)
            try (rw [if_pos (by omega)]; go_simp)
            refine hK _ _ ?_
            exact ⟨fun h => C0 (by simpa using h), fun h => C1 (by simpa using h), fun h => C2 (by simpa using h), fun h => C3 (by simpa using h), fun h => C4 (by simpa using h), fun h => C5 (by simpa using h), fun h => C6 (by simpa using h), fun h => C7 (by simpa using h), fun h => C8 (by simpa using h), fun h => C9 (by simpa using h), fun h => C10 (by simpa using h), fun h => C11 (by simpa using h), fun h => C12 (by simpa using h), fun _ => rfl, fun h => C14 (by simpa using h), E0, fun h => V0 (by simpa using h), fun h h2 => X1 (by simpa using h) (by simpa using h2), fun h => Y2 (by simpa using h)⟩
          · refine stepOk_some (i := 14) (by rfl) (by rfl) ?_
            rintro u L T w' hT hu hL hp hcl ⟨C0, C1, C2, C3, C4, C5, C6, C7, C8, C9, C10, C11, C12, C13, C14, E0, V0, X1, Y2⟩ K hK
            have hsz := V0 hL
            go_simp
            have hx1 : Ext w' (w'.alloc (.cells #[.bool false, .string ⟨#[]⟩, .string ⟨#[]⟩, .string ⟨#[]⟩, .int .i64 0, .int .i64 0] 26)) := Below.alloc (Below.refl _ _) (Nat.le_refl _) _
            refine hK _ _ ?_
            exact ⟨fun h => C0 (by simpa using h), fun h => C1 (by simpa using h), fun h => C2 (by simpa using h), fun h => C3 (by simpa using h), fun h => C4 (by simpa using h), fun h => C5 (by simpa using h), fun h => C6 (by simpa using h), fun h => C7 (by simpa using h), fun h => C8 (by simpa using h), fun h => C9 (by simpa using h), fun h => C10 (by simpa using h), fun h => C11 (by simpa using h), fun h => C12 (by simpa using h), fun h => C13 (by simpa using h), fun _ => by rw [← hsz]; rfl, ext_trans (E0) hx1, fun h => absurd h (by simp), fun _ _ => by rw [← hsz]; exact Array.getElem?_push_size, fun h => absurd h (by simp [hcl.not 15 (by kernel_rfl) hL])⟩
          · refine stepOk_none (i := 15) (by rfl) (by rfl) ?_
            rintro u L T w' hT hu hL hp hcl ⟨C0, C1, C2, C3, C4, C5, C6, C7, C8, C9, C10, C11, C12, C13, C14, E0, V0, X1, Y2⟩ K hK
            have e13 := C13 (hp.of 13 (by kernel_rfl))
            have e14 := C14 (hp.of 14 (by kernel_rfl))
            have hc9 := X1 (hp.of 14 (by kernel_rfl)) hL; have hf9 := frozen_row hc9; have hb9 := (Array.getElem?_eq_some_iff.1 hc9).1; obtain ⟨z0, z1, z2, z3, z4, z5⟩ := cells6' hc9
            go_simp
            refine hK _ ?_
            exact ⟨fun h => C0 (by simpa using h), fun h => C1 (by simpa using h), fun h => C2 (by simpa using h), fun h => C3 (by simpa using h), fun h => C4 (by simpa using h), fun h => C5 (by simpa using h), fun h => C6 (by simpa using h), fun h => C7 (by simpa using h), fun h => C8 (by simpa using h), fun h => C9 (by simpa using h), fun h => C10 (by simpa using h), fun h => C11 (by simpa using h), fun h => C12 (by simpa using h), fun h => C13 (by simpa using h), fun h => C14 (by simpa using h), ext_setR (ext_setR (ext_setR (ext_setR (ext_setR (ext_setR (E0) (by have := HGS.out; omega)) (by have := HGS.out; omega)) (by have := HGS.out; omega)) (by have := HGS.out; omega)) (by have := HGS.out; omega)) (by have := HGS.out; omega), fun h => absurd (hp.of 14 (by kernel_rfl)) (by simp at h; simp [h]), fun h h2 => absurd h2 (by simp), fun _ => set6 hc9 _ _ _ _ _ _⟩
        · rintro u L w' hall hu ⟨C0, C1, C2, C3, C4, C5, C6, C7, C8, C9, C10, C11, C12, C13, C14, E0, V0, X1, Y2⟩
          replace Y2 := Y2 (hall 15 (by omega))
          replace C0 := C0 (hall 0 (by omega))
          replace C1 := C1 (hall 1 (by omega))
          replace C2 := C2 (hall 2 (by omega))
          replace C3 := C3 (hall 3 (by omega))
          replace C4 := C4 (hall 4 (by omega))
          replace C5 := C5 (hall 5 (by omega))
          replace C6 := C6 (hall 6 (by omega))
          replace C7 := C7 (hall 7 (by omega))
          replace C8 := C8 (hall 8 (by omega))
          replace C9 := C9 (hall 9 (by omega))
          replace C10 := C10 (hall 10 (by omega))
          replace C11 := C11 (hall 11 (by omega))
          replace C12 := C12 (hall 12 (by omega))
          replace C13 := C13 (hall 13 (by omega))
          replace C14 := C14 (hall 14 (by omega))
          simp only [fill, List.setIfInBounds_toArray, List.set_cons_succ, List.set_cons_zero, C0, C1, C2, C3, C4, C5, C6, C7, C8, C9, C10, C11, C12, C13, C14]
          clear C0 C1 C2 C3 C4 C5 C6 C7 C8 C9 C10 C11 C12 C13 C14 hu hall
        -- end inv
          have HY := Lib.hid Y2; have HE := Lib.hid E0
          clear Y2 E0 V0 X1
          have HZ := Lib.hid (ext_at HE.out HC2.out)
          have d4 := ext_cell HE.out HK4.out
          have HXw := Lib.hid (ext_trans HX2.out HE.out)
          have HRB : Hid (∀ a b : Int, 0 ≤ a → a ≤ 65535 → 0 ≤ b → b ≤ 65535 → RuB ⟨al, ro, te, ho, a, b⟩) := Lib.hid (fun a b h1 h2 h3 h4 => ⟨by have := HBD.out.1; simp only; omega, by have := HBD.out.2.1; simp only; omega, by have := HBD.out.2.2; simp only; omega, by simp only; omega, by simp only; omega, by simp only; omega, by simp only; omega⟩)
          have hgs0 : w.heap.size < gs := by have := HGS.out; omega
          clear hal
          go_upto_if 42 with fail
          go_cut [6] from 42 (fun s6 wx => ∃ r : Ru, refR vb ro te ho po = some r ∧ RuB r ∧ wx.heap[gs]? = some (.cells #[.bool r.al, Str r.ro, Str r.te, Str r.ho, .int .i64 r.fr, .int .i64 r.to] 26 (0, 0)) ∧ wx.heap[w.heap.size]? = some (.cells #[.bool false, Str [], Str [], Str [], .int .i64 0, .int .i64 0] 26 (0, 0)) ∧ Ext w wx)
          case first =>
            by_cases h42 : po = [42]
            · have HRF := Lib.hid (show refR vb ro te ho po = some ⟨al, ro, te, ho, 1, 65535⟩ by unfold refR; rw [if_pos h42, HAL.out])
              subst h42
              go_wp2
              go_meet
              exact ⟨_, HRF.out, HRB.out 1 65535 (by omega) (by omega) (by omega) (by omega), HY.out, HZ.out, HXw.out⟩
            · have t42 : (po == [42]) = false := by simpa using h42
              have HRF := Lib.hid (show refR vb ro te ho po = if 2 < (spb 45 po).length then none else some ⟨al, ro, te, ho, (portN ((spb 45 po).headD []) : Int), (portN ((spb 45 po).getLastD []) : Int)⟩ by unfold refR; rw [if_neg h42, HAL.out])
              have HSP := Lib.hid (split15_any po 45 (by omega))
              have hne := spb_ne 45 po
              have hpt := spb_part 45 po
              clear h42
              obtain ⟨n, hn⟩ : ∃ n, (spb 45 po).length = n := ⟨_, rfl⟩
              simp only [t42, Bool.not_false]
              go_wp2_with fail
              refine Calls.mono (HSP.out _) ?_
              rintro e W6 ⟨v6, he, hown, hx6⟩
              subst he
              have HX6 := Lib.hid (ext_trans HXw.out hx6)
              have HY6 := Lib.hid (ext_at hx6 HY.out)
              have HZ6 := Lib.hid (ext_at hx6 HZ.out)
              have hnpos : 0 < n := by rw [← hn]; exact List.length_pos_iff.2 hne
              obtain ⟨g2, cap2, hv6, hcap2, hm2, hcells2, hg2a, hg2b⟩ : ∃ g2 cap2, v6 = .slice (some ⟨g2, 0, none⟩) n cap2 ∧ n ≤ cap2 ∧ cap2 ≤ maxLen ∧ (∀ (k : Nat) x, (spb 45 po)[k]? = some x → W6.cell? ⟨g2, k, none⟩ = some (Str x)) ∧ w'.heap.size ≤ g2 ∧ g2 < W6.heap.size := by
                obtain ⟨ao, cp, hv, h1, h2, h3, hc⟩ := sl_of_own hown
                rcases hown.2 with ⟨_, h0⟩ | ⟨g, cap, cur, hv2, hbg, hg, _⟩
                · omega
                · rw [hv2] at hv
                  simp only [Value.slice.injEq] at hv
                  obtain ⟨rfl, hn', rfl⟩ := hv
                  refine ⟨g, cap, by rw [hv2, hn], by rw [← hn]; simpa using h1, h2, fun k x hx => ?_, hbg, (Array.getElem?_eq_some_iff.1 hg).1⟩
                  have := hc k (Str x) (by rw [List.getElem?_map, hx]; rfl)
                  rwa [adr_some, Nat.zero_add] at this
              subst hv6
              clear hown hx6 HSP d4
              by_cases h2 : 2 < n
              · have t2 : decide ((2 : Int) < (n : Int)) = true := by simp; omega
                have HNO := Lib.hid (show lineO l = none by
                  have h := HREF.out
                  rw [HRF.out, hn, if_pos h2] at h
                  rw [HLO.out]; exact h)
                have hf6 := frozen_row HZ6.out
                have hb6 := (Array.getElem?_eq_some_iff.1 HZ6.out).1
                obtain ⟨c0, c1, c2, c3, c4, c5⟩ := cells6' HZ6.out
                clear h2 hn hpt hne hcells2
                go_wp2
                obtain ⟨W9, hW9, hst, hch⟩ := set6w HZ6.out (.bool false) (.string ⟨#[]⟩) (.string ⟨#[]⟩) (.string ⟨#[]⟩) (.int .i64 0) (.int .i64 0)
                rw [hW9]
                obtain ⟨e0', e1', e2', e3', e4', e5'⟩ := cells6' hst
                refine bodyPost_ret (v := .tuple #[.agg #[.bool false, Str [], Str [], Str [], .int .i64 0, .int .i64 0], .bool false]) (by simp [results, Tryd.results53, go_sem, e0', e1', e2', e3', e4', e5']) rfl ⟨line_no HNO.out, below_chg HX6.out hch (fun k hk => by have hk' : k = w.heap.size := hk; omega) (Nat.le_refl _)⟩
              · have t2 : decide ((2 : Int) < (n : Int)) = false := by simp; omega
                obtain ⟨p0, hp0⟩ : ∃ p, (spb 45 po).headD [] = p := ⟨_, rfl⟩
                obtain ⟨pl, hpl⟩ : ∃ p, (spb 45 po).getLastD [] = p := ⟨_, rfl⟩
                have HRF2 := Lib.hid (show refR vb ro te ho po = some ⟨al, ro, te, ho, (portN p0 : Int), (portN pl : Int)⟩ by rw [HRF.out, hn, if_neg h2, hp0, hpl])
                have hm0 : (spb 45 po)[0]? = some p0 := by
                  cases hs : spb 45 po with
                  | nil => rw [hs] at hn; simp at hn; omega
                  | cons a b => rw [hs] at hp0; simpa using hp0
                have hml : (spb 45 po)[n - 1]? = some pl := by
                  rw [← hn, ← List.getLast?_eq_getElem?]
                  cases hs : spb 45 po with
                  | nil => rw [hs] at hn; simp at hn; omega
                  | cons a b => rw [hs] at hpl; rw [← hpl]; first | rfl | exact List.getLast?_eq_some_getLast _ | exact List.getLast?_eq_getLast _
                have HP0 := Lib.hid (hcells2 0 p0 hm0)
                have HP1 := Lib.hid (hcells2 (n - 1) pl hml)
                have hq0 := hpt p0 (List.mem_of_getElem? hm0)
                have hql := hpt pl (List.mem_of_getElem? hml)
                have HN0 := Lib.hid (portR_any p0 (by omega)); have HN1 := Lib.hid (portR_any pl (by omega))
                have hi := run_index_adr (P := Tryd.prog) Tryd.underlying31 Tryd.sizeOf9 (ao := some ⟨g2, 0, none⟩) (n := n) (cap := cap2) (by simp) hcap2
                have j0 : ∀ W, (Instr.indexAt 31 (.slice (some ⟨g2, 0, none⟩) n cap2) (.int .i64 0)).run Tryd.prog W = .ok (.pointer (some ⟨g2, 0, none⟩)) W := fun W => by have := hi W 0 hnpos; rwa [adr_some, Nat.zero_add] at this
                have j1 : ∀ W, (Instr.indexAt 31 (.slice (some ⟨g2, 0, none⟩) n cap2) (.int .i64 ((n : Int) - 1))).run Tryd.prog W = .ok (.pointer (some ⟨g2, n - 1, none⟩)) W := fun W => by
                  have := hi W (n - 1) (by omega)
                  rw [show ((n - 1 : Nat) : Int) = (n : Int) - 1 by omega] at this
                  rwa [adr_some, Nat.zero_add] at this
                have HG2 := Lib.hid (show g2 < W6.heap.size ∧ ¬ g2 = gs from ⟨hg2b, by have := (Array.getElem?_eq_some_iff.1 HY.out).1; omega⟩)
                have hb1p := portN_le p0; have hb2p := portN_le pl
                have hni : (n : Int) ≤ 9223372036854775807 := by unfold maxLen at hm2; omega
                clear hi hm0 hml hp0 hpl hcells2 h2 hn hpt hne
                go_wp2_with fail
                -- inv {'ops': [('mv', 51, 6, '.slice (some ⟨g2, 0, none⟩) n cap2'), ('op', 52, [0], '.pointer (some ⟨g2, 0, none⟩)'), ('lf', 53, 1, 'Str p0', 'have d0 := (World.cell?_of_block (K0.block g2 HG2.out.1 HG2.out.2)).trans HP0.out'), ('callq', 54, [2], "HN0.out w'", '.int .i64 (portN p0 : Int)'), ('mv', 55, 6, '.slice (some ⟨g2, 0, none⟩) n cap2'), ('mv', 56, 6, '.slice (some ⟨g2, 0, none⟩) n cap2'), ('op', 57, [5], '.int .i64 (n : Int)'), ('op', 58, [6], '.int .i64 ((n : Int) - 1)'), ('op', 59, [4, 7], '.pointer (some ⟨g2, n - 1, none⟩)'), ('lf', 60, 8, 'Str pl', 'have d0 := (World.cell?_of_block (K0.block g2 HG2.out.1 HG2.out.2)).trans HP1.out'), ('callq', 61, [9], "HN1.out w'", '.int .i64 (portN pl : Int)'), ('fa', 62, 5, '.pointer (some ⟨gs, 0, none⟩)', '.pointer (some ⟨gs, 4, none⟩)'), ('st', None, [3, 11], "have hf9 := frozen_row B0; have hb9 := (Array.getElem?_eq_some_iff.1 B0).1; obtain ⟨z0, z1, z2, z3, z4, z5⟩ := cells6' B0"), ('fa', 63, 5, '.pointer (some ⟨gs, 0, none⟩)', '.pointer (some ⟨gs, 5, none⟩)'), ('st', None, [10, 13], "have hf9 := frozen_row B0; have hb9 := (Array.getElem?_eq_some_iff.1 B0).1; obtain ⟨z0, z1, z2, z3, z4, z5⟩ := cells6' B0")], 'W': [('K0', "Chg (fun q => q = gs) W6 w'", 'Chg.of_ext _ (Below.drew (Below.refl _ _))'), ('B0', "w'.heap[gs]? = some (.cells #[.bool al, Str ro, Str te, Str ho, .int .i64 (if L 12 = true then (portN p0 : Int) else 1), .int .i64 (if L 14 = true then (portN pl : Int) else 65535)] 26 (0, 0))", 'by have h9 := HY6.out; simpa using (show W6.drew.heap[gs]? = _ from h9)')], 'over': {12: {'K0': 'K0.trans (Chg.setCell _ ⟨gs, 4, none⟩ _)', 'B0': 'by have := setCell_row B0 4 (.int .i64 (portN p0 : Int)); simpa using this'}, 14: {'K0': 'K0.trans (Chg.setCell _ ⟨gs, 5, none⟩ _)', 'B0': 'by have := setCell_row B0 5 (.int .i64 (portN pl : Int)); simpa using this'}}, 'keephall': 1}
                refine wp_region_any (by kernel_rfl) ?_
                change wpAny _ _ _ _ _ _ _ (World.drew _)
                refine wpAny_inv (n := 15) [51, 52, 53, 54, 55, 56, 57, 58, 59, 60, 61, 62, 63] (fun u L w' =>
                    (L 0 = true → u 51 = .slice (some ⟨g2, 0, none⟩) n cap2) ∧
                    (L 1 = true → u 52 = .pointer (some ⟨g2, 0, none⟩)) ∧
                    (L 2 = true → u 53 = Str p0) ∧
                    (L 3 = true → u 54 = .int .i64 (portN p0 : Int)) ∧
                    (L 4 = true → u 55 = .slice (some ⟨g2, 0, none⟩) n cap2) ∧
                    (L 5 = true → u 56 = .slice (some ⟨g2, 0, none⟩) n cap2) ∧
                    (L 6 = true → u 57 = .int .i64 (n : Int)) ∧
                    (L 7 = true → u 58 = .int .i64 ((n : Int) - 1)) ∧
                    (L 8 = true → u 59 = .pointer (some ⟨g2, n - 1, none⟩)) ∧
                    (L 9 = true → u 60 = Str pl) ∧
                    (L 10 = true → u 61 = .int .i64 (portN pl : Int)) ∧
                    (L 11 = true → u 62 = .pointer (some ⟨gs, 4, none⟩)) ∧
                    (L 13 = true → u 63 = .pointer (some ⟨gs, 5, none⟩)) ∧
                    (Chg (fun q => q = gs) W6 w') ∧
                    (w'.heap[gs]? = some (.cells #[.bool al, Str ro, Str te, Str ho, .int .i64 (if L 12 = true then (portN p0 : Int) else 1), .int .i64 (if L 14 = true then (portN pl : Int) else 65535)] 26 (0, 0))))
                  (by rfl) (by kernel_rfl) (by kernel_rfl) (by rfl) ?_ ?_ ?_
                · exact ⟨(fun h => by cases h), (fun h => by cases h), (fun h => by cases h), (fun h => by cases h), (fun h => by cases h), (fun h => by cases h), (fun h => by cases h), (fun h => by cases h), (fun h => by cases h), (fun h => by cases h), (fun h => by cases h), (fun h => by cases h), (fun h => by cases h), Chg.of_ext _ (Below.drew (Below.refl _ _)), by have h9 := HY6.out; simpa using (show W6.drew.heap[gs]? = _ from h9)⟩
                · refine ⟨⟨⟨⟨⟨⟨⟨⟨⟨⟨⟨⟨⟨⟨⟨trivial, ?_⟩, ?_⟩, ?_⟩, ?_⟩, ?_⟩, ?_⟩, ?_⟩, ?_⟩, ?_⟩, ?_⟩, ?_⟩, ?_⟩, ?_⟩, ?_⟩, ?_⟩
                  · refine stepOk_some (i := 0) (by rfl) (by rfl) ?_
                    rintro u L T w' hT hu hL hp hcl ⟨C0, C1, C2, C3, C4, C5, C6, C7, C8, C9, C10, C11, C13, K0, B0⟩ K hK
                    have e1 : u 6 = .slice (some ⟨g2, 0, none⟩) n cap2 := hu 6 (by decide)
                    go_simp
                    refine hK _ _ ?_
                    exact ⟨fun _ => rfl, fun h => C1 (by simpa using h), fun h => C2 (by simpa using h), fun h => C3 (by simpa using h), fun h => C4 (by simpa using h), fun h => C5 (by simpa using h), fun h => C6 (by simpa using h), fun h => C7 (by simpa using h), fun h => C8 (by simpa using h), fun h => C9 (by simpa using h), fun h => C10 (by simpa using h), fun h => C11 (by simpa using h), fun h => C13 (by simpa using h), K0, by simpa using B0⟩
                  · refine stepOk_some (i := 1) (by rfl) (by rfl) ?_
                    rintro u L T w' hT hu hL hp hcl ⟨C0, C1, C2, C3, C4, C5, C6, C7, C8, C9, C10, C11, C13, K0, B0⟩ K hK
                    have e0 := C0 (hp.of 0 (by kernel_rfl))
                    go_simp
                    try go_bits
                    try (rw [if_neg (by omega)]; go_simp)
                    try (rw [if_pos (by omega)]; go_simp)
                    refine hK _ _ ?_
                    exact ⟨fun h => C0 (by simpa using h), fun _ => rfl, fun h => C2 (by simpa using h), fun h => C3 (by simpa using h), fun h => C4 (by simpa using h), fun h => C5 (by simpa using h), fun h => C6 (by simpa using h), fun h => C7 (by simpa using h), fun h => C8 (by simpa using h), fun h => C9 (by simpa using h), fun h => C10 (by simpa using h), fun h => C11 (by simpa using h), fun h => C13 (by simpa using h), K0, by simpa using B0⟩
                  · refine stepOk_some (i := 2) (by rfl) (by rfl) ?_
                    rintro u L T w' hT hu hL hp hcl ⟨C0, C1, C2, C3, C4, C5, C6, C7, C8, C9, C10, C11, C13, K0, B0⟩ K hK
                    have e1 := C1 (hp.of 1 (by kernel_rfl))
                    have d0 := (World.cell?_of_block (K0.block g2 HG2.out.1 HG2.out.2)).trans HP0.out
                    go_simp
                    refine hK _ _ ?_
                    exact ⟨fun h => C0 (by simpa using h), fun h => C1 (by simpa using h), fun _ => rfl, fun h => C3 (by simpa using h), fun h => C4 (by simpa using h), fun h => C5 (by simpa using h), fun h => C6 (by simpa using h), fun h => C7 (by simpa using h), fun h => C8 (by simpa using h), fun h => C9 (by simpa using h), fun h => C10 (by simpa using h), fun h => C11 (by simpa using h), fun h => C13 (by simpa using h), K0, by simpa using B0⟩
                  · refine stepOk_some (i := 3) (by rfl) (by rfl) ?_
                    rintro u L T w' hT hu hL hp hcl ⟨C0, C1, C2, C3, C4, C5, C6, C7, C8, C9, C10, C11, C13, K0, B0⟩ K hK
                    have e2 := C2 (hp.of 2 (by kernel_rfl))
                    go_simp
                    refine (HN0.out w').mono ?_
                    rintro e w1 ⟨he, hx1⟩
                    subst w1
                    subst he
                    refine hK _ _ ?_
                    exact ⟨fun h => C0 (by simpa using h), fun h => C1 (by simpa using h), fun h => C2 (by simpa using h), fun _ => rfl, fun h => C4 (by simpa using h), fun h => C5 (by simpa using h), fun h => C6 (by simpa using h), fun h => C7 (by simpa using h), fun h => C8 (by simpa using h), fun h => C9 (by simpa using h), fun h => C10 (by simpa using h), fun h => C11 (by simpa using h), fun h => C13 (by simpa using h), K0, by simpa using B0⟩
                  · refine stepOk_some (i := 4) (by rfl) (by rfl) ?_
                    rintro u L T w' hT hu hL hp hcl ⟨C0, C1, C2, C3, C4, C5, C6, C7, C8, C9, C10, C11, C13, K0, B0⟩ K hK
                    have e1 : u 6 = .slice (some ⟨g2, 0, none⟩) n cap2 := hu 6 (by decide)
                    go_simp
                    refine hK _ _ ?_
                    exact ⟨fun h => C0 (by simpa using h), fun h => C1 (by simpa using h), fun h => C2 (by simpa using h), fun h => C3 (by simpa using h), fun _ => rfl, fun h => C5 (by simpa using h), fun h => C6 (by simpa using h), fun h => C7 (by simpa using h), fun h => C8 (by simpa using h), fun h => C9 (by simpa using h), fun h => C10 (by simpa using h), fun h => C11 (by simpa using h), fun h => C13 (by simpa using h), K0, by simpa using B0⟩
                  · refine stepOk_some (i := 5) (by rfl) (by rfl) ?_
                    rintro u L T w' hT hu hL hp hcl ⟨C0, C1, C2, C3, C4, C5, C6, C7, C8, C9, C10, C11, C13, K0, B0⟩ K hK
                    have e1 : u 6 = .slice (some ⟨g2, 0, none⟩) n cap2 := hu 6 (by decide)
                    go_simp
                    refine hK _ _ ?_
                    exact ⟨fun h => C0 (by simpa using h), fun h => C1 (by simpa using h), fun h => C2 (by simpa using h), fun h => C3 (by simpa using h), fun h => C4 (by simpa using h), fun _ => rfl, fun h => C6 (by simpa using h), fun h => C7 (by simpa using h), fun h => C8 (by simpa using h), fun h => C9 (by simpa using h), fun h => C10 (by simpa using h), fun h => C11 (by simpa using h), fun h => C13 (by simpa using h), K0, by simpa using B0⟩
                  · refine stepOk_some (i := 6) (by rfl) (by rfl) ?_
                    rintro u L T w' hT hu hL hp hcl ⟨C0, C1, C2, C3, C4, C5, C6, C7, C8, C9, C10, C11, C13, K0, B0⟩ K hK
                    have e5 := C5 (hp.of 5 (by kernel_rfl))
                    go_simp
                    try go_bits
                    try (rw [if_neg (by omega)]; go_simp)
                    try (rw [if_pos (by omega)]; go_simp)
                    refine hK _ _ ?_
                    exact ⟨fun h => C0 (by simpa using h), fun h => C1 (by simpa using h), fun h => C2 (by simpa using h), fun h => C3 (by simpa using h), fun h => C4 (by simpa using h), fun h => C5 (by simpa using h), fun _ => rfl, fun h => C7 (by simpa using h), fun h => C8 (by simpa using h), fun h => C9 (by simpa using h), fun h => C10 (by simpa using h), fun h => C11 (by simpa using h), fun h => C13 (by simpa using h), K0, by simpa using B0⟩
                  · refine stepOk_some (i := 7) (by rfl) (by rfl) ?_
                    rintro u L T w' hT hu hL hp hcl ⟨C0, C1, C2, C3, C4, C5, C6, C7, C8, C9, C10, C11, C13, K0, B0⟩ K hK
                    have e6 := C6 (hp.of 6 (by kernel_rfl))
                    go_simp
                    try go_bits
                    try (rw [if_neg (by omega)]; go_simp)
                    try (rw [if_pos (by omega)]; go_simp)
                    refine hK _ _ ?_
                    exact ⟨fun h => C0 (by simpa using h), fun h => C1 (by simpa using h), fun h => C2 (by simpa using h), fun h => C3 (by simpa using h), fun h => C4 (by simpa using h), fun h => C5 (by simpa using h), fun h => C6 (by simpa using h), fun _ => rfl, fun h => C8 (by simpa using h), fun h => C9 (by simpa using h), fun h => C10 (by simpa using h), fun h => C11 (by simpa using h), fun h => C13 (by simpa using h), K0, by simpa using B0⟩
                  · refine stepOk_some (i := 8) (by rfl) (by rfl) ?_
                    rintro u L T w' hT hu hL hp hcl ⟨C0, C1, C2, C3, C4, C5, C6, C7, C8, C9, C10, C11, C13, K0, B0⟩ K hK
                    have e4 := C4 (hp.of 4 (by kernel_rfl))
                    have e7 := C7 (hp.of 7 (by kernel_rfl))
                    go_simp
                    try go_bits
                    try (rw [if_neg (by omega)]; go_simp)
                    try (rw [if_pos (by omega)]; go_simp)
                    refine hK _ _ ?_
                    exact ⟨fun h => C0 (by simpa using h), fun h => C1 (by simpa using h), fun h => C2 (by simpa using h), fun h => C3 (by simpa using h), fun h => C4 (by simpa using h), fun h => C5 (by simpa using h), fun h => C6 (by simpa using h), fun h => C7 (by simpa using h), fun _ => rfl, fun h => C9 (by simpa using h), fun h => C10 (by simpa using h), fun h => C11 (by simpa using h), fun h => C13 (by simpa using h), K0, by simpa using B0⟩
                  · refine stepOk_some (i := 9) (by rfl) (by rfl) ?_
                    rintro u L T w' hT hu hL hp hcl ⟨C0, C1, C2, C3, C4, C5, C6, C7, C8, C9, C10, C11, C13, K0, B0⟩ K hK
                    have e8 := C8 (hp.of 8 (by kernel_rfl))
                    have d0 := (World.cell?_of_block (K0.block g2 HG2.out.1 HG2.out.2)).trans HP1.out
                    go_simp
                    refine hK _ _ ?_
                    exact ⟨fun h => C0 (by simpa using h), fun h => C1 (by simpa using h), fun h => C2 (by simpa using h), fun h => C3 (by simpa using h), fun h => C4 (by simpa using h), fun h => C5 (by simpa using h), fun h => C6 (by simpa using h), fun h => C7 (by simpa using h), fun h => C8 (by simpa using h), fun _ => rfl, fun h => C10 (by simpa using h), fun h => C11 (by simpa using h), fun h => C13 (by simpa using h), K0, by simpa using B0⟩
                  · refine stepOk_some (i := 10) (by rfl) (by rfl) ?_
                    rintro u L T w' hT hu hL hp hcl ⟨C0, C1, C2, C3, C4, C5, C6, C7, C8, C9, C10, C11, C13, K0, B0⟩ K hK
                    have e9 := C9 (hp.of 9 (by kernel_rfl))
                    go_simp
                    refine (HN1.out w').mono ?_
                    rintro e w1 ⟨he, hx1⟩
                    subst w1
                    subst he
                    refine hK _ _ ?_
                    exact ⟨fun h => C0 (by simpa using h), fun h => C1 (by simpa using h), fun h => C2 (by simpa using h), fun h => C3 (by simpa using h), fun h => C4 (by simpa using h), fun h => C5 (by simpa using h), fun h => C6 (by simpa using h), fun h => C7 (by simpa using h), fun h => C8 (by simpa using h), fun h => C9 (by simpa using h), fun _ => rfl, fun h => C11 (by simpa using h), fun h => C13 (by simpa using h), K0, by simpa using B0⟩
                  · refine stepOk_some (i := 11) (by rfl) (by rfl) ?_
                    rintro u L T w' hT hu hL hp hcl ⟨C0, C1, C2, C3, C4, C5, C6, C7, C8, C9, C10, C11, C13, K0, B0⟩ K hK
                    have e1 : u 5 = .pointer (some ⟨gs, 0, none⟩) := hu 5 (by decide)
                    go_simp
                    refine hK _ _ ?_
                    exact ⟨fun h => C0 (by simpa using h), fun h => C1 (by simpa using h), fun h => C2 (by simpa using h), fun h => C3 (by simpa using h), fun h => C4 (by simpa using h), fun h => C5 (by simpa using h), fun h => C6 (by simpa using h), fun h => C7 (by simpa using h), fun h => C8 (by simpa using h), fun h => C9 (by simpa using h), fun h => C10 (by simpa using h), fun _ => rfl, fun h => C13 (by simpa using h), K0, by simpa using B0⟩
                  · refine stepOk_none (i := 12) (by rfl) (by rfl) ?_
                    rintro u L T w' hT hu hL hp hcl ⟨C0, C1, C2, C3, C4, C5, C6, C7, C8, C9, C10, C11, C13, K0, B0⟩ K hK
                    have e3 := C3 (hp.of 3 (by kernel_rfl))
                    have e11 := C11 (hp.of 11 (by kernel_rfl))
                    have hf9 := frozen_row B0; have hb9 := (Array.getElem?_eq_some_iff.1 B0).1; obtain ⟨z0, z1, z2, z3, z4, z5⟩ := cells6' B0
                    go_simp
                    refine hK _ ?_
                    exact ⟨fun h => C0 (by simpa using h), fun h => C1 (by simpa using h), fun h => C2 (by simpa using h), fun h => C3 (by simpa using h), fun h => C4 (by simpa using h), fun h => C5 (by simpa using h), fun h => C6 (by simpa using h), fun h => C7 (by simpa using h), fun h => C8 (by simpa using h), fun h => C9 (by simpa using h), fun h => C10 (by simpa using h), fun h => C11 (by simpa using h), fun h => C13 (by simpa using h), K0.trans (Chg.setCell _ ⟨gs, 4, none⟩ _), by have := setCell_row B0 4 (.int .i64 (portN p0 : Int)); simpa using this⟩
                  · refine stepOk_some (i := 13) (by rfl) (by rfl) ?_
                    rintro u L T w' hT hu hL hp hcl ⟨C0, C1, C2, C3, C4, C5, C6, C7, C8, C9, C10, C11, C13, K0, B0⟩ K hK
                    have e1 : u 5 = .pointer (some ⟨gs, 0, none⟩) := hu 5 (by decide)
                    go_simp
                    refine hK _ _ ?_
                    exact ⟨fun h => C0 (by simpa using h), fun h => C1 (by simpa using h), fun h => C2 (by simpa using h), fun h => C3 (by simpa using h), fun h => C4 (by simpa using h), fun h => C5 (by simpa using h), fun h => C6 (by simpa using h), fun h => C7 (by simpa using h), fun h => C8 (by simpa using h), fun h => C9 (by simpa using h), fun h => C10 (by simpa using h), fun h => C11 (by simpa using h), fun _ => rfl, K0, by simpa using B0⟩
                  · refine stepOk_none (i := 14) (by rfl) (by rfl) ?_
                    rintro u L T w' hT hu hL hp hcl ⟨C0, C1, C2, C3, C4, C5, C6, C7, C8, C9, C10, C11, C13, K0, B0⟩ K hK
                    have e10 := C10 (hp.of 10 (by kernel_rfl))
                    have e13 := C13 (hp.of 13 (by kernel_rfl))
                    have hf9 := frozen_row B0; have hb9 := (Array.getElem?_eq_some_iff.1 B0).1; obtain ⟨z0, z1, z2, z3, z4, z5⟩ := cells6' B0
                    go_simp
                    refine hK _ ?_
                    exact ⟨fun h => C0 (by simpa using h), fun h => C1 (by simpa using h), fun h => C2 (by simpa using h), fun h => C3 (by simpa using h), fun h => C4 (by simpa using h), fun h => C5 (by simpa using h), fun h => C6 (by simpa using h), fun h => C7 (by simpa using h), fun h => C8 (by simpa using h), fun h => C9 (by simpa using h), fun h => C10 (by simpa using h), fun h => C11 (by simpa using h), fun h => C13 (by simpa using h), K0.trans (Chg.setCell _ ⟨gs, 5, none⟩ _), by have := setCell_row B0 5 (.int .i64 (portN pl : Int)); simpa using this⟩
                · rintro u L w' hall hu ⟨C0, C1, C2, C3, C4, C5, C6, C7, C8, C9, C10, C11, C13, K0, B0⟩
                  replace C0 := C0 (hall 0 (by omega))
                  replace C1 := C1 (hall 1 (by omega))
                  replace C2 := C2 (hall 2 (by omega))
                  replace C3 := C3 (hall 3 (by omega))
                  replace C4 := C4 (hall 4 (by omega))
                  replace C5 := C5 (hall 5 (by omega))
                  replace C6 := C6 (hall 6 (by omega))
                  replace C7 := C7 (hall 7 (by omega))
                  replace C8 := C8 (hall 8 (by omega))
                  replace C9 := C9 (hall 9 (by omega))
                  replace C10 := C10 (hall 10 (by omega))
                  replace C11 := C11 (hall 11 (by omega))
                  replace C13 := C13 (hall 13 (by omega))
                  simp only [fill, List.setIfInBounds_toArray, List.set_cons_succ, List.set_cons_zero, C0, C1, C2, C3, C4, C5, C6, C7, C8, C9, C10, C11, C13]
                  clear C0 C1 C2 C3 C4 C5 C6 C7 C8 C9 C10 C11 C13 hu
                -- end inv
                  replace B0 := B0
                  rw [hall 12 (by omega), hall 14 (by omega)] at B0
                  have HB9 := Lib.hid B0
                  have HZ9 := Lib.hid ((K0.block _ (Array.getElem?_eq_some_iff.1 HZ6.out).1 (by show ¬ w.heap.size = gs; omega)).trans HZ6.out)
                  have HX9 := Lib.hid (below_chg HX6.out K0 (fun k hk => by have hk' : k = gs := hk; omega) (Nat.le_refl _))
                  clear B0 K0
                  go_wp2
                  go_meet
                  exact ⟨_, HRF2.out, HRB.out _ _ (by omega) (by omega) (by omega) (by omega), HB9.out, HZ9.out, HX9.out⟩
          case rest =>
            obtain ⟨r, hrf, hrb, hrc, hrz, hxr⟩ := hcut
            have hm := HREF.out
            rw [hrf] at hm
            have HM := Lib.hid (show (lineO l).isSome = ruOk r ∧ ∀ x, lineO l = some x → r = x by rw [HLO.out]; exact hm)
            have HRBR := Lib.hid hrb
            have HRT := Lib.hid (fun W => rightR_any r hrb W)
            obtain ⟨okb, hokb⟩ : ∃ b, ruOk r = b := ⟨_, rfl⟩
            rw [hokb] at HRT HM
            have HRC := Lib.hid hrc; have HRZ := Lib.hid hrz; have HXR := Lib.hid hxr
            obtain ⟨ral, rro, rte, rho, rfr, rtu⟩ := r
            simp only at HRC
            clear hm hrf hrb hrc hrz hxr hokb d4
            go_wp2_with fail
            -- inv {'ops': [('ld', 64, 5, '.pointer (some ⟨gs, 0, none⟩)', '.agg #[.bool ral, Str rro, Str rte, Str rho, .int .i64 rfr, .int .i64 rtu]', "obtain ⟨d0, d1, d2, d3, d4, d5⟩ := cells6' H0"), ('ld', 65, 5, '.pointer (some ⟨gs, 0, none⟩)', '.agg #[.bool ral, Str rro, Str rte, Str rho, .int .i64 rfr, .int .i64 rtu]', "obtain ⟨d0, d1, d2, d3, d4, d5⟩ := cells6' H0"), ('call', 66, [1], "HRT.out w'", '.bool okb'), ('st', None, [0], "have e2 : u 2 = .pointer (some ⟨w.heap.size, 0, none⟩) := hu 2 (by decide); have hc9 := P1 hL; have hf9 := frozen_row hc9; have hb9 := (Array.getElem?_eq_some_iff.1 hc9).1; obtain ⟨z0, z1, z2, z3, z4, z5⟩ := cells6' hc9"), ('mw', 3, 2, '.bool okb')], 'W': [('E0', "Ext w w'", 'Below.drew HXR.out'), ('H0', "w'.heap[gs]? = some (.cells #[.bool ral, Str rro, Str rte, Str rho, .int .i64 rfr, .int .i64 rtu] 26 (0, 0))", 'HRC.out'), ('P1', "L 3 = false → w'.heap[w.heap.size]? = some (.cells #[.bool false, Str [], Str [], Str [], .int .i64 0, .int .i64 0] 26 (0, 0))", 'fun _ => HRZ.out'), ('P2', "L 3 = true → w'.heap[w.heap.size]? = some (.cells #[.bool ral, Str rro, Str rte, Str rho, .int .i64 rfr, .int .i64 rtu] 26 (0, 0))", 'fun h => absurd h (by simp)')], 'over': {3: {'E0': 'ext_setR (ext_setR (ext_setR (ext_setR (ext_setR (ext_setR (E0) (Nat.le_refl _)) (Nat.le_refl _)) (Nat.le_refl _)) (Nat.le_refl _)) (Nat.le_refl _)) (Nat.le_refl _)', 'H0': '(Below.heap_setCell _ _ _ _ (by show ¬ gs = w.heap.size; omega)).trans ((Below.heap_setCell _ _ _ _ (by show ¬ gs = w.heap.size; omega)).trans ((Below.heap_setCell _ _ _ _ (by show ¬ gs = w.heap.size; omega)).trans ((Below.heap_setCell _ _ _ _ (by show ¬ gs = w.heap.size; omega)).trans ((Below.heap_setCell _ _ _ _ (by show ¬ gs = w.heap.size; omega)).trans ((Below.heap_setCell _ _ _ _ (by show ¬ gs = w.heap.size; omega)).trans (H0))))))', 'P1': 'fun h => absurd h (by simp)', 'P2': 'fun _ => set6 hc9 _ _ _ _ _ _'}}, 'fin': [('P2', 3)]}
            refine wp_region_any (by kernel_rfl) ?_
            change wpAny _ _ _ _ _ _ _ (World.drew _)
            refine wpAny_inv (n := 5) [64, 65, 66, 3] (fun u L w' =>
                (L 0 = true → u 64 = .agg #[.bool ral, Str rro, Str rte, Str rho, .int .i64 rfr, .int .i64 rtu]) ∧
                (L 1 = true → u 65 = .agg #[.bool ral, Str rro, Str rte, Str rho, .int .i64 rfr, .int .i64 rtu]) ∧
                (L 2 = true → u 66 = .bool okb) ∧
                (L 4 = true → u 3 = .bool okb) ∧
                (Ext w w') ∧
                (w'.heap[gs]? = some (.cells #[.bool ral, Str rro, Str rte, Str rho, .int .i64 rfr, .int .i64 rtu] 26 (0, 0))) ∧
                (L 3 = false → w'.heap[w.heap.size]? = some (.cells #[.bool false, Str [], Str [], Str [], .int .i64 0, .int .i64 0] 26 (0, 0))) ∧
                (L 3 = true → w'.heap[w.heap.size]? = some (.cells #[.bool ral, Str rro, Str rte, Str rho, .int .i64 rfr, .int .i64 rtu] 26 (0, 0))))
              (by rfl) (by kernel_rfl) (by kernel_rfl) (by rfl) ?_ ?_ ?_
            · exact ⟨(fun h => by cases h), (fun h => by cases h), (fun h => by cases h), (fun h => by cases h), Below.drew HXR.out, HRC.out, fun _ => HRZ.out, fun h => absurd h (by simp)⟩
            · refine ⟨⟨⟨⟨⟨trivial, ?_⟩, ?_⟩, ?_⟩, ?_⟩, ?_⟩
              · refine stepOk_some (i := 0) (by rfl) (by rfl) ?_
                rintro u L T w' hT hu hL hp hcl ⟨C0, C1, C2, C4, E0, H0, P1, P2⟩ K hK
                have e1 : u 5 = .pointer (some ⟨gs, 0, none⟩) := hu 5 (by decide)
                obtain ⟨d0, d1, d2, d3, d4, d5⟩ := cells6' H0
                go_simp
                refine hK _ _ ?_
                exact ⟨fun _ => rfl, fun h => C1 (by simpa using h), fun h => C2 (by simpa using h), fun h => C4 (by simpa using h), E0, H0, fun h => P1 (by simpa using h), fun h => P2 (by simpa using h)⟩
              · refine stepOk_some (i := 1) (by rfl) (by rfl) ?_
                rintro u L T w' hT hu hL hp hcl ⟨C0, C1, C2, C4, E0, H0, P1, P2⟩ K hK
                have e1 : u 5 = .pointer (some ⟨gs, 0, none⟩) := hu 5 (by decide)
                obtain ⟨d0, d1, d2, d3, d4, d5⟩ := cells6' H0
                go_simp
                refine hK _ _ ?_
                exact ⟨fun h => C0 (by simpa using h), fun _ => rfl, fun h => C2 (by simpa using h), fun h => C4 (by simpa using h), E0, H0, fun h => P1 (by simpa using h), fun h => P2 (by simpa using h)⟩
              · refine stepOk_some (i := 2) (by rfl) (by rfl) ?_
                rintro u L T w' hT hu hL hp hcl ⟨C0, C1, C2, C4, E0, H0, P1, P2⟩ K hK
                have e1 := C1 (hp.of 1 (by kernel_rfl))
                go_simp
                refine (HRT.out w').mono ?_
                rintro e w1 ⟨he, hx1⟩
                subst he
                refine hK _ _ ?_
                exact ⟨fun h => C0 (by simpa using h), fun h => C1 (by simpa using h), fun _ => rfl, fun h => C4 (by simpa using h), ext_trans (E0) hx1, ext_at hx1 (H0), fun h => ext_at hx1 (P1 (by simpa using h)), fun h => ext_at hx1 (P2 (by simpa using h))⟩
              · refine stepOk_none (i := 3) (by rfl) (by rfl) ?_
                rintro u L T w' hT hu hL hp hcl ⟨C0, C1, C2, C4, E0, H0, P1, P2⟩ K hK
                have e0 := C0 (hp.of 0 (by kernel_rfl))
                have e2 : u 2 = .pointer (some ⟨w.heap.size, 0, none⟩) := hu 2 (by decide); have hc9 := P1 hL; have hf9 := frozen_row hc9; have hb9 := (Array.getElem?_eq_some_iff.1 hc9).1; obtain ⟨z0, z1, z2, z3, z4, z5⟩ := cells6' hc9
                go_simp
                refine hK _ ?_
                exact ⟨fun h => C0 (by simpa using h), fun h => C1 (by simpa using h), fun h => C2 (by simpa using h), fun h => C4 (by simpa using h), ext_setR (ext_setR (ext_setR (ext_setR (ext_setR (ext_setR (E0) (Nat.le_refl _)) (Nat.le_refl _)) (Nat.le_refl _)) (Nat.le_refl _)) (Nat.le_refl _)) (Nat.le_refl _), (Below.heap_setCell _ _ _ _ (by show ¬ gs = w.heap.size; omega)).trans ((Below.heap_setCell _ _ _ _ (by show ¬ gs = w.heap.size; omega)).trans ((Below.heap_setCell _ _ _ _ (by show ¬ gs = w.heap.size; omega)).trans ((Below.heap_setCell _ _ _ _ (by show ¬ gs = w.heap.size; omega)).trans ((Below.heap_setCell _ _ _ _ (by show ¬ gs = w.heap.size; omega)).trans ((Below.heap_setCell _ _ _ _ (by show ¬ gs = w.heap.size; omega)).trans (H0)))))), fun h => absurd h (by simp), fun _ => set6 hc9 _ _ _ _ _ _⟩
              · refine stepOk_some (i := 4) (by rfl) (by rfl) ?_
                rintro u L T w' hT hu hL hp hcl ⟨C0, C1, C2, C4, E0, H0, P1, P2⟩ K hK
                have e2 := C2 (hp.of 2 (by kernel_rfl))
                go_simp
                refine hK _ _ ?_
                exact ⟨fun h => C0 (by simpa using h), fun h => C1 (by simpa using h), fun h => C2 (by simpa using h), fun _ => rfl, E0, H0, fun h => P1 (by simpa using h), fun h => P2 (by simpa using h)⟩
            · rintro u L w' hall hu ⟨C0, C1, C2, C4, E0, H0, P1, P2⟩
              replace P2 := P2 (hall 3 (by omega))
              replace C0 := C0 (hall 0 (by omega))
              replace C1 := C1 (hall 1 (by omega))
              replace C2 := C2 (hall 2 (by omega))
              replace C4 := C4 (hall 4 (by omega))
              simp only [fill, List.setIfInBounds_toArray, List.set_cons_succ, List.set_cons_zero, C0, C1, C2, C4]
              clear C0 C1 C2 C4 hu hall
            -- end inv
              have HPR := Lib.hid P2; have HER := Lib.hid E0
              clear P2 E0 P1 H0
              go_wp2_with fail
              obtain ⟨e0', e1', e2', e3', e4', e5'⟩ := cells6' HPR.out
              refine bodyPost_ret (v := .tuple #[.agg #[.bool ral, Str rro, Str rte, Str rho, .int .i64 rfr, .int .i64 rtu], .bool okb]) (by simp [results, Tryd.results53, go_sem, e0', e1', e2', e3', e4', e5']) rfl ⟨⟨_, by rw [HM.out.1], HRBR.out, HM.out.2⟩, HER.out⟩
    · have HN := Lib.hid (lineO_bad hsp hv)
      have h1 : (vb == [97, 108, 108, 111, 119]) = false := by rw [beq_eq_false_iff_ne]; exact fun h => hv (.inl h)
      have h2 : (vb == [100, 101, 110, 121]) = false := by rw [beq_eq_false_iff_ne]; exact fun h => hv (.inr h)
      have hf2 := frozen_row HC2.out
      have hb2 := (Array.getElem?_eq_some_iff.1 HC2.out).1
      obtain ⟨c0, c1, c2, c3, c4, c5⟩ := cells6' HC2.out
      clear hv hsp
      go_wp2
      obtain ⟨W9, hW9, hst, hch⟩ := set6w HC2.out (.bool false) (.string ⟨#[]⟩) (.string ⟨#[]⟩) (.string ⟨#[]⟩) (.int .i64 0) (.int .i64 0)
      rw [hW9]
      obtain ⟨e0', e1', e2', e3', e4', e5'⟩ := cells6' hst
      refine bodyPost_ret (v := .tuple #[.agg #[.bool false, Str [], Str [], Str [], .int .i64 0, .int .i64 0], .bool false]) (by simp [results, Tryd.results53, go_sem, e0', e1', e2', e3', e4', e5']) rfl ⟨line_no HN.out, below_chg HX2.out hch (fun k hk => by have hk' : k = w.heap.size := hk; omega) (Nat.le_refl _)⟩
  · have HN := Lib.hid (lineO_other h5)
    obtain ⟨ao, cap, hv, _⟩ := ownz_shape hown
    subst hv
    have t5 : (((spb 32 l).length : Int) != 5) = true := by rw [bne_iff_ne]; omega
    have hf2 := frozen_row HC2.out
    have hb2 := (Array.getElem?_eq_some_iff.1 HC2.out).1
    obtain ⟨c0, c1, c2, c3, c4, c5⟩ := cells6' HC2.out
    clear h5 hpart hown
    generalize (spb 32 l).length = n at *
    go_wp2
    obtain ⟨W9, hW9, hst, hch⟩ := set6w HC2.out (.bool false) (.string ⟨#[]⟩) (.string ⟨#[]⟩) (.string ⟨#[]⟩) (.int .i64 0) (.int .i64 0)
    rw [hW9]
    obtain ⟨e0', e1', e2', e3', e4', e5'⟩ := cells6' hst
    refine bodyPost_ret (v := .tuple #[.agg #[.bool false, Str [], Str [], Str [], .int .i64 0, .int .i64 0], .bool false]) (by simp [results, Tryd.results53, go_sem, e0', e1', e2', e3', e4', e5']) rfl ⟨line_no HN.out, below_chg HX2.out hch (fun k hk => by have hk' : k = w.heap.size := hk; omega) (Nat.le_refl _)⟩
end Go.Proofs.YtjbobblnicnhnaaDoor
