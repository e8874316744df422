/-
  slices.Equal of rows of the document's events.
-/
import Derived.Test.YtpndahmlbjhdfaaDoorRows
import Derived.Test.YtpndahmlbjhdfaaDoorRch
namespace Go.Proofs.YtpndahmlbjhdfaaDoor
open Go.RowKit
set_option maxRecDepth 100000
attribute [local go_sem] Oper.semAt_some
set_option linter.unusedVariables false
set_option linter.unusedSimpArgs false
set_option maxHeartbeats 1000000 in
theorem equalE_same (v1 v2 : Value) (es : List Ev) (hlen : es.length ≤ 1000) (w : World) (h1 : RowE w v1 es) (h2 : RowE w v2 es) :
    Calls Tryd.prog 11 #[v1, v2] w fun e w' => e = .returned (.bool true) ∧ Ext w w' := by
  obtain ⟨ao1, cap1, rfl, -⟩ := id h1
  obtain ⟨ao2, cap2, rfl, -⟩ := id h2
  have H1 := Lib.hid h1
  have H2 := Lib.hid h2
  clear h1 h2
  go_enter Tryd.func11, Tryd.ntmps11
  go_wp2
  go_loopw [13] (fun i wr => ∃ k : Nat, k ≤ es.length ∧ i = .int .i64 k ∧ Ext w wr) (fun i _ => es.length - (intOf i).toNat)
  case atStart => exact ⟨0, by omega, rfl, ext_refl _⟩
  case round =>
    obtain ⟨k, hk, rfl, hx⟩ := hrel
    by_cases h3 : k < es.length
    · have hne : es ≠ [] := by intro h; rw [h] at h3; simp at h3
      obtain ⟨g1, o1, c1', hv1, hcl1⟩ := row_cells (H1.out.ext hx) hne
      obtain ⟨g2, o2, c2', hv2, hcl2⟩ := row_cells (H2.out.ext hx) hne
      cases hv1
      cases hv2
      have hix1 := index_evR g1 o1 es.length cap1 k h3
      have hix2 := index_evR g2 o2 es.length cap2 k h3
      have d1 := hcl1 k h3
      have d2 := hcl2 k h3
      clear hcl1 hcl2
      generalize es.getD k evD = ev at *
      obtain ⟨en, ek, ekind, econn, etext⟩ := ev
      simp only at d1 d2
      have HD1 := Lib.hid (fun W (he : Ext wr W) => (⟨ext_cell he d1.1, ext_cell he d1.2.1, ext_cell he d1.2.2.1, ext_cell he d1.2.2.2.1, ext_cell he d1.2.2.2.2⟩ : W.cell? ⟨g1, o1 + 5 * k, none⟩ = some (.int .u64 (en : Int)) ∧ W.cell? ⟨g1, o1 + 5 * k + 1, none⟩ = some (.int .u64 (ek : Int)) ∧ W.cell? ⟨g1, o1 + 5 * k + 2, none⟩ = some (Str ekind) ∧ W.cell? ⟨g1, o1 + 5 * k + 3, none⟩ = some (.int .i64 econn) ∧ W.cell? ⟨g1, o1 + 5 * k + 4, none⟩ = some (Str etext)))
      have HD2 := Lib.hid (fun W (he : Ext wr W) => (⟨ext_cell he d2.1, ext_cell he d2.2.1, ext_cell he d2.2.2.1, ext_cell he d2.2.2.2.1, ext_cell he d2.2.2.2.2⟩ : W.cell? ⟨g2, o2 + 5 * k, none⟩ = some (.int .u64 (en : Int)) ∧ W.cell? ⟨g2, o2 + 5 * k + 1, none⟩ = some (.int .u64 (ek : Int)) ∧ W.cell? ⟨g2, o2 + 5 * k + 2, none⟩ = some (Str ekind) ∧ W.cell? ⟨g2, o2 + 5 * k + 3, none⟩ = some (.int .i64 econn) ∧ W.cell? ⟨g2, o2 + 5 * k + 4, none⟩ = some (Str etext)))
      have HXW := Lib.hid hx
      clear d1 d2 hx
      go_wp2_with fail
      -- inv {'ops': [('mv', 16, 0, '.slice (some ⟨g1, o1, none⟩) es.length cap1'), ('mv', 17, 5, '.int .i64 (k : Int)'), ('op', 18, [0, 1], '.pointer (some ⟨g1, o1 + 5 * k, none⟩)'), ('lf', 19, 2, '.agg #[.int .u64 (en : Int), .int .u64 (ek : Int), Str ekind, .int .i64 econn, Str etext]', "obtain ⟨a0, a1, a2, a3, a4⟩ := HD1.out w' E0"), ('mv', 20, 1, '.slice (some ⟨g2, o2, none⟩) es.length cap2'), ('mv', 21, 5, '.int .i64 (k : Int)'), ('op', 22, [4, 5], '.pointer (some ⟨g2, o2 + 5 * k, none⟩)'), ('lf', 23, 6, '.agg #[.int .u64 (en : Int), .int .u64 (ek : Int), Str ekind, .int .i64 econn, Str etext]', "obtain ⟨a0, a1, a2, a3, a4⟩ := HD2.out w' E0"), ('op', 24, [3, 7], '.bool false')], 'W': [('E0', "Ext wr w'", 'Below.drew (Below.refl _ _)')]}
      refine wp_region_any (by kernel_rfl) ?_
      change wpAny _ _ _ _ _ _ _ (World.drew _)
      refine wpAny_inv (n := 9) [16, 17, 18, 19, 20, 21, 22, 23, 24] (fun u L w' =>
          (L 0 = true → u 16 = .slice (some ⟨g1, o1, none⟩) es.length cap1) ∧
          (L 1 = true → u 17 = .int .i64 (k : Int)) ∧
          (L 2 = true → u 18 = .pointer (some ⟨g1, o1 + 5 * k, none⟩)) ∧
          (L 3 = true → u 19 = .agg #[.int .u64 (en : Int), .int .u64 (ek : Int), Str ekind, .int .i64 econn, Str etext]) ∧
          (L 4 = true → u 20 = .slice (some ⟨g2, o2, none⟩) es.length cap2) ∧
          (L 5 = true → u 21 = .int .i64 (k : Int)) ∧
          (L 6 = true → u 22 = .pointer (some ⟨g2, o2 + 5 * k, none⟩)) ∧
          (L 7 = true → u 23 = .agg #[.int .u64 (en : Int), .int .u64 (ek : Int), Str ekind, .int .i64 econn, Str etext]) ∧
          (L 8 = true → u 24 = .bool false) ∧
          (Ext wr w'))
        (by rfl) (by kernel_rfl) (by kernel_rfl) (by rfl) ?_ ?_ ?_
      · exact ⟨(fun h => by cases h), (fun h => by cases h), (fun h => by cases h), (fun h => by cases h), (fun h => by cases h), (fun h => by cases h), (fun h => by cases h), (fun h => by cases h), (fun h => by cases h), Below.drew (Below.refl _ _)⟩
      · refine ⟨⟨⟨⟨⟨⟨⟨⟨⟨trivial, ?_⟩, ?_⟩, ?_⟩, ?_⟩, ?_⟩, ?_⟩, ?_⟩, ?_⟩, ?_⟩
        · refine stepOk_some (i := 0) (by rfl) (by rfl) ?_
          rintro u L T w' hT hu hL hp hcl ⟨C0, C1, C2, C3, C4, C5, C6, C7, C8, E0⟩ K hK
          have e1 : u 0 = .slice (some ⟨g1, o1, none⟩) es.length cap1 := hu 0 (by decide)
          go_simp
          refine hK _ _ ?_
          exact ⟨fun _ => rfl, fun h => C1 (by simpa using h), fun h => C2 (by simpa using h), fun h => C3 (by simpa using h), fun h => C4 (by simpa using h), fun h => C5 (by simpa using h), fun h => C6 (by simpa using h), fun h => C7 (by simpa using h), fun h => C8 (by simpa using h), E0⟩
        · refine stepOk_some (i := 1) (by rfl) (by rfl) ?_
          rintro u L T w' hT hu hL hp hcl ⟨C0, C1, C2, C3, C4, C5, C6, C7, C8, E0⟩ K hK
          have e1 : u 5 = .int .i64 (k : Int) := hu 5 (by decide)
          go_simp
          refine hK _ _ ?_
          exact ⟨fun h => C0 (by simpa using h), fun _ => rfl, fun h => C2 (by simpa using h), fun h => C3 (by simpa using h), fun h => C4 (by simpa using h), fun h => C5 (by simpa using h), fun h => C6 (by simpa using h), fun h => C7 (by simpa using h), fun h => C8 (by simpa using h), E0⟩
        · refine stepOk_some (i := 2) (by rfl) (by rfl) ?_
          rintro u L T w' hT hu hL hp hcl ⟨C0, C1, C2, C3, C4, C5, C6, C7, C8, E0⟩ K hK
          have e0 := C0 (hp.of 0 (by kernel_rfl))
          have e1 := C1 (hp.of 1 (by kernel_rfl))
          go_simp
          try go_bits
          try (rw [if_neg (by omega)]; go_simp)
          try (rw [if_pos (by omega)]; go_simp)
          refine hK _ _ ?_
          exact ⟨fun h => C0 (by simpa using h), fun h => C1 (by simpa using h), fun _ => rfl, fun h => C3 (by simpa using h), fun h => C4 (by simpa using h), fun h => C5 (by simpa using h), fun h => C6 (by simpa using h), fun h => C7 (by simpa using h), fun h => C8 (by simpa using h), E0⟩
        · refine stepOk_some (i := 3) (by rfl) (by rfl) ?_
          rintro u L T w' hT hu hL hp hcl ⟨C0, C1, C2, C3, C4, C5, C6, C7, C8, E0⟩ K hK
          have e2 := C2 (hp.of 2 (by kernel_rfl))
          obtain ⟨a0, a1, a2, a3, a4⟩ := HD1.out w' E0
          go_simp
          refine hK _ _ ?_
          exact ⟨fun h => C0 (by simpa using h), fun h => C1 (by simpa using h), fun h => C2 (by simpa using h), fun _ => rfl, fun h => C4 (by simpa using h), fun h => C5 (by simpa using h), fun h => C6 (by simpa using h), fun h => C7 (by simpa using h), fun h => C8 (by simpa using h), E0⟩
        · refine stepOk_some (i := 4) (by rfl) (by rfl) ?_
          rintro u L T w' hT hu hL hp hcl ⟨C0, C1, C2, C3, C4, C5, C6, C7, C8, E0⟩ K hK
          have e1 : u 1 = .slice (some ⟨g2, o2, none⟩) es.length cap2 := hu 1 (by decide)
          go_simp
          refine hK _ _ ?_
          exact ⟨fun h => C0 (by simpa using h), fun h => C1 (by simpa using h), fun h => C2 (by simpa using h), fun h => C3 (by simpa using h), fun _ => rfl, fun h => C5 (by simpa using h), fun h => C6 (by simpa using h), fun h => C7 (by simpa using h), fun h => C8 (by simpa using h), E0⟩
        · refine stepOk_some (i := 5) (by rfl) (by rfl) ?_
          rintro u L T w' hT hu hL hp hcl ⟨C0, C1, C2, C3, C4, C5, C6, C7, C8, E0⟩ K hK
          have e1 : u 5 = .int .i64 (k : Int) := hu 5 (by decide)
          go_simp
          refine hK _ _ ?_
          exact ⟨fun h => C0 (by simpa using h), fun h => C1 (by simpa using h), fun h => C2 (by simpa using h), fun h => C3 (by simpa using h), fun h => C4 (by simpa using h), fun _ => rfl, fun h => C6 (by simpa using h), fun h => C7 (by simpa using h), fun h => C8 (by simpa using h), E0⟩
        · refine stepOk_some (i := 6) (by rfl) (by rfl) ?_
          rintro u L T w' hT hu hL hp hcl ⟨C0, C1, C2, C3, C4, C5, C6, C7, C8, E0⟩ K hK
          have e4 := C4 (hp.of 4 (by kernel_rfl))
          have e5 := C5 (hp.of 5 (by kernel_rfl))
          go_simp
          try go_bits
          try (rw [if_neg (by omega)]; go_simp)
          try (rw [if_pos (by omega)]; go_simp)
          refine hK _ _ ?_
          exact ⟨fun h => C0 (by simpa using h), fun h => C1 (by simpa using h), fun h => C2 (by simpa using h), fun h => C3 (by simpa using h), fun h => C4 (by simpa using h), fun h => C5 (by simpa using h), fun _ => rfl, fun h => C7 (by simpa using h), fun h => C8 (by simpa using h), E0⟩
        · refine stepOk_some (i := 7) (by rfl) (by rfl) ?_
          rintro u L T w' hT hu hL hp hcl ⟨C0, C1, C2, C3, C4, C5, C6, C7, C8, E0⟩ K hK
          have e6 := C6 (hp.of 6 (by kernel_rfl))
          obtain ⟨a0, a1, a2, a3, a4⟩ := HD2.out w' E0
          go_simp
          refine hK _ _ ?_
          exact ⟨fun h => C0 (by simpa using h), fun h => C1 (by simpa using h), fun h => C2 (by simpa using h), fun h => C3 (by simpa using h), fun h => C4 (by simpa using h), fun h => C5 (by simpa using h), fun h => C6 (by simpa using h), fun _ => rfl, fun h => C8 (by simpa using h), E0⟩
        · refine stepOk_some (i := 8) (by rfl) (by rfl) ?_
          rintro u L T w' hT hu hL hp hcl ⟨C0, C1, C2, C3, C4, C5, C6, C7, C8, E0⟩ K hK
          have e3 := C3 (hp.of 3 (by kernel_rfl))
          have e7 := C7 (hp.of 7 (by kernel_rfl))
          go_simp
          try go_bits
          try (rw [if_neg (by omega)]; go_simp)
          try (rw [if_pos (by omega)]; go_simp)
          refine hK _ _ ?_
          exact ⟨fun h => C0 (by simpa using h), fun h => C1 (by simpa using h), fun h => C2 (by simpa using h), fun h => C3 (by simpa using h), fun h => C4 (by simpa using h), fun h => C5 (by simpa using h), fun h => C6 (by simpa using h), fun h => C7 (by simpa using h), fun _ => rfl, E0⟩
      · rintro u L w' hall hu ⟨C0, C1, C2, C3, C4, C5, C6, C7, C8, E0⟩
        replace C0 := C0 (hall 0 (by omega))
        replace C1 := C1 (hall 1 (by omega))
        replace C2 := C2 (hall 2 (by omega))
        replace C3 := C3 (hall 3 (by omega))
        replace C4 := C4 (hall 4 (by omega))
        replace C5 := C5 (hall 5 (by omega))
        replace C6 := C6 (hall 6 (by omega))
        replace C7 := C7 (hall 7 (by omega))
        replace C8 := C8 (hall 8 (by omega))
        simp only [fill, List.setIfInBounds_toArray, List.set_cons_succ, List.set_cons_zero, C0, C1, C2, C3, C4, C5, C6, C7, C8]
        clear C0 C1 C2 C3 C4 C5 C6 C7 C8 hu hall
      -- end inv
        have HX9 := Lib.hid (ext_trans HXW.out E0)
        clear E0
        go_wp2
        go_roundw
        case rel => exact ⟨k + 1, by omega, by go_num, HX9.out⟩
        case measure => simp [intOf]; omega
    · obtain rfl : k = es.length := by omega
      go_wp2
      go_ret
      exact ⟨rfl, hx⟩
end Go.Proofs.YtpndahmlbjhdfaaDoor
