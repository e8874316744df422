/-
  TraceLines: the law's walk.
-/
import Derived.Test.YtpndahmlbjhdfaaDoorRows
import Derived.Test.YtpndahmlbjhdfaaDoorTaw
import Derived.Test.YtpndahmlbjhdfaaDoorCrd
import Derived.Test.YtpndahmlbjhdfaaDoorRrd
namespace Go.Proofs.YtpndahmlbjhdfaaDoor
open Go.RowKit
set_option maxRecDepth 100000
attribute [local go_sem] Oper.semAt_some
set_option linter.unusedVariables false
set_option linter.unusedSimpArgs false
/-- An event's bounds, of whatever texts. -/
structure EvW (e : Ev) : Prop where
  n : e.n < 18446744073709551616
  tk : e.tk < 18446744073709551616
  lo : -9223372036854775808 ≤ e.conn
  hi : e.conn ≤ 9223372036854775807
theorem rdV_cases (s : List UInt8) : ∃ (x : Ev) (c : Int), rdV s = .tuple #[.agg (evC x), .int .i64 c] := by
  unfold rdV
  cases rdE s with
  | none => exact ⟨evZ, 4, rfl⟩
  | some x => exact ⟨x, 0, rfl⟩
set_option maxHeartbeats 1000000 in
theorem tlines_any (e0 : Ev) (he : EvW e0) (s0 : List UInt8) (w : World) (hL : Lb w) (hT : Tw w) :
    Calls Tryd.prog 7 #[.agg (evC e0), Str s0] w fun e w' => e = .returned (.bool true) ∧ Ext w w' := by
  have HAW := Lib.hid (fun W (hx : Ext w W) => awake_law W (hT.ext hx))
  have HLb := Lib.hid hL
  clear hT hL
  obtain ⟨n, tk, kind0, conn, text0⟩ := e0
  obtain ⟨h1, h2, h3, h4⟩ := he
  simp only at h1 h2 h3 h4
  simp only [evC]
  show Calls Tryd.prog 7 #[.agg #[.int .u64 (n : Int), .int .u64 (tk : Int), Str kind0, .int .i64 conn, Str text0], Str s0] w _
  go_enter Tryd.func7, Tryd.ntmps7
  go_wp2_with fail
  obtain ⟨W0, hW0⟩ : ∃ W0, w.alloc (.cells #[.int .u64 (n : Int), .int .u64 (tk : Int), Str kind0, .int .i64 conn, Str text0] 32) = W0 := ⟨_, rfl⟩
  have hx0 : Ext w W0 := by rw [← hW0]; exact Below.alloc (Below.refl _ _) (Nat.le_refl _) _
  have hb0 : W0.heap[w.heap.size]? = some (.cells #[.int .u64 (n : Int), .int .u64 (tk : Int), Str kind0, .int .i64 conn, Str text0] 32 (0, 0)) := by rw [← hW0]; exact Array.getElem?_push_size
  rw [hW0]
  refine (HAW.out W0 hx0).mono ?_
  rintro e W1 ⟨rfl, hx1⟩
  have hb1 := ext_at hx1 hb0
  have HX1 := Lib.hid (ext_trans hx0 hx1)
  have HB1 := Lib.hid hb1
  clear hx0 hx1 hb0 hb1 hW0 HAW
  go_wp2_with fail
  -- inv {'ops': [('fa', 17, 2, '.pointer (some ⟨w.heap.size, 0, none⟩)', '.pointer (some ⟨w.heap.size, 2, none⟩)'), ('lf', 18, 0, 'Str kind0', 'obtain ⟨d0, d1, d2, d3, d4⟩ := cells5 (Y0 (hcl.not 9 (by kernel_rfl) hL))'), ('callq', 19, [1], "cutText_any kind0 40 w' (by omega)", 'Str (kind0.take 40)'), ('fa', 20, 2, '.pointer (some ⟨w.heap.size, 0, none⟩)', '.pointer (some ⟨w.heap.size, 4, none⟩)'), ('lf', 21, 3, 'Str text0', 'obtain ⟨d0, d1, d2, d3, d4⟩ := cells5 (Y0 (hcl.not 9 (by kernel_rfl) hL))'), ('callq', 22, [4], "cutText_any text0 210 w' (by omega)", 'Str (text0.take 210)'), ('mo', 23, 1, 12, 'Str s0'), ('callq', 24, [6], "cutText_any s0 500 w' (by omega)", 'Str (s0.take 500)'), ('fa', 25, 2, '.pointer (some ⟨w.heap.size, 0, none⟩)', '.pointer (some ⟨w.heap.size, 2, none⟩)'), ('st', None, [8, 2], 'have hc9 := Y0 hL; have hf9 := frozen_row hc9; have hb9 := (Array.getElem?_eq_some_iff.1 hc9).1; obtain ⟨z0, z1, z2, z3, z4⟩ := cells5 hc9'), ('fa', 26, 2, '.pointer (some ⟨w.heap.size, 0, none⟩)', '.pointer (some ⟨w.heap.size, 4, none⟩)'), ('st', None, [10, 5], 'have hc9 := X1 (hp.of 9 (by kernel_rfl)) hL; have hf9 := frozen_row hc9; have hb9 := (Array.getElem?_eq_some_iff.1 hc9).1; obtain ⟨z0, z1, z2, z3, z4⟩ := cells5 hc9'), ('as', 1, 7, 'Str (s0.take 500)', 'Str s0')], 'W': [('E0', "Ext w w'", 'Below.drew HX1.out'), ('Y0', "L 9 = false → w'.heap[w.heap.size]? = some (.cells #[.int .u64 (n : Int), .int .u64 (tk : Int), Str kind0, .int .i64 conn, Str text0] 32 (0, 0))", '(fun _ => HB1.out)'), ('X1', "L 9 = true → L 11 = false → w'.heap[w.heap.size]? = some (.cells #[.int .u64 (n : Int), .int .u64 (tk : Int), Str (kind0.take 40), .int .i64 conn, Str text0] 32 (0, 0))", '(fun h => by cases h)'), ('Y2', "L 11 = true → w'.heap[w.heap.size]? = some (.cells #[.int .u64 (n : Int), .int .u64 (tk : Int), Str (kind0.take 40), .int .i64 conn, Str (text0.take 210)] 32 (0, 0))", '(fun h => by cases h)')], 'over': {9: {'E0': 'ext_setR E0 (Nat.le_refl _)', 'Y0': 'fun h => absurd h (by simp)', 'X1': 'fun _ _ => setCell_row hc9 2 _', 'Y2': 'fun h => absurd h (by simp [hcl.not 11 (by kernel_rfl) hL])'}, 11: {'E0': 'ext_setR E0 (Nat.le_refl _)', 'Y0': 'fun h => absurd h (by simp [hp.of 9 (by kernel_rfl)])', 'X1': 'fun _ h => absurd h (by simp)', 'Y2': 'fun _ => setCell_row hc9 4 _'}}, 'fin': [('Y2', 11)]}
  refine wp_region_any (by kernel_rfl) ?_
  change wpAny _ _ _ _ _ _ _ (World.drew _)
  refine wpAny_inv (n := 13) [17, 18, 19, 20, 21, 22, 23, 24, 25, 26, 1] (fun u L w' =>
      (L 0 = true → u 17 = .pointer (some ⟨w.heap.size, 2, none⟩)) ∧
      (L 1 = true → u 18 = Str kind0) ∧
      (L 2 = true → u 19 = Str (kind0.take 40)) ∧
      (L 3 = true → u 20 = .pointer (some ⟨w.heap.size, 4, none⟩)) ∧
      (L 4 = true → u 21 = Str text0) ∧
      (L 5 = true → u 22 = Str (text0.take 210)) ∧
      (L 6 = true → u 23 = Str s0) ∧
      (L 7 = true → u 24 = Str (s0.take 500)) ∧
      (L 8 = true → u 25 = .pointer (some ⟨w.heap.size, 2, none⟩)) ∧
      (L 10 = true → u 26 = .pointer (some ⟨w.heap.size, 4, none⟩)) ∧
      (L 12 = true → u 1 = Str (s0.take 500)) ∧
      (L 12 = false → u 1 = Str s0) ∧
      (Ext w w') ∧
      (L 9 = false → w'.heap[w.heap.size]? = some (.cells #[.int .u64 (n : Int), .int .u64 (tk : Int), Str kind0, .int .i64 conn, Str text0] 32 (0, 0))) ∧
      (L 9 = true → L 11 = false → w'.heap[w.heap.size]? = some (.cells #[.int .u64 (n : Int), .int .u64 (tk : Int), Str (kind0.take 40), .int .i64 conn, Str text0] 32 (0, 0))) ∧
      (L 11 = true → w'.heap[w.heap.size]? = some (.cells #[.int .u64 (n : Int), .int .u64 (tk : Int), Str (kind0.take 40), .int .i64 conn, Str (text0.take 210)] 32 (0, 0))))
    (by rfl) (by kernel_rfl) (by kernel_rfl) (by rfl) ?_ ?_ ?_
  · exact ⟨(fun h => by cases h), (fun h => by cases h), (fun h => by cases h), (fun h => by cases h), (fun h => by cases h), (fun h => by cases h), (fun h => by cases h), (fun h => by cases h), (fun h => by cases h), (fun h => by cases h), (fun h => by cases h), (fun _ => rfl), Below.drew HX1.out, (fun _ => HB1.out), (fun h => by cases h), (fun h => by cases h)⟩
  · refine ⟨⟨⟨⟨⟨⟨⟨⟨⟨⟨⟨⟨⟨trivial, ?_⟩, ?_⟩, ?_⟩, ?_⟩, ?_⟩, ?_⟩, ?_⟩, ?_⟩, ?_⟩, ?_⟩, ?_⟩, ?_⟩, ?_⟩
    · refine stepOk_some (i := 0) (by rfl) (by rfl) ?_
      rintro u L T w' hT hu hL hp hcl ⟨C0, C1, C2, C3, C4, C5, C6, C7, C8, C10, C12, Z12, E0, Y0, X1, Y2⟩ K hK
      have e1 : u 2 = .pointer (some ⟨w.heap.size, 0, none⟩) := hu 2 (by decide)
      go_simp
      refine hK _ _ ?_
      exact ⟨fun _ => rfl, fun h => C1 (by simpa using h), fun h => C2 (by simpa using h), fun h => C3 (by simpa using h), fun h => C4 (by simpa using h), fun h => C5 (by simpa using h), fun h => C6 (by simpa using h), fun h => C7 (by simpa using h), fun h => C8 (by simpa using h), fun h => C10 (by simpa using h), fun h => C12 (by simpa using h), fun h => Z12 (by simpa using h), E0, fun h => Y0 (by simpa using h), fun h h2 => X1 (by simpa using h) (by simpa using h2), fun h => Y2 (by simpa using h)⟩
    · refine stepOk_some (i := 1) (by rfl) (by rfl) ?_
      rintro u L T w' hT hu hL hp hcl ⟨C0, C1, C2, C3, C4, C5, C6, C7, C8, C10, C12, Z12, E0, Y0, X1, Y2⟩ K hK
      have e0 := C0 (hp.of 0 (by kernel_rfl))
      obtain ⟨d0, d1, d2, d3, d4⟩ := cells5 (Y0 (hcl.not 9 (by kernel_rfl) hL))
      go_simp
      refine hK _ _ ?_
      exact ⟨fun h => C0 (by simpa using h), fun _ => rfl, fun h => C2 (by simpa using h), fun h => C3 (by simpa using h), fun h => C4 (by simpa using h), fun h => C5 (by simpa using h), fun h => C6 (by simpa using h), fun h => C7 (by simpa using h), fun h => C8 (by simpa using h), fun h => C10 (by simpa using h), fun h => C12 (by simpa using h), fun h => Z12 (by simpa using h), E0, fun h => Y0 (by simpa using h), fun h h2 => X1 (by simpa using h) (by simpa using h2), fun h => Y2 (by simpa using h)⟩
    · refine stepOk_some (i := 2) (by rfl) (by rfl) ?_
      rintro u L T w' hT hu hL hp hcl ⟨C0, C1, C2, C3, C4, C5, C6, C7, C8, C10, C12, Z12, E0, Y0, X1, Y2⟩ K hK
      have e1 := C1 (hp.of 1 (by kernel_rfl))
      go_simp
      refine (cutText_any kind0 40 w' (by omega)).mono ?_
      rintro e w1 ⟨he, hx1⟩
      subst w1
      subst he
      refine hK _ _ ?_
      exact ⟨fun h => C0 (by simpa using h), fun h => C1 (by simpa using h), fun _ => rfl, fun h => C3 (by simpa using h), fun h => C4 (by simpa using h), fun h => C5 (by simpa using h), fun h => C6 (by simpa using h), fun h => C7 (by simpa using h), fun h => C8 (by simpa using h), fun h => C10 (by simpa using h), fun h => C12 (by simpa using h), fun h => Z12 (by simpa using h), E0, fun h => Y0 (by simpa using h), fun h h2 => X1 (by simpa using h) (by simpa using h2), fun h => Y2 (by simpa using h)⟩
    · refine stepOk_some (i := 3) (by rfl) (by rfl) ?_
      rintro u L T w' hT hu hL hp hcl ⟨C0, C1, C2, C3, C4, C5, C6, C7, C8, C10, C12, Z12, E0, Y0, X1, Y2⟩ K hK
      have e1 : u 2 = .pointer (some ⟨w.heap.size, 0, none⟩) := hu 2 (by decide)
      go_simp
      refine hK _ _ ?_
      exact ⟨fun h => C0 (by simpa using h), fun h => C1 (by simpa using h), fun h => C2 (by simpa using h), fun _ => rfl, fun h => C4 (by simpa using h), fun h => C5 (by simpa using h), fun h => C6 (by simpa using h), fun h => C7 (by simpa using h), fun h => C8 (by simpa using h), fun h => C10 (by simpa using h), fun h => C12 (by simpa using h), fun h => Z12 (by simpa using h), E0, fun h => Y0 (by simpa using h), fun h h2 => X1 (by simpa using h) (by simpa using h2), fun h => Y2 (by simpa using h)⟩
    · refine stepOk_some (i := 4) (by rfl) (by rfl) ?_
      rintro u L T w' hT hu hL hp hcl ⟨C0, C1, C2, C3, C4, C5, C6, C7, C8, C10, C12, Z12, E0, Y0, X1, Y2⟩ K hK
      have e3 := C3 (hp.of 3 (by kernel_rfl))
      obtain ⟨d0, d1, d2, d3, d4⟩ := cells5 (Y0 (hcl.not 9 (by kernel_rfl) hL))
      go_simp
      refine hK _ _ ?_
      exact ⟨fun h => C0 (by simpa using h), fun h => C1 (by simpa using h), fun h => C2 (by simpa using h), fun h => C3 (by simpa using h), fun _ => rfl, fun h => C5 (by simpa using h), fun h => C6 (by simpa using h), fun h => C7 (by simpa using h), fun h => C8 (by simpa using h), fun h => C10 (by simpa using h), fun h => C12 (by simpa using h), fun h => Z12 (by simpa using h), E0, fun h => Y0 (by simpa using h), fun h h2 => X1 (by simpa using h) (by simpa using h2), fun h => Y2 (by simpa using h)⟩
    · refine stepOk_some (i := 5) (by rfl) (by rfl) ?_
      rintro u L T w' hT hu hL hp hcl ⟨C0, C1, C2, C3, C4, C5, C6, C7, C8, C10, C12, Z12, E0, Y0, X1, Y2⟩ K hK
      have e4 := C4 (hp.of 4 (by kernel_rfl))
      go_simp
      refine (cutText_any text0 210 w' (by omega)).mono ?_
      rintro e w1 ⟨he, hx1⟩
      subst w1
      subst he
      refine hK _ _ ?_
      exact ⟨fun h => C0 (by simpa using h), fun h => C1 (by simpa using h), fun h => C2 (by simpa using h), fun h => C3 (by simpa using h), fun h => C4 (by simpa using h), fun _ => rfl, fun h => C6 (by simpa using h), fun h => C7 (by simpa using h), fun h => C8 (by simpa using h), fun h => C10 (by simpa using h), fun h => C12 (by simpa using h), fun h => Z12 (by simpa using h), E0, fun h => Y0 (by simpa using h), fun h h2 => X1 (by simpa using h) (by simpa using h2), fun h => Y2 (by simpa using h)⟩
    · refine stepOk_some (i := 6) (by rfl) (by rfl) ?_
      rintro u L T w' hT hu hL hp hcl ⟨C0, C1, C2, C3, C4, C5, C6, C7, C8, C10, C12, Z12, E0, Y0, X1, Y2⟩ K hK
      have e1 := Z12 (hcl.not 12 (by kernel_rfl) hL)
      go_simp
      refine hK _ _ ?_
      exact ⟨fun h => C0 (by simpa using h), fun h => C1 (by simpa using h), fun h => C2 (by simpa using h), fun h => C3 (by simpa using h), fun h => C4 (by simpa using h), fun h => C5 (by simpa using h), fun _ => rfl, fun h => C7 (by simpa using h), fun h => C8 (by simpa using h), fun h => C10 (by simpa using h), fun h => C12 (by simpa using h), fun h => Z12 (by simpa using h), E0, fun h => Y0 (by simpa using h), fun h h2 => X1 (by simpa using h) (by simpa using h2), fun h => Y2 (by simpa using h)⟩
    · refine stepOk_some (i := 7) (by rfl) (by rfl) ?_
      rintro u L T w' hT hu hL hp hcl ⟨C0, C1, C2, C3, C4, C5, C6, C7, C8, C10, C12, Z12, E0, Y0, X1, Y2⟩ K hK
      have e6 := C6 (hp.of 6 (by kernel_rfl))
      go_simp
      refine (cutText_any s0 500 w' (by omega)).mono ?_
      rintro e w1 ⟨he, hx1⟩
      subst w1
      subst he
      refine hK _ _ ?_
      exact ⟨fun h => C0 (by simpa using h), fun h => C1 (by simpa using h), fun h => C2 (by simpa using h), fun h => C3 (by simpa using h), fun h => C4 (by simpa using h), fun h => C5 (by simpa using h), fun h => C6 (by simpa using h), fun _ => rfl, fun h => C8 (by simpa using h), fun h => C10 (by simpa using h), fun h => C12 (by simpa using h), fun h => Z12 (by simpa using h), E0, fun h => Y0 (by simpa using h), fun h h2 => X1 (by simpa using h) (by simpa using h2), fun h => Y2 (by simpa using h)⟩
    · refine stepOk_some (i := 8) (by rfl) (by rfl) ?_
      rintro u L T w' hT hu hL hp hcl ⟨C0, C1, C2, C3, C4, C5, C6, C7, C8, C10, C12, Z12, E0, Y0, X1, Y2⟩ K hK
      have e1 : u 2 = .pointer (some ⟨w.heap.size, 0, none⟩) := hu 2 (by decide)
      go_simp
      refine hK _ _ ?_
      exact ⟨fun h => C0 (by simpa using h), fun h => C1 (by simpa using h), fun h => C2 (by simpa using h), fun h => C3 (by simpa using h), fun h => C4 (by simpa using h), fun h => C5 (by simpa using h), fun h => C6 (by simpa using h), fun h => C7 (by simpa using h), fun _ => rfl, fun h => C10 (by simpa using h), fun h => C12 (by simpa using h), fun h => Z12 (by simpa using h), E0, fun h => Y0 (by simpa using h), fun h h2 => X1 (by simpa using h) (by simpa using h2), fun h => Y2 (by simpa using h)⟩
    · refine stepOk_none (i := 9) (by rfl) (by rfl) ?_
      rintro u L T w' hT hu hL hp hcl ⟨C0, C1, C2, C3, C4, C5, C6, C7, C8, C10, C12, Z12, E0, Y0, X1, Y2⟩ K hK
      have e8 := C8 (hp.of 8 (by kernel_rfl))
      have e2 := C2 (hp.of 2 (by kernel_rfl))
      have hc9 := Y0 hL; have hf9 := frozen_row hc9; have hb9 := (Array.getElem?_eq_some_iff.1 hc9).1; obtain ⟨z0, z1, z2, z3, z4⟩ := cells5 hc9
      go_simp
      refine hK _ ?_
      exact ⟨fun h => C0 (by simpa using h), fun h => C1 (by simpa using h), fun h => C2 (by simpa using h), fun h => C3 (by simpa using h), fun h => C4 (by simpa using h), fun h => C5 (by simpa using h), fun h => C6 (by simpa using h), fun h => C7 (by simpa using h), fun h => C8 (by simpa using h), fun h => C10 (by simpa using h), fun h => C12 (by simpa using h), fun h => Z12 (by simpa using h), ext_setR E0 (Nat.le_refl _), fun h => absurd h (by simp), fun _ _ => setCell_row hc9 2 _, fun h => absurd h (by simp [hcl.not 11 (by kernel_rfl) hL])⟩
    · refine stepOk_some (i := 10) (by rfl) (by rfl) ?_
      rintro u L T w' hT hu hL hp hcl ⟨C0, C1, C2, C3, C4, C5, C6, C7, C8, C10, C12, Z12, E0, Y0, X1, Y2⟩ K hK
      have e1 : u 2 = .pointer (some ⟨w.heap.size, 0, none⟩) := hu 2 (by decide)
      go_simp
      refine hK _ _ ?_
      exact ⟨fun h => C0 (by simpa using h), fun h => C1 (by simpa using h), fun h => C2 (by simpa using h), fun h => C3 (by simpa using h), fun h => C4 (by simpa using h), fun h => C5 (by simpa using h), fun h => C6 (by simpa using h), fun h => C7 (by simpa using h), fun h => C8 (by simpa using h), fun _ => rfl, fun h => C12 (by simpa using h), fun h => Z12 (by simpa using h), E0, fun h => Y0 (by simpa using h), fun h h2 => X1 (by simpa using h) (by simpa using h2), fun h => Y2 (by simpa using h)⟩
    · refine stepOk_none (i := 11) (by rfl) (by rfl) ?_
      rintro u L T w' hT hu hL hp hcl ⟨C0, C1, C2, C3, C4, C5, C6, C7, C8, C10, C12, Z12, E0, Y0, X1, Y2⟩ K hK
      have e10 := C10 (hp.of 10 (by kernel_rfl))
      have e5 := C5 (hp.of 5 (by kernel_rfl))
      have hc9 := X1 (hp.of 9 (by kernel_rfl)) hL; have hf9 := frozen_row hc9; have hb9 := (Array.getElem?_eq_some_iff.1 hc9).1; obtain ⟨z0, z1, z2, z3, z4⟩ := cells5 hc9
      go_simp
      refine hK _ ?_
      exact ⟨fun h => C0 (by simpa using h), fun h => C1 (by simpa using h), fun h => C2 (by simpa using h), fun h => C3 (by simpa using h), fun h => C4 (by simpa using h), fun h => C5 (by simpa using h), fun h => C6 (by simpa using h), fun h => C7 (by simpa using h), fun h => C8 (by simpa using h), fun h => C10 (by simpa using h), fun h => C12 (by simpa using h), fun h => Z12 (by simpa using h), ext_setR E0 (Nat.le_refl _), fun h => absurd h (by simp [hp.of 9 (by kernel_rfl)]), fun _ h => absurd h (by simp), fun _ => setCell_row hc9 4 _⟩
    · refine stepOk_some (i := 12) (by rfl) (by rfl) ?_
      rintro u L T w' hT hu hL hp hcl ⟨C0, C1, C2, C3, C4, C5, C6, C7, C8, C10, C12, Z12, E0, Y0, X1, Y2⟩ K hK
      have e7 := C7 (hp.of 7 (by kernel_rfl))
      go_simp
      refine hK _ _ ?_
      exact ⟨fun h => C0 (by simpa using h), fun h => C1 (by simpa using h), fun h => C2 (by simpa using h), fun h => C3 (by simpa using h), fun h => C4 (by simpa using h), fun h => C5 (by simpa using h), fun h => C6 (by simpa using h), fun h => C7 (by simpa using h), fun h => C8 (by simpa using h), fun h => C10 (by simpa using h), fun _ => rfl, fun h => absurd h (by simp), E0, fun h => Y0 (by simpa using h), fun h h2 => X1 (by simpa using h) (by simpa using h2), fun h => Y2 (by simpa using h)⟩
  · rintro u L w' hall hu ⟨C0, C1, C2, C3, C4, C5, C6, C7, C8, C10, C12, Z12, E0, Y0, X1, Y2⟩
    replace Y2 := Y2 (hall 11 (by omega))
    replace C0 := C0 (hall 0 (by omega))
    replace C1 := C1 (hall 1 (by omega))
    replace C2 := C2 (hall 2 (by omega))
    replace C3 := C3 (hall 3 (by omega))
    replace C4 := C4 (hall 4 (by omega))
    replace C5 := C5 (hall 5 (by omega))
    replace C6 := C6 (hall 6 (by omega))
    replace C7 := C7 (hall 7 (by omega))
    replace C8 := C8 (hall 8 (by omega))
    replace C10 := C10 (hall 10 (by omega))
    replace C12 := C12 (hall 12 (by omega))
    simp only [fill, List.setIfInBounds_toArray, List.set_cons_succ, List.set_cons_zero, C0, C1, C2, C3, C4, C5, C6, C7, C8, C10, C12]
    clear C0 C1 C2 C3 C4 C5 C6 C7 C8 C10 C12 Z12 hu hall
  -- end inv
    have HB2 := Lib.hid Y2
    have HX2 := Lib.hid E0
    clear Y2 E0 Y0 X1 HX1 HB1
    have lk : (kind0.take 40).length ≤ 40 := by rw [List.length_take]; omega
    have ltx : (text0.take 210).length ≤ 210 := by rw [List.length_take]; omega
    have lss : (s0.take 500).length ≤ 500 := by rw [List.length_take]; omega
    generalize kind0.take 40 = kind at *
    generalize text0.take 210 = text at *
    generalize s0.take 500 = s at *
    obtain ⟨d0, d1, d2, d3, d4⟩ := cells5 HB2.out
    go_wp2_with fail
    have hok : (Ev.mk n tk kind conn text).ok := ⟨h1, h2, h3, h4, by show kind.length ≤ 1000; omega, by show text.length ≤ 1000; omega⟩
    have HRL := Lib.hid (rline_any (Ev.mk n tk kind conn text) hok)
    have HLE := Lib.hid (fun hr : (Ev.mk n tk kind conn text).right = true => And.intro (line_len _ hok hr) (read_line _ hr))
    refine (show Calls Tryd.prog 30 #[.agg #[.int .u64 (n : Int), .int .u64 (tk : Int), Str kind, .int .i64 conn, Str text]] w' _ from Line_any (Ev.mk n tk kind conn text) hok w' (HLb.out.ext HX2.out).lt').mono ?_
    rintro e W3 ⟨rfl, hx3⟩
    have HX3 := Lib.hid (ext_trans HX2.out hx3)
    have HB3 := Lib.hid (ext_at hx3 HB2.out)
    clear hx3 HX2 HB2 d0 d1 d2 d3 d4 hok
    simp only [evC] at HRL
    generalize hR : (Ev.mk n tk kind conn text).right = R at *
    generalize (Ev.mk n tk kind conn text).line = ln at *
    obtain ⟨⟨xn, xk, xkind, xconn, xtext⟩, code, hrv⟩ := rdV_cases s
    simp only [evC] at hrv
    cases R with
    | false =>
      clear hR HLE
      simp only [if_false, Bool.false_eq_true] at HRL ⊢
      obtain ⟨d0, d1, d2, d3, d4⟩ := cells5 HB3.out
      go_wp2_with fail
      refine (HRL.out W3).mono ?_
      rintro e W4 ⟨rfl, hx4⟩
      have HX4 := Lib.hid (ext_trans HX3.out hx4)
      clear hx4 HX3 HB3 d0 d1 d2 d3 d4 HRL
      have HCR := Lib.hid (fun W hx => cread_any s (by omega) W (HLb.out.ext hx))
      have HRR := Lib.hid (rread_any s (by omega))
      go_wp2_with fail
      refine (HCR.out _ HX4.out).mono ?_
      rintro e W6 ⟨rfl, hx6⟩
      rw [hrv]
      clear HCR
      go_wp2_with fail
      obtain ⟨W6a, hW6a⟩ : ∃ W6a, W6.alloc (.cells #[.int .u64 (xn : Int), .int .u64 (xk : Int), Str xkind, .int .i64 xconn, Str xtext] 37) = W6a := ⟨_, rfl⟩
      have hx6a : Ext W6 W6a := by rw [← hW6a]; exact Below.alloc (Below.refl _ _) (Nat.le_refl _) _
      have hb6a : W6a.heap[W6.heap.size]? = some (.cells #[.int .u64 (xn : Int), .int .u64 (xk : Int), Str xkind, .int .i64 xconn, Str xtext] 37 (0, 0)) := by rw [← hW6a]; exact Array.getElem?_push_size
      rw [show W6.alloc (.cells #[.int .u64 (xn : Int), .int .u64 (xk : Int), .string ⟨xkind.toArray⟩, .int .i64 xconn, .string ⟨xtext.toArray⟩] 37) = W6a from hW6a]
      refine (HRR.out W6a).mono ?_
      rintro e W7 ⟨rfl, hx7⟩
      rw [hrv]
      have HX7 := Lib.hid (ext_trans (ext_trans HX4.out hx6) (ext_trans hx6a hx7))
      have hb7 := ext_at hx7 hb6a
      have hlt7 := (Array.getElem?_eq_some_iff.1 hb7).1
      clear HRR hrv hW6a hx6a hb6a hx7 hx6
      obtain ⟨k0, k1, k2, k3, k4⟩ := cells5 hb7
      clear hb7
      go_wp2
      go_ret
      exact ⟨rfl, ext_trans HX7.out (Below.alloc (Below.refl _ _) (Nat.le_refl _) _)⟩
    | true =>
      obtain ⟨l1, l2⟩ := HLE.out (by first | trivial | rfl)
      simp only [if_true] at HRL ⊢
      obtain ⟨d0, d1, d2, d3, d4⟩ := cells5 HB3.out
      have hv : rdV ln = .tuple #[.agg #[.int .u64 (n : Int), .int .u64 (tk : Int), Str kind, .int .i64 conn, Str text], .int .i64 0] := by rw [rdV, l2]; rfl
      have HC1 := Lib.hid (fun W hx => cread_any ln (by omega) W (HLb.out.ext hx))
      rw [hv] at HC1
      clear l2 hv hR HLE
      go_wp2_with fail
      refine (HRL.out W3).mono ?_
      rintro e W4 ⟨rfl, hx4⟩
      have HX4 := Lib.hid (ext_trans HX3.out hx4)
      have HB4 := Lib.hid (ext_at hx4 HB3.out)
      clear hx4 HX3 HB3 d0 d1 d2 d3 d4 HRL
      go_wp2_with fail
      refine (HC1.out _ HX4.out).mono ?_
      rintro e W5 ⟨rfl, hx5⟩
      have HX5 := Lib.hid (ext_trans HX4.out hx5)
      have HB5 := Lib.hid (ext_at hx5 HB4.out)
      have hlt := (Array.getElem?_eq_some_iff.1 HB5.out).1
      clear hx5 HX4 HB4 HC1
      obtain ⟨d0, d1, d2, d3, d4⟩ := cells5 HB5.out
      have HCR := Lib.hid (fun W hx => cread_any s (by omega) W (HLb.out.ext hx))
      have HRR := Lib.hid (rread_any s (by omega))
      go_wp2_with fail
      refine (HCR.out _ (ext_trans HX5.out (Below.alloc (Below.refl _ _) (Nat.le_refl _) _))).mono ?_
      rintro e W6 ⟨rfl, hx6⟩
      rw [hrv]
      clear HCR
      go_wp2_with fail
      obtain ⟨W6a, hW6a⟩ : ∃ W6a, W6.alloc (.cells #[.int .u64 (xn : Int), .int .u64 (xk : Int), Str xkind, .int .i64 xconn, Str xtext] 37) = W6a := ⟨_, rfl⟩
      have hx6a : Ext W6 W6a := by rw [← hW6a]; exact Below.alloc (Below.refl _ _) (Nat.le_refl _) _
      have hb6a : W6a.heap[W6.heap.size]? = some (.cells #[.int .u64 (xn : Int), .int .u64 (xk : Int), Str xkind, .int .i64 xconn, Str xtext] 37 (0, 0)) := by rw [← hW6a]; exact Array.getElem?_push_size
      rw [show W6.alloc (.cells #[.int .u64 (xn : Int), .int .u64 (xk : Int), .string ⟨xkind.toArray⟩, .int .i64 xconn, .string ⟨xtext.toArray⟩] 37) = W6a from hW6a]
      refine (HRR.out W6a).mono ?_
      rintro e W7 ⟨rfl, hx7⟩
      rw [hrv]
      have HX7 := Lib.hid (ext_trans (ext_trans (ext_trans HX5.out (Below.alloc (Below.refl _ _) (Nat.le_refl _) _)) hx6) (ext_trans hx6a hx7))
      have hb7 := ext_at hx7 hb6a
      have hlt7 := (Array.getElem?_eq_some_iff.1 hb7).1
      clear HRR hrv hW6a hx6a hb6a hx7 hx6
      obtain ⟨k0, k1, k2, k3, k4⟩ := cells5 hb7
      clear hb7
      go_wp2
      go_ret
      exact ⟨rfl, ext_trans HX7.out (Below.alloc (Below.refl _ _) (Nat.le_refl _) _)⟩
end Go.Proofs.YtpndahmlbjhdfaaDoor
