/-
  The law's parse of the four kinds, by what the parser answers.
-/
import Derived.Deep.CutBlock
import Derived.Test.YteickmohloglhaaGreatDoorRows
import Derived.Test.YteickmohloglhaaGreatDoorPlo
namespace Go.Proofs.YteickmohloglhaaGreatDoor
open Go.RowKit
set_option maxRecDepth 100000
attribute [local go_sem] Oper.semAt_some
set_option linter.unusedVariables false
set_option linter.unusedSimpArgs false
/-- A message of the document, of whatever fields. -/
def MsgV (v : Value) : Prop := ∃ (k : Int) (f a u n : List UInt8) (x1 : Option Addr) (x2 x3 : Nat) (y1 : Option Addr) (y2 y3 : Nat) (i : Int) (h : List UInt8) (z1 : Option Addr) (z2 z3 : Nat) (c : List UInt8),
  v = .agg #[.int .i64 k, Str f, Str a, Str u, Str n, .slice x1 x2 x3, .slice y1 y2 y3, .int .i64 i, Str h, .slice z1 z2 z3, Str c]
set_option maxHeartbeats 4000000 in
theorem set11 {W w : World} {t : Nat} {z0 z1 z2 z3 z4 z5 z6 z7 z8 z9 z10 : Value} (h : W.heap[w.heap.size]? = some (.cells #[z0, z1, z2, z3, z4, z5, z6, z7, z8, z9, z10] t (0, 0))) (hb : Below w.heap.size w W) (u0 u1 u2 u3 u4 u5 u6 u7 u8 u9 u10 : Value) :
    ∃ Z, ((((((((((W.setCell ⟨w.heap.size, 0, none⟩ u0).setCell ⟨w.heap.size, 1, none⟩ u1).setCell ⟨w.heap.size, 2, none⟩ u2).setCell ⟨w.heap.size, 3, none⟩ u3).setCell ⟨w.heap.size, 4, none⟩ u4).setCell ⟨w.heap.size, 5, none⟩ u5).setCell ⟨w.heap.size, 6, none⟩ u6).setCell ⟨w.heap.size, 7, none⟩ u7).setCell ⟨w.heap.size, 8, none⟩ u8).setCell ⟨w.heap.size, 9, none⟩ u9).setCell ⟨w.heap.size, 10, none⟩ u10 = Z ∧ Z.heap[w.heap.size]? = some (.cells #[u0, u1, u2, u3, u4, u5, u6, u7, u8, u9, u10] t (0, 0)) ∧ Ext w Z := by
  have hZ := set_at (j := 10) (u := u10) (set_at (j := 9) (u := u9) (set_at (j := 8) (u := u8) (set_at (j := 7) (u := u7) (set_at (j := 6) (u := u6) (set_at (j := 5) (u := u5) (set_at (j := 4) (u := u4) (set_at (j := 3) (u := u3) (set_at (j := 2) (u := u2) (set_at (j := 1) (u := u1) (set_at (j := 0) (u := u0) h))))))))))
  refine ⟨_, rfl, ?_, Below.setCell (Below.setCell (Below.setCell (Below.setCell (Below.setCell (Below.setCell (Below.setCell (Below.setCell (Below.setCell (Below.setCell (Below.setCell hb (Nat.le_refl _) _) (Nat.le_refl _) _) (Nat.le_refl _) _) (Nat.le_refl _) _) (Nat.le_refl _) _) (Nat.le_refl _) _) (Nat.le_refl _) _) (Nat.le_refl _) _) (Nat.le_refl _) _) (Nat.le_refl _) _) (Nat.le_refl _) _⟩
  rw [hZ]
  simp
theorem cells_at {Z : World} {s : Nat} {c : Array Value} {t : TypeId} (h : Z.heap[s]? = some (.cells c t (0, 0))) (j : Nat) (u : Value) (hj : c[j]? = some u) : Z.cell? ⟨s, j, none⟩ = some u ∧ Z.frozen? ⟨s, j, none⟩ = false := by
  refine ⟨?_, by simp [World.frozen?, h]⟩
  simp only [World.cell?, h]; exact hj
set_option maxHeartbeats 4000000 in
theorem parse_1 (s : List UInt8) (code : Int) (hcode : code = 0 ∨ code = 3) (w : World) (H : ∀ W, Ext w W → Calls Tryz.prog 7 #[Str s] W fun e w' => (∃ (a0 a1 a2 a3 : List UInt8) (x : Option Addr) (y z : Nat), e = .returned (.tuple #[.agg #[Str a0, Str a1, Str a2, Str a3, .slice x y z], .int .i64 code])) ∧ Ext W w') :
    Calls Tryz.prog 6 #[.int .i64 1, Str s] w fun e w' => (∃ v, e = .returned (.tuple #[v, .int .i64 code]) ∧ MsgV v) ∧ Ext w w' := by
  have HH := Lib.hid H
  clear H
  go_enter Tryz.func6, Tryz.ntmps6
  obtain ⟨W0, hW0⟩ : ∃ W0, w.alloc (.cells #[.int .i64 0, .string ⟨#[]⟩, .string ⟨#[]⟩, .string ⟨#[]⟩, .string ⟨#[]⟩, .slice none 0 0, .slice none 0 0, .int .i64 0, .string ⟨#[]⟩, .slice none 0 0, .string ⟨#[]⟩] 28) = W0 := ⟨_, rfl⟩
  have x0 : Ext w W0 := by rw [← hW0]; exact Below.alloc (Below.refl _ _) (Nat.le_refl _) _
  have r0 : W0.heap[w.heap.size]? = some (.cells #[.int .i64 0, .string ⟨#[]⟩, .string ⟨#[]⟩, .string ⟨#[]⟩, .string ⟨#[]⟩, .slice none 0 0, .slice none 0 0, .int .i64 0, .string ⟨#[]⟩, .slice none 0 0, .string ⟨#[]⟩] 28 (0, 0)) := by rw [← hW0]; exact Array.getElem?_push_size
  have HX0 := Lib.hid x0; have HR0 := Lib.hid r0
  clear x0 r0
  go_wp2_with fail
  clear hW0
  refine (HH.out W0 HX0.out).mono ?_
  rintro e W1 ⟨⟨a0, a1, a2, a3, x, y, z, rfl⟩, hx⟩
  have hx1 := ext_trans HX0.out hx
  have hr1 := ext_at hx HR0.out
  clear hx HX0 HR0
  have zs : w.heap.size < W1.heap.size := (Array.getElem?_eq_some_iff.1 hr1).1
  obtain ⟨W2, hW2⟩ : ∃ W2, W1.alloc (.cells #[Str a0, Str a1, Str a2, Str a3, .slice x y z] 34) = W2 := ⟨_, rfl⟩
  have hx2 : Ext W1 W2 := by rw [← hW2]; exact Below.alloc (Below.refl _ _) (Nat.le_refl _) _
  have hm2 : W2.heap[W1.heap.size]? = some (.cells #[Str a0, Str a1, Str a2, Str a3, .slice x y z] 34 (0, 0)) := by rw [← hW2]; exact Array.getElem?_push_size
  obtain ⟨m0, -⟩ := cells_at hm2 0 _ rfl
  obtain ⟨m1, -⟩ := cells_at hm2 1 _ rfl
  obtain ⟨m2, -⟩ := cells_at hm2 2 _ rfl
  obtain ⟨m3, -⟩ := cells_at hm2 3 _ rfl
  obtain ⟨m4, -⟩ := cells_at hm2 4 _ rfl
  go_upto_region 5 with fail
  clear hW2
  obtain ⟨W3, hW3⟩ : ∃ W3, W2.alloc (.cells #[.int .i64 0, Str a0, Str a1, Str a2, Str a3, .slice x y z, .slice none 0 0, .int .i64 0, .string ⟨#[]⟩, .slice none 0 0, .string ⟨#[]⟩] 28) = W3 := ⟨_, rfl⟩
  have hx3 : Ext W2 W3 := by rw [← hW3]; exact Below.alloc (Below.refl _ _) (Nat.le_refl _) _
  have hb3 : W3.heap[W2.heap.size]? = some (.cells #[.int .i64 0, Str a0, Str a1, Str a2, Str a3, .slice x y z, .slice none 0 0, .int .i64 0, .string ⟨#[]⟩, .slice none 0 0, .string ⟨#[]⟩] 28 (0, 0)) := by rw [← hW3]; exact Array.getElem?_push_size
  have hr3 := ext_at (ext_trans hx2 hx3) hr1
  have hbel3 : Below w.heap.size w W3 := ext_trans hx1 (ext_trans hx2 hx3)
  have hne : w.heap.size ≠ W2.heap.size := by have := hx2.size; omega
  have hle : w.heap.size ≤ W2.heap.size := by have := hx2.size; omega
  clear hx1 hr1 hx2 hm2 hx3
  rw [hW3]
  clear hW3
  rcases hcode with rfl | rfl
  · obtain ⟨y0, y1⟩ := cells_at hb3 0 _ rfl
    obtain ⟨W4, hW4⟩ : ∃ W4, W3.setCell ⟨W2.heap.size, 0, none⟩ (.int .i64 1) = W4 := ⟨_, rfl⟩
    have hb4 : W4.heap[W2.heap.size]? = some (.cells #[.int .i64 1, Str a0, Str a1, Str a2, Str a3, .slice x y z, .slice none 0 0, .int .i64 0, .string ⟨#[]⟩, .slice none 0 0, .string ⟨#[]⟩] 28 (0, 0)) := by rw [← hW4]; exact set_at (j := 0) (u := .int .i64 1) hb3
    have hr4 : W4.heap[w.heap.size]? = some (.cells #[.int .i64 0, .string ⟨#[]⟩, .string ⟨#[]⟩, .string ⟨#[]⟩, .string ⟨#[]⟩, .slice none 0 0, .slice none 0 0, .int .i64 0, .string ⟨#[]⟩, .slice none 0 0, .string ⟨#[]⟩] 28 (0, 0)) := by rw [← hW4]; exact ((Bz.set W3 W2.heap.size 0 _).block _ (Array.getElem?_eq_some_iff.1 hr3).1 hne).trans hr3
    have hbel4 : Below w.heap.size w W4 := by rw [← hW4]; exact Below.setCell hbel3 hle _
    obtain ⟨b0, -⟩ := cells_at hb4 0 _ rfl
    obtain ⟨r0, s0⟩ := cells_at hr4 0 _ rfl
    obtain ⟨b1, -⟩ := cells_at hb4 1 _ rfl
    obtain ⟨r1, s1⟩ := cells_at hr4 1 _ rfl
    obtain ⟨b2, -⟩ := cells_at hb4 2 _ rfl
    obtain ⟨r2, s2⟩ := cells_at hr4 2 _ rfl
    obtain ⟨b3, -⟩ := cells_at hb4 3 _ rfl
    obtain ⟨r3, s3⟩ := cells_at hr4 3 _ rfl
    obtain ⟨b4, -⟩ := cells_at hb4 4 _ rfl
    obtain ⟨r4, s4⟩ := cells_at hr4 4 _ rfl
    obtain ⟨b5, -⟩ := cells_at hb4 5 _ rfl
    obtain ⟨r5, s5⟩ := cells_at hr4 5 _ rfl
    obtain ⟨b6, -⟩ := cells_at hb4 6 _ rfl
    obtain ⟨r6, s6⟩ := cells_at hr4 6 _ rfl
    obtain ⟨b7, -⟩ := cells_at hb4 7 _ rfl
    obtain ⟨r7, s7⟩ := cells_at hr4 7 _ rfl
    obtain ⟨b8, -⟩ := cells_at hb4 8 _ rfl
    obtain ⟨r8, s8⟩ := cells_at hr4 8 _ rfl
    obtain ⟨b9, -⟩ := cells_at hb4 9 _ rfl
    obtain ⟨r9, s9⟩ := cells_at hr4 9 _ rfl
    obtain ⟨b10, -⟩ := cells_at hb4 10 _ rfl
    obtain ⟨r10, s10⟩ := cells_at hr4 10 _ rfl
    have HR4 := Lib.hid hr4; have HB4 := Lib.hid hbel4
    clear hr4 hb4 hbel4 hr3 hb3 hbel3
    go_wp2
    obtain ⟨Z, hZ, hcl, hX⟩ := set11 HR4.out HB4.out (.int .i64 1) (Str a0) (Str a1) (Str a2) (Str a3) (.slice x y z) (.slice none 0 0) (.int .i64 0) (.string ⟨#[]⟩) (.slice none 0 0) (.string ⟨#[]⟩)
    rw [hZ]
    obtain ⟨d0, -⟩ := cells_at hcl 0 _ rfl
    obtain ⟨d1, -⟩ := cells_at hcl 1 _ rfl
    obtain ⟨d2, -⟩ := cells_at hcl 2 _ rfl
    obtain ⟨d3, -⟩ := cells_at hcl 3 _ rfl
    obtain ⟨d4, -⟩ := cells_at hcl 4 _ rfl
    obtain ⟨d5, -⟩ := cells_at hcl 5 _ rfl
    obtain ⟨d6, -⟩ := cells_at hcl 6 _ rfl
    obtain ⟨d7, -⟩ := cells_at hcl 7 _ rfl
    obtain ⟨d8, -⟩ := cells_at hcl 8 _ rfl
    obtain ⟨d9, -⟩ := cells_at hcl 9 _ rfl
    obtain ⟨d10, -⟩ := cells_at hcl 10 _ rfl
    refine bodyPost_ret (v := .tuple #[.agg #[.int .i64 1, Str a0, Str a1, Str a2, Str a3, .slice x y z, .slice none 0 0, .int .i64 0, Str [], .slice none 0 0, Str []], .int .i64 0]) ?_ rfl ⟨⟨_, rfl, ⟨_, _, _, _, _, _, _, _, _, _, _, _, _, _, _, _, _, rfl⟩⟩, hX⟩
    clear b0 b1 b2 b3 b4 b5 b6 b7 b8 b9 b10 r0 r1 r2 r3 r4 r5 r6 r7 r8 r9 r10 s0 s1 s2 s3 s4 s5 s6 s7 s8 s9 s10
    simp [results, loadVar, loadCells, Tryz.isAgg28, Tryz.sizeOf28, Tryz.results6, go_sem, Str, d0, d1, d2, d3, d4, d5, d6, d7, d8, d9, d10]
  · have hb4 := hb3; have hr4 := hr3; have hbel4 := hbel3
    obtain ⟨b0, -⟩ := cells_at hb4 0 _ rfl
    obtain ⟨r0, s0⟩ := cells_at hr4 0 _ rfl
    obtain ⟨b1, -⟩ := cells_at hb4 1 _ rfl
    obtain ⟨r1, s1⟩ := cells_at hr4 1 _ rfl
    obtain ⟨b2, -⟩ := cells_at hb4 2 _ rfl
    obtain ⟨r2, s2⟩ := cells_at hr4 2 _ rfl
    obtain ⟨b3, -⟩ := cells_at hb4 3 _ rfl
    obtain ⟨r3, s3⟩ := cells_at hr4 3 _ rfl
    obtain ⟨b4, -⟩ := cells_at hb4 4 _ rfl
    obtain ⟨r4, s4⟩ := cells_at hr4 4 _ rfl
    obtain ⟨b5, -⟩ := cells_at hb4 5 _ rfl
    obtain ⟨r5, s5⟩ := cells_at hr4 5 _ rfl
    obtain ⟨b6, -⟩ := cells_at hb4 6 _ rfl
    obtain ⟨r6, s6⟩ := cells_at hr4 6 _ rfl
    obtain ⟨b7, -⟩ := cells_at hb4 7 _ rfl
    obtain ⟨r7, s7⟩ := cells_at hr4 7 _ rfl
    obtain ⟨b8, -⟩ := cells_at hb4 8 _ rfl
    obtain ⟨r8, s8⟩ := cells_at hr4 8 _ rfl
    obtain ⟨b9, -⟩ := cells_at hb4 9 _ rfl
    obtain ⟨r9, s9⟩ := cells_at hr4 9 _ rfl
    obtain ⟨b10, -⟩ := cells_at hb4 10 _ rfl
    obtain ⟨r10, s10⟩ := cells_at hr4 10 _ rfl
    have HR4 := Lib.hid hr4; have HB4 := Lib.hid hbel4
    clear hr4 hb4 hbel4 hr3 hb3 hbel3
    go_wp2
    obtain ⟨Z, hZ, hcl, hX⟩ := set11 HR4.out HB4.out (.int .i64 0) (Str a0) (Str a1) (Str a2) (Str a3) (.slice x y z) (.slice none 0 0) (.int .i64 0) (.string ⟨#[]⟩) (.slice none 0 0) (.string ⟨#[]⟩)
    rw [hZ]
    obtain ⟨d0, -⟩ := cells_at hcl 0 _ rfl
    obtain ⟨d1, -⟩ := cells_at hcl 1 _ rfl
    obtain ⟨d2, -⟩ := cells_at hcl 2 _ rfl
    obtain ⟨d3, -⟩ := cells_at hcl 3 _ rfl
    obtain ⟨d4, -⟩ := cells_at hcl 4 _ rfl
    obtain ⟨d5, -⟩ := cells_at hcl 5 _ rfl
    obtain ⟨d6, -⟩ := cells_at hcl 6 _ rfl
    obtain ⟨d7, -⟩ := cells_at hcl 7 _ rfl
    obtain ⟨d8, -⟩ := cells_at hcl 8 _ rfl
    obtain ⟨d9, -⟩ := cells_at hcl 9 _ rfl
    obtain ⟨d10, -⟩ := cells_at hcl 10 _ rfl
    refine bodyPost_ret (v := .tuple #[.agg #[.int .i64 0, Str a0, Str a1, Str a2, Str a3, .slice x y z, .slice none 0 0, .int .i64 0, Str [], .slice none 0 0, Str []], .int .i64 3]) ?_ rfl ⟨⟨_, rfl, ⟨_, _, _, _, _, _, _, _, _, _, _, _, _, _, _, _, _, rfl⟩⟩, hX⟩
    clear b0 b1 b2 b3 b4 b5 b6 b7 b8 b9 b10 r0 r1 r2 r3 r4 r5 r6 r7 r8 r9 r10 s0 s1 s2 s3 s4 s5 s6 s7 s8 s9 s10
    simp [results, loadVar, loadCells, Tryz.isAgg28, Tryz.sizeOf28, Tryz.results6, go_sem, Str, d0, d1, d2, d3, d4, d5, d6, d7, d8, d9, d10]
set_option maxHeartbeats 4000000 in
theorem parse_2 (s : List UInt8) (code : Int) (hcode : code = 0 ∨ code = 3) (w : World) (H : ∀ W, Ext w W → Calls Tryz.prog 11 #[Str s] W fun e w' => (∃ (a0 : List UInt8) (x : Option Addr) (y z : Nat) (i : Int) (x2 : Option Addr) (y2 z2 : Nat), e = .returned (.tuple #[.agg #[Str a0, .slice x y z, .int .i64 i, .slice x2 y2 z2], .int .i64 code])) ∧ Ext W w') :
    Calls Tryz.prog 6 #[.int .i64 2, Str s] w fun e w' => (∃ v, e = .returned (.tuple #[v, .int .i64 code]) ∧ MsgV v) ∧ Ext w w' := by
  have HH := Lib.hid H
  clear H
  go_enter Tryz.func6, Tryz.ntmps6
  obtain ⟨W0, hW0⟩ : ∃ W0, w.alloc (.cells #[.int .i64 0, .string ⟨#[]⟩, .string ⟨#[]⟩, .string ⟨#[]⟩, .string ⟨#[]⟩, .slice none 0 0, .slice none 0 0, .int .i64 0, .string ⟨#[]⟩, .slice none 0 0, .string ⟨#[]⟩] 28) = W0 := ⟨_, rfl⟩
  have x0 : Ext w W0 := by rw [← hW0]; exact Below.alloc (Below.refl _ _) (Nat.le_refl _) _
  have r0 : W0.heap[w.heap.size]? = some (.cells #[.int .i64 0, .string ⟨#[]⟩, .string ⟨#[]⟩, .string ⟨#[]⟩, .string ⟨#[]⟩, .slice none 0 0, .slice none 0 0, .int .i64 0, .string ⟨#[]⟩, .slice none 0 0, .string ⟨#[]⟩] 28 (0, 0)) := by rw [← hW0]; exact Array.getElem?_push_size
  have HX0 := Lib.hid x0; have HR0 := Lib.hid r0
  clear x0 r0
  go_wp2_with fail
  clear hW0
  refine (HH.out W0 HX0.out).mono ?_
  rintro e W1 ⟨⟨a0, x, y, z, i, x2, y2, z2, rfl⟩, hx⟩
  have hx1 := ext_trans HX0.out hx
  have hr1 := ext_at hx HR0.out
  clear hx HX0 HR0
  have zs : w.heap.size < W1.heap.size := (Array.getElem?_eq_some_iff.1 hr1).1
  obtain ⟨W2, hW2⟩ : ∃ W2, W1.alloc (.cells #[Str a0, .slice x y z, .int .i64 i, .slice x2 y2 z2] 42) = W2 := ⟨_, rfl⟩
  have hx2 : Ext W1 W2 := by rw [← hW2]; exact Below.alloc (Below.refl _ _) (Nat.le_refl _) _
  have hm2 : W2.heap[W1.heap.size]? = some (.cells #[Str a0, .slice x y z, .int .i64 i, .slice x2 y2 z2] 42 (0, 0)) := by rw [← hW2]; exact Array.getElem?_push_size
  obtain ⟨m0, -⟩ := cells_at hm2 0 _ rfl
  obtain ⟨m1, -⟩ := cells_at hm2 1 _ rfl
  obtain ⟨m2, -⟩ := cells_at hm2 2 _ rfl
  obtain ⟨m3, -⟩ := cells_at hm2 3 _ rfl
  go_upto_region 11 with fail
  clear hW2
  obtain ⟨W3, hW3⟩ : ∃ W3, W2.alloc (.cells #[.int .i64 0, .string ⟨#[]⟩, .string ⟨#[]⟩, .string ⟨#[]⟩, Str a0, .slice x2 y2 z2, .slice x y z, .int .i64 i, .string ⟨#[]⟩, .slice none 0 0, .string ⟨#[]⟩] 28) = W3 := ⟨_, rfl⟩
  have hx3 : Ext W2 W3 := by rw [← hW3]; exact Below.alloc (Below.refl _ _) (Nat.le_refl _) _
  have hb3 : W3.heap[W2.heap.size]? = some (.cells #[.int .i64 0, .string ⟨#[]⟩, .string ⟨#[]⟩, .string ⟨#[]⟩, Str a0, .slice x2 y2 z2, .slice x y z, .int .i64 i, .string ⟨#[]⟩, .slice none 0 0, .string ⟨#[]⟩] 28 (0, 0)) := by rw [← hW3]; exact Array.getElem?_push_size
  have hr3 := ext_at (ext_trans hx2 hx3) hr1
  have hbel3 : Below w.heap.size w W3 := ext_trans hx1 (ext_trans hx2 hx3)
  have hne : w.heap.size ≠ W2.heap.size := by have := hx2.size; omega
  have hle : w.heap.size ≤ W2.heap.size := by have := hx2.size; omega
  clear hx1 hr1 hx2 hm2 hx3
  rw [hW3]
  clear hW3
  rcases hcode with rfl | rfl
  · obtain ⟨y0, y1⟩ := cells_at hb3 0 _ rfl
    obtain ⟨W4, hW4⟩ : ∃ W4, W3.setCell ⟨W2.heap.size, 0, none⟩ (.int .i64 2) = W4 := ⟨_, rfl⟩
    have hb4 : W4.heap[W2.heap.size]? = some (.cells #[.int .i64 2, .string ⟨#[]⟩, .string ⟨#[]⟩, .string ⟨#[]⟩, Str a0, .slice x2 y2 z2, .slice x y z, .int .i64 i, .string ⟨#[]⟩, .slice none 0 0, .string ⟨#[]⟩] 28 (0, 0)) := by rw [← hW4]; exact set_at (j := 0) (u := .int .i64 2) hb3
    have hr4 : W4.heap[w.heap.size]? = some (.cells #[.int .i64 0, .string ⟨#[]⟩, .string ⟨#[]⟩, .string ⟨#[]⟩, .string ⟨#[]⟩, .slice none 0 0, .slice none 0 0, .int .i64 0, .string ⟨#[]⟩, .slice none 0 0, .string ⟨#[]⟩] 28 (0, 0)) := by rw [← hW4]; exact ((Bz.set W3 W2.heap.size 0 _).block _ (Array.getElem?_eq_some_iff.1 hr3).1 hne).trans hr3
    have hbel4 : Below w.heap.size w W4 := by rw [← hW4]; exact Below.setCell hbel3 hle _
    obtain ⟨b0, -⟩ := cells_at hb4 0 _ rfl
    obtain ⟨r0, s0⟩ := cells_at hr4 0 _ rfl
    obtain ⟨b1, -⟩ := cells_at hb4 1 _ rfl
    obtain ⟨r1, s1⟩ := cells_at hr4 1 _ rfl
    obtain ⟨b2, -⟩ := cells_at hb4 2 _ rfl
    obtain ⟨r2, s2⟩ := cells_at hr4 2 _ rfl
    obtain ⟨b3, -⟩ := cells_at hb4 3 _ rfl
    obtain ⟨r3, s3⟩ := cells_at hr4 3 _ rfl
    obtain ⟨b4, -⟩ := cells_at hb4 4 _ rfl
    obtain ⟨r4, s4⟩ := cells_at hr4 4 _ rfl
    obtain ⟨b5, -⟩ := cells_at hb4 5 _ rfl
    obtain ⟨r5, s5⟩ := cells_at hr4 5 _ rfl
    obtain ⟨b6, -⟩ := cells_at hb4 6 _ rfl
    obtain ⟨r6, s6⟩ := cells_at hr4 6 _ rfl
    obtain ⟨b7, -⟩ := cells_at hb4 7 _ rfl
    obtain ⟨r7, s7⟩ := cells_at hr4 7 _ rfl
    obtain ⟨b8, -⟩ := cells_at hb4 8 _ rfl
    obtain ⟨r8, s8⟩ := cells_at hr4 8 _ rfl
    obtain ⟨b9, -⟩ := cells_at hb4 9 _ rfl
    obtain ⟨r9, s9⟩ := cells_at hr4 9 _ rfl
    obtain ⟨b10, -⟩ := cells_at hb4 10 _ rfl
    obtain ⟨r10, s10⟩ := cells_at hr4 10 _ rfl
    have HR4 := Lib.hid hr4; have HB4 := Lib.hid hbel4
    clear hr4 hb4 hbel4 hr3 hb3 hbel3
    go_wp2
    obtain ⟨Z, hZ, hcl, hX⟩ := set11 HR4.out HB4.out (.int .i64 2) (.string ⟨#[]⟩) (.string ⟨#[]⟩) (.string ⟨#[]⟩) (Str a0) (.slice x2 y2 z2) (.slice x y z) (.int .i64 i) (.string ⟨#[]⟩) (.slice none 0 0) (.string ⟨#[]⟩)
    rw [hZ]
    obtain ⟨d0, -⟩ := cells_at hcl 0 _ rfl
    obtain ⟨d1, -⟩ := cells_at hcl 1 _ rfl
    obtain ⟨d2, -⟩ := cells_at hcl 2 _ rfl
    obtain ⟨d3, -⟩ := cells_at hcl 3 _ rfl
    obtain ⟨d4, -⟩ := cells_at hcl 4 _ rfl
    obtain ⟨d5, -⟩ := cells_at hcl 5 _ rfl
    obtain ⟨d6, -⟩ := cells_at hcl 6 _ rfl
    obtain ⟨d7, -⟩ := cells_at hcl 7 _ rfl
    obtain ⟨d8, -⟩ := cells_at hcl 8 _ rfl
    obtain ⟨d9, -⟩ := cells_at hcl 9 _ rfl
    obtain ⟨d10, -⟩ := cells_at hcl 10 _ rfl
    refine bodyPost_ret (v := .tuple #[.agg #[.int .i64 2, Str [], Str [], Str [], Str a0, .slice x2 y2 z2, .slice x y z, .int .i64 i, Str [], .slice none 0 0, Str []], .int .i64 0]) ?_ rfl ⟨⟨_, rfl, ⟨_, _, _, _, _, _, _, _, _, _, _, _, _, _, _, _, _, rfl⟩⟩, hX⟩
    clear b0 b1 b2 b3 b4 b5 b6 b7 b8 b9 b10 r0 r1 r2 r3 r4 r5 r6 r7 r8 r9 r10 s0 s1 s2 s3 s4 s5 s6 s7 s8 s9 s10
    simp [results, loadVar, loadCells, Tryz.isAgg28, Tryz.sizeOf28, Tryz.results6, go_sem, Str, d0, d1, d2, d3, d4, d5, d6, d7, d8, d9, d10]
  · have hb4 := hb3; have hr4 := hr3; have hbel4 := hbel3
    obtain ⟨b0, -⟩ := cells_at hb4 0 _ rfl
    obtain ⟨r0, s0⟩ := cells_at hr4 0 _ rfl
    obtain ⟨b1, -⟩ := cells_at hb4 1 _ rfl
    obtain ⟨r1, s1⟩ := cells_at hr4 1 _ rfl
    obtain ⟨b2, -⟩ := cells_at hb4 2 _ rfl
    obtain ⟨r2, s2⟩ := cells_at hr4 2 _ rfl
    obtain ⟨b3, -⟩ := cells_at hb4 3 _ rfl
    obtain ⟨r3, s3⟩ := cells_at hr4 3 _ rfl
    obtain ⟨b4, -⟩ := cells_at hb4 4 _ rfl
    obtain ⟨r4, s4⟩ := cells_at hr4 4 _ rfl
    obtain ⟨b5, -⟩ := cells_at hb4 5 _ rfl
    obtain ⟨r5, s5⟩ := cells_at hr4 5 _ rfl
    obtain ⟨b6, -⟩ := cells_at hb4 6 _ rfl
    obtain ⟨r6, s6⟩ := cells_at hr4 6 _ rfl
    obtain ⟨b7, -⟩ := cells_at hb4 7 _ rfl
    obtain ⟨r7, s7⟩ := cells_at hr4 7 _ rfl
    obtain ⟨b8, -⟩ := cells_at hb4 8 _ rfl
    obtain ⟨r8, s8⟩ := cells_at hr4 8 _ rfl
    obtain ⟨b9, -⟩ := cells_at hb4 9 _ rfl
    obtain ⟨r9, s9⟩ := cells_at hr4 9 _ rfl
    obtain ⟨b10, -⟩ := cells_at hb4 10 _ rfl
    obtain ⟨r10, s10⟩ := cells_at hr4 10 _ rfl
    have HR4 := Lib.hid hr4; have HB4 := Lib.hid hbel4
    clear hr4 hb4 hbel4 hr3 hb3 hbel3
    go_wp2
    obtain ⟨Z, hZ, hcl, hX⟩ := set11 HR4.out HB4.out (.int .i64 0) (.string ⟨#[]⟩) (.string ⟨#[]⟩) (.string ⟨#[]⟩) (Str a0) (.slice x2 y2 z2) (.slice x y z) (.int .i64 i) (.string ⟨#[]⟩) (.slice none 0 0) (.string ⟨#[]⟩)
    rw [hZ]
    obtain ⟨d0, -⟩ := cells_at hcl 0 _ rfl
    obtain ⟨d1, -⟩ := cells_at hcl 1 _ rfl
    obtain ⟨d2, -⟩ := cells_at hcl 2 _ rfl
    obtain ⟨d3, -⟩ := cells_at hcl 3 _ rfl
    obtain ⟨d4, -⟩ := cells_at hcl 4 _ rfl
    obtain ⟨d5, -⟩ := cells_at hcl 5 _ rfl
    obtain ⟨d6, -⟩ := cells_at hcl 6 _ rfl
    obtain ⟨d7, -⟩ := cells_at hcl 7 _ rfl
    obtain ⟨d8, -⟩ := cells_at hcl 8 _ rfl
    obtain ⟨d9, -⟩ := cells_at hcl 9 _ rfl
    obtain ⟨d10, -⟩ := cells_at hcl 10 _ rfl
    refine bodyPost_ret (v := .tuple #[.agg #[.int .i64 0, Str [], Str [], Str [], Str a0, .slice x2 y2 z2, .slice x y z, .int .i64 i, Str [], .slice none 0 0, Str []], .int .i64 3]) ?_ rfl ⟨⟨_, rfl, ⟨_, _, _, _, _, _, _, _, _, _, _, _, _, _, _, _, _, rfl⟩⟩, hX⟩
    clear b0 b1 b2 b3 b4 b5 b6 b7 b8 b9 b10 r0 r1 r2 r3 r4 r5 r6 r7 r8 r9 r10 s0 s1 s2 s3 s4 s5 s6 s7 s8 s9 s10
    simp [results, loadVar, loadCells, Tryz.isAgg28, Tryz.sizeOf28, Tryz.results6, go_sem, Str, d0, d1, d2, d3, d4, d5, d6, d7, d8, d9, d10]
set_option maxHeartbeats 4000000 in
theorem parse_3 (s : List UInt8) (code : Int) (hcode : code = 0 ∨ code = 3) (w : World) (H : ∀ W, Ext w W → Calls Tryz.prog 12 #[Str s] W fun e w' => (∃ (a0 a1 : List UInt8) (x : Option Addr) (y z : Nat) (x2 : Option Addr) (y2 z2 : Nat), e = .returned (.tuple #[.agg #[Str a0, Str a1, .slice x y z, .slice x2 y2 z2], .int .i64 code])) ∧ Ext W w') :
    Calls Tryz.prog 6 #[.int .i64 3, Str s] w fun e w' => (∃ v, e = .returned (.tuple #[v, .int .i64 code]) ∧ MsgV v) ∧ Ext w w' := by
  have HH := Lib.hid H
  clear H
  go_enter Tryz.func6, Tryz.ntmps6
  obtain ⟨W0, hW0⟩ : ∃ W0, w.alloc (.cells #[.int .i64 0, .string ⟨#[]⟩, .string ⟨#[]⟩, .string ⟨#[]⟩, .string ⟨#[]⟩, .slice none 0 0, .slice none 0 0, .int .i64 0, .string ⟨#[]⟩, .slice none 0 0, .string ⟨#[]⟩] 28) = W0 := ⟨_, rfl⟩
  have x0 : Ext w W0 := by rw [← hW0]; exact Below.alloc (Below.refl _ _) (Nat.le_refl _) _
  have r0 : W0.heap[w.heap.size]? = some (.cells #[.int .i64 0, .string ⟨#[]⟩, .string ⟨#[]⟩, .string ⟨#[]⟩, .string ⟨#[]⟩, .slice none 0 0, .slice none 0 0, .int .i64 0, .string ⟨#[]⟩, .slice none 0 0, .string ⟨#[]⟩] 28 (0, 0)) := by rw [← hW0]; exact Array.getElem?_push_size
  have HX0 := Lib.hid x0; have HR0 := Lib.hid r0
  clear x0 r0
  go_wp2_with fail
  clear hW0
  refine (HH.out W0 HX0.out).mono ?_
  rintro e W1 ⟨⟨a0, a1, x, y, z, x2, y2, z2, rfl⟩, hx⟩
  have hx1 := ext_trans HX0.out hx
  have hr1 := ext_at hx HR0.out
  clear hx HX0 HR0
  have zs : w.heap.size < W1.heap.size := (Array.getElem?_eq_some_iff.1 hr1).1
  obtain ⟨W2, hW2⟩ : ∃ W2, W1.alloc (.cells #[Str a0, Str a1, .slice x y z, .slice x2 y2 z2] 46) = W2 := ⟨_, rfl⟩
  have hx2 : Ext W1 W2 := by rw [← hW2]; exact Below.alloc (Below.refl _ _) (Nat.le_refl _) _
  have hm2 : W2.heap[W1.heap.size]? = some (.cells #[Str a0, Str a1, .slice x y z, .slice x2 y2 z2] 46 (0, 0)) := by rw [← hW2]; exact Array.getElem?_push_size
  obtain ⟨m0, -⟩ := cells_at hm2 0 _ rfl
  obtain ⟨m1, -⟩ := cells_at hm2 1 _ rfl
  obtain ⟨m2, -⟩ := cells_at hm2 2 _ rfl
  obtain ⟨m3, -⟩ := cells_at hm2 3 _ rfl
  go_upto_region 17 with fail
  clear hW2
  obtain ⟨W3, hW3⟩ : ∃ W3, W2.alloc (.cells #[.int .i64 0, .string ⟨#[]⟩, .string ⟨#[]⟩, .string ⟨#[]⟩, Str a1, .slice x y z, .slice none 0 0, .int .i64 0, Str a0, .slice x2 y2 z2, .string ⟨#[]⟩] 28) = W3 := ⟨_, rfl⟩
  have hx3 : Ext W2 W3 := by rw [← hW3]; exact Below.alloc (Below.refl _ _) (Nat.le_refl _) _
  have hb3 : W3.heap[W2.heap.size]? = some (.cells #[.int .i64 0, .string ⟨#[]⟩, .string ⟨#[]⟩, .string ⟨#[]⟩, Str a1, .slice x y z, .slice none 0 0, .int .i64 0, Str a0, .slice x2 y2 z2, .string ⟨#[]⟩] 28 (0, 0)) := by rw [← hW3]; exact Array.getElem?_push_size
  have hr3 := ext_at (ext_trans hx2 hx3) hr1
  have hbel3 : Below w.heap.size w W3 := ext_trans hx1 (ext_trans hx2 hx3)
  have hne : w.heap.size ≠ W2.heap.size := by have := hx2.size; omega
  have hle : w.heap.size ≤ W2.heap.size := by have := hx2.size; omega
  clear hx1 hr1 hx2 hm2 hx3
  rw [hW3]
  clear hW3
  rcases hcode with rfl | rfl
  · obtain ⟨y0, y1⟩ := cells_at hb3 0 _ rfl
    obtain ⟨W4, hW4⟩ : ∃ W4, W3.setCell ⟨W2.heap.size, 0, none⟩ (.int .i64 3) = W4 := ⟨_, rfl⟩
    have hb4 : W4.heap[W2.heap.size]? = some (.cells #[.int .i64 3, .string ⟨#[]⟩, .string ⟨#[]⟩, .string ⟨#[]⟩, Str a1, .slice x y z, .slice none 0 0, .int .i64 0, Str a0, .slice x2 y2 z2, .string ⟨#[]⟩] 28 (0, 0)) := by rw [← hW4]; exact set_at (j := 0) (u := .int .i64 3) hb3
    have hr4 : W4.heap[w.heap.size]? = some (.cells #[.int .i64 0, .string ⟨#[]⟩, .string ⟨#[]⟩, .string ⟨#[]⟩, .string ⟨#[]⟩, .slice none 0 0, .slice none 0 0, .int .i64 0, .string ⟨#[]⟩, .slice none 0 0, .string ⟨#[]⟩] 28 (0, 0)) := by rw [← hW4]; exact ((Bz.set W3 W2.heap.size 0 _).block _ (Array.getElem?_eq_some_iff.1 hr3).1 hne).trans hr3
    have hbel4 : Below w.heap.size w W4 := by rw [← hW4]; exact Below.setCell hbel3 hle _
    obtain ⟨b0, -⟩ := cells_at hb4 0 _ rfl
    obtain ⟨r0, s0⟩ := cells_at hr4 0 _ rfl
    obtain ⟨b1, -⟩ := cells_at hb4 1 _ rfl
    obtain ⟨r1, s1⟩ := cells_at hr4 1 _ rfl
    obtain ⟨b2, -⟩ := cells_at hb4 2 _ rfl
    obtain ⟨r2, s2⟩ := cells_at hr4 2 _ rfl
    obtain ⟨b3, -⟩ := cells_at hb4 3 _ rfl
    obtain ⟨r3, s3⟩ := cells_at hr4 3 _ rfl
    obtain ⟨b4, -⟩ := cells_at hb4 4 _ rfl
    obtain ⟨r4, s4⟩ := cells_at hr4 4 _ rfl
    obtain ⟨b5, -⟩ := cells_at hb4 5 _ rfl
    obtain ⟨r5, s5⟩ := cells_at hr4 5 _ rfl
    obtain ⟨b6, -⟩ := cells_at hb4 6 _ rfl
    obtain ⟨r6, s6⟩ := cells_at hr4 6 _ rfl
    obtain ⟨b7, -⟩ := cells_at hb4 7 _ rfl
    obtain ⟨r7, s7⟩ := cells_at hr4 7 _ rfl
    obtain ⟨b8, -⟩ := cells_at hb4 8 _ rfl
    obtain ⟨r8, s8⟩ := cells_at hr4 8 _ rfl
    obtain ⟨b9, -⟩ := cells_at hb4 9 _ rfl
    obtain ⟨r9, s9⟩ := cells_at hr4 9 _ rfl
    obtain ⟨b10, -⟩ := cells_at hb4 10 _ rfl
    obtain ⟨r10, s10⟩ := cells_at hr4 10 _ rfl
    have HR4 := Lib.hid hr4; have HB4 := Lib.hid hbel4
    clear hr4 hb4 hbel4 hr3 hb3 hbel3
    go_wp2
    obtain ⟨Z, hZ, hcl, hX⟩ := set11 HR4.out HB4.out (.int .i64 3) (.string ⟨#[]⟩) (.string ⟨#[]⟩) (.string ⟨#[]⟩) (Str a1) (.slice x y z) (.slice none 0 0) (.int .i64 0) (Str a0) (.slice x2 y2 z2) (.string ⟨#[]⟩)
    rw [hZ]
    obtain ⟨d0, -⟩ := cells_at hcl 0 _ rfl
    obtain ⟨d1, -⟩ := cells_at hcl 1 _ rfl
    obtain ⟨d2, -⟩ := cells_at hcl 2 _ rfl
    obtain ⟨d3, -⟩ := cells_at hcl 3 _ rfl
    obtain ⟨d4, -⟩ := cells_at hcl 4 _ rfl
    obtain ⟨d5, -⟩ := cells_at hcl 5 _ rfl
    obtain ⟨d6, -⟩ := cells_at hcl 6 _ rfl
    obtain ⟨d7, -⟩ := cells_at hcl 7 _ rfl
    obtain ⟨d8, -⟩ := cells_at hcl 8 _ rfl
    obtain ⟨d9, -⟩ := cells_at hcl 9 _ rfl
    obtain ⟨d10, -⟩ := cells_at hcl 10 _ rfl
    refine bodyPost_ret (v := .tuple #[.agg #[.int .i64 3, Str [], Str [], Str [], Str a1, .slice x y z, .slice none 0 0, .int .i64 0, Str a0, .slice x2 y2 z2, Str []], .int .i64 0]) ?_ rfl ⟨⟨_, rfl, ⟨_, _, _, _, _, _, _, _, _, _, _, _, _, _, _, _, _, rfl⟩⟩, hX⟩
    clear b0 b1 b2 b3 b4 b5 b6 b7 b8 b9 b10 r0 r1 r2 r3 r4 r5 r6 r7 r8 r9 r10 s0 s1 s2 s3 s4 s5 s6 s7 s8 s9 s10
    simp [results, loadVar, loadCells, Tryz.isAgg28, Tryz.sizeOf28, Tryz.results6, go_sem, Str, d0, d1, d2, d3, d4, d5, d6, d7, d8, d9, d10]
  · have hb4 := hb3; have hr4 := hr3; have hbel4 := hbel3
    obtain ⟨b0, -⟩ := cells_at hb4 0 _ rfl
    obtain ⟨r0, s0⟩ := cells_at hr4 0 _ rfl
    obtain ⟨b1, -⟩ := cells_at hb4 1 _ rfl
    obtain ⟨r1, s1⟩ := cells_at hr4 1 _ rfl
    obtain ⟨b2, -⟩ := cells_at hb4 2 _ rfl
    obtain ⟨r2, s2⟩ := cells_at hr4 2 _ rfl
    obtain ⟨b3, -⟩ := cells_at hb4 3 _ rfl
    obtain ⟨r3, s3⟩ := cells_at hr4 3 _ rfl
    obtain ⟨b4, -⟩ := cells_at hb4 4 _ rfl
    obtain ⟨r4, s4⟩ := cells_at hr4 4 _ rfl
    obtain ⟨b5, -⟩ := cells_at hb4 5 _ rfl
    obtain ⟨r5, s5⟩ := cells_at hr4 5 _ rfl
    obtain ⟨b6, -⟩ := cells_at hb4 6 _ rfl
    obtain ⟨r6, s6⟩ := cells_at hr4 6 _ rfl
    obtain ⟨b7, -⟩ := cells_at hb4 7 _ rfl
    obtain ⟨r7, s7⟩ := cells_at hr4 7 _ rfl
    obtain ⟨b8, -⟩ := cells_at hb4 8 _ rfl
    obtain ⟨r8, s8⟩ := cells_at hr4 8 _ rfl
    obtain ⟨b9, -⟩ := cells_at hb4 9 _ rfl
    obtain ⟨r9, s9⟩ := cells_at hr4 9 _ rfl
    obtain ⟨b10, -⟩ := cells_at hb4 10 _ rfl
    obtain ⟨r10, s10⟩ := cells_at hr4 10 _ rfl
    have HR4 := Lib.hid hr4; have HB4 := Lib.hid hbel4
    clear hr4 hb4 hbel4 hr3 hb3 hbel3
    go_wp2
    obtain ⟨Z, hZ, hcl, hX⟩ := set11 HR4.out HB4.out (.int .i64 0) (.string ⟨#[]⟩) (.string ⟨#[]⟩) (.string ⟨#[]⟩) (Str a1) (.slice x y z) (.slice none 0 0) (.int .i64 0) (Str a0) (.slice x2 y2 z2) (.string ⟨#[]⟩)
    rw [hZ]
    obtain ⟨d0, -⟩ := cells_at hcl 0 _ rfl
    obtain ⟨d1, -⟩ := cells_at hcl 1 _ rfl
    obtain ⟨d2, -⟩ := cells_at hcl 2 _ rfl
    obtain ⟨d3, -⟩ := cells_at hcl 3 _ rfl
    obtain ⟨d4, -⟩ := cells_at hcl 4 _ rfl
    obtain ⟨d5, -⟩ := cells_at hcl 5 _ rfl
    obtain ⟨d6, -⟩ := cells_at hcl 6 _ rfl
    obtain ⟨d7, -⟩ := cells_at hcl 7 _ rfl
    obtain ⟨d8, -⟩ := cells_at hcl 8 _ rfl
    obtain ⟨d9, -⟩ := cells_at hcl 9 _ rfl
    obtain ⟨d10, -⟩ := cells_at hcl 10 _ rfl
    refine bodyPost_ret (v := .tuple #[.agg #[.int .i64 0, Str [], Str [], Str [], Str a1, .slice x y z, .slice none 0 0, .int .i64 0, Str a0, .slice x2 y2 z2, Str []], .int .i64 3]) ?_ rfl ⟨⟨_, rfl, ⟨_, _, _, _, _, _, _, _, _, _, _, _, _, _, _, _, _, rfl⟩⟩, hX⟩
    clear b0 b1 b2 b3 b4 b5 b6 b7 b8 b9 b10 r0 r1 r2 r3 r4 r5 r6 r7 r8 r9 r10 s0 s1 s2 s3 s4 s5 s6 s7 s8 s9 s10
    simp [results, loadVar, loadCells, Tryz.isAgg28, Tryz.sizeOf28, Tryz.results6, go_sem, Str, d0, d1, d2, d3, d4, d5, d6, d7, d8, d9, d10]
set_option maxHeartbeats 4000000 in
theorem parse_4 (s : List UInt8) (code : Int) (hcode : code = 0 ∨ code = 3) (w : World) (H : ∀ W, Ext w W → Calls Tryz.prog 13 #[Str s] W fun e w' => (∃ (a0 : List UInt8) (x : Option Addr) (y z : Nat) (x2 : Option Addr) (y2 z2 : Nat), e = .returned (.tuple #[.agg #[.slice x y z, Str a0, .slice x2 y2 z2], .int .i64 code])) ∧ Ext W w') :
    Calls Tryz.prog 6 #[.int .i64 4, Str s] w fun e w' => (∃ v, e = .returned (.tuple #[v, .int .i64 code]) ∧ MsgV v) ∧ Ext w w' := by
  have HH := Lib.hid H
  clear H
  go_enter Tryz.func6, Tryz.ntmps6
  obtain ⟨W0, hW0⟩ : ∃ W0, w.alloc (.cells #[.int .i64 0, .string ⟨#[]⟩, .string ⟨#[]⟩, .string ⟨#[]⟩, .string ⟨#[]⟩, .slice none 0 0, .slice none 0 0, .int .i64 0, .string ⟨#[]⟩, .slice none 0 0, .string ⟨#[]⟩] 28) = W0 := ⟨_, rfl⟩
  have x0 : Ext w W0 := by rw [← hW0]; exact Below.alloc (Below.refl _ _) (Nat.le_refl _) _
  have r0 : W0.heap[w.heap.size]? = some (.cells #[.int .i64 0, .string ⟨#[]⟩, .string ⟨#[]⟩, .string ⟨#[]⟩, .string ⟨#[]⟩, .slice none 0 0, .slice none 0 0, .int .i64 0, .string ⟨#[]⟩, .slice none 0 0, .string ⟨#[]⟩] 28 (0, 0)) := by rw [← hW0]; exact Array.getElem?_push_size
  have HX0 := Lib.hid x0; have HR0 := Lib.hid r0
  clear x0 r0
  go_wp2_with fail
  clear hW0
  refine (HH.out W0 HX0.out).mono ?_
  rintro e W1 ⟨⟨a0, x, y, z, x2, y2, z2, rfl⟩, hx⟩
  have hx1 := ext_trans HX0.out hx
  have hr1 := ext_at hx HR0.out
  clear hx HX0 HR0
  have zs : w.heap.size < W1.heap.size := (Array.getElem?_eq_some_iff.1 hr1).1
  obtain ⟨W2, hW2⟩ : ∃ W2, W1.alloc (.cells #[.slice x y z, Str a0, .slice x2 y2 z2] 50) = W2 := ⟨_, rfl⟩
  have hx2 : Ext W1 W2 := by rw [← hW2]; exact Below.alloc (Below.refl _ _) (Nat.le_refl _) _
  have hm2 : W2.heap[W1.heap.size]? = some (.cells #[.slice x y z, Str a0, .slice x2 y2 z2] 50 (0, 0)) := by rw [← hW2]; exact Array.getElem?_push_size
  obtain ⟨m0, -⟩ := cells_at hm2 0 _ rfl
  obtain ⟨m1, -⟩ := cells_at hm2 1 _ rfl
  obtain ⟨m2, -⟩ := cells_at hm2 2 _ rfl
  go_upto_region 22 with fail
  clear hW2
  obtain ⟨W3, hW3⟩ : ∃ W3, W2.alloc (.cells #[.int .i64 0, .string ⟨#[]⟩, .string ⟨#[]⟩, .string ⟨#[]⟩, .string ⟨#[]⟩, .slice x2 y2 z2, .slice none 0 0, .int .i64 0, .string ⟨#[]⟩, .slice x y z, Str a0] 28) = W3 := ⟨_, rfl⟩
  have hx3 : Ext W2 W3 := by rw [← hW3]; exact Below.alloc (Below.refl _ _) (Nat.le_refl _) _
  have hb3 : W3.heap[W2.heap.size]? = some (.cells #[.int .i64 0, .string ⟨#[]⟩, .string ⟨#[]⟩, .string ⟨#[]⟩, .string ⟨#[]⟩, .slice x2 y2 z2, .slice none 0 0, .int .i64 0, .string ⟨#[]⟩, .slice x y z, Str a0] 28 (0, 0)) := by rw [← hW3]; exact Array.getElem?_push_size
  have hr3 := ext_at (ext_trans hx2 hx3) hr1
  have hbel3 : Below w.heap.size w W3 := ext_trans hx1 (ext_trans hx2 hx3)
  have hne : w.heap.size ≠ W2.heap.size := by have := hx2.size; omega
  have hle : w.heap.size ≤ W2.heap.size := by have := hx2.size; omega
  clear hx1 hr1 hx2 hm2 hx3
  rw [hW3]
  clear hW3
  rcases hcode with rfl | rfl
  · obtain ⟨y0, y1⟩ := cells_at hb3 0 _ rfl
    obtain ⟨W4, hW4⟩ : ∃ W4, W3.setCell ⟨W2.heap.size, 0, none⟩ (.int .i64 4) = W4 := ⟨_, rfl⟩
    have hb4 : W4.heap[W2.heap.size]? = some (.cells #[.int .i64 4, .string ⟨#[]⟩, .string ⟨#[]⟩, .string ⟨#[]⟩, .string ⟨#[]⟩, .slice x2 y2 z2, .slice none 0 0, .int .i64 0, .string ⟨#[]⟩, .slice x y z, Str a0] 28 (0, 0)) := by rw [← hW4]; exact set_at (j := 0) (u := .int .i64 4) hb3
    have hr4 : W4.heap[w.heap.size]? = some (.cells #[.int .i64 0, .string ⟨#[]⟩, .string ⟨#[]⟩, .string ⟨#[]⟩, .string ⟨#[]⟩, .slice none 0 0, .slice none 0 0, .int .i64 0, .string ⟨#[]⟩, .slice none 0 0, .string ⟨#[]⟩] 28 (0, 0)) := by rw [← hW4]; exact ((Bz.set W3 W2.heap.size 0 _).block _ (Array.getElem?_eq_some_iff.1 hr3).1 hne).trans hr3
    have hbel4 : Below w.heap.size w W4 := by rw [← hW4]; exact Below.setCell hbel3 hle _
    obtain ⟨b0, -⟩ := cells_at hb4 0 _ rfl
    obtain ⟨r0, s0⟩ := cells_at hr4 0 _ rfl
    obtain ⟨b1, -⟩ := cells_at hb4 1 _ rfl
    obtain ⟨r1, s1⟩ := cells_at hr4 1 _ rfl
    obtain ⟨b2, -⟩ := cells_at hb4 2 _ rfl
    obtain ⟨r2, s2⟩ := cells_at hr4 2 _ rfl
    obtain ⟨b3, -⟩ := cells_at hb4 3 _ rfl
    obtain ⟨r3, s3⟩ := cells_at hr4 3 _ rfl
    obtain ⟨b4, -⟩ := cells_at hb4 4 _ rfl
    obtain ⟨r4, s4⟩ := cells_at hr4 4 _ rfl
    obtain ⟨b5, -⟩ := cells_at hb4 5 _ rfl
    obtain ⟨r5, s5⟩ := cells_at hr4 5 _ rfl
    obtain ⟨b6, -⟩ := cells_at hb4 6 _ rfl
    obtain ⟨r6, s6⟩ := cells_at hr4 6 _ rfl
    obtain ⟨b7, -⟩ := cells_at hb4 7 _ rfl
    obtain ⟨r7, s7⟩ := cells_at hr4 7 _ rfl
    obtain ⟨b8, -⟩ := cells_at hb4 8 _ rfl
    obtain ⟨r8, s8⟩ := cells_at hr4 8 _ rfl
    obtain ⟨b9, -⟩ := cells_at hb4 9 _ rfl
    obtain ⟨r9, s9⟩ := cells_at hr4 9 _ rfl
    obtain ⟨b10, -⟩ := cells_at hb4 10 _ rfl
    obtain ⟨r10, s10⟩ := cells_at hr4 10 _ rfl
    have HR4 := Lib.hid hr4; have HB4 := Lib.hid hbel4
    clear hr4 hb4 hbel4 hr3 hb3 hbel3
    go_wp2
    obtain ⟨Z, hZ, hcl, hX⟩ := set11 HR4.out HB4.out (.int .i64 4) (.string ⟨#[]⟩) (.string ⟨#[]⟩) (.string ⟨#[]⟩) (.string ⟨#[]⟩) (.slice x2 y2 z2) (.slice none 0 0) (.int .i64 0) (.string ⟨#[]⟩) (.slice x y z) (Str a0)
    rw [hZ]
    obtain ⟨d0, -⟩ := cells_at hcl 0 _ rfl
    obtain ⟨d1, -⟩ := cells_at hcl 1 _ rfl
    obtain ⟨d2, -⟩ := cells_at hcl 2 _ rfl
    obtain ⟨d3, -⟩ := cells_at hcl 3 _ rfl
    obtain ⟨d4, -⟩ := cells_at hcl 4 _ rfl
    obtain ⟨d5, -⟩ := cells_at hcl 5 _ rfl
    obtain ⟨d6, -⟩ := cells_at hcl 6 _ rfl
    obtain ⟨d7, -⟩ := cells_at hcl 7 _ rfl
    obtain ⟨d8, -⟩ := cells_at hcl 8 _ rfl
    obtain ⟨d9, -⟩ := cells_at hcl 9 _ rfl
    obtain ⟨d10, -⟩ := cells_at hcl 10 _ rfl
    refine bodyPost_ret (v := .tuple #[.agg #[.int .i64 4, Str [], Str [], Str [], Str [], .slice x2 y2 z2, .slice none 0 0, .int .i64 0, Str [], .slice x y z, Str a0], .int .i64 0]) ?_ rfl ⟨⟨_, rfl, ⟨_, _, _, _, _, _, _, _, _, _, _, _, _, _, _, _, _, rfl⟩⟩, hX⟩
    clear b0 b1 b2 b3 b4 b5 b6 b7 b8 b9 b10 r0 r1 r2 r3 r4 r5 r6 r7 r8 r9 r10 s0 s1 s2 s3 s4 s5 s6 s7 s8 s9 s10
    simp [results, loadVar, loadCells, Tryz.isAgg28, Tryz.sizeOf28, Tryz.results6, go_sem, Str, d0, d1, d2, d3, d4, d5, d6, d7, d8, d9, d10]
  · have hb4 := hb3; have hr4 := hr3; have hbel4 := hbel3
    obtain ⟨b0, -⟩ := cells_at hb4 0 _ rfl
    obtain ⟨r0, s0⟩ := cells_at hr4 0 _ rfl
    obtain ⟨b1, -⟩ := cells_at hb4 1 _ rfl
    obtain ⟨r1, s1⟩ := cells_at hr4 1 _ rfl
    obtain ⟨b2, -⟩ := cells_at hb4 2 _ rfl
    obtain ⟨r2, s2⟩ := cells_at hr4 2 _ rfl
    obtain ⟨b3, -⟩ := cells_at hb4 3 _ rfl
    obtain ⟨r3, s3⟩ := cells_at hr4 3 _ rfl
    obtain ⟨b4, -⟩ := cells_at hb4 4 _ rfl
    obtain ⟨r4, s4⟩ := cells_at hr4 4 _ rfl
    obtain ⟨b5, -⟩ := cells_at hb4 5 _ rfl
    obtain ⟨r5, s5⟩ := cells_at hr4 5 _ rfl
    obtain ⟨b6, -⟩ := cells_at hb4 6 _ rfl
    obtain ⟨r6, s6⟩ := cells_at hr4 6 _ rfl
    obtain ⟨b7, -⟩ := cells_at hb4 7 _ rfl
    obtain ⟨r7, s7⟩ := cells_at hr4 7 _ rfl
    obtain ⟨b8, -⟩ := cells_at hb4 8 _ rfl
    obtain ⟨r8, s8⟩ := cells_at hr4 8 _ rfl
    obtain ⟨b9, -⟩ := cells_at hb4 9 _ rfl
    obtain ⟨r9, s9⟩ := cells_at hr4 9 _ rfl
    obtain ⟨b10, -⟩ := cells_at hb4 10 _ rfl
    obtain ⟨r10, s10⟩ := cells_at hr4 10 _ rfl
    have HR4 := Lib.hid hr4; have HB4 := Lib.hid hbel4
    clear hr4 hb4 hbel4 hr3 hb3 hbel3
    go_wp2
    obtain ⟨Z, hZ, hcl, hX⟩ := set11 HR4.out HB4.out (.int .i64 0) (.string ⟨#[]⟩) (.string ⟨#[]⟩) (.string ⟨#[]⟩) (.string ⟨#[]⟩) (.slice x2 y2 z2) (.slice none 0 0) (.int .i64 0) (.string ⟨#[]⟩) (.slice x y z) (Str a0)
    rw [hZ]
    obtain ⟨d0, -⟩ := cells_at hcl 0 _ rfl
    obtain ⟨d1, -⟩ := cells_at hcl 1 _ rfl
    obtain ⟨d2, -⟩ := cells_at hcl 2 _ rfl
    obtain ⟨d3, -⟩ := cells_at hcl 3 _ rfl
    obtain ⟨d4, -⟩ := cells_at hcl 4 _ rfl
    obtain ⟨d5, -⟩ := cells_at hcl 5 _ rfl
    obtain ⟨d6, -⟩ := cells_at hcl 6 _ rfl
    obtain ⟨d7, -⟩ := cells_at hcl 7 _ rfl
    obtain ⟨d8, -⟩ := cells_at hcl 8 _ rfl
    obtain ⟨d9, -⟩ := cells_at hcl 9 _ rfl
    obtain ⟨d10, -⟩ := cells_at hcl 10 _ rfl
    refine bodyPost_ret (v := .tuple #[.agg #[.int .i64 0, Str [], Str [], Str [], Str [], .slice x2 y2 z2, .slice none 0 0, .int .i64 0, Str [], .slice x y z, Str a0], .int .i64 3]) ?_ rfl ⟨⟨_, rfl, ⟨_, _, _, _, _, _, _, _, _, _, _, _, _, _, _, _, _, rfl⟩⟩, hX⟩
    clear b0 b1 b2 b3 b4 b5 b6 b7 b8 b9 b10 r0 r1 r2 r3 r4 r5 r6 r7 r8 r9 r10 s0 s1 s2 s3 s4 s5 s6 s7 s8 s9 s10
    simp [results, loadVar, loadCells, Tryz.isAgg28, Tryz.sizeOf28, Tryz.results6, go_sem, Str, d0, d1, d2, d3, d4, d5, d6, d7, d8, d9, d10]
end Go.Proofs.YteickmohloglhaaGreatDoor
