/-
  The four parsers at a text that is too long.
-/
import Derived.Test.YteickmohloglhaaGreatDoorRows
import Derived.Test.YteickmohloglhaaGreatDoorPbx
namespace Go.Proofs.YteickmohloglhaaGreatDoor
open Go.RowKit
set_option maxRecDepth 100000
attribute [local go_sem] Oper.semAt_some
set_option linter.unusedVariables false
set_option linter.unusedSimpArgs false
theorem ParseFirst_long (s : List UInt8) (hs : 4096 < s.length) (hs2 : s.length ≤ 10000) (w : World) :
    Calls Tryz.prog 7 #[Str s] w fun e w' => e = .returned (.tuple #[.agg #[.string ⟨#[]⟩, .string ⟨#[]⟩, .string ⟨#[]⟩, .string ⟨#[]⟩, .slice none 0 0], .int .i64 3]) ∧ Ext w w' := by
  have hlen : decide ((4096 : Int) < (s.length : Int)) = true := by simp; omega
  go_enter Tryz.func7, Tryz.ntmps7
  go_wp2
  obtain ⟨Z, hZ⟩ : ∃ Z, w.alloc (.cells #[.string ⟨#[]⟩, .string ⟨#[]⟩, .string ⟨#[]⟩, .string ⟨#[]⟩, .slice none 0 0] 34) = Z := ⟨_, rfl⟩
  have hX : Ext w Z := by rw [← hZ]; exact Below.alloc (Below.refl _ _) (Nat.le_refl _) _
  have hb : Z.heap[w.heap.size]? = some (.cells #[.string ⟨#[]⟩, .string ⟨#[]⟩, .string ⟨#[]⟩, .string ⟨#[]⟩, .slice none 0 0] 34 (0, 0)) := by rw [← hZ]; exact Array.getElem?_push_size
  rw [hZ]
  have d0 : Z.cell? ⟨w.heap.size, 0, none⟩ = some (.string ⟨#[]⟩) := by simp [World.cell?, hb]
  have d1 : Z.cell? ⟨w.heap.size, 1, none⟩ = some (.string ⟨#[]⟩) := by simp [World.cell?, hb]
  have d2 : Z.cell? ⟨w.heap.size, 2, none⟩ = some (.string ⟨#[]⟩) := by simp [World.cell?, hb]
  have d3 : Z.cell? ⟨w.heap.size, 3, none⟩ = some (.string ⟨#[]⟩) := by simp [World.cell?, hb]
  have d4 : Z.cell? ⟨w.heap.size, 4, none⟩ = some (.slice none 0 0) := by simp [World.cell?, hb]
  refine bodyPost_ret (v := .tuple #[.agg #[.string ⟨#[]⟩, .string ⟨#[]⟩, .string ⟨#[]⟩, .string ⟨#[]⟩, .slice none 0 0], .int .i64 3]) ?_ rfl ⟨rfl, hX⟩
  simp [results, loadVar, loadCells, Tryz.isAgg34, Tryz.sizeOf34, Tryz.results7, go_sem, d0, d1, d2, d3, d4]
theorem ParseChallenge_long (s : List UInt8) (hs : 4096 < s.length) (hs2 : s.length ≤ 10000) (w : World) :
    Calls Tryz.prog 11 #[Str s] w fun e w' => e = .returned (.tuple #[.agg #[.string ⟨#[]⟩, .slice none 0 0, .int .i64 0, .slice none 0 0], .int .i64 3]) ∧ Ext w w' := by
  have hlen : decide ((4096 : Int) < (s.length : Int)) = true := by simp; omega
  go_enter Tryz.func11, Tryz.ntmps11
  go_wp2
  obtain ⟨Z, hZ⟩ : ∃ Z, w.alloc (.cells #[.string ⟨#[]⟩, .slice none 0 0, .int .i64 0, .slice none 0 0] 42) = Z := ⟨_, rfl⟩
  have hX : Ext w Z := by rw [← hZ]; exact Below.alloc (Below.refl _ _) (Nat.le_refl _) _
  have hb : Z.heap[w.heap.size]? = some (.cells #[.string ⟨#[]⟩, .slice none 0 0, .int .i64 0, .slice none 0 0] 42 (0, 0)) := by rw [← hZ]; exact Array.getElem?_push_size
  rw [hZ]
  have d0 : Z.cell? ⟨w.heap.size, 0, none⟩ = some (.string ⟨#[]⟩) := by simp [World.cell?, hb]
  have d1 : Z.cell? ⟨w.heap.size, 1, none⟩ = some (.slice none 0 0) := by simp [World.cell?, hb]
  have d2 : Z.cell? ⟨w.heap.size, 2, none⟩ = some (.int .i64 0) := by simp [World.cell?, hb]
  have d3 : Z.cell? ⟨w.heap.size, 3, none⟩ = some (.slice none 0 0) := by simp [World.cell?, hb]
  refine bodyPost_ret (v := .tuple #[.agg #[.string ⟨#[]⟩, .slice none 0 0, .int .i64 0, .slice none 0 0], .int .i64 3]) ?_ rfl ⟨rfl, hX⟩
  simp [results, loadVar, loadCells, Tryz.isAgg42, Tryz.sizeOf42, Tryz.results11, go_sem, d0, d1, d2, d3]
theorem ParseFinal_long (s : List UInt8) (hs : 4096 < s.length) (hs2 : s.length ≤ 10000) (w : World) :
    Calls Tryz.prog 12 #[Str s] w fun e w' => e = .returned (.tuple #[.agg #[.string ⟨#[]⟩, .string ⟨#[]⟩, .slice none 0 0, .slice none 0 0], .int .i64 3]) ∧ Ext w w' := by
  have hlen : decide ((4096 : Int) < (s.length : Int)) = true := by simp; omega
  go_enter Tryz.func12, Tryz.ntmps12
  go_wp2
  obtain ⟨Z, hZ⟩ : ∃ Z, w.alloc (.cells #[.string ⟨#[]⟩, .string ⟨#[]⟩, .slice none 0 0, .slice none 0 0] 46) = Z := ⟨_, rfl⟩
  have hX : Ext w Z := by rw [← hZ]; exact Below.alloc (Below.refl _ _) (Nat.le_refl _) _
  have hb : Z.heap[w.heap.size]? = some (.cells #[.string ⟨#[]⟩, .string ⟨#[]⟩, .slice none 0 0, .slice none 0 0] 46 (0, 0)) := by rw [← hZ]; exact Array.getElem?_push_size
  rw [hZ]
  have d0 : Z.cell? ⟨w.heap.size, 0, none⟩ = some (.string ⟨#[]⟩) := by simp [World.cell?, hb]
  have d1 : Z.cell? ⟨w.heap.size, 1, none⟩ = some (.string ⟨#[]⟩) := by simp [World.cell?, hb]
  have d2 : Z.cell? ⟨w.heap.size, 2, none⟩ = some (.slice none 0 0) := by simp [World.cell?, hb]
  have d3 : Z.cell? ⟨w.heap.size, 3, none⟩ = some (.slice none 0 0) := by simp [World.cell?, hb]
  refine bodyPost_ret (v := .tuple #[.agg #[.string ⟨#[]⟩, .string ⟨#[]⟩, .slice none 0 0, .slice none 0 0], .int .i64 3]) ?_ rfl ⟨rfl, hX⟩
  simp [results, loadVar, loadCells, Tryz.isAgg46, Tryz.sizeOf46, Tryz.results12, go_sem, d0, d1, d2, d3]
theorem ParseVerdict_long (s : List UInt8) (hs : 4096 < s.length) (hs2 : s.length ≤ 10000) (w : World) :
    Calls Tryz.prog 13 #[Str s] w fun e w' => e = .returned (.tuple #[.agg #[.slice none 0 0, .string ⟨#[]⟩, .slice none 0 0], .int .i64 3]) ∧ Ext w w' := by
  have hlen : decide ((4096 : Int) < (s.length : Int)) = true := by simp; omega
  go_enter Tryz.func13, Tryz.ntmps13
  go_wp2
  obtain ⟨Z, hZ⟩ : ∃ Z, w.alloc (.cells #[.slice none 0 0, .string ⟨#[]⟩, .slice none 0 0] 50) = Z := ⟨_, rfl⟩
  have hX : Ext w Z := by rw [← hZ]; exact Below.alloc (Below.refl _ _) (Nat.le_refl _) _
  have hb : Z.heap[w.heap.size]? = some (.cells #[.slice none 0 0, .string ⟨#[]⟩, .slice none 0 0] 50 (0, 0)) := by rw [← hZ]; exact Array.getElem?_push_size
  rw [hZ]
  have d0 : Z.cell? ⟨w.heap.size, 0, none⟩ = some (.slice none 0 0) := by simp [World.cell?, hb]
  have d1 : Z.cell? ⟨w.heap.size, 1, none⟩ = some (.string ⟨#[]⟩) := by simp [World.cell?, hb]
  have d2 : Z.cell? ⟨w.heap.size, 2, none⟩ = some (.slice none 0 0) := by simp [World.cell?, hb]
  refine bodyPost_ret (v := .tuple #[.agg #[.slice none 0 0, .string ⟨#[]⟩, .slice none 0 0], .int .i64 3]) ?_ rfl ⟨rfl, hX⟩
  simp [results, loadVar, loadCells, Tryz.isAgg50, Tryz.sizeOf50, Tryz.results13, go_sem, d0, d1, d2]
end Go.Proofs.YteickmohloglhaaGreatDoor
