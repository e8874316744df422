/-
  slices.Equal over rows of lines: of equal rows it says true.
-/
import Derived.Laws.StructEq
import Derived.BigQuiet
import Derived.BigGuardPart
import Derived.Test.YtmflnffjhfejhaaGreatDoorRows
import Derived.Test.YtmflnffjhfejhaaGreatDoorHlr
namespace Go.Proofs.YtmflnffjhfejhaaGreatDoor
open Go.RowKit
set_option maxRecDepth 100000
set_option linter.unusedVariables false
set_option linter.unusedSimpArgs false

@[reducible] def lnV (x : List UInt8 × Bool) : Value := .agg #[Str x.1, .bool x.2]
theorem neq_ln (x : List UInt8 × Bool) (W : World) : (binOp .neq 63 (lnV x) (lnV x)).run Tryz.prog W = .ok (.bool false) W := by
  have hu : Tryz.prog.underlying 63 = some (.struct (Tryz.prog.fieldsOf 63)) := by kernel_rfl
  have hp : Tryz.prog.stoodInHeld 63 = false := by kernel_rfl
  have hB : (match (Tryz.prog.fieldsOf 63).toList with | [f0, f1] => f0.type == 9 && f1.type == 4 && f0.offset == 0 && f1.offset == 1 && f0.name != "_" && f1.name != "_" | _ => false) = true := by kernel_rfl
  obtain ⟨f0, f1, hf⟩ : ∃ f0 f1, (Tryz.prog.fieldsOf 63).toList = [f0, f1] := by
    revert hB
    generalize (Tryz.prog.fieldsOf 63).toList = L
    intro hB
    match L, hB with
    | [a, b], _ => exact ⟨a, b, rfl⟩
  rw [hf] at hB
  simp only [Bool.and_eq_true, beq_iff_eq, bne_iff_ne, ne_eq] at hB
  obtain ⟨⟨⟨⟨⟨h0, h1⟩, o0⟩, o1⟩, n0⟩, n1⟩ := hB
  rw [run_neq_struct, show (10000 : Nat) = 9999 + 1 from rfl, run_equalIn_agg _ _ _ _ _ hu hp, hf]
  simp only [Op.eqFields, Sem.run_bind, h0, h1, o0, o1, n0, n1]
  simp [part, Tryz.isAgg9, Tryz.isAgg4, Result.andThen, Sem.run_bind, run_equalIn_string (P := Tryz.prog) (w := W) 9998 9 _ _ Tryz.underlying9, run_equalIn_bool' (P := Tryz.prog) (w := W) 9998 4 _ _ Tryz.underlying4]
theorem eqGuard_ln (x y : Operand) (a b : Array Value) (W : World) : (eqGuard .neq 63 x y (.agg a) (.agg b)).run Tryz.prog W = .ok () W :=
  run_eqGuard_agg W .neq 63 x y _ _ (by kernel_rfl)
theorem elemLine : Tryz.prog.elem 58 = 63 := by kernel_rfl
theorem index_line (g o n cap j : Nat) (hn : j < n) (W : World) : (Instr.indexAt 58 (.slice (some ⟨g, o, none⟩) n cap) (.int .i64 (j : Int))).run Tryz.prog W = .ok (.pointer (some ⟨g, o + 2 * j, none⟩)) W := by
  rw [run_indexAt_slice (h := by rw [elemLine]; exact Tryz.underlying58), if_pos (by omega), elemLine]
  simp [Tryz.sizeOf63, Result.andThen, Addr.add, Nat.mul_comm]
theorem rowL_shape {w : World} {v : Value} {xs : List (List UInt8 × Bool)} (hr : RowC 2 lnC w v xs) : ∃ ao cap, v = .slice ao xs.length cap ∧ xs.length ≤ cap ∧ cap ≤ maxLen ∧ (xs = [] ∨ ∃ g o, ao = some ⟨g, o, none⟩ ∧ ∀ j, j < xs.length → w.cell? ⟨g, o + 2 * j, none⟩ = some (Str (xs.getD j ([], false)).1) ∧ w.cell? ⟨g, o + 2 * j + 1, none⟩ = some (.bool (xs.getD j ([], false)).2)) := by
  obtain ⟨ao, cap, hv, h0, h1, h2, h3⟩ := hr
  refine ⟨ao, cap, hv, h1, h2, ?_⟩
  by_cases hne : xs = []
  · exact .inl hne
  · obtain ⟨g, o, ha, hc⟩ := h3 hne
    refine .inr ⟨g, o, ha, fun j hj => ?_⟩
    have hx : xs[j]? = some (xs.getD j ([], false)) := by simp [List.getD, hj]
    exact ⟨hc j _ hx 0 _ rfl, hc j _ hx 1 _ rfl⟩
end Go.Proofs.YtmflnffjhfejhaaGreatDoor
