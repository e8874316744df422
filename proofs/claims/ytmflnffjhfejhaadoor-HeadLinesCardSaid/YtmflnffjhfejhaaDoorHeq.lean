/-
  slices.Equal over rows of lines: of equal rows it says true.
-/
import Derived.Laws.StructEq
import Derived.BigQuiet
import Derived.BigGuardPart
import Derived.Test.YtmflnffjhfejhaaDoorRows
import Derived.Test.YtmflnffjhfejhaaDoorHlr
namespace Go.Proofs.YtmflnffjhfejhaaDoor
open Go.RowKit
set_option maxRecDepth 100000
set_option linter.unusedVariables false
set_option linter.unusedSimpArgs false

@[reducible] def lnV (x : List UInt8 × Bool) : Value := .agg #[Str x.1, .bool x.2]
theorem neq_ln (x : List UInt8 × Bool) (W : World) : (binOp .neq 40 (lnV x) (lnV x)).run Tryd.prog W = .ok (.bool false) W := by
  have hu : Tryd.prog.underlying 40 = some (.struct (Tryd.prog.fieldsOf 40)) := by kernel_rfl
  have hp : Tryd.prog.stoodInHeld 40 = false := by kernel_rfl
  have hB : (match (Tryd.prog.fieldsOf 40).toList with | [f0, f1] => f0.type == 9 && f1.type == 4 && f0.offset == 0 && f1.offset == 1 && f0.name != "_" && f1.name != "_" | _ => false) = true := by kernel_rfl
  obtain ⟨f0, f1, hf⟩ : ∃ f0 f1, (Tryd.prog.fieldsOf 40).toList = [f0, f1] := by
    revert hB
    generalize (Tryd.prog.fieldsOf 40).toList = L
    intro hB
    match L, hB with
    | [a, b], _ => exact ⟨a, b, rfl⟩
  rw [hf] at hB
  simp only [Bool.and_eq_true, beq_iff_eq, bne_iff_ne, ne_eq] at hB
  obtain ⟨⟨⟨⟨⟨h0, h1⟩, o0⟩, o1⟩, n0⟩, n1⟩ := hB
  rw [run_neq_struct, show (10000 : Nat) = 9999 + 1 from rfl, run_equalIn_agg _ _ _ _ _ hu hp, hf]
  simp only [Op.eqFields, Sem.run_bind, h0, h1, o0, o1, n0, n1]
  simp [part, Tryd.isAgg9, Tryd.isAgg4, Result.andThen, Sem.run_bind, run_equalIn_string (P := Tryd.prog) (w := W) 9998 9 _ _ Tryd.underlying9, run_equalIn_bool' (P := Tryd.prog) (w := W) 9998 4 _ _ Tryd.underlying4]
theorem eqGuard_ln (x y : Operand) (a b : Array Value) (W : World) : (eqGuard .neq 40 x y (.agg a) (.agg b)).run Tryd.prog W = .ok () W :=
  run_eqGuard_agg W .neq 40 x y _ _ (by kernel_rfl)
theorem elemLine : Tryd.prog.elem 36 = 40 := by kernel_rfl
theorem index_line (g o n cap j : Nat) (hn : j < n) (W : World) : (Instr.indexAt 36 (.slice (some ⟨g, o, none⟩) n cap) (.int .i64 (j : Int))).run Tryd.prog W = .ok (.pointer (some ⟨g, o + 2 * j, none⟩)) W := by
  rw [run_indexAt_slice (h := by rw [elemLine]; exact Tryd.underlying36), if_pos (by omega), elemLine]
  simp [Tryd.sizeOf40, Result.andThen, Addr.add, Nat.mul_comm]
theorem rowL_shape {w : World} {v : Value} {xs : List (List UInt8 × Bool)} (hr : RowC 2 lnC w v xs) : ∃ ao cap, v = .slice ao xs.length cap ∧ xs.length ≤ cap ∧ cap ≤ maxLen ∧ (xs = [] ∨ ∃ g o, ao = some ⟨g, o, none⟩ ∧ ∀ j, j < xs.length → w.cell? ⟨g, o + 2 * j, none⟩ = some (Str (xs.getD j ([], false)).1) ∧ w.cell? ⟨g, o + 2 * j + 1, none⟩ = some (.bool (xs.getD j ([], false)).2)) := by
  obtain ⟨ao, cap, hv, h0, h1, h2, h3⟩ := hr
  refine ⟨ao, cap, hv, h1, h2, ?_⟩
  by_cases hne : xs = []
  · exact .inl hne
  · obtain ⟨g, o, ha, hc⟩ := h3 hne
    refine .inr ⟨g, o, ha, fun j hj => ?_⟩
    have hx : xs[j]? = some (xs.getD j ([], false)) := by simp [List.getD, hj]
    exact ⟨hc j _ hx 0 _ rfl, hc j _ hx 1 _ rfl⟩
set_option maxHeartbeats 2000000 in
theorem equalLines_same (v1 v2 : Value) (rs : List (List UInt8 × Bool)) (w : World) (h1 : RowC 2 lnC w v1 rs) (h2 : RowC 2 lnC w v2 rs) :
    Calls Tryd.prog 14 #[v1, v2] w fun e w' => e = .returned (.bool true) ∧ Ext w w' := by
  obtain ⟨ao1, c1, rfl, hc1, hm1, hr1⟩ := rowL_shape h1
  obtain ⟨ao2, c2, rfl, hc2, hm2, hr2⟩ := rowL_shape h2
  unfold maxLen at hm1
  have HR1 := Lib.hid hr1; have HR2 := Lib.hid hr2
  have HIX := Lib.hid index_line
  clear hr1 hr2 h1 h2
  go_enter Tryd.func14, Tryd.ntmps14
  go_wp2
  go_loopw [13] (fun i wr => ∃ k : Nat, k ≤ rs.length ∧ i = .int .i64 k ∧ ∃ m, wr = w.drewN m) (fun i _ => rs.length - (intOf i).toNat)
  case atStart => exact ⟨0, by omega, rfl, 0, rfl⟩
  case round =>
    obtain ⟨k, hk, rfl, m, rfl⟩ := hrel
    by_cases h3 : k < rs.length
    · rcases HR1.out with h | ⟨g1, o1, rfl, hl1⟩
      · subst h; simp at h3
      rcases HR2.out with h | ⟨g2, o2, rfl, hl2⟩
      · subst h; simp at h3
      obtain ⟨a0, a1⟩ := hl1 k h3
      obtain ⟨b0, b1⟩ := hl2 k h3
      have i1 := HIX.out g1 o1 rs.length c1 k h3
      have i2 := HIX.out g2 o2 rs.length c2 k h3
      clear hl1 hl2
      have hq := neq_ln (rs.getD k ([], false))
      have hg := eqGuard_ln
      generalize rs.getD k ([], false) = r at *
      generalize o1 + 2 * k = q1 at *
      generalize o2 + 2 * k = q2 at *
      obtain ⟨lx, lb⟩ := r
      simp only at a0 a1 b0 b1
      go_wp2
      refine wp_region_quiet_lit (by kernel_rfl) (by kernel_rfl) ?_
      repeat (first
        | go_big_quiet_skip
        | (go_big_quiet_want; go_big_quiet_op; (try go_bits); first | go_big_quiet_on | go_big_quiet_call (fail)))
      refine wpQuiet_nil ?_
      intro _ hw'
      obtain ⟨nq, hw''⟩ := hw'
      subst hw''
      rw [World.drewN_drewN]
      go_wp2
      go_roundw
      case rel => exact ⟨k + 1, by omega, by go_num, _, rfl⟩
      case measure => simp [intOf] <;> omega
    · obtain rfl : k = rs.length := by omega
      go_wp2
      go_ret
      exact ⟨rfl, ext_drewN (ext_refl _) _⟩
end Go.Proofs.YtmflnffjhfejhaaDoor
