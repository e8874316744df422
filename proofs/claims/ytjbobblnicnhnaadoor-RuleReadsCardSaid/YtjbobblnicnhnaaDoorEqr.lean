/-
  slices.Equal over rows of the document's rules: of equal rows it says true.
-/
import Derived.Laws.StructEq
import Derived.BigQuiet
import Derived.Test.YtjbobblnicnhnaaDoorRows
import Derived.Test.YtjbobblnicnhnaaDoorWhr
import Derived.Test.YtjbobblnicnhnaaDoorSys
namespace Go.Proofs.YtjbobblnicnhnaaDoor
open Go.RowKit
set_option maxRecDepth 100000
set_option linter.unusedVariables false
set_option linter.unusedSimpArgs false

theorem neq_ru (r : Ru) (W : World) : (binOp .neq 26 (ruV r) (ruV r)).run Tryd.prog W = .ok (.bool false) W := by
  have hu : Tryd.prog.underlying 26 = some (.struct (Tryd.prog.fieldsOf 26)) := by kernel_rfl
  have hp : Tryd.prog.stoodInHeld 26 = false := by kernel_rfl
  have hB : (match (Tryd.prog.fieldsOf 26).toList with | [f0, f1, f2, f3, f4, f5] => f0.type == 4 && f1.type == 9 && f2.type == 9 && f3.type == 9 && f4.type == 3 && f5.type == 3 && f0.offset == 0 && f1.offset == 1 && f2.offset == 2 && f3.offset == 3 && f4.offset == 4 && f5.offset == 5 && f0.name != "_" && f1.name != "_" && f2.name != "_" && f3.name != "_" && f4.name != "_" && f5.name != "_" | _ => false) = true := by kernel_rfl
  obtain ⟨f0, f1, f2, f3, f4, f5, hf⟩ : ∃ f0 f1 f2 f3 f4 f5, (Tryd.prog.fieldsOf 26).toList = [f0, f1, f2, f3, f4, f5] := by
    revert hB
    generalize (Tryd.prog.fieldsOf 26).toList = L
    intro hB
    match L, hB with
    | [a, b, c, d, e, f], _ => exact ⟨a, b, c, d, e, f, rfl⟩
  rw [hf] at hB
  simp only [Bool.and_eq_true, beq_iff_eq, bne_iff_ne, ne_eq] at hB
  obtain ⟨⟨⟨⟨⟨⟨⟨⟨⟨⟨⟨⟨⟨⟨⟨⟨⟨h0, h1⟩, h2⟩, h3⟩, h4⟩, h5⟩, o0⟩, o1⟩, o2⟩, o3⟩, o4⟩, o5⟩, n0⟩, n1⟩, n2⟩, n3⟩, n4⟩, n5⟩ := hB
  rw [run_neq_struct, show (10000 : Nat) = 9999 + 1 from rfl, run_equalIn_agg _ _ _ _ _ hu hp, hf]
  simp only [Op.eqFields, Sem.run_bind, h0, h1, h2, h3, h4, h5, o0, o1, o2, o3, o4, o5, n0, n1, n2, n3, n4, n5]
  simp [part, Tryd.isAgg9, Tryd.isAgg4, Tryd.isAgg3, Result.andThen, Sem.run_bind, run_equalIn_string (P := Tryd.prog) (w := W) 9998 9 _ _ Tryd.underlying9, run_equalIn_bool' (P := Tryd.prog) (w := W) 9998 4 _ _ Tryd.underlying4, run_equalIn_int (P := Tryd.prog) (w := W) 9998 3 _ _ _ _ Tryd.underlying3]
theorem eqGuard_ru (x y : Operand) (a b : Array Value) (W : World) : (eqGuard .neq 26 x y (.agg a) (.agg b)).run Tryd.prog W = .ok () W :=
  run_eqGuard_agg W .neq 26 x y _ _ (by kernel_rfl)
set_option maxHeartbeats 2000000 in
theorem equalRows_same (v1 v2 : Value) (rs : List Ru) (w : World) (h1 : RowU w v1 rs) (h2 : RowU w v2 rs) :
    Calls Tryd.prog 30 #[v1, v2] w fun e w' => e = .returned (.bool true) ∧ Ext w w' := by
  obtain ⟨ao1, c1, rfl, hc1, hm1, hr1⟩ := rowU_shape h1
  obtain ⟨ao2, c2, rfl, hc2, hm2, hr2⟩ := rowU_shape h2
  unfold maxLen at hm1
  have HR1 := Lib.hid hr1; have HR2 := Lib.hid hr2
  have HIX := Lib.hid index_ruleR
  clear hr1 hr2 h1 h2
  go_enter Tryd.func30, Tryd.ntmps30
  go_wp2
  go_loopw [13] (fun i wr => ∃ k : Nat, k ≤ rs.length ∧ i = .int .i64 k ∧ ∃ m, wr = w.drewN m) (fun i _ => rs.length - (intOf i).toNat)
  case atStart => exact ⟨0, by omega, rfl, 0, rfl⟩
  case round =>
    obtain ⟨k, hk, rfl, m, rfl⟩ := hrel
    by_cases h3 : k < rs.length
    · rcases HR1.out with h | ⟨g1, o1, rfl, hl1⟩
      · subst h; simp at h3
      rcases HR2.out with h | ⟨g2, o2, rfl, hl2⟩
      · subst h; simp at h3
      obtain ⟨a0, a1, a2, a3, a4, a5⟩ := hl1 k h3
      obtain ⟨b0, b1, b2, b3, b4, b5⟩ := hl2 k h3
      have i1 := HIX.out g1 o1 rs.length c1 k h3
      have i2 := HIX.out g2 o2 rs.length c2 k h3
      clear hl1 hl2
      have hq := neq_ru (rs.getD k ruD)
      have hg := eqGuard_ru
      generalize rs.getD k ruD = r at *
      generalize o1 + 6 * k = q1 at *
      generalize o2 + 6 * k = q2 at *
      obtain ⟨al, ro, te, ho, fr, tu⟩ := r
      simp only at a0 a1 a2 a3 a4 a5 b0 b1 b2 b3 b4 b5
      go_wp2
      refine wp_region_quiet_lit (by kernel_rfl) (by kernel_rfl) ?_
      repeat (first
        | go_big_quiet_skip
        | (go_big_quiet_want; go_big_quiet_op; (try go_bits); first | go_big_quiet_on | go_big_quiet_call (fail)))
      refine wpQuiet_nil ?_
      intro _ hw'
      obtain ⟨nq, hw''⟩ := hw'
      subst hw''
      rw [World.drewN_drewN]
      go_wp2
      go_roundw
      case rel => exact ⟨k + 1, by omega, by go_num, _, rfl⟩
      case measure => simp [intOf] <;> omega
    · obtain rfl : k = rs.length := by omega
      go_wp2
      go_ret
      exact ⟨rfl, ext_drewN (ext_refl _) _⟩
end Go.Proofs.YtjbobblnicnhnaaDoor
