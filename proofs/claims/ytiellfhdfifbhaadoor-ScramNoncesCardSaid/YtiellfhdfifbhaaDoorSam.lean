/-
  The law's own same, at two rows of one list.
-/
import Derived.Test.YtiellfhdfifbhaaDoorRows
import Derived.Test.YtiellfhdfifbhaaDoorLat
import Derived.Test.YtiellfhdfifbhaaDoorMsg
import Derived.Laws.StructEq
import Derived.BigQuiet
namespace Go.Proofs.YtiellfhdfifbhaaDoor
open Go.RowKit
set_option maxRecDepth 100000
set_option linter.unusedVariables false
set_option linter.unusedSimpArgs false

/-- A row of pairs. -/
def RowP (W : World) (v : Value) (ps : List (List UInt8)) : Prop :=
  ∃ ao cap, v = .slice ao ps.length cap ∧ (ao = none ∨ ∃ g, ao = some ⟨g, 0, none⟩) ∧ ps.length ≤ cap ∧ cap ≤ maxLen ∧ (ps ≠ [] → ∃ g, ao = some ⟨g, 0, none⟩ ∧ ∀ (j : Nat) p, ps[j]? = some p → W.cell? ⟨g, 2 * j, none⟩ = some (Str (p.take 1)) ∧ W.cell? ⟨g, 2 * j + 1, none⟩ = some (Str (p.drop 2)))
theorem rowP_of_own {W : World} {B e : Nat} {v : Value} {ps : List (List UInt8)} (h : W.ownsRow B e 2 v ps.length (attF ps)) : RowP W v ps := by
  rcases h.2 with ⟨hn, h0⟩ | ⟨g, cap, cur, hv, hbg, hg, hn, hm, _, ht⟩
  · exact ⟨none, 0, by rw [hn, h0], .inl rfl, by omega, by simp [maxLen], fun h => absurd (List.eq_nil_of_length_eq_zero h0) h⟩
  · refine ⟨_, cap, hv, .inr ⟨g, rfl⟩, hn, hm, fun _ => ⟨g, rfl, fun j p hj => ?_⟩⟩
    have hlt : j < ps.length := (List.getElem?_eq_some_iff.1 hj).1
    obtain ⟨a, b⟩ := attF_get ps j p hj
    rw [← ht, List.getElem?_take, if_pos (by omega)] at a b
    refine ⟨?_, ?_⟩
    · rw [cell_of_row W g _ cur e (0, 0) hg]; rw [← Array.getElem?_toList]; exact a
    · rw [cell_of_row W g _ cur e (0, 0) hg]; simpa using b
theorem RowP.ext {W C : World} {v : Value} {ps : List (List UInt8)} (h : RowP W v ps) (he : Ext W C) : RowP C v ps := by
  obtain ⟨ao, cap, hv, h0, h1, h2, h3⟩ := h
  refine ⟨ao, cap, hv, h0, h1, h2, fun hne => ?_⟩
  obtain ⟨g, ha, hc⟩ := h3 hne
  exact ⟨g, ha, fun j p hj => ⟨ext_cell he (hc j p hj).1, ext_cell he (hc j p hj).2⟩⟩
theorem RowP.cut {W : World} {ao : Option Addr} {n cap k : Nat} {ps : List (List UInt8)} (h : RowP W (.slice ao n cap) ps) (hk : k ≤ ps.length) : RowP W (.slice ao k cap) (ps.take k) := by
  obtain ⟨ao', cap', hv, h0, h1, h2, h3⟩ := h
  injection hv with e1 e2 e3
  subst e1; subst e3
  refine ⟨ao, cap, by rw [List.length_take, Nat.min_eq_left hk], h0, by rw [List.length_take]; omega, h2, fun hne => ?_⟩
  obtain ⟨g, ha, hc⟩ := h3 (fun h => hne (by rw [h]; simp))
  refine ⟨g, ha, fun j p hj => hc j p ?_⟩
  rw [List.getElem?_take] at hj
  split at hj
  · exact hj
  · cases hj
theorem RowP.slice {W0 : World} {v : Value} {ps : List (List UInt8)} (h : RowP W0 v ps) {k : Nat} (hk : k ≤ ps.length) : ∃ ao cap, v = .slice ao ps.length cap ∧ RowP W0 (.slice ao k cap) (ps.take k) ∧ ∀ W, (Instr.slice 24 v none (some (.int .i64 (k : Int))) none).run Tryd.prog W = .ok (.slice ao k cap) W := by
  have hh := h
  obtain ⟨ao, cap, rfl, h0, h1, h2, h3⟩ := h
  refine ⟨ao, cap, rfl, hh.cut hk, fun W => ?_⟩
  have hb := run_sliceBound (P := Tryd.prog) (w := W) .i64 (k : Int) cap .sliceAcap (by omega) (by omega)
  rcases h0 with rfl | ⟨g, rfl⟩
  · simp [Instr.slice, Instr.sliceBounds, run_underlying Tryd.underlying24, hb, Tryd.sizeOf28, Result.andThen]
  · simp [Instr.slice, Instr.sliceBounds, run_underlying Tryd.underlying24, hb, Tryd.sizeOf28, Result.andThen, Addr.add]
theorem elemPair : Tryd.prog.elem 24 = 28 := by kernel_rfl
theorem neq_pair (x y : List UInt8) (W : World) : (binOp .neq 28 (.agg #[Str x, Str y]) (.agg #[Str x, Str y])).run Tryd.prog W = .ok (.bool false) W := by
  have hu : Tryd.prog.underlying 28 = some (.struct (Tryd.prog.fieldsOf 28)) := by kernel_rfl
  have hp : Tryd.prog.stoodInHeld 28 = false := by kernel_rfl
  have hB : (match (Tryd.prog.fieldsOf 28).toList with | [f0, f1] => f0.type == 9 && f1.type == 9 && f0.offset == 0 && f1.offset == 1 && f0.name != "_" && f1.name != "_" | _ => false) = true := by kernel_rfl
  obtain ⟨f0, f1, hf⟩ : ∃ f0 f1, (Tryd.prog.fieldsOf 28).toList = [f0, f1] := by
    revert hB
    generalize (Tryd.prog.fieldsOf 28).toList = L
    intro hB
    match L, hB with
    | [a, b], _ => exact ⟨a, b, rfl⟩
  rw [hf] at hB
  simp only [Bool.and_eq_true, beq_iff_eq, bne_iff_ne, ne_eq] at hB
  obtain ⟨⟨⟨⟨⟨h0, h1⟩, o0⟩, o1⟩, n0⟩, n1⟩ := hB
  rw [run_neq_struct, show (10000 : Nat) = 9999 + 1 from rfl, run_equalIn_agg _ _ _ _ _ hu hp, hf]
  simp only [Op.eqFields, Sem.run_bind, h0, h1, o0, o1, n0, n1]
  simp [part, Tryd.isAgg9, Result.andThen, Sem.run_bind, run_equalIn_string (P := Tryd.prog) (w := W) 9998 9 _ _ Tryd.underlying9]
theorem eqGuard_pair (x y : Operand) (a b : List UInt8) (c d : List UInt8) (W : World) : (eqGuard .neq 28 x y (.agg #[Str a, Str b]) (.agg #[Str c, Str d])).run Tryd.prog W = .ok () W :=
  run_eqGuard_agg W .neq 28 x y _ _ (by kernel_rfl)
theorem index_pair (g n cap j : Nat) (hn : j < n) (W : World) : (Instr.indexAt 24 (.slice (some ⟨g, 0, none⟩) n cap) (.int .i64 (j : Int))).run Tryd.prog W = .ok (.pointer (some ⟨g, 2 * j, none⟩)) W := by
  rw [run_indexAt_slice (h := by rw [elemPair]; exact Tryd.underlying24), if_pos (by omega), elemPair]
  simp [Tryd.sizeOf28, Result.andThen, Addr.add, Nat.mul_comm]
  intro h; omega

set_option maxHeartbeats 1000000 in
theorem same_true (v1 v2 : Value) (ps : List (List UInt8)) (hl : ps.length ≤ 100000) (w : World) (h1 : RowP w v1 ps) (h2 : RowP w v2 ps) :
    Calls Tryd.prog 10 #[v1, v2] w fun e w' => e = .returned (.bool true) ∧ Ext w w' := by
  obtain ⟨ao1, c1, rfl, _, hc1, hm1, hr1⟩ := h1
  obtain ⟨ao2, c2, rfl, _, hc2, hm2, hr2⟩ := h2
  have hR : ps ≠ [] → ∃ g1 g2, ao1 = some ⟨g1, 0, none⟩ ∧ ao2 = some ⟨g2, 0, none⟩ ∧ ∀ (j : Nat) p, ps[j]? = some p → (w.cell? ⟨g1, 2 * j, none⟩ = some (Str (p.take 1)) ∧ w.cell? ⟨g1, 2 * j + 1, none⟩ = some (Str (p.drop 2))) ∧ (w.cell? ⟨g2, 2 * j, none⟩ = some (Str (p.take 1)) ∧ w.cell? ⟨g2, 2 * j + 1, none⟩ = some (Str (p.drop 2))) := by
    intro hne
    obtain ⟨g1, e1, r1⟩ := hr1 hne
    obtain ⟨g2, e2, r2⟩ := hr2 hne
    exact ⟨g1, g2, e1, e2, fun j p hj => ⟨r1 j p hj, r2 j p hj⟩⟩
  have HR := Lib.hid hR
  clear hR hr1 hr2
  obtain ⟨n, hn⟩ : ∃ n, ps.length = n := ⟨_, rfl⟩
  rw [hn] at hl hc1 hc2 ⊢
  have HN := Lib.hid hn
  clear hn
  go_enter Tryd.func10, Tryd.ntmps10
  go_wp2
  go_loopw [13] (fun i wr => ∃ k : Nat, k ≤ n ∧ i = .int .i64 k ∧ ∃ m, wr = w.drewN m) (fun i _ => n - (intOf i).toNat)
  case atStart => exact ⟨0, by omega, rfl, 0, rfl⟩
  case round =>
    obtain ⟨k, hk, rfl, m, rfl⟩ := hrel
    by_cases h3 : k < n
    · obtain ⟨p, hp⟩ : ∃ p, ps[k]? = some p := ⟨_, List.getElem?_eq_getElem (by rw [HN.out]; exact h3)⟩
      obtain ⟨g1, g2, e1, e2, hc⟩ := HR.out (by intro h; rw [h] at hp; simp at hp)
      obtain ⟨⟨d0, d1⟩, ⟨d2, d3⟩⟩ := hc k p hp
      subst e1; subst e2
      clear hc hp
      generalize p.take 1 = x at *
      generalize p.drop 2 = y at *
      have i1 := index_pair g1 n c1 k h3
      have i2 := index_pair g2 n c2 k h3
      have hq := neq_pair x y
      have hg := fun a b => eqGuard_pair a b x y x y
      go_wp2
      refine wp_region_quiet_lit (by kernel_rfl) (by kernel_rfl) ?_
      repeat (first
        | go_big_quiet_skip
        | (go_big_quiet_want; go_big_quiet_op; (try go_bits); first | go_big_quiet_on | go_big_quiet_call (fail)))
      refine wpQuiet_nil ?_
      intro _ hw'
      obtain ⟨nq, hw''⟩ := hw'
      subst hw''
      rw [World.drewN_drewN]
      go_wp2
      go_roundw
      case rel => exact ⟨k + 1, by omega, by go_num, _, rfl⟩
      case measure => simp [intOf] <;> omega
    · obtain rfl : k = n := by omega
      go_wp2
      go_ret
      exact ⟨rfl, ext_drewN (ext_refl _) _⟩
end Go.Proofs.YtiellfhdfifbhaaDoor
