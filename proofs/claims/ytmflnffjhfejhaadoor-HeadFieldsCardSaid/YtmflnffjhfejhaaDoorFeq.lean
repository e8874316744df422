/-
  slices.Equal over rows of texts: of equal rows it says true.
-/
import Derived.Deep.Quiet
import Derived.Test.YtmflnffjhfejhaaDoorRows
import Derived.Test.YtmflnffjhfejhaaDoorKit
namespace Go.Proofs.YtmflnffjhfejhaaDoor
open Go.RowKit
set_option linter.unusedVariables false
set_option linter.unusedSimpArgs false

theorem str_map (xs : List (List UInt8)) (k : Nat) (h : k < xs.length) : (xs.map Str)[k]? = some (Str xs[k]) := by simp [h]
set_option maxHeartbeats 1000000 in
theorem equal_same (v1 v2 : Value) (xs : List (List UInt8)) (w : World) (hx : xs.length ≤ 100000) (h1 : Sl w v1 (xs.map Str)) (h2 : Sl w v2 (xs.map Str)) :
    Calls Tryd.prog 20 #[v1, v2] w fun e w' => e = .returned (.bool true) ∧ Ext w w' := by
  obtain ⟨a1, c1, rfl, hc1, hm1, hn1, hcell1⟩ := h1
  obtain ⟨a2, c2, rfl, hc2, hm2, hn2, hcell2⟩ := h2
  rw [List.length_map] at *
  have i1 := run_index_adr (P := Tryd.prog) Tryd.underlying45 Tryd.sizeOf9 hn1 hc1
  have i2 := run_index_adr (P := Tryd.prog) Tryd.underlying45 Tryd.sizeOf9 hn2 hc2
  have HC1 := Lib.hid hcell1; have HC2 := Lib.hid hcell2
  clear hcell1 hcell2 hn1 hn2 hc1 hc2
  generalize hn : xs.length = n at *
  have Hn := Lib.hid hn; clear hn
  go_enter Tryd.func20, Tryd.ntmps20
  go_wp2
  go_loopw [13] (fun i wr => ∃ k : Nat, k ≤ n ∧ i = .int .i64 k ∧ Ext w wr) (fun i _ => n - (intOf i).toNat)
  case atStart => exact ⟨0, by omega, rfl, Below.refl _ _⟩
  case round =>
    obtain ⟨k, hk, rfl, hext⟩ := hrel
    by_cases h3 : k < n
    · have e1 := ext_cell hext (HC1.out k _ (str_map xs k (by rw [Hn.out]; exact h3)))
      have e2 := ext_cell hext (HC2.out k _ (str_map xs k (by rw [Hn.out]; exact h3)))
      generalize xs[k]'(by rw [Hn.out]; exact h3) = x at *
      go_wp2
      refine wp_region_quiet_lit (by kernel_rfl) (by kernel_rfl) ?_
      repeat (first
        | go_big_quiet_skip
        | (go_big_quiet_want; go_big_quiet_op; (try go_bits); first | go_big_quiet_on | go_big_quiet_call (fail)))
      refine wpQuiet_nil ?_
      intro _ hw'
      obtain ⟨nq, hw''⟩ := hw'
      subst hw''
      go_wp2
      go_roundw
      case rel => exact ⟨k + 1, by omega, by go_num, Below.drewN hext _⟩
      case measure => simp [intOf] <;> omega
    · go_wp2
      go_ret
      exact ⟨rfl, hext⟩
end Go.Proofs.YtmflnffjhfejhaaDoor
