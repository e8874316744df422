/-
  ref16.over.
-/
import Derived.BigGuardPart
import Derived.RegionTactic
import Derived.Deep.RegionHeld3
import Derived.Deep.DrawnRows
import Derived.Test.YtjbobblnicnhnaaDoorRows
import Derived.Test.YtjbobblnicnhnaaDoorCov
namespace Go.Proofs.YtjbobblnicnhnaaDoor
open Go.RowKit
set_option maxRecDepth 100000
attribute [local go_sem ↓] Go.wp_at_zero Go.wp_at_succ
set_option linter.unusedVariables false
set_option linter.unusedSimpArgs false

set_option maxHeartbeats 4000000 in
theorem overR_any (a b : List UInt8) (ha : a.length ≤ 10000) (hb : b.length ≤ 10000) (w : World) :
    Calls Tryd.prog 43 #[Str a, Str b] w fun e w' => e = .returned (.bool (overD a b)) ∧ Ext w w' := by
  have hixa : ∀ i, i < a.length → ∀ W, (Instr.index 9 (Str a) (.int .i64 (i : Int))).run Tryd.prog W = .ok (Byt (bt a i)) W := fun i hi W => run_index_str Tryd.underlying9 a i _ rfl hi W
  have HI := Lib.hid hixa; clear hixa
  have hbe := str_beq a b
  have hov := Lib.hid (show overD a b = ((a == [42]) || ((a == b) || (decide (a.count 42 = 1) && (decide (a.length - 1 ≤ b.length) && ((a.getD (a.length - 1) 0 == 42 && b.take (a.length - 1) == a.take (a.length - 1)) || (a.getD 0 0 == 42 && b.drop (b.length - (a.length - 1)) == a.drop 1)))))) from rfl)
  cases h1 : (a == [42]) with
  | true =>
    go_enter Tryd.func43, Tryd.ntmps43
    go_wp2
    go_ret
    exact ⟨by rw [hov.out, h1]; rfl, ext_refl w⟩
  | false =>
    cases h2 : (a == b) with
    | true =>
      go_enter Tryd.func43, Tryd.ntmps43
      go_wp2
      go_ret
      exact ⟨by rw [hov.out, h1, h2]; rfl, ext_refl w⟩
    | false =>
      rw [h1, h2, Bool.false_or, Bool.false_or] at hov
      have hcs : ∀ k, k < a.length → (a.take (k + 1)).count 42 = (a.take k).count 42 + if bt a k = 42 then 1 else 0 := fun k hk => by
        rw [take_snoc a k hk, List.count_append]
        by_cases e : bt a k = 42
        · rw [if_pos e, e]; rfl
        · rw [if_neg e, List.count_singleton]; simp [e]
      have HCS := Lib.hid hcs; clear hcs
      go_enter Tryd.func43, Tryd.ntmps43
      go_wp2
      go_loop [5, 6] (fun s i => ∃ k : Nat, k ≤ a.length ∧ i = .int .i64 k ∧ s = .int .i64 (((a.take k).count 42 : Nat) : Int)) (fun _ i => a.length - (intOf i).toNat)
      case atStart => exact ⟨0, by omega, rfl, rfl⟩
      case round =>
        obtain ⟨k, hk, rfl, rfl⟩ := hrel
        by_cases h3 : k < a.length
        · have hix := HI.out k h3
          have hc := HCS.out k h3
          have hcl : (a.take k).count 42 ≤ 10000 := Nat.le_trans List.count_le_length (by simp; omega)
          have HC := Lib.hid hc; clear hc
          have hcb := (bt a k).toNat_lt
          by_cases h42 : bt a k = 42
          · have u1 : (((bt a k).toNat : Int) == 42) = true := by rw [h42]; rfl
            have HC2 : Hid ((a.take (k + 1)).count 42 = (a.take k).count 42 + 1) := Lib.hid (by rw [HC.out, if_pos h42])
            clear HC h42
            generalize bt a k = c at *
            generalize (a.take k).count 42 = n at *
            go_wp2
            go_round
            case rel => exact ⟨k + 1, by omega, by go_num, by rw [HC2.out]; go_num⟩
            case measure => simp [intOf] <;> omega
          · have u1 : (((bt a k).toNat : Int) == 42) = false := by
              have : (bt a k).toNat ≠ 42 := fun h => h42 (UInt8.toNat_inj.1 h)
              simp; omega
            have HC2 : Hid ((a.take (k + 1)).count 42 = (a.take k).count 42) := Lib.hid (by rw [HC.out, if_neg h42]; rfl)
            clear HC h42
            generalize bt a k = c at *
            generalize (a.take k).count 42 = n at *
            go_wp2
            go_round
            case rel => exact ⟨k + 1, by omega, by go_num, by rw [HC2.out]⟩
            case measure => simp [intOf] <;> omega
        · have hkl : k = a.length := by omega
          subst hkl
          rw [List.take_length]
          have hcl : a.count 42 ≤ 10000 := Nat.le_trans List.count_le_length (by omega)
          by_cases hc1 : a.count 42 = 1
          · have hpos : 0 < a.length := by
              have := List.count_le_length (a := (42 : UInt8)) (l := a); omega
            rw [show decide (a.count 42 = 1) = true by simp [hc1], Bool.true_and] at hov
            have u1 : (((a.count 42 : Nat) : Int) == 1) = true := by rw [hc1]; rfl
            have u2 : (((a.count 42 : Nat) : Int) != 1) = false := by rw [hc1]; rfl
            generalize a.count 42 = cn at *
            clear hc1
            by_cases hle : a.length - 1 ≤ b.length
            · have t1 : decide ((b.length : Int) < (a.length : Int) - 1) = false := by simp; omega
              have HN := Lib.hid (show overD a b = ((bt a (a.length - 1) == 42 && b.take (a.length - 1) == a.take (a.length - 1)) || (bt a 0 == 42 && b.drop (b.length - (a.length - 1)) == a.drop 1)) by rw [hov.out]; simp [hle, bt])
              have hixn : ∀ W, (Instr.index 9 (Str a) (.int .i64 ((a.length : Int) - 1))).run Tryd.prog W = .ok (Byt (bt a (a.length - 1))) W := fun W => run_index_str Tryd.underlying9 a (a.length - 1) _ (by omega) (by omega) W
              have hix0 : ∀ W, (Instr.index 9 (Str a) (.int .i64 0)).run Tryd.prog W = .ok (Byt (bt a 0)) W := fun W => run_index_str Tryd.underlying9 a 0 _ rfl hpos W
              have s1 : ∀ W, (Instr.slice 9 (Str b) none (some (.int .i64 ((a.length : Int) - 1))) none).run Tryd.prog W = .ok (Str (b.take (a.length - 1))) W := fun W => by
                have h := run_slice_string_h (P := Tryd.prog) (w := W) 9 ⟨b.toArray⟩ Tryd.underlying9 .i64 ((a.length : Int) - 1) (by omega) (by rw [size_list]; omega)
                rw [h]; simp [extract_list, size_list]
                all_goals (congr 1; omega)
              have s2 : ∀ W, (Instr.slice 9 (Str a) none (some (.int .i64 ((a.length : Int) - 1))) none).run Tryd.prog W = .ok (Str (a.take (a.length - 1))) W := fun W => by
                have h := run_slice_string_h (P := Tryd.prog) (w := W) 9 ⟨a.toArray⟩ Tryd.underlying9 .i64 ((a.length : Int) - 1) (by omega) (by rw [size_list]; omega)
                rw [h]; simp [extract_list, size_list]
                all_goals (congr 1; omega)
              have s3 : ∀ W, (Instr.slice 9 (Str b) (some (.int .i64 ((b.length : Int) - ((a.length : Int) - 1)))) none none).run Tryd.prog W = .ok (Str (b.drop (b.length - (a.length - 1)))) W := fun W => by
                have h := run_slice_string_l (P := Tryd.prog) (w := W) 9 ⟨b.toArray⟩ Tryd.underlying9 .i64 ((b.length : Int) - ((a.length : Int) - 1)) (by omega) (by rw [size_list]; omega)
                rw [h]; simp [extract_list, size_list]
                all_goals (congr 1; omega)
              have s4 : ∀ W, (Instr.slice 9 (Str a) (some (.int .i64 1)) none none).run Tryd.prog W = .ok (Str (a.drop 1)) W := fun W => by
                have h := run_slice_string_l (P := Tryd.prog) (w := W) 9 ⟨a.toArray⟩ Tryd.underlying9 .i64 1 (by omega) (by rw [size_list]; omega)
                rw [h]; simp [extract_list, size_list]
              have e1 := str_beq (b.take (a.length - 1)) (a.take (a.length - 1))
              have e2 := str_beq (b.drop (b.length - (a.length - 1))) (a.drop 1)
              have k1 : (bt a (a.length - 1) == 42) = (((bt a (a.length - 1)).toNat : Int) == 42) := by
                by_cases e : bt a (a.length - 1) = 42
                · rw [e]; rfl
                · have : (bt a (a.length - 1)).toNat ≠ 42 := fun h => e (UInt8.toNat_inj.1 h)
                  rw [show (bt a (a.length - 1) == 42) = false by simpa using e]; symm; simp; omega
              have k2 : (bt a 0 == 42) = (((bt a 0).toNat : Int) == 42) := by
                by_cases e : bt a 0 = 42
                · rw [e]; rfl
                · have : (bt a 0).toNat ≠ 42 := fun h => e (UInt8.toNat_inj.1 h)
                  rw [show (bt a 0 == 42) = false by simpa using e]; symm; simp; omega
              rw [k1, k2] at HN
              clear k1 k2 hov
              generalize bt a (a.length - 1) = cl at *
              generalize bt a 0 = cf at *
              generalize b.take (a.length - 1) = x1 at *
              generalize a.take (a.length - 1) = x2 at *
              generalize b.drop (b.length - (a.length - 1)) = x3 at *
              generalize a.drop 1 = x4 at *
              cases v1 : ((cl.toNat : Int) == 42) <;> cases v2 : (x1 == x2) <;> cases v3 : ((cf.toNat : Int) == 42)
              all_goals
                go_wp2
                go_quiet (fail)
                go_wp2
                go_ret
                exact ⟨ret_bool (by rw [HN.out, v1, v2, v3]; rfl), by first | exact ext_refl w | exact ext_drewN (ext_refl w) _⟩
            · have t1 : decide ((b.length : Int) < (a.length : Int) - 1) = true := by simp; omega
              have HN := Lib.hid (show overD a b = false by rw [hov.out]; simp [hle])
              clear hov
              go_wp2
              go_ret
              exact ⟨by rw [HN.out]; rfl, ext_refl w⟩
          · have u1 : (((a.count 42 : Nat) : Int) == 1) = false := by simp; omega
            have u2 : (((a.count 42 : Nat) : Int) != 1) = true := by simp; omega
            have HN := Lib.hid (show overD a b = false by rw [hov.out]; simp [hc1])
            clear hov hc1
            generalize a.count 42 = cn at *
            go_wp2
            go_ret
            exact ⟨by rw [HN.out]; rfl, ext_refl w⟩
end Go.Proofs.YtjbobblnicnhnaaDoor
