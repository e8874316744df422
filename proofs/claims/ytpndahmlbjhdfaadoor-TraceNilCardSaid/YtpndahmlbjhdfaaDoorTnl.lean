/-
  TraceNil: the law's walk.
-/
import Derived.Test.YtpndahmlbjhdfaaDoorRows
import Derived.Test.YtpndahmlbjhdfaaDoorTaw
import Derived.Test.YtpndahmlbjhdfaaDoorTfi
namespace Go.Proofs.YtpndahmlbjhdfaaDoor
open Go.RowKit
set_option maxRecDepth 100000
attribute [local go_sem] Oper.semAt_some
set_option linter.unusedVariables false
set_option linter.unusedSimpArgs false
set_option maxHeartbeats 2000000 in
theorem tnil_any (room : Int) (h1 : -9223372036854775808 ≤ room) (h2 : room ≤ 9223372036854775807) (n : Int) (h3 : 0 ≤ n) (h4 : n ≤ 18446744073709551615) (l : List UInt8) (w : World) (hT : Tw w) :
    Calls Tryd.prog 5 #[.int .i64 room, .int .u64 n, Str l] w fun e w' => e = .returned (.bool true) ∧ Ext w w' := by
  obtain ⟨m, rfl⟩ : ∃ m : Nat, n = (m : Int) := ⟨n.toNat, by omega⟩
  have HAW := Lib.hid (awake_law w hT)
  clear hT
  go_enter Tryd.func5, Tryd.ntmps5
  go_wp2_with (go_at_call 8; refine HAW.out.mono ?_; rintro e W1 ⟨rfl, hx1⟩)
  have HX1 := Lib.hid hx1
  clear hx1
  refine (cutText_any l 40 W1 (by omega)).mono ?_
  rintro e W2 ⟨rfl, rfl⟩
  have hm : m < 18446744073709551616 := by omega
  go_wp2_with fail
  refine (Add_nil m hm _ [] 0 _).mono ?_
  rintro e W2 ⟨rfl, rfl⟩
  go_wp2_with fail
  refine (New_any room h1 h2 _).mono ?_
  rintro e W2 ⟨h, hx2⟩
  have HX2 := Lib.hid (ext_trans HX1.out hx2)
  clear hx2
  rcases h with ⟨hr | hr, rfl⟩ | ⟨hr1, hr2, p, cv, rfl, -⟩
  · have q1 : decide (1 ≤ room) = false := decide_eq_false (by omega)
    go_wp2_with fail
    refine (last_nil _).mono ?_
    rintro e W3 ⟨rfl, rfl⟩
    go_wp2_with fail
    refine (first_nil _).mono ?_
    rintro e W3 ⟨rfl, hx⟩
    have HX3 := Lib.hid (ext_trans HX2.out hx)
    clear hx
    go_wp2_with fail
    refine (chain_nil _).mono ?_
    rintro e W4 ⟨rfl, rfl⟩
    go_wp2_with fail
    refine (since_nil 0 (by omega) _).mono ?_
    rintro e W4 ⟨f4, rfl, hsq, hx⟩
    have HX4 := Lib.hid (ext_trans HX3.out hx)
    have HC := Lib.hid (collectS_any f4 [] (by simp) _ W4 hsq)
    clear hsq hx
    go_wp2_with fail
    refine HC.out.mono ?_
    rintro e W5 ⟨v5, rfl, ho, hx⟩
    obtain ⟨ao5, cp5, rfl, -⟩ := ho.row
    have HX5 := Lib.hid (ext_trans HX4.out hx)
    clear ho hx HC
    have HA := Lib.hid (show ∀ o, Ext W5 (W5.alloc o) from fun o => Below.alloc (Below.refl _ _) (Nat.le_refl _) _)
    go_wp2_with fail
    refine (of_nil _ _ _ _).mono ?_
    rintro e W6 ⟨f6, rfl, hsq, hx⟩
    have HX6 := Lib.hid (ext_trans HX5.out (ext_trans (HA.out _) hx))
    have HC := Lib.hid (collectS_any f6 [] (by simp) _ W6 hsq)
    clear hsq hx HA
    go_wp2_with fail
    refine HC.out.mono ?_
    rintro e W7 ⟨v7, rfl, ho, hx⟩
    obtain ⟨ao7, cp7, rfl, -⟩ := ho.row
    have HX7 := Lib.hid (ext_trans HX6.out hx)
    clear ho hx HC
    go_wp2_with fail
    refine (about_nil 0 (by omega) _).mono ?_
    rintro e W8 ⟨f8, rfl, hsq, hx⟩
    have HX8 := Lib.hid (ext_trans HX7.out hx)
    have HC := Lib.hid (collectS_any f8 [] (by simp) _ W8 hsq)
    clear hsq hx
    go_wp2_with fail
    refine HC.out.mono ?_
    rintro e W9 ⟨v9, rfl, ho, hx⟩
    obtain ⟨ao9, cp9, rfl, -⟩ := ho.row
    have HX9 := Lib.hid (ext_trans HX8.out hx)
    clear ho hx HC
    go_wp2
    go_ret
    exact ⟨rfl, HX9.out⟩
  · have q1 : decide (1 ≤ room) = true := decide_eq_true (by omega)
    have q2 : decide (room ≤ 256) = false := decide_eq_false (by omega)
    go_wp2_with fail
    refine (last_nil _).mono ?_
    rintro e W3 ⟨rfl, rfl⟩
    go_wp2_with fail
    refine (first_nil _).mono ?_
    rintro e W3 ⟨rfl, hx⟩
    have HX3 := Lib.hid (ext_trans HX2.out hx)
    clear hx
    go_wp2_with fail
    refine (chain_nil _).mono ?_
    rintro e W4 ⟨rfl, rfl⟩
    go_wp2_with fail
    refine (since_nil 0 (by omega) _).mono ?_
    rintro e W4 ⟨f4, rfl, hsq, hx⟩
    have HX4 := Lib.hid (ext_trans HX3.out hx)
    have HC := Lib.hid (collectS_any f4 [] (by simp) _ W4 hsq)
    clear hsq hx
    go_wp2_with fail
    refine HC.out.mono ?_
    rintro e W5 ⟨v5, rfl, ho, hx⟩
    obtain ⟨ao5, cp5, rfl, -⟩ := ho.row
    have HX5 := Lib.hid (ext_trans HX4.out hx)
    clear ho hx HC
    have HA := Lib.hid (show ∀ o, Ext W5 (W5.alloc o) from fun o => Below.alloc (Below.refl _ _) (Nat.le_refl _) _)
    go_wp2_with fail
    refine (of_nil _ _ _ _).mono ?_
    rintro e W6 ⟨f6, rfl, hsq, hx⟩
    have HX6 := Lib.hid (ext_trans HX5.out (ext_trans (HA.out _) hx))
    have HC := Lib.hid (collectS_any f6 [] (by simp) _ W6 hsq)
    clear hsq hx HA
    go_wp2_with fail
    refine HC.out.mono ?_
    rintro e W7 ⟨v7, rfl, ho, hx⟩
    obtain ⟨ao7, cp7, rfl, -⟩ := ho.row
    have HX7 := Lib.hid (ext_trans HX6.out hx)
    clear ho hx HC
    go_wp2_with fail
    refine (about_nil 0 (by omega) _).mono ?_
    rintro e W8 ⟨f8, rfl, hsq, hx⟩
    have HX8 := Lib.hid (ext_trans HX7.out hx)
    have HC := Lib.hid (collectS_any f8 [] (by simp) _ W8 hsq)
    clear hsq hx
    go_wp2_with fail
    refine HC.out.mono ?_
    rintro e W9 ⟨v9, rfl, ho, hx⟩
    obtain ⟨ao9, cp9, rfl, -⟩ := ho.row
    have HX9 := Lib.hid (ext_trans HX8.out hx)
    clear ho hx HC
    go_wp2
    go_ret
    exact ⟨rfl, HX9.out⟩
  · have q1 : decide (1 ≤ room) = true := decide_eq_true (by omega)
    have q2 : decide (room ≤ 256) = true := decide_eq_true (by omega)
    go_wp2_with fail
    refine (last_nil _).mono ?_
    rintro e W3 ⟨rfl, rfl⟩
    go_wp2_with fail
    refine (first_nil _).mono ?_
    rintro e W3 ⟨rfl, hx⟩
    have HX3 := Lib.hid (ext_trans HX2.out hx)
    clear hx
    go_wp2_with fail
    refine (chain_nil _).mono ?_
    rintro e W4 ⟨rfl, rfl⟩
    go_wp2_with fail
    refine (since_nil 0 (by omega) _).mono ?_
    rintro e W4 ⟨f4, rfl, hsq, hx⟩
    have HX4 := Lib.hid (ext_trans HX3.out hx)
    have HC := Lib.hid (collectS_any f4 [] (by simp) _ W4 hsq)
    clear hsq hx
    go_wp2_with fail
    refine HC.out.mono ?_
    rintro e W5 ⟨v5, rfl, ho, hx⟩
    obtain ⟨ao5, cp5, rfl, -⟩ := ho.row
    have HX5 := Lib.hid (ext_trans HX4.out hx)
    clear ho hx HC
    have HA := Lib.hid (show ∀ o, Ext W5 (W5.alloc o) from fun o => Below.alloc (Below.refl _ _) (Nat.le_refl _) _)
    go_wp2_with fail
    refine (of_nil _ _ _ _).mono ?_
    rintro e W6 ⟨f6, rfl, hsq, hx⟩
    have HX6 := Lib.hid (ext_trans HX5.out (ext_trans (HA.out _) hx))
    have HC := Lib.hid (collectS_any f6 [] (by simp) _ W6 hsq)
    clear hsq hx HA
    go_wp2_with fail
    refine HC.out.mono ?_
    rintro e W7 ⟨v7, rfl, ho, hx⟩
    obtain ⟨ao7, cp7, rfl, -⟩ := ho.row
    have HX7 := Lib.hid (ext_trans HX6.out hx)
    clear ho hx HC
    go_wp2_with fail
    refine (about_nil 0 (by omega) _).mono ?_
    rintro e W8 ⟨f8, rfl, hsq, hx⟩
    have HX8 := Lib.hid (ext_trans HX7.out hx)
    have HC := Lib.hid (collectS_any f8 [] (by simp) _ W8 hsq)
    clear hsq hx
    go_wp2_with fail
    refine HC.out.mono ?_
    rintro e W9 ⟨v9, rfl, ho, hx⟩
    obtain ⟨ao9, cp9, rfl, -⟩ := ho.row
    have HX9 := Lib.hid (ext_trans HX8.out hx)
    clear ho hx HC
    go_wp2
    go_ret
    exact ⟨rfl, HX9.out⟩
end Go.Proofs.YtpndahmlbjhdfaaDoor
