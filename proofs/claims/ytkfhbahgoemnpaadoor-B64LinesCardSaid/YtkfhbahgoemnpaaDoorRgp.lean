/-
  ref03.Groups; slices.Equal over rows of texts.
-/
import Derived.Deep.RegionLaw
import Derived.Test.YtkfhbahgoemnpaaDoorRows
import Derived.Test.YtkfhbahgoemnpaaDoorApn
import Derived.Test.YtkfhbahgoemnpaaDoorReg
namespace Go.Proofs.YtkfhbahgoemnpaaDoor
open Go.RowKit
set_option linter.unusedVariables false
set_option linter.unusedSimpArgs false

def strLenV : Value → Nat | .string s => s.size | _ => 0
theorem run_max_nat (P : Program) (a b : Nat) (b' : Int) (hb : b' = (b : Int)) : ∀ (ts : Array TypeId) (t : TypeId) (W : World), (Builtin.max_ ts t #[.int .i64 (a : Int), .int .i64 b']).run P W = .ok (.int .i64 ((max a b : Nat) : Int)) W := by
  intro ts t W
  subst hb
  simp only [Builtin.max_, List.foldlM, Builtin.max2, Sem.run_bind, Sem.run_pure, Result.andThen]
  by_cases h : a < b
  · rw [if_pos (by omega)]; simp [Nat.max_eq_right (Nat.le_of_lt h)]
  · rw [if_neg (by omega)]; simp [Nat.max_eq_left (Nat.le_of_not_lt h)]

theorem gcnt_last {m n k : Nat} (hm : 0 < m) (h1 : n = 0 ∨ m * k < n) (h2 : n - m * k ≤ m) (hk : n = 0 → k = 0) : gcnt m n = if 0 < n - m * k then k + 1 else k := by
  rcases h1 with h1 | h1
  · have := hk h1; subst this; subst h1
    simp [gcnt]; omega
  · rw [if_pos (by omega)]
    have e1 := (gcnt_lt (n := n) k hm).2 h1
    have e2 : ¬ (k + 1 < gcnt m n) := fun h => by
      have := (gcnt_lt (n := n) (k + 1) hm).1 h
      rw [Nat.mul_add, Nat.mul_one] at this; omega
    omega

/-- From where the size is settled. -/
theorem piece_all {m : Nat} {l : List UInt8} {k : Nat} (h : l.length - m * k ≤ m) : (l.drop (m * k)).take m = l.drop (m * k) := List.take_of_length_le (by simp; omega)

set_option maxHeartbeats 1000000 in
theorem refGroups_pos (l : List UInt8) (m : Nat) (h0 : 0 < m) (w : World) (hl : l.length ≤ 10000) :
    Calls Tryd.prog 15 #[Str l, .int .i64 (m : Int)] w fun e w' => ∃ v, e = .returned v ∧ w'.ownsRow w.heap.size 9 1 v (grpL (m : Int) l).length ((grpL (m : Int) l).map Str) ∧ Ext w w' := by
  have hres := Lib.hid (show grpL (m : Int) l = grpN (gsz (m : Int) l.length) l (gcnt (gsz (m : Int) l.length) l.length) from rfl)
  have hm := gsz_pos (m : Int) l.length
  have hml := fun k => @gcnt_last (gsz (m : Int) l.length) l.length k
  have hsz : gsz (m : Int) l.length = m := by simp [gsz]; omega
  rw [hsz] at hres hm hml
  have hq : decide ((m : Int) < 1) = false := by simp; omega
  clear hsz h0
  have Hml := Lib.hid hml; clear hml
  go_enter Tryd.func15, Tryd.ntmps15
  go_wp2
  go_loopw [0, 5] (fun s o wr => ∃ k : Nat, s = Str (l.drop (m * k)) ∧ m * k ≤ l.length ∧ (l.length = 0 → k = 0) ∧ (l.length = 0 ∨ m * k < l.length) ∧ wr.ownsRow w.heap.size 9 1 o k ((grpN m l k).map Str) ∧ Ext w wr) (fun s _ _ => strLenV s)
  case atStart => exact ⟨0, rfl, by omega, fun _ => rfl, by omega, World.ownsRow_nil _ _ _ _, Below.refl _ _⟩
  case round =>
    obtain ⟨k, rfl, hk, hk0, hk1, hown, hext⟩ := hrel
    have Hown := Lib.hid hown; clear hown
    have HK := Lib.hid (show _ ∧ _ ∧ _ from ⟨hk, hk0, hk1⟩); clear hk hk0 hk1
    have hrl : (l.drop (m * k)).length = l.length - m * k := by simp
    have hnx : (l.drop (m * k)).drop m = l.drop (m * (k + 1)) := by rw [List.drop_drop, Nat.mul_add, Nat.mul_one]
    have hgs := grpN_succ m l k
    have Hpa := Lib.hid (@piece_all m l k)
    have hkl : k ≤ 10000 := by
      have : k ≤ m * k := Nat.le_mul_of_pos_left k hm
      have := HK.out.1; omega
    obtain ⟨r, hr⟩ : ∃ r, l.drop (m * k) = r := ⟨_, rfl⟩
    rw [hr] at hrl hnx hgs Hpa ⊢
    have Hrl := Lib.hid hrl
    have Hnx := Lib.hid hnx; have Hgs := Lib.hid hgs
    have hrb : r.length ≤ 10000 := by omega
    clear hr hrl hnx hgs
    by_cases h3 : m < r.length
    · have hle : m ≤ r.length := by omega
      have hlt : strLenV (Str (l.drop (m * (k + 1)))) < strLenV (Str r) := by
        rw [← Hnx.out]; simp only [strLenV, Str, size_list, List.length_drop]; omega
      have Hlt := Lib.hid hlt; clear hlt
      have hK2 := Lib.hid (show m * (k + 1) < l.length by rw [Nat.mul_add, Nat.mul_one]; have := Hrl.out; omega)
      go_wp2
      go_region_law (try rw [drew_alloc]; refine step_push w.heap.size rfl _ _ 36 9 rfl Tryd.underlying36 infoStr rfl (by omega) (own_ext Hown.out (Below.drew (Below.refl _ _))) _ rfl (by omega) hext.size rfl rfl ?_; rintro _ w1 ⟨g1, cap1, rfl⟩ hown1 hgr1; have Hown1 := Lib.hid hown1; have Hgr1 := Lib.hid hgr1; clear hown1 hgr1)
      have hex1 := Lib.hid (ext_push (Below.drew hext) (own_ext Hown.out (Below.drew (Below.refl _ _))) Hgr1.out)
      go_simp
      go_wp2
      go_roundw
      case rel => exact ⟨k + 1, by rw [← Hnx.out], Nat.le_of_lt hK2.out, fun h => by have := hK2.out; omega, .inr hK2.out, by rw [Hgs.out, List.map_append]; exact Hown1.out, hex1.out⟩
      case measure => rw [Hnx.out]; exact Hlt.out
    · have hfin := Hml.out k hm HK.out.2.2 (by have := Hrl.out; omega) HK.out.2.1
      rw [← Hrl.out] at hfin
      by_cases hr0 : 0 < r.length
      · rw [if_pos hr0] at hfin
        have Hfin := Lib.hid hfin; clear hfin
        go_wp2_with (at_builtin; refine wpList_push w.heap.size rfl _ _ 36 9 rfl Tryd.underlying36 infoStr rfl (by omega) Hown.out _ rfl (by omega) hext.size rfl rfl ?_; rintro _ w1 ⟨g1, cap1, rfl⟩ hown1 hgr1; have hex1 := Lib.hid (ext_push hext Hown.out hgr1); have Hown1 := Lib.hid hown1; clear hown1 hgr1)
        go_ret
        refine ⟨_, rfl, ?_, hex1.out⟩
        rw [hres.out, Hfin.out, grpN_len, Hgs.out, Hpa.out (by have := Hrl.out; omega), List.map_append]
        exact Hown1.out
      · rw [if_neg hr0] at hfin
        have Hfin := Lib.hid hfin; clear hfin
        go_wp2
        go_ret
        refine ⟨_, rfl, ?_, hext⟩
        rw [hres.out, Hfin.out, grpN_len]
        exact Hown.out
set_option maxHeartbeats 1000000 in
theorem refGroups_neg (l : List UInt8) (z : Int) (h0 : z < 1) (w : World) (hl : l.length ≤ 10000) :
    Calls Tryd.prog 15 #[Str l, .int .i64 z] w fun e w' => ∃ v, e = .returned v ∧ w'.ownsRow w.heap.size 9 1 v (grpL z l).length ((grpL z l).map Str) ∧ Ext w w' := by
  have hres := Lib.hid (show grpL z l = grpN (gsz z l.length) l (gcnt (gsz z l.length) l.length) from rfl)
  have hm := gsz_pos z l.length
  have hml := fun k => @gcnt_last (gsz z l.length) l.length k
  have hsz : gsz z l.length = max l.length 1 := by simp [gsz]; omega
  rw [hsz] at hres hm hml
  have hq : decide (z < 1) = true := by simp; omega
  have hmx := run_max_nat Tryd.prog l.length 1 1 rfl
  generalize max l.length 1 = m at *
  clear hsz h0
  have Hml := Lib.hid hml; clear hml
  go_enter Tryd.func15, Tryd.ntmps15
  go_wp2
  go_loopw [0, 5] (fun s o wr => ∃ k : Nat, s = Str (l.drop (m * k)) ∧ m * k ≤ l.length ∧ (l.length = 0 → k = 0) ∧ (l.length = 0 ∨ m * k < l.length) ∧ wr.ownsRow w.heap.size 9 1 o k ((grpN m l k).map Str) ∧ Ext w wr) (fun s _ _ => strLenV s)
  case atStart => exact ⟨0, rfl, by omega, fun _ => rfl, by omega, World.ownsRow_nil _ _ _ _, Below.refl _ _⟩
  case round =>
    obtain ⟨k, rfl, hk, hk0, hk1, hown, hext⟩ := hrel
    have Hown := Lib.hid hown; clear hown
    have HK := Lib.hid (show _ ∧ _ ∧ _ from ⟨hk, hk0, hk1⟩); clear hk hk0 hk1
    have hrl : (l.drop (m * k)).length = l.length - m * k := by simp
    have hnx : (l.drop (m * k)).drop m = l.drop (m * (k + 1)) := by rw [List.drop_drop, Nat.mul_add, Nat.mul_one]
    have hgs := grpN_succ m l k
    have Hpa := Lib.hid (@piece_all m l k)
    have hkl : k ≤ 10000 := by
      have : k ≤ m * k := Nat.le_mul_of_pos_left k hm
      have := HK.out.1; omega
    obtain ⟨r, hr⟩ : ∃ r, l.drop (m * k) = r := ⟨_, rfl⟩
    rw [hr] at hrl hnx hgs Hpa ⊢
    have Hrl := Lib.hid hrl
    have Hnx := Lib.hid hnx; have Hgs := Lib.hid hgs
    have hrb : r.length ≤ 10000 := by omega
    clear hr hrl hnx hgs
    by_cases h3 : m < r.length
    · have hle : m ≤ r.length := by omega
      have hlt : strLenV (Str (l.drop (m * (k + 1)))) < strLenV (Str r) := by
        rw [← Hnx.out]; simp only [strLenV, Str, size_list, List.length_drop]; omega
      have Hlt := Lib.hid hlt; clear hlt
      have hK2 := Lib.hid (show m * (k + 1) < l.length by rw [Nat.mul_add, Nat.mul_one]; have := Hrl.out; omega)
      go_wp2
      go_region_law (try rw [drew_alloc]; refine step_push w.heap.size rfl _ _ 36 9 rfl Tryd.underlying36 infoStr rfl (by omega) (own_ext Hown.out (Below.drew (Below.refl _ _))) _ rfl (by omega) hext.size rfl rfl ?_; rintro _ w1 ⟨g1, cap1, rfl⟩ hown1 hgr1; have Hown1 := Lib.hid hown1; have Hgr1 := Lib.hid hgr1; clear hown1 hgr1)
      have hex1 := Lib.hid (ext_push (Below.drew hext) (own_ext Hown.out (Below.drew (Below.refl _ _))) Hgr1.out)
      go_simp
      go_wp2
      go_roundw
      case rel => exact ⟨k + 1, by rw [← Hnx.out], Nat.le_of_lt hK2.out, fun h => by have := hK2.out; omega, .inr hK2.out, by rw [Hgs.out, List.map_append]; exact Hown1.out, hex1.out⟩
      case measure => rw [Hnx.out]; exact Hlt.out
    · have hfin := Hml.out k hm HK.out.2.2 (by have := Hrl.out; omega) HK.out.2.1
      rw [← Hrl.out] at hfin
      by_cases hr0 : 0 < r.length
      · rw [if_pos hr0] at hfin
        have Hfin := Lib.hid hfin; clear hfin
        go_wp2_with (at_builtin; refine wpList_push w.heap.size rfl _ _ 36 9 rfl Tryd.underlying36 infoStr rfl (by omega) Hown.out _ rfl (by omega) hext.size rfl rfl ?_; rintro _ w1 ⟨g1, cap1, rfl⟩ hown1 hgr1; have hex1 := Lib.hid (ext_push hext Hown.out hgr1); have Hown1 := Lib.hid hown1; clear hown1 hgr1)
        go_ret
        refine ⟨_, rfl, ?_, hex1.out⟩
        rw [hres.out, Hfin.out, grpN_len, Hgs.out, Hpa.out (by have := Hrl.out; omega), List.map_append]
        exact Hown1.out
      · rw [if_neg hr0] at hfin
        have Hfin := Lib.hid hfin; clear hfin
        go_wp2
        go_ret
        refine ⟨_, rfl, ?_, hext⟩
        rw [hres.out, Hfin.out, grpN_len]
        exact Hown.out
theorem refGroups_any (l : List UInt8) (z : Int) (w : World) (hl : l.length ≤ 10000) :
    Calls Tryd.prog 15 #[Str l, .int .i64 z] w fun e w' => ∃ v, e = .returned v ∧ w'.ownsRow w.heap.size 9 1 v (grpL z l).length ((grpL z l).map Str) ∧ Ext w w' := by
  by_cases h : z < 1
  · exact refGroups_neg l z h w hl
  · obtain ⟨m, rfl⟩ : ∃ m : Nat, z = (m : Int) := ⟨z.toNat, by omega⟩
    exact refGroups_pos l m (by omega) w hl
end Go.Proofs.YtkfhbahgoemnpaaDoor
