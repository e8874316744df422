/-
  name.Escape, name.Unescape, scram.value, scram.escaped at plain texts; scram.Nonce, ref07.Nonce.
-/
import Derived.Test.YteickmohloglhaaGreatDoorRows
import Derived.Test.YteickmohloglhaaGreatDoorRun
import Derived.Test.YteickmohloglhaaGreatDoorKit
namespace Go.Proofs.YteickmohloglhaaGreatDoor
open Go.RowKit
set_option maxRecDepth 100000
set_option linter.unusedVariables false
set_option linter.unusedSimpArgs false

/-- A text of ASCII without noughts, commas and '='. -/
def pln (l : List UInt8) : Prop := ∀ c ∈ l, 0 < c.toNat ∧ c.toNat < 128 ∧ c.toNat ≠ 44 ∧ c.toNat ≠ 61
theorem pln_bt {l : List UInt8} (h : pln l) (i : Nat) (hi : i < l.length) : 0 < (bt l i).toNat ∧ (bt l i).toNat < 128 ∧ (bt l i).toNat ≠ 44 ∧ (bt l i).toNat ≠ 61 := h _ (by rw [bt_get l i hi]; exact List.getElem_mem _)
theorem pln_asc {l : List UInt8} (h : pln l) : asc l := fun c hc => (h c hc).2.1

set_option maxHeartbeats 1000000 in
theorem Escape_pln (l : List UInt8) (hl : l.length ≤ 10000) (hp : pln l) (w : World) :
    Calls Tryz.prog 29 #[Str l] w fun e w' => e = .returned (Str l) ∧ Ext w w' := by
  have hixl : ∀ i, i < l.length → ∀ W, (Instr.index 9 (Str l) (.int .i64 (i : Int))).run Tryz.prog W = .ok (Byt (bt l i)) W := fun i hi W => run_index_str Tryz.underlying9 l i _ rfl hi W
  have HI := Lib.hid hixl; clear hixl
  have hb0 := bld_new (w.heap.size + 1) w
  go_enter Tryz.func29, Tryz.ntmps29
  go_wp2
  go_loopw [7] (fun i wr => ∃ k : Nat, k ≤ l.length ∧ i = .int .i64 k ∧ Bld (w.heap.size + 1) wr w.heap.size (l.take k) ∧ Ext w wr) (fun i _ => l.length - (intOf i).toNat)
  case atStart => exact ⟨0, by omega, rfl, hb0, (Below.refl _ w).alloc (Nat.le_refl _) _⟩
  case round =>
    obtain ⟨k, hk, rfl, hbl, hext⟩ := hrel
    by_cases h3 : k < l.length
    · have hix := HI.out k h3
      have hpl := pln_bt hp k h3
      have Ht := Lib.hid (take_snoc l k h3)
      have hlen : (l.take k).length ≤ 10000 := by simp; omega
      have hsz := hbl.lt
      have hc := (bt l k).toNat_lt
      generalize bt l k = c at *
      generalize l.take k = bs at *
      have Hb := Lib.hid hbl; clear hbl
      have h44 : ((c.toNat : Int) == 44) = false := by simp; omega
      have h61 : ((c.toNat : Int) == 61) = false := by simp; omega
      have h61' : ((c.toNat : Int) != 61) = true := by simp; omega
      go_wp2_with (go_at_call 45; refine (WriteByte_any (w.heap.size + 1) w.heap.size bs c wr Hb.out (by omega) hsz).mono ?_; rintro e W1 ⟨he1, hb1, hfr1⟩; subst he1; have Hb1 := Lib.hid hb1; clear hb1)
      go_roundw
      case rel => exact ⟨k + 1, by omega, by go_num, by rw [Ht.out]; exact Hb1.out, hext.trans (hfr1.below (by omega) (by omega) (by omega))⟩
      case measure => simp [intOf] <;> omega
    · have hsz := hbl.lt
      have Hb := Lib.hid hbl; clear hbl
      go_wp2_with (go_at_call 46; refine (String_any (w.heap.size + 1) w.heap.size _ _ Hb.out).mono ?_; rintro e W1 ⟨rfl, hfr1⟩)
      go_ret
      exact ⟨by rw [List.take_of_length_le (by omega)]; rfl, hext.trans (hfr1.below (by omega) (by omega) (by omega))⟩
set_option maxHeartbeats 1000000 in
theorem Unescape_pln (l : List UInt8) (hl : l.length ≤ 10000) (hp : pln l) (w : World) :
    Calls Tryz.prog 38 #[Str l] w fun e w' => e = .returned (.tuple #[Str l, .int .i64 0]) ∧ Ext w w' := by
  have hixl : ∀ i, i < l.length → ∀ W, (Instr.index 9 (Str l) (.int .i64 (i : Int))).run Tryz.prog W = .ok (Byt (bt l i)) W := fun i hi W => run_index_str Tryz.underlying9 l i _ rfl hi W
  have HI := Lib.hid hixl; clear hixl
  have hb0 := bld_new (w.heap.size + 1) w
  go_enter Tryz.func38, Tryz.ntmps38
  go_wp2
  go_loopw [5, 6] (fun c i wr => ∃ k : Nat, k ≤ l.length ∧ i = .int .i64 k ∧ c = .int .i64 0 ∧ Bld (w.heap.size + 1) wr w.heap.size (l.take k) ∧ Ext w wr) (fun _ i _ => l.length - (intOf i).toNat)
  case atStart => exact ⟨0, by omega, rfl, rfl, hb0, (Below.refl _ w).alloc (Nat.le_refl _) _⟩
  case round =>
    obtain ⟨k, hk, rfl, rfl, hbl, hext⟩ := hrel
    by_cases h3 : k < l.length
    · have hix := HI.out k h3
      have hpl := pln_bt hp k h3
      have Ht := Lib.hid (take_snoc l k h3)
      have hlen : (l.take k).length ≤ 10000 := by simp; omega
      have hsz := hbl.lt
      have hc := (bt l k).toNat_lt
      generalize bt l k = c at *
      generalize l.take k = bs at *
      have Hb := Lib.hid hbl; clear hbl
      have h44 : ((c.toNat : Int) == 44) = false := by simp; omega
      have h61 : ((c.toNat : Int) == 61) = false := by simp; omega
      have h61' : ((c.toNat : Int) != 61) = true := by simp; omega
      go_wp2_with (go_at_call 45; refine (WriteByte_any (w.heap.size + 1) w.heap.size bs c wr Hb.out (by omega) hsz).mono ?_; rintro e W1 ⟨he1, hb1, hfr1⟩; subst he1; have Hb1 := Lib.hid hb1; clear hb1)
      go_roundw
      case rel => exact ⟨k + 1, by omega, by go_num, rfl, by rw [Ht.out]; exact Hb1.out, hext.trans (hfr1.below (by omega) (by omega) (by omega))⟩
      case measure => simp [intOf] <;> omega
    · have hsz := hbl.lt
      have Hb := Lib.hid hbl; clear hbl
      go_wp2_with (go_at_call 46; refine (String_any (w.heap.size + 1) w.heap.size _ _ Hb.out).mono ?_; rintro e W1 ⟨rfl, hfr1⟩)
      go_ret2
      exact ⟨by rw [List.take_of_length_le (by omega)]; rfl, hext.trans (hfr1.below (by omega) (by omega) (by omega))⟩

set_option maxHeartbeats 400000 in
theorem value_pln (l : List UInt8) (hl : l.length ≤ 10000) (h0 : l ≠ []) (hp : pln l) (w : World) (hF : FormsAt w) :
    Calls Tryz.prog 21 #[Str l] w fun e w' => e = .returned (.bool true) ∧ Ext w w' := by
  have hixl : ∀ i, i < l.length → ∀ W, (Instr.index 9 (Str l) (.int .i64 (i : Int))).run Tryz.prog W = .ok (Byt (bt l i)) W := fun i hi W => run_index_str Tryz.underlying9 l i _ rfl hi W
  have HI := Lib.hid hixl; clear hixl
  have HV := Lib.hid (valid_ascii l (by omega) (pln_asc hp) w hF)
  have hne : (l == []) = false := by simpa using h0
  go_enter Tryz.func21, Tryz.ntmps21
  go_wp2_with (go_at_call 39; refine HV.out.mono ?_; rintro e W1 ⟨rfl, hx⟩)
  go_loop [13] (fun i => ∃ k : Nat, k ≤ l.length ∧ i = .int .i64 k) (fun i => l.length - (intOf i).toNat)
  case atStart => exact ⟨0, by omega, rfl⟩
  case round =>
    obtain ⟨k, hk, rfl⟩ := hrel
    by_cases h3 : k < l.length
    · have hix := HI.out k h3
      have hpl := pln_bt hp k h3
      generalize bt l k = c at *
      have h44 : ((c.toNat : Int) == 44) = false := by simp; omega
      have hz : ((c.toNat : Int) == 0) = false := by simp; omega
      go_wp2
      go_round
      case rel => exact ⟨k + 1, by omega, by go_num⟩
      case measure => simp [intOf] <;> omega
    · have hkl : k = l.length := by omega
      subst hkl
      go_wp2
      go_ret
      exact ⟨rfl, hx⟩
end Go.Proofs.YteickmohloglhaaGreatDoor
