/-
  name.decode, name.Runes, name.Valid at texts of ASCII.
-/
import Derived.Deep.Quiet
import Derived.Scope
import Derived.Test.YteickmohloglhaaGreatDoorRows
import Derived.Test.YteickmohloglhaaGreatDoorKit
namespace Go.Proofs.YteickmohloglhaaGreatDoor
open Go.RowKit
set_option maxRecDepth 100000
set_option linter.unusedVariables false
set_option linter.unusedSimpArgs false

def formsC : List Value := [.int .i64 1, .int .u8 128, .int .u8 0, .int .i32 0, .int .i64 2, .int .u8 224, .int .u8 192, .int .i32 128, .int .i64 3, .int .u8 240, .int .u8 224, .int .i32 2048, .int .i64 4, .int .u8 248, .int .u8 240, .int .i32 65536]
/-- The table of forms lies as it is laid. -/
def FormsAt (W : World) : Prop := ∃ fr, W.heap[1]? = some (.cells formsC.toArray 128 fr)

theorem forms_cells {w : World} (h : FormsAt w) : w.cell? ⟨1, 0, none⟩ = some (.int .i64 1) ∧ w.cell? ⟨1, 1, none⟩ = some (.int .u8 128) ∧ w.cell? ⟨1, 2, none⟩ = some (.int .u8 0) ∧ w.cell? ⟨1, 3, none⟩ = some (.int .i32 0) ∧ w.cell? ⟨1, 4, none⟩ = some (.int .i64 2) ∧ w.cell? ⟨1, 5, none⟩ = some (.int .u8 224) ∧ w.cell? ⟨1, 6, none⟩ = some (.int .u8 192) ∧ w.cell? ⟨1, 7, none⟩ = some (.int .i32 128) ∧ w.cell? ⟨1, 8, none⟩ = some (.int .i64 3) ∧ w.cell? ⟨1, 9, none⟩ = some (.int .u8 240) ∧ w.cell? ⟨1, 10, none⟩ = some (.int .u8 224) ∧ w.cell? ⟨1, 11, none⟩ = some (.int .i32 2048) ∧ w.cell? ⟨1, 12, none⟩ = some (.int .i64 4) ∧ w.cell? ⟨1, 13, none⟩ = some (.int .u8 248) ∧ w.cell? ⟨1, 14, none⟩ = some (.int .u8 240) ∧ w.cell? ⟨1, 15, none⟩ = some (.int .i32 65536) := by
  obtain ⟨fr, hf⟩ := h
  simp only [World.cell?, hf]
  exact ⟨rfl, rfl, rfl, rfl, rfl, rfl, rfl, rfl, rfl, rfl, rfl, rfl, rfl, rfl, rfl, rfl⟩
theorem and128 : ∀ n : Nat, n < 128 → bits .and .u8 (n : Int) 128 = 0 := by decide +kernel
theorem nand128 : ∀ n : Nat, n < 128 → bits .andNot .u8 (n : Int) 128 = (n : Int) := by decide +kernel
theorem idx0 (W : World) : (Instr.index 128 (.agg #[.int .i64 1, .int .u8 128, .int .u8 0, .int .i32 0, .int .i64 2, .int .u8 224, .int .u8 192, .int .i32 128, .int .i64 3, .int .u8 240, .int .u8 224, .int .i32 2048, .int .i64 4, .int .u8 248, .int .u8 240, .int .i32 65536]) (.int .i64 0)).run Tryz.prog W = .ok (.agg #[.int .i64 1, .int .u8 128, .int .u8 0, .int .i32 0]) W := by kernel_rfl
set_option maxHeartbeats 1000000 in
theorem decode_ascii (l : List UInt8) (hl : 0 < l.length) (hl2 : l.length ≤ 100000) (h0 : (bt l 0).toNat < 128) (w : World) (hF : FormsAt w) :
    Calls Tryz.prog 68 #[Str l] w fun e w' => e = .returned (.tuple #[.int .i32 ((bt l 0).toNat : Int), .int .i64 1]) ∧ Ext w w' := by
  have hix : ∀ W, (Instr.index 9 (Str l) (.int .i64 0)).run Tryz.prog W = .ok (Byt (bt l 0)) W := fun W => run_index_str Tryz.underlying9 l 0 _ rfl hl W
  obtain ⟨f0, f1, f2, f3, f4, f5, f6, f7, f8, f9, f10, f11, f12, f13, f14, f15⟩ := forms_cells hF
  generalize bt l 0 = c at *
  go_enter Tryz.func68, Tryz.ntmps68
  go_wp2
  refine wp_scope_straight (wp_seq (wp_label ?_))
  go_wp2
  go_loopw [9] (fun i wr => i = .int .i64 0 ∧ wr = w) (fun _ _ => 0)
  case atStart => exact ⟨rfl, rfl⟩
  case round =>
    obtain ⟨rfl, rfl⟩ := hrel
    have hi0 := idx0
    have b1 := and128 c.toNat h0
    have b2 := nand128 c.toNat h0
    have hl1 : decide ((l.length : Int) < 1) = false := by simp; omega
    go_wp2
    refine wp_region_quiet_lit (by kernel_rfl) (by kernel_rfl) ?_
    repeat (first
      | go_big_quiet_skip
      | (go_big_quiet_want; go_big_quiet_op; (try go_bits); first | go_big_quiet_on | go_big_quiet_call (fail)))
    refine wpQuiet_nil ?_
    intro _ hw'
    obtain ⟨nq, hw''⟩ := hw'
    subst hw''
    go_wp2
    refine wp_region_quiet_lit (by kernel_rfl) (by kernel_rfl) ?_
    repeat (first
      | go_big_quiet_skip
      | (go_big_quiet_want; go_big_quiet_op; (try go_bits); first | go_big_quiet_on | go_big_quiet_call (fail)))
    refine wpQuiet_nil ?_
    intro _ hw'
    obtain ⟨nq, hw''⟩ := hw'
    subst hw''
    go_wp2
    go_loop [6, 7] (fun r i => r = .int .i32 (c.toNat : Int) ∧ i = .int .i64 1) (fun _ _ => 0)
    case atStart => exact ⟨rfl, rfl⟩
    case round =>
      obtain ⟨rfl, rfl⟩ := hrel
      have hge : decide ((0 : Int) ≤ (c.toNat : Int)) = true := by simp
      have hsg : decide ((c.toNat : Int) ≤ 1114111) = true := by simp; omega
      have hlo : decide ((c.toNat : Int) < 55296) = true := by simp; omega
      go_wp2
      refine wp_region_quiet_lit (by kernel_rfl) (by kernel_rfl) ?_
      repeat (first
        | go_big_quiet_skip
        | (go_big_quiet_want; go_big_quiet_op; (try go_bits); first | go_big_quiet_on | go_big_quiet_call (fail)))
      refine wpQuiet_nil ?_
      intro _ hw'
      obtain ⟨nq, hw''⟩ := hw'
      subst hw''
      go_wp2
      simp only [Exit.noGoto]
      go_ret2
      exact ⟨rfl, Below.drewN (Below.drewN ((Below.refl _ _).alloc (Nat.le_refl _) _) _) _⟩
end Go.Proofs.YteickmohloglhaaGreatDoor
