/-
  sha.ends: what stands behind a text.
-/
import Derived.Test.YtpndahmlbjhdfaaDoorRows
import Derived.Test.YtpndahmlbjhdfaaDoorSby
namespace Go.Proofs.YtpndahmlbjhdfaaDoor
open Go.RowKit
set_option maxRecDepth 100000
set_option linter.unusedVariables false
set_option linter.unusedSimpArgs false
theorem own_built (w : World) (b e : Nat) (us : List Value) (hb : b ≤ w.heap.size) (h : us.length ≤ 1000) : (w.alloc (.cells us.toArray e)).ownsRow b e 1 (.slice (some ⟨w.heap.size, 0, none⟩) us.length us.length) us.length us :=
  ⟨by simp, .inr ⟨w.heap.size, us.length, us.toArray, rfl, hb, heap_alloc_new w _, by omega, by unfold maxLen; omega, by simp, by simp⟩⟩
def padN (n : Nat) : Nat := (119 - n % 64) % 64
theorem shTail_eq (n : Nat) : shTail n = (128 :: List.replicate (padN n) 0) ++ shLong (8 * n) := rfl
set_option maxHeartbeats 400000 in
theorem ends_any (n : Nat) (w : World) (hn : n < 1000000) :
    Calls Tryd.prog 104 #[.int .u64 (n : Int)] w fun e w' => ∃ v', e = .returned v' ∧ w'.ownsRow w.heap.size 5 1 v' (shTail n).length ((shTail n).map Byt) ∧ Ext w w' := by
  go_enter Tryd.func104, Tryd.ntmps104
  go_wp2
  obtain ⟨W1, hW1⟩ : ∃ W1, w.alloc (.cells #[.int .u8 128] 5) = W1 := ⟨_, rfl⟩
  have ho1 : W1.ownsRow w.heap.size 5 1 (.slice (some ⟨w.heap.size, 0, none⟩) 1 1) 1 [.int .u8 128] := by rw [← hW1]; exact own_built w w.heap.size 5 [.int .u8 128] (Nat.le_refl _) (by simp)
  have hx1 : Ext w W1 := by rw [← hW1]; exact Below.alloc (Below.refl _ w) (Nat.le_refl _) _
  rw [hW1]
  clear hW1
  go_loopw [3] (fun v wr => ∃ k : Nat, k ≤ padN n ∧ wr.ownsRow w.heap.size 5 1 v (k + 1) ((128 :: List.replicate k 0).map Byt) ∧ Ext w wr) (fun v _ => padN n + 1 - (match v with | .slice _ m _ => m | _ => 0))
  case atStart => exact ⟨0, by omega, ho1, hx1⟩
  case round =>
    obtain ⟨k, hk, hown, hext⟩ := hrel
    have hsh := own_shape hown (by omega)
    obtain ⟨g, cap, rfl, hg⟩ := hsh
    have hpad : padN n < 64 := Nat.mod_lt _ (by omega)
    by_cases h3 : k < padN n
    · have hmod : ((n : Int) + ((k : Int) + 1) + 8) % 64 ≠ 0 := by unfold padN at h3 hk; omega
      go_wp2_with (at_builtin; refine wpList_push w.heap.size rfl _ _ 45 5 rfl Tryd.underlying45 infoByte rfl (by omega) hown (Byt 0) rfl (by omega) hext.size rfl rfl ?_; rintro _ w1 ⟨g1, cap1, rfl⟩ hown1 hgr1)
      go_roundw
      case rel => exact ⟨k + 1, by omega, by rw [List.replicate_succ', ← List.cons_append, List.map_append]; exact hown1, ext_push hext hown hgr1⟩
      case measure => simp; omega
    · obtain rfl : k = padN n := by omega
      have hmod : ((n : Int) + ((padN n : Int) + 1) + 8) % 64 = 0 := by unfold padN; omega
      have hL := Lib.hid (long_any (8 * n) wr (by omega))
      have HE := Lib.hid (shTail_eq n)
      have hsz := hext.size
      generalize padN n = p at *
      have H1 := Lib.hid (byt_one (shLong (8 * n)))
      go_wp2_with (first | (go_at_call 125; refine (hL.out).mono ?_; rintro e w2 ⟨v2, rfl, ho2, hx2⟩) | (at_builtin; refine wpList_more w.heap.size rfl _ _ 45 5 rfl Tryd.underlying45 infoByte rfl (by omega) (own_ext hown hx2) (sl_of_own ho2) H1.out (by simp [shLong]; omega) (by have := hx2.size; omega) rfl rfl ?_; rintro v' w3 hown3 hgr3))
      go_ret
      refine ⟨_, rfl, ?_, ext_push (ext_trans hext hx2) (own_ext hown hx2) hgr3⟩
      rw [HE.out]
      have e1 : ((128 :: List.replicate p (0 : UInt8)) ++ shLong (8 * n)).length = p + 1 + ((shLong (8 * n)).map Byt).length := by simp; omega
      rw [e1, List.map_append]
      exact hown3
end Go.Proofs.YtpndahmlbjhdfaaDoor
