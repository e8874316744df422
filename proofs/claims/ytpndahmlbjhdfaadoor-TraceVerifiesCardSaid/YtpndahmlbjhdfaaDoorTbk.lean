/-
  The law's back: events as the document has them.
-/
import Derived.Test.YtpndahmlbjhdfaaDoorRows
import Derived.Test.YtpndahmlbjhdfaaDoorRch
namespace Go.Proofs.YtpndahmlbjhdfaaDoor
open Go.RowKit
set_option maxRecDepth 100000
attribute [local go_sem] Oper.semAt_some
set_option linter.unusedVariables false
set_option linter.unusedSimpArgs false
set_option maxHeartbeats 1000000 in
theorem back_any (v : Value) (es : List Ev) (hlen : es.length ≤ 1000) (w : World) (hv : RowE w v es) :
    Calls Tryd.prog 12 #[v] w fun e w' => ∃ v', e = .returned v' ∧ OwnF w.heap.size v' es w' ∧ Ext w w' := by
  obtain ⟨ao, cap, rfl, hcase, hcap, hmx, hcells⟩ := id hv
  have HV := Lib.hid hv
  clear hcells hv hcase
  go_enter Tryd.func12, Tryd.ntmps12
  go_wp2
  go_loopw [3, 8] (fun v i wr => ∃ k : Nat, k ≤ es.length ∧ i = .int .i64 k ∧ Hid (OwnF w.heap.size v (es.take k) wr) ∧ Ext w wr) (fun _ i _ => es.length - (intOf i).toNat)
  case atStart => exact ⟨0, by omega, rfl, Lib.hid (World.ownsRow_nil _ _ _ _), ext_refl _⟩
  case round =>
    obtain ⟨k, hk, rfl, HO, hx⟩ := hrel
    by_cases h3 : k < es.length
    · obtain ⟨g, o, cap', hv, hcl⟩ := row_cells (HV.out.ext hx) (by intro h; rw [h] at h3; simp at h3)
      cases hv
      obtain ⟨d0, d1, d2, d3, d4⟩ := hcl k h3
      have hix := index_ev g o es.length cap k h3
      have hlt : g < wr.heap.size := by
        have := d0
        unfold World.cell? at this
        exact Nat.lt_of_not_le fun h => by rw [Array.getElem?_eq_none h] at this; cases this
      have HTK := Lib.hid (take_evs es k h3)
      have hkl : (es.take k).length = k := by rw [List.length_take]; omega
      clear hcl
      generalize es.getD k evD = ev at *
      obtain ⟨en, ek, ekind, econn, etext⟩ := ev
      simp only at d0 d1 d2 d3 d4
      obtain ⟨Wb, hWb⟩ : ∃ Wb, wr.alloc (.cells #[.int .u64 (en : Int), .int .u64 (ek : Int), Str ekind, .int .i64 econn, Str etext] 37) = Wb := ⟨_, rfl⟩
      have hxb : Ext wr Wb := by rw [← hWb]; exact Below.alloc (Below.refl _ _) (Nat.le_refl _) _
      have hbb : Wb.heap[wr.heap.size]? = some (.cells #[.int .u64 (en : Int), .int .u64 (ek : Int), Str ekind, .int .i64 econn, Str etext] 37 (0, 0)) := by rw [← hWb]; exact Array.getElem?_push_size
      have HX := Lib.hid (ext_trans hx hxb)
      have hsz := HX.out.size
      have HO6 := Lib.hid (show Wb.ownsRow w.heap.size 32 5 _ (es.take k).length ((es.take k).flatMap evL) from ownz_ext HO.out hxb)
      obtain ⟨q0, q1, q2, q3, q4⟩ := cells5 hbb
      clear hxb hbb hx HO
      go_wp2_with (at_builtin; refine wpList_pushz w.heap.size rfl _ _ 29 32 rfl Tryd.underlying29 infoEvR rfl (by omega) (by omega) HO6.out [.int .u64 (en : Int), .int .u64 (ek : Int), Str ekind, .int .i64 econn, Str etext] rfl (by simp [Str, Value.oneCell']) (by omega) hsz rfl rfl ?_; rintro _ w1 ⟨g1, cap1, rfl⟩ hown1 hgr1; have HO1 := Lib.hid hown1; have HX1 := Lib.hid (ext_pushz HX.out HO6.out hgr1); clear hown1 hgr1)
      go_roundw
      case rel => exact ⟨k + 1, by omega, by go_num, Lib.hid (by rw [HTK.out]; unfold OwnF; rw [List.length_append, List.flatMap_append]; have h9 := HO1.out; rw [hkl] at h9 ⊢; exact h9), HX1.out⟩
      case measure => simp [intOf]; omega
    · obtain rfl : k = es.length := by omega
      have hO := HO.out
      rw [List.take_length] at hO
      obtain ⟨rao, rcap, rfl, -⟩ := id (show RowE wr _ es from rowC_of_own evL_len hO)
      have HOO := Lib.hid hO
      clear hO
      go_wp2
      go_ret
      exact ⟨_, rfl, HOO.out, hx⟩
end Go.Proofs.YtpndahmlbjhdfaaDoor
