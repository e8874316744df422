/-
  sha.spread.
-/
import Derived.BigRegion
import Derived.Deep.WholeRow
import Derived.Test.YtpndahmlbjhdfaaDoorRows
import Derived.Test.YtpndahmlbjhdfaaDoorWor
namespace Go.Proofs.YtpndahmlbjhdfaaDoor
open Go.RowKit
set_option maxRecDepth 1000000
set_option linter.unusedVariables false
set_option linter.unusedSimpArgs false
/-- The cells of 64 words, of which the first ones are given. -/
def cells64 (xs : List UInt32) : Array Value := ((xs ++ List.replicate (64 - xs.length) 0).map W32).toArray
theorem cells64_get (xs : List UInt32) (h : xs.length ≤ 64) (j : Nat) (hj : j < 64) : (cells64 xs)[j]? = some (W32 (xs.getD j 0)) := by
  simp only [cells64, List.getElem?_toArray, List.getElem?_map]
  by_cases h2 : j < xs.length
  · rw [List.getElem?_append_left h2, List.getElem?_eq_getElem h2]; simp [List.getD_eq_getElem?_getD, List.getElem?_eq_getElem h2]
  · rw [List.getElem?_append_right (by omega), List.getElem?_replicate, if_pos (by omega)]
    simp [List.getD_eq_getElem?_getD, List.getElem?_eq_none (Nat.le_of_not_lt h2)]
theorem cells64_set (xs : List UInt32) (h : xs.length < 64) (x : UInt32) : (cells64 xs).setIfInBounds xs.length (W32 x) = cells64 (xs ++ [x]) := by
  apply Array.ext'
  simp only [cells64, Array.toList_setIfInBounds, List.length_append, List.length_singleton]
  rw [show 64 - xs.length = (64 - (xs.length + 1)) + 1 by omega, List.replicate_succ, List.map_append, List.set_append_right _ _ (by simp)]
  simp
theorem shWord_drop (l : List UInt8) (k : Nat) : shWord (l.drop (4 * k)) 0 = shWord l k := by
  simp only [shWord, List.getD_eq_getElem?_getD, List.getElem?_drop, Nat.mul_zero, Nat.zero_add, Nat.add_zero]
theorem sched_low (l : List UInt8) (k : Nat) (h : k < 16) : sched l (k + 1) = sched l k ++ [shWord (l.drop (4 * k)) 0] := by
  rw [sched, shNext, sched_len, if_pos h, shWord_drop]
theorem sched_high (l : List UInt8) (k : Nat) (h : 16 ≤ k) : sched l (k + 1) = sched l k ++ [(sched l k).getD (k - 16) 0 + shX ((sched l k).getD (k - 15) 0) + (sched l k).getD (k - 7) 0 + shY ((sched l k).getD (k - 2) 0)] := by
  rw [sched, shNext, sched_len, if_neg (by omega)]
/-! ### A block of cells -/
abbrev Arr (w : World) (g : Nat) (T : TypeId) (c : Array Value) : Prop := w.heap[g]? = some (.cells c T (0, 0))
theorem arr_cell {w : World} {g j : Nat} {T : TypeId} {c : Array Value} {v : Value} (h : Arr w g T c) (hj : c[j]? = some v) : w.cell? ⟨g, j, none⟩ = some v := by simp [World.cell?, h, hj]
theorem arr_frozen {w : World} {g j : Nat} {T : TypeId} {c : Array Value} (h : Arr w g T c) : w.frozen? ⟨g, j, none⟩ = false := by simp [World.frozen?, h]
theorem arr_set {w : World} {g j : Nat} {T : TypeId} {c : Array Value} (h : Arr w g T c) (v : Value) : Arr (w.setCell ⟨g, j, none⟩ v) g T (c.setIfInBounds j v) := by simp [Arr, World.setCell, Array.getElem?_modify, h]
theorem arr_other {w : World} {g k j : Nat} {T : TypeId} {c : Array Value} (h : Arr w k T c) (hne : g ≠ k) (v : Value) : Arr (w.setCell ⟨g, j, none⟩ v) k T c := by simp [Arr, World.setCell, Array.getElem?_modify, h, hne]
theorem ext_set {a w : World} {g j : Nat} (h : Ext a w) (hg : a.heap.size ≤ g) (v : Value) : Ext a (w.setCell ⟨g, j, none⟩ v) := Below.setCell h hg v
theorem run_index_arr {P : Program} {t e : TypeId} {N : Nat} (ht : P.underlying t = some (.array N e)) (hz : ∀ w, (Go.sizeOf e).run P w = .ok 1 w) (g : Nat) :
    ∀ (W : World) (k : Nat), k < N → (Instr.indexAt t (.pointer (some ⟨g, 0, none⟩)) (.int .i64 (k : Int))).run P W = .ok (.pointer (some ⟨g, k, none⟩)) W := by
  intro W k hk
  simp [Instr.indexAt, asIntOf, Instr.sureAddr, run_underlying ht, hz, Result.andThen, hk, Addr.add]
  exact fun h => h.symm
theorem arr_two (w : World) (A B : Array Value) (S T : TypeId) : Arr ((w.alloc (.cells A S)).alloc (.cells B T)) (w.heap.size + 1) T B ∧ Arr ((w.alloc (.cells A S)).alloc (.cells B T)) w.heap.size S A := by
  constructor
  · have := heap_alloc_last (w.alloc (.cells A S)) (.cells B T)
    rwa [show (w.alloc (.cells A S)).heap.size = w.heap.size + 1 by simp] at this
  · exact (Below.alloc (Below.refl (w.alloc (.cells A S)).heap.size _) (Nat.le_refl _) (.cells B T)).block _ (by simp) |>.trans (heap_alloc_last w _)
theorem ext_two (w : World) (a b : Obj) : Ext w ((w.alloc a).alloc b) := Below.alloc (Below.alloc (Below.refl _ w) (Nat.le_refl _) a) (by simp) b
theorem cells64_size (xs : List UInt32) (h : xs.length ≤ 64) : (cells64 xs).size = 64 := by simp [cells64]; omega
theorem cells64_one (xs : List UInt32) : ∀ v ∈ (cells64 xs).toList, v.oneCell' = true := fun v hv => by
  simp only [cells64, List.mem_map] at hv
  obtain ⟨x, _, rfl⟩ := hv; rfl
theorem setRow_arr {w : World} {g : Nat} {T : TypeId} {c : Array Value} (h : Arr w g T c) (c' : Array Value) : Arr (w.setRow g c') g T c' := by
  simp [Arr, World.setRow, Array.getElem?_modify, h]
theorem setRow_other {w : World} {g k : Nat} {T : TypeId} {c : Array Value} (h : Arr w k T c) (hne : g ≠ k) (c' : Array Value) : Arr (w.setRow g c') k T c := by
  simp [Arr, World.setRow, Array.getElem?_modify, h, hne]
theorem setRow_ext {a w : World} {g : Nat} (h : Ext a w) (hg : a.heap.size ≤ g) (c' : Array Value) : Ext a (w.setRow g c') :=
  ⟨h.os, h.tape, h.output, by simpa [World.setRow] using h.size, fun k hk => by
    rw [← h.block k hk]; simp [World.setRow, Array.getElem?_modify, show g ≠ k by omega]⟩
theorem info64 : (Tryd.prog.info? 150).map (·.size) = some 64 := by kernel_rfl
theorem sx_int (x : UInt32) : bits .xor .u32 (bits .xor .u32 ((rr x (rotN (-7))).toNat : Int) ((rr x (rotN (-18))).toNat : Int)) ((x.toNat : Int) / 8) = ((shX x).toNat : Int) := by
  rw [show (8 : Int) = 2 ^ (3 : UInt32).toNat from rfl, w_shr x 3 (by decide), w_xor, w_xor]; rfl
theorem sy_int (x : UInt32) : bits .xor .u32 (bits .xor .u32 ((rr x (rotN (-17))).toNat : Int) ((rr x (rotN (-19))).toNat : Int)) ((x.toNat : Int) / 1024) = ((shY x).toNat : Int) := by
  rw [show (1024 : Int) = 2 ^ (10 : UInt32).toNat from rfl, w_shr x 10 (by decide), w_xor, w_xor]; rfl
set_option maxHeartbeats 1000000 in
theorem spread_any (v : Value) (l : List UInt8) (w : World) (hv : SlB w v l) (h64 : l.length = 64) :
    Calls Tryd.prog 106 #[v] w fun e w' => e = .returned (.agg (cells64 (sched l 64))) ∧ Ext w w' := by
  obtain ⟨ao, cap, rfl, hcap, hmax, hnil, hcell⟩ := id hv
  clear hcell
  have H64 := Lib.hid h64
  simp only [List.length_map, h64] at hcap hv ⊢
  go_enter Tryd.func106, Tryd.ntmps106
  go_wp2
  have hrun := Lib.hid (run_resl (P := Tryd.prog) Tryd.underlying45 Tryd.sizeOf5 (ao := ao) (n := 64) (cap := cap))
  have hia := Lib.hid (run_index_arr (P := Tryd.prog) Tryd.underlying150 Tryd.sizeOf102 (w.heap.size + 1))
  go_loopw [10] (fun i wr => ∃ k : Nat, k ≤ 16 ∧ i = .int .i64 k ∧ Arr wr (w.heap.size + 1) 150 (cells64 (sched l k)) ∧ Arr wr w.heap.size 150 (cells64 []) ∧ Ext w wr) (fun i _ => 16 - (intOf i).toNat)
  case atStart => exact ⟨0, by omega, rfl, (arr_two _ _ _ _ _).1, (arr_two _ _ _ _ _).2, ext_two _ _ _⟩
  case round =>
    obtain ⟨k, hk, rfl, hA, hB, hext⟩ := hrel
    by_cases h3 : k < 16
    · have hs := (hv.ext hext).resl (k := 4 * k) (by rw [List.length_map, H64.out]; omega)
      rw [← List.map_drop] at hs
      have hr : ∀ W, (Instr.slice 45 (.slice ao 64 cap) (some (.int .i64 (4 * (k : Int)))) none none).run Tryd.prog W = .ok (resl (.slice ao 64 cap) (4 * k)) W := fun W => by
        have := hrun.out W (4 * k) (by omega)
        rwa [show ((4 * k : Nat) : Int) = 4 * (k : Int) by omega] at this
      have HW := Lib.hid (word_any _ _ wr hs (by rw [List.length_drop, H64.out]; omega))
      have hf := arr_frozen (j := k) hA
      have ik := fun W => hia.out W k (by omega)
      have hc := arr_cell hA (cells64_get (sched l k) (by rw [sched_len]; omega) k (by omega))
      have HA := Lib.hid (show _ ∧ _ ∧ _ from ⟨hA, hB, hext⟩)
      clear hs hA hB hext
      generalize resl (.slice ao 64 cap) (4 * k) = vr at *
      go_wp2_with (go_at_call 126; refine (HW.out).mono ?_; rintro e W3 ⟨rfl, m, rfl⟩)
      obtain ⟨hA, hB, hext⟩ := HA.out
      refine ⟨⟨k + 1, by omega, by first | go_num | omega, ?_, arr_other (w := wr.drewN m) hB (by omega) _, ext_set (hext.drewN m) (by omega) _⟩, by simp [intOf]; omega⟩
      have := arr_set (w := wr.drewN m) (j := k) hA (W32 (shWord (l.drop (4 * k)) 0))
      rw [sched_low l k h3]
      rwa [show (cells64 (sched l k)).setIfInBounds k = (cells64 (sched l k)).setIfInBounds (sched l k).length by rw [sched_len], cells64_set _ (by rw [sched_len]; omega)] at this
    · have HA : Hid (Arr wr (w.heap.size + 1) 150 (cells64 (sched l 16)) ∧ Arr wr w.heap.size 150 (cells64 []) ∧ Ext w wr) := Lib.hid (by
        have e16 : k = 16 := by omega
        rw [e16] at hA
        exact ⟨hA, hB, hext⟩)
      have hb : decide ((k : Int) < 16) = false := decide_eq_false (by omega)
      clear hA hB hext
      go_wp2
      go_loopw [5] (fun i wr => ∃ k : Nat, 16 ≤ k ∧ k ≤ 64 ∧ i = .int .i64 k ∧ Arr wr (w.heap.size + 1) 150 (cells64 (sched l k)) ∧ Arr wr w.heap.size 150 (cells64 []) ∧ Ext w wr) (fun i _ => 64 - (intOf i).toNat)
      case atStart => exact ⟨16, by omega, by omega, rfl, HA.out⟩
      case round =>
        obtain ⟨k, hk0, hk, rfl, hA, hB, hext⟩ := hrel
        by_cases h3 : k < 64
        · have hf := arr_frozen (j := k) hA
          have hc := arr_cell hA (cells64_get (sched l k) (by rw [sched_len]; omega) k (by omega))
          have i15 : ∀ W, (Instr.indexAt 150 (.pointer (some ⟨w.heap.size + 1, 0, none⟩)) (.int .i64 ((k : Int) - 15))).run Tryd.prog W = .ok (.pointer (some ⟨w.heap.size + 1, k - 15, none⟩)) W := fun W => by
            have := hia.out W (k - 15) (by omega)
            rwa [show ((k - 15 : Nat) : Int) = (k : Int) - 15 by omega] at this
          have c15 := arr_cell hA (cells64_get (sched l k) (by rw [sched_len]; omega) (k - 15) (by omega))
          have i2 : ∀ W, (Instr.indexAt 150 (.pointer (some ⟨w.heap.size + 1, 0, none⟩)) (.int .i64 ((k : Int) - 2))).run Tryd.prog W = .ok (.pointer (some ⟨w.heap.size + 1, k - 2, none⟩)) W := fun W => by
            have := hia.out W (k - 2) (by omega)
            rwa [show ((k - 2 : Nat) : Int) = (k : Int) - 2 by omega] at this
          have c2 := arr_cell hA (cells64_get (sched l k) (by rw [sched_len]; omega) (k - 2) (by omega))
          have i16 : ∀ W, (Instr.indexAt 150 (.pointer (some ⟨w.heap.size + 1, 0, none⟩)) (.int .i64 ((k : Int) - 16))).run Tryd.prog W = .ok (.pointer (some ⟨w.heap.size + 1, k - 16, none⟩)) W := fun W => by
            have := hia.out W (k - 16) (by omega)
            rwa [show ((k - 16 : Nat) : Int) = (k : Int) - 16 by omega] at this
          have c16 := arr_cell hA (cells64_get (sched l k) (by rw [sched_len]; omega) (k - 16) (by omega))
          have i7 : ∀ W, (Instr.indexAt 150 (.pointer (some ⟨w.heap.size + 1, 0, none⟩)) (.int .i64 ((k : Int) - 7))).run Tryd.prog W = .ok (.pointer (some ⟨w.heap.size + 1, k - 7, none⟩)) W := fun W => by
            have := hia.out W (k - 7) (by omega)
            rwa [show ((k - 7 : Nat) : Int) = (k : Int) - 7 by omega] at this
          have c7 := arr_cell hA (cells64_get (sched l k) (by rw [sched_len]; omega) (k - 7) (by omega))
          have ik := fun W => hia.out W k h3
          have hn := Lib.hid (sched_high l k hk0)
          have HA := Lib.hid (show _ ∧ _ ∧ _ from ⟨hA, hB, hext⟩)
          clear hA hB hext
          generalize (sched l k).getD (k - 15) 0 = x15 at *
          generalize (sched l k).getD (k - 2) 0 = x2 at *
          generalize (sched l k).getD (k - 16) 0 = x16 at *
          generalize (sched l k).getD (k - 7) 0 = x7 at *
          generalize (sched l k).getD k 0 = x0 at *
          have hsx := sx_int x15
          have hsy := sy_int x2
          go_wp2
          refine wp_region_quiet_lit (by kernel_rfl) (by kernel_rfl) ?_
          repeat (first
            | go_big_quiet_skip
            | (go_big_quiet_want; go_big_quiet_op; (try go_bits); first | go_big_quiet_on | go_big_quiet_call (fail)))
          refine wpQuiet_nil ?_
          intro _ hw'
          obtain ⟨nq, hw''⟩ := hw'
          subst hw''
          go_wp2_with (go_at_call 107; refine (rot_any _ _ (by decide) _).mono ?_; rintro e W3 ⟨rfl, rfl⟩)
          clear hsx hsy
          generalize hwq : wr.drewN nq = wq
          replace hf : wq.frozen? ⟨w.heap.size + 1, k, none⟩ = false := by rw [← hwq]; exact hf
          replace hc : wq.cell? ⟨w.heap.size + 1, k, none⟩ = some (W32 x0) := by rw [← hwq]; exact hc
          replace c7 : wq.cell? ⟨w.heap.size + 1, k - 7, none⟩ = some (W32 x7) := by rw [← hwq]; exact c7
          replace c16 : wq.cell? ⟨w.heap.size + 1, k - 16, none⟩ = some (W32 x16) := by rw [← hwq]; exact c16
          have Hwq := Lib.hid hwq; clear hwq
          go_region
          obtain ⟨hA, hB, hext⟩ := HA.out
          have hv64 : ((x16.toNat : Int) + (shX x15).toNat + x7.toNat + (shY x2).toNat) % 4294967296 = ((x16 + shX x15 + x7 + shY x2).toNat : Int) := by
            simp only [UInt32.toNat_add]; omega
          rw [hv64]
          have hq : Arr wq (w.heap.size + 1) 150 (cells64 (sched l k)) := by rw [← Hwq.out]; exact hA
          have hq2 : Arr wq w.heap.size 150 (cells64 []) := by rw [← Hwq.out]; exact hB
          have hq3 : Ext w wq := by rw [← Hwq.out]; exact hext.drewN nq
          clear hc c7 c16 hf
          have hs := arr_set (j := k) hq (W32 (x16 + shX x15 + x7 + shY x2))
          rw [show (cells64 (sched l k)).setIfInBounds k = (cells64 (sched l k)).setIfInBounds (sched l k).length by rw [sched_len], cells64_set _ (by rw [sched_len]; omega), ← hn.out] at hs
          have HR := Lib.hid (show _ ∧ _ ∧ _ from ⟨hs, arr_other (g := w.heap.size + 1) (j := k) hq2 (by omega) (W32 (x16 + shX x15 + x7 + shY x2)), (ext_set (g := w.heap.size + 1) (j := k) hq3 (by omega) (W32 (x16 + shX x15 + x7 + shY x2))).drewN 1⟩)
          have Hv := Lib.hid hv64
          clear hv64 hq hq2 hq3 hs hA hB hext
          go_wp2
          go_roundw
          case rel => exact ⟨k + 1, by omega, by omega, by first | go_num | omega, by first | exact HR.out | (rw [Hv.out]; exact HR.out)⟩
          case measure => simp [intOf]; omega
        · obtain rfl : k = 64 := by omega
          have HL := Lib.hid (show _ ∧ _ from ⟨hA, hB⟩)
          have h64i := Lib.hid (info64.trans (congrArg some (cells64_size (sched l 64) (by rw [sched_len]; omega)).symm))
          have h64j := Lib.hid ((cells64_size [] (by simp)).trans (cells64_size (sched l 64) (by rw [sched_len]; omega)).symm)
          have h64k := Lib.hid (Array.all_eq_true_iff_forall_mem.2 fun v hv => cells64_one (sched l 64) v (by simpa using hv))
          have hst := setRow_arr hB (cells64 (sched l 64))
          have hex := setRow_ext hext (Nat.le_refl _) (cells64 (sched l 64))
          have Hst := Lib.hid (show _ ∧ _ from ⟨hst, hex⟩)
          clear hA hB hst hex
          go_wp2_with (first | refine wpList_load_row rfl 150 _ rfl (w.heap.size + 1) rfl 150 _ (0, 0) _ HL.out.1 Tryd.underlying150 rfl h64i.out ?_ | refine wpList_store_row rfl 150 _ _ rfl w.heap.size _ rfl rfl 150 _ HL.out.2 h64i.out h64j.out h64k.out ?_)
          refine bodyPost_ret (results_cell_row rfl _ _ w.heap.size 150 _ (0, 0) _ rfl Hst.out.1 Tryd.underlying150 rfl h64i.out) rfl ⟨rfl, Hst.out.2⟩
end Go.Proofs.YtpndahmlbjhdfaaDoor
