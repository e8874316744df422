/-
  ref01.Step.
-/
import Derived.BigRegion
import Derived.BigQuiet
import Derived.WalkMore
import Derived.Test.YtpndahmlbjhdfaaDoorRows
import Derived.Test.YtpndahmlbjhdfaaDoorSkt
import Derived.Test.YtpndahmlbjhdfaaDoorMid
namespace Go.Proofs.YtpndahmlbjhdfaaDoor
open Go.RowKit
set_option maxRecDepth 1000000
set_option linter.unusedVariables false
set_option linter.unusedSimpArgs false
theorem quiet_add_same {P : Program} {f : FuncId} {args : Array Value} {w : World} {a n : Nat} {v : Value}
    (h : Calls P f args (w.drewN (a + n)) fun e w' => e = .returned v ∧ w' = w.drewN (a + n)) :
    Calls P f args (w.drewN (a + n)) fun e w'' => e = .returned v ∧ ∃ m, w'' = w.drewN (a + m) :=
  h.mono fun _ _ ⟨he, hm⟩ => ⟨he, n, hm⟩
def WordsAt (W : World) : Prop := ∀ j, j < 64 → W.cell? ⟨1, j, none⟩ = some (W32 (shK.getD j 0))
theorem WordsAt.ext {w w' : World} (h : WordsAt w) (he : Ext w w') : WordsAt w' := fun j hj => ext_cell he (h j hj)
theorem shWord_num (l : List UInt8) (k : Nat) (h : 4 * k + 4 ≤ l.length) : shWord l k = UInt32.ofNat (numL ((l.take (4 * k + 4)).drop (4 * k))) := by
  have e : (l.take (4 * k + 4)).drop (4 * k) = [bt l (4 * k), bt l (4 * k + 1), bt l (4 * k + 2), bt l (4 * k + 3)] := by
    apply List.ext_getElem
    · simp; omega
    · intro i h1 h2
      simp only [List.getElem_drop, List.getElem_take]
      simp at h2
      match i, h2 with
      | 0, _ => simp [bt_get l _ (show 4 * k < l.length by omega)]
      | 1, _ => simp [bt_get l _ (show 4 * k + 1 < l.length by omega)]
      | 2, _ => simp [bt_get l _ (show 4 * k + 2 < l.length by omega)]
      | 3, _ => simp [bt_get l _ (show 4 * k + 3 < l.length by omega)]
  rw [e]
  simp [numL, shWord, bt]
theorem turn_x (x : UInt32) : bits .xor .u32 (bits .xor .u32 ((rr x (turnN 7)).toNat : Int) ((rr x (turnN 18)).toNat : Int)) ((x.toNat : Int) / 8) = ((shX x).toNat : Int) := by
  rw [show (8 : Int) = 2 ^ (3 : UInt32).toNat from rfl, w_shr x 3 (by decide), w_xor, w_xor]; rfl
theorem turn_y (x : UInt32) : bits .xor .u32 (bits .xor .u32 ((rr x (turnN 17)).toNat : Int) ((rr x (turnN 19)).toNat : Int)) ((x.toNat : Int) / 1024) = ((shY x).toNat : Int) := by
  rw [show (1024 : Int) = 2 ^ (10 : UInt32).toNat from rfl, w_shr x 10 (by decide), w_xor, w_xor]; rfl
theorem turn_up (e : UInt32) : bits .xor .u32 (bits .xor .u32 ((rr e (turnN 6)).toNat : Int) ((rr e (turnN 11)).toNat : Int)) ((rr e (turnN 25)).toNat : Int) = ((shUp e).toNat : Int) := by rw [w_xor, w_xor]; rfl
theorem turn_low (e : UInt32) : bits .xor .u32 (bits .xor .u32 ((rr e (turnN 2)).toNat : Int) ((rr e (turnN 13)).toNat : Int)) ((rr e (turnN 22)).toNat : Int) = ((shLow e).toNat : Int) := by rw [w_xor, w_xor]; rfl
/-- What lies: the schedule in block b2, s in b0, the result's place in b1. -/
def S1 (w : World) (b0 b1 b2 : Nat) (s : St) (xs : List UInt32) (wr : World) : Prop :=
  Arr wr b2 150 (cells64 xs) ∧ Arr wr b0 104 (cells8 s) ∧ Arr wr b1 104 (Array.replicate 8 (.int .u32 0)) ∧ Ext w wr
theorem S1.drew {w : World} {b0 b1 b2 : Nat} {s : St} {xs : List UInt32} {wr : World} (h : S1 w b0 b1 b2 s xs wr) (n : Nat) : S1 w b0 b1 b2 s xs (wr.drewN n) := ⟨h.1, h.2.1, h.2.2.1, ext_drewN h.2.2.2 n⟩
theorem S1.set {w : World} {b0 b1 b2 : Nat} {s : St} {xs : List UInt32} {wr : World} (h : S1 w b0 b1 b2 s xs wr) (h0 : w.heap.size ≤ b2) (h1 : b2 ≠ b0) (h2 : b2 ≠ b1) (k : Nat) (hk : xs.length = k) (x : UInt32) (hx : k < 64) : S1 w b0 b1 b2 s (xs ++ [x]) (wr.setCell ⟨b2, k, none⟩ (W32 x)) := by
  subst hk
  obtain ⟨q1, q2, q3, q4⟩ := h
  exact ⟨by rw [← cells64_set xs hx]; exact arr_set q1 _, arr_other q2 h1 _, arr_other q3 h2 _, ext_set q4 (by omega) _⟩
theorem rnd_cells (va vb vc vd ve vf vg vh xk xw : UInt32) : (#[Value.int .u32 (((vh.toNat : Int) + (shUp ve).toNat + (shPick ve vf vg).toNat + xk.toNat + xw.toNat + ((shLow va).toNat + (shMost va vb vc).toNat)) % 4294967296), W32 va, W32 vb, W32 vc, Value.int .u32 (((vd.toNat : Int) + ((vh.toNat : Int) + (shUp ve).toNat + (shPick ve vf vg).toNat + xk.toNat + xw.toNat)) % 4294967296), W32 ve, W32 vf, W32 vg] : Array Value) = cells8 (shRnd ⟨va, vb, vc, vd, ve, vf, vg, vh⟩ xk xw) := by
  have e1 : ((vh.toNat : Int) + (shUp ve).toNat + (shPick ve vf vg).toNat + xk.toNat + xw.toNat + ((shLow va).toNat + (shMost va vb vc).toNat)) % 4294967296 = ((vh + shUp ve + shPick ve vf vg + xk + xw + shLow va + shMost va vb vc).toNat : Int) := by simp only [UInt32.toNat_add]; omega
  have e2 : ((vd.toNat : Int) + ((vh.toNat : Int) + (shUp ve).toNat + (shPick ve vf vg).toNat + xk.toNat + xw.toNat)) % 4294967296 = ((vd + (vh + shUp ve + shPick ve vf vg + xk + xw)).toNat : Int) := by simp only [UInt32.toNat_add]; omega
  rw [e1, e2]; rfl
theorem infoS : (Tryd.prog.info? 104).map (·.size) = some 8 := by kernel_rfl
theorem cells8_one (s : St) : (cells8 s).all Value.oneCell' = true := by simp [cells8, Value.oneCell']
/-- What lies: the schedule in block b2, s in b0, the result's place in b1, v in b3. -/
def S2 (w : World) (b0 b1 b2 b3 : Nat) (s v : St) (xs : List UInt32) (wr : World) : Prop :=
  Arr wr b2 150 (cells64 xs) ∧ Arr wr b0 104 (cells8 s) ∧ Arr wr b1 104 (Array.replicate 8 (.int .u32 0)) ∧ Arr wr b3 104 (cells8 v) ∧ Ext w wr
theorem S2.drew {w : World} {b0 b1 b2 b3 : Nat} {s v : St} {xs : List UInt32} {wr : World} (h : S2 w b0 b1 b2 b3 s v xs wr) (n : Nat) : S2 w b0 b1 b2 b3 s v xs (wr.drewN n) := ⟨h.1, h.2.1, h.2.2.1, h.2.2.2.1, ext_drewN h.2.2.2.2 n⟩
theorem S2.row {w : World} {b0 b1 b2 b3 : Nat} {s v : St} {xs : List UInt32} {wr : World} (h : S2 w b0 b1 b2 b3 s v xs wr) (h0 : b3 ≠ b0) (h1 : b3 ≠ b1) (h2 : b3 ≠ b2) (h3 : w.heap.size ≤ b3) (v' : St) : S2 w b0 b1 b2 b3 s v' xs (wr.setRow b3 (cells8 v')) :=
  ⟨setRow_other h.1 h2 _, setRow_other h.2.1 h0 _, setRow_other h.2.2.1 h1 _, setRow_arr h.2.2.2.1 _, setRow_ext h.2.2.2.2 h3 _⟩
theorem S2.set {w : World} {b0 b1 b2 b3 : Nat} {s v : St} {k : Nat} {xs : List UInt32} {wr : World} (h : S2 w b0 b1 b2 b3 (addK s v k) v xs wr) (h0 : b0 ≠ b1) (h1 : b0 ≠ b2) (h2 : b0 ≠ b3) (h3 : w.heap.size ≤ b0) (hk : k < 8) : S2 w b0 b1 b2 b3 (addK s v (k + 1)) v xs (wr.setCell ⟨b0, k, none⟩ (W32 (wd s k + wd v k))) :=
  ⟨arr_other h.1 h1 _, by rw [← addK_set s v k hk]; exact arr_set h.2.1 _, arr_other h.2.2.1 h0 _, arr_other h.2.2.2.1 h2 _, ext_set h.2.2.2.2 h3 _⟩
theorem S1.more {w : World} {b0 b1 b2 : Nat} {s : St} {xs : List UInt32} {wr : World} (h : S1 w b0 b1 b2 s xs wr) (v : St) (c : Array Value) : S2 w b0 b1 b2 wr.heap.size s v xs ((wr.alloc (.cells c 104)).setRow wr.heap.size (cells8 v)) := by
  have hx : Ext wr (wr.alloc (.cells c 104)) := Below.alloc (Below.refl _ wr) (Nat.le_refl _) _
  have l2 := (Array.getElem?_eq_some_iff.1 h.1).1
  have l0 := (Array.getElem?_eq_some_iff.1 h.2.1).1
  have l1 := (Array.getElem?_eq_some_iff.1 h.2.2.1).1
  exact ⟨setRow_other ((hx.block _ l2).trans h.1) (by omega) _, setRow_other ((hx.block _ l0).trans h.2.1) (by omega) _, setRow_other ((hx.block _ l1).trans h.2.2.1) (by omega) _, setRow_arr (heap_alloc_last wr _) _, setRow_ext (ext_trans h.2.2.2 hx) h.2.2.2.size _⟩
set_option maxHeartbeats 4000000 in
theorem Step_any (s : St) (v : Value) (l : List UInt8) (w : World) (hv : SlB w v l) (h64 : l.length = 64) (hO : WordsAt w) :
    Calls Tryd.prog 80 #[.agg (cells8 s), v] w fun e w' => e = .returned (.agg (cells8 (shStep s l))) ∧ Ext w w' := by
  obtain ⟨ao, cap, rfl, hcap, hmax, hnil, hcell⟩ := id hv
  clear hcell
  have H64 := Lib.hid h64
  simp only [List.length_map, h64] at hcap hv ⊢
  have HV := Lib.hid hv
  have HO := Lib.hid hO
  clear hv h64 hO
  go_enter Tryd.func80, Tryd.ntmps80
  go_wp2
  have h0 : S1 w w.heap.size (w.heap.size + 1) (w.heap.size + 1 + 1) s [] (((w.alloc (Obj.cells (cells8 s) 104)).alloc (Obj.cells (Array.replicate 8 (.int .u32 0)) 104)).alloc (Obj.cells (Array.replicate 64 (.int .u32 0)) 150)) := by
    have q := arr_two (w.alloc (Obj.cells (cells8 s) 104)) (Array.replicate 8 (.int .u32 0)) (Array.replicate 64 (.int .u32 0)) 104 150
    rw [show (w.alloc (Obj.cells (cells8 s) 104)).heap.size = w.heap.size + 1 by simp] at q
    have hx := ext_two (w.alloc (Obj.cells (cells8 s) 104)) (Obj.cells (Array.replicate 8 (.int .u32 0)) 104) (Obj.cells (Array.replicate 64 (.int .u32 0)) 150)
    exact ⟨q.1, (hx.block _ (by simp)).trans (heap_alloc_last w _), q.2, ext_trans (Below.alloc (Below.refl _ w) (Nat.le_refl _) _) hx⟩
  simp only [Array.replicate, List.replicate] at h0
  generalize ((w.alloc _).alloc _).alloc _ = W1 at *
  have hb0 : w.heap.size ≤ w.heap.size + 1 + 1 := by omega
  have hb1 : w.heap.size + 1 + 1 ≠ w.heap.size := by omega
  have hb2 : w.heap.size + 1 + 1 ≠ w.heap.size + 1 := by omega
  have hb3 : w.heap.size + 1 ≠ w.heap.size := by omega
  have hb4 : w.heap.size ≤ w.heap.size := Nat.le_refl _
  have hb5 : w.heap.size ≤ w.heap.size + 1 := by omega
  have HH := Lib.hid (show _ ∧ _ ∧ _ ∧ _ ∧ _ ∧ _ ∧ _ from ⟨h0, hb0, hb1, hb2, hb3, hb4, hb5⟩)
  clear h0 hb0 hb1 hb2 hb3 hb4 hb5
  obtain ⟨b2, hB2⟩ : ∃ b2, w.heap.size + 1 + 1 = b2 := ⟨_, rfl⟩
  rw [hB2] at HH ⊢
  obtain ⟨b1, hB1⟩ : ∃ b1, w.heap.size + 1 = b1 := ⟨_, rfl⟩
  rw [hB1] at HH ⊢
  clear hB2 hB1
  have hrun := Lib.hid (run_midm (P := Tryd.prog) Tryd.underlying45 Tryd.sizeOf5 (ao := ao) (n := 64) (cap := cap) hcap hmax)
  have hia := Lib.hid (run_index_arr (P := Tryd.prog) Tryd.underlying150 Tryd.sizeOf102 b2)
  generalize hb0 : w.heap.size = b0 at *
  have Hb0 := Lib.hid hb0; clear hb0
  go_loopw [6] (fun i wr => ∃ k : Nat, k ≤ 64 ∧ i = .int .i64 k ∧ S1 w b0 b1 b2 s (sched l k) wr) (fun i _ => 64 - (intOf i).toNat)
  case atStart => exact ⟨0, by omega, rfl, HH.out.1⟩
  case round =>
    obtain ⟨k, hk, rfl, hS⟩ := hrel
    by_cases h64 : k < 64
    · by_cases h16 : k < 16
      · have hs := (HV.out.ext hS.2.2.2).midm (i := 4 * k) (j := 4 * k + 4) (by omega) (by rw [List.length_map, H64.out]; omega)
        rw [← List.map_take, ← List.map_drop] at hs
        have hr : ∀ W, (Instr.slice 45 (.slice ao 64 cap) (some (.int .i64 (4 * (k : Int)))) (some (.int .i64 (4 * (k : Int) + 4))) none).run Tryd.prog W = .ok (midm (.slice ao 64 cap) (4 * k) (4 * k + 4)) W := fun W => by
          have := hrun.out W (4 * k) (4 * k + 4) (by omega) (by omega)
          rwa [show ((4 * k : Nat) : Int) = 4 * (k : Int) by omega, show ((4 * k + 4 : Nat) : Int) = 4 * (k : Int) + 4 by omega] at this
        have HW := Lib.hid (num_any _ _ wr hs (by simp; omega))
        have hlt := numL_lt ((l.take (4 * k + 4)).drop (4 * k))
        have hwd := Lib.hid (shWord_num l k (by rw [H64.out]; omega))
        have hlen4 : ((l.take (4 * k + 4)).drop (4 * k)).length = 4 := by simp [H64.out]; omega
        rw [hlen4] at hlt
        have hlt2 : numL ((l.take (4 * k + 4)).drop (4 * k)) < 4294967296 := hlt
        have hf := arr_frozen (j := k) hS.1
        have hc := arr_cell hS.1 (cells64_get (sched l k) (by rw [sched_len]; omega) k h64)
        have ik := fun W => hia.out W k h64
        have HS := Lib.hid hS
        clear hs hS hlen4 hlt
        generalize midm (.slice ao 64 cap) (4 * k) (4 * k + 4) = vr at *
        generalize numL ((l.take (4 * k + 4)).drop (4 * k)) = nw at *
        go_wp2_with (go_at_call 101; refine (HW.out).mono ?_; rintro e W3 ⟨rfl, rfl⟩)
        have hx : UInt32.ofNat nw = shWord l k := by rw [hwd.out]
        have hx2 : ((UInt32.ofNat nw).toNat : Int) = (nw : Int) := by rw [UInt32.toNat_ofNat']; omega
        refine ⟨⟨k + 1, by omega, by go_num, ?_⟩, by simp [intOf]; omega⟩
        have := HS.out.set (by rw [Hb0.out]; exact HH.out.2.1) HH.out.2.2.1 HH.out.2.2.2.1 k (sched_len _ _) (UInt32.ofNat nw) h64
        rw [show sched l (k + 1) = sched l k ++ [UInt32.ofNat nw] by rw [sched, shNext, sched_len, if_pos h16, hx], ← hx2]
        exact this
      · have hf := arr_frozen (j := k) hS.1
        have hn := Lib.hid (sched_high l k (by omega))
        have i15 : ∀ W, (Instr.indexAt 150 (.pointer (some ⟨b2, 0, none⟩)) (.int .i64 ((k : Int) - 15))).run Tryd.prog W = .ok (.pointer (some ⟨b2, k - 15, none⟩)) W := fun W => by
          have := hia.out W (k - 15) (by omega)
          rwa [show ((k - 15 : Nat) : Int) = (k : Int) - 15 by omega] at this
        have c15 := arr_cell hS.1 (cells64_get (sched l k) (by rw [sched_len]; omega) (k - 15) (by omega))
        have i2 : ∀ W, (Instr.indexAt 150 (.pointer (some ⟨b2, 0, none⟩)) (.int .i64 ((k : Int) - 2))).run Tryd.prog W = .ok (.pointer (some ⟨b2, k - 2, none⟩)) W := fun W => by
          have := hia.out W (k - 2) (by omega)
          rwa [show ((k - 2 : Nat) : Int) = (k : Int) - 2 by omega] at this
        have c2 := arr_cell hS.1 (cells64_get (sched l k) (by rw [sched_len]; omega) (k - 2) (by omega))
        have i16 : ∀ W, (Instr.indexAt 150 (.pointer (some ⟨b2, 0, none⟩)) (.int .i64 ((k : Int) - 16))).run Tryd.prog W = .ok (.pointer (some ⟨b2, k - 16, none⟩)) W := fun W => by
          have := hia.out W (k - 16) (by omega)
          rwa [show ((k - 16 : Nat) : Int) = (k : Int) - 16 by omega] at this
        have c16 := arr_cell hS.1 (cells64_get (sched l k) (by rw [sched_len]; omega) (k - 16) (by omega))
        have i7 : ∀ W, (Instr.indexAt 150 (.pointer (some ⟨b2, 0, none⟩)) (.int .i64 ((k : Int) - 7))).run Tryd.prog W = .ok (.pointer (some ⟨b2, k - 7, none⟩)) W := fun W => by
          have := hia.out W (k - 7) (by omega)
          rwa [show ((k - 7 : Nat) : Int) = (k : Int) - 7 by omega] at this
        have c7 := arr_cell hS.1 (cells64_get (sched l k) (by rw [sched_len]; omega) (k - 7) (by omega))
        have c0 := arr_cell hS.1 (cells64_get (sched l k) (by rw [sched_len]; omega) k (by omega))
        have ik := fun W => hia.out W k (by omega)
        have HS := Lib.hid hS
        clear hS
        generalize (sched l k).getD (k - 15) 0 = x15 at *
        generalize (sched l k).getD (k - 2) 0 = x2 at *
        generalize (sched l k).getD (k - 16) 0 = x16 at *
        generalize (sched l k).getD (k - 7) 0 = x7 at *
        generalize (sched l k).getD k 0 = x0 at *
        have hsx := turn_x x15
        have hsy := turn_y x2
        have h16' : decide ((k : Int) < 16) = false := decide_eq_false (by omega)
        go_wp2
        refine wp_region_quiet_lit (by kernel_rfl) (by kernel_rfl) ?_
        repeat (first
          | go_big_quiet_skip
          | (go_big_quiet_want; go_big_quiet_op; (try go_bits); first | go_big_quiet_on | go_big_quiet_call (first | exact Calls.quiet_of_same (turn_any _ _ (by decide) _) | exact quiet_add_same (turn_any _ _ (by decide) _))))
        refine wpQuiet_nil ?_
        intro _ hw'
        obtain ⟨nq, hw''⟩ := hw'
        subst hw''
        go_wp2
        refine wp_region_quiet_lit (by kernel_rfl) (by kernel_rfl) ?_
        repeat (first
          | go_big_quiet_skip
          | (go_big_quiet_want; go_big_quiet_op; (try go_bits); first | go_big_quiet_on | go_big_quiet_call (first | exact Calls.quiet_of_same (turn_any _ _ (by decide) _) | exact quiet_add_same (turn_any _ _ (by decide) _))))
        refine wpQuiet_nil ?_
        intro _ hw'
        obtain ⟨nq, hw''⟩ := hw'
        subst hw''
        go_wp2
        clear hsx hsy i15 i2 c15 c2
        generalize hwq : (wr.drewN _).drewN nq = wq
        have HSq : Hid (S1 w b0 b1 b2 s (sched l k) wq) := Lib.hid (by rw [← hwq]; exact (HS.out.drew _).drew _)
        replace hf : wq.frozen? ⟨b2, k, none⟩ = false := by rw [← hwq]; exact hf
        replace c0 : wq.cell? ⟨b2, k, none⟩ = some (W32 x0) := by rw [← hwq]; exact c0
        replace c7 : wq.cell? ⟨b2, k - 7, none⟩ = some (W32 x7) := by rw [← hwq]; exact c7
        replace c16 : wq.cell? ⟨b2, k - 16, none⟩ = some (W32 x16) := by rw [← hwq]; exact c16
        clear hwq
        go_region
        clear hf c0 c7 c16 i7 i16 ik
        have hv64 : (((shY x2).toNat : Int) + x7.toNat + (shX x15).toNat + x16.toNat) % 4294967296 = ((x16 + shX x15 + x7 + shY x2).toNat : Int) := by
          simp only [UInt32.toNat_add]; omega
        have hv65 : ((x16.toNat : Int) + (shX x15).toNat + x7.toNat + (shY x2).toNat) % 4294967296 = ((x16 + shX x15 + x7 + shY x2).toNat : Int) := by
          simp only [UInt32.toNat_add]; omega
        have hset := HSq.out.set (by rw [Hb0.out]; exact HH.out.2.1) HH.out.2.2.1 HH.out.2.2.2.1 k (sched_len _ _) (x16 + shX x15 + x7 + shY x2) h64
        rw [← hn.out] at hset
        have HR := Lib.hid (hset.drew 1)
        have Hv := Lib.hid hv64
        have Hv5 := Lib.hid hv65
        clear hv64 hv65 hset h16'
        go_wp2
        go_roundw
        case rel => exact ⟨k + 1, by omega, by go_num, by first | exact HR.out | (rw [Hv.out]; exact HR.out) | (rw [Hv5.out]; exact HR.out)⟩
        case measure => simp [intOf]; omega
    · obtain rfl : k = 64 := by omega
      have HS := Lib.hid hS
      clear hia hrun hS
      have hsa := Lib.hid (cells8_one s)
      go_wp2_with (first | refine wpList_load_row rfl 104 _ rfl b0 rfl 104 _ (0, 0) _ HS.out.2.1 Tryd.underlying104 rfl infoS ?_ | refine wpList_store_row rfl 104 _ _ rfl wr.heap.size _ rfl rfl 104 _ (heap_alloc_last wr _) infoS rfl hsa.out ?_)
      have hS2 := HS.out.more s #[Value.int .u32 0, Value.int .u32 0, Value.int .u32 0, Value.int .u32 0, Value.int .u32 0, Value.int .u32 0, Value.int .u32 0, Value.int .u32 0]
      have hle : b0 ≤ wr.heap.size := by rw [← Hb0.out]; exact HS.out.2.2.2.size
      have hn0 : wr.heap.size ≠ b0 := by have := (Array.getElem?_eq_some_iff.1 HS.out.2.1).1; omega
      have hn1 : wr.heap.size ≠ b1 := by have := (Array.getElem?_eq_some_iff.1 HS.out.2.2.1).1; omega
      have hn2 : wr.heap.size ≠ b2 := by have := (Array.getElem?_eq_some_iff.1 HS.out.1).1; omega
      generalize (wr.alloc _).setRow wr.heap.size (cells8 s) = W4 at *
      clear HS hsa
      generalize wr.heap.size = b3 at *
      have HN := Lib.hid (show _ ∧ _ ∧ _ ∧ _ from ⟨hn0, hn1, hn2, hle⟩)
      clear hn0 hn1 hn2 hle
      have HS2 := Lib.hid hS2; clear hS2
      have hia := Lib.hid (run_index_arr (P := Tryd.prog) Tryd.underlying150 Tryd.sizeOf102 b2)
      have hio := Lib.hid (run_index_arr (P := Tryd.prog) Tryd.underlying150 Tryd.sizeOf102 1)
      go_loopw [10] (fun i wq => ∃ (k : Nat) (va vb vc vd ve vf vg vh : UInt32), k ≤ 64 ∧ i = .int .i64 k ∧ shRnds l s k = ⟨va, vb, vc, vd, ve, vf, vg, vh⟩ ∧ S2 w b0 b1 b2 b3 s ⟨va, vb, vc, vd, ve, vf, vg, vh⟩ (sched l 64) wq) (fun i _ => 64 - (intOf i).toNat)
      case atStart => exact ⟨0, s.a, s.b, s.c, s.d, s.e, s.f, s.g, s.h, by omega, rfl, rfl, HS2.out⟩
      case round =>
        rename World => wq
        obtain ⟨k, va, vb, vc, vd, ve, vf, vg, vh, hk, rfl, hv, hS⟩ := hrel
        by_cases h3 : k < 64
        · have ia := fun W => hia.out W k h3
          have io := fun W => hio.out W k h3
          have ca := arr_cell hS.1 (cells64_get (sched l 64) (by rw [sched_len]; omega) k h3)
          have co := (HO.out.ext hS.2.2.2.2) k h3
          have c0 : World.cell? _ ⟨b3, 0, none⟩ = some (W32 va) := arr_cell hS.2.2.2.1 (by rfl)
          have c1 : World.cell? _ ⟨b3, 1, none⟩ = some (W32 vb) := arr_cell hS.2.2.2.1 (by rfl)
          have c2 : World.cell? _ ⟨b3, 2, none⟩ = some (W32 vc) := arr_cell hS.2.2.2.1 (by rfl)
          have c3 : World.cell? _ ⟨b3, 3, none⟩ = some (W32 vd) := arr_cell hS.2.2.2.1 (by rfl)
          have c4 : World.cell? _ ⟨b3, 4, none⟩ = some (W32 ve) := arr_cell hS.2.2.2.1 (by rfl)
          have c5 : World.cell? _ ⟨b3, 5, none⟩ = some (W32 vf) := arr_cell hS.2.2.2.1 (by rfl)
          have c6 : World.cell? _ ⟨b3, 6, none⟩ = some (W32 vg) := arr_cell hS.2.2.2.1 (by rfl)
          have c7 : World.cell? _ ⟨b3, 7, none⟩ = some (W32 vh) := arr_cell hS.2.2.2.1 (by rfl)
          have hn := Lib.hid (show shRnds l s (k + 1) = shRnd ⟨va, vb, vc, vd, ve, vf, vg, vh⟩ (shK.getD k 0) ((sched l 64).getD k 0) by rw [← hv]; rfl)
          have HS := Lib.hid hS
          clear hv hS
          generalize (sched l 64).getD k 0 = xw at *
          generalize shK.getD k 0 = xk at *
          have hup := turn_up ve
          have hpick := pick_int ve vf vg
          have hlow := turn_low va
          have hmost := most_int va vb vc
          have bh := w_lt vh
          have bu := w_lt (shUp ve)
          have bp := w_lt (shPick ve vf vg)
          have bk := w_lt xk
          have bw := w_lt xw
          have bl := w_lt (shLow va)
          have bm := w_lt (shMost va vb vc)
          have bd := w_lt vd
          go_wp2
          refine wp_region_quiet_lit (by kernel_rfl) (by kernel_rfl) ?_
          repeat (first
            | go_big_quiet_skip
            | (go_big_quiet_want; go_big_quiet_op; (try go_bits); first | go_big_quiet_on | go_big_quiet_call (first | exact Calls.quiet_of_same (turn_any _ _ (by decide) _) | exact quiet_add_same (turn_any _ _ (by decide) _))))
          refine wpQuiet_nil ?_
          intro _ hw'
          obtain ⟨nq, hw''⟩ := hw'
          subst hw''
          go_wp2
          refine wp_region_quiet_lit (by kernel_rfl) (by kernel_rfl) ?_
          repeat (first
            | go_big_quiet_skip
            | (go_big_quiet_want; go_big_quiet_op; (try go_bits); first | go_big_quiet_on | go_big_quiet_call (first | exact Calls.quiet_of_same (turn_any _ _ (by decide) _) | exact quiet_add_same (turn_any _ _ (by decide) _))))
          refine wpQuiet_nil ?_
          intro _ hw'
          obtain ⟨nq, hw''⟩ := hw'
          subst hw''
          clear hup hpick hlow hmost
          go_wp2_with (refine wpList_store_row rfl 104 _ _ rfl b3 _ rfl rfl 104 _ ((HS.out.drew _).2.2.2.1) infoS rfl (by simp [Value.oneCell']) ?_)
          rw [rnd_cells, ← hn.out]
          refine ⟨⟨k + 1, _, _, _, _, _, _, _, _, by omega, by go_num, rfl, ?_⟩, by simp [intOf]; omega⟩
          exact (HS.out.drew _).row HN.out.1 HN.out.2.1 HN.out.2.2.1 (by rw [Hb0.out]; exact HN.out.2.2.2) _
        · obtain rfl : k = 64 := by omega
          generalize hvv : (⟨va, vb, vc, vd, ve, vf, vg, vh⟩ : St) = vv at *
          have Hfin := Lib.hid (show shStep s l = addK s vv 8 by rw [addK_all, ← hv]; rfl)
          have HS := Lib.hid (show S2 w b0 b1 b2 b3 (addK s vv 0) vv (sched l 64) wq from hS)
          have hsa := Lib.hid (cells8_one (addK s vv 8))
          clear hv hS hvv hia hio HS2
          have hi0 := Lib.hid (run_index_arr (P := Tryd.prog) Tryd.underlying104 Tryd.sizeOf102 b0)
          have hi3 := Lib.hid (run_index_arr (P := Tryd.prog) Tryd.underlying104 Tryd.sizeOf102 b3)
          go_wp2
          go_loopw [165] (fun i wq => ∃ k : Nat, k ≤ 8 ∧ i = .int .i64 k ∧ S2 w b0 b1 b2 b3 (addK s vv k) vv (sched l 64) wq) (fun i _ => 8 - (intOf i).toNat)
          case atStart => exact ⟨0, by omega, rfl, HS.out⟩
          case round =>
            obtain ⟨k, hk, rfl, hS⟩ := hrel
            by_cases h8 : k < 8
            · have hf := arr_frozen (j := k) hS.2.1
              have hc := arr_cell hS.2.1 (addK_get s vv k h8)
              have hc3 := arr_cell hS.2.2.2.1 (cells8_get vv k h8)
              have i0 := fun W => hi0.out W k h8
              have i3 := fun W => hi3.out W k h8
              have hset := Lib.hid (hS.set (fun h => HH.out.2.2.2.2.1 h.symm) (fun h => HH.out.2.2.1 h.symm) (fun h => HN.out.1 h.symm) (by rw [Hb0.out]; exact Nat.le_refl _) h8)
              have hadd := Lib.hid (w_add (wd s k) (wd vv k))
              have b1' := w_lt (wd s k)
              have b2' := w_lt (wd vv k)
              clear hS
              generalize wd s k = y1 at *
              generalize wd vv k = y2 at *
              go_wp2
              go_region
              go_wp2
              go_roundw
              case rel => exact ⟨k + 1, by omega, by go_num, by rw [hadd.out]; exact hset.out.drew 1⟩
              case measure => simp [intOf]; omega
            · obtain rfl : k = 8 := by omega
              have HS8 := Lib.hid hS
              clear hS
              go_wp2_with (first | refine wpList_load_row rfl 104 _ rfl b0 rfl 104 _ (0, 0) _ HS8.out.2.1 Tryd.underlying104 rfl infoS ?_ | refine wpList_store_row rfl 104 _ _ rfl b1 _ rfl rfl 104 _ HS8.out.2.2.1 infoS rfl hsa.out ?_)
              rw [Hfin.out]
              refine bodyPost_ret (results_cell_row rfl _ _ b1 104 _ (0, 0) _ rfl (setRow_arr HS8.out.2.2.1 _) Tryd.underlying104 rfl infoS) rfl ⟨rfl, setRow_ext HS8.out.2.2.2.2 (by rw [Hb0.out]; exact HH.out.2.2.2.2.2.2) _⟩
end Go.Proofs.YtpndahmlbjhdfaaDoor
