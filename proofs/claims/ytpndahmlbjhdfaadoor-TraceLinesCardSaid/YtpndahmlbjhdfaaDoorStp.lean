/-
  sha.state's step.
-/
import Derived.BigRegion
import Derived.BigQuiet
import Derived.Test.YtpndahmlbjhdfaaDoorRows
import Derived.Test.YtpndahmlbjhdfaaDoorSpr
namespace Go.Proofs.YtpndahmlbjhdfaaDoor
open Go.RowKit
set_option maxRecDepth 1000000
set_option linter.unusedVariables false
set_option linter.unusedSimpArgs false
def cells8 (s : St) : Array Value := #[W32 s.a, W32 s.b, W32 s.c, W32 s.d, W32 s.e, W32 s.f, W32 s.g, W32 s.h]
def OddAt (W : World) : Prop := ∀ j, j < 64 → W.cell? ⟨2, j, none⟩ = some (W32 (shK.getD j 0))
theorem OddAt.ext {w w' : World} (h : OddAt w) (he : Ext w w') : OddAt w' := fun j hj => ext_cell he (h j hj)
theorem up_int (e : UInt32) : bits .xor .u32 (bits .xor .u32 ((rr e (rotN (-6))).toNat : Int) ((rr e (rotN (-11))).toNat : Int)) ((rr e (rotN (-25))).toNat : Int) = ((shUp e).toNat : Int) := by rw [w_xor, w_xor]; rfl
theorem low_int (e : UInt32) : bits .xor .u32 (bits .xor .u32 ((rr e (rotN (-2))).toNat : Int) ((rr e (rotN (-13))).toNat : Int)) ((rr e (rotN (-22))).toNat : Int) = ((shLow e).toNat : Int) := by rw [w_xor, w_xor]; rfl
theorem pick_int (e f g : UInt32) : bits .xor .u32 (bits .and .u32 (e.toNat : Int) (f.toNat : Int)) (bits .and .u32 (bits .xor .u32 IntKind.u32.max (e.toNat : Int)) (g.toNat : Int)) = ((shPick e f g).toNat : Int) := by rw [show IntKind.u32.max = 4294967295 from rfl, w_not, w_and, w_and, w_xor]; rfl
theorem most_int (a b c : UInt32) : bits .xor .u32 (bits .xor .u32 (bits .and .u32 (a.toNat : Int) (b.toNat : Int)) (bits .and .u32 (a.toNat : Int) (c.toNat : Int))) (bits .and .u32 (b.toNat : Int) (c.toNat : Int)) = ((shMost a b c).toNat : Int) := by rw [w_and, w_and, w_and, w_xor, w_xor]; rfl
theorem add3_int (x y z : UInt32) : ((x.toNat : Int) + y.toNat + z.toNat) % 4294967296 = ((x + y + z).toNat : Int) := by simp only [UInt32.toNat_add]; omega
theorem add5_int (x y z u v : UInt32) : ((x.toNat : Int) + y.toNat + z.toNat + u.toNat + v.toNat) % 4294967296 = ((x + y + z + u + v).toNat : Int) := by simp only [UInt32.toNat_add]; omega
/-- The first k words are added. -/
def addK (s v : St) (k : Nat) : St := ⟨if 0 < k then s.a + v.a else s.a, if 1 < k then s.b + v.b else s.b, if 2 < k then s.c + v.c else s.c, if 3 < k then s.d + v.d else s.d, if 4 < k then s.e + v.e else s.e, if 5 < k then s.f + v.f else s.f, if 6 < k then s.g + v.g else s.g, if 7 < k then s.h + v.h else s.h⟩
theorem rndA_int (h u p k x low most : UInt32) : (((h.toNat : Int) + u.toNat + p.toNat + k.toNat + x.toNat + low.toNat) % 4294967296 + most.toNat) % 4294967296 = ((h + u + p + k + x + low + most).toNat : Int) := by simp only [UInt32.toNat_add]; omega
theorem rndE_int (d h u p k x : UInt32) : ((d.toNat : Int) + ((h.toNat : Int) + u.toNat + p.toNat + k.toNat + x.toNat) % 4294967296) % 4294967296 = ((d + (h + u + p + k + x)).toNat : Int) := by simp only [UInt32.toNat_add]; omega
/-- The k-th word. -/
def wd (s : St) (k : Nat) : UInt32 := s.words.getD k 0
theorem eight {p : Nat → Prop} (h0 : p 0) (h1 : p 1) (h2 : p 2) (h3 : p 3) (h4 : p 4) (h5 : p 5) (h6 : p 6) (h7 : p 7) : ∀ k, k < 8 → p k := by
  intro k hk
  obtain rfl | rfl | rfl | rfl | rfl | rfl | rfl | rfl : k = 0 ∨ k = 1 ∨ k = 2 ∨ k = 3 ∨ k = 4 ∨ k = 5 ∨ k = 6 ∨ k = 7 := by omega
  all_goals assumption
theorem cells8_get (s : St) : ∀ k, k < 8 → (cells8 s)[k]? = some (W32 (wd s k)) := by apply eight <;> rfl
theorem addK_get (s v : St) : ∀ k, k < 8 → (cells8 (addK s v k))[k]? = some (W32 (wd s k)) := by apply eight <;> rfl
theorem addK_set (s v : St) : ∀ k, k < 8 → (cells8 (addK s v k)).setIfInBounds k (W32 (wd s k + wd v k)) = cells8 (addK s v (k + 1)) := by apply eight <;> rfl
theorem addK_zero (s v : St) : addK s v 0 = s := rfl
theorem addK_all (s v : St) : addK s v 8 = shAdd s v := rfl
theorem info8 : (Tryd.prog.info? 133).map (·.size) = some 8 := by kernel_rfl
theorem run_index8 (v : St) : ∀ k : Nat, k < 8 → ∀ W, (Instr.index 103 (.agg (cells8 v)) (.int .i64 (k : Int))).run Tryd.prog W = .ok (W32 (wd v k)) W := by
  apply eight <;> exact fun W => by kernel_rfl
set_option maxHeartbeats 1000000 in
theorem step_any (g : Nat) (s : St) (v : Value) (l : List UInt8) (w : World) (hs : Arr w g 133 (cells8 s)) (hv : SlB w v l) (h64 : l.length = 64) (hO : OddAt w) :
    Calls Tryd.prog 84 #[.pointer (some ⟨g, 0, none⟩), v] w fun e w' => e = .returned (.tuple #[]) ∧ Arr w' g 133 (cells8 (shStep s l)) ∧ Chg (fun k => k = g) w w' := by
  have H64 := Lib.hid (info64.trans (congrArg some (cells64_size (sched l 64) (by rw [sched_len]; omega)).symm))
  have H64j := Lib.hid (show (64 : Nat) = (cells64 (sched l 64)).size from (cells64_size (sched l 64) (by rw [sched_len]; omega)).symm)
  have H64k := Lib.hid (Array.all_eq_true_iff_forall_mem.2 fun v hv => cells64_one (sched l 64) v (by simpa using hv))
  have HS := Lib.hid (show _ ∧ _ ∧ _ ∧ _ from ⟨hs, hv, h64, hO⟩)
  have hg : g < w.heap.size := (Array.getElem?_eq_some_iff.1 hs).1
  have hcall := Lib.hid (spread_any v l w hv h64)
  clear hs hv h64 hO
  go_enter Tryd.func84, Tryd.ntmps84
  go_wp2_with (first | (go_at_call 106; refine (hcall.out).mono ?_; rintro e w1 ⟨rfl, hx1⟩) | refine wpList_store_row rfl 150 _ _ rfl w1.heap.size _ rfl rfl 150 _ (heap_alloc_last w1 _) H64.out H64j.out H64k.out ?_)
  simp only [Act.put]
  obtain ⟨W1, hW1⟩ : ∃ W1, (w1.alloc (Obj.cells (Array.replicate 64 (Value.int .u32 0)) 150)).setRow w1.heap.size (cells64 (sched l 64)) = W1 := ⟨_, rfl⟩
  simp only [Array.replicate, List.replicate] at hW1
  rw [hW1]
  have hx2 : Ext w W1 := by
    rw [← hW1]
    exact setRow_ext (ext_trans hx1 (Below.alloc (Below.refl _ w1) (Nat.le_refl _) _)) hx1.size _
  have hA1 : Arr W1 w1.heap.size 150 (cells64 (sched l 64)) := by
    rw [← hW1]; exact setRow_arr (heap_alloc_last w1 _) _
  have hs1 : Arr W1 g 133 (cells8 s) := (hx2.block g hg).trans HS.out.1
  have HO := Lib.hid (HS.out.2.2.2.ext hx2)
  have hne : g ≠ w1.heap.size := by have := hx1.size; omega
  have HA := Lib.hid (show _ ∧ _ ∧ _ from ⟨hA1, hs1, hx2⟩)
  have c0 : W1.cell? ⟨g, 0, none⟩ = some (W32 s.a) := arr_cell hs1 (by rfl)
  have c1 : W1.cell? ⟨g, 1, none⟩ = some (W32 s.b) := arr_cell hs1 (by rfl)
  have c2 : W1.cell? ⟨g, 2, none⟩ = some (W32 s.c) := arr_cell hs1 (by rfl)
  have c3 : W1.cell? ⟨g, 3, none⟩ = some (W32 s.d) := arr_cell hs1 (by rfl)
  have c4 : W1.cell? ⟨g, 4, none⟩ = some (W32 s.e) := arr_cell hs1 (by rfl)
  have c5 : W1.cell? ⟨g, 5, none⟩ = some (W32 s.f) := arr_cell hs1 (by rfl)
  have c6 : W1.cell? ⟨g, 6, none⟩ = some (W32 s.g) := arr_cell hs1 (by rfl)
  have c7 : W1.cell? ⟨g, 7, none⟩ = some (W32 s.h) := arr_cell hs1 (by rfl)
  clear hW1 hA1 hs1 hx2
  go_wp2
  refine wp_region_quiet_lit (by kernel_rfl) (by kernel_rfl) ?_
  repeat (first
    | go_big_quiet_skip
    | (go_big_quiet_want; go_big_quiet_op; (try go_bits); first | go_big_quiet_on | go_big_quiet_call (fail)))
  refine wpQuiet_nil ?_
  intro _ hw'
  obtain ⟨nq, hw''⟩ := hw'
  subst hw''
  clear c0 c1 c2 c3 c4 c5 c6 c7
  go_wp2
  have hia := Lib.hid (run_index_arr (P := Tryd.prog) Tryd.underlying150 Tryd.sizeOf102 w1.heap.size)
  have hio := Lib.hid (run_index_arr (P := Tryd.prog) Tryd.underlying150 Tryd.sizeOf102 2)
  have HA2 := Lib.hid (show Arr (W1.drewN nq) w1.heap.size 150 (cells64 (sched l 64)) ∧ Arr (W1.drewN nq) g 133 (cells8 s) ∧ Ext w (W1.drewN nq) from ⟨HA.out.1, HA.out.2.1, ext_drewN HA.out.2.2 _⟩)
  have HO2 := Lib.hid (show OddAt (W1.drewN nq) from HO.out)
  clear HA HO H64 H64j H64k hcall
  generalize W1.drewN nq = W2 at *
  go_loopw [5, 6, 7, 8, 9, 10, 11, 12, 55] (fun va vb vc vd ve vf vg vh i wr => ∃ (k : Nat) (a b c d e f g h : UInt32), k ≤ 64 ∧ shRnds l s k = ⟨a, b, c, d, e, f, g, h⟩ ∧ (∃ m, wr = W2.drewN m) ∧ i = .int .i64 k ∧ va = W32 a ∧ vb = W32 b ∧ vc = W32 c ∧ vd = W32 d ∧ ve = W32 e ∧ vf = W32 f ∧ vg = W32 g ∧ vh = W32 h) (fun _ _ _ _ _ _ _ _ i _ => 64 - (intOf i).toNat)
  case atStart => exact ⟨0, s.a, s.b, s.c, s.d, s.e, s.f, s.g, s.h, by omega, rfl, ⟨0, rfl⟩, rfl, rfl, rfl, rfl, rfl, rfl, rfl, rfl, rfl⟩
  case round =>
    obtain ⟨k, va, vb, vc, vd, ve, vf, vg, vh, hk, hv, ⟨m, rfl⟩, rfl, rfl, rfl, rfl, rfl, rfl, rfl, rfl, rfl⟩ := hrel
    by_cases h3 : k < 64
    · have ia := fun W => hia.out W k h3
      have io := fun W => hio.out W k h3
      have ca : W2.cell? ⟨w1.heap.size, k, none⟩ = some (W32 ((sched l 64).getD k 0)) := arr_cell HA2.out.1 (cells64_get (sched l 64) (by rw [sched_len]; omega) k h3)
      have co : W2.cell? ⟨2, k, none⟩ = some (W32 (shK.getD k 0)) := HO2.out k h3
      have hn := Lib.hid (show shRnds l s (k + 1) = shRnd ⟨va, vb, vc, vd, ve, vf, vg, vh⟩ (shK.getD k 0) ((sched l 64).getD k 0) by rw [← hv]; rfl)
      clear hv
      generalize (sched l 64).getD k 0 = xw at *
      generalize shK.getD k 0 = xk at *
      have hup := up_int ve
      have hpick := pick_int ve vf vg
      have hlow := low_int va
      have hmost := most_int va vb vc
      go_wp2_with (go_at_call 107; refine (rot_any _ _ (by decide) _).mono ?_; rintro e W3 ⟨rfl, rfl⟩)
      clear hup hpick
      have bh := w_lt vh
      have bu := w_lt (shUp ve)
      have bp := w_lt (shPick ve vf vg)
      have bk := w_lt xk
      have bw := w_lt xw
      refine wp_region_quiet_lit (by kernel_rfl) (by kernel_rfl) ?_
      repeat (first
        | go_big_quiet_skip
        | (go_big_quiet_want; go_big_quiet_op; (try go_bits); first | go_big_quiet_on | go_big_quiet_call (fail)))
      refine wpQuiet_nil ?_
      intro _ hw'
      obtain ⟨nq, hw''⟩ := hw'
      subst hw''
      go_wp2_with (go_at_call 107; refine (rot_any _ _ (by decide) _).mono ?_; rintro e W3 ⟨rfl, rfl⟩)
      refine ⟨⟨k + 1, _, _, _, _, _, _, _, _, by omega, hn.out, ⟨_, rfl⟩, by go_num, congrArg (Value.int .u32) (rndA_int _ _ _ _ _ _ _), rfl, rfl, rfl, congrArg (Value.int .u32) (rndE_int _ _ _ _ _ _), rfl, rfl, rfl⟩, by simp [intOf]; omega⟩
    · obtain rfl : k = 64 := by omega
      clear hia hio
      generalize hvv : (⟨va, vb, vc, vd, ve, vf, vg, vh⟩ : St) = vv at hv
      have Hfin := Lib.hid (show shStep s l = addK s vv 8 by rw [addK_all, ← hv]; rfl)
      clear hv
      go_wp2
      have hA := HA2.out.2.1
      have hC : Chg (fun k => k = g) w W2 := Chg.of_ext _ HA2.out.2.2
      clear HA2 HO2 HS
      have hi8 := Lib.hid (run_index_arr (P := Tryd.prog) Tryd.underlying133 Tryd.sizeOf102 g)
      go_loopw [130] (fun i wr => ∃ k : Nat, k ≤ 8 ∧ i = .int .i64 k ∧ Arr wr g 133 (cells8 (addK s vv k)) ∧ Chg (fun k => k = g) w wr) (fun i _ => 8 - (intOf i).toNat)
      case atStart => exact ⟨0, by omega, rfl, hA, hC.trans (Chg.of_ext _ (ext_drewN (ext_refl _) _))⟩
      case round =>
        obtain ⟨k, hk, rfl, hA, hC⟩ := hrel
        by_cases h3 : k < 8
        · have hf := arr_frozen (j := k) hA
          have hc := arr_cell hA (addK_get s vv k h3)
          have ik := fun W => hi8.out W k h3
          have ix : ∀ W, (Instr.index 103 (.agg #[W32 va, W32 vb, W32 vc, W32 vd, W32 ve, W32 vf, W32 vg, W32 vh]) (.int .i64 (k : Int))).run Tryd.prog W = .ok (W32 (wd vv k)) W := by rw [← hvv]; exact run_index8 ⟨va, vb, vc, vd, ve, vf, vg, vh⟩ k h3
          have hset := Lib.hid (addK_set s vv k h3)
          have HA := Lib.hid (show _ ∧ _ from ⟨hA, hC⟩)
          clear hA hC
          have hadd := w_add (wd s k) (wd vv k)
          have b1 := w_lt (wd s k)
          have b2 := w_lt (wd vv k)
          have Hvv := Lib.hid hvv; clear hvv
          generalize wd s k = y1 at *
          generalize wd vv k = y2 at *
          go_wp2
          go_region
          go_wp2
          go_roundw
          case rel =>
            iterate 16 apply Exists.intro
            refine ⟨?_, rfl⟩
            refine ⟨k + 1, by omega, by go_num, ?_, ?_⟩
            · rw [hadd, ← hset.out]; exact arr_set HA.out.1 _
            · exact (HA.out.2.trans (Chg.setCell wr ⟨g, k, none⟩ _)).trans (Chg.drewN _ _ 1)
          case measure => simp [intOf]; omega
        · obtain rfl : k = 8 := by omega
          clear hvv
          go_wp2
          go_end0
          exact ⟨rfl, by rw [Hfin.out]; exact hA, hC⟩
end Go.Proofs.YtpndahmlbjhdfaaDoor
