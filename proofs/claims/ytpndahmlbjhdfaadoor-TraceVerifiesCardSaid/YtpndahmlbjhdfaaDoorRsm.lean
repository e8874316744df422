/-
  ref01.First, ref01.Go, ref01.Sum.
-/
import Derived.Test.YtpndahmlbjhdfaaDoorRows
import Derived.Test.YtpndahmlbjhdfaaDoorRby
import Derived.Test.YtpndahmlbjhdfaaDoorSum
namespace Go.Proofs.YtpndahmlbjhdfaaDoor
open Go.RowKit
set_option maxRecDepth 100000
set_option linter.unusedVariables false
set_option linter.unusedSimpArgs false
theorem results_cell_row_tmp {P : Program} {fn : Func} {p q : Tmp} {ty : TypeId} (h : fn.results = #[.cell p ty, .tmp q]) (tmps : Array Value) (w : World) (g : Nat) (t : TypeId) (cs : Array Value) (fr : Nat × Nat) (d : TypeDesc)
    (hp : tmps.getD p undef = .pointer (some ⟨g, 0, none⟩)) (hg : w.heap[g]? = some (.cells cs t fr))
    (hu : P.underlying ty = some d) (hd : (match d with | .struct _ | .array _ _ => true | _ => false) = true) (hi : (P.info? ty).map (·.size) = some cs.size) :
    (results fn tmps).run P w = .ok (.tuple #[.agg cs, tmps.getD q undef]) w := by
  have hp' : tmps[p]?.getD undef = .pointer (some ⟨g, 0, none⟩) := by simpa using hp
  simp [results, h, hp', asAddr, run_loadVar_row w g t ty cs fr d hg hu hd hi, Result.andThen]
theorem cells8_size (s : St) : (cells8 s).size = 8 := rfl
theorem first_any (w : World) :
    Calls Tryd.prog 63 #[] w fun e w' => e = .returned (.agg (cells8 shFirst)) ∧ Ext w w' := by
  have h8k := Lib.hid (cells8_one shFirst)
  have hA := Lib.hid (heap_alloc_last w (.cells (Array.replicate 8 (.int .u32 0)) 104))
  have hx := Lib.hid (show Ext w (w.alloc (.cells (Array.replicate 8 (.int .u32 0)) 104)) from Below.alloc (Below.refl _ w) (Nat.le_refl _) _)
  go_enter Tryd.func63, Tryd.ntmps63
  go_wp2_with (refine wpList_store_row rfl 104 _ _ rfl w.heap.size (cells8 shFirst) rfl rfl 104 _ (heap_alloc_last w _) infoS rfl h8k.out ?_)
  refine bodyPost_ret (results_cell_row rfl _ _ w.heap.size 104 _ (0, 0) _ rfl (setRow_arr (heap_alloc_last w _) _) Tryd.underlying104 rfl infoS) rfl ⟨rfl, setRow_ext (Below.alloc (Below.refl _ w) (Nat.le_refl _) _) (Nat.le_refl _) _⟩
theorem step_load_row {P : Program} {w : World} {ops : Array Oper} {o : Oper} {a : Act} {K : Act → World → Prop} {Q : Exit → Act → World → Prop} {E : Prop} {T : Array Value} (hgd : o.guard = none) (ty : TypeId) (x : Operand) (ho : o.op = .load ty x)
    (g : Nat) (hx : a.eval x = .pointer (some ⟨g, 0, none⟩)) (t : TypeId) (cs : Array Value) (fr : Nat × Nat) (d : TypeDesc) (hg : w.heap[g]? = some (.cells cs t fr))
    (hu : P.underlying ty = some d) (hd : (match d with | .struct _ | .array _ _ => true | _ => false) = true) (hi : (P.info? ty).map (·.size) = some cs.size)
    (h : K (a.put o.dst (.agg cs)) w) : if Region.wanted o (yielded ops T) = true then Oper.wp P o a w K Q else E := by
  have hw : Region.wanted o (yielded ops T) = true := by simp [Region.wanted, hgd]
  rw [if_pos hw]
  exact wp_load_row ty x ho g hx t cs fr d hg hu hd hi h
theorem step_store_row {P : Program} {w : World} {ops : Array Oper} {o : Oper} {a : Act} {K : Act → World → Prop} {Q : Exit → Act → World → Prop} {E : Prop} {T : Array Value} (hgd : o.guard = none) (ty : TypeId) (x y : Operand) (ho : o.op = .store ty x y)
    (g : Nat) (cells : Array Value) (hx : a.eval x = .pointer (some ⟨g, 0, none⟩)) (hy : a.eval y = .agg cells)
    (t : TypeId) (old : Array Value) (hg : w.heap[g]? = some (.cells old t (0, 0))) (hi : (P.info? ty).map (·.size) = some cells.size)
    (hold : old.size = cells.size) (h1 : cells.all (·.oneCell') = true)
    (h : K (a.put o.dst undef) (w.setRow g cells)) : if Region.wanted o (yielded ops T) = true then Oper.wp P o a w K Q else E := by
  have hw : Region.wanted o (yielded ops T) = true := by simp [Region.wanted, hgd]
  rw [if_pos hw]
  exact wp_store_row ty x y ho g cells hx hy t old hg hi hold h1 h
/-- The state behind the first k blocks, from s on. -/
def shRun (s : St) (p : List UInt8) : Nat → St
  | 0 => s
  | k + 1 => shStep (shRun s p k) ((p.drop (64 * k)).take 64)
theorem shRun_first (p : List UInt8) : ∀ k, shRun shFirst p k = shGo p k
  | 0 => rfl
  | k + 1 => by rw [shRun, shGo, shRun_first p k]
set_option maxHeartbeats 1000000 in
theorem go_any (s : St) (v : Value) (p : List UInt8) (w : World) (hv : SlB w v p) (hN : p.length = 64 * (p.length / 64)) (hO : WordsAt w) :
    Calls Tryd.prog 62 #[.agg (cells8 s), v] w fun e w' => ∃ v', e = .returned (.tuple #[.agg (cells8 (shRun s p (p.length / 64))), v']) ∧ Ext w w' := by
  obtain ⟨ao, cap, rfl, hcap, hmax, hnil, hcell⟩ := id hv
  clear hcell
  simp only [List.length_map] at hcap hv ⊢
  go_enter Tryd.func62, Tryd.ntmps62
  go_wp2
  obtain ⟨W1, hW1⟩ : ∃ W1, (w.alloc (Obj.cells (cells8 s) 104)).alloc (Obj.cells (Array.replicate 8 (.int .u32 0)) 104) = W1 := ⟨_, rfl⟩
  have q := arr_two w (cells8 s) (Array.replicate 8 (.int .u32 0)) 104 104
  have hx := ext_two w (Obj.cells (cells8 s) 104) (Obj.cells (Array.replicate 8 (.int .u32 0)) 104)
  rw [hW1] at q hx
  simp only [Array.replicate, List.replicate] at hW1
  rw [hW1]
  clear hW1
  have HQ := Lib.hid (show _ ∧ _ from ⟨q, hx⟩)
  have HV := Lib.hid hv; have HN := Lib.hid hN; have HO := Lib.hid hO
  clear q hx hv hN hO
  go_loopw [1] (fun rv wr => ∃ k : Nat, k ≤ p.length / 64 ∧ SlB w rv (p.drop (64 * k)) ∧ Arr wr w.heap.size 104 (cells8 (shRun s p k)) ∧ Arr wr (w.heap.size + 1) 104 (Array.replicate 8 (.int .u32 0)) ∧ Ext w wr) (fun rv _ => slLen rv)
  case atStart => exact ⟨0, by omega, by rw [Nat.mul_zero, List.drop_zero]; exact HV.out, HQ.out.1.2, HQ.out.1.1, HQ.out.2⟩
  case round =>
    obtain ⟨k, hk, hsl, hA, hZ, hext⟩ := hrel
    have hrl : (p.drop (64 * k)).length = p.length - 64 * k := List.length_drop
    have hN := HN.out
    by_cases hlt : k < p.length / 64
    · have hn64 : 64 ≤ (p.drop (64 * k)).length := by omega
      have hhead := hsl.headm (k := 64) (by rw [List.length_map]; exact hn64)
      have hre := hsl.resl (k := 64) (by rw [List.length_map]; exact hn64)
      rw [← List.map_take] at hhead
      rw [← List.map_drop, List.drop_drop, show 64 * k + 64 = 64 * (k + 1) by omega] at hre
      obtain ⟨ao2, cap2, rfl, hcap2, hmax2, hnil2, hcell2⟩ := hsl
      clear hcell2
      simp only [List.length_map] at hcap2 hre hhead ⊢
      have hcut := run_headm (P := Tryd.prog) Tryd.underlying45 Tryd.sizeOf5 (ao := ao2) hcap2
      have hcut64 : ∀ W, (Instr.slice 45 (.slice ao2 (p.drop (64 * k)).length cap2) none (some (.int .i64 64)) none).run Tryd.prog W = .ok (headm (.slice ao2 (p.drop (64 * k)).length cap2) 64) W := fun W => hcut W 64 hn64
      have hres := run_resl (P := Tryd.prog) Tryd.underlying45 Tryd.sizeOf5 (ao := ao2) (n := (p.drop (64 * k)).length) (cap := cap2)
      have hres64 : ∀ W, (Instr.slice 45 (.slice ao2 (p.drop (64 * k)).length cap2) (some (.int .i64 64)) none none).run Tryd.prog W = .ok (resl (.slice ao2 (p.drop (64 * k)).length cap2) 64) W := fun W => hres W 64 hn64
      have hsll : slLen (resl (.slice ao2 (p.drop (64 * k)).length cap2) 64) < (p.drop (64 * k)).length := by simp only [slLen, resl]; omega
      have hl64 : ((p.drop (64 * k)).take 64).length = 64 := by rw [List.length_take]; omega
      have HA := Lib.hid (show _ ∧ _ ∧ _ from ⟨hA, hZ, hext⟩)
      have HS := Lib.hid (show ∀ W', Ext wr W' → Calls Tryd.prog 80 #[.agg (cells8 (shRun s p k)), headm (.slice ao2 (p.drop (64 * k)).length cap2) 64] W' fun e w' => e = .returned (.agg (cells8 (shRun s p (k + 1)))) ∧ Ext W' w' from fun W' hx => Step_any (shRun s p k) _ _ W' (hhead.ext (ext_trans hext hx)) hl64 (HO.out.ext (ext_trans hext hx)))
      have HRE := Lib.hid hre; have HSL := Lib.hid hsll
      clear hcut hres hre hhead hA hZ hext hrl hN hsll hl64
      generalize resl (.slice ao2 (p.drop (64 * k)).length cap2) 64 = rv2 at *
      generalize headm (.slice ao2 (p.drop (64 * k)).length cap2) 64 = hv2 at *
      generalize (p.drop (64 * k)).length = nn at *
      have HF : Hid (∀ W', Ext wr W' → Arr (W'.setRow w.heap.size (cells8 (shRun s p (k + 1)))) w.heap.size 104 (cells8 (shRun s p (k + 1))) ∧ Arr (W'.setRow w.heap.size (cells8 (shRun s p (k + 1)))) (w.heap.size + 1) 104 (Array.replicate 8 (.int .u32 0)) ∧ Ext w (W'.setRow w.heap.size (cells8 (shRun s p (k + 1)))) ) := Lib.hid (fun W' hx => ⟨setRow_arr (ext_at hx HA.out.1) _, setRow_other (ext_at hx HA.out.2.1) (by omega) _, setRow_ext (ext_trans HA.out.2.2 hx) (Nat.le_refl _) _⟩)
      have h8k := Lib.hid (cells8_one (shRun s p (k + 1)))
      go_wp2
      -- inv {'fin': [('Y0', 6)], 'W': [('D0', "L 6 = false → Ext wr w'", '(fun _ => Below.drewN (Below.refl _ wr) 1)'), ('Y0', "L 6 = true → Arr w' w.heap.size 104 (cells8 (shRun s p (k + 1))) ∧ Arr w' (w.heap.size + 1) 104 (Array.replicate 8 (.int .u32 0)) ∧ Ext w w'", '(fun h => by cases h)')], 'ops': [('raw', 9, [], "have e1 : u 2 = .pointer (some ⟨w.heap.size, 0, none⟩) := hu 2 (by decide);; refine step_load_row (by rfl) 104 (.tmp 2) rfl w.heap.size (by exact (hT 2).trans e1) 104 _ (0, 0) _ (ext_at (D0 (hcl.not 6 (by kernel_rfl) hL)) HA.out.1) Tryd.underlying104 rfl infoS ?_", '.agg (cells8 (shRun s p k))'), ('mo', 10, 1, 7, '.slice ao2 nn cap2'), ('op', 11, [1], 'hv2'), ('call', 12, [0, 2], "HS.out w' (D0 (hcl.not 6 (by kernel_rfl) hL))", '.agg (cells8 (shRun s p (k + 1)))'), ('mo', 13, 1, 7, '.slice ao2 nn cap2'), ('op', 14, [4], 'rv2'), ('raw', None, [3], "have e1 : u 2 = .pointer (some ⟨w.heap.size, 0, none⟩) := hu 2 (by decide);; refine step_store_row (by rfl) 104 (.tmp 2) (.tmp 12) rfl w.heap.size (cells8 (shRun s p (k + 1))) (by exact (hT 2).trans e1) (by exact (hT 12).trans e3) 104 _ (ext_at (D0 hL) HA.out.1) (infoS.trans (congrArg some (cells8_size _).symm)) ((cells8_size _).trans (cells8_size _).symm) h8k.out ?_"), ('as', 1, 5, 'rv2', '.slice ao2 nn cap2')], 'over': {3: {'D0': 'fun h => ext_trans (D0 (by simpa using h)) hx1', 'Y0': 'fun h => absurd h (by simp [hcl.not 6 (by kernel_rfl) hL])'}, 6: {'D0': 'fun h => absurd h (by simp)', 'Y0': "fun _ => HF.out w' (D0 hL)"}}}
      refine wp_region_any (by kernel_rfl) ?_
      change wpAny _ _ _ _ _ _ _ (World.drew _)
      refine wpAny_inv (n := 8) [9, 10, 11, 12, 13, 14, 1] (fun u L w' =>
          (L 0 = true → u 9 = .agg (cells8 (shRun s p k))) ∧
          (L 1 = true → u 10 = .slice ao2 nn cap2) ∧
          (L 2 = true → u 11 = hv2) ∧
          (L 3 = true → u 12 = .agg (cells8 (shRun s p (k + 1)))) ∧
          (L 4 = true → u 13 = .slice ao2 nn cap2) ∧
          (L 5 = true → u 14 = rv2) ∧
          (L 7 = true → u 1 = rv2) ∧
          (L 7 = false → u 1 = .slice ao2 nn cap2) ∧
          (L 6 = false → Ext wr w') ∧
          (L 6 = true → Arr w' w.heap.size 104 (cells8 (shRun s p (k + 1))) ∧ Arr w' (w.heap.size + 1) 104 (Array.replicate 8 (.int .u32 0)) ∧ Ext w w'))
        (by rfl) (by kernel_rfl) (by kernel_rfl) (by rfl) ?_ ?_ ?_
      · exact ⟨(fun h => by cases h), (fun h => by cases h), (fun h => by cases h), (fun h => by cases h), (fun h => by cases h), (fun h => by cases h), (fun h => by cases h), (fun _ => rfl), (fun _ => Below.drewN (Below.refl _ wr) 1), (fun h => by cases h)⟩
      · refine ⟨⟨⟨⟨⟨⟨⟨⟨trivial, ?_⟩, ?_⟩, ?_⟩, ?_⟩, ?_⟩, ?_⟩, ?_⟩, ?_⟩
        · refine stepOk_some (i := 0) (by rfl) (by rfl) ?_
          rintro u L T w' hT hu hL hp hcl ⟨C0, C1, C2, C3, C4, C5, C7, Z7, D0, Y0⟩ K hK
          have e1 : u 2 = .pointer (some ⟨w.heap.size, 0, none⟩) := hu 2 (by decide)
          refine step_load_row (by rfl) 104 (.tmp 2) rfl w.heap.size (by exact (hT 2).trans e1) 104 _ (0, 0) _ (ext_at (D0 (hcl.not 6 (by kernel_rfl) hL)) HA.out.1) Tryd.underlying104 rfl infoS ?_
          refine hK _ _ ?_
          exact ⟨fun _ => rfl, fun h => C1 (by simpa using h), fun h => C2 (by simpa using h), fun h => C3 (by simpa using h), fun h => C4 (by simpa using h), fun h => C5 (by simpa using h), fun h => C7 (by simpa using h), fun h => Z7 (by simpa using h), fun h => D0 (by simpa using h), fun h => Y0 (by simpa using h)⟩
        · refine stepOk_some (i := 1) (by rfl) (by rfl) ?_
          rintro u L T w' hT hu hL hp hcl ⟨C0, C1, C2, C3, C4, C5, C7, Z7, D0, Y0⟩ K hK
          have e1 := Z7 (hcl.not 7 (by kernel_rfl) hL)
          go_simp
          refine hK _ _ ?_
          exact ⟨fun h => C0 (by simpa using h), fun _ => rfl, fun h => C2 (by simpa using h), fun h => C3 (by simpa using h), fun h => C4 (by simpa using h), fun h => C5 (by simpa using h), fun h => C7 (by simpa using h), fun h => Z7 (by simpa using h), fun h => D0 (by simpa using h), fun h => Y0 (by simpa using h)⟩
        · refine stepOk_some (i := 2) (by rfl) (by rfl) ?_
          rintro u L T w' hT hu hL hp hcl ⟨C0, C1, C2, C3, C4, C5, C7, Z7, D0, Y0⟩ K hK
          have e1 := C1 (hp.of 1 (by kernel_rfl))
          go_simp
          try go_bits
          try (rw [if_neg (by omega)]; go_simp)
          try (rw [if_pos (by omega)]; go_simp)
          refine hK _ _ ?_
          exact ⟨fun h => C0 (by simpa using h), fun h => C1 (by simpa using h), fun _ => rfl, fun h => C3 (by simpa using h), fun h => C4 (by simpa using h), fun h => C5 (by simpa using h), fun h => C7 (by simpa using h), fun h => Z7 (by simpa using h), fun h => D0 (by simpa using h), fun h => Y0 (by simpa using h)⟩
        · refine stepOk_some (i := 3) (by rfl) (by rfl) ?_
          rintro u L T w' hT hu hL hp hcl ⟨C0, C1, C2, C3, C4, C5, C7, Z7, D0, Y0⟩ K hK
          have e0 := C0 (hp.of 0 (by kernel_rfl))
          have e2 := C2 (hp.of 2 (by kernel_rfl))
          go_simp
          refine (HS.out w' (D0 (hcl.not 6 (by kernel_rfl) hL))).mono ?_
          rintro e w1 ⟨he, hx1⟩
          subst he
          refine hK _ _ ?_
          exact ⟨fun h => C0 (by simpa using h), fun h => C1 (by simpa using h), fun h => C2 (by simpa using h), fun _ => rfl, fun h => C4 (by simpa using h), fun h => C5 (by simpa using h), fun h => C7 (by simpa using h), fun h => Z7 (by simpa using h), fun h => ext_trans (D0 (by simpa using h)) hx1, fun h => absurd h (by simp [hcl.not 6 (by kernel_rfl) hL])⟩
        · refine stepOk_some (i := 4) (by rfl) (by rfl) ?_
          rintro u L T w' hT hu hL hp hcl ⟨C0, C1, C2, C3, C4, C5, C7, Z7, D0, Y0⟩ K hK
          have e1 := Z7 (hcl.not 7 (by kernel_rfl) hL)
          go_simp
          refine hK _ _ ?_
          exact ⟨fun h => C0 (by simpa using h), fun h => C1 (by simpa using h), fun h => C2 (by simpa using h), fun h => C3 (by simpa using h), fun _ => rfl, fun h => C5 (by simpa using h), fun h => C7 (by simpa using h), fun h => Z7 (by simpa using h), fun h => D0 (by simpa using h), fun h => Y0 (by simpa using h)⟩
        · refine stepOk_some (i := 5) (by rfl) (by rfl) ?_
          rintro u L T w' hT hu hL hp hcl ⟨C0, C1, C2, C3, C4, C5, C7, Z7, D0, Y0⟩ K hK
          have e4 := C4 (hp.of 4 (by kernel_rfl))
          go_simp
          try go_bits
          try (rw [if_neg (by omega)]; go_simp)
          try (rw [if_pos (by omega)]; go_simp)
          refine hK _ _ ?_
          exact ⟨fun h => C0 (by simpa using h), fun h => C1 (by simpa using h), fun h => C2 (by simpa using h), fun h => C3 (by simpa using h), fun h => C4 (by simpa using h), fun _ => rfl, fun h => C7 (by simpa using h), fun h => Z7 (by simpa using h), fun h => D0 (by simpa using h), fun h => Y0 (by simpa using h)⟩
        · refine stepOk_none (i := 6) (by rfl) (by rfl) ?_
          rintro u L T w' hT hu hL hp hcl ⟨C0, C1, C2, C3, C4, C5, C7, Z7, D0, Y0⟩ K hK
          have e3 := C3 (hp.of 3 (by kernel_rfl))
          have e1 : u 2 = .pointer (some ⟨w.heap.size, 0, none⟩) := hu 2 (by decide)
          refine step_store_row (by rfl) 104 (.tmp 2) (.tmp 12) rfl w.heap.size (cells8 (shRun s p (k + 1))) (by exact (hT 2).trans e1) (by exact (hT 12).trans e3) 104 _ (ext_at (D0 hL) HA.out.1) (infoS.trans (congrArg some (cells8_size _).symm)) ((cells8_size _).trans (cells8_size _).symm) h8k.out ?_
          refine hK _ ?_
          exact ⟨fun h => C0 (by simpa using h), fun h => C1 (by simpa using h), fun h => C2 (by simpa using h), fun h => C3 (by simpa using h), fun h => C4 (by simpa using h), fun h => C5 (by simpa using h), fun h => C7 (by simpa using h), fun h => Z7 (by simpa using h), fun h => absurd h (by simp), fun _ => HF.out w' (D0 hL)⟩
        · refine stepOk_some (i := 7) (by rfl) (by rfl) ?_
          rintro u L T w' hT hu hL hp hcl ⟨C0, C1, C2, C3, C4, C5, C7, Z7, D0, Y0⟩ K hK
          have e5 := C5 (hp.of 5 (by kernel_rfl))
          go_simp
          refine hK _ _ ?_
          exact ⟨fun h => C0 (by simpa using h), fun h => C1 (by simpa using h), fun h => C2 (by simpa using h), fun h => C3 (by simpa using h), fun h => C4 (by simpa using h), fun h => C5 (by simpa using h), fun _ => rfl, fun h => absurd h (by simp), fun h => D0 (by simpa using h), fun h => Y0 (by simpa using h)⟩
      · rintro u L w' hall hu ⟨C0, C1, C2, C3, C4, C5, C7, Z7, D0, Y0⟩
        replace Y0 := Y0 (hall 6 (by omega))
        replace C0 := C0 (hall 0 (by omega))
        replace C1 := C1 (hall 1 (by omega))
        replace C2 := C2 (hall 2 (by omega))
        replace C3 := C3 (hall 3 (by omega))
        replace C4 := C4 (hall 4 (by omega))
        replace C5 := C5 (hall 5 (by omega))
        replace C7 := C7 (hall 7 (by omega))
        simp only [fill, List.setIfInBounds_toArray, List.set_cons_succ, List.set_cons_zero, C0, C1, C2, C3, C4, C5, C7]
        clear C0 C1 C2 C3 C4 C5 C7 Z7 hu hall
      -- end inv
        have HY := Lib.hid Y0
        clear Y0 D0
        go_wp2
        go_roundw
        case rel => exact ⟨k + 1, by omega, HRE.out, HY.out⟩
        case measure => exact HSL.out
    · obtain rfl : k = p.length / 64 := by omega
      obtain ⟨ao2, cap2, rfl, hcap2, hmax2, hnil2, hcell2⟩ := hsl
      have h0l : (List.map Byt (p.drop (64 * (p.length / 64)))).length = 0 := by rw [List.length_map]; omega
      clear hcell2 hrl hN
      rw [h0l]
      have HA := Lib.hid (show _ ∧ _ ∧ _ from ⟨hA, hZ, hext⟩)
      clear hA hZ hext h0l
      have h8k := Lib.hid (cells8_one (shRun s p (p.length / 64)))
      generalize hsk : shRun s p (p.length / 64) = sk at *
      have Hsk := Lib.hid hsk; clear hsk
      go_wp2_with (first | refine wpList_load_row rfl 104 _ rfl w.heap.size rfl 104 _ (0, 0) _ HA.out.1 Tryd.underlying104 rfl infoS ?_ | refine wpList_store_row rfl 104 _ _ rfl (w.heap.size + 1) (cells8 sk) rfl rfl 104 _ HA.out.2.1 infoS rfl h8k.out ?_)
      rw [Hsk.out]
      exact bodyPost_ret (results_cell_row_tmp rfl _ _ (w.heap.size + 1) 104 _ (0, 0) _ rfl (setRow_arr HA.out.2.1 _) Tryd.underlying104 rfl infoS) rfl ⟨_, rfl, setRow_ext HA.out.2.2 (by omega) _⟩
theorem shSum_run (l : List UInt8) : shOut (shRun shFirst (shPad l) ((shPad l).length / 64)) = shSum l := by rw [shRun_first]; rfl
set_option maxHeartbeats 1000000 in
theorem rsum_any (v : Value) (l : List UInt8) (w : World) (hv : SlB w v l) (hl : l.length ≤ 100000) (hO : WordsAt w) :
    Calls Tryd.prog 38 #[v] w fun e w' => ∃ v', e = .returned v' ∧ OwnB w.heap.size v' (shSum l) w' ∧ Ext w w' := by
  obtain ⟨ao, cap, rfl, hcap, hmax, hnil, hcell⟩ := id hv
  clear hcell
  simp only [List.length_map] at hcap hv ⊢
  have HV := Lib.hid hv; have HO := Lib.hid hO
  clear hv hO
  have hpd := Lib.hid (show shPad l = l ++ shTail l.length from rfl)
  have hpl := Lib.hid (shPad_len l)
  have htl := shTail_len l.length
  have h1 := Lib.hid (byt_one l)
  have h2 := Lib.hid (byt_one (shTail l.length))
  have hT := Lib.hid (fun w => tail_any l.length w (by omega))
  go_enter Tryd.func38, Tryd.ntmps38
  go_wp2_with fail
  refine (first_any _).mono ?_
  rintro e w1 ⟨rfl, hx1⟩
  have hs1 := hx1.size
  have HXE := Lib.hid (show Ext w (w1.alloc (.cells #[] 5)) from Below.alloc hx1 hx1.size _)
  have HE := Lib.hid (own_empty w1 w.heap.size 5 hs1)
  clear hx1
  go_wp2_with (at_builtin; refine wpList_more w.heap.size rfl _ _ 45 5 rfl Tryd.underlying45 infoByte rfl (by omega) HE.out (HV.out.ext HXE.out) h1.out (by simp; omega) (by simp; omega) rfl rfl ?_; rintro v2 w2 hown2 hgr2)
  rw [List.length_map, Nat.zero_add, List.nil_append] at hown2
  have hx2 : Ext w w2 := HXE.out.grown hgr2 HXE.out.size (by simp [Value.ownBlock]; omega)
  clear hgr2 HE HXE
  refine (hT.out _).mono ?_
  rintro e w3 ⟨v3, rfl, ho3, hx3⟩
  have hs2 := hx2.size
  have hs3 := hx3.size
  have HO2 := Lib.hid (own_ext hown2 hx3)
  have HO3 := Lib.hid ho3
  have HX3 := Lib.hid (ext_trans hx2 hx3)
  clear hown2 ho3 hx2 hx3
  go_wp2_with (at_builtin; refine wpList_more w.heap.size rfl _ _ 45 5 rfl Tryd.underlying45 infoByte rfl (by omega) HO2.out HO3.out.sl h2.out (by simp; omega) (by omega) rfl rfl ?_; rintro v4 w4 hown4 hgr4)
  have hx4 : Ext w w4 := ext_push HX3.out HO2.out hgr4
  rw [← List.map_append, ← hpd.out] at hown4
  have hsl4 : SlB w4 v4 (shPad l) := sl_of_own hown4
  have HX4 := Lib.hid hx4
  have HG := Lib.hid (go_any shFirst v4 (shPad l) w4 hsl4 hpl.out (HO.out.ext hx4))
  clear hown4 hgr4 hx4 hsl4 HO2 HO3 HX3
  refine (HG.out).mono ?_
  rintro e w5 ⟨v5, rfl, hx5⟩
  have hx5' := ext_trans HX4.out hx5
  have HX5 := Lib.hid hx5'
  clear hx5 hx5' HG HX4
  generalize hss : shRun shFirst (shPad l) ((shPad l).length / 64) = ss at *
  have HSS := Lib.hid (show shOut ss = shSum l by rw [← hss]; exact shSum_run l)
  clear hss
  have h8k := Lib.hid (cells8_one ss)
  have hs5 := HX5.out.size
  obtain ⟨W6, hW6⟩ : ∃ W6, (w5.alloc (.cells (Array.replicate 8 (.int .u32 0)) 104)).setRow w5.heap.size (cells8 ss) = W6 := ⟨_, rfl⟩
  have hA6 : Arr W6 w5.heap.size 104 (cells8 ss) := by rw [← hW6]; exact setRow_arr (heap_alloc_last w5 _) _
  have hx6 : Ext w W6 := by rw [← hW6]; exact setRow_ext (Below.alloc HX5.out HX5.out.size _) hs5 _
  simp only [Array.replicate, List.replicate] at hW6
  have HA6 := Lib.hid hA6; have HX6 := Lib.hid hx6
  have hs6 := hx6.size
  clear hA6 hx6
  go_wp2_with (first | refine wpList_load_row rfl 104 _ rfl w5.heap.size rfl 104 _ (0, 0) _ HA6.out Tryd.underlying104 rfl infoS ?_ | (refine wpList_store_row rfl 104 _ _ rfl w5.heap.size (cells8 ss) rfl rfl 104 _ (heap_alloc_last w5 _) infoS rfl h8k.out ?_; rw [hW6]; clear hW6))
  refine (out_any ss W6).mono ?_
  rintro e w7 ⟨v7, rfl, ho7, hx7⟩
  rw [HSS.out] at ho7
  go_wp2
  go_ret
  exact ⟨_, rfl, own_base ho7 hs6, ext_trans HX6.out hx7⟩
end Go.Proofs.YtpndahmlbjhdfaaDoor
