/-
  The law's build.
-/
import Derived.Test.YtpndahmlbjhdfaaDoorRows
import Derived.Test.YtpndahmlbjhdfaaDoorTbp
import Derived.Test.YtpndahmlbjhdfaaDoorTaw
namespace Go.Proofs.YtpndahmlbjhdfaaDoor
open Go.RowKit
set_option maxRecDepth 100000
attribute [local go_sem] Oper.semAt_some
set_option linter.unusedVariables false
set_option linter.unusedSimpArgs false
theorem index_op (g o n cap k : Nat) (hk : k < n) : ∀ W, (Instr.indexAt 22 (.slice (some ⟨g, o, none⟩) n cap) (.int .i64 (k : Int))).run Tryd.prog W = .ok (.pointer (some ⟨g, o + 4 * k, none⟩)) W := by
  intro W
  have ht' : Tryd.prog.underlying 22 = some (.slice (Tryd.prog.elem 22)) := by simp [Program.elem, Tryd.underlying22]
  have he : Tryd.prog.elem 22 = 74 := by simp [Program.elem, Tryd.underlying22]
  have hadd : (⟨g, o, none⟩ : Addr).add (k * 4) = ⟨g, o + 4 * k, none⟩ := by rw [Nat.mul_comm]; unfold Addr.add; split <;> simp_all
  rw [run_indexAt_slice (h := ht'), if_pos (by omega), he]
  simp [Tryd.sizeOf74, Result.andThen, hadd]
theorem row_ops {W : World} {v : Value} {os : List OpE} (h : RowO W v os) (hne : os ≠ []) : ∃ g o cap, v = .slice (some ⟨g, o, none⟩) os.length cap ∧
    ∀ j, j < os.length → W.cell? ⟨g, o + 4 * j, none⟩ = some (.int .u64 ((os.getD j opD).tk : Int)) ∧ W.cell? ⟨g, o + 4 * j + 1, none⟩ = some (Str (os.getD j opD).kind) ∧ W.cell? ⟨g, o + 4 * j + 2, none⟩ = some (.int .i64 (os.getD j opD).conn) ∧ W.cell? ⟨g, o + 4 * j + 3, none⟩ = some (Str (os.getD j opD).text) := by
  obtain ⟨ao, cap, hv, _, h1, h2, h3⟩ := h
  obtain ⟨g, o, ha, hc⟩ := h3 hne
  subst ha
  refine ⟨g, o, cap, hv, fun j hj => ?_⟩
  have hx : os[j]? = some (os.getD j opD) := by simp [List.getD, hj]
  have hh := hc j _ hx
  refine ⟨?_, ?_, ?_, ?_⟩
  · have := hh 0 _ rfl; simpa using this
  · have := hh 1 _ rfl; simpa [Nat.add_assoc] using this
  · have := hh 2 _ rfl; simpa [Nat.add_assoc] using this
  · have := hh 3 _ rfl; simpa [Nat.add_assoc] using this
theorem take_ops (os : List OpE) (k : Nat) (h : k < os.length) : os.take (k + 1) = os.take k ++ [os.getD k opD] := by
  have e : os.getD k opD = os[k] := by simp [List.getD, h]
  rw [e, List.take_succ_eq_append_getElem h]
def BuildR (room : Nat) (os : List OpE) (w : World) (e : Ending) (w' : World) : Prop :=
  ∃ p q lv cv xv, e = .returned (.tuple #[.pointer (some ⟨p, 0, none⟩), .pointer (some ⟨q, 0, none⟩), .bool true]) ∧ TrAt w.heap.size p lv cv (stOf room (bldL (os.take 40))) w' ∧ RfAt w.heap.size q xv room (bldL (os.take 40)) w' ∧ Ext w w'
set_option maxHeartbeats 1000000 in
theorem build_any (room : Nat) (hr1 : 1 ≤ room) (hr2 : room ≤ 256) (v : Value) (os : List OpE) (hok : ∀ o ∈ os, o.ok) (w : World) (hv : RowO w v os) (hT : Tw w) :
    Calls Tryd.prog 9 #[.int .i64 (room : Int), v] w (BuildR room os w) := by
  obtain ⟨ao, cap, rfl, hcase, hcap, hmx, hcells⟩ := id hv
  have HV := Lib.hid hv
  have HT := Lib.hid hT
  have HN := Lib.hid (New_any (room : Int) (by omega) (by omega) w)
  clear hcells hv hT hcase
  go_enter Tryd.func9, Tryd.ntmps9
  go_wp2_with fail
  refine HN.out.mono ?_
  rintro e W1 ⟨h, hx1⟩
  rcases h with ⟨h, -⟩ | ⟨-, -, p, cv, rfl, hp⟩
  · omega
  rw [show ((room : Int)).toNat = room by simp, ← stOf_nil] at hp
  have HP := Lib.hid hp; have HX := Lib.hid hx1
  have hsz1 := hx1.size
  have hq : RfAt w.heap.size W1.heap.size (.slice none 0 0) room [] (W1.alloc (.cells #[.int .i64 (room : Int), .slice none 0 0] 43)) :=
    ⟨Array.getElem?_push_size, World.ownsRow_nil _ _ _ _, hsz1⟩
  have hxa : Ext W1 (W1.alloc (.cells #[.int .i64 (room : Int), .slice none 0 0] 43)) := Below.alloc (Below.refl _ _) (Nat.le_refl _) _
  have HQ := Lib.hid (And.intro hq hxa)
  clear HN hp hx1 hq hxa hsz1
  go_wp2_with fail
  go_loopw [30] (fun i wr => ∃ k : Nat, k ≤ os.length ∧ k ≤ 40 ∧ i = .int .i64 k ∧ ∃ lv cv xv, TrAt w.heap.size p lv cv (stOf room (bldL (os.take k))) wr ∧ RfAt w.heap.size W1.heap.size xv room (bldL (os.take k)) wr ∧ Ext w wr) (fun i _ => os.length - (intOf i).toNat)
  case atStart => exact ⟨0, by omega, by omega, rfl, _, _, _, HP.out.ext HQ.out.2, HQ.out.1, ext_trans HX.out HQ.out.2⟩
  case round =>
    obtain ⟨k, hk, hk40, rfl, lv, cv, xv, htr, hrf, hx⟩ := hrel
    by_cases h3 : k < os.length
    · obtain ⟨g, o, cap', hv, hcl⟩ := row_ops (HV.out.ext hx) (by intro h; rw [h] at h3; simp at h3)
      cases hv
      obtain ⟨d0, d1, d2, d3⟩ := hcl k h3
      have hix := index_op g o os.length cap k h3
      have hlt : g < wr.heap.size := by
        have := d0
        unfold World.cell? at this
        exact Nat.lt_of_not_le fun h => by rw [Array.getElem?_eq_none h] at this; cases this
      have hoo := hok (os.getD k opD) (by simp [List.getD, h3])
      have HT1 := Lib.hid (show bldL (os.take (k + 1)) = bldS (bldL (os.take k)) (os.getD k opD) by rw [take_ops os k h3, bldL_snoc])
      clear hcl
      generalize os.getD k opD = ov at *
      obtain ⟨ot, okd, oc, otx⟩ := ov
      obtain ⟨o1, o2, o3⟩ := hoo
      simp only at d0 d1 d2 d3 o1 o2 o3
      obtain ⟨Wb, hWb⟩ : ∃ Wb, wr.alloc (.cells #[.int .u64 (ot : Int), Str okd, .int .i64 oc, Str otx] 74) = Wb := ⟨_, rfl⟩
      have hxb : Ext wr Wb := by rw [← hWb]; exact Below.alloc (Below.refl _ _) (Nat.le_refl _) _
      have hbb : Wb.heap[wr.heap.size]? = some (.cells #[.int .u64 (ot : Int), Str okd, .int .i64 oc, Str otx] 74 (0, 0)) := by rw [← hWb]; exact Array.getElem?_push_size
      by_cases h40 : k < 40
      · have HBB := Lib.hid hbb; have HXB := Lib.hid hxb
        clear hbb hxb
        have HTR := Lib.hid htr; have HRF := Lib.hid hrf; have HXX := Lib.hid hx
        clear htr hrf hx
        go_wp2_with fail
        clear hWb d0 d1 d2 d3
        -- inv {'ops': [('fa', 37, 11, '.pointer (some ⟨wr.heap.size, 0, none⟩)', '.pointer (some ⟨wr.heap.size, 1, none⟩)'), ('lf', 38, 0, 'Str okd', 'obtain ⟨d0, d1, d2, d3⟩ := cells4 H1'), ('callq', 39, [1], "cutText_any okd 40 w' (by omega)", 'Str (okd.take 40)'), ('fa', 40, 11, '.pointer (some ⟨wr.heap.size, 0, none⟩)', '.pointer (some ⟨wr.heap.size, 3, none⟩)'), ('lf', 41, 3, 'Str otx', 'obtain ⟨d0, d1, d2, d3⟩ := cells4 H1'), ('callq', 42, [4], "cutText_any otx 210 w' (by omega)", 'Str (otx.take 210)'), ('mw', 12, 2, 'Str (okd.take 40)'), ('mw', 13, 5, 'Str (otx.take 210)')], 'W': [('H1', "w'.heap[wr.heap.size]? = some (.cells #[.int .u64 (ot : Int), Str okd, .int .i64 oc, Str otx] 74 (0, 0))", 'HBB.out'), ('E1', "Ext wr w'", 'Below.drew HXB.out')]}
        refine wp_region_any (by kernel_rfl) ?_
        change wpAny _ _ _ _ _ _ _ (World.drew _)
        refine wpAny_inv (n := 8) [37, 38, 39, 40, 41, 42, 12, 13] (fun u L w' =>
            (L 0 = true → u 37 = .pointer (some ⟨wr.heap.size, 1, none⟩)) ∧
            (L 1 = true → u 38 = Str okd) ∧
            (L 2 = true → u 39 = Str (okd.take 40)) ∧
            (L 3 = true → u 40 = .pointer (some ⟨wr.heap.size, 3, none⟩)) ∧
            (L 4 = true → u 41 = Str otx) ∧
            (L 5 = true → u 42 = Str (otx.take 210)) ∧
            (L 6 = true → u 12 = Str (okd.take 40)) ∧
            (L 7 = true → u 13 = Str (otx.take 210)) ∧
            (w'.heap[wr.heap.size]? = some (.cells #[.int .u64 (ot : Int), Str okd, .int .i64 oc, Str otx] 74 (0, 0))) ∧
            (Ext wr w'))
          (by rfl) (by kernel_rfl) (by kernel_rfl) (by rfl) ?_ ?_ ?_
        · exact ⟨(fun h => by cases h), (fun h => by cases h), (fun h => by cases h), (fun h => by cases h), (fun h => by cases h), (fun h => by cases h), (fun h => by cases h), (fun h => by cases h), HBB.out, Below.drew HXB.out⟩
        · refine ⟨⟨⟨⟨⟨⟨⟨⟨trivial, ?_⟩, ?_⟩, ?_⟩, ?_⟩, ?_⟩, ?_⟩, ?_⟩, ?_⟩
          · refine stepOk_some (i := 0) (by rfl) (by rfl) ?_
            rintro u L T w' hT hu hL hp hcl ⟨C0, C1, C2, C3, C4, C5, C6, C7, H1, E1⟩ K hK
            have e1 : u 11 = .pointer (some ⟨wr.heap.size, 0, none⟩) := hu 11 (by decide)
            go_simp
            refine hK _ _ ?_
            exact ⟨fun _ => rfl, fun h => C1 (by simpa using h), fun h => C2 (by simpa using h), fun h => C3 (by simpa using h), fun h => C4 (by simpa using h), fun h => C5 (by simpa using h), fun h => C6 (by simpa using h), fun h => C7 (by simpa using h), H1, E1⟩
          · refine stepOk_some (i := 1) (by rfl) (by rfl) ?_
            rintro u L T w' hT hu hL hp hcl ⟨C0, C1, C2, C3, C4, C5, C6, C7, H1, E1⟩ K hK
            have e0 := C0 (hp.of 0 (by kernel_rfl))
            obtain ⟨d0, d1, d2, d3⟩ := cells4 H1
            go_simp
            refine hK _ _ ?_
            exact ⟨fun h => C0 (by simpa using h), fun _ => rfl, fun h => C2 (by simpa using h), fun h => C3 (by simpa using h), fun h => C4 (by simpa using h), fun h => C5 (by simpa using h), fun h => C6 (by simpa using h), fun h => C7 (by simpa using h), H1, E1⟩
          · refine stepOk_some (i := 2) (by rfl) (by rfl) ?_
            rintro u L T w' hT hu hL hp hcl ⟨C0, C1, C2, C3, C4, C5, C6, C7, H1, E1⟩ K hK
            have e1 := C1 (hp.of 1 (by kernel_rfl))
            go_simp
            refine (cutText_any okd 40 w' (by omega)).mono ?_
            rintro e w1 ⟨he, hx1⟩
            subst w1
            subst he
            refine hK _ _ ?_
            exact ⟨fun h => C0 (by simpa using h), fun h => C1 (by simpa using h), fun _ => rfl, fun h => C3 (by simpa using h), fun h => C4 (by simpa using h), fun h => C5 (by simpa using h), fun h => C6 (by simpa using h), fun h => C7 (by simpa using h), H1, E1⟩
          · refine stepOk_some (i := 3) (by rfl) (by rfl) ?_
            rintro u L T w' hT hu hL hp hcl ⟨C0, C1, C2, C3, C4, C5, C6, C7, H1, E1⟩ K hK
            have e1 : u 11 = .pointer (some ⟨wr.heap.size, 0, none⟩) := hu 11 (by decide)
            go_simp
            refine hK _ _ ?_
            exact ⟨fun h => C0 (by simpa using h), fun h => C1 (by simpa using h), fun h => C2 (by simpa using h), fun _ => rfl, fun h => C4 (by simpa using h), fun h => C5 (by simpa using h), fun h => C6 (by simpa using h), fun h => C7 (by simpa using h), H1, E1⟩
          · refine stepOk_some (i := 4) (by rfl) (by rfl) ?_
            rintro u L T w' hT hu hL hp hcl ⟨C0, C1, C2, C3, C4, C5, C6, C7, H1, E1⟩ K hK
            have e3 := C3 (hp.of 3 (by kernel_rfl))
            obtain ⟨d0, d1, d2, d3⟩ := cells4 H1
            go_simp
            refine hK _ _ ?_
            exact ⟨fun h => C0 (by simpa using h), fun h => C1 (by simpa using h), fun h => C2 (by simpa using h), fun h => C3 (by simpa using h), fun _ => rfl, fun h => C5 (by simpa using h), fun h => C6 (by simpa using h), fun h => C7 (by simpa using h), H1, E1⟩
          · refine stepOk_some (i := 5) (by rfl) (by rfl) ?_
            rintro u L T w' hT hu hL hp hcl ⟨C0, C1, C2, C3, C4, C5, C6, C7, H1, E1⟩ K hK
            have e4 := C4 (hp.of 4 (by kernel_rfl))
            go_simp
            refine (cutText_any otx 210 w' (by omega)).mono ?_
            rintro e w1 ⟨he, hx1⟩
            subst w1
            subst he
            refine hK _ _ ?_
            exact ⟨fun h => C0 (by simpa using h), fun h => C1 (by simpa using h), fun h => C2 (by simpa using h), fun h => C3 (by simpa using h), fun h => C4 (by simpa using h), fun _ => rfl, fun h => C6 (by simpa using h), fun h => C7 (by simpa using h), H1, E1⟩
          · refine stepOk_some (i := 6) (by rfl) (by rfl) ?_
            rintro u L T w' hT hu hL hp hcl ⟨C0, C1, C2, C3, C4, C5, C6, C7, H1, E1⟩ K hK
            have e2 := C2 (hp.of 2 (by kernel_rfl))
            go_simp
            refine hK _ _ ?_
            exact ⟨fun h => C0 (by simpa using h), fun h => C1 (by simpa using h), fun h => C2 (by simpa using h), fun h => C3 (by simpa using h), fun h => C4 (by simpa using h), fun h => C5 (by simpa using h), fun _ => rfl, fun h => C7 (by simpa using h), H1, E1⟩
          · refine stepOk_some (i := 7) (by rfl) (by rfl) ?_
            rintro u L T w' hT hu hL hp hcl ⟨C0, C1, C2, C3, C4, C5, C6, C7, H1, E1⟩ K hK
            have e5 := C5 (hp.of 5 (by kernel_rfl))
            go_simp
            refine hK _ _ ?_
            exact ⟨fun h => C0 (by simpa using h), fun h => C1 (by simpa using h), fun h => C2 (by simpa using h), fun h => C3 (by simpa using h), fun h => C4 (by simpa using h), fun h => C5 (by simpa using h), fun h => C6 (by simpa using h), fun _ => rfl, H1, E1⟩
        · rintro u L w' hall hu ⟨C0, C1, C2, C3, C4, C5, C6, C7, H1, E1⟩
          replace C0 := C0 (hall 0 (by omega))
          replace C1 := C1 (hall 1 (by omega))
          replace C2 := C2 (hall 2 (by omega))
          replace C3 := C3 (hall 3 (by omega))
          replace C4 := C4 (hall 4 (by omega))
          replace C5 := C5 (hall 5 (by omega))
          replace C6 := C6 (hall 6 (by omega))
          replace C7 := C7 (hall 7 (by omega))
          simp only [fill, List.setIfInBounds_toArray, List.set_cons_succ, List.set_cons_zero, C0, C1, C2, C3, C4, C5, C6, C7]
          clear C0 C1 C2 C3 C4 C5 C6 C7 hu hall
        -- end inv
          have hLg := bldL_good (os.take k)
          have hLl : (bldL (os.take k)).length ≤ 40 := by have := hLg.2; rw [List.length_take] at this; omega
          have hxw := ext_trans HXX.out E1
          have HXW := Lib.hid hxw
          have HTR1 := Lib.hid (HTR.out.ext E1)
          have HRF1 := Lib.hid (HRF.out.ext E1)
          have hb1 := H1
          have hblt : ¬ (wr.heap.size = p ∨ lv.ownBlock = some wr.heap.size) := by
            have a1 := (Array.getElem?_eq_some_iff.1 HTR.out.blk).1
            rintro (h | h)
            · omega
            · have := (own_lt HTR.out.row h).2.1; omega
          have hblq : wr.heap.size ≠ W1.heap.size := by
            have a1 := (Array.getElem?_eq_some_iff.1 HRF.out.blk).1
            omega
          clear HTR HRF HXX E1 H1 HBB HXB hLg
          generalize bldL (os.take k) = L at *
          have hk40l : (okd.take 40).length ≤ 40 := by rw [List.length_take]; omega
          have ht210 : (otx.take 210).length ≤ 210 := by rw [List.length_take]; omega
          have HEV := Lib.hid (show OpE.ev ⟨ot, okd, oc, otx⟩ L.length = Ev.mk (L.length + 1) ot (okd.take 40) oc (otx.take 210) from rfl)
          have HBS := Lib.hid (show ∀ b, (Ev.mk (L.length + 1) ot (okd.take 40) oc (otx.take 210)).right = b → bldL (os.take (k + 1)) = if b then L ++ [Ev.mk (L.length + 1) ot (okd.take 40) oc (otx.take 210)] else L from fun b h => by
            rw [HT1.out, bldS, HEV.out, h])
          clear HT1 HEV
          generalize okd.take 40 = okk at *
          generalize otx.take 210 = ott at *
          have hev : (Ev.mk (L.length + 1) ot okk oc ott).ok := ⟨by show L.length + 1 < 18446744073709551616; omega, o1, o2, o3, by show okk.length ≤ 1000; omega, by show ott.length ≤ 1000; omega⟩
          have HAD := Lib.hid (Add_any w.heap.size p lv cv (stOf room L) (stOf_fit room hr1 hr2 L (by omega)) ot okk oc ott hev w' HTR1.out (HT.out.ext hxw))
          obtain ⟨d0, d1, d2, d3⟩ := cells4 hb1
          clear hxw
          go_wp2_with fail
          refine HAD.out.mono ?_
          rintro e W4 hA
          clear HAD d0 d1 d2 d3
          rcases hA with ⟨hR, rfl, hx4⟩ | ⟨hR, rfl, lv4, cv4, htr4, hch4, -, -⟩
          · have hb4 := ext_at hx4 hb1
            have HTR4 := Lib.hid (HTR1.out.ext hx4)
            have HXW4 := Lib.hid (ext_trans HXW.out hx4)
            have HRA := Lib.hid (radd_any w.heap.size W1.heap.size xv room L (by omega) ot o1 okk hk40l oc o2 o3 ott ht210 W4 (HRF1.out.ext hx4))
            have HRF4 := Lib.hid (HRF1.out.ext hx4)
            obtain ⟨d0, d1, d2, d3⟩ := cells4 hb4
            clear hx4 HTR1 HRF1 HXW hb1
            go_wp2_with fail
            refine HRA.out.mono ?_
            rintro e W5 hB
            clear HRA d0 d1 d2 d3
            rcases hB with ⟨-, rfl, hx5⟩ | ⟨hR2, -, -⟩
            · have HF := Lib.hid (show ∃ lv cv xv, TrAt w.heap.size p lv cv (stOf room (bldL (os.take (k + 1)))) W5 ∧ RfAt w.heap.size W1.heap.size xv room (bldL (os.take (k + 1))) W5 ∧ Ext w W5 from by
                rw [HBS.out _ hR]
                exact ⟨lv, cv, xv, HTR4.out.ext hx5, HRF4.out.ext hx5, ext_trans HXW4.out hx5⟩)
              clear HTR4 HRF4 HXW4 hx5 HBS
              go_wp2
              go_roundw
              case rel => exact ⟨k + 1, by omega, by omega, by go_num, HF.out⟩
              case measure => simp [intOf]; omega
            · exact absurd ((show (Ev.mk (L.length + 1) ot okk oc ott).right = false from hR).symm.trans hR2) (by decide)
          · have hb4 := (hch4.block _ (Array.getElem?_eq_some_iff.1 hb1).1 hblt).trans hb1
            rw [stOf_add room hr1 L _ hR] at htr4
            have hxw4 : Ext w W4 := Ch.below HXW.out hch4 (fun g hg => by
              rcases hg with rfl | hg
              · exact HTR1.out.low
              · exact (own_lt HTR1.out.row hg).1) (Nat.le_refl _)
            have hrf4 := rf_over HTR1.out HRF1.out hch4
            have HRA := Lib.hid (radd_any w.heap.size W1.heap.size xv room L (by omega) ot o1 okk hk40l oc o2 o3 ott ht210 W4 hrf4)
            have HTR4 := Lib.hid htr4
            have HXW4 := Lib.hid hxw4
            have HRF4 := Lib.hid hrf4
            obtain ⟨d0, d1, d2, d3⟩ := cells4 hb4
            clear hxw4 hrf4 htr4 hch4 HTR1 HRF1 HXW hb1
            have hnum : (((stOf room L).last + 1 : Nat) : Int) = (L.length : Int) + 1 := by simp [stOf]
            rw [hnum]
            clear hnum
            go_wp2_with fail
            refine HRA.out.mono ?_
            rintro e W5 hB
            clear HRA d0 d1 d2 d3
            rcases hB with ⟨hR2, -, -⟩ | ⟨-, rfl, xv5, hrf5, hch5, -⟩
            · exact absurd ((show (Ev.mk (L.length + 1) ot okk oc ott).right = true from hR).symm.trans hR2) (by decide)
            · have HF := Lib.hid (show ∃ lv cv xv, TrAt w.heap.size p lv cv (stOf room (bldL (os.take (k + 1)))) W5 ∧ RfAt w.heap.size W1.heap.size xv room (bldL (os.take (k + 1))) W5 ∧ Ext w W5 from by
                rw [HBS.out _ hR]
                exact ⟨lv4, cv4, xv5, tr_over HTR4.out HRF4.out hch5, hrf5, Ch.below HXW4.out hch5 (fun g hg => by rw [show g = W1.heap.size from hg]; exact HRF4.out.lo) (Nat.le_refl _)⟩)
              clear HTR4 HRF4 HXW4 hch5 hrf5 HBS
              go_wp2
              go_roundw
              case rel => exact ⟨k + 1, by omega, by omega, by go_num, HF.out⟩
              case measure => simp [intOf]; omega
      · have HF := Lib.hid (show BuildR room os w (.returned (.tuple #[.pointer (some ⟨p, 0, none⟩), .pointer (some ⟨W1.heap.size, 0, none⟩), .bool true])) Wb from by
          have hk4 : k = 40 := by omega
          subst hk4
          exact ⟨p, W1.heap.size, lv, cv, xv, rfl, htr.ext hxb, hrf.ext hxb, ext_trans hx hxb⟩)
        clear htr hrf
        go_wp2_with fail
        refine bodyPost_ret (v := .tuple #[.pointer (some ⟨p, 0, none⟩), .pointer (some ⟨W1.heap.size, 0, none⟩), .bool true]) ?_ rfl HF.out
        simp [results, Tryd.results9]
    · have hkl : k = os.length := by omega
      have HF := Lib.hid (show BuildR room os w (.returned (.tuple #[.pointer (some ⟨p, 0, none⟩), .pointer (some ⟨W1.heap.size, 0, none⟩), .bool true])) wr from by
        have h1 : os.take 40 = os.take k := by rw [List.take_of_length_le (by omega), List.take_of_length_le (by omega)]
        refine ⟨p, W1.heap.size, lv, cv, xv, rfl, ?_, ?_, hx⟩
        · rw [h1]; exact htr
        · rw [h1]; exact hrf)
      clear htr hrf
      go_wp2
      refine bodyPost_ret (v := .tuple #[.pointer (some ⟨p, 0, none⟩), .pointer (some ⟨W1.heap.size, 0, none⟩), .bool true]) ?_ rfl HF.out
      simp [results, Tryd.results9]
end Go.Proofs.YtpndahmlbjhdfaaDoor
