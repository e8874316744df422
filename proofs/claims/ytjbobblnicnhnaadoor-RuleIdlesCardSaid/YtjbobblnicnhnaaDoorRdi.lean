/-
  ref16.Idle.
-/
import Derived.BigGuardPart
import Derived.RegionTactic
import Derived.Deep.DrawnRows
import Derived.Test.YtjbobblnicnhnaaDoorRows
import Derived.Test.YtjbobblnicnhnaaDoorWhr
import Derived.Test.YtjbobblnicnhnaaDoorIdl
import Derived.Test.YtjbobblnicnhnaaDoorCvl
import Derived.Test.YtjbobblnicnhnaaDoorKit
import Derived.Test.YtjbobblnicnhnaaDoorSys
namespace Go.Proofs.YtjbobblnicnhnaaDoor
open Go.RowKit
set_option maxRecDepth 100000
attribute [local go_sem ↓] Go.wp_at_zero Go.wp_at_succ
set_option linter.unusedVariables false
set_option linter.unusedSimpArgs false

theorem any_step (f : Ru → Bool) (rs : List Ru) (q : Nat) (h : q < rs.length) : (rs.take (q + 1)).any f = ((rs.take q).any f || f (rs.getD q ruD)) := by
  have hd : rs.getD q ruD = rs[q] := by simp [List.getD, h]
  rw [hd, List.take_succ_eq_append_getElem h, List.any_append]
  simp
set_option maxHeartbeats 4000000 in
theorem idleR_any (v : Value) (rs : List Ru) (hl : rs.length ≤ 100000) (hrb : ∀ r ∈ rs, RuB r) (w : World) (hr : RowU w v rs) :
    Calls Tryd.prog 26 #[v] w fun e w' => ∃ v', e = .returned v' ∧ w'.ownsRow w.heap.size 3 1 v' (idleL rs rs.length).length ((idleL rs rs.length).map Nt) ∧ Ext w w' := by
  obtain ⟨ao, cap, hv, hcap, hmax, hcl⟩ := rowU_shape hr
  have HCL := Lib.hid hcl
  have HRB := Lib.hid hrb
  have HIX := Lib.hid index_ruleR
  have HCV := Lib.hid (fun (a b : Ru) (ha : RuB a) (hb : RuB b) W => coversR_any a b ha hb W)
  clear hr hcl hrb
  subst hv
  go_enter Tryd.func26, Tryd.ntmps26
  go_wp2
  go_loopw [3, 9] (fun o i wr => ∃ k : Nat, k ≤ rs.length ∧ i = .int .i64 k ∧ wr.ownsRow w.heap.size 3 1 o (idleL rs k).length ((idleL rs k).map Nt) ∧ Ext w wr) (fun _ i _ => rs.length - (intOf i).toNat)
  case atStart => exact ⟨0, by omega, rfl, World.ownsRow_nil _ _ _ _, ext_refl w⟩
  case round =>
    obtain ⟨k, hk, rfl, ho, hxr⟩ := hrel
    have HO := Lib.hid ho; have HXR := Lib.hid hxr
    clear ho hxr
    generalize wr = wo at *
    by_cases hlt : k < rs.length
    · obtain ⟨g, o, hao, hcl⟩ : ∃ g o, ao = some ⟨g, o, none⟩ ∧ ∀ j, j < rs.length → w.cell? ⟨g, o + 6 * j, none⟩ = some (.bool (rs.getD j ruD).al) ∧ w.cell? ⟨g, o + 6 * j + 1, none⟩ = some (Str (rs.getD j ruD).ro) ∧ w.cell? ⟨g, o + 6 * j + 2, none⟩ = some (Str (rs.getD j ruD).te) ∧ w.cell? ⟨g, o + 6 * j + 3, none⟩ = some (Str (rs.getD j ruD).ho) ∧
          w.cell? ⟨g, o + 6 * j + 4, none⟩ = some (.int .i64 (rs.getD j ruD).fr) ∧ w.cell? ⟨g, o + 6 * j + 5, none⟩ = some (.int .i64 (rs.getD j ruD).to) := by
        rcases HCL.out with h | h
        · subst h; simp at hlt
        · exact h
      subst hao
      have HCC := Lib.hid hcl
      have hcl2 := hcl k hlt
      have hixA := HIX.out g o rs.length cap k hlt
      have HRX := Lib.hid (HRB.out (rs.getD k ruD) (by simp [List.getD, hlt]))
      have HS := Lib.hid (idleL_succ rs k)
      have HIB := Lib.hid (show idleB rs k = (rs.take k).any fun o => coverB o (rs.getD k ruD) from rfl)
      have hil := idleL_len rs k
      generalize idleB rs k = ib at *
      obtain ⟨F1, hF1⟩ : ∃ F1, idleL rs (k + 1) = F1 := ⟨_, rfl⟩
      rw [hF1] at HS
      have HF1 := Lib.hid hF1
      clear hF1
      generalize idleL rs k = F0 at *
      generalize rs.getD k ruD = r at *
      generalize hq0 : o + 6 * k = q0 at *
      clear hq0 hcl
      obtain ⟨al, ro, te, ho, fr, to⟩ := r
      go_wp2
      go_loopw [5, 6] (fun d j wr => ∃ q : Nat, q ≤ k ∧ j = .int .i64 q ∧ d = .bool ((rs.take q).any fun o => coverB o ⟨al, ro, te, ho, fr, to⟩) ∧ Ext wo wr) (fun _ j _ => k - (intOf j).toNat)
      case atStart => exact ⟨0, by omega, rfl, by simp, ext_refl wo⟩
      case round =>
        obtain ⟨q, hq, rfl, rfl, hx2⟩ := hrel
        have HX2 := Lib.hid hx2
        clear hx2
        by_cases hqk : q < k
        · have HA := Lib.hid (any_step (fun o => coverB o ⟨al, ro, te, ho, fr, to⟩) rs q (by omega))
          have hixB := HIX.out g o rs.length cap q (by omega)
          have HRY := Lib.hid (HRB.out (rs.getD q ruD) (by simp [List.getD, show q < rs.length by omega]))
          have hcl3 := HCC.out q (by omega)
          generalize (rs.take q).any (fun o => coverB o ⟨al, ro, te, ho, fr, to⟩) = b at *
          generalize rs.getD q ruD = r2 at *
          generalize hq1 : o + 6 * q = q1 at *
          clear hq1
          obtain ⟨al2, ro2, te2, ho2, fr2, to2⟩ := r2
          have HCV1 := Lib.hid (HCV.out _ _ HRY.out HRX.out)
          generalize hcb : coverB ⟨al2, ro2, te2, ho2, fr2, to2⟩ ⟨al, ro, te, ho, fr, to⟩ = cb at *
          have HCB := Lib.hid hcb
          clear hcb
          obtain ⟨a0, a1, a2, a3, a4, a5⟩ := hcl2
          obtain ⟨d0, d1, d2, d3, d4, d5⟩ := hcl3
          simp only at a0 a1 a2 a3 a4 a5 d0 d1 d2 d3 d4 d5
          have hxx := ext_trans HXR.out HX2.out
          replace a0 := ext_cell hxx a0; replace a1 := ext_cell hxx a1; replace a2 := ext_cell hxx a2; replace a3 := ext_cell hxx a3; replace a4 := ext_cell hxx a4; replace a5 := ext_cell hxx a5
          replace d0 := ext_cell hxx d0; replace d1 := ext_cell hxx d1; replace d2 := ext_cell hxx d2; replace d3 := ext_cell hxx d3; replace d4 := ext_cell hxx d4; replace d5 := ext_cell hxx d5
          clear hxx
          have t1 : decide ((q : Int) < (k : Int)) = true := by simp; omega
          have hi0 : (0 : Int) ≤ (q : Int) := by omega
          cases b with
          | true =>
            go_wp2
            -- inv {'ops':[('mo',17,5,12,'.bool true'),('mw',18,0,'.bool true'),('sk',19),('sk',20),('sk',21),('sk',22),('sk',23),('sk',24),('sk',25),('sk',26),('sk',27),('op',28,[1],'.bool true'),('as',5,11,'.bool true','.bool true')],'G':{2:(1,'true'),3:(1,'true'),4:(1,'true'),5:(1,'true'),6:(1,'true'),7:(1,'true'),8:(1,'true'),9:(1,'true'),10:(1,'true')},'W':[('E1',"Ext wo w'",'Below.drew HX2.out')]}
            refine wp_region_any (by kernel_rfl) ?_
            change wpAny _ _ _ _ _ _ _ (World.drew _)
            refine wpAny_inv (n := 13) [17, 18, 19, 20, 21, 22, 23, 24, 25, 26, 27, 28, 5] (fun u L w' =>
                (L 0 = true → u 17 = .bool true) ∧
                (L 1 = true → u 18 = .bool true) ∧
                (L 2 = true → True) ∧
                (L 3 = true → True) ∧
                (L 4 = true → True) ∧
                (L 5 = true → True) ∧
                (L 6 = true → True) ∧
                (L 7 = true → True) ∧
                (L 8 = true → True) ∧
                (L 9 = true → True) ∧
                (L 10 = true → True) ∧
                (L 11 = true → u 28 = .bool true) ∧
                (L 12 = true → u 5 = .bool true) ∧
                (L 12 = false → u 5 = .bool true) ∧
                (Ext wo w'))
              (by rfl) (by kernel_rfl) (by kernel_rfl) (by rfl) ?_ ?_ ?_
            · exact ⟨(fun h => by cases h), (fun h => by cases h), (fun h => by cases h), (fun h => by cases h), (fun h => by cases h), (fun h => by cases h), (fun h => by cases h), (fun h => by cases h), (fun h => by cases h), (fun h => by cases h), (fun h => by cases h), (fun h => by cases h), (fun h => by cases h), (fun _ => rfl), Below.drew HX2.out⟩
            · refine ⟨⟨⟨⟨⟨⟨⟨⟨⟨⟨⟨⟨⟨trivial, ?_⟩, ?_⟩, ?_⟩, ?_⟩, ?_⟩, ?_⟩, ?_⟩, ?_⟩, ?_⟩, ?_⟩, ?_⟩, ?_⟩, ?_⟩
              · refine stepOk_some (i := 0) (by rfl) (by rfl) ?_
                rintro u L T w' hT hu hL hp hcl ⟨C0, C1, C2, C3, C4, C5, C6, C7, C8, C9, C10, C11, C12, Z12, E1⟩ K hK
                have e1 := Z12 (hcl.not 12 (by kernel_rfl) hL)
                go_simp
                refine hK _ _ ?_
                exact ⟨fun _ => rfl, fun h => C1 (by simpa using h), fun h => C2 (by simpa using h), fun h => C3 (by simpa using h), fun h => C4 (by simpa using h), fun h => C5 (by simpa using h), fun h => C6 (by simpa using h), fun h => C7 (by simpa using h), fun h => C8 (by simpa using h), fun h => C9 (by simpa using h), fun h => C10 (by simpa using h), fun h => C11 (by simpa using h), fun h => C12 (by simpa using h), fun h => Z12 (by simpa using h), E1⟩
              · refine stepOk_some (i := 1) (by rfl) (by rfl) ?_
                rintro u L T w' hT hu hL hp hcl ⟨C0, C1, C2, C3, C4, C5, C6, C7, C8, C9, C10, C11, C12, Z12, E1⟩ K hK
                have e0 := C0 (hp.of 0 (by kernel_rfl))
                go_simp
                refine hK _ _ ?_
                exact ⟨fun h => C0 (by simpa using h), fun _ => rfl, fun h => C2 (by simpa using h), fun h => C3 (by simpa using h), fun h => C4 (by simpa using h), fun h => C5 (by simpa using h), fun h => C6 (by simpa using h), fun h => C7 (by simpa using h), fun h => C8 (by simpa using h), fun h => C9 (by simpa using h), fun h => C10 (by simpa using h), fun h => C11 (by simpa using h), fun h => C12 (by simpa using h), fun h => Z12 (by simpa using h), E1⟩
              · refine stepOk_some (i := 2) (by rfl) (by rfl) ?_
                rintro u L T w' hT hu hL hp hcl ⟨C0, C1, C2, C3, C4, C5, C6, C7, C8, C9, C10, C11, C12, Z12, E1⟩ K hK
                have hg := getD_bool ((hT 18).trans (C1 (hp.of 1 (by kernel_rfl))))
                go_simp
                refine hK _ _ ?_
                exact ⟨fun h => C0 (by simpa using h), fun h => C1 (by simpa using h), fun _ => trivial, fun h => C3 (by simpa using h), fun h => C4 (by simpa using h), fun h => C5 (by simpa using h), fun h => C6 (by simpa using h), fun h => C7 (by simpa using h), fun h => C8 (by simpa using h), fun h => C9 (by simpa using h), fun h => C10 (by simpa using h), fun h => C11 (by simpa using h), fun h => C12 (by simpa using h), fun h => Z12 (by simpa using h), E1⟩
              · refine stepOk_some (i := 3) (by rfl) (by rfl) ?_
                rintro u L T w' hT hu hL hp hcl ⟨C0, C1, C2, C3, C4, C5, C6, C7, C8, C9, C10, C11, C12, Z12, E1⟩ K hK
                have hg := getD_bool ((hT 18).trans (C1 (hp.of 1 (by kernel_rfl))))
                go_simp
                refine hK _ _ ?_
                exact ⟨fun h => C0 (by simpa using h), fun h => C1 (by simpa using h), fun h => C2 (by simpa using h), fun _ => trivial, fun h => C4 (by simpa using h), fun h => C5 (by simpa using h), fun h => C6 (by simpa using h), fun h => C7 (by simpa using h), fun h => C8 (by simpa using h), fun h => C9 (by simpa using h), fun h => C10 (by simpa using h), fun h => C11 (by simpa using h), fun h => C12 (by simpa using h), fun h => Z12 (by simpa using h), E1⟩
              · refine stepOk_some (i := 4) (by rfl) (by rfl) ?_
                rintro u L T w' hT hu hL hp hcl ⟨C0, C1, C2, C3, C4, C5, C6, C7, C8, C9, C10, C11, C12, Z12, E1⟩ K hK
                have hg := getD_bool ((hT 18).trans (C1 (hp.of 1 (by kernel_rfl))))
                go_simp
                refine hK _ _ ?_
                exact ⟨fun h => C0 (by simpa using h), fun h => C1 (by simpa using h), fun h => C2 (by simpa using h), fun h => C3 (by simpa using h), fun _ => trivial, fun h => C5 (by simpa using h), fun h => C6 (by simpa using h), fun h => C7 (by simpa using h), fun h => C8 (by simpa using h), fun h => C9 (by simpa using h), fun h => C10 (by simpa using h), fun h => C11 (by simpa using h), fun h => C12 (by simpa using h), fun h => Z12 (by simpa using h), E1⟩
              · refine stepOk_some (i := 5) (by rfl) (by rfl) ?_
                rintro u L T w' hT hu hL hp hcl ⟨C0, C1, C2, C3, C4, C5, C6, C7, C8, C9, C10, C11, C12, Z12, E1⟩ K hK
                have hg := getD_bool ((hT 18).trans (C1 (hp.of 1 (by kernel_rfl))))
                go_simp
                refine hK _ _ ?_
                exact ⟨fun h => C0 (by simpa using h), fun h => C1 (by simpa using h), fun h => C2 (by simpa using h), fun h => C3 (by simpa using h), fun h => C4 (by simpa using h), fun _ => trivial, fun h => C6 (by simpa using h), fun h => C7 (by simpa using h), fun h => C8 (by simpa using h), fun h => C9 (by simpa using h), fun h => C10 (by simpa using h), fun h => C11 (by simpa using h), fun h => C12 (by simpa using h), fun h => Z12 (by simpa using h), E1⟩
              · refine stepOk_some (i := 6) (by rfl) (by rfl) ?_
                rintro u L T w' hT hu hL hp hcl ⟨C0, C1, C2, C3, C4, C5, C6, C7, C8, C9, C10, C11, C12, Z12, E1⟩ K hK
                have hg := getD_bool ((hT 18).trans (C1 (hp.of 1 (by kernel_rfl))))
                go_simp
                refine hK _ _ ?_
                exact ⟨fun h => C0 (by simpa using h), fun h => C1 (by simpa using h), fun h => C2 (by simpa using h), fun h => C3 (by simpa using h), fun h => C4 (by simpa using h), fun h => C5 (by simpa using h), fun _ => trivial, fun h => C7 (by simpa using h), fun h => C8 (by simpa using h), fun h => C9 (by simpa using h), fun h => C10 (by simpa using h), fun h => C11 (by simpa using h), fun h => C12 (by simpa using h), fun h => Z12 (by simpa using h), E1⟩
              · refine stepOk_some (i := 7) (by rfl) (by rfl) ?_
                rintro u L T w' hT hu hL hp hcl ⟨C0, C1, C2, C3, C4, C5, C6, C7, C8, C9, C10, C11, C12, Z12, E1⟩ K hK
                have hg := getD_bool ((hT 18).trans (C1 (hp.of 1 (by kernel_rfl))))
                go_simp
                refine hK _ _ ?_
                exact ⟨fun h => C0 (by simpa using h), fun h => C1 (by simpa using h), fun h => C2 (by simpa using h), fun h => C3 (by simpa using h), fun h => C4 (by simpa using h), fun h => C5 (by simpa using h), fun h => C6 (by simpa using h), fun _ => trivial, fun h => C8 (by simpa using h), fun h => C9 (by simpa using h), fun h => C10 (by simpa using h), fun h => C11 (by simpa using h), fun h => C12 (by simpa using h), fun h => Z12 (by simpa using h), E1⟩
              · refine stepOk_some (i := 8) (by rfl) (by rfl) ?_
                rintro u L T w' hT hu hL hp hcl ⟨C0, C1, C2, C3, C4, C5, C6, C7, C8, C9, C10, C11, C12, Z12, E1⟩ K hK
                have hg := getD_bool ((hT 18).trans (C1 (hp.of 1 (by kernel_rfl))))
                go_simp
                refine hK _ _ ?_
                exact ⟨fun h => C0 (by simpa using h), fun h => C1 (by simpa using h), fun h => C2 (by simpa using h), fun h => C3 (by simpa using h), fun h => C4 (by simpa using h), fun h => C5 (by simpa using h), fun h => C6 (by simpa using h), fun h => C7 (by simpa using h), fun _ => trivial, fun h => C9 (by simpa using h), fun h => C10 (by simpa using h), fun h => C11 (by simpa using h), fun h => C12 (by simpa using h), fun h => Z12 (by simpa using h), E1⟩
              · refine stepOk_some (i := 9) (by rfl) (by rfl) ?_
                rintro u L T w' hT hu hL hp hcl ⟨C0, C1, C2, C3, C4, C5, C6, C7, C8, C9, C10, C11, C12, Z12, E1⟩ K hK
                have hg := getD_bool ((hT 18).trans (C1 (hp.of 1 (by kernel_rfl))))
                go_simp
                refine hK _ _ ?_
                exact ⟨fun h => C0 (by simpa using h), fun h => C1 (by simpa using h), fun h => C2 (by simpa using h), fun h => C3 (by simpa using h), fun h => C4 (by simpa using h), fun h => C5 (by simpa using h), fun h => C6 (by simpa using h), fun h => C7 (by simpa using h), fun h => C8 (by simpa using h), fun _ => trivial, fun h => C10 (by simpa using h), fun h => C11 (by simpa using h), fun h => C12 (by simpa using h), fun h => Z12 (by simpa using h), E1⟩
              · refine stepOk_some (i := 10) (by rfl) (by rfl) ?_
                rintro u L T w' hT hu hL hp hcl ⟨C0, C1, C2, C3, C4, C5, C6, C7, C8, C9, C10, C11, C12, Z12, E1⟩ K hK
                have hg := getD_bool ((hT 18).trans (C1 (hp.of 1 (by kernel_rfl))))
                go_simp
                refine hK _ _ ?_
                exact ⟨fun h => C0 (by simpa using h), fun h => C1 (by simpa using h), fun h => C2 (by simpa using h), fun h => C3 (by simpa using h), fun h => C4 (by simpa using h), fun h => C5 (by simpa using h), fun h => C6 (by simpa using h), fun h => C7 (by simpa using h), fun h => C8 (by simpa using h), fun h => C9 (by simpa using h), fun _ => trivial, fun h => C11 (by simpa using h), fun h => C12 (by simpa using h), fun h => Z12 (by simpa using h), E1⟩
              · refine stepOk_some (i := 11) (by rfl) (by rfl) ?_
                rintro u L T w' hT hu hL hp hcl ⟨C0, C1, C2, C3, C4, C5, C6, C7, C8, C9, C10, C11, C12, Z12, E1⟩ K hK
                have e1 := C1 (hp.of 1 (by kernel_rfl))
                go_simp
                refine hK _ _ ?_
                exact ⟨fun h => C0 (by simpa using h), fun h => C1 (by simpa using h), fun h => C2 (by simpa using h), fun h => C3 (by simpa using h), fun h => C4 (by simpa using h), fun h => C5 (by simpa using h), fun h => C6 (by simpa using h), fun h => C7 (by simpa using h), fun h => C8 (by simpa using h), fun h => C9 (by simpa using h), fun h => C10 (by simpa using h), fun _ => rfl, fun h => C12 (by simpa using h), fun h => Z12 (by simpa using h), E1⟩
              · refine stepOk_some (i := 12) (by rfl) (by rfl) ?_
                rintro u L T w' hT hu hL hp hcl ⟨C0, C1, C2, C3, C4, C5, C6, C7, C8, C9, C10, C11, C12, Z12, E1⟩ K hK
                have e11 := C11 (hp.of 11 (by kernel_rfl))
                go_simp
                refine hK _ _ ?_
                exact ⟨fun h => C0 (by simpa using h), fun h => C1 (by simpa using h), fun h => C2 (by simpa using h), fun h => C3 (by simpa using h), fun h => C4 (by simpa using h), fun h => C5 (by simpa using h), fun h => C6 (by simpa using h), fun h => C7 (by simpa using h), fun h => C8 (by simpa using h), fun h => C9 (by simpa using h), fun h => C10 (by simpa using h), fun h => C11 (by simpa using h), fun _ => rfl, fun h => absurd h (by simp), E1⟩
            · rintro u L w' hall hu ⟨C0, C1, C2, C3, C4, C5, C6, C7, C8, C9, C10, C11, C12, Z12, E1⟩
              replace C0 := C0 (hall 0 (by omega))
              replace C1 := C1 (hall 1 (by omega))
              replace C2 := C2 (hall 2 (by omega))
              replace C3 := C3 (hall 3 (by omega))
              replace C4 := C4 (hall 4 (by omega))
              replace C5 := C5 (hall 5 (by omega))
              replace C6 := C6 (hall 6 (by omega))
              replace C7 := C7 (hall 7 (by omega))
              replace C8 := C8 (hall 8 (by omega))
              replace C9 := C9 (hall 9 (by omega))
              replace C10 := C10 (hall 10 (by omega))
              replace C11 := C11 (hall 11 (by omega))
              replace C12 := C12 (hall 12 (by omega))
              simp only [fill, List.setIfInBounds_toArray, List.set_cons_succ, List.set_cons_zero, C0, C1, C11, C12]
              generalize u 19 = s0 at *
              generalize u 20 = s1 at *
              generalize u 21 = s2 at *
              generalize u 22 = s3 at *
              generalize u 23 = s4 at *
              generalize u 24 = s5 at *
              generalize u 25 = s6 at *
              generalize u 26 = s7 at *
              generalize u 27 = s8 at *
              clear C0 C1 C2 C3 C4 C5 C6 C7 C8 C9 C10 C11 C12 Z12 hu hall
            -- end inv
              have HE := Lib.hid E1
              clear E1
              go_wp2
              go_roundw
              case rel => exact ⟨q + 1, by omega, by go_num, by rw [HA.out]; rfl, HE.out⟩
              case measure => simp [intOf] <;> omega
          | false =>
            have hag : ∀ (W : World), (Instr.indexAt 34 (.slice (some ⟨g, o, none⟩) rs.length cap) (.int .i64 (q : Int))).run Tryd.prog W = .ok (.pointer (some ⟨g, q1, none⟩)) W := hixB
            go_wp2
            -- inv {'ops':[('mo',17,5,12,'.bool false'),('mw',18,0,'.bool false'),('mv',19,0,'.slice (some ⟨g, o, none⟩) rs.length cap'),('mv',20,6,'.int .i64 (q : Int)'),('op',21,[2,3],'.pointer (some ⟨g, q1, none⟩)'),('lf',22,4,'ruV ⟨al2, ro2, te2, ho2, fr2, to2⟩','have d0 := ext_cell E2 d0; have d1 := ext_cell E2 d1; have d2 := ext_cell E2 d2; have d3 := ext_cell E2 d3; have d4 := ext_cell E2 d4; have d5 := ext_cell E2 d5'),('mv',23,0,'.slice (some ⟨g, o, none⟩) rs.length cap'),('mv',24,4,'.int .i64 (k : Int)'),('op',25,[6,7],'.pointer (some ⟨g, q0, none⟩)'),('lf',26,8,'ruV ⟨al, ro, te, ho, fr, to⟩','have a0 := ext_cell E2 a0; have a1 := ext_cell E2 a1; have a2 := ext_cell E2 a2; have a3 := ext_cell E2 a3; have a4 := ext_cell E2 a4; have a5 := ext_cell E2 a5'),('call',27,[5,9],'HCV1.out _','.bool cb'),('op',28,[1,10],'.bool cb'),('as',5,11,'.bool cb','.bool false')],'G':{2:(1,'false'),3:(1,'false'),4:(1,'false'),5:(1,'false'),6:(1,'false'),7:(1,'false'),8:(1,'false'),9:(1,'false'),10:(1,'false')},'W':[('E1',"Ext wo w'",'Below.drew HX2.out'),('E2',"Ext wr w'",'Below.drew (ext_refl wr)')]}
            refine wp_region_any (by kernel_rfl) ?_
            change wpAny _ _ _ _ _ _ _ (World.drew _)
            refine wpAny_inv (n := 13) [17, 18, 19, 20, 21, 22, 23, 24, 25, 26, 27, 28, 5] (fun u L w' =>
                (L 0 = true → u 17 = .bool false) ∧
                (L 1 = true → u 18 = .bool false) ∧
                (L 2 = true → u 19 = .slice (some ⟨g, o, none⟩) rs.length cap) ∧
                (L 3 = true → u 20 = .int .i64 (q : Int)) ∧
                (L 4 = true → u 21 = .pointer (some ⟨g, q1, none⟩)) ∧
                (L 5 = true → u 22 = ruV ⟨al2, ro2, te2, ho2, fr2, to2⟩) ∧
                (L 6 = true → u 23 = .slice (some ⟨g, o, none⟩) rs.length cap) ∧
                (L 7 = true → u 24 = .int .i64 (k : Int)) ∧
                (L 8 = true → u 25 = .pointer (some ⟨g, q0, none⟩)) ∧
                (L 9 = true → u 26 = ruV ⟨al, ro, te, ho, fr, to⟩) ∧
                (L 10 = true → u 27 = .bool cb) ∧
                (L 11 = true → u 28 = .bool cb) ∧
                (L 12 = true → u 5 = .bool cb) ∧
                (L 12 = false → u 5 = .bool false) ∧
                (Ext wo w') ∧
                (Ext wr w'))
              (by rfl) (by kernel_rfl) (by kernel_rfl) (by rfl) ?_ ?_ ?_
            · exact ⟨(fun h => by cases h), (fun h => by cases h), (fun h => by cases h), (fun h => by cases h), (fun h => by cases h), (fun h => by cases h), (fun h => by cases h), (fun h => by cases h), (fun h => by cases h), (fun h => by cases h), (fun h => by cases h), (fun h => by cases h), (fun h => by cases h), (fun _ => rfl), Below.drew HX2.out, Below.drew (ext_refl wr)⟩
            · refine ⟨⟨⟨⟨⟨⟨⟨⟨⟨⟨⟨⟨⟨trivial, ?_⟩, ?_⟩, ?_⟩, ?_⟩, ?_⟩, ?_⟩, ?_⟩, ?_⟩, ?_⟩, ?_⟩, ?_⟩, ?_⟩, ?_⟩
              · refine stepOk_some (i := 0) (by rfl) (by rfl) ?_
                rintro u L T w' hT hu hL hp hcl ⟨C0, C1, C2, C3, C4, C5, C6, C7, C8, C9, C10, C11, C12, Z12, E1, E2⟩ K hK
                have e1 := Z12 (hcl.not 12 (by kernel_rfl) hL)
                go_simp
                refine hK _ _ ?_
                exact ⟨fun _ => rfl, fun h => C1 (by simpa using h), fun h => C2 (by simpa using h), fun h => C3 (by simpa using h), fun h => C4 (by simpa using h), fun h => C5 (by simpa using h), fun h => C6 (by simpa using h), fun h => C7 (by simpa using h), fun h => C8 (by simpa using h), fun h => C9 (by simpa using h), fun h => C10 (by simpa using h), fun h => C11 (by simpa using h), fun h => C12 (by simpa using h), fun h => Z12 (by simpa using h), E1, E2⟩
              · refine stepOk_some (i := 1) (by rfl) (by rfl) ?_
                rintro u L T w' hT hu hL hp hcl ⟨C0, C1, C2, C3, C4, C5, C6, C7, C8, C9, C10, C11, C12, Z12, E1, E2⟩ K hK
                have e0 := C0 (hp.of 0 (by kernel_rfl))
                go_simp
                refine hK _ _ ?_
                exact ⟨fun h => C0 (by simpa using h), fun _ => rfl, fun h => C2 (by simpa using h), fun h => C3 (by simpa using h), fun h => C4 (by simpa using h), fun h => C5 (by simpa using h), fun h => C6 (by simpa using h), fun h => C7 (by simpa using h), fun h => C8 (by simpa using h), fun h => C9 (by simpa using h), fun h => C10 (by simpa using h), fun h => C11 (by simpa using h), fun h => C12 (by simpa using h), fun h => Z12 (by simpa using h), E1, E2⟩
              · refine stepOk_some (i := 2) (by rfl) (by rfl) ?_
                rintro u L T w' hT hu hL hp hcl ⟨C0, C1, C2, C3, C4, C5, C6, C7, C8, C9, C10, C11, C12, Z12, E1, E2⟩ K hK
                have hg := getD_bool ((hT 18).trans (C1 (hp.of 1 (by kernel_rfl))))
                have e1 : u 0 = .slice (some ⟨g, o, none⟩) rs.length cap := hu 0 (by decide)
                go_simp
                refine hK _ _ ?_
                exact ⟨fun h => C0 (by simpa using h), fun h => C1 (by simpa using h), fun _ => rfl, fun h => C3 (by simpa using h), fun h => C4 (by simpa using h), fun h => C5 (by simpa using h), fun h => C6 (by simpa using h), fun h => C7 (by simpa using h), fun h => C8 (by simpa using h), fun h => C9 (by simpa using h), fun h => C10 (by simpa using h), fun h => C11 (by simpa using h), fun h => C12 (by simpa using h), fun h => Z12 (by simpa using h), E1, E2⟩
              · refine stepOk_some (i := 3) (by rfl) (by rfl) ?_
                rintro u L T w' hT hu hL hp hcl ⟨C0, C1, C2, C3, C4, C5, C6, C7, C8, C9, C10, C11, C12, Z12, E1, E2⟩ K hK
                have hg := getD_bool ((hT 18).trans (C1 (hp.of 1 (by kernel_rfl))))
                have e1 : u 6 = .int .i64 (q : Int) := hu 6 (by decide)
                go_simp
                refine hK _ _ ?_
                exact ⟨fun h => C0 (by simpa using h), fun h => C1 (by simpa using h), fun h => C2 (by simpa using h), fun _ => rfl, fun h => C4 (by simpa using h), fun h => C5 (by simpa using h), fun h => C6 (by simpa using h), fun h => C7 (by simpa using h), fun h => C8 (by simpa using h), fun h => C9 (by simpa using h), fun h => C10 (by simpa using h), fun h => C11 (by simpa using h), fun h => C12 (by simpa using h), fun h => Z12 (by simpa using h), E1, E2⟩
              · refine stepOk_some (i := 4) (by rfl) (by rfl) ?_
                rintro u L T w' hT hu hL hp hcl ⟨C0, C1, C2, C3, C4, C5, C6, C7, C8, C9, C10, C11, C12, Z12, E1, E2⟩ K hK
                have hg := getD_bool ((hT 18).trans (C1 (hp.of 1 (by kernel_rfl))))
                have e2 := C2 (hp.of 2 (by kernel_rfl))
                have e3 := C3 (hp.of 3 (by kernel_rfl))
                go_simp
                refine hK _ _ ?_
                exact ⟨fun h => C0 (by simpa using h), fun h => C1 (by simpa using h), fun h => C2 (by simpa using h), fun h => C3 (by simpa using h), fun _ => rfl, fun h => C5 (by simpa using h), fun h => C6 (by simpa using h), fun h => C7 (by simpa using h), fun h => C8 (by simpa using h), fun h => C9 (by simpa using h), fun h => C10 (by simpa using h), fun h => C11 (by simpa using h), fun h => C12 (by simpa using h), fun h => Z12 (by simpa using h), E1, E2⟩
              · refine stepOk_some (i := 5) (by rfl) (by rfl) ?_
                rintro u L T w' hT hu hL hp hcl ⟨C0, C1, C2, C3, C4, C5, C6, C7, C8, C9, C10, C11, C12, Z12, E1, E2⟩ K hK
                have hg := getD_bool ((hT 18).trans (C1 (hp.of 1 (by kernel_rfl))))
                have e4 := C4 (hp.of 4 (by kernel_rfl))
                have d0 := ext_cell E2 d0; have d1 := ext_cell E2 d1; have d2 := ext_cell E2 d2; have d3 := ext_cell E2 d3; have d4 := ext_cell E2 d4; have d5 := ext_cell E2 d5
                go_simp
                refine hK _ _ ?_
                exact ⟨fun h => C0 (by simpa using h), fun h => C1 (by simpa using h), fun h => C2 (by simpa using h), fun h => C3 (by simpa using h), fun h => C4 (by simpa using h), fun _ => rfl, fun h => C6 (by simpa using h), fun h => C7 (by simpa using h), fun h => C8 (by simpa using h), fun h => C9 (by simpa using h), fun h => C10 (by simpa using h), fun h => C11 (by simpa using h), fun h => C12 (by simpa using h), fun h => Z12 (by simpa using h), E1, E2⟩
              · refine stepOk_some (i := 6) (by rfl) (by rfl) ?_
                rintro u L T w' hT hu hL hp hcl ⟨C0, C1, C2, C3, C4, C5, C6, C7, C8, C9, C10, C11, C12, Z12, E1, E2⟩ K hK
                have hg := getD_bool ((hT 18).trans (C1 (hp.of 1 (by kernel_rfl))))
                have e1 : u 0 = .slice (some ⟨g, o, none⟩) rs.length cap := hu 0 (by decide)
                go_simp
                refine hK _ _ ?_
                exact ⟨fun h => C0 (by simpa using h), fun h => C1 (by simpa using h), fun h => C2 (by simpa using h), fun h => C3 (by simpa using h), fun h => C4 (by simpa using h), fun h => C5 (by simpa using h), fun _ => rfl, fun h => C7 (by simpa using h), fun h => C8 (by simpa using h), fun h => C9 (by simpa using h), fun h => C10 (by simpa using h), fun h => C11 (by simpa using h), fun h => C12 (by simpa using h), fun h => Z12 (by simpa using h), E1, E2⟩
              · refine stepOk_some (i := 7) (by rfl) (by rfl) ?_
                rintro u L T w' hT hu hL hp hcl ⟨C0, C1, C2, C3, C4, C5, C6, C7, C8, C9, C10, C11, C12, Z12, E1, E2⟩ K hK
                have hg := getD_bool ((hT 18).trans (C1 (hp.of 1 (by kernel_rfl))))
                have e1 : u 4 = .int .i64 (k : Int) := hu 4 (by decide)
                go_simp
                refine hK _ _ ?_
                exact ⟨fun h => C0 (by simpa using h), fun h => C1 (by simpa using h), fun h => C2 (by simpa using h), fun h => C3 (by simpa using h), fun h => C4 (by simpa using h), fun h => C5 (by simpa using h), fun h => C6 (by simpa using h), fun _ => rfl, fun h => C8 (by simpa using h), fun h => C9 (by simpa using h), fun h => C10 (by simpa using h), fun h => C11 (by simpa using h), fun h => C12 (by simpa using h), fun h => Z12 (by simpa using h), E1, E2⟩
              · refine stepOk_some (i := 8) (by rfl) (by rfl) ?_
                rintro u L T w' hT hu hL hp hcl ⟨C0, C1, C2, C3, C4, C5, C6, C7, C8, C9, C10, C11, C12, Z12, E1, E2⟩ K hK
                have hg := getD_bool ((hT 18).trans (C1 (hp.of 1 (by kernel_rfl))))
                have e6 := C6 (hp.of 6 (by kernel_rfl))
                have e7 := C7 (hp.of 7 (by kernel_rfl))
                go_simp
                refine hK _ _ ?_
                exact ⟨fun h => C0 (by simpa using h), fun h => C1 (by simpa using h), fun h => C2 (by simpa using h), fun h => C3 (by simpa using h), fun h => C4 (by simpa using h), fun h => C5 (by simpa using h), fun h => C6 (by simpa using h), fun h => C7 (by simpa using h), fun _ => rfl, fun h => C9 (by simpa using h), fun h => C10 (by simpa using h), fun h => C11 (by simpa using h), fun h => C12 (by simpa using h), fun h => Z12 (by simpa using h), E1, E2⟩
              · refine stepOk_some (i := 9) (by rfl) (by rfl) ?_
                rintro u L T w' hT hu hL hp hcl ⟨C0, C1, C2, C3, C4, C5, C6, C7, C8, C9, C10, C11, C12, Z12, E1, E2⟩ K hK
                have hg := getD_bool ((hT 18).trans (C1 (hp.of 1 (by kernel_rfl))))
                have e8 := C8 (hp.of 8 (by kernel_rfl))
                have a0 := ext_cell E2 a0; have a1 := ext_cell E2 a1; have a2 := ext_cell E2 a2; have a3 := ext_cell E2 a3; have a4 := ext_cell E2 a4; have a5 := ext_cell E2 a5
                go_simp
                refine hK _ _ ?_
                exact ⟨fun h => C0 (by simpa using h), fun h => C1 (by simpa using h), fun h => C2 (by simpa using h), fun h => C3 (by simpa using h), fun h => C4 (by simpa using h), fun h => C5 (by simpa using h), fun h => C6 (by simpa using h), fun h => C7 (by simpa using h), fun h => C8 (by simpa using h), fun _ => rfl, fun h => C10 (by simpa using h), fun h => C11 (by simpa using h), fun h => C12 (by simpa using h), fun h => Z12 (by simpa using h), E1, E2⟩
              · refine stepOk_some (i := 10) (by rfl) (by rfl) ?_
                rintro u L T w' hT hu hL hp hcl ⟨C0, C1, C2, C3, C4, C5, C6, C7, C8, C9, C10, C11, C12, Z12, E1, E2⟩ K hK
                have hg := getD_bool ((hT 18).trans (C1 (hp.of 1 (by kernel_rfl))))
                have e5 := C5 (hp.of 5 (by kernel_rfl))
                have e9 := C9 (hp.of 9 (by kernel_rfl))
                go_simp
                refine (HCV1.out _).mono ?_
                rintro e w1 ⟨he, hx1⟩
                subst he
                refine hK _ _ ?_
                exact ⟨fun h => C0 (by simpa using h), fun h => C1 (by simpa using h), fun h => C2 (by simpa using h), fun h => C3 (by simpa using h), fun h => C4 (by simpa using h), fun h => C5 (by simpa using h), fun h => C6 (by simpa using h), fun h => C7 (by simpa using h), fun h => C8 (by simpa using h), fun h => C9 (by simpa using h), fun _ => rfl, fun h => C11 (by simpa using h), fun h => C12 (by simpa using h), fun h => Z12 (by simpa using h), ext_trans (E1) hx1, ext_trans (E2) hx1⟩
              · refine stepOk_some (i := 11) (by rfl) (by rfl) ?_
                rintro u L T w' hT hu hL hp hcl ⟨C0, C1, C2, C3, C4, C5, C6, C7, C8, C9, C10, C11, C12, Z12, E1, E2⟩ K hK
                have e1 := C1 (hp.of 1 (by kernel_rfl))
                have e10 := C10 (hp.of 10 (by kernel_rfl))
                go_simp
                refine hK _ _ ?_
                exact ⟨fun h => C0 (by simpa using h), fun h => C1 (by simpa using h), fun h => C2 (by simpa using h), fun h => C3 (by simpa using h), fun h => C4 (by simpa using h), fun h => C5 (by simpa using h), fun h => C6 (by simpa using h), fun h => C7 (by simpa using h), fun h => C8 (by simpa using h), fun h => C9 (by simpa using h), fun h => C10 (by simpa using h), fun _ => rfl, fun h => C12 (by simpa using h), fun h => Z12 (by simpa using h), E1, E2⟩
              · refine stepOk_some (i := 12) (by rfl) (by rfl) ?_
                rintro u L T w' hT hu hL hp hcl ⟨C0, C1, C2, C3, C4, C5, C6, C7, C8, C9, C10, C11, C12, Z12, E1, E2⟩ K hK
                have e11 := C11 (hp.of 11 (by kernel_rfl))
                go_simp
                refine hK _ _ ?_
                exact ⟨fun h => C0 (by simpa using h), fun h => C1 (by simpa using h), fun h => C2 (by simpa using h), fun h => C3 (by simpa using h), fun h => C4 (by simpa using h), fun h => C5 (by simpa using h), fun h => C6 (by simpa using h), fun h => C7 (by simpa using h), fun h => C8 (by simpa using h), fun h => C9 (by simpa using h), fun h => C10 (by simpa using h), fun h => C11 (by simpa using h), fun _ => rfl, fun h => absurd h (by simp), E1, E2⟩
            · rintro u L w' hall hu ⟨C0, C1, C2, C3, C4, C5, C6, C7, C8, C9, C10, C11, C12, Z12, E1, E2⟩
              replace C0 := C0 (hall 0 (by omega))
              replace C1 := C1 (hall 1 (by omega))
              replace C2 := C2 (hall 2 (by omega))
              replace C3 := C3 (hall 3 (by omega))
              replace C4 := C4 (hall 4 (by omega))
              replace C5 := C5 (hall 5 (by omega))
              replace C6 := C6 (hall 6 (by omega))
              replace C7 := C7 (hall 7 (by omega))
              replace C8 := C8 (hall 8 (by omega))
              replace C9 := C9 (hall 9 (by omega))
              replace C10 := C10 (hall 10 (by omega))
              replace C11 := C11 (hall 11 (by omega))
              replace C12 := C12 (hall 12 (by omega))
              simp only [fill, List.setIfInBounds_toArray, List.set_cons_succ, List.set_cons_zero, C0, C1, C2, C3, C4, C5, C6, C7, C8, C9, C10, C11, C12]
              clear C0 C1 C2 C3 C4 C5 C6 C7 C8 C9 C10 C11 C12 Z12 hu hall
            -- end inv
              have HE := Lib.hid E1
              clear E1 E2
              go_wp2
              go_roundw
              case rel => exact ⟨q + 1, by omega, by go_num, by rw [HA.out]; rfl, HE.out⟩
              case measure => simp [intOf] <;> omega
        · have : q = k := by omega
          subst this
          have e : ((rs.take q).any fun o => coverB o ⟨al, ro, te, ho, fr, to⟩) = ib := HIB.out.symm
          rw [e]
          have HOX := Lib.hid (ownz_ext HO.out HX2.out)
          have hsz := (ext_trans HXR.out HX2.out).size
          have HXX := Lib.hid (ext_trans HXR.out HX2.out)
          clear e HIB hcl2 hixA
          cases ib with
          | false =>
            have FIN := Lib.hid (show F1 = F0 by rw [HS.out, if_neg (by simp), List.append_nil])
            go_wp2
            go_roundw
            case rel => exact ⟨q + 1, by omega, by go_num, by rw [HF1.out, FIN.out]; exact HOX.out, HXX.out⟩
            case measure => simp [intOf] <;> omega
          | true =>
            have FIN := Lib.hid (show F1 = F0 ++ [q] by rw [HS.out, if_pos rfl])
            go_wp2_with (at_builtin; refine wpList_push w.heap.size rfl _ _ 46 3 rfl Tryd.underlying46 infoInt rfl (by omega) HOX.out _ rfl (by omega) hsz rfl rfl ?_; rintro _ w1 ⟨g1, cap1, rfl⟩ hown1 hgr1; have HX1 := Lib.hid (ext_push HXX.out HOX.out hgr1); have HO1 := Lib.hid hown1; clear hown1 hgr1)
            go_roundw
            case rel => exact ⟨q + 1, by omega, by go_num, by rw [HF1.out, FIN.out, List.length_append, List.map_append]; exact HO1.out, HX1.out⟩
            case measure => simp [intOf] <;> omega
    · have : k = rs.length := by omega
      subst this
      go_wp2
      go_ret
      exact ⟨_, rfl, HO.out, HXR.out⟩
end Go.Proofs.YtjbobblnicnhnaaDoor
