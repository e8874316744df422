/-
  RuleSays.
-/
import Derived.BigGuardPart
import Derived.RegionTactic
import Derived.Deep.DrawnRows
import Derived.Test.YtjbobblnicnhnaaDoorRows
import Derived.Test.YtjbobblnicnhnaaDoorRcv
import Derived.Test.YtjbobblnicnhnaaDoorWhr
import Derived.Test.YtjbobblnicnhnaaDoorCln
import Derived.Test.YtjbobblnicnhnaaDoorIdl
import Derived.Test.YtjbobblnicnhnaaDoorKit
namespace Go.Proofs.YtjbobblnicnhnaaDoor
open Go.RowKit
set_option maxRecDepth 100000
attribute [local go_sem ↓] Go.wp_at_zero Go.wp_at_succ
set_option linter.unusedVariables false
set_option linter.unusedSimpArgs false

/-- The rules that are kept of the first ones. -/
def pickR (n : Nat) (ls : List Ru) (k : Nat) : List Ru := (((ls.take k).take n).map fewR).filter ruOk
theorem pick_len (n : Nat) (ls : List Ru) (k : Nat) : (pickR n ls k).length ≤ n := by
  unfold pickR
  refine Nat.le_trans (List.length_filter_le _ _) ?_
  rw [List.length_map]; exact List.length_take_le _ _
theorem pick_step {n : Nat} {ls : List Ru} {k : Nat} (h : k < ls.length) (hn : k < n) : pickR n ls (k + 1) = pickR n ls k ++ (if ruOk (fewR (ls.getD k ruD)) then [fewR (ls.getD k ruD)] else []) := by
  unfold pickR
  have hd : ls.getD k ruD = ls[k] := by simp [List.getD, h]
  rw [hd, List.take_take, List.take_take, Nat.min_eq_right (by omega), Nat.min_eq_right (by omega), List.take_succ_eq_append_getElem h, List.map_append, List.filter_append]
  congr 1
  simp only [List.map_cons, List.map_nil, List.filter_cons, List.filter_nil]
theorem pick_out {n : Nat} {ls : List Ru} {k : Nat} (hn : n ≤ k) : pickR n ls (k + 1) = pickR n ls k := by
  unfold pickR
  rw [List.take_take, List.take_take, Nat.min_eq_left (by omega), Nat.min_eq_left (by omega)]
theorem pick_b {n : Nat} {ls : List Ru} {k : Nat} (hI : ∀ r ∈ ls, I64 r.fr ∧ I64 r.to) : ∀ r ∈ pickR n ls k, RuB r := by
  intro r hr
  unfold pickR at hr
  have h1 := (List.mem_filter.1 hr).1
  obtain ⟨x, hx, rfl⟩ := List.mem_map.1 h1
  have hx2 := hI x (List.mem_of_mem_take (List.mem_of_mem_take hx))
  exact few_b x hx2.1 hx2.2
theorem pick_ok {n : Nat} {ls : List Ru} {k : Nat} : (pickR n ls k).all ruOk = true := by
  rw [List.all_eq_true]
  intro r hr
  unfold pickR at hr
  exact (List.mem_filter.1 hr).2
theorem pick_yes {n : Nat} {ls : List Ru} {k : Nat} (h : k < ls.length) (hn : k < n) (ho : ruOk (fewR (ls.getD k ruD)) = true) : pickR n ls (k + 1) = pickR n ls k ++ [fewR (ls.getD k ruD)] := by rw [pick_step h hn, if_pos ho]
theorem pick_no {n : Nat} {ls : List Ru} {k : Nat} (h : k < ls.length) (hn : k < n) (ho : ruOk (fewR (ls.getD k ruD)) = false) : pickR n ls (k + 1) = pickR n ls k := by rw [pick_step h hn, if_neg (by rw [ho]; simp), List.append_nil]
theorem run_max_zero (P : Program) (i : Nat) : ∀ (ts : Array TypeId) (t : TypeId) (W : World), (Builtin.max_ ts t #[.int .i64 (i : Int), .int .i64 0]).run P W = .ok (.int .i64 (i : Int)) W := by
  intro ts t W
  simp only [Builtin.max_, List.foldlM, Builtin.max2, Sem.run_bind, Sem.run_pure, Result.andThen]
  split
  · rename_i h; simp at h ⊢; try omega
  · rename_i h; simp at h ⊢; try omega
theorem rowU_shape {w : World} {v : Value} {rs : List Ru} (hr : RowU w v rs) : ∃ ao cap, v = .slice ao rs.length cap ∧ rs.length ≤ cap ∧ cap ≤ maxLen ∧ (rs = [] ∨ ∃ g o, ao = some ⟨g, o, none⟩ ∧ ∀ j, j < rs.length → w.cell? ⟨g, o + 6 * j, none⟩ = some (.bool (rs.getD j ruD).al) ∧ w.cell? ⟨g, o + 6 * j + 1, none⟩ = some (Str (rs.getD j ruD).ro) ∧ w.cell? ⟨g, o + 6 * j + 2, none⟩ = some (Str (rs.getD j ruD).te) ∧ w.cell? ⟨g, o + 6 * j + 3, none⟩ = some (Str (rs.getD j ruD).ho) ∧
      w.cell? ⟨g, o + 6 * j + 4, none⟩ = some (.int .i64 (rs.getD j ruD).fr) ∧ w.cell? ⟨g, o + 6 * j + 5, none⟩ = some (.int .i64 (rs.getD j ruD).to)) := by
  by_cases hne : rs = []
  · obtain ⟨ao, cap, hv, _, h1, h2, _⟩ := hr
    exact ⟨ao, cap, hv, h1, h2, .inl hne⟩
  · obtain ⟨g, o, cap, hv, h1, h2, hcl⟩ := rowU_cells hr hne
    exact ⟨_, cap, hv, h1, h2, .inr ⟨g, o, rfl, hcl⟩⟩

theorem infoRuleR : (Tryd.prog.info? 26).map (fun i => (i.zero, i.size, i.bytes)) = some (some (.agg #[.bool false, .string ⟨#[]⟩, .string ⟨#[]⟩, .string ⟨#[]⟩, .int .i64 0, .int .i64 0]), 6, 72) := by kernel_rfl
set_option maxHeartbeats 4000000 in
theorem says_any (v0 : Value) (ls : List Ru) (hI : ∀ r ∈ ls, I64 r.fr ∧ I64 r.to) (a1 a2 a3 : List UInt8) (p : Int) (w : World) (hL : Lb w) (hr : RowU w v0 ls) :
    Calls Tryd.prog 5 #[v0, Str a1, Str a2, Str a3, .int .i64 p] w fun e w' => e = .returned (.bool true) ∧ Ext w w' := by
  have HL := Lib.hid hL
  have HA := Lib.hid (fun W hW => awake_law W hW)
  have HF := Lib.hid (fun (r : Ru) W => few_any r W)
  have HRT := Lib.hid (fun (r : Ru) (hb : RuB r) W => rightR_any r hb W)
  have HIX := Lib.hid index_ruleR
  obtain ⟨ao, cap, hv, hcap, hmax, hcl⟩ := rowU_shape hr
  unfold maxLen at hmax
  have HCL := Lib.hid hcl
  have HI := Lib.hid hI
  clear hL hr hcl hI
  subst hv
  go_enter Tryd.func5, Tryd.ntmps5
  go_wp2_with fail
  refine (HA.out w HL.out).mono ?_
  rintro e W1 ⟨he, hx1⟩
  subst he
  have HX1 := Lib.hid hx1
  clear hx1 HA
  go_wp2
  go_loopw [11, 12, 27] (fun v1 v2 i wr => ∃ k : Nat, k ≤ ls.length ∧ i = .int .i64 k ∧ wr.ownsRow w.heap.size 28 6 v1 (pickR 20 ls k).length ((pickR 20 ls k).flatMap ruC) ∧
    wr.ownsRow w.heap.size 26 6 v2 (pickR 20 ls k).length ((pickR 20 ls k).flatMap ruC) ∧ Ext w wr) (fun _ _ i _ => ls.length - (intOf i).toNat)
  case atStart => exact ⟨0, by omega, rfl, World.ownsRow_nil _ _ _ _, World.ownsRow_nil _ _ _ _, HX1.out⟩
  case round =>
    obtain ⟨k, hk, rfl, hm, hwn, hxr⟩ := hrel
    have HM := Lib.hid hm; have HWN := Lib.hid hwn; have HXR := Lib.hid hxr
    clear hm hwn hxr
    by_cases hlt : k < ls.length
    · obtain ⟨g, o, hao, hcl⟩ : ∃ g o, ao = some ⟨g, o, none⟩ ∧ ∀ j, j < ls.length → w.cell? ⟨g, o + 6 * j, none⟩ = some (.bool (ls.getD j ruD).al) ∧ w.cell? ⟨g, o + 6 * j + 1, none⟩ = some (Str (ls.getD j ruD).ro) ∧ w.cell? ⟨g, o + 6 * j + 2, none⟩ = some (Str (ls.getD j ruD).te) ∧ w.cell? ⟨g, o + 6 * j + 3, none⟩ = some (Str (ls.getD j ruD).ho) ∧
          w.cell? ⟨g, o + 6 * j + 4, none⟩ = some (.int .i64 (ls.getD j ruD).fr) ∧ w.cell? ⟨g, o + 6 * j + 5, none⟩ = some (.int .i64 (ls.getD j ruD).to) := by
        rcases HCL.out with h | h
        · subst h; simp at hlt
        · exact h
      subst hao
      have hix1 := HIX.out g o ls.length cap k hlt
      have HIK := Lib.hid (HI.out (ls.getD k ruD) (by simp [List.getD, hlt]))
      have HPY := Lib.hid (pick_yes (n := 20) hlt)
      have HPN := Lib.hid (pick_no (n := 20) hlt)
      obtain ⟨b0, b1, b2, b3, b4, b5⟩ := hcl k hlt
      have k0 := ext_cell HXR.out b0; have k1 := ext_cell HXR.out b1; have k2 := ext_cell HXR.out b2; have k3 := ext_cell HXR.out b3; have k4 := ext_cell HXR.out b4; have k5 := ext_cell HXR.out b5
      clear b0 b1 b2 b3 b4 b5 hcl
      have HPO := Lib.hid (pick_out (n := 20) (ls := ls) (k := k))
      have hpl := pick_len 20 ls k
      generalize pickR 20 ls k = pk at *
      generalize ls.getD k ruD = r at *
      generalize o + 6 * k = q at *
      have HF1 := Lib.hid (HF.out r)
      have hb1 := few_b r HIK.out.1 HIK.out.2
      obtain ⟨r1, hr1⟩ : ∃ r1, fewR r = r1 := ⟨_, rfl⟩
      rw [hr1] at HF1 HPY HPN hb1
      have HRT1 := Lib.hid (HRT.out r1 hb1)
      clear hr1 HF HRT hb1 HIK
      obtain ⟨al, ro, te, ho, fr, to⟩ := r
      obtain ⟨bl, so, ue, io, gr, uo⟩ := r1
      simp only at k0 k1 k2 k3 k4 k5
      go_wp2_with fail
      obtain ⟨W1, hW1⟩ : ∃ W1, wr.alloc (.cells #[.bool al, Str ro, Str te, Str ho, .int .i64 fr, .int .i64 to] 26) = W1 := ⟨_, rfl⟩
      have hx : Ext wr W1 := by rw [← hW1]; exact Below.alloc (Below.refl _ _) (Nat.le_refl _) _
      have hc : W1.heap[wr.heap.size]? = some (.cells #[.bool al, Str ro, Str te, Str ho, .int .i64 fr, .int .i64 to] 26 (0, 0)) := by rw [← hW1]; exact Array.getElem?_push_size
      try rw [hW1]
      clear hW1 k0 k1 k2 k3 k4 k5 hix1
      refine (HF1.out _).mono ?_
      rintro e W2 ⟨he, hx2⟩
      subst he
      have hc2 := ext_at hx2 hc
      obtain ⟨c0, c1, c2, c3, c4, c5⟩ := cells6 hc2
      have hf2 := frozen_row hc2
      have h6 := set6 hc2 (.bool bl) (Str so) (Str ue) (Str io) (.int .i64 gr) (.int .i64 uo)
      have hb6 := below_set6 (b := wr.heap.size) (ext_trans hx hx2) (Nat.le_refl _) (.bool bl) (Str so) (Str ue) (Str io) (.int .i64 gr) (.int .i64 uo)
      have hsz := hx2.size
      by_cases h20 : k < 20
      · have t20 : decide ((k : Int) < 20) = true := by simp; omega
        go_wp2_with fail
        simp only [Str] at h6 hb6
        generalize ((((((W2.setCell _ _).setCell _ _).setCell _ _).setCell _ _).setCell _ _).setCell _ _) = W5 at *
        have H6 := Lib.hid h6; have HB6 := Lib.hid hb6
        clear h6 hb6 hc2 hc hx hx2 c0 c1 c2 c3 c4 c5 hf2
        refine (HRT1.out W5).mono ?_
        rintro e W6 ⟨he, hx6⟩
        subst he
        have H7 := Lib.hid (ext_at hx6 H6.out)
        have HX7 := Lib.hid (ext_trans HB6.out hx6)
        clear hx6 H6 HB6
        cases hok : ruOk ⟨bl, so, ue, io, gr, uo⟩ with
        | false =>
          rw [hok] at HPN
          have HP := Lib.hid (HPN.out h20 rfl)
          clear HPN HPY hok
          go_wp2
          go_roundw
          case rel => exact ⟨k + 1, by omega, by go_num, by rw [HP.out]; exact ownz_ext HM.out HX7.out, by rw [HP.out]; exact ownz_ext HWN.out HX7.out, ext_trans HXR.out HX7.out⟩
          case measure => simp [intOf] <;> omega
        | true =>
          rw [hok] at HPY
          have HP := Lib.hid (HPY.out h20 rfl)
          clear HPN HPY hok
          go_wp2_with fail
          have hl12 : ∀ k, u12.ownBlock = some k → wr.heap.size ≠ k := fun k hk => by have := (HWN.out.lt k hk).2; omega
          have hm6 := ownz_ext HM.out HX7.out
          have hw6 := ownz_ext HWN.out HX7.out
          have hx6 := ext_trans HXR.out HX7.out
          have hb6 := H7.out
          have HL12 := Lib.hid hl12; have HM6 := Lib.hid hm6; have HW6 := Lib.hid hw6; have HX6 := Lib.hid hx6; have HB6 := Lib.hid hb6
          clear hl12 hm6 hw6 hx6 hb6 H7 HX7
          -- two rows {'s0':40,'t':'14','m':11,'w':12,'B':'w.heap.size','w0':'w','blk':'wr.heap.size','vm':'u11','vw':'u12','n':'pk.length','xs':'(pk.flatMap ruC)','us':'(ruC ⟨bl, so, ue, io, gr, uo⟩)','eM':'28','eW':'26','tM':'35','tW':'34','infoM':'infoRule','infoW':'infoRuleR','RV':'(ruV ⟨bl, so, ue, io, gr, uo⟩)','z':'6','hm':'HM6.out','hw':'HW6.out','hE':'(Below.drew HX6.out)','hF':'HB6.out','hne':'HL12.out'}
          refine wp_region_any (by kernel_rfl) ?_
          change wpAny _ _ _ _ _ _ _ (World.drew _)
          refine wpAny_inv (n := 10) [40, 41, 42, 43, 44, 45, 46, 47, 11, 12] (fun u L w' =>
              (L 0 = true → u 40 = u11) ∧
              (L 1 = true → u 41 = (ruV ⟨bl, so, ue, io, gr, uo⟩)) ∧
              (L 2 = true → L 3 = false → ∃ g', u 42 = .slice (some ⟨g', 0, none⟩) 1 1 ∧ w'.heap[g']? = some (.cells ((ruC ⟨bl, so, ue, io, gr, uo⟩)).toArray 28 (0, 0))) ∧
              (L 3 = true → w'.ownsRow w.heap.size 28 6 (u 43) (pk.length + 1) ((pk.flatMap ruC) ++ (ruC ⟨bl, so, ue, io, gr, uo⟩))) ∧
              (L 4 = true → u 44 = u12) ∧
              (L 5 = true → u 45 = (ruV ⟨bl, so, ue, io, gr, uo⟩)) ∧
              (L 6 = true → L 7 = false → ∃ g', u 46 = .slice (some ⟨g', 0, none⟩) 1 1 ∧ w'.heap[g']? = some (.cells ((ruC ⟨bl, so, ue, io, gr, uo⟩)).toArray 26 (0, 0))) ∧
              (L 7 = true → w'.ownsRow w.heap.size 26 6 (u 47) (pk.length + 1) ((pk.flatMap ruC) ++ (ruC ⟨bl, so, ue, io, gr, uo⟩))) ∧
              (L 8 = false → u 11 = u11) ∧
              (L 8 = true → u 11 = u 43) ∧
              (L 9 = false → u 12 = u12) ∧
              (L 9 = true → u 12 = u 47) ∧
              (L 3 = false → w'.ownsRow w.heap.size 28 6 u11 pk.length (pk.flatMap ruC)) ∧
              (L 7 = false → w'.ownsRow w.heap.size 26 6 u12 pk.length (pk.flatMap ruC)) ∧
              (Below w.heap.size w w') ∧
              (w'.heap[wr.heap.size]? = some (.cells ((ruC ⟨bl, so, ue, io, gr, uo⟩)).toArray 26 (0, 0))))
            rfl (by kernel_rfl) (by kernel_rfl) rfl ?_ ?_ ?_
          · exact ⟨(fun h => by cases h), (fun h => by cases h), (fun h => by cases h), (fun h => by cases h), (fun h => by cases h), (fun h => by cases h), (fun h => by cases h), (fun h => by cases h), fun _ => rfl, (fun h => by cases h), fun _ => rfl, (fun h => by cases h), fun _ => HM6.out, fun _ => HW6.out, (Below.drew HX6.out), HB6.out⟩
          · refine ⟨⟨⟨⟨⟨⟨⟨⟨⟨⟨trivial, ?_⟩, ?_⟩, ?_⟩, ?_⟩, ?_⟩, ?_⟩, ?_⟩, ?_⟩, ?_⟩, ?_⟩
            · refine stepOk_some (i := 0) rfl rfl ?_
              rintro u L T w' hT hu hL hp hcl ⟨C0, C1, C2, C3, C4, C5, C6, C7, C8, D8, C9, D9, D3, D7, E, F⟩ K hK
              have e1 := C8 (hcl.not 8 (by kernel_rfl) hL)
              go_simp
              refine hK _ _ ?_
              exact ⟨fun _ => rfl, fun h => C1 (by simpa using h), fun h h2 => C2 (by simpa using h) (by simpa using h2), fun h => C3 (by simpa using h), fun h => C4 (by simpa using h), fun h => C5 (by simpa using h), fun h h2 => C6 (by simpa using h) (by simpa using h2), fun h => C7 (by simpa using h), fun h => C8 (by simpa using h), fun h => D8 (by simpa using h), fun h => C9 (by simpa using h), fun h => D9 (by simpa using h), fun h => D3 (by simpa using h), fun h => D7 (by simpa using h), E, F⟩
            · refine stepOk_some (i := 1) rfl rfl ?_
              rintro u L T w' hT hu hL hp hcl ⟨C0, C1, C2, C3, C4, C5, C6, C7, C8, D8, C9, D9, D3, D7, E, F⟩ K hK
              have e1 : u 14 = .pointer (some ⟨wr.heap.size, 0, none⟩) := hu 14 (by decide)
              obtain ⟨c0, c1, c2, c3, c4, c5⟩ := cells6 F
              go_simp
              refine hK _ _ ?_
              exact ⟨fun h => C0 (by simpa using h), fun _ => rfl, fun h h2 => C2 (by simpa using h) (by simpa using h2), fun h => C3 (by simpa using h), fun h => C4 (by simpa using h), fun h => C5 (by simpa using h), fun h h2 => C6 (by simpa using h) (by simpa using h2), fun h => C7 (by simpa using h), fun h => C8 (by simpa using h), fun h => D8 (by simpa using h), fun h => C9 (by simpa using h), fun h => D9 (by simpa using h), fun h => D3 (by simpa using h), fun h => D7 (by simpa using h), E, F⟩
            · refine stepOk_some (i := 2) rfl rfl ?_
              rintro u L T w' hT hu hL hp hcl ⟨C0, C1, C2, C3, C4, C5, C6, C7, C8, D8, C9, D9, D3, D7, E, F⟩ K hK
              have e1 := C1 (hp.of 1 (by kernel_rfl))
              go_simp
              have hxa : Ext w' (w'.alloc (.cells ((ruC ⟨bl, so, ue, io, gr, uo⟩)).toArray 28)) := Below.alloc (Below.refl _ _) (Nat.le_refl _) _
              refine hK _ _ ?_
              exact ⟨fun h => C0 (by simpa using h), fun h => C1 (by simpa using h), fun _ _ => ⟨_, rfl, Array.getElem?_push_size⟩, fun h => ownz_ext (C3 (by simpa using h)) hxa, fun h => C4 (by simpa using h), fun h => C5 (by simpa using h), fun h h2 => by obtain ⟨g', q1, q2⟩ := C6 (by simpa using h) (by simpa using h2); exact ⟨g', q1, ext_at hxa q2⟩, fun h => ownz_ext (C7 (by simpa using h)) hxa, fun h => C8 (by simpa using h), fun h => D8 (by simpa using h), fun h => C9 (by simpa using h), fun h => D9 (by simpa using h), fun h => ownz_ext (D3 (by simpa using h)) hxa, fun h => ownz_ext (D7 (by simpa using h)) hxa, (E).trans (hxa.mono (E.size)), ext_at hxa F⟩
            · refine stepOk_some (i := 3) rfl rfl ?_
              rintro u L T w' hT hu hL hp hcl ⟨C0, C1, C2, C3, C4, C5, C6, C7, C8, D8, C9, D9, D3, D7, E, F⟩ K hK
              have e0 := C0 (hp.of 0 (by kernel_rfl))
              obtain ⟨g', e2, hg'⟩ := C2 (hp.of 2 (by kernel_rfl)) hL
              have hown := D3 hL
              refine step_pushC (w.heap.size) rfl _ _ 35 28 (by rfl) Tryd.underlying35 infoRule rfl (by omega) (by omega) (us := (ruC ⟨bl, so, ue, io, gr, uo⟩)) hown rfl (by simp [Str, Value.oneCell']) (by omega) E.size (by exact (hT _).trans e0) (by exact (hT _).trans e2) hg' ?_
              rintro v' w1 hown1 hgr1
              have hx1 := ext_pushz E hown hgr1
              refine hK _ _ ?_
              exact ⟨fun h => C0 (by simpa using h), fun h => C1 (by simpa using h), fun h h2 => absurd h2 (by simp), fun _ => hown1, fun h => C4 (by simpa using h), fun h => C5 (by simpa using h), fun h h2 => by obtain ⟨g', q1, q2⟩ := C6 (by simpa using h) (by simpa using h2); exact ⟨g', q1, keep_row hown hgr1 q2 (by decide)⟩, fun h => own_keep_row hown hgr1 (C7 (by simpa using h)) (by decide), fun h => C8 (by simpa using h), fun h => absurd h (by simp [hcl.not 8 (by kernel_rfl) hL]), fun h => C9 (by simpa using h), fun h => D9 (by simpa using h), fun h => absurd h (by simp), fun h => own_keep_row hown hgr1 (D7 (by simpa using h)) (by decide), hx1, keep_row hown hgr1 F (by decide)⟩
            · refine stepOk_some (i := 4) rfl rfl ?_
              rintro u L T w' hT hu hL hp hcl ⟨C0, C1, C2, C3, C4, C5, C6, C7, C8, D8, C9, D9, D3, D7, E, F⟩ K hK
              have e1 := C9 (hcl.not 9 (by kernel_rfl) hL)
              go_simp
              refine hK _ _ ?_
              exact ⟨fun h => C0 (by simpa using h), fun h => C1 (by simpa using h), fun h h2 => C2 (by simpa using h) (by simpa using h2), fun h => C3 (by simpa using h), fun _ => rfl, fun h => C5 (by simpa using h), fun h h2 => C6 (by simpa using h) (by simpa using h2), fun h => C7 (by simpa using h), fun h => C8 (by simpa using h), fun h => D8 (by simpa using h), fun h => C9 (by simpa using h), fun h => D9 (by simpa using h), fun h => D3 (by simpa using h), fun h => D7 (by simpa using h), E, F⟩
            · refine stepOk_some (i := 5) rfl rfl ?_
              rintro u L T w' hT hu hL hp hcl ⟨C0, C1, C2, C3, C4, C5, C6, C7, C8, D8, C9, D9, D3, D7, E, F⟩ K hK
              have e1 : u 14 = .pointer (some ⟨wr.heap.size, 0, none⟩) := hu 14 (by decide)
              obtain ⟨c0, c1, c2, c3, c4, c5⟩ := cells6 F
              go_simp
              refine hK _ _ ?_
              exact ⟨fun h => C0 (by simpa using h), fun h => C1 (by simpa using h), fun h h2 => C2 (by simpa using h) (by simpa using h2), fun h => C3 (by simpa using h), fun h => C4 (by simpa using h), fun _ => rfl, fun h h2 => C6 (by simpa using h) (by simpa using h2), fun h => C7 (by simpa using h), fun h => C8 (by simpa using h), fun h => D8 (by simpa using h), fun h => C9 (by simpa using h), fun h => D9 (by simpa using h), fun h => D3 (by simpa using h), fun h => D7 (by simpa using h), E, F⟩
            · refine stepOk_some (i := 6) rfl rfl ?_
              rintro u L T w' hT hu hL hp hcl ⟨C0, C1, C2, C3, C4, C5, C6, C7, C8, D8, C9, D9, D3, D7, E, F⟩ K hK
              have e1 := C5 (hp.of 5 (by kernel_rfl))
              go_simp
              have hxa : Ext w' (w'.alloc (.cells ((ruC ⟨bl, so, ue, io, gr, uo⟩)).toArray 26)) := Below.alloc (Below.refl _ _) (Nat.le_refl _) _
              refine hK _ _ ?_
              exact ⟨fun h => C0 (by simpa using h), fun h => C1 (by simpa using h), fun h h2 => by obtain ⟨g', q1, q2⟩ := C2 (by simpa using h) (by simpa using h2); exact ⟨g', q1, ext_at hxa q2⟩, fun h => ownz_ext (C3 (by simpa using h)) hxa, fun h => C4 (by simpa using h), fun h => C5 (by simpa using h), fun _ _ => ⟨_, rfl, Array.getElem?_push_size⟩, fun h => ownz_ext (C7 (by simpa using h)) hxa, fun h => C8 (by simpa using h), fun h => D8 (by simpa using h), fun h => C9 (by simpa using h), fun h => D9 (by simpa using h), fun h => ownz_ext (D3 (by simpa using h)) hxa, fun h => ownz_ext (D7 (by simpa using h)) hxa, (E).trans (hxa.mono (E.size)), ext_at hxa F⟩
            · refine stepOk_some (i := 7) rfl rfl ?_
              rintro u L T w' hT hu hL hp hcl ⟨C0, C1, C2, C3, C4, C5, C6, C7, C8, D8, C9, D9, D3, D7, E, F⟩ K hK
              have e0 := C4 (hp.of 4 (by kernel_rfl))
              obtain ⟨g', e2, hg'⟩ := C6 (hp.of 6 (by kernel_rfl)) hL
              have hown := D7 hL
              refine step_pushC (w.heap.size) rfl _ _ 34 26 (by rfl) Tryd.underlying34 infoRuleR rfl (by omega) (by omega) (us := (ruC ⟨bl, so, ue, io, gr, uo⟩)) hown rfl (by simp [Str, Value.oneCell']) (by omega) E.size (by exact (hT _).trans e0) (by exact (hT _).trans e2) hg' ?_
              rintro v' w1 hown1 hgr1
              have hx1 := ext_pushz E hown hgr1
              refine hK _ _ ?_
              exact ⟨fun h => C0 (by simpa using h), fun h => C1 (by simpa using h), fun h h2 => by obtain ⟨g', q1, q2⟩ := C2 (by simpa using h) (by simpa using h2); exact ⟨g', q1, keep_row hown hgr1 q2 (by decide)⟩, fun h => own_keep_row hown hgr1 (C3 (by simpa using h)) (by decide), fun h => C4 (by simpa using h), fun h => C5 (by simpa using h), fun h h2 => absurd h2 (by simp), fun _ => hown1, fun h => C8 (by simpa using h), fun h => D8 (by simpa using h), fun h => C9 (by simpa using h), fun h => absurd h (by simp [hcl.not 9 (by kernel_rfl) hL]), fun h => own_keep_row hown hgr1 (D3 (by simpa using h)) (by decide), fun h => absurd h (by simp), hx1, (hgr1.block _ (Array.getElem?_eq_some_iff.1 F).1 (fun h => HL12.out _ h.symm rfl)).trans F⟩
            · refine stepOk_some (i := 8) rfl rfl ?_
              rintro u L T w' hT hu hL hp hcl ⟨C0, C1, C2, C3, C4, C5, C6, C7, C8, D8, C9, D9, D3, D7, E, F⟩ K hK
              go_simp
              refine hK _ _ ?_
              exact ⟨fun h => C0 (by simpa using h), fun h => C1 (by simpa using h), fun h h2 => C2 (by simpa using h) (by simpa using h2), fun h => C3 (by simpa using h), fun h => C4 (by simpa using h), fun h => C5 (by simpa using h), fun h h2 => C6 (by simpa using h) (by simpa using h2), fun h => C7 (by simpa using h), fun h => absurd h (by simp), fun _ => rfl, fun h => C9 (by simpa using h), fun h => D9 (by simpa using h), fun h => D3 (by simpa using h), fun h => D7 (by simpa using h), E, F⟩
            · refine stepOk_some (i := 9) rfl rfl ?_
              rintro u L T w' hT hu hL hp hcl ⟨C0, C1, C2, C3, C4, C5, C6, C7, C8, D8, C9, D9, D3, D7, E, F⟩ K hK
              go_simp
              refine hK _ _ ?_
              exact ⟨fun h => C0 (by simpa using h), fun h => C1 (by simpa using h), fun h h2 => C2 (by simpa using h) (by simpa using h2), fun h => C3 (by simpa using h), fun h => C4 (by simpa using h), fun h => C5 (by simpa using h), fun h h2 => C6 (by simpa using h) (by simpa using h2), fun h => C7 (by simpa using h), fun h => C8 (by simpa using h), fun h => D8 (by simpa using h), fun h => absurd h (by simp), fun _ => rfl, fun h => D3 (by simpa using h), fun h => D7 (by simpa using h), E, F⟩
          · rintro u L w' hall hu ⟨C0, C1, C2, C3, C4, C5, C6, C7, C8, D8, C9, D9, D3, D7, E, F⟩
            have e8 := D8 (hall 8 (by omega)); have e9 := D9 (hall 9 (by omega)); have h3 := C3 (hall 3 (by omega)); have h7 := C7 (hall 7 (by omega))
            rw [← e8] at h3; rw [← e9] at h7
            simp only [fill, List.setIfInBounds_toArray, List.set_cons_succ, List.set_cons_zero]
            generalize u 40 = n0 at *
            generalize u 41 = n1 at *
            generalize u 42 = n2 at *
            generalize u 43 = n3 at *
            generalize u 44 = n4 at *
            generalize u 45 = n5 at *
            generalize u 46 = n6 at *
            generalize u 47 = n7 at *
            generalize u 11 = n8 at *
            generalize u 12 = n9 at *
            have H3 := Lib.hid h3; have H7 := Lib.hid h7; have HEE := Lib.hid E
            clear C0 C1 C2 C3 C4 C5 C6 C7 C8 D8 C9 D9 D3 D7 E F h3 h7 hall hu e8 e9
          -- end of two rows
            go_wp2
            go_roundw
            case rel => exact ⟨k + 1, by omega, by go_num, by rw [HP.out, List.length_append, List.flatMap_append]; simpa using H3.out, by rw [HP.out, List.length_append, List.flatMap_append]; simpa using H7.out, HEE.out⟩
            case measure => simp [intOf] <;> omega
      · have t20 : decide ((k : Int) < 20) = false := by simp; omega
        have HP := Lib.hid (HPO.out (by omega))
        have H6 := Lib.hid h6; have HB6 := Lib.hid hb6
        clear h6 hb6 hc2 hc hx hx2 HPY HPN
        go_wp2
        have h6 := H6.out; have hb6 := HB6.out
        simp only [Str] at h6 hb6
        generalize ((((((W2.setCell _ _).setCell _ _).setCell _ _).setCell _ _).setCell _ _).setCell _ _) = W5 at *
        clear c0 c1 c2 c3 c4 c5 hf2
        go_roundw
        case rel => exact ⟨k + 1, by omega, by go_num, by rw [HP.out]; exact ownz_ext HM.out hb6, by rw [HP.out]; exact ownz_ext HWN.out hb6, ext_trans HXR.out hb6⟩
        case measure => simp [intOf] <;> omega
    · have : k = ls.length := by omega
      subst this
      have hpl := pick_len 20 ls ls.length
      have hpb := pick_b (n := 20) (k := ls.length) HI.out
      have hpo := pick_ok (n := 20) (ls := ls) (k := ls.length)
      generalize pickR 20 ls ls.length = pk at *
      have HN := Lib.hid (fun v W hr => new_any v pk (by omega) hpb W hr)
      have HC1 := Lib.hid (fun W => cutText_any a1 40 W (by omega))
      have HC2 := Lib.hid (fun W => cutText_any a2 40 W (by omega))
      have HC3 := Lib.hid (fun W => cutText_any a3 40 W (by omega))
      have hh : (a3.take 40).length ≤ 10000 := by simp; omega
      generalize a1.take 40 = ro at *
      generalize a2.take 40 = te at *
      generalize a3.take 40 = ho at *
      have HB := Lib.hid hpb; have HO := Lib.hid hpo
      clear hpb hpo HCL HI hlt HF HRT HIX
      go_wp2_with fail
      refine (HC1.out _).mono ?_
      rintro e W2 ⟨he, hw⟩
      subst he; subst W2
      go_wp2_with fail
      refine (HC2.out _).mono ?_
      rintro e W2 ⟨he, hw⟩
      subst he; subst W2
      go_wp2_with fail
      refine (HC3.out _).mono ?_
      rintro e W2 ⟨he, hw⟩
      subst he; subst W2
      go_wp2_with fail
      refine (HN.out _ _ (rowC_of_own ruC_len HM.out)).mono ?_
      rintro e W2 ⟨hnr, hx2⟩
      rcases hnr with ⟨h, _⟩ | ⟨_, h, _⟩ | ⟨_, _, b, he, hpol⟩
      · rw [HO.out] at h; cases h
      · omega
      subst he
      have hp : PolV W2 (some ⟨b, 0, none⟩) pk := .inr ⟨b, rfl, hpol.at⟩
      have HP := Lib.hid hp; have HW2 := Lib.hid (ownz_ext HWN.out hx2); have HX2 := Lib.hid (ext_trans HXR.out hx2)
      clear hp hpol hx2 HM HWN HXR HN HC1 HC2 HC3
      have HWH := Lib.hid (which_any (some ⟨b, 0, none⟩) pk (by omega) HB.out ro te ho hh p W2 (HL.out.ext HX2.out) HP.out)
      go_wp2_with fail
      refine HWH.out.mono ?_
      rintro e W3 ⟨he, hx3⟩
      subst he
      have HP3 := Lib.hid (HP.out.ext hx3); have HW3 := Lib.hid (ownz_ext HW2.out hx3); have HX3 := Lib.hid (ext_trans HX2.out hx3)
      clear hx3 HP HW2 HX2 HWH
      have HWR := Lib.hid (whichR_any u12 pk (by omega) HB.out ro te ho hh p W3 (rowC_of_own ruC_len HW3.out))
      go_wp2_with fail
      refine HWR.out.mono ?_
      rintro e W4 ⟨he, hx4⟩
      subst he
      have HP4 := Lib.hid (HP3.out.ext hx4); have HW4 := Lib.hid (ownz_ext HW3.out hx4); have HX4 := Lib.hid (ext_trans HX3.out hx4)
      clear hx4 HP3 HW3 HX3 HWR
      obtain ⟨ao2, cap2, hv2, hcap2, hmax2, hcl2⟩ := rowU_shape (rowC_of_own ruC_len HW4.out)
      have HCL2 := Lib.hid hcl2
      clear hcl2
      subst hv2
      have hwsz : w.heap.size ≤ W4.heap.size := HX4.out.size
      have HHA := Lib.hid (fun (r : Ru) (hb : RuB r) W hW => holds_any r hb ro te ho p hh W hW)
      have HHB := Lib.hid (fun (r : Ru) (hb : RuB r) W => holdsR_any r hb ro te ho p hh W)
      have HIX := Lib.hid index_ruleR
      have HMAY := Lib.hid (fun W hW hp => may_any (some ⟨b, 0, none⟩) pk (by omega) HB.out ro te ho hh p W hW hp)
      have HMAY0 := Lib.hid (fun W hW => may_any none [] (by simp) (fun r hr => by simp at hr) ro te ho hh p W hW (.inl ⟨rfl, rfl⟩))
      generalize wr = wo at *
      go_wp2
      go_loopw [79] (fun i wr => ∃ k : Nat, k ≤ pk.length ∧ i = .int .i64 k ∧ Ext W4 wr) (fun i _ => pk.length - (intOf i).toNat)
      case atStart => exact ⟨0, by omega, rfl, ext_refl W4⟩
      case round =>
        obtain ⟨k, hk, rfl, hxr⟩ := hrel
        by_cases hlt : k < pk.length
        · obtain ⟨g, o, hao, hcl⟩ : ∃ g o, ao2 = some ⟨g, o, none⟩ ∧ ∀ j, j < pk.length → W4.cell? ⟨g, o + 6 * j, none⟩ = some (.bool (pk.getD j ruD).al) ∧ W4.cell? ⟨g, o + 6 * j + 1, none⟩ = some (Str (pk.getD j ruD).ro) ∧ W4.cell? ⟨g, o + 6 * j + 2, none⟩ = some (Str (pk.getD j ruD).te) ∧ W4.cell? ⟨g, o + 6 * j + 3, none⟩ = some (Str (pk.getD j ruD).ho) ∧
              W4.cell? ⟨g, o + 6 * j + 4, none⟩ = some (.int .i64 (pk.getD j ruD).fr) ∧ W4.cell? ⟨g, o + 6 * j + 5, none⟩ = some (.int .i64 (pk.getD j ruD).to) := by
            rcases HCL2.out with h | h
            · subst h; simp at hlt
            · exact h
          subst hao
          have hix1 := HIX.out g o pk.length cap2 k hlt
          have HBX := Lib.hid (HB.out (pk.getD k ruD) (by simp [List.getD, hlt]))
          obtain ⟨b0, b1, b2, b3, b4, b5⟩ := hcl k hlt
          have k0 := ext_cell hxr b0; have k1 := ext_cell hxr b1; have k2 := ext_cell hxr b2; have k3 := ext_cell hxr b3; have k4 := ext_cell hxr b4; have k5 := ext_cell hxr b5
          have HXR := Lib.hid hxr
          clear b0 b1 b2 b3 b4 b5 hcl hxr
          generalize pk.getD k ruD = r at *
          generalize o + 6 * k = q at *
          have HHA1 := Lib.hid (HHA.out r HBX.out)
          have HHB1 := Lib.hid (HHB.out r HBX.out)
          obtain ⟨al, xo, xe, xh, fr, to⟩ := r
          simp only at k0 k1 k2 k3 k4 k5
          generalize holdB ⟨al, xo, xe, xh, fr, to⟩ ro te ho p = hd at *
          clear HBX
          go_wp2_with fail
          obtain ⟨W5, hW5⟩ : ∃ W5, wr.alloc (.cells #[.bool al, Str xo, Str xe, Str xh, .int .i64 fr, .int .i64 to] 26) = W5 := ⟨_, rfl⟩
          have hx : Ext wr W5 := by rw [← hW5]; exact Below.alloc (Below.refl _ _) (Nat.le_refl _) _
          have hc : W5.heap[wr.heap.size]? = some (.cells #[.bool al, Str xo, Str xe, Str xh, .int .i64 fr, .int .i64 to] 26 (0, 0)) := by rw [← hW5]; exact Array.getElem?_push_size
          rw [hW5]
          clear hW5 k0 k1 k2 k3 k4 k5 hix1
          have hx5 : Ext W4 W5.drew := Below.drew (ext_trans HXR.out hx)
          have hL5 : Lb W5.drew := HL.out.ext (ext_trans HX4.out hx5)
          have HX5 := Lib.hid hx5; have HL5 := Lib.hid hL5; have HC5 := Lib.hid hc
          clear hx5 hL5 hc hx HXR
          cases hd
          · skip
            -- inv {'ops':[('ld',83,21,'.pointer (some ⟨wr.heap.size, 0, none⟩)','ruV ⟨al, xo, xe, xh, fr, to⟩','obtain ⟨c0, c1, c2, c3, c4, c5⟩ := cells6 H1'),('mv',84,1,'Str ro'),('mv',85,2,'Str te'),('mv',86,3,'Str ho'),('mv',87,4,'.int .i64 p'),('call',88,[0,1,2,3,4],'HHA1.out _ L1','.bool false'),('ld',89,21,'.pointer (some ⟨wr.heap.size, 0, none⟩)','ruV ⟨al, xo, xe, xh, fr, to⟩','obtain ⟨c0, c1, c2, c3, c4, c5⟩ := cells6 H1'),('mv',90,1,'Str ro'),('mv',91,2,'Str te'),('mv',92,3,'Str ho'),('mv',93,4,'.int .i64 p'),('call',94,[6,7,8,9,10],'HHB1.out _','.bool false'),('op',95,[5,11],'.bool false')], 'W':[('H1',"w'.heap[wr.heap.size]? = some (.cells #[.bool al, Str xo, Str xe, Str xh, .int .i64 fr, .int .i64 to] 26 (0, 0))",'HC5.out'),('E1',"Ext W4 w'",'HX5.out'),('L1',"Lb w'",'HL5.out')]}
            refine wp_region_any (by kernel_rfl) ?_
            change wpAny _ _ _ _ _ _ _ (World.drew _)
            refine wpAny_inv (n := 13) [83, 84, 85, 86, 87, 88, 89, 90, 91, 92, 93, 94, 95] (fun u L w' =>
                (L 0 = true → u 83 = ruV ⟨al, xo, xe, xh, fr, to⟩) ∧
                (L 1 = true → u 84 = Str ro) ∧
                (L 2 = true → u 85 = Str te) ∧
                (L 3 = true → u 86 = Str ho) ∧
                (L 4 = true → u 87 = .int .i64 p) ∧
                (L 5 = true → u 88 = .bool false) ∧
                (L 6 = true → u 89 = ruV ⟨al, xo, xe, xh, fr, to⟩) ∧
                (L 7 = true → u 90 = Str ro) ∧
                (L 8 = true → u 91 = Str te) ∧
                (L 9 = true → u 92 = Str ho) ∧
                (L 10 = true → u 93 = .int .i64 p) ∧
                (L 11 = true → u 94 = .bool false) ∧
                (L 12 = true → u 95 = .bool false) ∧
                (w'.heap[wr.heap.size]? = some (.cells #[.bool al, Str xo, Str xe, Str xh, .int .i64 fr, .int .i64 to] 26 (0, 0))) ∧
                (Ext W4 w') ∧
                (Lb w'))
              (by rfl) (by kernel_rfl) (by kernel_rfl) (by rfl) ?_ ?_ ?_
            · exact ⟨(fun h => by cases h), (fun h => by cases h), (fun h => by cases h), (fun h => by cases h), (fun h => by cases h), (fun h => by cases h), (fun h => by cases h), (fun h => by cases h), (fun h => by cases h), (fun h => by cases h), (fun h => by cases h), (fun h => by cases h), (fun h => by cases h), HC5.out, HX5.out, HL5.out⟩
            · refine ⟨⟨⟨⟨⟨⟨⟨⟨⟨⟨⟨⟨⟨trivial, ?_⟩, ?_⟩, ?_⟩, ?_⟩, ?_⟩, ?_⟩, ?_⟩, ?_⟩, ?_⟩, ?_⟩, ?_⟩, ?_⟩, ?_⟩
              · refine stepOk_some (i := 0) (by rfl) (by rfl) ?_
                rintro u L T w' hT hu hL hp hcl ⟨C0, C1, C2, C3, C4, C5, C6, C7, C8, C9, C10, C11, C12, H1, E1, L1⟩ K hK
                have e1 : u 21 = .pointer (some ⟨wr.heap.size, 0, none⟩) := hu 21 (by decide)
                obtain ⟨c0, c1, c2, c3, c4, c5⟩ := cells6 H1
                go_simp
                refine hK _ _ ?_
                exact ⟨fun _ => rfl, fun h => C1 (by simpa using h), fun h => C2 (by simpa using h), fun h => C3 (by simpa using h), fun h => C4 (by simpa using h), fun h => C5 (by simpa using h), fun h => C6 (by simpa using h), fun h => C7 (by simpa using h), fun h => C8 (by simpa using h), fun h => C9 (by simpa using h), fun h => C10 (by simpa using h), fun h => C11 (by simpa using h), fun h => C12 (by simpa using h), H1, E1, L1⟩
              · refine stepOk_some (i := 1) (by rfl) (by rfl) ?_
                rintro u L T w' hT hu hL hp hcl ⟨C0, C1, C2, C3, C4, C5, C6, C7, C8, C9, C10, C11, C12, H1, E1, L1⟩ K hK
                have e1 : u 1 = Str ro := hu 1 (by decide)
                go_simp
                refine hK _ _ ?_
                exact ⟨fun h => C0 (by simpa using h), fun _ => rfl, fun h => C2 (by simpa using h), fun h => C3 (by simpa using h), fun h => C4 (by simpa using h), fun h => C5 (by simpa using h), fun h => C6 (by simpa using h), fun h => C7 (by simpa using h), fun h => C8 (by simpa using h), fun h => C9 (by simpa using h), fun h => C10 (by simpa using h), fun h => C11 (by simpa using h), fun h => C12 (by simpa using h), H1, E1, L1⟩
              · refine stepOk_some (i := 2) (by rfl) (by rfl) ?_
                rintro u L T w' hT hu hL hp hcl ⟨C0, C1, C2, C3, C4, C5, C6, C7, C8, C9, C10, C11, C12, H1, E1, L1⟩ K hK
                have e1 : u 2 = Str te := hu 2 (by decide)
                go_simp
                refine hK _ _ ?_
                exact ⟨fun h => C0 (by simpa using h), fun h => C1 (by simpa using h), fun _ => rfl, fun h => C3 (by simpa using h), fun h => C4 (by simpa using h), fun h => C5 (by simpa using h), fun h => C6 (by simpa using h), fun h => C7 (by simpa using h), fun h => C8 (by simpa using h), fun h => C9 (by simpa using h), fun h => C10 (by simpa using h), fun h => C11 (by simpa using h), fun h => C12 (by simpa using h), H1, E1, L1⟩
              · refine stepOk_some (i := 3) (by rfl) (by rfl) ?_
                rintro u L T w' hT hu hL hp hcl ⟨C0, C1, C2, C3, C4, C5, C6, C7, C8, C9, C10, C11, C12, H1, E1, L1⟩ K hK
                have e1 : u 3 = Str ho := hu 3 (by decide)
                go_simp
                refine hK _ _ ?_
                exact ⟨fun h => C0 (by simpa using h), fun h => C1 (by simpa using h), fun h => C2 (by simpa using h), fun _ => rfl, fun h => C4 (by simpa using h), fun h => C5 (by simpa using h), fun h => C6 (by simpa using h), fun h => C7 (by simpa using h), fun h => C8 (by simpa using h), fun h => C9 (by simpa using h), fun h => C10 (by simpa using h), fun h => C11 (by simpa using h), fun h => C12 (by simpa using h), H1, E1, L1⟩
              · refine stepOk_some (i := 4) (by rfl) (by rfl) ?_
                rintro u L T w' hT hu hL hp hcl ⟨C0, C1, C2, C3, C4, C5, C6, C7, C8, C9, C10, C11, C12, H1, E1, L1⟩ K hK
                have e1 : u 4 = .int .i64 p := hu 4 (by decide)
                go_simp
                refine hK _ _ ?_
                exact ⟨fun h => C0 (by simpa using h), fun h => C1 (by simpa using h), fun h => C2 (by simpa using h), fun h => C3 (by simpa using h), fun _ => rfl, fun h => C5 (by simpa using h), fun h => C6 (by simpa using h), fun h => C7 (by simpa using h), fun h => C8 (by simpa using h), fun h => C9 (by simpa using h), fun h => C10 (by simpa using h), fun h => C11 (by simpa using h), fun h => C12 (by simpa using h), H1, E1, L1⟩
              · refine stepOk_some (i := 5) (by rfl) (by rfl) ?_
                rintro u L T w' hT hu hL hp hcl ⟨C0, C1, C2, C3, C4, C5, C6, C7, C8, C9, C10, C11, C12, H1, E1, L1⟩ K hK
                have e0 := C0 (hp.of 0 (by kernel_rfl))
                have e1 := C1 (hp.of 1 (by kernel_rfl))
                have e2 := C2 (hp.of 2 (by kernel_rfl))
                have e3 := C3 (hp.of 3 (by kernel_rfl))
                have e4 := C4 (hp.of 4 (by kernel_rfl))
                go_simp
                refine (HHA1.out _ L1).mono ?_
                rintro e w1 ⟨he, hx1⟩
                subst he
                refine hK _ _ ?_
                exact ⟨fun h => C0 (by simpa using h), fun h => C1 (by simpa using h), fun h => C2 (by simpa using h), fun h => C3 (by simpa using h), fun h => C4 (by simpa using h), fun _ => rfl, fun h => C6 (by simpa using h), fun h => C7 (by simpa using h), fun h => C8 (by simpa using h), fun h => C9 (by simpa using h), fun h => C10 (by simpa using h), fun h => C11 (by simpa using h), fun h => C12 (by simpa using h), ext_at hx1 (H1), ext_trans (E1) hx1, (L1).ext hx1⟩
              · refine stepOk_some (i := 6) (by rfl) (by rfl) ?_
                rintro u L T w' hT hu hL hp hcl ⟨C0, C1, C2, C3, C4, C5, C6, C7, C8, C9, C10, C11, C12, H1, E1, L1⟩ K hK
                have e1 : u 21 = .pointer (some ⟨wr.heap.size, 0, none⟩) := hu 21 (by decide)
                obtain ⟨c0, c1, c2, c3, c4, c5⟩ := cells6 H1
                go_simp
                refine hK _ _ ?_
                exact ⟨fun h => C0 (by simpa using h), fun h => C1 (by simpa using h), fun h => C2 (by simpa using h), fun h => C3 (by simpa using h), fun h => C4 (by simpa using h), fun h => C5 (by simpa using h), fun _ => rfl, fun h => C7 (by simpa using h), fun h => C8 (by simpa using h), fun h => C9 (by simpa using h), fun h => C10 (by simpa using h), fun h => C11 (by simpa using h), fun h => C12 (by simpa using h), H1, E1, L1⟩
              · refine stepOk_some (i := 7) (by rfl) (by rfl) ?_
                rintro u L T w' hT hu hL hp hcl ⟨C0, C1, C2, C3, C4, C5, C6, C7, C8, C9, C10, C11, C12, H1, E1, L1⟩ K hK
                have e1 : u 1 = Str ro := hu 1 (by decide)
                go_simp
                refine hK _ _ ?_
                exact ⟨fun h => C0 (by simpa using h), fun h => C1 (by simpa using h), fun h => C2 (by simpa using h), fun h => C3 (by simpa using h), fun h => C4 (by simpa using h), fun h => C5 (by simpa using h), fun h => C6 (by simpa using h), fun _ => rfl, fun h => C8 (by simpa using h), fun h => C9 (by simpa using h), fun h => C10 (by simpa using h), fun h => C11 (by simpa using h), fun h => C12 (by simpa using h), H1, E1, L1⟩
              · refine stepOk_some (i := 8) (by rfl) (by rfl) ?_
                rintro u L T w' hT hu hL hp hcl ⟨C0, C1, C2, C3, C4, C5, C6, C7, C8, C9, C10, C11, C12, H1, E1, L1⟩ K hK
                have e1 : u 2 = Str te := hu 2 (by decide)
                go_simp
                refine hK _ _ ?_
                exact ⟨fun h => C0 (by simpa using h), fun h => C1 (by simpa using h), fun h => C2 (by simpa using h), fun h => C3 (by simpa using h), fun h => C4 (by simpa using h), fun h => C5 (by simpa using h), fun h => C6 (by simpa using h), fun h => C7 (by simpa using h), fun _ => rfl, fun h => C9 (by simpa using h), fun h => C10 (by simpa using h), fun h => C11 (by simpa using h), fun h => C12 (by simpa using h), H1, E1, L1⟩
              · refine stepOk_some (i := 9) (by rfl) (by rfl) ?_
                rintro u L T w' hT hu hL hp hcl ⟨C0, C1, C2, C3, C4, C5, C6, C7, C8, C9, C10, C11, C12, H1, E1, L1⟩ K hK
                have e1 : u 3 = Str ho := hu 3 (by decide)
                go_simp
                refine hK _ _ ?_
                exact ⟨fun h => C0 (by simpa using h), fun h => C1 (by simpa using h), fun h => C2 (by simpa using h), fun h => C3 (by simpa using h), fun h => C4 (by simpa using h), fun h => C5 (by simpa using h), fun h => C6 (by simpa using h), fun h => C7 (by simpa using h), fun h => C8 (by simpa using h), fun _ => rfl, fun h => C10 (by simpa using h), fun h => C11 (by simpa using h), fun h => C12 (by simpa using h), H1, E1, L1⟩
              · refine stepOk_some (i := 10) (by rfl) (by rfl) ?_
                rintro u L T w' hT hu hL hp hcl ⟨C0, C1, C2, C3, C4, C5, C6, C7, C8, C9, C10, C11, C12, H1, E1, L1⟩ K hK
                have e1 : u 4 = .int .i64 p := hu 4 (by decide)
                go_simp
                refine hK _ _ ?_
                exact ⟨fun h => C0 (by simpa using h), fun h => C1 (by simpa using h), fun h => C2 (by simpa using h), fun h => C3 (by simpa using h), fun h => C4 (by simpa using h), fun h => C5 (by simpa using h), fun h => C6 (by simpa using h), fun h => C7 (by simpa using h), fun h => C8 (by simpa using h), fun h => C9 (by simpa using h), fun _ => rfl, fun h => C11 (by simpa using h), fun h => C12 (by simpa using h), H1, E1, L1⟩
              · refine stepOk_some (i := 11) (by rfl) (by rfl) ?_
                rintro u L T w' hT hu hL hp hcl ⟨C0, C1, C2, C3, C4, C5, C6, C7, C8, C9, C10, C11, C12, H1, E1, L1⟩ K hK
                have e6 := C6 (hp.of 6 (by kernel_rfl))
                have e7 := C7 (hp.of 7 (by kernel_rfl))
                have e8 := C8 (hp.of 8 (by kernel_rfl))
                have e9 := C9 (hp.of 9 (by kernel_rfl))
                have e10 := C10 (hp.of 10 (by kernel_rfl))
                go_simp
                refine (HHB1.out _).mono ?_
                rintro e w1 ⟨he, hx1⟩
                subst he
                refine hK _ _ ?_
                exact ⟨fun h => C0 (by simpa using h), fun h => C1 (by simpa using h), fun h => C2 (by simpa using h), fun h => C3 (by simpa using h), fun h => C4 (by simpa using h), fun h => C5 (by simpa using h), fun h => C6 (by simpa using h), fun h => C7 (by simpa using h), fun h => C8 (by simpa using h), fun h => C9 (by simpa using h), fun h => C10 (by simpa using h), fun _ => rfl, fun h => C12 (by simpa using h), ext_at hx1 (H1), ext_trans (E1) hx1, (L1).ext hx1⟩
              · refine stepOk_some (i := 12) (by rfl) (by rfl) ?_
                rintro u L T w' hT hu hL hp hcl ⟨C0, C1, C2, C3, C4, C5, C6, C7, C8, C9, C10, C11, C12, H1, E1, L1⟩ K hK
                have e5 := C5 (hp.of 5 (by kernel_rfl))
                have e11 := C11 (hp.of 11 (by kernel_rfl))
                go_simp
                refine hK _ _ ?_
                exact ⟨fun h => C0 (by simpa using h), fun h => C1 (by simpa using h), fun h => C2 (by simpa using h), fun h => C3 (by simpa using h), fun h => C4 (by simpa using h), fun h => C5 (by simpa using h), fun h => C6 (by simpa using h), fun h => C7 (by simpa using h), fun h => C8 (by simpa using h), fun h => C9 (by simpa using h), fun h => C10 (by simpa using h), fun h => C11 (by simpa using h), fun _ => rfl, H1, E1, L1⟩
            · rintro u L w' hall hu ⟨C0, C1, C2, C3, C4, C5, C6, C7, C8, C9, C10, C11, C12, H1, E1, L1⟩
              replace C0 := C0 (hall 0 (by omega))
              replace C1 := C1 (hall 1 (by omega))
              replace C2 := C2 (hall 2 (by omega))
              replace C3 := C3 (hall 3 (by omega))
              replace C4 := C4 (hall 4 (by omega))
              replace C5 := C5 (hall 5 (by omega))
              replace C6 := C6 (hall 6 (by omega))
              replace C7 := C7 (hall 7 (by omega))
              replace C8 := C8 (hall 8 (by omega))
              replace C9 := C9 (hall 9 (by omega))
              replace C10 := C10 (hall 10 (by omega))
              replace C11 := C11 (hall 11 (by omega))
              replace C12 := C12 (hall 12 (by omega))
              simp only [fill, List.setIfInBounds_toArray, List.set_cons_succ, List.set_cons_zero, C0, C1, C2, C3, C4, C5, C6, C7, C8, C9, C10, C11, C12]
              clear C0 C1 C2 C3 C4 C5 C6 C7 C8 C9 C10 C11 C12 hu hall
            -- end inv
              have HE1 := Lib.hid E1
              clear H1 E1 L1
              go_wp2
              go_roundw
              case rel => exact ⟨k + 1, by omega, by go_num, HE1.out⟩
              case measure => simp [intOf] <;> omega
          · skip
            -- inv {'ops':[('ld',83,21,'.pointer (some ⟨wr.heap.size, 0, none⟩)','ruV ⟨al, xo, xe, xh, fr, to⟩','obtain ⟨c0, c1, c2, c3, c4, c5⟩ := cells6 H1'),('mv',84,1,'Str ro'),('mv',85,2,'Str te'),('mv',86,3,'Str ho'),('mv',87,4,'.int .i64 p'),('call',88,[0,1,2,3,4],'HHA1.out _ L1','.bool true'),('ld',89,21,'.pointer (some ⟨wr.heap.size, 0, none⟩)','ruV ⟨al, xo, xe, xh, fr, to⟩','obtain ⟨c0, c1, c2, c3, c4, c5⟩ := cells6 H1'),('mv',90,1,'Str ro'),('mv',91,2,'Str te'),('mv',92,3,'Str ho'),('mv',93,4,'.int .i64 p'),('call',94,[6,7,8,9,10],'HHB1.out _','.bool true'),('op',95,[5,11],'.bool false')], 'W':[('H1',"w'.heap[wr.heap.size]? = some (.cells #[.bool al, Str xo, Str xe, Str xh, .int .i64 fr, .int .i64 to] 26 (0, 0))",'HC5.out'),('E1',"Ext W4 w'",'HX5.out'),('L1',"Lb w'",'HL5.out')]}
            refine wp_region_any (by kernel_rfl) ?_
            change wpAny _ _ _ _ _ _ _ (World.drew _)
            refine wpAny_inv (n := 13) [83, 84, 85, 86, 87, 88, 89, 90, 91, 92, 93, 94, 95] (fun u L w' =>
                (L 0 = true → u 83 = ruV ⟨al, xo, xe, xh, fr, to⟩) ∧
                (L 1 = true → u 84 = Str ro) ∧
                (L 2 = true → u 85 = Str te) ∧
                (L 3 = true → u 86 = Str ho) ∧
                (L 4 = true → u 87 = .int .i64 p) ∧
                (L 5 = true → u 88 = .bool true) ∧
                (L 6 = true → u 89 = ruV ⟨al, xo, xe, xh, fr, to⟩) ∧
                (L 7 = true → u 90 = Str ro) ∧
                (L 8 = true → u 91 = Str te) ∧
                (L 9 = true → u 92 = Str ho) ∧
                (L 10 = true → u 93 = .int .i64 p) ∧
                (L 11 = true → u 94 = .bool true) ∧
                (L 12 = true → u 95 = .bool false) ∧
                (w'.heap[wr.heap.size]? = some (.cells #[.bool al, Str xo, Str xe, Str xh, .int .i64 fr, .int .i64 to] 26 (0, 0))) ∧
                (Ext W4 w') ∧
                (Lb w'))
              (by rfl) (by kernel_rfl) (by kernel_rfl) (by rfl) ?_ ?_ ?_
            · exact ⟨(fun h => by cases h), (fun h => by cases h), (fun h => by cases h), (fun h => by cases h), (fun h => by cases h), (fun h => by cases h), (fun h => by cases h), (fun h => by cases h), (fun h => by cases h), (fun h => by cases h), (fun h => by cases h), (fun h => by cases h), (fun h => by cases h), HC5.out, HX5.out, HL5.out⟩
            · refine ⟨⟨⟨⟨⟨⟨⟨⟨⟨⟨⟨⟨⟨trivial, ?_⟩, ?_⟩, ?_⟩, ?_⟩, ?_⟩, ?_⟩, ?_⟩, ?_⟩, ?_⟩, ?_⟩, ?_⟩, ?_⟩, ?_⟩
              · refine stepOk_some (i := 0) (by rfl) (by rfl) ?_
                rintro u L T w' hT hu hL hp hcl ⟨C0, C1, C2, C3, C4, C5, C6, C7, C8, C9, C10, C11, C12, H1, E1, L1⟩ K hK
                have e1 : u 21 = .pointer (some ⟨wr.heap.size, 0, none⟩) := hu 21 (by decide)
                obtain ⟨c0, c1, c2, c3, c4, c5⟩ := cells6 H1
                go_simp
                refine hK _ _ ?_
                exact ⟨fun _ => rfl, fun h => C1 (by simpa using h), fun h => C2 (by simpa using h), fun h => C3 (by simpa using h), fun h => C4 (by simpa using h), fun h => C5 (by simpa using h), fun h => C6 (by simpa using h), fun h => C7 (by simpa using h), fun h => C8 (by simpa using h), fun h => C9 (by simpa using h), fun h => C10 (by simpa using h), fun h => C11 (by simpa using h), fun h => C12 (by simpa using h), H1, E1, L1⟩
              · refine stepOk_some (i := 1) (by rfl) (by rfl) ?_
                rintro u L T w' hT hu hL hp hcl ⟨C0, C1, C2, C3, C4, C5, C6, C7, C8, C9, C10, C11, C12, H1, E1, L1⟩ K hK
                have e1 : u 1 = Str ro := hu 1 (by decide)
                go_simp
                refine hK _ _ ?_
                exact ⟨fun h => C0 (by simpa using h), fun _ => rfl, fun h => C2 (by simpa using h), fun h => C3 (by simpa using h), fun h => C4 (by simpa using h), fun h => C5 (by simpa using h), fun h => C6 (by simpa using h), fun h => C7 (by simpa using h), fun h => C8 (by simpa using h), fun h => C9 (by simpa using h), fun h => C10 (by simpa using h), fun h => C11 (by simpa using h), fun h => C12 (by simpa using h), H1, E1, L1⟩
              · refine stepOk_some (i := 2) (by rfl) (by rfl) ?_
                rintro u L T w' hT hu hL hp hcl ⟨C0, C1, C2, C3, C4, C5, C6, C7, C8, C9, C10, C11, C12, H1, E1, L1⟩ K hK
                have e1 : u 2 = Str te := hu 2 (by decide)
                go_simp
                refine hK _ _ ?_
                exact ⟨fun h => C0 (by simpa using h), fun h => C1 (by simpa using h), fun _ => rfl, fun h => C3 (by simpa using h), fun h => C4 (by simpa using h), fun h => C5 (by simpa using h), fun h => C6 (by simpa using h), fun h => C7 (by simpa using h), fun h => C8 (by simpa using h), fun h => C9 (by simpa using h), fun h => C10 (by simpa using h), fun h => C11 (by simpa using h), fun h => C12 (by simpa using h), H1, E1, L1⟩
              · refine stepOk_some (i := 3) (by rfl) (by rfl) ?_
                rintro u L T w' hT hu hL hp hcl ⟨C0, C1, C2, C3, C4, C5, C6, C7, C8, C9, C10, C11, C12, H1, E1, L1⟩ K hK
                have e1 : u 3 = Str ho := hu 3 (by decide)
                go_simp
                refine hK _ _ ?_
                exact ⟨fun h => C0 (by simpa using h), fun h => C1 (by simpa using h), fun h => C2 (by simpa using h), fun _ => rfl, fun h => C4 (by simpa using h), fun h => C5 (by simpa using h), fun h => C6 (by simpa using h), fun h => C7 (by simpa using h), fun h => C8 (by simpa using h), fun h => C9 (by simpa using h), fun h => C10 (by simpa using h), fun h => C11 (by simpa using h), fun h => C12 (by simpa using h), H1, E1, L1⟩
              · refine stepOk_some (i := 4) (by rfl) (by rfl) ?_
                rintro u L T w' hT hu hL hp hcl ⟨C0, C1, C2, C3, C4, C5, C6, C7, C8, C9, C10, C11, C12, H1, E1, L1⟩ K hK
                have e1 : u 4 = .int .i64 p := hu 4 (by decide)
                go_simp
                refine hK _ _ ?_
                exact ⟨fun h => C0 (by simpa using h), fun h => C1 (by simpa using h), fun h => C2 (by simpa using h), fun h => C3 (by simpa using h), fun _ => rfl, fun h => C5 (by simpa using h), fun h => C6 (by simpa using h), fun h => C7 (by simpa using h), fun h => C8 (by simpa using h), fun h => C9 (by simpa using h), fun h => C10 (by simpa using h), fun h => C11 (by simpa using h), fun h => C12 (by simpa using h), H1, E1, L1⟩
              · refine stepOk_some (i := 5) (by rfl) (by rfl) ?_
                rintro u L T w' hT hu hL hp hcl ⟨C0, C1, C2, C3, C4, C5, C6, C7, C8, C9, C10, C11, C12, H1, E1, L1⟩ K hK
                have e0 := C0 (hp.of 0 (by kernel_rfl))
                have e1 := C1 (hp.of 1 (by kernel_rfl))
                have e2 := C2 (hp.of 2 (by kernel_rfl))
                have e3 := C3 (hp.of 3 (by kernel_rfl))
                have e4 := C4 (hp.of 4 (by kernel_rfl))
                go_simp
                refine (HHA1.out _ L1).mono ?_
                rintro e w1 ⟨he, hx1⟩
                subst he
                refine hK _ _ ?_
                exact ⟨fun h => C0 (by simpa using h), fun h => C1 (by simpa using h), fun h => C2 (by simpa using h), fun h => C3 (by simpa using h), fun h => C4 (by simpa using h), fun _ => rfl, fun h => C6 (by simpa using h), fun h => C7 (by simpa using h), fun h => C8 (by simpa using h), fun h => C9 (by simpa using h), fun h => C10 (by simpa using h), fun h => C11 (by simpa using h), fun h => C12 (by simpa using h), ext_at hx1 (H1), ext_trans (E1) hx1, (L1).ext hx1⟩
              · refine stepOk_some (i := 6) (by rfl) (by rfl) ?_
                rintro u L T w' hT hu hL hp hcl ⟨C0, C1, C2, C3, C4, C5, C6, C7, C8, C9, C10, C11, C12, H1, E1, L1⟩ K hK
                have e1 : u 21 = .pointer (some ⟨wr.heap.size, 0, none⟩) := hu 21 (by decide)
                obtain ⟨c0, c1, c2, c3, c4, c5⟩ := cells6 H1
                go_simp
                refine hK _ _ ?_
                exact ⟨fun h => C0 (by simpa using h), fun h => C1 (by simpa using h), fun h => C2 (by simpa using h), fun h => C3 (by simpa using h), fun h => C4 (by simpa using h), fun h => C5 (by simpa using h), fun _ => rfl, fun h => C7 (by simpa using h), fun h => C8 (by simpa using h), fun h => C9 (by simpa using h), fun h => C10 (by simpa using h), fun h => C11 (by simpa using h), fun h => C12 (by simpa using h), H1, E1, L1⟩
              · refine stepOk_some (i := 7) (by rfl) (by rfl) ?_
                rintro u L T w' hT hu hL hp hcl ⟨C0, C1, C2, C3, C4, C5, C6, C7, C8, C9, C10, C11, C12, H1, E1, L1⟩ K hK
                have e1 : u 1 = Str ro := hu 1 (by decide)
                go_simp
                refine hK _ _ ?_
                exact ⟨fun h => C0 (by simpa using h), fun h => C1 (by simpa using h), fun h => C2 (by simpa using h), fun h => C3 (by simpa using h), fun h => C4 (by simpa using h), fun h => C5 (by simpa using h), fun h => C6 (by simpa using h), fun _ => rfl, fun h => C8 (by simpa using h), fun h => C9 (by simpa using h), fun h => C10 (by simpa using h), fun h => C11 (by simpa using h), fun h => C12 (by simpa using h), H1, E1, L1⟩
              · refine stepOk_some (i := 8) (by rfl) (by rfl) ?_
                rintro u L T w' hT hu hL hp hcl ⟨C0, C1, C2, C3, C4, C5, C6, C7, C8, C9, C10, C11, C12, H1, E1, L1⟩ K hK
                have e1 : u 2 = Str te := hu 2 (by decide)
                go_simp
                refine hK _ _ ?_
                exact ⟨fun h => C0 (by simpa using h), fun h => C1 (by simpa using h), fun h => C2 (by simpa using h), fun h => C3 (by simpa using h), fun h => C4 (by simpa using h), fun h => C5 (by simpa using h), fun h => C6 (by simpa using h), fun h => C7 (by simpa using h), fun _ => rfl, fun h => C9 (by simpa using h), fun h => C10 (by simpa using h), fun h => C11 (by simpa using h), fun h => C12 (by simpa using h), H1, E1, L1⟩
              · refine stepOk_some (i := 9) (by rfl) (by rfl) ?_
                rintro u L T w' hT hu hL hp hcl ⟨C0, C1, C2, C3, C4, C5, C6, C7, C8, C9, C10, C11, C12, H1, E1, L1⟩ K hK
                have e1 : u 3 = Str ho := hu 3 (by decide)
                go_simp
                refine hK _ _ ?_
                exact ⟨fun h => C0 (by simpa using h), fun h => C1 (by simpa using h), fun h => C2 (by simpa using h), fun h => C3 (by simpa using h), fun h => C4 (by simpa using h), fun h => C5 (by simpa using h), fun h => C6 (by simpa using h), fun h => C7 (by simpa using h), fun h => C8 (by simpa using h), fun _ => rfl, fun h => C10 (by simpa using h), fun h => C11 (by simpa using h), fun h => C12 (by simpa using h), H1, E1, L1⟩
              · refine stepOk_some (i := 10) (by rfl) (by rfl) ?_
                rintro u L T w' hT hu hL hp hcl ⟨C0, C1, C2, C3, C4, C5, C6, C7, C8, C9, C10, C11, C12, H1, E1, L1⟩ K hK
                have e1 : u 4 = .int .i64 p := hu 4 (by decide)
                go_simp
                refine hK _ _ ?_
                exact ⟨fun h => C0 (by simpa using h), fun h => C1 (by simpa using h), fun h => C2 (by simpa using h), fun h => C3 (by simpa using h), fun h => C4 (by simpa using h), fun h => C5 (by simpa using h), fun h => C6 (by simpa using h), fun h => C7 (by simpa using h), fun h => C8 (by simpa using h), fun h => C9 (by simpa using h), fun _ => rfl, fun h => C11 (by simpa using h), fun h => C12 (by simpa using h), H1, E1, L1⟩
              · refine stepOk_some (i := 11) (by rfl) (by rfl) ?_
                rintro u L T w' hT hu hL hp hcl ⟨C0, C1, C2, C3, C4, C5, C6, C7, C8, C9, C10, C11, C12, H1, E1, L1⟩ K hK
                have e6 := C6 (hp.of 6 (by kernel_rfl))
                have e7 := C7 (hp.of 7 (by kernel_rfl))
                have e8 := C8 (hp.of 8 (by kernel_rfl))
                have e9 := C9 (hp.of 9 (by kernel_rfl))
                have e10 := C10 (hp.of 10 (by kernel_rfl))
                go_simp
                refine (HHB1.out _).mono ?_
                rintro e w1 ⟨he, hx1⟩
                subst he
                refine hK _ _ ?_
                exact ⟨fun h => C0 (by simpa using h), fun h => C1 (by simpa using h), fun h => C2 (by simpa using h), fun h => C3 (by simpa using h), fun h => C4 (by simpa using h), fun h => C5 (by simpa using h), fun h => C6 (by simpa using h), fun h => C7 (by simpa using h), fun h => C8 (by simpa using h), fun h => C9 (by simpa using h), fun h => C10 (by simpa using h), fun _ => rfl, fun h => C12 (by simpa using h), ext_at hx1 (H1), ext_trans (E1) hx1, (L1).ext hx1⟩
              · refine stepOk_some (i := 12) (by rfl) (by rfl) ?_
                rintro u L T w' hT hu hL hp hcl ⟨C0, C1, C2, C3, C4, C5, C6, C7, C8, C9, C10, C11, C12, H1, E1, L1⟩ K hK
                have e5 := C5 (hp.of 5 (by kernel_rfl))
                have e11 := C11 (hp.of 11 (by kernel_rfl))
                go_simp
                refine hK _ _ ?_
                exact ⟨fun h => C0 (by simpa using h), fun h => C1 (by simpa using h), fun h => C2 (by simpa using h), fun h => C3 (by simpa using h), fun h => C4 (by simpa using h), fun h => C5 (by simpa using h), fun h => C6 (by simpa using h), fun h => C7 (by simpa using h), fun h => C8 (by simpa using h), fun h => C9 (by simpa using h), fun h => C10 (by simpa using h), fun h => C11 (by simpa using h), fun _ => rfl, H1, E1, L1⟩
            · rintro u L w' hall hu ⟨C0, C1, C2, C3, C4, C5, C6, C7, C8, C9, C10, C11, C12, H1, E1, L1⟩
              replace C0 := C0 (hall 0 (by omega))
              replace C1 := C1 (hall 1 (by omega))
              replace C2 := C2 (hall 2 (by omega))
              replace C3 := C3 (hall 3 (by omega))
              replace C4 := C4 (hall 4 (by omega))
              replace C5 := C5 (hall 5 (by omega))
              replace C6 := C6 (hall 6 (by omega))
              replace C7 := C7 (hall 7 (by omega))
              replace C8 := C8 (hall 8 (by omega))
              replace C9 := C9 (hall 9 (by omega))
              replace C10 := C10 (hall 10 (by omega))
              replace C11 := C11 (hall 11 (by omega))
              replace C12 := C12 (hall 12 (by omega))
              simp only [fill, List.setIfInBounds_toArray, List.set_cons_succ, List.set_cons_zero, C0, C1, C2, C3, C4, C5, C6, C7, C8, C9, C10, C11, C12]
              clear C0 C1 C2 C3 C4 C5 C6 C7 C8 C9 C10 C11 C12 hu hall
            -- end inv
              have HE1 := Lib.hid E1
              clear H1 E1 L1
              go_wp2
              go_roundw
              case rel => exact ⟨k + 1, by omega, by go_num, HE1.out⟩
              case measure => simp [intOf] <;> omega
        · have : k = pk.length := by omega
          subst this
          have HXR := Lib.hid hxr
          have HLR := Lib.hid (HL.out.ext (ext_trans HX4.out hxr))
          have HPR := Lib.hid (HP4.out.ext hxr)
          have HIDN := Lib.hid (fun W hW => idle_any none [] (by simp) (fun r hr => by simp at hr) W hW (.inl ⟨rfl, rfl⟩))
          have HLEN := Lib.hid (fun W => len_any none [] (by simp) W (.inl ⟨rfl, rfl⟩))
          rw [show mayB ([] : List Ru) ro te ho p = false from rfl] at HMAY0
          have hidl : idleL ([] : List Ru) ([] : List Ru).length = [] := rfl
          rw [hidl] at HIDN
          have hmax := fun (W : World) (i : Nat) => run_max_zero Tryd.prog i #[3, 3] 3 W
          have HMX := Lib.hid hmax
          have HIXR := Lib.hid (fun g o i => index_ruleR g o pk.length cap2 i)
          clear HIX HHA HHB hidl hmax hxr hlt hk
          cases hwo : whichO pk ro te ho p with
          | none =>
            have hwi : whichI pk ro te ho p = -1 := by unfold whichI; rw [hwo]
            have hmb : mayB pk ro te ho p = false := by unfold mayB; rw [hwo]
            rw [hwi]
            rw [hmb] at HMAY
            clear hwo hwi hmb HIXR HMX
            simp only [Option.getD_none, Option.isSome_none, Int.ofNat_zero, Int.natCast_zero]
            go_wp2_with fail
            refine (HMAY.out _ HLR.out HPR.out).mono ?_
            rintro e W5 ⟨he, hx5⟩
            subst he
            have HX5 := Lib.hid (ext_trans HXR.out hx5)
            clear hx5 HMAY HPR HLR HXR
            go_wp2_with fail
            refine (HMAY0.out _ (HL.out.ext (ext_trans HX4.out HX5.out))).mono ?_
            rintro e W6 ⟨he, hx6⟩
            subst he
            have HX6 := Lib.hid (ext_trans HX5.out hx6)
            clear hx6 HX5
            go_wp2_with fail
            refine (HLEN.out _).mono ?_
            rintro e W7 ⟨he, hw⟩
            subst he; subst W7
            go_wp2_with fail
            refine (HIDN.out _ (HL.out.ext (ext_trans HX4.out HX6.out))).mono ?_
            rintro e W7 ⟨v, he, hown, hx7⟩
            subst he
            obtain ⟨ao7, cap7, hv7, _⟩ := ownz_shape hown
            have hv7' : v = .slice ao7 0 cap7 := hv7
            subst hv7'
            have HX7 := Lib.hid (ext_trans HX4.out (ext_trans HX6.out hx7))
            clear hx7 hown hv7 HX6
            go_wp2
            go_ret
            exact ⟨rfl, HX7.out⟩
          | some i =>
            have hwi : whichI pk ro te ho p = (i : Int) := by unfold whichI; rw [hwo]
            have hmb : mayB pk ro te ho p = (pk.getD i ruD).al := by unfold mayB; rw [hwo]
            have hil : i < pk.length := by unfold whichO at hwo; exact (List.findIdx?_eq_some_iff_getElem.1 hwo).1
            rw [hwi]
            rw [hmb] at HMAY
            clear hwo hwi hmb
            obtain ⟨g, o, hao, hcl⟩ : ∃ g o, ao2 = some ⟨g, o, none⟩ ∧ ∀ j, j < pk.length → W4.cell? ⟨g, o + 6 * j, none⟩ = some (.bool (pk.getD j ruD).al) ∧ W4.cell? ⟨g, o + 6 * j + 1, none⟩ = some (Str (pk.getD j ruD).ro) ∧ W4.cell? ⟨g, o + 6 * j + 2, none⟩ = some (Str (pk.getD j ruD).te) ∧ W4.cell? ⟨g, o + 6 * j + 3, none⟩ = some (Str (pk.getD j ruD).ho) ∧
                W4.cell? ⟨g, o + 6 * j + 4, none⟩ = some (.int .i64 (pk.getD j ruD).fr) ∧ W4.cell? ⟨g, o + 6 * j + 5, none⟩ = some (.int .i64 (pk.getD j ruD).to) := by
              rcases HCL2.out with h | h
              · subst h; simp at hil
              · exact h
            subst hao
            have hix1 := HIXR.out g o i hil
            obtain ⟨k0, _⟩ := hcl i hil
            replace k0 := ext_cell HXR.out k0
            generalize (pk.getD i ruD).al = al at *
            generalize o + 6 * i = q at *
            have hmax1 := fun W => HMX.out W i
            clear hcl HIXR HMX
            have hge : decide ((0 : Int) ≤ (i : Int)) = true := by simp
            simp only [Option.getD_some, Option.isSome_some]
            go_wp2_with fail
            refine (HMAY.out _ HLR.out HPR.out).mono ?_
            rintro e W5 ⟨he, hx5⟩
            subst he
            have HX5 := Lib.hid (ext_trans HXR.out hx5)
            replace k0 := ext_cell hx5 k0
            clear hx5 HMAY HPR HLR HXR
            cases al
            all_goals
              go_wp2_with fail
              refine (HMAY0.out _ (HL.out.ext (ext_trans HX4.out HX5.out))).mono ?_
              rintro e W6 ⟨he, hx6⟩
              subst he
              have HX6 := Lib.hid (ext_trans HX5.out hx6)
              clear hx6 HX5 k0
              go_wp2_with fail
              refine (HLEN.out _).mono ?_
              rintro e W7 ⟨he, hw⟩
              subst he; subst W7
              go_wp2_with fail
              refine (HIDN.out _ (HL.out.ext (ext_trans HX4.out HX6.out))).mono ?_
              rintro e W7 ⟨v, he, hown, hx7⟩
              subst he
              obtain ⟨ao7, cap7, hv7, _⟩ := ownz_shape hown
              have hv7' : v = .slice ao7 0 cap7 := hv7
              subst hv7'
              have HX7 := Lib.hid (ext_trans HX4.out (ext_trans HX6.out hx7))
              clear hx7 hown hv7 HX6
              go_wp2
              go_ret
              exact ⟨rfl, HX7.out⟩
end Go.Proofs.YtjbobblnicnhnaaDoor
