/-
  RuleTexts.
-/
import Derived.BigGuardPart
import Derived.RegionTactic
import Derived.Deep.DrawnRows
import Derived.Test.YtjbobblnicnhnaaDoorRows
import Derived.Test.YtjbobblnicnhnaaDoorSys
import Derived.Test.YtjbobblnicnhnaaDoorTxr
import Derived.Test.YtjbobblnicnhnaaDoorEqr
import Derived.Test.YtjbobblnicnhnaaDoorRll
import Derived.Test.YtjbobblnicnhnaaDoorAgr
import Derived.WalkKit
import Derived.ProofKit
import Derived.OpenShut
namespace Go.Proofs.YtjbobblnicnhnaaDoor
open Go.RowKit
set_option maxRecDepth 100000
attribute [local go_sem ↓] Go.wp_at_zero Go.wp_at_succ
set_option linter.unusedVariables false
set_option linter.unusedSimpArgs false

def fewL (ls : List Ru) (k : Nat) : List Ru := (ls.take k).map fewR
theorem fewL_snoc {ls : List Ru} {k : Nat} (h : k < ls.length) : fewL ls (k + 1) = fewL ls k ++ [fewR (ls.getD k ruD)] := by
  have hd : ls.getD k ruD = ls[k] := by simp [List.getD, h]
  rw [hd]
  unfold fewL
  rw [List.take_succ_eq_append_getElem h, List.map_append]
  rfl
theorem fewL_len (ls : List Ru) (k : Nat) : (fewL ls k).length ≤ k := by
  unfold fewL
  rw [List.length_map]; exact List.length_take_le _ _
theorem fewL_b {ls : List Ru} {k : Nat} (hI : ∀ r ∈ ls, I64 r.fr ∧ I64 r.to) : ∀ r ∈ fewL ls k, RuB r := by
  intro r hr
  unfold fewL at hr
  obtain ⟨x, hx, rfl⟩ := List.mem_map.1 hr
  have hx2 := hI x (List.mem_of_mem_take hx)
  exact few_b x hx2.1 hx2.2
theorem few_short (r : Ru) (h1 : I64 r.fr) (h2 : I64 r.to) : (lineT (fewR r)).length ≤ 40001 := lineT_len _ (few_b r h1 h2)
def badB (rs : List Ru) : Bool := rs.any fun r => !ruOk r
theorem badB_all (rs : List Ru) : badB rs = !rs.all ruOk := by
  unfold badB
  induction rs with
  | nil => rfl
  | cons r rs ih => simp only [List.any_cons, List.all_cons, ih]; cases ruOk r <;> simp
theorem store6 {W : World} {g q : Nat} {cur : Array Value} {T : TypeId} (h : W.heap[g]? = some (.cells cur T (0, 0))) (u0 u1 u2 u3 u4 u5 : Value) :
    (∃ cur', ((((((W.setCell ⟨g, q, none⟩ u0).setCell ⟨g, q + 1, none⟩ u1).setCell ⟨g, q + 2, none⟩ u2).setCell ⟨g, q + 3, none⟩ u3).setCell ⟨g, q + 4, none⟩ u4).setCell ⟨g, q + 5, none⟩ u5).heap[g]? = some (.cells cur' T (0, 0)) ∧ cur'.size = cur.size) ∧
      Chg (fun k => k = g) W ((((((W.setCell ⟨g, q, none⟩ u0).setCell ⟨g, q + 1, none⟩ u1).setCell ⟨g, q + 2, none⟩ u2).setCell ⟨g, q + 3, none⟩ u3).setCell ⟨g, q + 4, none⟩ u4).setCell ⟨g, q + 5, none⟩ u5) := by
  have h0 := set_at (j := q) (u := u0) h
  have h1 := set_at (j := q + 1) (u := u1) h0
  have h2 := set_at (j := q + 2) (u := u2) h1
  have h3 := set_at (j := q + 3) (u := u3) h2
  have h4 := set_at (j := q + 4) (u := u4) h3
  have h5 := set_at (j := q + 5) (u := u5) h4
  exact ⟨⟨_, h5, by simp⟩, (((((Chg.setCell W ⟨g, q, none⟩ u0).trans (Chg.setCell _ ⟨g, q + 1, none⟩ u1)).trans (Chg.setCell _ ⟨g, q + 2, none⟩ u2)).trans (Chg.setCell _ ⟨g, q + 3, none⟩ u3)).trans (Chg.setCell _ ⟨g, q + 4, none⟩ u4)).trans (Chg.setCell _ ⟨g, q + 5, none⟩ u5)⟩
theorem polOwn_keep {B : Nat} {W W' : World} {b : Nat} {rs : List Ru} (h : PolOwn B W b rs) (hk : ∀ k, B ≤ k → k < W.heap.size → W'.heap[k]? = W.heap[k]?) : PolOwn B W' b rs := by
  obtain ⟨v, h1, h2, h3⟩ := h
  exact ⟨v, h1, (hk b h1 (Array.getElem?_eq_some_iff.1 h2).1).trans h2, ownz_keep h3 fun g _ hb hg => hk g hb (kind_lt hg)⟩
theorem polOwn_base {B B' : Nat} {W : World} {b : Nat} {rs : List Ru} (h : PolOwn B W b rs) (hb : B' ≤ B) : PolOwn B' W b rs := by
  obtain ⟨v, h1, h2, h3⟩ := h
  exact ⟨v, by omega, h2, ownz_base h3 hb⟩
set_option maxHeartbeats 8000000 in
theorem texts_any (v0 : Value) (ls : List Ru) (hI : ∀ r ∈ ls, I64 r.fr ∧ I64 r.to) (w : World) (hL : Lb w) (hr : RowU w v0 ls) :
    Calls Tryd.prog 8 #[v0] w fun e w' => e = .returned (.bool true) ∧ Ext w w' := by
  have HL := Lib.hid hL
  have HA := Lib.hid (fun W hW => awake_law W hW)
  have HF := Lib.hid (fun (r : Ru) W => few_any r W)
  have HTM := Lib.hid (fun (r : Ru) (hb : RuB r) W hW => text_any r hb W hW)
  have HTR := Lib.hid (fun (r : Ru) (hb : RuB r) W => textRef_any r hb W)
  have HIX := Lib.hid index_ruleR
  obtain ⟨ao, cap, hv, hcap, hmax, hcl⟩ := rowU_shape hr
  unfold maxLen at hmax
  have HCL := Lib.hid hcl
  have HI := Lib.hid hI
  clear hL hr hcl hI
  subst hv
  go_enter Tryd.func8, Tryd.ntmps8
  go_wp2_with fail
  refine (HA.out w HL.out).mono ?_
  rintro e W1 ⟨he, hx1⟩
  subst he
  have HX1 := Lib.hid hx1
  clear hx1 HA
  go_wp2
  go_loopw [3, 4, 5, 6, 20] (fun v1 v2 t b i wr => ∃ k : Nat, k ≤ ls.length ∧ k ≤ 35 ∧ i = .int .i64 k ∧ wr.ownsRow w.heap.size 28 6 v1 (fewL ls k).length ((fewL ls k).flatMap ruC) ∧
    wr.ownsRow w.heap.size 26 6 v2 (fewL ls k).length ((fewL ls k).flatMap ruC) ∧ t = Str (polT (fewL ls k)) ∧ b = .bool (badB (fewL ls k)) ∧ Ext w wr) (fun _ _ _ _ i _ => ls.length - (intOf i).toNat)
  case atStart => exact ⟨0, by omega, by omega, rfl, World.ownsRow_nil _ _ _ _, World.ownsRow_nil _ _ _ _, rfl, rfl, HX1.out⟩
  case round =>
    obtain ⟨k, hk, hk35, rfl, hm, hwn, rfl, rfl, hxr⟩ := hrel
    have HM := Lib.hid hm; have HWN := Lib.hid hwn; have HXR := Lib.hid hxr
    clear hm hwn hxr
    by_cases hgo : k < ls.length ∧ k < 35
    · obtain ⟨hlt, h35⟩ := hgo
      obtain ⟨g, o, hao, hcl⟩ : ∃ g o, ao = some ⟨g, o, none⟩ ∧ ∀ j, j < ls.length → w.cell? ⟨g, o + 6 * j, none⟩ = some (.bool (ls.getD j ruD).al) ∧ w.cell? ⟨g, o + 6 * j + 1, none⟩ = some (Str (ls.getD j ruD).ro) ∧ w.cell? ⟨g, o + 6 * j + 2, none⟩ = some (Str (ls.getD j ruD).te) ∧ w.cell? ⟨g, o + 6 * j + 3, none⟩ = some (Str (ls.getD j ruD).ho) ∧
          w.cell? ⟨g, o + 6 * j + 4, none⟩ = some (.int .i64 (ls.getD j ruD).fr) ∧ w.cell? ⟨g, o + 6 * j + 5, none⟩ = some (.int .i64 (ls.getD j ruD).to) := by
        rcases HCL.out with h | h
        · subst h; simp at hlt
        · exact h
      subst hao
      have t35 : decide ((35 : Int) ≤ (k : Int)) = false := by simp; omega
      have hix1 := HIX.out g o ls.length cap k hlt
      have HIK := Lib.hid (HI.out (ls.getD k ruD) (by simp [List.getD, hlt]))
      have hsn := fewL_snoc hlt
      obtain ⟨b0, b1, b2, b3, b4, b5⟩ := hcl k hlt
      have k0 := ext_cell HXR.out b0; have k1 := ext_cell HXR.out b1; have k2 := ext_cell HXR.out b2; have k3 := ext_cell HXR.out b3; have k4 := ext_cell HXR.out b4; have k5 := ext_cell HXR.out b5
      clear b0 b1 b2 b3 b4 b5 hcl
      have hpl := fewL_len ls k
      have htl := polT_len (fewL ls k) (fewL_b HI.out)
      generalize fewL ls k = pk at *
      generalize ls.getD k ruD = r at *
      generalize o + 6 * k = q at *
      have HF1 := Lib.hid (HF.out r)
      have hb1 := few_b r HIK.out.1 HIK.out.2
      obtain ⟨r1, hr1⟩ : ∃ r1, fewR r = r1 := ⟨_, rfl⟩
      rw [hr1] at HF1 hb1 hsn
      have HP := Lib.hid hsn
      have HTM1 := Lib.hid (HTM.out r1 hb1)
      have HTR1 := Lib.hid (HTR.out r1 hb1)
      have htx := textR_len r1 hb1
      have HPT : Hid (polT (pk ++ [r1]) = polT pk ++ lineT r1) := Lib.hid (by unfold polT; rw [List.flatMap_append]; simp)
      have HLT : Hid (lineT r1 = (if ruOk r1 then textR r1 else []) ++ [10]) := Lib.hid rfl
      have HBD : Hid (badB (pk ++ [r1]) = (badB pk || !ruOk r1)) := Lib.hid (by unfold badB; rw [List.any_append]; simp)
      have hpt : (polT pk).length ≤ 10000000 := by omega
      clear hr1 HF HTM HTR hb1 HIK hsn htl
      generalize polT pk = tp at *
      generalize badB pk = bd at *
      obtain ⟨al, ro, te, ho, fr, tu⟩ := r
      obtain ⟨bl, so, ue, io, gr, uo⟩ := r1
      simp only at k0 k1 k2 k3 k4 k5
      go_wp2_with fail
      obtain ⟨W1, hW1⟩ : ∃ W1, wr.alloc (.cells #[.bool al, Str ro, Str te, Str ho, .int .i64 fr, .int .i64 tu] 26) = W1 := ⟨_, rfl⟩
      have hx : Ext wr W1 := by rw [← hW1]; exact Below.alloc (Below.refl _ _) (Nat.le_refl _) _
      have hc : W1.heap[wr.heap.size]? = some (.cells #[.bool al, Str ro, Str te, Str ho, .int .i64 fr, .int .i64 tu] 26 (0, 0)) := by rw [← hW1]; exact Array.getElem?_push_size
      try rw [hW1]
      clear hW1 k0 k1 k2 k3 k4 k5 hix1
      refine (HF1.out _).mono ?_
      rintro e W2 ⟨he, hx2⟩
      subst he
      have hc2 := ext_at hx2 hc
      obtain ⟨c0, c1, c2, c3, c4, c5⟩ := cells6 hc2
      have hf2 := frozen_row hc2
      have h6 := set6 hc2 (.bool bl) (Str so) (Str ue) (Str io) (.int .i64 gr) (.int .i64 uo)
      have hb6 := below_set6 (b := wr.heap.size) (ext_trans hx hx2) (Nat.le_refl _) (.bool bl) (Str so) (Str ue) (Str io) (.int .i64 gr) (.int .i64 uo)
      have hsz := hx2.size
      go_wp2_with fail
      simp only [Str] at h6 hb6
      generalize ((((((W2.setCell _ _).setCell _ _).setCell _ _).setCell _ _).setCell _ _).setCell _ _) = W5 at *
      have H6 := Lib.hid h6; have HB6 := Lib.hid hb6
      clear h6 hb6 hc2 hc hx hx2 c0 c1 c2 c3 c4 c5 hf2
      refine (HTM1.out W5 (HL.out.ext (ext_trans HXR.out HB6.out))).mono ?_
      rintro e W6 ⟨he, hx6⟩
      subst he
      have H7 := Lib.hid (ext_at hx6 H6.out)
      have HX7 := Lib.hid (ext_trans HB6.out hx6)
      clear hx6 H6 HB6
      obtain ⟨c0, c1, c2, c3, c4, c5⟩ := cells6 H7.out
      generalize textR ⟨bl, so, ue, io, gr, uo⟩ = tx at *
      generalize ruOk ⟨bl, so, ue, io, gr, uo⟩ = ok at *
      cases ok
      · simp only [Bool.false_eq_true, if_true, if_false] at HTR1 HLT ⊢
        go_wp2_with fail
        refine (HTR1.out W6).mono ?_
        rintro e W7 ⟨he, hx7⟩
        subst he
        have H8 := Lib.hid (ext_at hx7 H7.out)
        have HX8 := Lib.hid (ext_trans HX7.out hx7)
        clear hx7 H7 HX7 c0 c1 c2 c3 c4 c5
        cases bd
        all_goals
          go_wp2_with fail
          have hl12 : ∀ k, u4.ownBlock = some k → wr.heap.size ≠ k := fun k hk => by have := (HWN.out.lt k hk).2; omega
          have hm6 := ownz_ext HM.out HX8.out
          have hw6 := ownz_ext HWN.out HX8.out
          have hx6 := ext_trans HXR.out HX8.out
          have hb6 := H8.out
          have HL12 := Lib.hid hl12; have HM6 := Lib.hid hm6; have HW6 := Lib.hid hw6; have HX6 := Lib.hid hx6; have HB6 := Lib.hid hb6
          clear hl12 hm6 hw6 hx6 hb6 H8 HX8
          -- two rows {'s0':56,'t':'8','m':3,'w':4,'B':'w.heap.size','w0':'w','blk':'wr.heap.size','vm':'u3','vw':'u4','n':'pk.length','xs':'(pk.flatMap ruC)','us':'(ruC ⟨bl, so, ue, io, gr, uo⟩)','eM':'28','eW':'26','tM':'35','tW':'34','infoM':'infoRule','infoW':'infoRuleR','RV':'(ruV ⟨bl, so, ue, io, gr, uo⟩)','z':'6','hm':'HM6.out','hw':'HW6.out','hE':'(Below.drew HX6.out)','hF':'HB6.out','hne':'HL12.out'}
          refine wp_region_any (by kernel_rfl) ?_
          change wpAny _ _ _ _ _ _ _ (World.drew _)
          refine wpAny_inv (n := 10) [56, 57, 58, 59, 60, 61, 62, 63, 3, 4] (fun u L w' =>
              (L 0 = true → u 56 = u3) ∧
              (L 1 = true → u 57 = (ruV ⟨bl, so, ue, io, gr, uo⟩)) ∧
              (L 2 = true → L 3 = false → ∃ g', u 58 = .slice (some ⟨g', 0, none⟩) 1 1 ∧ w'.heap[g']? = some (.cells ((ruC ⟨bl, so, ue, io, gr, uo⟩)).toArray 28 (0, 0))) ∧
              (L 3 = true → w'.ownsRow w.heap.size 28 6 (u 59) (pk.length + 1) ((pk.flatMap ruC) ++ (ruC ⟨bl, so, ue, io, gr, uo⟩))) ∧
              (L 4 = true → u 60 = u4) ∧
              (L 5 = true → u 61 = (ruV ⟨bl, so, ue, io, gr, uo⟩)) ∧
              (L 6 = true → L 7 = false → ∃ g', u 62 = .slice (some ⟨g', 0, none⟩) 1 1 ∧ w'.heap[g']? = some (.cells ((ruC ⟨bl, so, ue, io, gr, uo⟩)).toArray 26 (0, 0))) ∧
              (L 7 = true → w'.ownsRow w.heap.size 26 6 (u 63) (pk.length + 1) ((pk.flatMap ruC) ++ (ruC ⟨bl, so, ue, io, gr, uo⟩))) ∧
              (L 8 = false → u 3 = u3) ∧
              (L 8 = true → u 3 = u 59) ∧
              (L 9 = false → u 4 = u4) ∧
              (L 9 = true → u 4 = u 63) ∧
              (L 3 = false → w'.ownsRow w.heap.size 28 6 u3 pk.length (pk.flatMap ruC)) ∧
              (L 7 = false → w'.ownsRow w.heap.size 26 6 u4 pk.length (pk.flatMap ruC)) ∧
              (Below w.heap.size w w') ∧
              (w'.heap[wr.heap.size]? = some (.cells ((ruC ⟨bl, so, ue, io, gr, uo⟩)).toArray 26 (0, 0))))
            rfl (by kernel_rfl) (by kernel_rfl) rfl ?_ ?_ ?_
          · exact ⟨(fun h => by cases h), (fun h => by cases h), (fun h => by cases h), (fun h => by cases h), (fun h => by cases h), (fun h => by cases h), (fun h => by cases h), (fun h => by cases h), fun _ => rfl, (fun h => by cases h), fun _ => rfl, (fun h => by cases h), fun _ => HM6.out, fun _ => HW6.out, (Below.drew HX6.out), HB6.out⟩
          · refine ⟨⟨⟨⟨⟨⟨⟨⟨⟨⟨trivial, ?_⟩, ?_⟩, ?_⟩, ?_⟩, ?_⟩, ?_⟩, ?_⟩, ?_⟩, ?_⟩, ?_⟩
            · refine stepOk_some (i := 0) rfl rfl ?_
              rintro u L T w' hT hu hL hp hcl ⟨C0, C1, C2, C3, C4, C5, C6, C7, C8, D8, C9, D9, D3, D7, E, F⟩ K hK
              have e1 := C8 (hcl.not 8 (by kernel_rfl) hL)
              go_simp
              refine hK _ _ ?_
              exact ⟨fun _ => rfl, fun h => C1 (by simpa using h), fun h h2 => C2 (by simpa using h) (by simpa using h2), fun h => C3 (by simpa using h), fun h => C4 (by simpa using h), fun h => C5 (by simpa using h), fun h h2 => C6 (by simpa using h) (by simpa using h2), fun h => C7 (by simpa using h), fun h => C8 (by simpa using h), fun h => D8 (by simpa using h), fun h => C9 (by simpa using h), fun h => D9 (by simpa using h), fun h => D3 (by simpa using h), fun h => D7 (by simpa using h), E, F⟩
            · refine stepOk_some (i := 1) rfl rfl ?_
              rintro u L T w' hT hu hL hp hcl ⟨C0, C1, C2, C3, C4, C5, C6, C7, C8, D8, C9, D9, D3, D7, E, F⟩ K hK
              have e1 : u 8 = .pointer (some ⟨wr.heap.size, 0, none⟩) := hu 8 (by decide)
              obtain ⟨c0, c1, c2, c3, c4, c5⟩ := cells6 F
              go_simp
              refine hK _ _ ?_
              exact ⟨fun h => C0 (by simpa using h), fun _ => rfl, fun h h2 => C2 (by simpa using h) (by simpa using h2), fun h => C3 (by simpa using h), fun h => C4 (by simpa using h), fun h => C5 (by simpa using h), fun h h2 => C6 (by simpa using h) (by simpa using h2), fun h => C7 (by simpa using h), fun h => C8 (by simpa using h), fun h => D8 (by simpa using h), fun h => C9 (by simpa using h), fun h => D9 (by simpa using h), fun h => D3 (by simpa using h), fun h => D7 (by simpa using h), E, F⟩
            · refine stepOk_some (i := 2) rfl rfl ?_
              rintro u L T w' hT hu hL hp hcl ⟨C0, C1, C2, C3, C4, C5, C6, C7, C8, D8, C9, D9, D3, D7, E, F⟩ K hK
              have e1 := C1 (hp.of 1 (by kernel_rfl))
              go_simp
              have hxa : Ext w' (w'.alloc (.cells ((ruC ⟨bl, so, ue, io, gr, uo⟩)).toArray 28)) := Below.alloc (Below.refl _ _) (Nat.le_refl _) _
              refine hK _ _ ?_
              exact ⟨fun h => C0 (by simpa using h), fun h => C1 (by simpa using h), fun _ _ => ⟨_, rfl, Array.getElem?_push_size⟩, fun h => ownz_ext (C3 (by simpa using h)) hxa, fun h => C4 (by simpa using h), fun h => C5 (by simpa using h), fun h h2 => by obtain ⟨g', q1, q2⟩ := C6 (by simpa using h) (by simpa using h2); exact ⟨g', q1, ext_at hxa q2⟩, fun h => ownz_ext (C7 (by simpa using h)) hxa, fun h => C8 (by simpa using h), fun h => D8 (by simpa using h), fun h => C9 (by simpa using h), fun h => D9 (by simpa using h), fun h => ownz_ext (D3 (by simpa using h)) hxa, fun h => ownz_ext (D7 (by simpa using h)) hxa, (E).trans (hxa.mono (E.size)), ext_at hxa F⟩
            · refine stepOk_some (i := 3) rfl rfl ?_
              rintro u L T w' hT hu hL hp hcl ⟨C0, C1, C2, C3, C4, C5, C6, C7, C8, D8, C9, D9, D3, D7, E, F⟩ K hK
              have e0 := C0 (hp.of 0 (by kernel_rfl))
              obtain ⟨g', e2, hg'⟩ := C2 (hp.of 2 (by kernel_rfl)) hL
              have hown := D3 hL
              refine step_pushC (w.heap.size) rfl _ _ 35 28 (by rfl) Tryd.underlying35 infoRule rfl (by omega) (by omega) (us := (ruC ⟨bl, so, ue, io, gr, uo⟩)) hown rfl (by simp [Str, Value.oneCell']) (by omega) E.size (by exact (hT _).trans e0) (by exact (hT _).trans e2) hg' ?_
              rintro v' w1 hown1 hgr1
              have hx1 := ext_pushz E hown hgr1
              refine hK _ _ ?_
              exact ⟨fun h => C0 (by simpa using h), fun h => C1 (by simpa using h), fun h h2 => absurd h2 (by simp), fun _ => hown1, fun h => C4 (by simpa using h), fun h => C5 (by simpa using h), fun h h2 => by obtain ⟨g', q1, q2⟩ := C6 (by simpa using h) (by simpa using h2); exact ⟨g', q1, keep_row hown hgr1 q2 (by decide)⟩, fun h => own_keep_row hown hgr1 (C7 (by simpa using h)) (by decide), fun h => C8 (by simpa using h), fun h => absurd h (by simp [hcl.not 8 (by kernel_rfl) hL]), fun h => C9 (by simpa using h), fun h => D9 (by simpa using h), fun h => absurd h (by simp), fun h => own_keep_row hown hgr1 (D7 (by simpa using h)) (by decide), hx1, keep_row hown hgr1 F (by decide)⟩
            · refine stepOk_some (i := 4) rfl rfl ?_
              rintro u L T w' hT hu hL hp hcl ⟨C0, C1, C2, C3, C4, C5, C6, C7, C8, D8, C9, D9, D3, D7, E, F⟩ K hK
              have e1 := C9 (hcl.not 9 (by kernel_rfl) hL)
              go_simp
              refine hK _ _ ?_
              exact ⟨fun h => C0 (by simpa using h), fun h => C1 (by simpa using h), fun h h2 => C2 (by simpa using h) (by simpa using h2), fun h => C3 (by simpa using h), fun _ => rfl, fun h => C5 (by simpa using h), fun h h2 => C6 (by simpa using h) (by simpa using h2), fun h => C7 (by simpa using h), fun h => C8 (by simpa using h), fun h => D8 (by simpa using h), fun h => C9 (by simpa using h), fun h => D9 (by simpa using h), fun h => D3 (by simpa using h), fun h => D7 (by simpa using h), E, F⟩
            · refine stepOk_some (i := 5) rfl rfl ?_
              rintro u L T w' hT hu hL hp hcl ⟨C0, C1, C2, C3, C4, C5, C6, C7, C8, D8, C9, D9, D3, D7, E, F⟩ K hK
              have e1 : u 8 = .pointer (some ⟨wr.heap.size, 0, none⟩) := hu 8 (by decide)
              obtain ⟨c0, c1, c2, c3, c4, c5⟩ := cells6 F
              go_simp
              refine hK _ _ ?_
              exact ⟨fun h => C0 (by simpa using h), fun h => C1 (by simpa using h), fun h h2 => C2 (by simpa using h) (by simpa using h2), fun h => C3 (by simpa using h), fun h => C4 (by simpa using h), fun _ => rfl, fun h h2 => C6 (by simpa using h) (by simpa using h2), fun h => C7 (by simpa using h), fun h => C8 (by simpa using h), fun h => D8 (by simpa using h), fun h => C9 (by simpa using h), fun h => D9 (by simpa using h), fun h => D3 (by simpa using h), fun h => D7 (by simpa using h), E, F⟩
            · refine stepOk_some (i := 6) rfl rfl ?_
              rintro u L T w' hT hu hL hp hcl ⟨C0, C1, C2, C3, C4, C5, C6, C7, C8, D8, C9, D9, D3, D7, E, F⟩ K hK
              have e1 := C5 (hp.of 5 (by kernel_rfl))
              go_simp
              have hxa : Ext w' (w'.alloc (.cells ((ruC ⟨bl, so, ue, io, gr, uo⟩)).toArray 26)) := Below.alloc (Below.refl _ _) (Nat.le_refl _) _
              refine hK _ _ ?_
              exact ⟨fun h => C0 (by simpa using h), fun h => C1 (by simpa using h), fun h h2 => by obtain ⟨g', q1, q2⟩ := C2 (by simpa using h) (by simpa using h2); exact ⟨g', q1, ext_at hxa q2⟩, fun h => ownz_ext (C3 (by simpa using h)) hxa, fun h => C4 (by simpa using h), fun h => C5 (by simpa using h), fun _ _ => ⟨_, rfl, Array.getElem?_push_size⟩, fun h => ownz_ext (C7 (by simpa using h)) hxa, fun h => C8 (by simpa using h), fun h => D8 (by simpa using h), fun h => C9 (by simpa using h), fun h => D9 (by simpa using h), fun h => ownz_ext (D3 (by simpa using h)) hxa, fun h => ownz_ext (D7 (by simpa using h)) hxa, (E).trans (hxa.mono (E.size)), ext_at hxa F⟩
            · refine stepOk_some (i := 7) rfl rfl ?_
              rintro u L T w' hT hu hL hp hcl ⟨C0, C1, C2, C3, C4, C5, C6, C7, C8, D8, C9, D9, D3, D7, E, F⟩ K hK
              have e0 := C4 (hp.of 4 (by kernel_rfl))
              obtain ⟨g', e2, hg'⟩ := C6 (hp.of 6 (by kernel_rfl)) hL
              have hown := D7 hL
              refine step_pushC (w.heap.size) rfl _ _ 34 26 (by rfl) Tryd.underlying34 infoRuleR rfl (by omega) (by omega) (us := (ruC ⟨bl, so, ue, io, gr, uo⟩)) hown rfl (by simp [Str, Value.oneCell']) (by omega) E.size (by exact (hT _).trans e0) (by exact (hT _).trans e2) hg' ?_
              rintro v' w1 hown1 hgr1
              have hx1 := ext_pushz E hown hgr1
              refine hK _ _ ?_
              exact ⟨fun h => C0 (by simpa using h), fun h => C1 (by simpa using h), fun h h2 => by obtain ⟨g', q1, q2⟩ := C2 (by simpa using h) (by simpa using h2); exact ⟨g', q1, keep_row hown hgr1 q2 (by decide)⟩, fun h => own_keep_row hown hgr1 (C3 (by simpa using h)) (by decide), fun h => C4 (by simpa using h), fun h => C5 (by simpa using h), fun h h2 => absurd h2 (by simp), fun _ => hown1, fun h => C8 (by simpa using h), fun h => D8 (by simpa using h), fun h => C9 (by simpa using h), fun h => absurd h (by simp [hcl.not 9 (by kernel_rfl) hL]), fun h => own_keep_row hown hgr1 (D3 (by simpa using h)) (by decide), fun h => absurd h (by simp), hx1, (hgr1.block _ (Array.getElem?_eq_some_iff.1 F).1 (fun h => HL12.out _ h.symm rfl)).trans F⟩
            · refine stepOk_some (i := 8) rfl rfl ?_
              rintro u L T w' hT hu hL hp hcl ⟨C0, C1, C2, C3, C4, C5, C6, C7, C8, D8, C9, D9, D3, D7, E, F⟩ K hK
              go_simp
              refine hK _ _ ?_
              exact ⟨fun h => C0 (by simpa using h), fun h => C1 (by simpa using h), fun h h2 => C2 (by simpa using h) (by simpa using h2), fun h => C3 (by simpa using h), fun h => C4 (by simpa using h), fun h => C5 (by simpa using h), fun h h2 => C6 (by simpa using h) (by simpa using h2), fun h => C7 (by simpa using h), fun h => absurd h (by simp), fun _ => rfl, fun h => C9 (by simpa using h), fun h => D9 (by simpa using h), fun h => D3 (by simpa using h), fun h => D7 (by simpa using h), E, F⟩
            · refine stepOk_some (i := 9) rfl rfl ?_
              rintro u L T w' hT hu hL hp hcl ⟨C0, C1, C2, C3, C4, C5, C6, C7, C8, D8, C9, D9, D3, D7, E, F⟩ K hK
              go_simp
              refine hK _ _ ?_
              exact ⟨fun h => C0 (by simpa using h), fun h => C1 (by simpa using h), fun h h2 => C2 (by simpa using h) (by simpa using h2), fun h => C3 (by simpa using h), fun h => C4 (by simpa using h), fun h => C5 (by simpa using h), fun h h2 => C6 (by simpa using h) (by simpa using h2), fun h => C7 (by simpa using h), fun h => C8 (by simpa using h), fun h => D8 (by simpa using h), fun h => absurd h (by simp), fun _ => rfl, fun h => D3 (by simpa using h), fun h => D7 (by simpa using h), E, F⟩
          · rintro u L w' hall hu ⟨C0, C1, C2, C3, C4, C5, C6, C7, C8, D8, C9, D9, D3, D7, E, F⟩
            have e8 := D8 (hall 8 (by omega)); have e9 := D9 (hall 9 (by omega)); have h3 := C3 (hall 3 (by omega)); have h7 := C7 (hall 7 (by omega))
            rw [← e8] at h3; rw [← e9] at h7
            simp only [fill, List.setIfInBounds_toArray, List.set_cons_succ, List.set_cons_zero]
            generalize u 56 = n0 at *
            generalize u 57 = n1 at *
            generalize u 58 = n2 at *
            generalize u 59 = n3 at *
            generalize u 60 = n4 at *
            generalize u 61 = n5 at *
            generalize u 62 = n6 at *
            generalize u 63 = n7 at *
            generalize u 3 = n8 at *
            generalize u 4 = n9 at *
            have H3 := Lib.hid h3; have H7 := Lib.hid h7; have HEE := Lib.hid E
            clear C0 C1 C2 C3 C4 C5 C6 C7 C8 D8 C9 D9 D3 D7 E F h3 h7 hall hu e8 e9
          -- end of two rows
            go_wp2
            go_roundw
            case rel => exact ⟨k + 1, by omega, by omega, by go_num, by rw [HP.out, List.length_append, List.flatMap_append]; simpa using H3.out, by rw [HP.out, List.length_append, List.flatMap_append]; simpa using H7.out, by rw [HP.out, HPT.out, HLT.out]; try rfl, by rw [HP.out, HBD.out]; rfl, HEE.out⟩
            case measure => simp [intOf] <;> omega
      · simp only [Bool.false_eq_true, if_true, if_false] at HTR1 HLT ⊢
        go_wp2_with fail
        refine (HTR1.out W6).mono ?_
        rintro e W7 ⟨he, hx7⟩
        subst he
        have H8 := Lib.hid (ext_at hx7 H7.out)
        have HX8 := Lib.hid (ext_trans HX7.out hx7)
        clear hx7 H7 HX7 c0 c1 c2 c3 c4 c5
        cases bd
        all_goals
          go_wp2_with fail
          have hl12 : ∀ k, u4.ownBlock = some k → wr.heap.size ≠ k := fun k hk => by have := (HWN.out.lt k hk).2; omega
          have hm6 := ownz_ext HM.out HX8.out
          have hw6 := ownz_ext HWN.out HX8.out
          have hx6 := ext_trans HXR.out HX8.out
          have hb6 := H8.out
          have HL12 := Lib.hid hl12; have HM6 := Lib.hid hm6; have HW6 := Lib.hid hw6; have HX6 := Lib.hid hx6; have HB6 := Lib.hid hb6
          clear hl12 hm6 hw6 hx6 hb6 H8 HX8
          -- two rows {'s0':56,'t':'8','m':3,'w':4,'B':'w.heap.size','w0':'w','blk':'wr.heap.size','vm':'u3','vw':'u4','n':'pk.length','xs':'(pk.flatMap ruC)','us':'(ruC ⟨bl, so, ue, io, gr, uo⟩)','eM':'28','eW':'26','tM':'35','tW':'34','infoM':'infoRule','infoW':'infoRuleR','RV':'(ruV ⟨bl, so, ue, io, gr, uo⟩)','z':'6','hm':'HM6.out','hw':'HW6.out','hE':'(Below.drew HX6.out)','hF':'HB6.out','hne':'HL12.out'}
          refine wp_region_any (by kernel_rfl) ?_
          change wpAny _ _ _ _ _ _ _ (World.drew _)
          refine wpAny_inv (n := 10) [56, 57, 58, 59, 60, 61, 62, 63, 3, 4] (fun u L w' =>
              (L 0 = true → u 56 = u3) ∧
              (L 1 = true → u 57 = (ruV ⟨bl, so, ue, io, gr, uo⟩)) ∧
              (L 2 = true → L 3 = false → ∃ g', u 58 = .slice (some ⟨g', 0, none⟩) 1 1 ∧ w'.heap[g']? = some (.cells ((ruC ⟨bl, so, ue, io, gr, uo⟩)).toArray 28 (0, 0))) ∧
              (L 3 = true → w'.ownsRow w.heap.size 28 6 (u 59) (pk.length + 1) ((pk.flatMap ruC) ++ (ruC ⟨bl, so, ue, io, gr, uo⟩))) ∧
              (L 4 = true → u 60 = u4) ∧
              (L 5 = true → u 61 = (ruV ⟨bl, so, ue, io, gr, uo⟩)) ∧
              (L 6 = true → L 7 = false → ∃ g', u 62 = .slice (some ⟨g', 0, none⟩) 1 1 ∧ w'.heap[g']? = some (.cells ((ruC ⟨bl, so, ue, io, gr, uo⟩)).toArray 26 (0, 0))) ∧
              (L 7 = true → w'.ownsRow w.heap.size 26 6 (u 63) (pk.length + 1) ((pk.flatMap ruC) ++ (ruC ⟨bl, so, ue, io, gr, uo⟩))) ∧
              (L 8 = false → u 3 = u3) ∧
              (L 8 = true → u 3 = u 59) ∧
              (L 9 = false → u 4 = u4) ∧
              (L 9 = true → u 4 = u 63) ∧
              (L 3 = false → w'.ownsRow w.heap.size 28 6 u3 pk.length (pk.flatMap ruC)) ∧
              (L 7 = false → w'.ownsRow w.heap.size 26 6 u4 pk.length (pk.flatMap ruC)) ∧
              (Below w.heap.size w w') ∧
              (w'.heap[wr.heap.size]? = some (.cells ((ruC ⟨bl, so, ue, io, gr, uo⟩)).toArray 26 (0, 0))))
            rfl (by kernel_rfl) (by kernel_rfl) rfl ?_ ?_ ?_
          · exact ⟨(fun h => by cases h), (fun h => by cases h), (fun h => by cases h), (fun h => by cases h), (fun h => by cases h), (fun h => by cases h), (fun h => by cases h), (fun h => by cases h), fun _ => rfl, (fun h => by cases h), fun _ => rfl, (fun h => by cases h), fun _ => HM6.out, fun _ => HW6.out, (Below.drew HX6.out), HB6.out⟩
          · refine ⟨⟨⟨⟨⟨⟨⟨⟨⟨⟨trivial, ?_⟩, ?_⟩, ?_⟩, ?_⟩, ?_⟩, ?_⟩, ?_⟩, ?_⟩, ?_⟩, ?_⟩
            · refine stepOk_some (i := 0) rfl rfl ?_
              rintro u L T w' hT hu hL hp hcl ⟨C0, C1, C2, C3, C4, C5, C6, C7, C8, D8, C9, D9, D3, D7, E, F⟩ K hK
              have e1 := C8 (hcl.not 8 (by kernel_rfl) hL)
              go_simp
              refine hK _ _ ?_
              exact ⟨fun _ => rfl, fun h => C1 (by simpa using h), fun h h2 => C2 (by simpa using h) (by simpa using h2), fun h => C3 (by simpa using h), fun h => C4 (by simpa using h), fun h => C5 (by simpa using h), fun h h2 => C6 (by simpa using h) (by simpa using h2), fun h => C7 (by simpa using h), fun h => C8 (by simpa using h), fun h => D8 (by simpa using h), fun h => C9 (by simpa using h), fun h => D9 (by simpa using h), fun h => D3 (by simpa using h), fun h => D7 (by simpa using h), E, F⟩
            · refine stepOk_some (i := 1) rfl rfl ?_
              rintro u L T w' hT hu hL hp hcl ⟨C0, C1, C2, C3, C4, C5, C6, C7, C8, D8, C9, D9, D3, D7, E, F⟩ K hK
              have e1 : u 8 = .pointer (some ⟨wr.heap.size, 0, none⟩) := hu 8 (by decide)
              obtain ⟨c0, c1, c2, c3, c4, c5⟩ := cells6 F
              go_simp
              refine hK _ _ ?_
              exact ⟨fun h => C0 (by simpa using h), fun _ => rfl, fun h h2 => C2 (by simpa using h) (by simpa using h2), fun h => C3 (by simpa using h), fun h => C4 (by simpa using h), fun h => C5 (by simpa using h), fun h h2 => C6 (by simpa using h) (by simpa using h2), fun h => C7 (by simpa using h), fun h => C8 (by simpa using h), fun h => D8 (by simpa using h), fun h => C9 (by simpa using h), fun h => D9 (by simpa using h), fun h => D3 (by simpa using h), fun h => D7 (by simpa using h), E, F⟩
            · refine stepOk_some (i := 2) rfl rfl ?_
              rintro u L T w' hT hu hL hp hcl ⟨C0, C1, C2, C3, C4, C5, C6, C7, C8, D8, C9, D9, D3, D7, E, F⟩ K hK
              have e1 := C1 (hp.of 1 (by kernel_rfl))
              go_simp
              have hxa : Ext w' (w'.alloc (.cells ((ruC ⟨bl, so, ue, io, gr, uo⟩)).toArray 28)) := Below.alloc (Below.refl _ _) (Nat.le_refl _) _
              refine hK _ _ ?_
              exact ⟨fun h => C0 (by simpa using h), fun h => C1 (by simpa using h), fun _ _ => ⟨_, rfl, Array.getElem?_push_size⟩, fun h => ownz_ext (C3 (by simpa using h)) hxa, fun h => C4 (by simpa using h), fun h => C5 (by simpa using h), fun h h2 => by obtain ⟨g', q1, q2⟩ := C6 (by simpa using h) (by simpa using h2); exact ⟨g', q1, ext_at hxa q2⟩, fun h => ownz_ext (C7 (by simpa using h)) hxa, fun h => C8 (by simpa using h), fun h => D8 (by simpa using h), fun h => C9 (by simpa using h), fun h => D9 (by simpa using h), fun h => ownz_ext (D3 (by simpa using h)) hxa, fun h => ownz_ext (D7 (by simpa using h)) hxa, (E).trans (hxa.mono (E.size)), ext_at hxa F⟩
            · refine stepOk_some (i := 3) rfl rfl ?_
              rintro u L T w' hT hu hL hp hcl ⟨C0, C1, C2, C3, C4, C5, C6, C7, C8, D8, C9, D9, D3, D7, E, F⟩ K hK
              have e0 := C0 (hp.of 0 (by kernel_rfl))
              obtain ⟨g', e2, hg'⟩ := C2 (hp.of 2 (by kernel_rfl)) hL
              have hown := D3 hL
              refine step_pushC (w.heap.size) rfl _ _ 35 28 (by rfl) Tryd.underlying35 infoRule rfl (by omega) (by omega) (us := (ruC ⟨bl, so, ue, io, gr, uo⟩)) hown rfl (by simp [Str, Value.oneCell']) (by omega) E.size (by exact (hT _).trans e0) (by exact (hT _).trans e2) hg' ?_
              rintro v' w1 hown1 hgr1
              have hx1 := ext_pushz E hown hgr1
              refine hK _ _ ?_
              exact ⟨fun h => C0 (by simpa using h), fun h => C1 (by simpa using h), fun h h2 => absurd h2 (by simp), fun _ => hown1, fun h => C4 (by simpa using h), fun h => C5 (by simpa using h), fun h h2 => by obtain ⟨g', q1, q2⟩ := C6 (by simpa using h) (by simpa using h2); exact ⟨g', q1, keep_row hown hgr1 q2 (by decide)⟩, fun h => own_keep_row hown hgr1 (C7 (by simpa using h)) (by decide), fun h => C8 (by simpa using h), fun h => absurd h (by simp [hcl.not 8 (by kernel_rfl) hL]), fun h => C9 (by simpa using h), fun h => D9 (by simpa using h), fun h => absurd h (by simp), fun h => own_keep_row hown hgr1 (D7 (by simpa using h)) (by decide), hx1, keep_row hown hgr1 F (by decide)⟩
            · refine stepOk_some (i := 4) rfl rfl ?_
              rintro u L T w' hT hu hL hp hcl ⟨C0, C1, C2, C3, C4, C5, C6, C7, C8, D8, C9, D9, D3, D7, E, F⟩ K hK
              have e1 := C9 (hcl.not 9 (by kernel_rfl) hL)
              go_simp
              refine hK _ _ ?_
              exact ⟨fun h => C0 (by simpa using h), fun h => C1 (by simpa using h), fun h h2 => C2 (by simpa using h) (by simpa using h2), fun h => C3 (by simpa using h), fun _ => rfl, fun h => C5 (by simpa using h), fun h h2 => C6 (by simpa using h) (by simpa using h2), fun h => C7 (by simpa using h), fun h => C8 (by simpa using h), fun h => D8 (by simpa using h), fun h => C9 (by simpa using h), fun h => D9 (by simpa using h), fun h => D3 (by simpa using h), fun h => D7 (by simpa using h), E, F⟩
            · refine stepOk_some (i := 5) rfl rfl ?_
              rintro u L T w' hT hu hL hp hcl ⟨C0, C1, C2, C3, C4, C5, C6, C7, C8, D8, C9, D9, D3, D7, E, F⟩ K hK
              have e1 : u 8 = .pointer (some ⟨wr.heap.size, 0, none⟩) := hu 8 (by decide)
              obtain ⟨c0, c1, c2, c3, c4, c5⟩ := cells6 F
              go_simp
              refine hK _ _ ?_
              exact ⟨fun h => C0 (by simpa using h), fun h => C1 (by simpa using h), fun h h2 => C2 (by simpa using h) (by simpa using h2), fun h => C3 (by simpa using h), fun h => C4 (by simpa using h), fun _ => rfl, fun h h2 => C6 (by simpa using h) (by simpa using h2), fun h => C7 (by simpa using h), fun h => C8 (by simpa using h), fun h => D8 (by simpa using h), fun h => C9 (by simpa using h), fun h => D9 (by simpa using h), fun h => D3 (by simpa using h), fun h => D7 (by simpa using h), E, F⟩
            · refine stepOk_some (i := 6) rfl rfl ?_
              rintro u L T w' hT hu hL hp hcl ⟨C0, C1, C2, C3, C4, C5, C6, C7, C8, D8, C9, D9, D3, D7, E, F⟩ K hK
              have e1 := C5 (hp.of 5 (by kernel_rfl))
              go_simp
              have hxa : Ext w' (w'.alloc (.cells ((ruC ⟨bl, so, ue, io, gr, uo⟩)).toArray 26)) := Below.alloc (Below.refl _ _) (Nat.le_refl _) _
              refine hK _ _ ?_
              exact ⟨fun h => C0 (by simpa using h), fun h => C1 (by simpa using h), fun h h2 => by obtain ⟨g', q1, q2⟩ := C2 (by simpa using h) (by simpa using h2); exact ⟨g', q1, ext_at hxa q2⟩, fun h => ownz_ext (C3 (by simpa using h)) hxa, fun h => C4 (by simpa using h), fun h => C5 (by simpa using h), fun _ _ => ⟨_, rfl, Array.getElem?_push_size⟩, fun h => ownz_ext (C7 (by simpa using h)) hxa, fun h => C8 (by simpa using h), fun h => D8 (by simpa using h), fun h => C9 (by simpa using h), fun h => D9 (by simpa using h), fun h => ownz_ext (D3 (by simpa using h)) hxa, fun h => ownz_ext (D7 (by simpa using h)) hxa, (E).trans (hxa.mono (E.size)), ext_at hxa F⟩
            · refine stepOk_some (i := 7) rfl rfl ?_
              rintro u L T w' hT hu hL hp hcl ⟨C0, C1, C2, C3, C4, C5, C6, C7, C8, D8, C9, D9, D3, D7, E, F⟩ K hK
              have e0 := C4 (hp.of 4 (by kernel_rfl))
              obtain ⟨g', e2, hg'⟩ := C6 (hp.of 6 (by kernel_rfl)) hL
              have hown := D7 hL
              refine step_pushC (w.heap.size) rfl _ _ 34 26 (by rfl) Tryd.underlying34 infoRuleR rfl (by omega) (by omega) (us := (ruC ⟨bl, so, ue, io, gr, uo⟩)) hown rfl (by simp [Str, Value.oneCell']) (by omega) E.size (by exact (hT _).trans e0) (by exact (hT _).trans e2) hg' ?_
              rintro v' w1 hown1 hgr1
              have hx1 := ext_pushz E hown hgr1
              refine hK _ _ ?_
              exact ⟨fun h => C0 (by simpa using h), fun h => C1 (by simpa using h), fun h h2 => by obtain ⟨g', q1, q2⟩ := C2 (by simpa using h) (by simpa using h2); exact ⟨g', q1, keep_row hown hgr1 q2 (by decide)⟩, fun h => own_keep_row hown hgr1 (C3 (by simpa using h)) (by decide), fun h => C4 (by simpa using h), fun h => C5 (by simpa using h), fun h h2 => absurd h2 (by simp), fun _ => hown1, fun h => C8 (by simpa using h), fun h => D8 (by simpa using h), fun h => C9 (by simpa using h), fun h => absurd h (by simp [hcl.not 9 (by kernel_rfl) hL]), fun h => own_keep_row hown hgr1 (D3 (by simpa using h)) (by decide), fun h => absurd h (by simp), hx1, (hgr1.block _ (Array.getElem?_eq_some_iff.1 F).1 (fun h => HL12.out _ h.symm rfl)).trans F⟩
            · refine stepOk_some (i := 8) rfl rfl ?_
              rintro u L T w' hT hu hL hp hcl ⟨C0, C1, C2, C3, C4, C5, C6, C7, C8, D8, C9, D9, D3, D7, E, F⟩ K hK
              go_simp
              refine hK _ _ ?_
              exact ⟨fun h => C0 (by simpa using h), fun h => C1 (by simpa using h), fun h h2 => C2 (by simpa using h) (by simpa using h2), fun h => C3 (by simpa using h), fun h => C4 (by simpa using h), fun h => C5 (by simpa using h), fun h h2 => C6 (by simpa using h) (by simpa using h2), fun h => C7 (by simpa using h), fun h => absurd h (by simp), fun _ => rfl, fun h => C9 (by simpa using h), fun h => D9 (by simpa using h), fun h => D3 (by simpa using h), fun h => D7 (by simpa using h), E, F⟩
            · refine stepOk_some (i := 9) rfl rfl ?_
              rintro u L T w' hT hu hL hp hcl ⟨C0, C1, C2, C3, C4, C5, C6, C7, C8, D8, C9, D9, D3, D7, E, F⟩ K hK
              go_simp
              refine hK _ _ ?_
              exact ⟨fun h => C0 (by simpa using h), fun h => C1 (by simpa using h), fun h h2 => C2 (by simpa using h) (by simpa using h2), fun h => C3 (by simpa using h), fun h => C4 (by simpa using h), fun h => C5 (by simpa using h), fun h h2 => C6 (by simpa using h) (by simpa using h2), fun h => C7 (by simpa using h), fun h => C8 (by simpa using h), fun h => D8 (by simpa using h), fun h => absurd h (by simp), fun _ => rfl, fun h => D3 (by simpa using h), fun h => D7 (by simpa using h), E, F⟩
          · rintro u L w' hall hu ⟨C0, C1, C2, C3, C4, C5, C6, C7, C8, D8, C9, D9, D3, D7, E, F⟩
            have e8 := D8 (hall 8 (by omega)); have e9 := D9 (hall 9 (by omega)); have h3 := C3 (hall 3 (by omega)); have h7 := C7 (hall 7 (by omega))
            rw [← e8] at h3; rw [← e9] at h7
            simp only [fill, List.setIfInBounds_toArray, List.set_cons_succ, List.set_cons_zero]
            generalize u 56 = n0 at *
            generalize u 57 = n1 at *
            generalize u 58 = n2 at *
            generalize u 59 = n3 at *
            generalize u 60 = n4 at *
            generalize u 61 = n5 at *
            generalize u 62 = n6 at *
            generalize u 63 = n7 at *
            generalize u 3 = n8 at *
            generalize u 4 = n9 at *
            have H3 := Lib.hid h3; have H7 := Lib.hid h7; have HEE := Lib.hid E
            clear C0 C1 C2 C3 C4 C5 C6 C7 C8 D8 C9 D9 D3 D7 E F h3 h7 hall hu e8 e9
          -- end of two rows
            go_wp2
            go_roundw
            case rel => exact ⟨k + 1, by omega, by omega, by go_num, by rw [HP.out, List.length_append, List.flatMap_append]; simpa using H3.out, by rw [HP.out, List.length_append, List.flatMap_append]; simpa using H7.out, by rw [HP.out, HPT.out, HLT.out]; try rfl, by rw [HP.out, HBD.out]; rfl, HEE.out⟩
            case measure => simp [intOf] <;> omega
    · have hpl := fewL_len ls k
      have hpb := fewL_b (k := k) HI.out
      have hba := badB_all (fewL ls k)
      generalize fewL ls k = pk at *
      have HN := Lib.hid (fun v W hr => new_any v pk (by omega) hpb W hr)
      have HB := Lib.hid hpb
      have HRL := Lib.hid (fun po W hp => rulesL_any po pk (by omega) 1000 (by omega) (by omega) W hp)
      have HPX := Lib.hid (fun po W hW hp => polText_any po pk (by omega) hpb W hW hp)
      rw [List.take_of_length_le (by omega)] at HRL
      generalize polT pk = tp at *
      rw [hba]
      clear hpb HI HF HTM HTR hba
      have hend : ¬ k < ls.length ∨ (k < ls.length ∧ decide ((35 : Int) ≤ (k : Int)) = true ∧ ∃ g o, ao = some ⟨g, o, none⟩ ∧ ∃ q, (∀ (W : World), (Instr.indexAt 34 (.slice (some ⟨g, o, none⟩) ls.length cap) (.int .i64 (k : Int))).run Tryd.prog W = .ok (.pointer (some ⟨g, q, none⟩)) W) ∧ ∃ r : Ru, wr.cell? ⟨g, q, none⟩ = some (.bool r.al) ∧ wr.cell? ⟨g, q + 1, none⟩ = some (Str r.ro) ∧ wr.cell? ⟨g, q + 2, none⟩ = some (Str r.te) ∧ wr.cell? ⟨g, q + 3, none⟩ = some (Str r.ho) ∧
          wr.cell? ⟨g, q + 4, none⟩ = some (.int .i64 r.fr) ∧ wr.cell? ⟨g, q + 5, none⟩ = some (.int .i64 r.to)) := by
        by_cases h : k < ls.length
        · right
          refine ⟨h, by simp; omega, ?_⟩
          rcases HCL.out with h0 | ⟨g, o, hao, hcl⟩
          · subst h0; simp at h
          · obtain ⟨b0, b1, b2, b3, b4, b5⟩ := hcl k h
            exact ⟨g, o, hao, o + 6 * k, HIX.out g o ls.length cap k h, ls.getD k ruD, ext_cell HXR.out b0, ext_cell HXR.out b1, ext_cell HXR.out b2, ext_cell HXR.out b3, ext_cell HXR.out b4, ext_cell HXR.out b5⟩
        · left; exact h
      clear HCL HIX
      rcases hend with hlt | ⟨hlt, t35, g0, o0, hao, q0, hix0, r0, k0, k1, k2, k3, k4, k5⟩
      rotate_left 1
      subst hao
      rotate_left 1
      all_goals
        go_wp2_with fail
        first
          | refine (HN.out u3 wr (rowC_of_own ruC_len HM.out)).mono ?_
          | refine (HN.out u3 (wr.alloc _) (rowC_of_own ruC_len (ownz_ext HM.out (Below.alloc (Below.refl _ _) (Nat.le_refl _) _)))).mono ?_
        try clear k0 k1 k2 k3 k4 k5 hix0
        rintro e W2 ⟨hnr, hx2'⟩
        have hx2 : Ext wr W2 := by first | exact hx2' | exact ext_trans (Below.alloc (Below.refl _ _) (Nat.le_refl _) _) hx2'
        clear hx2'
        have HX2 := Lib.hid (ext_trans HXR.out hx2)
        have hwsz := HX2.out.size
        rcases hnr with ⟨hall, he⟩ | ⟨hall, h32, he⟩ | ⟨hall, h32, b, he, hpol⟩
        · subst he
          rw [hall]
          clear hall hx2
          go_wp2
          go_ret
          exact ⟨rfl, HX2.out⟩
        · subst he
          rw [hall]
          have t32 : decide ((32 : Int) < (pk.length : Int)) = true := by simp; omega
          obtain ⟨ao4, cap4, hv4, _⟩ := ownz_shape HWN.out
          subst hv4
          clear hall hx2
          go_wp2
          go_ret
          exact ⟨rfl, HX2.out⟩
        · subst he
          rw [hall]
          have t32 : decide ((32 : Int) < (pk.length : Int)) = false := by simp; omega
          have HPOL : Hid (PolOwn wr.heap.size W2 b pk) := Lib.hid (by first | exact hpol | exact polOwn_base hpol (by simp))
          have HM2 := Lib.hid (ownz_ext HM.out hx2); have HW2 := Lib.hid (ownz_ext HWN.out hx2)
          have hmlt : ∀ j, u3.ownBlock = some j → w.heap.size ≤ j ∧ j < wr.heap.size := fun j hj => HM.out.lt j hj
          have HMLT := Lib.hid hmlt
          have hshape : (u3 = .slice none 0 0 ∧ pk.length = 0) ∨ ∃ g cap cur, u3 = .slice (some ⟨g, 0, none⟩) pk.length cap ∧ W2.heap[g]? = some (.cells cur 28 (0, 0)) ∧ pk.length ≤ cap ∧ cur.size = cap * 6 := by
            rcases HM2.out.2 with ⟨hn, h0⟩ | ⟨g, cap, cur, hv, _, hg, hle, _, hs, _⟩
            · exact .inl ⟨hn, h0⟩
            · exact .inr ⟨g, cap, cur, hv, hg, hle, hs⟩
          have HSH := Lib.hid hshape
          have HIX := Lib.hid index_rule
          have hsz2 := hx2.size
          have HM1 := Lib.hid (ownz_shape HM.out)
          obtain ⟨ao3, cap3, hv3, _⟩ := ownz_shape HM.out
          obtain ⟨ao4, cap4, hv4, _⟩ := ownz_shape HW2.out
          subst hv4
          have HV3 := Lib.hid hv3
          clear hall hx2 hpol hmlt hshape HM HWN HM2 HM1
          subst hv3
          generalize wr = wo at *
          go_wp2
          go_loopw [15, 90] (fun _ i wr => ∃ k : Nat, k ≤ pk.length ∧ i = .int .i64 k ∧ Chg (fun j => (Value.slice ao3 pk.length cap3).ownBlock = some j) W2 wr ∧ (∀ g cap cur, Value.slice ao3 pk.length cap3 = .slice (some ⟨g, 0, none⟩) pk.length cap → W2.heap[g]? = some (.cells cur 28 (0, 0)) → ∃ cur', wr.heap[g]? = some (.cells cur' 28 (0, 0)) ∧ cur'.size = cur.size)) (fun _ i _ => pk.length - (intOf i).toNat)
          case atStart => exact ⟨0, by omega, rfl, Chg.refl _ _, fun g cap cur _ h => ⟨cur, h, rfl⟩⟩
          case round =>
            obtain ⟨q, hq, rfl, hch, hcur⟩ := hrel
            by_cases hqk : q < pk.length
            · rcases HSH.out with ⟨_, h0⟩ | ⟨g, cap, cur, hv, hg, hle, hs⟩
              · omega
              injection hv with hv1 hv2 hv3
              subst hv1 hv3
              obtain ⟨cur', hg', hs'⟩ := hcur g cap3 cur rfl hg
              have hix := HIX.out g 0 pk.length cap3 q hqk
              have hb : 6 * q + 6 ≤ cur'.size := by rw [hs', hs]; omega
              have hcell : ∀ j, j < 6 → ∃ v, wr.cell? ⟨g, 0 + 6 * q + j, none⟩ = some v := fun j hj => by
                rw [cell_of_row wr g _ cur' _ (0, 0) hg']
                exact ⟨_, Array.getElem?_eq_getElem (by omega)⟩
              obtain ⟨v0', c0⟩ := hcell 0 (by omega); obtain ⟨v1', c1⟩ := hcell 1 (by omega); obtain ⟨v2', c2⟩ := hcell 2 (by omega); obtain ⟨v3', c3⟩ := hcell 3 (by omega); obtain ⟨v4', c4⟩ := hcell 4 (by omega); obtain ⟨v5', c5⟩ := hcell 5 (by omega)
              rw [Nat.add_zero] at c0
              have hfz := frozen_row hg'
              have HS6 := Lib.hid (fun x => store6 (q := x) hg' (.bool false) (Str []) (Str []) (Str []) (.int .i64 0) (.int .i64 0))
              have HCH := Lib.hid hch; have HG := Lib.hid hg; have HS' := Lib.hid hs'
              clear hcell hg hg' hs hs' hch hcur hb
              generalize 0 + 6 * q = x at *
              go_wp2
              obtain ⟨⟨cur2, e1, e2⟩, hc2⟩ := HS6.out x
              simp only [Str] at e1 e2 hc2
              generalize ((((((wr.setCell _ _).setCell _ _).setCell _ _).setCell _ _).setCell _ _).setCell _ _) = W6 at *
              clear c0 c1 c2 c3 c4 c5 hfz HS6
              go_roundw
              case rel =>
                refine ⟨q + 1, by omega, by go_num, HCH.out.trans (hc2.mono fun j hj => by have hj' : j = g := hj; subst hj'; rfl), fun g' cap' cur0 he h0 => ?_⟩
                injection he with he1 _ _
                injection he1 with he1
                injection he1 with he1 _ _
                subst he1
                rw [HG.out] at h0
                injection h0 with h0
                injection h0 with h0 _ _
                subst h0
                exact ⟨cur2, e1, e2.trans HS'.out⟩
              case measure => simp [intOf] <;> omega
            · have hqe : q = pk.length := by omega
              subst hqe
              have hkeep : ∀ j, wo.heap.size ≤ j → j < W2.heap.size → wr.heap[j]? = W2.heap[j]? := fun j h1 h2 => hch.block j h2 (fun hj => by have := HMLT.out j hj; omega)
              have hpv : PolV wr (some ⟨b, 0, none⟩) pk := .inr ⟨b, rfl, (polOwn_keep HPOL.out hkeep).at⟩
              have hw4 := ownz_keep HW2.out (w' := wr) fun g' _ _ hk => hch.block g' (kind_lt hk) (fun hj => by
                rcases HSH.out with ⟨hn, _⟩ | ⟨g, cap, cur, hv, hg, _⟩
                · rw [hn] at hj; simp [Value.ownBlock] at hj
                · rw [hv] at hj
                  simp [Value.ownBlock] at hj
                  subst hj
                  rw [kind_of_cells hg] at hk
                  exact absurd hk (by decide))
              have hxw : Ext w wr := below_chg HX2.out hch (fun j hj => (HMLT.out j hj).1) (Nat.le_refl _)
              have HPV := Lib.hid hpv; have HW4 := Lib.hid hw4; have HXW := Lib.hid hxw
              clear hkeep hpv hw4 hxw hch hcur HSH HPOL HW2 HMLT hqk
              go_wp2_with fail
              refine (HRL.out _ _ HPV.out).mono ?_
              rintro e W5 ⟨v, he, hown, hx5⟩
              subst he
              have HO5 := Lib.hid hown; have HP5 := Lib.hid (HPV.out.ext hx5); have HW5 := Lib.hid (ownz_ext HW4.out hx5); have HX5 := Lib.hid (ext_trans HXW.out hx5)
              clear hown hx5 HPV HW4 HXW
              go_wp2_with fail
              refine (equalRows_same v _ pk W5 (rowC_of_own ruC_len HO5.out) (rowC_of_own ruC_len HW5.out)).mono ?_
              rintro e W6 ⟨he, hx6⟩
              subst he
              have HP6 := Lib.hid (HP5.out.ext hx6); have HX6 := Lib.hid (ext_trans HX5.out hx6)
              clear hx6 HP5 HX5 HO5 HW5
              go_wp2_with fail
              refine (HPX.out _ _ (HL.out.ext HX6.out) HP6.out).mono ?_
              rintro e W7 ⟨he, hx7⟩
              subst he
              have HX7 := Lib.hid (ext_trans HX6.out hx7)
              clear hx7
              go_wp2
              go_ret
              exact ⟨ret_bool (by simp), HX7.out⟩
theorem texts_card (w : World) (v0 : Value) (ls : List Ru) (hr : RowU w v0 ls) (hb : ∀ x ∈ ls, RuW x) (hL : Lb w) :
    Calls Tryd.prog 8 #[v0] w fun e w' => e = .returned (.bool true) ∧ Ext w w' :=
  texts_any v0 ls (fun x hx => ⟨bounds_i64 (hb x hx).fr, bounds_i64 (hb x hx).to⟩) w hL hr
end Go.Proofs.YtjbobblnicnhnaaDoor
