/-
  RuleIdles.
-/
import Derived.BigGuardPart
import Derived.RegionTactic
import Derived.Deep.DrawnRows
import Derived.Test.YtjbobblnicnhnaaDoorRows
import Derived.Test.YtjbobblnicnhnaaDoorSys
import Derived.Test.YtjbobblnicnhnaaDoorRdi
import Derived.Test.YtjbobblnicnhnaaDoorBsy
import Derived.Test.YtjbobblnicnhnaaDoorKit
import Derived.Test.YtjbobblnicnhnaaDoorShj
import Derived.Test.YtjbobblnicnhnaaDoorAgr
import Derived.WalkKit
import Derived.ProofKit
import Derived.OpenShut
namespace Go.Proofs.YtjbobblnicnhnaaDoor
open Go.RowKit
set_option maxRecDepth 100000
attribute [local go_sem ↓] Go.wp_at_zero Go.wp_at_succ
set_option linter.unusedVariables false
set_option linter.unusedSimpArgs false

theorem own_ints {w : World} {B : Nat} {v : Value} {xs : List Nat} (h : w.ownsRow B 3 1 v xs.length (xs.map Nt)) : (v = .slice none 0 0 ∧ xs = []) ∨ ∃ g cap, v = .slice (some ⟨g, 0, none⟩) xs.length cap ∧ ∀ j, j < (xs.map fun n : Nat => (n : Int)).length → w.cell? ⟨g, 0 + j, none⟩ = some (.int .i64 ((xs.map fun n : Nat => (n : Int)).getD j 0)) := by
  rcases h.2 with ⟨hv, hn⟩ | ⟨g, cap, cur, hv, _, hg, _, _, _, ht⟩
  · exact .inl ⟨hv, List.eq_nil_of_length_eq_zero hn⟩
  · refine .inr ⟨g, cap, hv, fun j hj => ?_⟩
    rw [List.length_map] at hj
    have h1 : (xs.map Nt)[j]? = some (Nt xs[j]) := by simp [hj]
    rw [← ht, List.getElem?_take, if_pos (by omega)] at h1
    rw [Nat.zero_add, cell_of_row w g j cur _ (0, 0) hg, ← Array.getElem?_toList, h1]
    simp [List.getD, hj]
theorem contains_own {w : World} {B : Nat} {v : Value} {xs : List Nat} (h : w.ownsRow B 3 1 v xs.length (xs.map Nt)) (hl : xs.length ≤ 1000000) (i : Nat) (b : Bool) (hb : b = true ↔ i ∈ xs) :
    Calls Tryd.prog 27 #[v, .int .i64 (i : Int)] w fun e w' => e = .returned (.bool b) ∧ w' = w := by
  have hb2 : b = decide (i ∈ xs) := by cases b <;> simp_all
  rcases own_ints h with ⟨rfl, rfl⟩ | ⟨g, cap, rfl, hc⟩
  · have := Tryd.slices_Contains_int_empty none 0 (i : Int) w
    rw [hb2]; exact this
  · have h1 := Tryd.slices_Contains_int g 0 xs.length cap (xs.map fun n : Nat => (n : Int)) (i : Int) w (by simp) (by omega) hc
    have e : ((xs.map fun n : Nat => (n : Int)).take xs.length).contains (i : Int) = b := by
      rw [hb2, List.take_of_length_le (by simp), Bool.eq_iff_iff]
      simp
      exact ⟨fun ⟨a, p1, p2⟩ => by obtain rfl : a = i := by omega
                                   exact p1, fun h => ⟨i, h, rfl⟩⟩
    rw [e] at h1
    exact h1
theorem equal_own {w : World} {B B' : Nat} {v v' : Value} {xs : List Nat} (h : w.ownsRow B 3 1 v xs.length (xs.map Nt)) (h' : w.ownsRow B' 3 1 v' xs.length (xs.map Nt)) (hl : xs.length ≤ 1000000) :
    Calls Tryd.prog 25 #[v, v'] w fun e w' => e = .returned (.bool true) ∧ Ext w w' := by
  rcases own_ints h with ⟨rfl, rfl⟩ | ⟨g, cap, rfl, hc⟩
  · obtain ⟨ao, cap, hv', _⟩ := ownz_shape h'
    subst hv'
    exact (Tryd.slices_Equal_int_empty none ao 0 0 cap w (by omega)).mono fun e w' ⟨he, hw⟩ => ⟨he, by rw [hw]; exact ext_refl w⟩
  · rcases own_ints h' with ⟨rfl, rfl⟩ | ⟨g', cap', rfl, hc'⟩
    · exact (Tryd.slices_Equal_int_empty _ none cap 0 0 w (by omega)).mono fun e w' ⟨he, hw⟩ => ⟨he, by rw [hw]; exact ext_refl w⟩
    · refine (Tryd.slices_Equal_int g 0 xs.length cap g' 0 xs.length cap' (xs.map fun n : Nat => (n : Int)) (xs.map fun n : Nat => (n : Int)) w (by simp) (by simp) (by omega) (by omega) hc hc').mono fun e w' ⟨he, q, hw⟩ => ⟨by rw [he]; simp, by rw [hw]; exact ext_drewN (ext_refl w) q⟩
theorem busy_b {rs : List Ru} (h : ∀ r ∈ rs, RuB r) : ∀ r ∈ busyL rs rs.length, RuB r := fun r hr => by
  obtain ⟨i, hi, rfl⟩ := busyL_mem (Nat.le_refl _) hr
  exact h _ (by simp [List.getD, hi])
theorem busy_ok {rs : List Ru} (h : rs.all ruOk = true) : (busyL rs rs.length).all ruOk = true := by
  rw [List.all_eq_true] at h ⊢
  intro r hr
  obtain ⟨i, hi, rfl⟩ := busyL_mem (Nat.le_refl _) hr
  exact h _ (by simp [List.getD, hi])
set_option maxHeartbeats 4000000 in
theorem idles_any (v0 : Value) (ls : List Ru) (hI : ∀ r ∈ ls, I64 r.fr ∧ I64 r.to) (a1 a2 a3 : List UInt8) (p : Int) (w : World) (hL : Lb w) (hr : RowU w v0 ls) :
    Calls Tryd.prog 6 #[v0, Str a1, Str a2, Str a3, .int .i64 p] w fun e w' => e = .returned (.bool true) ∧ Ext w w' := by
  have HL := Lib.hid hL
  have HA := Lib.hid (fun W hW => awake_law W hW)
  have HF := Lib.hid (fun (r : Ru) W => few_any r W)
  have HRT := Lib.hid (fun (r : Ru) (hb : RuB r) W => rightR_any r hb W)
  have HIX := Lib.hid index_ruleR
  obtain ⟨ao, cap, hv, hcap, hmax, hcl⟩ := rowU_shape hr
  unfold maxLen at hmax
  have HCL := Lib.hid hcl
  have HI := Lib.hid hI
  clear hL hr hcl hI
  subst hv
  go_enter Tryd.func6, Tryd.ntmps6
  go_wp2_with fail
  refine (HA.out w HL.out).mono ?_
  rintro e W1 ⟨he, hx1⟩
  subst he
  have HX1 := Lib.hid hx1
  clear hx1 HA
  go_wp2
  go_loopw [11, 13, 29] (fun v1 v2 i wr => ∃ k : Nat, k ≤ ls.length ∧ i = .int .i64 k ∧ wr.ownsRow w.heap.size 28 6 v1 (pickR 12 ls k).length ((pickR 12 ls k).flatMap ruC) ∧
    wr.ownsRow w.heap.size 26 6 v2 (pickR 12 ls k).length ((pickR 12 ls k).flatMap ruC) ∧ Ext w wr) (fun _ _ i _ => ls.length - (intOf i).toNat)
  case atStart => exact ⟨0, by omega, rfl, World.ownsRow_nil _ _ _ _, World.ownsRow_nil _ _ _ _, HX1.out⟩
  case round =>
    obtain ⟨k, hk, rfl, hm, hwn, hxr⟩ := hrel
    have HM := Lib.hid hm; have HWN := Lib.hid hwn; have HXR := Lib.hid hxr
    clear hm hwn hxr
    by_cases hlt : k < ls.length
    · obtain ⟨g, o, hao, hcl⟩ : ∃ g o, ao = some ⟨g, o, none⟩ ∧ ∀ j, j < ls.length → w.cell? ⟨g, o + 6 * j, none⟩ = some (.bool (ls.getD j ruD).al) ∧ w.cell? ⟨g, o + 6 * j + 1, none⟩ = some (Str (ls.getD j ruD).ro) ∧ w.cell? ⟨g, o + 6 * j + 2, none⟩ = some (Str (ls.getD j ruD).te) ∧ w.cell? ⟨g, o + 6 * j + 3, none⟩ = some (Str (ls.getD j ruD).ho) ∧
          w.cell? ⟨g, o + 6 * j + 4, none⟩ = some (.int .i64 (ls.getD j ruD).fr) ∧ w.cell? ⟨g, o + 6 * j + 5, none⟩ = some (.int .i64 (ls.getD j ruD).to) := by
        rcases HCL.out with h | h
        · subst h; simp at hlt
        · exact h
      subst hao
      have hix1 := HIX.out g o ls.length cap k hlt
      have HIK := Lib.hid (HI.out (ls.getD k ruD) (by simp [List.getD, hlt]))
      have HPY := Lib.hid (pick_yes (n := 12) hlt)
      have HPN := Lib.hid (pick_no (n := 12) hlt)
      obtain ⟨b0, b1, b2, b3, b4, b5⟩ := hcl k hlt
      have k0 := ext_cell HXR.out b0; have k1 := ext_cell HXR.out b1; have k2 := ext_cell HXR.out b2; have k3 := ext_cell HXR.out b3; have k4 := ext_cell HXR.out b4; have k5 := ext_cell HXR.out b5
      clear b0 b1 b2 b3 b4 b5 hcl
      have HPO := Lib.hid (pick_out (n := 12) (ls := ls) (k := k))
      have hpl := pick_len 12 ls k
      generalize pickR 12 ls k = pk at *
      generalize ls.getD k ruD = r at *
      generalize o + 6 * k = q at *
      have HF1 := Lib.hid (HF.out r)
      have hb1 := few_b r HIK.out.1 HIK.out.2
      obtain ⟨r1, hr1⟩ : ∃ r1, fewR r = r1 := ⟨_, rfl⟩
      rw [hr1] at HF1 HPY HPN hb1
      have HRT1 := Lib.hid (HRT.out r1 hb1)
      clear hr1 HF HRT hb1 HIK
      obtain ⟨al, ro, te, ho, fr, tu⟩ := r
      obtain ⟨bl, so, ue, io, gr, uo⟩ := r1
      simp only at k0 k1 k2 k3 k4 k5
      go_wp2_with fail
      obtain ⟨W1, hW1⟩ : ∃ W1, wr.alloc (.cells #[.bool al, Str ro, Str te, Str ho, .int .i64 fr, .int .i64 tu] 26) = W1 := ⟨_, rfl⟩
      have hx : Ext wr W1 := by rw [← hW1]; exact Below.alloc (Below.refl _ _) (Nat.le_refl _) _
      have hc : W1.heap[wr.heap.size]? = some (.cells #[.bool al, Str ro, Str te, Str ho, .int .i64 fr, .int .i64 tu] 26 (0, 0)) := by rw [← hW1]; exact Array.getElem?_push_size
      try rw [hW1]
      clear hW1 k0 k1 k2 k3 k4 k5 hix1
      refine (HF1.out _).mono ?_
      rintro e W2 ⟨he, hx2⟩
      subst he
      have hc2 := ext_at hx2 hc
      obtain ⟨c0, c1, c2, c3, c4, c5⟩ := cells6 hc2
      have hf2 := frozen_row hc2
      have h6 := set6 hc2 (.bool bl) (Str so) (Str ue) (Str io) (.int .i64 gr) (.int .i64 uo)
      have hb6 := below_set6 (b := wr.heap.size) (ext_trans hx hx2) (Nat.le_refl _) (.bool bl) (Str so) (Str ue) (Str io) (.int .i64 gr) (.int .i64 uo)
      have hsz := hx2.size
      by_cases h12 : k < 12
      · have t12 : decide ((k : Int) < 12) = true := by simp; omega
        go_wp2_with fail
        simp only [Str] at h6 hb6
        generalize ((((((W2.setCell _ _).setCell _ _).setCell _ _).setCell _ _).setCell _ _).setCell _ _) = W5 at *
        have H6 := Lib.hid h6; have HB6 := Lib.hid hb6
        clear h6 hb6 hc2 hc hx hx2 c0 c1 c2 c3 c4 c5 hf2
        refine (HRT1.out W5).mono ?_
        rintro e W6 ⟨he, hx6⟩
        subst he
        have H7 := Lib.hid (ext_at hx6 H6.out)
        have HX7 := Lib.hid (ext_trans HB6.out hx6)
        clear hx6 H6 HB6
        cases hok : ruOk ⟨bl, so, ue, io, gr, uo⟩ with
        | false =>
          rw [hok] at HPN
          have HP := Lib.hid (HPN.out h12 rfl)
          clear HPN HPY hok
          go_wp2
          go_roundw
          case rel => exact ⟨k + 1, by omega, by go_num, by rw [HP.out]; exact ownz_ext HM.out HX7.out, by rw [HP.out]; exact ownz_ext HWN.out HX7.out, ext_trans HXR.out HX7.out⟩
          case measure => simp [intOf] <;> omega
        | true =>
          rw [hok] at HPY
          have HP := Lib.hid (HPY.out h12 rfl)
          clear HPN HPY hok
          go_wp2_with fail
          have hl12 : ∀ k, u13.ownBlock = some k → wr.heap.size ≠ k := fun k hk => by have := (HWN.out.lt k hk).2; omega
          have hm6 := ownz_ext HM.out HX7.out
          have hw6 := ownz_ext HWN.out HX7.out
          have hx6 := ext_trans HXR.out HX7.out
          have hb6 := H7.out
          have HL12 := Lib.hid hl12; have HM6 := Lib.hid hm6; have HW6 := Lib.hid hw6; have HX6 := Lib.hid hx6; have HB6 := Lib.hid hb6
          clear hl12 hm6 hw6 hx6 hb6 H7 HX7
          -- two rows {'s0':42,'t':'15','m':11,'w':13,'B':'w.heap.size','w0':'w','blk':'wr.heap.size','vm':'u11','vw':'u13','n':'pk.length','xs':'(pk.flatMap ruC)','us':'(ruC ⟨bl, so, ue, io, gr, uo⟩)','eM':'28','eW':'26','tM':'35','tW':'34','infoM':'infoRule','infoW':'infoRuleR','RV':'(ruV ⟨bl, so, ue, io, gr, uo⟩)','z':'6','hm':'HM6.out','hw':'HW6.out','hE':'(Below.drew HX6.out)','hF':'HB6.out','hne':'HL12.out'}
          refine wp_region_any (by kernel_rfl) ?_
          change wpAny _ _ _ _ _ _ _ (World.drew _)
          refine wpAny_inv (n := 10) [42, 43, 44, 45, 46, 47, 48, 49, 11, 13] (fun u L w' =>
              (L 0 = true → u 42 = u11) ∧
              (L 1 = true → u 43 = (ruV ⟨bl, so, ue, io, gr, uo⟩)) ∧
              (L 2 = true → L 3 = false → ∃ g', u 44 = .slice (some ⟨g', 0, none⟩) 1 1 ∧ w'.heap[g']? = some (.cells ((ruC ⟨bl, so, ue, io, gr, uo⟩)).toArray 28 (0, 0))) ∧
              (L 3 = true → w'.ownsRow w.heap.size 28 6 (u 45) (pk.length + 1) ((pk.flatMap ruC) ++ (ruC ⟨bl, so, ue, io, gr, uo⟩))) ∧
              (L 4 = true → u 46 = u13) ∧
              (L 5 = true → u 47 = (ruV ⟨bl, so, ue, io, gr, uo⟩)) ∧
              (L 6 = true → L 7 = false → ∃ g', u 48 = .slice (some ⟨g', 0, none⟩) 1 1 ∧ w'.heap[g']? = some (.cells ((ruC ⟨bl, so, ue, io, gr, uo⟩)).toArray 26 (0, 0))) ∧
              (L 7 = true → w'.ownsRow w.heap.size 26 6 (u 49) (pk.length + 1) ((pk.flatMap ruC) ++ (ruC ⟨bl, so, ue, io, gr, uo⟩))) ∧
              (L 8 = false → u 11 = u11) ∧
              (L 8 = true → u 11 = u 45) ∧
              (L 9 = false → u 13 = u13) ∧
              (L 9 = true → u 13 = u 49) ∧
              (L 3 = false → w'.ownsRow w.heap.size 28 6 u11 pk.length (pk.flatMap ruC)) ∧
              (L 7 = false → w'.ownsRow w.heap.size 26 6 u13 pk.length (pk.flatMap ruC)) ∧
              (Below w.heap.size w w') ∧
              (w'.heap[wr.heap.size]? = some (.cells ((ruC ⟨bl, so, ue, io, gr, uo⟩)).toArray 26 (0, 0))))
            rfl (by kernel_rfl) (by kernel_rfl) rfl ?_ ?_ ?_
          · exact ⟨(fun h => by cases h), (fun h => by cases h), (fun h => by cases h), (fun h => by cases h), (fun h => by cases h), (fun h => by cases h), (fun h => by cases h), (fun h => by cases h), fun _ => rfl, (fun h => by cases h), fun _ => rfl, (fun h => by cases h), fun _ => HM6.out, fun _ => HW6.out, (Below.drew HX6.out), HB6.out⟩
          · refine ⟨⟨⟨⟨⟨⟨⟨⟨⟨⟨trivial, ?_⟩, ?_⟩, ?_⟩, ?_⟩, ?_⟩, ?_⟩, ?_⟩, ?_⟩, ?_⟩, ?_⟩
            · refine stepOk_some (i := 0) rfl rfl ?_
              rintro u L T w' hT hu hL hp hcl ⟨C0, C1, C2, C3, C4, C5, C6, C7, C8, D8, C9, D9, D3, D7, E, F⟩ K hK
              have e1 := C8 (hcl.not 8 (by kernel_rfl) hL)
              go_simp
              refine hK _ _ ?_
              exact ⟨fun _ => rfl, fun h => C1 (by simpa using h), fun h h2 => C2 (by simpa using h) (by simpa using h2), fun h => C3 (by simpa using h), fun h => C4 (by simpa using h), fun h => C5 (by simpa using h), fun h h2 => C6 (by simpa using h) (by simpa using h2), fun h => C7 (by simpa using h), fun h => C8 (by simpa using h), fun h => D8 (by simpa using h), fun h => C9 (by simpa using h), fun h => D9 (by simpa using h), fun h => D3 (by simpa using h), fun h => D7 (by simpa using h), E, F⟩
            · refine stepOk_some (i := 1) rfl rfl ?_
              rintro u L T w' hT hu hL hp hcl ⟨C0, C1, C2, C3, C4, C5, C6, C7, C8, D8, C9, D9, D3, D7, E, F⟩ K hK
              have e1 : u 15 = .pointer (some ⟨wr.heap.size, 0, none⟩) := hu 15 (by decide)
              obtain ⟨c0, c1, c2, c3, c4, c5⟩ := cells6 F
              go_simp
              refine hK _ _ ?_
              exact ⟨fun h => C0 (by simpa using h), fun _ => rfl, fun h h2 => C2 (by simpa using h) (by simpa using h2), fun h => C3 (by simpa using h), fun h => C4 (by simpa using h), fun h => C5 (by simpa using h), fun h h2 => C6 (by simpa using h) (by simpa using h2), fun h => C7 (by simpa using h), fun h => C8 (by simpa using h), fun h => D8 (by simpa using h), fun h => C9 (by simpa using h), fun h => D9 (by simpa using h), fun h => D3 (by simpa using h), fun h => D7 (by simpa using h), E, F⟩
            · refine stepOk_some (i := 2) rfl rfl ?_
              rintro u L T w' hT hu hL hp hcl ⟨C0, C1, C2, C3, C4, C5, C6, C7, C8, D8, C9, D9, D3, D7, E, F⟩ K hK
              have e1 := C1 (hp.of 1 (by kernel_rfl))
              go_simp
              have hxa : Ext w' (w'.alloc (.cells ((ruC ⟨bl, so, ue, io, gr, uo⟩)).toArray 28)) := Below.alloc (Below.refl _ _) (Nat.le_refl _) _
              refine hK _ _ ?_
              exact ⟨fun h => C0 (by simpa using h), fun h => C1 (by simpa using h), fun _ _ => ⟨_, rfl, Array.getElem?_push_size⟩, fun h => ownz_ext (C3 (by simpa using h)) hxa, fun h => C4 (by simpa using h), fun h => C5 (by simpa using h), fun h h2 => by obtain ⟨g', q1, q2⟩ := C6 (by simpa using h) (by simpa using h2); exact ⟨g', q1, ext_at hxa q2⟩, fun h => ownz_ext (C7 (by simpa using h)) hxa, fun h => C8 (by simpa using h), fun h => D8 (by simpa using h), fun h => C9 (by simpa using h), fun h => D9 (by simpa using h), fun h => ownz_ext (D3 (by simpa using h)) hxa, fun h => ownz_ext (D7 (by simpa using h)) hxa, (E).trans (hxa.mono (E.size)), ext_at hxa F⟩
            · refine stepOk_some (i := 3) rfl rfl ?_
              rintro u L T w' hT hu hL hp hcl ⟨C0, C1, C2, C3, C4, C5, C6, C7, C8, D8, C9, D9, D3, D7, E, F⟩ K hK
              have e0 := C0 (hp.of 0 (by kernel_rfl))
              obtain ⟨g', e2, hg'⟩ := C2 (hp.of 2 (by kernel_rfl)) hL
              have hown := D3 hL
              refine step_pushC (w.heap.size) rfl _ _ 35 28 (by rfl) Tryd.underlying35 infoRule rfl (by omega) (by omega) (us := (ruC ⟨bl, so, ue, io, gr, uo⟩)) hown rfl (by simp [Str, Value.oneCell']) (by omega) E.size (by exact (hT _).trans e0) (by exact (hT _).trans e2) hg' ?_
              rintro v' w1 hown1 hgr1
              have hx1 := ext_pushz E hown hgr1
              refine hK _ _ ?_
              exact ⟨fun h => C0 (by simpa using h), fun h => C1 (by simpa using h), fun h h2 => absurd h2 (by simp), fun _ => hown1, fun h => C4 (by simpa using h), fun h => C5 (by simpa using h), fun h h2 => by obtain ⟨g', q1, q2⟩ := C6 (by simpa using h) (by simpa using h2); exact ⟨g', q1, keep_row hown hgr1 q2 (by decide)⟩, fun h => own_keep_row hown hgr1 (C7 (by simpa using h)) (by decide), fun h => C8 (by simpa using h), fun h => absurd h (by simp [hcl.not 8 (by kernel_rfl) hL]), fun h => C9 (by simpa using h), fun h => D9 (by simpa using h), fun h => absurd h (by simp), fun h => own_keep_row hown hgr1 (D7 (by simpa using h)) (by decide), hx1, keep_row hown hgr1 F (by decide)⟩
            · refine stepOk_some (i := 4) rfl rfl ?_
              rintro u L T w' hT hu hL hp hcl ⟨C0, C1, C2, C3, C4, C5, C6, C7, C8, D8, C9, D9, D3, D7, E, F⟩ K hK
              have e1 := C9 (hcl.not 9 (by kernel_rfl) hL)
              go_simp
              refine hK _ _ ?_
              exact ⟨fun h => C0 (by simpa using h), fun h => C1 (by simpa using h), fun h h2 => C2 (by simpa using h) (by simpa using h2), fun h => C3 (by simpa using h), fun _ => rfl, fun h => C5 (by simpa using h), fun h h2 => C6 (by simpa using h) (by simpa using h2), fun h => C7 (by simpa using h), fun h => C8 (by simpa using h), fun h => D8 (by simpa using h), fun h => C9 (by simpa using h), fun h => D9 (by simpa using h), fun h => D3 (by simpa using h), fun h => D7 (by simpa using h), E, F⟩
            · refine stepOk_some (i := 5) rfl rfl ?_
              rintro u L T w' hT hu hL hp hcl ⟨C0, C1, C2, C3, C4, C5, C6, C7, C8, D8, C9, D9, D3, D7, E, F⟩ K hK
              have e1 : u 15 = .pointer (some ⟨wr.heap.size, 0, none⟩) := hu 15 (by decide)
              obtain ⟨c0, c1, c2, c3, c4, c5⟩ := cells6 F
              go_simp
              refine hK _ _ ?_
              exact ⟨fun h => C0 (by simpa using h), fun h => C1 (by simpa using h), fun h h2 => C2 (by simpa using h) (by simpa using h2), fun h => C3 (by simpa using h), fun h => C4 (by simpa using h), fun _ => rfl, fun h h2 => C6 (by simpa using h) (by simpa using h2), fun h => C7 (by simpa using h), fun h => C8 (by simpa using h), fun h => D8 (by simpa using h), fun h => C9 (by simpa using h), fun h => D9 (by simpa using h), fun h => D3 (by simpa using h), fun h => D7 (by simpa using h), E, F⟩
            · refine stepOk_some (i := 6) rfl rfl ?_
              rintro u L T w' hT hu hL hp hcl ⟨C0, C1, C2, C3, C4, C5, C6, C7, C8, D8, C9, D9, D3, D7, E, F⟩ K hK
              have e1 := C5 (hp.of 5 (by kernel_rfl))
              go_simp
              have hxa : Ext w' (w'.alloc (.cells ((ruC ⟨bl, so, ue, io, gr, uo⟩)).toArray 26)) := Below.alloc (Below.refl _ _) (Nat.le_refl _) _
              refine hK _ _ ?_
              exact ⟨fun h => C0 (by simpa using h), fun h => C1 (by simpa using h), fun h h2 => by obtain ⟨g', q1, q2⟩ := C2 (by simpa using h) (by simpa using h2); exact ⟨g', q1, ext_at hxa q2⟩, fun h => ownz_ext (C3 (by simpa using h)) hxa, fun h => C4 (by simpa using h), fun h => C5 (by simpa using h), fun _ _ => ⟨_, rfl, Array.getElem?_push_size⟩, fun h => ownz_ext (C7 (by simpa using h)) hxa, fun h => C8 (by simpa using h), fun h => D8 (by simpa using h), fun h => C9 (by simpa using h), fun h => D9 (by simpa using h), fun h => ownz_ext (D3 (by simpa using h)) hxa, fun h => ownz_ext (D7 (by simpa using h)) hxa, (E).trans (hxa.mono (E.size)), ext_at hxa F⟩
            · refine stepOk_some (i := 7) rfl rfl ?_
              rintro u L T w' hT hu hL hp hcl ⟨C0, C1, C2, C3, C4, C5, C6, C7, C8, D8, C9, D9, D3, D7, E, F⟩ K hK
              have e0 := C4 (hp.of 4 (by kernel_rfl))
              obtain ⟨g', e2, hg'⟩ := C6 (hp.of 6 (by kernel_rfl)) hL
              have hown := D7 hL
              refine step_pushC (w.heap.size) rfl _ _ 34 26 (by rfl) Tryd.underlying34 infoRuleR rfl (by omega) (by omega) (us := (ruC ⟨bl, so, ue, io, gr, uo⟩)) hown rfl (by simp [Str, Value.oneCell']) (by omega) E.size (by exact (hT _).trans e0) (by exact (hT _).trans e2) hg' ?_
              rintro v' w1 hown1 hgr1
              have hx1 := ext_pushz E hown hgr1
              refine hK _ _ ?_
              exact ⟨fun h => C0 (by simpa using h), fun h => C1 (by simpa using h), fun h h2 => by obtain ⟨g', q1, q2⟩ := C2 (by simpa using h) (by simpa using h2); exact ⟨g', q1, keep_row hown hgr1 q2 (by decide)⟩, fun h => own_keep_row hown hgr1 (C3 (by simpa using h)) (by decide), fun h => C4 (by simpa using h), fun h => C5 (by simpa using h), fun h h2 => absurd h2 (by simp), fun _ => hown1, fun h => C8 (by simpa using h), fun h => D8 (by simpa using h), fun h => C9 (by simpa using h), fun h => absurd h (by simp [hcl.not 9 (by kernel_rfl) hL]), fun h => own_keep_row hown hgr1 (D3 (by simpa using h)) (by decide), fun h => absurd h (by simp), hx1, (hgr1.block _ (Array.getElem?_eq_some_iff.1 F).1 (fun h => HL12.out _ h.symm rfl)).trans F⟩
            · refine stepOk_some (i := 8) rfl rfl ?_
              rintro u L T w' hT hu hL hp hcl ⟨C0, C1, C2, C3, C4, C5, C6, C7, C8, D8, C9, D9, D3, D7, E, F⟩ K hK
              go_simp
              refine hK _ _ ?_
              exact ⟨fun h => C0 (by simpa using h), fun h => C1 (by simpa using h), fun h h2 => C2 (by simpa using h) (by simpa using h2), fun h => C3 (by simpa using h), fun h => C4 (by simpa using h), fun h => C5 (by simpa using h), fun h h2 => C6 (by simpa using h) (by simpa using h2), fun h => C7 (by simpa using h), fun h => absurd h (by simp), fun _ => rfl, fun h => C9 (by simpa using h), fun h => D9 (by simpa using h), fun h => D3 (by simpa using h), fun h => D7 (by simpa using h), E, F⟩
            · refine stepOk_some (i := 9) rfl rfl ?_
              rintro u L T w' hT hu hL hp hcl ⟨C0, C1, C2, C3, C4, C5, C6, C7, C8, D8, C9, D9, D3, D7, E, F⟩ K hK
              go_simp
              refine hK _ _ ?_
              exact ⟨fun h => C0 (by simpa using h), fun h => C1 (by simpa using h), fun h h2 => C2 (by simpa using h) (by simpa using h2), fun h => C3 (by simpa using h), fun h => C4 (by simpa using h), fun h => C5 (by simpa using h), fun h h2 => C6 (by simpa using h) (by simpa using h2), fun h => C7 (by simpa using h), fun h => C8 (by simpa using h), fun h => D8 (by simpa using h), fun h => absurd h (by simp), fun _ => rfl, fun h => D3 (by simpa using h), fun h => D7 (by simpa using h), E, F⟩
          · rintro u L w' hall hu ⟨C0, C1, C2, C3, C4, C5, C6, C7, C8, D8, C9, D9, D3, D7, E, F⟩
            have e8 := D8 (hall 8 (by omega)); have e9 := D9 (hall 9 (by omega)); have h3 := C3 (hall 3 (by omega)); have h7 := C7 (hall 7 (by omega))
            rw [← e8] at h3; rw [← e9] at h7
            simp only [fill, List.setIfInBounds_toArray, List.set_cons_succ, List.set_cons_zero]
            generalize u 42 = n0 at *
            generalize u 43 = n1 at *
            generalize u 44 = n2 at *
            generalize u 45 = n3 at *
            generalize u 46 = n4 at *
            generalize u 47 = n5 at *
            generalize u 48 = n6 at *
            generalize u 49 = n7 at *
            generalize u 11 = n8 at *
            generalize u 13 = n9 at *
            have H3 := Lib.hid h3; have H7 := Lib.hid h7; have HEE := Lib.hid E
            clear C0 C1 C2 C3 C4 C5 C6 C7 C8 D8 C9 D9 D3 D7 E F h3 h7 hall hu e8 e9
          -- end of two rows
            go_wp2
            go_roundw
            case rel => exact ⟨k + 1, by omega, by go_num, by rw [HP.out, List.length_append, List.flatMap_append]; simpa using H3.out, by rw [HP.out, List.length_append, List.flatMap_append]; simpa using H7.out, HEE.out⟩
            case measure => simp [intOf] <;> omega
      · have t12 : decide ((k : Int) < 12) = false := by simp; omega
        have HP := Lib.hid (HPO.out (by omega))
        have H6 := Lib.hid h6; have HB6 := Lib.hid hb6
        clear h6 hb6 hc2 hc hx hx2 HPY HPN
        go_wp2
        have h6 := H6.out; have hb6 := HB6.out
        simp only [Str] at h6 hb6
        generalize ((((((W2.setCell _ _).setCell _ _).setCell _ _).setCell _ _).setCell _ _).setCell _ _) = W5 at *
        clear c0 c1 c2 c3 c4 c5 hf2
        go_roundw
        case rel => exact ⟨k + 1, by omega, by go_num, by rw [HP.out]; exact ownz_ext HM.out hb6, by rw [HP.out]; exact ownz_ext HWN.out hb6, ext_trans HXR.out hb6⟩
        case measure => simp [intOf] <;> omega
    · have : k = ls.length := by omega
      subst this
      have hpl := pick_len 12 ls ls.length
      have hpb := pick_b (n := 12) (k := ls.length) HI.out
      have hpo := pick_ok (n := 12) (ls := ls) (k := ls.length)
      generalize pickR 12 ls ls.length = pk at *
      have HN := Lib.hid (fun v W hr => new_any v pk (by omega) hpb W hr)
      have HN2 := Lib.hid (fun v W hr => new_any v (busyL pk pk.length) (by have := busyL_len pk pk.length; omega) (busy_b hpb) W hr)
      have HBO := Lib.hid (busy_ok hpo)
      have HBB := Lib.hid (busy_b hpb)
      have HBL := Lib.hid (busyL_len pk pk.length)
      have HC3 := Lib.hid (fun W => cutText_any a3 40 W (by omega))
      have hh : (a3.take 40).length ≤ 10000 := by simp; omega
      generalize a3.take 40 = ho at *
      have HB := Lib.hid hpb; have HO := Lib.hid hpo
      clear hpb hpo HCL HI hlt HF HRT HIX
      go_wp2_with fail
      refine (HC3.out _).mono ?_
      rintro e W2 ⟨he, hw⟩
      subst he; subst W2
      go_wp2_with fail
      refine (HN.out _ _ (rowC_of_own ruC_len HM.out)).mono ?_
      rintro e W2 ⟨hnr, hx2⟩
      rcases hnr with ⟨h, _⟩ | ⟨_, h, _⟩ | ⟨_, _, b, he, hpol⟩
      · rw [HO.out] at h; cases h
      · omega
      subst he
      have hp : PolV W2 (some ⟨b, 0, none⟩) pk := .inr ⟨b, rfl, hpol.at⟩
      have HP := Lib.hid hp; have HM2 := Lib.hid (ownz_ext HM.out hx2); have HW2 := Lib.hid (ownz_ext HWN.out hx2); have HX2 := Lib.hid (ext_trans HXR.out hx2)
      clear hp hpol hx2 HM HWN HXR HN HC3
      have HID := Lib.hid (fun W hW hp => idle_any (some ⟨b, 0, none⟩) pk (by omega) HB.out W hW hp)
      go_wp2_with fail
      refine (HID.out _ (HL.out.ext HX2.out) HP.out).mono ?_
      rintro e W3 ⟨vi, he, hvi, hx3⟩
      subst he
      have HVI := Lib.hid hvi; have HP3 := Lib.hid (HP.out.ext hx3); have HM3 := Lib.hid (ownz_ext HM2.out hx3); have HW3 := Lib.hid (ownz_ext HW2.out hx3); have HX3 := Lib.hid (ext_trans HX2.out hx3)
      clear hvi hx3 HP HM2 HW2 HX2
      have HIR := Lib.hid (idleR_any u13 pk (by omega) HB.out W3 (rowC_of_own ruC_len HW3.out))
      go_wp2_with fail
      refine HIR.out.mono ?_
      rintro e W4 ⟨vr, he, hvr, hx4⟩
      subst he
      have HVR := Lib.hid hvr; have HV4 := Lib.hid (ownz_ext HVI.out hx4); have HP4 := Lib.hid (HP3.out.ext hx4); have HM4 := Lib.hid (ownz_ext HM3.out hx4); have HX4 := Lib.hid (ext_trans HX3.out hx4)
      clear hvr hx4 HP3 HM3 HW3 HX3 HVI HIR
      have hil := idleL_len pk pk.length
      go_wp2_with fail
      refine (equal_own HV4.out HVR.out (by omega)).mono ?_
      rintro e W5 ⟨he, hx5⟩
      subst he
      have HP5 := Lib.hid (HP4.out.ext hx5); have HM5 := Lib.hid (ownz_ext HM4.out hx5); have HX5 := Lib.hid (ext_trans HX4.out hx5)
      clear hx5 HP4 HM4 HX4 HV4 HVR
      go_wp2_with fail
      refine (HID.out _ (HL.out.ext HX5.out) HP5.out).mono ?_
      rintro e W6 ⟨vi, he, hvi, hx6⟩
      subst he
      have HVI := Lib.hid hvi; have HP6 := Lib.hid (HP5.out.ext hx6); have HM6 := Lib.hid (ownz_ext HM5.out hx6); have HX6 := Lib.hid (ext_trans HX5.out hx6)
      clear hvi hx6 HP5 HM5 HX5 HID
      obtain ⟨ao2, cap2, hv2, hcap2, hmax2, hcl2⟩ := rowU_shape (rowC_of_own ruC_len HM6.out)
      have HCL2 := Lib.hid hcl2
      clear hcl2
      subst hv2
      have hwsz : w.heap.size ≤ W6.heap.size := HX6.out.size
      have HIX := Lib.hid index_rule
      generalize wr = wo at *
      go_wp2
      go_loopw [12, 72] (fun bv i wr => ∃ k : Nat, k ≤ pk.length ∧ i = .int .i64 k ∧ wr.ownsRow W6.heap.size 28 6 bv (busyL pk k).length ((busyL pk k).flatMap ruC) ∧ Ext W6 wr) (fun _ i _ => pk.length - (intOf i).toNat)
      case atStart => exact ⟨0, by omega, rfl, World.ownsRow_nil _ _ _ _, ext_refl W6⟩
      case round =>
        obtain ⟨k, hk, rfl, hbv, hxr⟩ := hrel
        by_cases hlt : k < pk.length
        · obtain ⟨g, o, hao, hcl⟩ : ∃ g o, ao2 = some ⟨g, o, none⟩ ∧ ∀ j, j < pk.length → W6.cell? ⟨g, o + 6 * j, none⟩ = some (.bool (pk.getD j ruD).al) ∧ W6.cell? ⟨g, o + 6 * j + 1, none⟩ = some (Str (pk.getD j ruD).ro) ∧ W6.cell? ⟨g, o + 6 * j + 2, none⟩ = some (Str (pk.getD j ruD).te) ∧ W6.cell? ⟨g, o + 6 * j + 3, none⟩ = some (Str (pk.getD j ruD).ho) ∧
              W6.cell? ⟨g, o + 6 * j + 4, none⟩ = some (.int .i64 (pk.getD j ruD).fr) ∧ W6.cell? ⟨g, o + 6 * j + 5, none⟩ = some (.int .i64 (pk.getD j ruD).to) := by
            rcases HCL2.out with h | h
            · subst h; simp at hlt
            · exact h
          subst hao
          have hix1 := HIX.out g o pk.length cap2 k hlt
          obtain ⟨b0, b1, b2, b3, b4, b5⟩ := hcl k hlt
          have k0 := ext_cell hxr b0; have k1 := ext_cell hxr b1; have k2 := ext_cell hxr b2; have k3 := ext_cell hxr b3; have k4 := ext_cell hxr b4; have k5 := ext_cell hxr b5
          have HXR := Lib.hid hxr; have HBV := Lib.hid hbv
          have HBS := Lib.hid (busyL_succ pk k)
          have hbl := busyL_len pk k
          have HMEM := Lib.hid (idle_mem (rs := pk) hlt)
          have HVR := Lib.hid (ownz_ext HVI.out hxr)
          clear b0 b1 b2 b3 b4 b5 hcl hxr hbv
          generalize busyL pk k = bk at *
          generalize pk.getD k ruD = r at *
          generalize o + 6 * k = q at *
          obtain ⟨al, xo, xe, xh, fr, tu⟩ := r
          simp only at k0 k1 k2 k3 k4 k5
          go_wp2_with fail
          obtain ⟨W7, hW7⟩ : ∃ W7, wr.alloc (.cells #[.bool al, Str xo, Str xe, Str xh, .int .i64 fr, .int .i64 tu] 28) = W7 := ⟨_, rfl⟩
          have hx : Ext wr W7 := by rw [← hW7]; exact Below.alloc (Below.refl _ _) (Nat.le_refl _) _
          have hc : W7.heap[wr.heap.size]? = some (.cells #[.bool al, Str xo, Str xe, Str xh, .int .i64 fr, .int .i64 tu] 28 (0, 0)) := by rw [← hW7]; exact Array.getElem?_push_size
          rw [hW7]
          clear hW7 k0 k1 k2 k3 k4 k5 hix1
          obtain ⟨ib, hib⟩ : ∃ ib, idleB pk k = ib := ⟨_, rfl⟩
          rw [hib] at HBS HMEM
          refine (contains_own (ownz_ext HVR.out hx) (by omega) k ib HMEM.out.symm).mono ?_
          rintro e W8 ⟨he, hw⟩
          subst he; subst W8
          have HX7 := Lib.hid (ext_trans HXR.out hx); have HB7 := Lib.hid (ownz_ext HBV.out hx); have HC7 := Lib.hid hc
          have hs7 := hx.size
          have hwr := HXR.out.size
          clear hib hx hc
          cases ib with
          | true =>
            go_wp2
            go_roundw
            case rel => exact ⟨k + 1, by omega, by go_num, by rw [HBS.out]; simpa using HB7.out, HX7.out⟩
            case measure => simp [intOf] <;> omega
          | false =>
            obtain ⟨c0, c1, c2, c3, c4, c5⟩ := cells6 HC7.out
            go_wp2_with (at_builtin; refine wpList_pushz W6.heap.size rfl _ _ 35 28 rfl Tryd.underlying35 infoRule rfl (by omega) (by omega) HB7.out [.bool al, Str xo, Str xe, Str xh, .int .i64 fr, .int .i64 tu] rfl (by simp [Str, Value.oneCell']) (by omega) (by omega) rfl rfl ?_; rintro _ w1 ⟨g1, cap1, rfl⟩ hown1 hgr1; have HG := Lib.hid hgr1; have HO1 := Lib.hid hown1; clear hown1 hgr1)
            have HX8 := Lib.hid (ext_pushz HX7.out HB7.out HG.out)
            have HBE := Lib.hid (show busyL pk (k + 1) = bk ++ [⟨al, xo, xe, xh, fr, tu⟩] by rw [HBS.out]; simp)
            go_roundw
            case rel => exact ⟨k + 1, by omega, by go_num, by rw [HBE.out, List.length_append, List.flatMap_append]; simpa using HO1.out, HX8.out⟩
            case measure => simp [intOf] <;> omega
        · have : k = pk.length := by omega
          subst this
          have HXR := Lib.hid (ext_trans HX6.out hxr); have HBV := Lib.hid hbv; have HP7 := Lib.hid (HP6.out.ext hxr); have HVR := Lib.hid (ownz_ext HVI.out hxr)
          clear hbv hxr hlt HCL2 HIX HP6 HM6 HVI
          go_wp2_with fail
          refine (HN2.out _ _ (rowC_of_own ruC_len HBV.out)).mono ?_
          rintro e W7 ⟨hnr, hx7⟩
          rcases hnr with ⟨h, _⟩ | ⟨_, h, _⟩ | ⟨_, _, b2, he, hpol⟩
          · rw [HBO.out] at h; cases h
          · have := HBL.out; omega
          subst he
          have hq : PolV W7 (some ⟨b2, 0, none⟩) (busyL pk pk.length) := .inr ⟨b2, rfl, hpol.at⟩
          have HQ := Lib.hid hq; have HP8 := Lib.hid (HP7.out.ext hx7); have HX8 := Lib.hid (ext_trans HXR.out hx7); have HV8 := Lib.hid (ownz_ext HVR.out hx7)
          clear hq hpol hx7 HP7 HVR HXR HN2 HBV
          have HWH := Lib.hid (which_any (some ⟨b, 0, none⟩) pk (by omega) HB.out a1 a2 ho hh p W7 (HL.out.ext HX8.out) HP8.out)
          have HMAYQ := Lib.hid (fun W hW hp => may_any (some ⟨b2, 0, none⟩) (busyL pk pk.length) (by have := HBL.out; omega) HBB.out a1 a2 ho hh p W hW hp)
          have HMAYP := Lib.hid (fun W hW hp => may_any (some ⟨b, 0, none⟩) pk (by omega) HB.out a1 a2 ho hh p W hW hp)
          rw [may_busy] at HMAYQ
          generalize mayB pk a1 a2 ho p = m at *
          go_wp2_with fail
          refine HWH.out.mono ?_
          rintro e W8 ⟨he, hx8⟩
          subst he
          have HQ9 := Lib.hid (HQ.out.ext hx8); have HP9 := Lib.hid (HP8.out.ext hx8); have HX9 := Lib.hid (ext_trans HX8.out hx8); have HV9 := Lib.hid (ownz_ext HV8.out hx8)
          clear hx8 HQ HP8 HX8 HV8 HWH
          cases hwo : whichO pk a1 a2 ho p with
          | none =>
            clear hwo
            simp only [Option.getD_none, Option.isSome_none]
            go_wp2_with fail
            refine (HMAYQ.out _ (HL.out.ext HX9.out) HQ9.out).mono ?_
            rintro e Wa ⟨he, hxa⟩
            subst he
            have HPa := Lib.hid (HP9.out.ext hxa); have HXa := Lib.hid (ext_trans HX9.out hxa)
            clear hxa
            go_wp2_with fail
            refine (HMAYP.out _ (HL.out.ext HXa.out) HPa.out).mono ?_
            rintro e Wb ⟨he, hxb⟩
            subst he
            have HXb := Lib.hid (ext_trans HXa.out hxb)
            clear hxb
            go_wp2
            go_ret
            exact ⟨ret_bool (by cases m <;> rfl), HXb.out⟩
          | some i =>
            have hib := which_busy hwo
            have hi : i < pk.length := by unfold whichO at hwo; exact (List.findIdx?_eq_some_iff_getElem.1 hwo).1
            have hni : (false = true) ↔ i ∈ idleL pk pk.length := by rw [idle_mem hi, hib]
            clear hwo hib
            have hil2 := idleL_len pk pk.length
            have HCO := Lib.hid (contains_own HV9.out (by omega) i false hni)
            clear hni hi
            simp only [Option.getD_some, Option.isSome_some]
            go_wp2_with fail
            refine HCO.out.mono ?_
            rintro e Wx ⟨he, hw⟩
            subst he; subst Wx
            go_wp2_with fail
            refine (HMAYQ.out _ (HL.out.ext HX9.out) HQ9.out).mono ?_
            rintro e Wa ⟨he, hxa⟩
            subst he
            have HPa := Lib.hid (HP9.out.ext hxa); have HXa := Lib.hid (ext_trans HX9.out hxa)
            clear hxa
            go_wp2_with fail
            refine (HMAYP.out _ (HL.out.ext HXa.out) HPa.out).mono ?_
            rintro e Wb ⟨he, hxb⟩
            subst he
            have HXb := Lib.hid (ext_trans HXa.out hxb)
            clear hxb
            go_wp2
            go_ret
            exact ⟨ret_bool (by cases m <;> rfl), HXb.out⟩
theorem idles_card (w : World) (v0 : Value) (ls : List Ru) (hr : RowU w v0 ls) (hb : ∀ x ∈ ls, RuW x) (a1 a2 a3 : List UInt8) (p : Int) (_ : -9223372036854775808 ≤ p) (_ : p ≤ 9223372036854775807) (hL : Lb w) :
    Calls Tryd.prog 6 #[v0, Str a1, Str a2, Str a3, .int .i64 p] w fun e w' => e = .returned (.bool true) ∧ Ext w w' :=
  idles_any v0 ls (fun x hx => ⟨bounds_i64 (hb x hx).fr, bounds_i64 (hb x hx).to⟩) a1 a2 a3 p w hL hr
end Go.Proofs.YtjbobblnicnhnaaDoor
