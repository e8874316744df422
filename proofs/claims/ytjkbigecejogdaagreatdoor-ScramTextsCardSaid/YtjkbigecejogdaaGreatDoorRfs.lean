/-
 ref07.First at every text.
-/
import Derived.BigGuardPart
import Derived.OwnWalk
import Derived.BigQuiet
import Derived.RegionTactic
import Derived.Deep.CutBlock
import Derived.Deep.DeepCutAuto
import Derived.Deep.DrawnRows
import Derived.Test.YtjkbigecejogdaaGreatDoorRows
import Derived.Test.YtjkbigecejogdaaGreatDoorRpl
import Derived.Test.YtjkbigecejogdaaGreatDoorScb
import Derived.Test.YtjkbigecejogdaaGreatDoorRch
import Derived.Test.YtjkbigecejogdaaGreatDoorKit
namespace Go.Proofs.YtjkbigecejogdaaGreatDoor
open Go.RowKit
set_option maxRecDepth 100000
attribute [local go_sem] Oper.semAt_some
set_option linter.unusedVariables false
set_option linter.unusedSimpArgs false
theorem sl_shape2 {w : World} {a : Option Addr} {n k : Nat} {l : List Value} (h : Sl w (.slice a n k) l) : n = l.length ∧ l.length ≤ k ∧ k ≤ maxLen ∧ (a = none → k = 0) := by
 obtain ⟨ao, cap, hv, h1, h2, h3⟩ := sl_shape h
 simp only [Value.slice.injEq] at hv
 obtain ⟨rfl, rfl, rfl⟩ := hv
 exact ⟨rfl, h1, h2, h3⟩
def qF (f u : List UInt8) (b1 b2 : Bool) : Array Value := #[.int .i64 1, if b1 then Str f else Str [], if b2 then Str u else Str [], Str [], Str [], .slice none 0 0, .slice none 0 0, .int .i64 0, Str [], .slice none 0 0, Str []]
theorem cell_at {Z : World} {s t : Nat} {c : Array Value} (h : Z.heap[s]? = some (.cells c t (0, 0))) (j : Nat) (v : Value) (hv : c[j]? = some v) : Z.cell? ⟨s, j, none⟩ = some v := by
 simp only [World.cell?, h]; simpa using hv
theorem ext_set {w w' : World} {b i : Nat} {x : Value} (h : Ext w w') (hb : w.heap.size ≤ b) : Ext w (w'.setCell ⟨b, i, none⟩ x) :=
 below_chg h (Chg.setCell w' ⟨b, i, none⟩ x) (fun k hk => by have hk' : k = b := hk; omega) (Nat.le_refl _)
theorem set3q {W : World} {q t : Nat} {c : Array Value} (h : W.heap[q]? = some (.cells c t (0, 0))) (u3 u4 u5 : Value) :
    ∃ Z, ((W.setCell ⟨q, 3, none⟩ u3).setCell ⟨q, 4, none⟩ u4).setCell ⟨q, 5, none⟩ u5 = Z ∧ Z.heap[q]? = some (.cells (((c.setIfInBounds 3 u3).setIfInBounds 4 u4).setIfInBounds 5 u5) t (0, 0)) ∧ Bz q W Z :=
 ⟨_, rfl, set_at (set_at (set_at h)), ((Bz.set W q 3 u3).trans (Bz.set _ q 4 u4)).trans (Bz.set _ q 5 u5)⟩
set_option maxHeartbeats 8000000 in
theorem rFirst_any (s : List UInt8) (hl : s.length ≤ 20000) (w : World) : RdP 20 s (rFirst s) w := by
 obtain ⟨W0, hW0⟩ : ∃ W0, w.alloc (.cells zerM 27) = W0 := ⟨_, rfl⟩
 have x0 : Ext w W0 := by rw [← hW0]; exact Below.alloc (Below.refl _ _) (Nat.le_refl _) _
 have r0 : W0.heap[w.heap.size]? = some (.cells zerM 27 (0, 0)) := by rw [← hW0]; exact Array.getElem?_push_size
 have HX := Lib.hid x0; have HR := Lib.hid r0
 clear x0 r0
 have HP := Lib.hid (show rFirst s = if 4096 < s.length then (Ms0, 3) else if (spl s).length < 4 then (Ms0, 4) else rF2 (spl s) from rfl)
 unfold RdP
 generalize rFirst s = r at *
 by_cases h4 : 4096 < s.length
 ·have hr := HP.out
  rw [if_pos h4] at hr
  subst hr
  have g1 : (4096 : Int) < (s.length : Int) := by omega
  clear h4 HP
  go_enter Tryz.func20, Tryz.ntmps20
  go_wp2_with fail
  try rw [hW0]
  refine (none_any 3 _).mono ?_
  rintro e W9 ⟨rfl, hx9⟩
  have HX9 := Lib.hid (ext_trans HX.out hx9)
  have HR9 := Lib.hid (ext_at hx9 HR.out)
  clear hx9
  obtain ⟨c0, c1, c2, c3, c4, c5, c6, c7, c8, c9, c10⟩ := cells11 HR9.out
  obtain ⟨f0, f1, f2, f3, f4, f5, f6, f7, f8, f9, f10⟩ := frozen11 HR9.out
  go_wp2_with fail
  obtain ⟨Z, hZ, hr, hb⟩ := set11 HR9.out (.int .i64 0) (Str []) (Str []) (Str []) (Str []) (.slice none 0 0) (.slice none 0 0) (.int .i64 0) (Str []) (.slice none 0 0) (Str [])
  rw [hZ]
  refine bodyPost_ret (v := .tuple #[.agg zerM, .int .i64 3]) ?_ rfl ⟨⟨_, rfl, msIs0 _ _⟩, hb.ext HX9.out⟩
  obtain ⟨d0, d1, d2, d3, d4, d5, d6, d7, d8, d9, d10⟩ := cells11 hr
  clear c0 c1 c2 c3 c4 c5 c6 c7 c8 c9 c10 f0 f1 f2 f3 f4 f5 f6 f7 f8 f9 f10 hr hb hZ
  simp [results, loadVar, loadCells, Tryz.isAgg27, Tryz.sizeOf27, Tryz.results20, go_sem, d0, d1, d2, d3, d4, d5, d6, d7, d8, d9, d10]
 have g1 : ¬ (4096 : Int) < (s.length : Int) := by omega
 have hp := HP.out
 rw [if_neg h4] at hp
 have HP2 := Lib.hid hp
 have HS := Lib.hid (fun W => Split_any s (by omega) W)
 have HPL := Lib.hid (fun p (h : p ∈ spl s) => (show p.length ≤ 4096 by have := spl_mem_len s p h; omega))
 have hsl := spl_len s
 clear hp HP
 generalize spl s = l at *
 go_enter Tryz.func20, Tryz.ntmps20
 go_wp2_with fail
 try rw [hW0]
 clear hW0
 refine (HS.out _).mono ?_
 rintro e W1 ⟨v, rfl, hown, hx⟩
 have hslv := sl_of_own hown
 obtain ⟨a1, k1, rfl, hk1, hm1, hn1⟩ := sl_shape hslv
 rw [List.length_map] at hk1 hslv ⊢
 have i1 := run_index_adr (P := Tryz.prog) Tryz.underlying88 Tryz.sizeOf9 hn1 hk1
 have HI1 := Lib.hid i1
 have HSL := Lib.hid hslv
 have HX1 := Lib.hid (ext_trans HX.out hx)
 have HR1 := Lib.hid (ext_at hx HR.out)
 clear hown hx HX HR i1 hslv
 by_cases h3 : l.length < 4
 ·have hr := HP2.out
  rw [if_pos h3] at hr
  subst hr
  have g2 : (l.length : Int) < 4 := by omega
  clear HP2
  go_wp2_with fail
  refine (none_any 4 _).mono ?_
  rintro e W9 ⟨rfl, hx9⟩
  have HX9 := Lib.hid (ext_trans HX1.out hx9)
  have HR9 := Lib.hid (ext_at hx9 HR1.out)
  clear hx9
  obtain ⟨c0, c1, c2, c3, c4, c5, c6, c7, c8, c9, c10⟩ := cells11 HR9.out
  obtain ⟨f0, f1, f2, f3, f4, f5, f6, f7, f8, f9, f10⟩ := frozen11 HR9.out
  go_wp2_with fail
  obtain ⟨Z, hZ, hr, hb⟩ := set11 HR9.out (.int .i64 0) (Str []) (Str []) (Str []) (Str []) (.slice none 0 0) (.slice none 0 0) (.int .i64 0) (Str []) (.slice none 0 0) (Str [])
  rw [hZ]
  refine bodyPost_ret (v := .tuple #[.agg zerM, .int .i64 4]) ?_ rfl ⟨⟨_, rfl, msIs0 _ _⟩, hb.ext HX9.out⟩
  obtain ⟨d0, d1, d2, d3, d4, d5, d6, d7, d8, d9, d10⟩ := cells11 hr
  clear c0 c1 c2 c3 c4 c5 c6 c7 c8 c9 c10 f0 f1 f2 f3 f4 f5 f6 f7 f8 f9 f10 hr hb hZ
  simp [results, loadVar, loadCells, Tryz.isAgg27, Tryz.sizeOf27, Tryz.results20, go_sem, d0, d1, d2, d3, d4, d5, d6, d7, d8, d9, d10]
 have g2 : ¬ (l.length : Int) < 4 := by omega
 have hp := HP2.out
 rw [if_neg h3] at hp
 have HP3 := Lib.hid hp
 clear hp HP2 h4
 have j0 := fun W => HI1.out W 0 (by omega)
 have j1 := fun W => HI1.out W 1 (by omega)
 simp only [Int.cast_ofNat_Int] at j0 j1
 have hb0 := HPL.out _ (lat_mem l 0 (by omega))
 have hb1 := HPL.out _ (lat_mem l 1 (by omega))
 have hb2 := HPL.out _ (lat_mem l 2 (by omega))
 have HH := Lib.hid (fun W => rhead_any (lat l 0) (lat l 1) (by omega) (by omega) W)
 have HBM := Lib.hid (fun W => behind_any (lat l 2) 109 61 W)
 have hlm := beh_len (lat l 2) 109 61
 have HVM := Lib.hid (fun W => rValue_any (beh (lat l 2) 109 61).1 (by omega) W)
 have HCD := Lib.hid (rF2_def l)
 have HL0 := Lib.hid (lat_get l 0 (by omega))
 have HL1 := Lib.hid (lat_get l 1 (by omega))
 have HL2 := Lib.hid (show ((l.drop 2).map Str)[0]? = some (Str (lat l 2)) by rw [List.map_drop, List.getElem?_drop]; exact lat_get l 2 (by omega))
 generalize rF2 l = r2 at *
 have hrr := HP3.out
 subst hrr
 generalize rhdF (lat l 0) (lat l 1) = hh at *
 generalize lat l 0 = t0 at *
 generalize lat l 1 = t1 at *
 generalize lat l 2 = t2 at *
 generalize beh t2 109 61 = qm at *
 obtain ⟨vm, bm⟩ := qm
 obtain ⟨f, wh, ok⟩ := hh
 simp only at HH HBM hlm HVM HCD
 generalize valB vm = vb at *
 clear HP3 HS
 have hs1z : w.heap.size + 1 ≤ W1.heap.size := (Array.getElem?_eq_some_iff.1 HR1.out).1
 obtain ⟨W2, hW2⟩ : ∃ W2, W1.alloc (.cells zerM 27) = W2 := ⟨_, rfl⟩
 have hx2 : Ext W1 W2 := by rw [← hW2]; exact Below.alloc (Below.refl _ _) (Nat.le_refl _) _
 have hq2 : W2.heap[W1.heap.size]? = some (.cells zerM 27 (0, 0)) := by rw [← hW2]; exact Array.getElem?_push_size
 obtain ⟨W3, hW3, hq3, hz3⟩ := set11 hq2 (.int .i64 1) (Str []) (Str []) (Str []) (Str []) (.slice none 0 0) (.slice none 0 0) (.int .i64 0) (Str []) (.slice none 0 0) (Str [])
 obtain ⟨c0, c1, c2, c3, c4, c5, c6, c7, c8, c9, c10⟩ := cells11 hq2
 obtain ⟨f0, f1, f2, f3, f4, f5, f6, f7, f8, f9, f10⟩ := frozen11 hq2
 have hx3 : Ext W1 W3 := hz3.below hx2 (Nat.le_refl _) (Nat.le_refl _)
 have HX2 := Lib.hid (ext_trans HX1.out hx3)
 have HR2 := Lib.hid (ext_at hx3 HR1.out)
 have HSL2 := Lib.hid (HSL.out.ext hx3)
 have HQ2 := Lib.hid (show W3.heap[W1.heap.size]? = some (.cells (qF f wh false false) 27 (0, 0)) from hq3)
 have HSB := Lib.hid (fun k hk => (show k ≠ W1.heap.size by have := sblk_lt HSL.out (k := k) hk; omega))
 have HW3 := Lib.hid hW3
 clear hx2 hq2 HX1 HR1 HSL hx3 hq3 hz3 hW3
 go_upto_region 8 with fail
 try rw [hW2]
 rw [HW3.out]
 clear hW2 HW3 c0 c1 c2 c3 c4 c5 c6 c7 c8 c9 c10 f0 f1 f2 f3 f4 f5 f6 f7 f8 f9 f10
 obtain ⟨q, hq⟩ : ∃ q, W1.heap.size = q := ⟨_, rfl⟩
 rw [hq] at HQ2 HSB hs1z ⊢
 have HQQ := Lib.hid hq
 refine wp_region_any (by kernel_rfl) ?_
 change wpAny _ _ _ _ _ _ _ (World.drew _)
 refine wpAny_inv (n := 16) [35, 36, 37, 38, 39, 40, 41, 34, 42, 43, 44, 45, 46, 6] (fun u L w' =>
     (L 0 = true → u 35 = .slice a1 l.length k1) ∧
     (L 1 = true → u 36 = .pointer (some (adr a1 0))) ∧
     (L 2 = true → u 37 = Str t0) ∧
     (L 3 = true → u 38 = .slice a1 l.length k1) ∧
     (L 4 = true → u 39 = .pointer (some (adr a1 1))) ∧
     (L 5 = true → u 40 = Str t1) ∧
     (L 6 = true → u 41 = .tuple #[Str f, Str wh, .bool ok]) ∧
     (L 7 = true → u 34 = .tuple #[Str f, Str wh, .bool ok]) ∧
     (L 8 = true → u 42 = Str f) ∧
     (L 9 = true → u 43 = Str wh) ∧
     (L 10 = true → u 44 = .bool ok) ∧
     (L 11 = true → u 45 = .pointer (some ⟨q, 1, none⟩)) ∧
     (L 13 = true → u 46 = .pointer (some ⟨q, 2, none⟩)) ∧
     (L 15 = true → u 6 = .bool ok) ∧
     (Ext w w') ∧
     (Sl w' (.slice a1 l.length k1) (l.map Str)) ∧
     (w'.heap[w.heap.size]? = some (.cells zerM 27 (0, 0))) ∧
     (w'.heap[q]? = some (.cells (qF f wh (L 12) (L 14)) 27 (0, 0))))
  (by rfl) (by kernel_rfl) (by kernel_rfl) (by rfl) ?_ ?_ ?_
 ·exact ⟨(fun h => by cases h), (fun h => by cases h), (fun h => by cases h), (fun h => by cases h), (fun h => by cases h), (fun h => by cases h), (fun h => by cases h), (fun h => by cases h), (fun h => by cases h), (fun h => by cases h), (fun h => by cases h), (fun h => by cases h), (fun h => by cases h), (fun h => by cases h), Below.drew HX2.out, HSL2.out.ext (Below.drew (Below.refl _ _)), ext_at (Below.drew (Below.refl _ _)) HR2.out, ext_at (Below.drew (Below.refl _ _)) HQ2.out⟩
 ·refine ⟨⟨⟨⟨⟨⟨⟨⟨⟨⟨⟨⟨⟨⟨⟨⟨trivial, ?_⟩, ?_⟩, ?_⟩, ?_⟩, ?_⟩, ?_⟩, ?_⟩, ?_⟩, ?_⟩, ?_⟩, ?_⟩, ?_⟩, ?_⟩, ?_⟩, ?_⟩, ?_⟩
  ·refine stepOk_some (i := 0) (by rfl) (by rfl) ?_
   rintro u L T w' hT hu hL hp hcl ⟨C0, C1, C2, C3, C4, C5, C6, C7, C8, C9, C10, C11, C13, C15, E0, R0, H0, BQ⟩ K hK
   have e1 : u 4 = .slice a1 l.length k1 := hu 4 (by decide)
   go_simp
   refine hK _ _ ?_
   exact ⟨fun _ => rfl, U C1, U C2, U C3, U C4, U C5, U C6, U C7, U C8, U C9, U C10, U C11, U C13, U C15, E0, R0, H0, by simpa using BQ⟩
  ·refine stepOk_some (i := 1) (by rfl) (by rfl) ?_
   rintro u L T w' hT hu hL hp hcl ⟨C0, C1, C2, C3, C4, C5, C6, C7, C8, C9, C10, C11, C13, C15, E0, R0, H0, BQ⟩ K hK
   have e0 := C0 (hp.of 0 (by kernel_rfl))
   go_simp
   try go_bits
   try (rw [if_neg (by omega)]; go_simp)
   try (rw [if_pos (by omega)]; go_simp)
   refine hK _ _ ?_
   exact ⟨U C0, fun _ => rfl, U C2, U C3, U C4, U C5, U C6, U C7, U C8, U C9, U C10, U C11, U C13, U C15, E0, R0, H0, by simpa using BQ⟩
  ·refine stepOk_some (i := 2) (by rfl) (by rfl) ?_
   rintro u L T w' hT hu hL hp hcl ⟨C0, C1, C2, C3, C4, C5, C6, C7, C8, C9, C10, C11, C13, C15, E0, R0, H0, BQ⟩ K hK
   have e1 := C1 (hp.of 1 (by kernel_rfl))
   have d0 := R0.cell 0 _ HL0.out
   go_simp
   refine hK _ _ ?_
   exact ⟨U C0, U C1, fun _ => rfl, U C3, U C4, U C5, U C6, U C7, U C8, U C9, U C10, U C11, U C13, U C15, E0, R0, H0, by simpa using BQ⟩
  ·refine stepOk_some (i := 3) (by rfl) (by rfl) ?_
   rintro u L T w' hT hu hL hp hcl ⟨C0, C1, C2, C3, C4, C5, C6, C7, C8, C9, C10, C11, C13, C15, E0, R0, H0, BQ⟩ K hK
   have e1 : u 4 = .slice a1 l.length k1 := hu 4 (by decide)
   go_simp
   refine hK _ _ ?_
   exact ⟨U C0, U C1, U C2, fun _ => rfl, U C4, U C5, U C6, U C7, U C8, U C9, U C10, U C11, U C13, U C15, E0, R0, H0, by simpa using BQ⟩
  ·refine stepOk_some (i := 4) (by rfl) (by rfl) ?_
   rintro u L T w' hT hu hL hp hcl ⟨C0, C1, C2, C3, C4, C5, C6, C7, C8, C9, C10, C11, C13, C15, E0, R0, H0, BQ⟩ K hK
   have e3 := C3 (hp.of 3 (by kernel_rfl))
   go_simp
   try go_bits
   try (rw [if_neg (by omega)]; go_simp)
   try (rw [if_pos (by omega)]; go_simp)
   refine hK _ _ ?_
   exact ⟨U C0, U C1, U C2, U C3, fun _ => rfl, U C5, U C6, U C7, U C8, U C9, U C10, U C11, U C13, U C15, E0, R0, H0, by simpa using BQ⟩
  ·refine stepOk_some (i := 5) (by rfl) (by rfl) ?_
   rintro u L T w' hT hu hL hp hcl ⟨C0, C1, C2, C3, C4, C5, C6, C7, C8, C9, C10, C11, C13, C15, E0, R0, H0, BQ⟩ K hK
   have e4 := C4 (hp.of 4 (by kernel_rfl))
   have d0 := R0.cell 1 _ HL1.out
   go_simp
   refine hK _ _ ?_
   exact ⟨U C0, U C1, U C2, U C3, U C4, fun _ => rfl, U C6, U C7, U C8, U C9, U C10, U C11, U C13, U C15, E0, R0, H0, by simpa using BQ⟩
  ·refine stepOk_some (i := 6) (by rfl) (by rfl) ?_
   rintro u L T w' hT hu hL hp hcl ⟨C0, C1, C2, C3, C4, C5, C6, C7, C8, C9, C10, C11, C13, C15, E0, R0, H0, BQ⟩ K hK
   have e2 := C2 (hp.of 2 (by kernel_rfl))
   have e5 := C5 (hp.of 5 (by kernel_rfl))
   go_simp
   refine (HH.out w').mono ?_
   rintro e w1 ⟨he, hx1⟩
   subst he
   refine hK _ _ ?_
   exact ⟨U C0, U C1, U C2, U C3, U C4, U C5, fun _ => rfl, U C7, U C8, U C9, U C10, U C11, U C13, U C15, ext_trans (E0) hx1, (R0).ext hx1, ext_at hx1 (H0), by simpa using ext_at hx1 BQ⟩
  ·refine stepOk_some (i := 7) (by rfl) (by rfl) ?_
   rintro u L T w' hT hu hL hp hcl ⟨C0, C1, C2, C3, C4, C5, C6, C7, C8, C9, C10, C11, C13, C15, E0, R0, H0, BQ⟩ K hK
   have e6 := C6 (hp.of 6 (by kernel_rfl))
   go_simp
   refine hK _ _ ?_
   exact ⟨U C0, U C1, U C2, U C3, U C4, U C5, U C6, fun _ => rfl, U C8, U C9, U C10, U C11, U C13, U C15, E0, R0, H0, by simpa using BQ⟩
  ·refine stepOk_some (i := 8) (by rfl) (by rfl) ?_
   rintro u L T w' hT hu hL hp hcl ⟨C0, C1, C2, C3, C4, C5, C6, C7, C8, C9, C10, C11, C13, C15, E0, R0, H0, BQ⟩ K hK
   have e7 := C7 (hp.of 7 (by kernel_rfl))
   go_simp
   try go_bits
   try (rw [if_neg (by omega)]; go_simp)
   try (rw [if_pos (by omega)]; go_simp)
   refine hK _ _ ?_
   exact ⟨U C0, U C1, U C2, U C3, U C4, U C5, U C6, U C7, fun _ => rfl, U C9, U C10, U C11, U C13, U C15, E0, R0, H0, by simpa using BQ⟩
  ·refine stepOk_some (i := 9) (by rfl) (by rfl) ?_
   rintro u L T w' hT hu hL hp hcl ⟨C0, C1, C2, C3, C4, C5, C6, C7, C8, C9, C10, C11, C13, C15, E0, R0, H0, BQ⟩ K hK
   have e7 := C7 (hp.of 7 (by kernel_rfl))
   go_simp
   try go_bits
   try (rw [if_neg (by omega)]; go_simp)
   try (rw [if_pos (by omega)]; go_simp)
   refine hK _ _ ?_
   exact ⟨U C0, U C1, U C2, U C3, U C4, U C5, U C6, U C7, U C8, fun _ => rfl, U C10, U C11, U C13, U C15, E0, R0, H0, by simpa using BQ⟩
  ·refine stepOk_some (i := 10) (by rfl) (by rfl) ?_
   rintro u L T w' hT hu hL hp hcl ⟨C0, C1, C2, C3, C4, C5, C6, C7, C8, C9, C10, C11, C13, C15, E0, R0, H0, BQ⟩ K hK
   have e7 := C7 (hp.of 7 (by kernel_rfl))
   go_simp
   try go_bits
   try (rw [if_neg (by omega)]; go_simp)
   try (rw [if_pos (by omega)]; go_simp)
   refine hK _ _ ?_
   exact ⟨U C0, U C1, U C2, U C3, U C4, U C5, U C6, U C7, U C8, U C9, fun _ => rfl, U C11, U C13, U C15, E0, R0, H0, by simpa using BQ⟩
  ·refine stepOk_some (i := 11) (by rfl) (by rfl) ?_
   rintro u L T w' hT hu hL hp hcl ⟨C0, C1, C2, C3, C4, C5, C6, C7, C8, C9, C10, C11, C13, C15, E0, R0, H0, BQ⟩ K hK
   have e1 : u 5 = .pointer (some ⟨q, 0, none⟩) := hu 5 (by decide)
   go_simp
   refine hK _ _ ?_
   exact ⟨U C0, U C1, U C2, U C3, U C4, U C5, U C6, U C7, U C8, U C9, U C10, fun _ => rfl, U C13, U C15, E0, R0, H0, by simpa using BQ⟩
  ·refine stepOk_none (i := 12) (by rfl) (by rfl) ?_
   rintro u L T w' hT hu hL hp hcl ⟨C0, C1, C2, C3, C4, C5, C6, C7, C8, C9, C10, C11, C13, C15, E0, R0, H0, BQ⟩ K hK
   have e11 := C11 (hp.of 11 (by kernel_rfl))
   have e8 := C8 (hp.of 8 (by kernel_rfl))
   have hbq := BQ
   have kc := cell_at hbq 1 (Str []) (by simp [qF, hL])
   have kf := frozen_row hbq 1
   go_simp
   refine hK _ ?_
   exact ⟨U C0, U C1, U C2, U C3, U C4, U C5, U C6, U C7, U C8, U C9, U C10, U C11, U C13, U C15, ext_set E0 (by omega), R0.bz (Bz.set w' q 1 _) HSB.out, (Below.heap_setCell _ _ _ _ (by show _ ≠ q; omega)).trans H0, (set_at (j := 1) (u := Str f) BQ).trans (by simp [qF, hL])⟩
  ·refine stepOk_some (i := 13) (by rfl) (by rfl) ?_
   rintro u L T w' hT hu hL hp hcl ⟨C0, C1, C2, C3, C4, C5, C6, C7, C8, C9, C10, C11, C13, C15, E0, R0, H0, BQ⟩ K hK
   have e1 : u 5 = .pointer (some ⟨q, 0, none⟩) := hu 5 (by decide)
   go_simp
   refine hK _ _ ?_
   exact ⟨U C0, U C1, U C2, U C3, U C4, U C5, U C6, U C7, U C8, U C9, U C10, U C11, fun _ => rfl, U C15, E0, R0, H0, by simpa using BQ⟩
  ·refine stepOk_none (i := 14) (by rfl) (by rfl) ?_
   rintro u L T w' hT hu hL hp hcl ⟨C0, C1, C2, C3, C4, C5, C6, C7, C8, C9, C10, C11, C13, C15, E0, R0, H0, BQ⟩ K hK
   have e13 := C13 (hp.of 13 (by kernel_rfl))
   have e9 := C9 (hp.of 9 (by kernel_rfl))
   have hbq := BQ
   have kc := cell_at hbq 2 (Str []) (by simp [qF, hL])
   have kf := frozen_row hbq 2
   go_simp
   refine hK _ ?_
   exact ⟨U C0, U C1, U C2, U C3, U C4, U C5, U C6, U C7, U C8, U C9, U C10, U C11, U C13, U C15, ext_set E0 (by omega), R0.bz (Bz.set w' q 2 _) HSB.out, (Below.heap_setCell _ _ _ _ (by show _ ≠ q; omega)).trans H0, (set_at (j := 2) (u := Str wh) BQ).trans (by simp [qF, hL])⟩
  ·refine stepOk_some (i := 15) (by rfl) (by rfl) ?_
   rintro u L T w' hT hu hL hp hcl ⟨C0, C1, C2, C3, C4, C5, C6, C7, C8, C9, C10, C11, C13, C15, E0, R0, H0, BQ⟩ K hK
   have e10 := C10 (hp.of 10 (by kernel_rfl))
   go_simp
   refine hK _ _ ?_
   exact ⟨U C0, U C1, U C2, U C3, U C4, U C5, U C6, U C7, U C8, U C9, U C10, U C11, U C13, fun _ => rfl, E0, R0, H0, by simpa using BQ⟩
 ·rintro u L w' hall hu ⟨C0, C1, C2, C3, C4, C5, C6, C7, C8, C9, C10, C11, C13, C15, E0, R0, H0, BQ⟩
  replace C0 := C0 (hall 0 (by omega))
  replace C1 := C1 (hall 1 (by omega))
  replace C2 := C2 (hall 2 (by omega))
  replace C3 := C3 (hall 3 (by omega))
  replace C4 := C4 (hall 4 (by omega))
  replace C5 := C5 (hall 5 (by omega))
  replace C6 := C6 (hall 6 (by omega))
  replace C7 := C7 (hall 7 (by omega))
  replace C8 := C8 (hall 8 (by omega))
  replace C9 := C9 (hall 9 (by omega))
  replace C10 := C10 (hall 10 (by omega))
  replace C11 := C11 (hall 11 (by omega))
  replace C13 := C13 (hall 13 (by omega))
  replace C15 := C15 (hall 15 (by omega))
  simp only [fill, List.setIfInBounds_toArray, List.set_cons_succ, List.set_cons_zero, C0, C1, C2, C3, C4, C5, C6, C7, C8, C9, C10, C11, C13, C15]
  clear C0 C1 C2 C3 C4 C5 C6 C7 C8 C9 C10 C11 C13 C15 hu
  have HX8 := Lib.hid E0; have HS8 := Lib.hid R0; have HR8 := Lib.hid H0
  have HQ8 := Lib.hid (show w'.heap[q]? = some (.cells (qF f wh true true) 27 (0, 0)) by
   have h12 := hall 12 (by omega); have h14 := hall 14 (by omega)
   rw [h12, h14] at BQ; exact BQ)
  clear E0 R0 H0 BQ hall HX2 HR2 HSL2 HQ2 HH HL0 HL1 j0 j1
  obtain ⟨W8, hW8⟩ : ∃ W8, w' = W8 := ⟨_, rfl⟩
  subst hW8
  cases ok with
  | false =>
    have hr := HCD.out
    rw [if_pos rfl] at hr
    subst hr
    clear HCD
    go_wp2_with fail
    refine (none_any 4 _).mono ?_
    rintro e W9 ⟨rfl, hx9⟩
    have HX9 := Lib.hid (ext_trans HX8.out hx9)
    have HR9 := Lib.hid (ext_at hx9 HR8.out)
    clear hx9
    obtain ⟨c0, c1, c2, c3, c4, c5, c6, c7, c8, c9, c10⟩ := cells11 HR9.out
    obtain ⟨f0, f1, f2, f3, f4, f5, f6, f7, f8, f9, f10⟩ := frozen11 HR9.out
    go_wp2_with fail
    obtain ⟨Z, hZ, hr, hb⟩ := set11 HR9.out (.int .i64 0) (Str []) (Str []) (Str []) (Str []) (.slice none 0 0) (.slice none 0 0) (.int .i64 0) (Str []) (.slice none 0 0) (Str [])
    rw [hZ]
    refine bodyPost_ret (v := .tuple #[.agg zerM, .int .i64 4]) ?_ rfl ⟨⟨_, rfl, msIs0 _ _⟩, hb.ext HX9.out⟩
    obtain ⟨d0, d1, d2, d3, d4, d5, d6, d7, d8, d9, d10⟩ := cells11 hr
    clear c0 c1 c2 c3 c4 c5 c6 c7 c8 c9 c10 f0 f1 f2 f3 f4 f5 f6 f7 f8 f9 f10 hr hb hZ
    simp [results, loadVar, loadCells, Tryz.isAgg27, Tryz.sizeOf27, Tryz.results20, go_sem, d0, d1, d2, d3, d4, d5, d6, d7, d8, d9, d10]
  | true =>
    have hr := HCD.out
    rw [if_neg (by simp)] at hr
    have HC2 := Lib.hid hr
    clear hr HCD
    have q1 := cell_at HQ8.out 1 (Str f) rfl
    have hs2 := HS8.out.resl (k := 2) (by rw [List.length_map]; omega)
    rw [← List.map_drop] at hs2
    have hrs := fun W => run_resl (P := Tryz.prog) Tryz.underlying88 Tryz.sizeOf9 (ao := a1) (n := l.length) (cap := k1) W 2 (by omega)
    obtain ⟨ra, rk, hrv, hrk, hrm, hrn⟩ := sl_shape hs2
    rw [hrv] at hs2 hrs
    simp only [Int.cast_ofNat_Int] at hrs
    have HS2 := Lib.hid hs2
    clear hs2 hrv
    rw [List.length_map, List.length_drop] at hrs HS2 hrk
    have c2 := HS2.out.cell 0 _ HL2.out
    have j2 := fun W => run_index_adr (P := Tryz.prog) Tryz.underlying88 Tryz.sizeOf9 hrn hrk W 0 (by omega)
    simp only [Int.cast_ofNat_Int] at j2
    have hn2 : l.length - 2 = (l.drop 2).length := by rw [List.length_drop]
    have HPL2 := Lib.hid (fun p (hp : p ∈ l.drop 2) => HPL.out p (List.mem_of_mem_drop hp))
    have hs1 := HS2.out.resl (k := 1) (by rw [List.length_map, List.length_drop]; omega)
    rw [← List.map_drop, List.drop_drop] at hs1
    have hrs1 := fun W => run_resl (P := Tryz.prog) Tryz.underlying88 Tryz.sizeOf9 (ao := ra) (n := l.length - 2) (cap := rk) W 1 (by omega)
    obtain ⟨sa, sk, hsv, hsk, -⟩ := sl_shape hs1
    rw [hsv] at hs1 hrs1
    simp only [Int.cast_ofNat_Int] at hrs1
    have HS1 := Lib.hid hs1
    clear hs1 hsv
    rw [List.length_map] at hrs1 HS1
    obtain ⟨l3, hl3⟩ : ∃ l3, l.drop (2 + 1) = l3 := ⟨_, rfl⟩
    have hl3' : l.drop 3 = l3 := hl3
    rw [hl3] at hrs1 HS1
    rw [hl3'] at HC2
    have HPL3 := Lib.hid (fun p (hp : p ∈ l3) => HPL.out p (by rw [← hl3] at hp; exact List.mem_of_mem_drop hp))
    have hl3l : l3.length ≤ 5000 := by rw [← hl3, List.length_drop]; omega
    have hl2l : (l.drop 2).length ≤ 5000 := by rw [List.length_drop]; omega
    rw [hn2] at HS2 hrs j2 hrs1
    clear hl3 hl3' hn2 HL2 HPL
    generalize l.drop 2 = l2 at *
    go_wp2_with fail
    generalize (f == [112]) = pf at *
    refine (HBM.out _).mono ?_
    rintro e V ⟨rfl, hw⟩
    subst V
    go_upto_if 64 with fail
    go_cut [4, 7] from 65 (fun s4 s7 wx => ∃ (L : List (List UInt8)) (za : Option Addr) (zk : Nat) (no3 : Bool), s4 = .slice za L.length zk ∧ s7 = .bool no3 ∧ Hid (Sl wx (.slice za L.length zk) (L.map Str)) ∧ Hid (Ext w' wx) ∧ Hid (r = rF3 f wh no3 L) ∧ Hid (∀ p ∈ L, p.length ≤ 4096) ∧ L.length ≤ 5000)
    case first =>
     cases bm with
     | true =>
       have hr := HC2.out
       rw [if_pos rfl] at hr
       have HC3 := Lib.hid hr
       clear hr HC2
       go_wp2_with fail
       refine (HVM.out _).mono ?_
       rintro e WV ⟨rfl, hx⟩
       have HXV := Lib.hid (ext_trans HX8.out hx)
       have HXE := Lib.hid hx
       have HRV := Lib.hid (ext_at hx HR8.out)
       clear hx
       cases vb with
       | false =>
         have hr := HC3.out
         rw [if_pos rfl] at hr
         subst hr
         clear HC3
         go_wp2_with fail
         refine (none_any 4 _).mono ?_
         rintro e W9 ⟨rfl, hx9⟩
         have HX9 := Lib.hid (ext_trans HXV.out hx9)
         have HR9 := Lib.hid (ext_at hx9 HRV.out)
         clear hx9
         obtain ⟨c0, c1, c2, c3, c4, c5, c6, c7, c8, c9, c10⟩ := cells11 HR9.out
         obtain ⟨f0, f1, f2, f3, f4, f5, f6, f7, f8, f9, f10⟩ := frozen11 HR9.out
         go_wp2_with fail
         obtain ⟨Z, hZ, hr, hb⟩ := set11 HR9.out (.int .i64 0) (Str []) (Str []) (Str []) (Str []) (.slice none 0 0) (.slice none 0 0) (.int .i64 0) (Str []) (.slice none 0 0) (Str [])
         rw [hZ]
         refine bodyPost_ret (v := .tuple #[.agg zerM, .int .i64 4]) ?_ rfl ⟨⟨_, rfl, msIs0 _ _⟩, hb.ext HX9.out⟩
         obtain ⟨d0, d1, d2, d3, d4, d5, d6, d7, d8, d9, d10⟩ := cells11 hr
         clear c0 c1 c2 c3 c4 c5 c6 c7 c8 c9 c10 f0 f1 f2 f3 f4 f5 f6 f7 f8 f9 f10 hr hb hZ
         simp [results, loadVar, loadCells, Tryz.isAgg27, Tryz.sizeOf27, Tryz.results20, go_sem, d0, d1, d2, d3, d4, d5, d6, d7, d8, d9, d10]
       | true =>
         have hr := HC3.out
         rw [if_neg (by simp)] at hr
         have HC4 := Lib.hid hr
         clear hr HC3
         go_wp2
         go_meet
         exact ⟨l3, sa, sk, true, rfl, rfl, Lib.hid (HS1.out.ext HXE.out), HXE, HC4, HPL3, hl3l⟩
     | false =>
       have hr := HC2.out
       rw [if_neg (by simp)] at hr
       have HC4 := Lib.hid hr
       clear hr HC2
       go_wp2
       go_meet
       exact ⟨l2, ra, rk, pf, rfl, rfl, HS2, Lib.hid (ext_refl _), HC4, HPL2, hl2l⟩
    case rest =>
     obtain ⟨L, za, zk, no3, rfl, rfl, HS3, HXC, HC3, HPC, hLl⟩ := hcut
     have HX9a := Lib.hid (ext_trans HX8.out HXC.out)
     have HR9a := Lib.hid (ext_at HXC.out HR8.out)
     have HQ9 := Lib.hid (ext_at HXC.out HQ8.out)
     clear HX8 HR8 HQ8 HXC HS2 HS1 HC2 HPL2 HPL3 c2 j2 hrs hrs1 q1
     have HCD := Lib.hid (rF3_def f wh no3 L)
     generalize rF3 f wh no3 L = r3 at *
     have hrr := HC3.out
     subst hrr
     clear HC3
     by_cases h2 : L.length < 2
     ·have hr := HCD.out
      rw [if_pos h2] at hr
      subst hr
      have g3 : (L.length : Int) < 2 := by omega
      clear HCD
      go_wp2_with fail
      refine (none_any 4 _).mono ?_
      rintro e W9 ⟨rfl, hx9⟩
      have HX9 := Lib.hid (ext_trans HX9a.out hx9)
      have HR9 := Lib.hid (ext_at hx9 HR9a.out)
      clear hx9
      obtain ⟨c0, c1, c2, c3, c4, c5, c6, c7, c8, c9, c10⟩ := cells11 HR9.out
      obtain ⟨f0, f1, f2, f3, f4, f5, f6, f7, f8, f9, f10⟩ := frozen11 HR9.out
      go_wp2_with fail
      obtain ⟨Z, hZ, hr, hb⟩ := set11 HR9.out (.int .i64 0) (Str []) (Str []) (Str []) (Str []) (.slice none 0 0) (.slice none 0 0) (.int .i64 0) (Str []) (.slice none 0 0) (Str [])
      rw [hZ]
      refine bodyPost_ret (v := .tuple #[.agg zerM, .int .i64 4]) ?_ rfl ⟨⟨_, rfl, msIs0 _ _⟩, hb.ext HX9.out⟩
      obtain ⟨d0, d1, d2, d3, d4, d5, d6, d7, d8, d9, d10⟩ := cells11 hr
      clear c0 c1 c2 c3 c4 c5 c6 c7 c8 c9 c10 f0 f1 f2 f3 f4 f5 f6 f7 f8 f9 f10 hr hb hZ
      simp [results, loadVar, loadCells, Tryz.isAgg27, Tryz.sizeOf27, Tryz.results20, go_sem, d0, d1, d2, d3, d4, d5, d6, d7, d8, d9, d10]
     have hr := HCD.out
     rw [if_neg h2] at hr
     have HC4 := Lib.hid hr
     have g3 : ¬ (L.length : Int) < 2 := by omega
     clear hr HCD
     obtain ⟨-, hzk, hzm, hzn⟩ := sl_shape2 HS3.out
     rw [List.length_map] at hzk
     have j0 := fun W => run_index_adr (P := Tryz.prog) Tryz.underlying88 Tryz.sizeOf9 hzn hzk W 0 (by omega)
     have j1 := fun W => run_index_adr (P := Tryz.prog) Tryz.underlying88 Tryz.sizeOf9 hzn hzk W 1 (by omega)
     simp only [Int.cast_ofNat_Int] at j0 j1
     have c0 := HS3.out.cell 0 _ (lat_get L 0 (by omega))
     have c1 := HS3.out.cell 1 _ (lat_get L 1 (by omega))
     have hb0 := HPC.out _ (lat_mem L 0 (by omega))
     have hb1 := HPC.out _ (lat_mem L 1 (by omega))
     have HB0 := Lib.hid (fun W => behind_any (lat L 0) 110 61 W)
     have HB1 := Lib.hid (fun W => behind_any (lat L 1) 114 61 W)
     have hl0 := beh_len (lat L 0) 110 61
     have hl1 := beh_len (lat L 1) 114 61
     have HES := Lib.hid (fun W => rescaped_any (beh (lat L 0) 110 61).1 (by omega) W)
     have HNO := Lib.hid (fun W => nonce_ref07 (beh (lat L 1) 114 61).1 (by omega) W)
     have HEX := Lib.hid (fun W v (h : Sl W v ((L.drop 2).map Str)) => exts_any v (L.drop 2) (by rw [List.length_drop]; omega) (fun p hp => by have := HPC.out p (List.mem_of_mem_drop hp); omega) W h)
     have hs2 := HS3.out.resl (k := 2) (by rw [List.length_map]; omega)
     rw [← List.map_drop] at hs2
     have hrs := fun W => run_resl (P := Tryz.prog) Tryz.underlying88 Tryz.sizeOf9 (ao := za) (n := L.length) (cap := zk) W 2 (by omega)
     obtain ⟨ra2, rk2, hrv, hrk2, -⟩ := sl_shape hs2
     rw [hrv] at hs2 hrs
     simp only [Int.cast_ofNat_Int] at hrs
     have HS4 := Lib.hid hs2
     clear hs2 hrv
     rw [List.length_map, List.length_drop] at hrs HS4
     generalize lat L 0 = t0' at *
     generalize lat L 1 = t1' at *
     generalize beh t0' 110 61 = q0 at *
     generalize beh t1' 114 61 = q1 at *
     obtain ⟨n0, b0⟩ := q0
     obtain ⟨n1, b1⟩ := q1
     simp only at HB0 HB1 hl0 hl1 HES HNO HC4
     generalize escB n0 = eb at *
     generalize (unV n0).1 = us at *
     generalize nonF n1 = nb at *
     generalize extsV (L.drop 2) = ex at *
     obtain ⟨xs, xb, xm⟩ := ex
     simp only at HEX HC4
     have hqz : w.heap.size + 1 ≤ wc.heap.size := by have := (Array.getElem?_eq_some_iff.1 HQ9.out).1; omega
     go_wp2_with fail
     refine (HB0.out _).mono ?_
     rintro e V ⟨rfl, hw⟩
     subst V
     go_wp2_with fail
     refine (HB1.out _).mono ?_
     rintro e V ⟨rfl, hw⟩
     subst V
     go_wp2_with fail
     refine (HES.out _).mono ?_
     rintro e WE ⟨rfl, hx⟩
     have HXe := Lib.hid (ext_trans HX9a.out hx)
     have HRe := Lib.hid (ext_at hx HR9a.out)
     have HQe := Lib.hid (ext_at hx HQ9.out)
     have HSe := Lib.hid (HS4.out.ext hx)
     have hez : w.heap.size + 1 ≤ WE.heap.size := Nat.le_trans hqz hx.size
     clear hx HX9a HR9a HQ9 HS4 HS3 c0 c1
     go_wp2_with fail
     refine (HEX.out _ _ HSe.out).mono ?_
     rintro e W3 ⟨ev, rfl, hrow, hx⟩
     obtain ⟨ea, ek, rfl, hek⟩ := ownz_shape hrow
     have HMR := Lib.hid (show MsR (w.heap.size + 1) W3 (.slice ea xs.length ek) (.slice none 0 0) (.slice none 0 0) ⟨1, f, wh, us, n1, xs, [], 0, [], [], []⟩ from
      ⟨rowC_of_own prC_len hrow, sl_nil _, sl_nil _, own_rblk hrow hez, nil_sblk, nil_sblk⟩)
     have HER := Lib.hid (own_rblk hrow (Nat.le_refl _))
     have hqe : q < WE.heap.size := (Array.getElem?_eq_some_iff.1 HQe.out).1
     have HX3 := Lib.hid (ext_trans HXe.out hx)
     have HR3 := Lib.hid (ext_at hx HRe.out)
     have HQ3 := Lib.hid (ext_at hx HQe.out)
     clear hrow hx HXe HRe HQe HSe hrs
     obtain ⟨okk, hok⟩ : ∃ okk, (b0 && (b1 && (eb && (xb && nb)))) = okk := ⟨_, rfl⟩
     rw [hok] at HC4
     have HOK := Lib.hid hok
     clear hok
     go_upto_region 25 with fail
     go_cut [123] from 105 (fun s123 wx => wx = W3 ∧ s123 = .bool (!okk))
     case first =>
      cases b0
      ·have ho : okk = false := by rw [← HOK.out]; rfl
       subst ho
       clear HOK
       go_wp2
       go_meet
       exact ⟨rfl, rfl⟩
      cases b1
      ·have ho : okk = false := by rw [← HOK.out]; rfl
       subst ho
       clear HOK
       go_wp2
       go_meet
       exact ⟨rfl, rfl⟩
      cases eb
      ·have ho : okk = false := by rw [← HOK.out]; rfl
       subst ho
       clear HOK
       go_wp2
       go_meet
       exact ⟨rfl, rfl⟩
      cases xb
      ·have ho : okk = false := by rw [← HOK.out]; rfl
       subst ho
       clear HOK
       go_wp2
       go_meet
       exact ⟨rfl, rfl⟩
      have ho : okk = nb := by rw [← HOK.out]; simp
      subst ho
      clear HOK
      go_wp2_with fail
      refine (HNO.out _).mono ?_
      rintro e V ⟨rfl, hw⟩
      subst V
      cases okk <;> (go_wp2; go_meet; exact ⟨rfl, rfl⟩)
     case rest =>
      obtain ⟨hwc, rfl⟩ := hcut
      subst hwc
      cases okk with
      | false =>
        have hr := HC4.out
        rw [if_pos rfl] at hr
        subst hr
        clear HC4
        go_wp2_with fail
        refine (none_any 4 _).mono ?_
        rintro e W9 ⟨rfl, hx9⟩
        have HX9 := Lib.hid (ext_trans HX3.out hx9)
        have HR9 := Lib.hid (ext_at hx9 HR3.out)
        clear hx9
        obtain ⟨c0, c1, c2, c3, c4, c5, c6, c7, c8, c9, c10⟩ := cells11 HR9.out
        obtain ⟨f0, f1, f2, f3, f4, f5, f6, f7, f8, f9, f10⟩ := frozen11 HR9.out
        go_wp2_with fail
        obtain ⟨Z, hZ, hr, hb⟩ := set11 HR9.out (.int .i64 0) (Str []) (Str []) (Str []) (Str []) (.slice none 0 0) (.slice none 0 0) (.int .i64 0) (Str []) (.slice none 0 0) (Str [])
        rw [hZ]
        refine bodyPost_ret (v := .tuple #[.agg zerM, .int .i64 4]) ?_ rfl ⟨⟨_, rfl, msIs0 _ _⟩, hb.ext HX9.out⟩
        obtain ⟨d0, d1, d2, d3, d4, d5, d6, d7, d8, d9, d10⟩ := cells11 hr
        clear c0 c1 c2 c3 c4 c5 c6 c7 c8 c9 c10 f0 f1 f2 f3 f4 f5 f6 f7 f8 f9 f10 hr hb hZ
        simp [results, loadVar, loadCells, Tryz.isAgg27, Tryz.sizeOf27, Tryz.results20, go_sem, d0, d1, d2, d3, d4, d5, d6, d7, d8, d9, d10]
      | true =>
        have hr := HC4.out
        rw [if_neg (by simp)] at hr
        clear HC4 HOK
        obtain ⟨dn, hdn⟩ : ∃ dn, (no3 || xm) = dn := ⟨_, rfl⟩
        rw [hdn] at hr
        have HD := Lib.hid hr
        have HDN := Lib.hid hdn
        clear hr hdn
        have k3 := cell_at HQ3.out 3 (Str []) rfl
        have k4 := cell_at HQ3.out 4 (Str []) rfl
        have k5 := cell_at HQ3.out 5 (.slice none 0 0) rfl
        have kf3 := frozen_row HQ3.out 3
        have kf4 := frozen_row HQ3.out 4
        have kf5 := frozen_row HQ3.out 5
        go_upto_region 28 with fail
        obtain ⟨Z3, hZ3, hq3, hbz⟩ := set3q HQ3.out (Str us) (Str n1) (.slice ea xs.length ek)
        rw [hZ3]
        have hq4 : Z3.heap[q]? = some (.cells #[.int .i64 1, Str f, Str wh, Str us, Str n1, .slice ea xs.length ek, .slice none 0 0, .int .i64 0, Str [], .slice none 0 0, Str []] 27 (0, 0)) := by rw [hq3]; simp [qF]
        have hwq : w.heap.size < q := by omega
        have HX4 := Lib.hid (hbz.below HX3.out (Nat.le_of_lt hwq) (Nat.le_refl _))
        have HR4 := Lib.hid ((hbz.block _ (Array.getElem?_eq_some_iff.1 HR3.out).1 (by omega)).trans HR3.out)
        have HM4 := Lib.hid (show MsR (w.heap.size + 1) Z3 (.slice ea xs.length ek) (.slice none 0 0) (.slice none 0 0) ⟨1, f, wh, us, n1, xs, [], 0, [], [], []⟩ from
         ⟨HMR.out.ext.bz prC_ne hbz (fun k hk => by have := HER.out k hk; omega), sl_nil _, sl_nil _, HMR.out.be, nil_sblk, nil_sblk⟩)
        obtain ⟨m0, m1, m2, m3, m4, m5, m6, m7, m8, m9, m10⟩ := cells11 hq4
        have HDD := Lib.hid (fun W => done_any ⟨1, f, wh, us, n1, xs, [], 0, [], [], []⟩ ea none none xs.length 0 0 ek 0 0 dn W)
        clear hZ3 hq3 hq4 hbz k3 k4 k5 kf3 kf4 kf5 HX3 HR3 HQ3 HMR HER
        cases no3 with
        | true =>
          have hd : dn = true := by rw [← HDN.out]; rfl
          clear HDN
          subst hd
          go_wp2_with fail
          clear m0 m1 m2 m3 m4 m5 m6 m7 m8 m9 m10
          refine (HDD.out _).mono ?_
          rintro e W9 ⟨rfl, hx9⟩
          have HX9 := Lib.hid (ext_trans HX4.out hx9)
          have HR9 := Lib.hid (ext_at hx9 HR4.out)
          have HM9 := Lib.hid (MsR.grow HM4.out hx9)
          clear hx9
          obtain ⟨c0, c1, c2, c3, c4, c5, c6, c7, c8, c9, c10⟩ := cells11 HR9.out
          obtain ⟨f0, f1, f2, f3, f4, f5, f6, f7, f8, f9, f10⟩ := frozen11 HR9.out
          have hs9 := (Array.getElem?_eq_some_iff.1 HR9.out).1
          have hd9 := HD.out
          first | rw [if_pos rfl] at hd9 | rw [if_pos trivial] at hd9
          subst hd9
          go_wp2_with fail
          obtain ⟨Z, hZ, hr, hb⟩ := set11 HR9.out (.int .i64 0) (Str []) (Str []) (Str []) (Str []) (.slice none 0 0) (.slice none 0 0) (.int .i64 0) (Str []) (.slice none 0 0) (Str [])
          rw [hZ]
          refine bodyPost_ret (v := .tuple #[.agg zerM, .int .i64 12]) ?_ rfl ⟨⟨_, rfl, msIs0 _ _⟩, hb.ext HX9.out⟩
          obtain ⟨d0, d1, d2, d3, d4, d5, d6, d7, d8, d9, d10⟩ := cells11 hr
          clear c0 c1 c2 c3 c4 c5 c6 c7 c8 c9 c10 f0 f1 f2 f3 f4 f5 f6 f7 f8 f9 f10 hr hb hZ
          simp [results, loadVar, loadCells, Tryz.isAgg27, Tryz.sizeOf27, Tryz.results20, go_sem, d0, d1, d2, d3, d4, d5, d6, d7, d8, d9, d10]
        | false =>
          have hd : dn = xm := by rw [← HDN.out]; rfl
          clear HDN
          subst hd
          go_wp2_with fail
          clear m0 m1 m2 m3 m4 m5 m6 m7 m8 m9 m10
          refine (HDD.out _).mono ?_
          rintro e W9 ⟨rfl, hx9⟩
          have HX9 := Lib.hid (ext_trans HX4.out hx9)
          have HR9 := Lib.hid (ext_at hx9 HR4.out)
          have HM9 := Lib.hid (MsR.grow HM4.out hx9)
          clear hx9
          obtain ⟨c0, c1, c2, c3, c4, c5, c6, c7, c8, c9, c10⟩ := cells11 HR9.out
          obtain ⟨f0, f1, f2, f3, f4, f5, f6, f7, f8, f9, f10⟩ := frozen11 HR9.out
          have hs9 := (Array.getElem?_eq_some_iff.1 HR9.out).1
          cases dn with
          | true =>
            have hd9 := HD.out
            rw [if_pos rfl] at hd9
            subst hd9
            go_wp2_with fail
            obtain ⟨Z, hZ, hr, hb⟩ := set11 HR9.out (.int .i64 0) (Str []) (Str []) (Str []) (Str []) (.slice none 0 0) (.slice none 0 0) (.int .i64 0) (Str []) (.slice none 0 0) (Str [])
            rw [hZ]
            refine bodyPost_ret (v := .tuple #[.agg zerM, .int .i64 12]) ?_ rfl ⟨⟨_, rfl, msIs0 _ _⟩, hb.ext HX9.out⟩
            obtain ⟨d0, d1, d2, d3, d4, d5, d6, d7, d8, d9, d10⟩ := cells11 hr
            clear c0 c1 c2 c3 c4 c5 c6 c7 c8 c9 c10 f0 f1 f2 f3 f4 f5 f6 f7 f8 f9 f10 hr hb hZ
            simp [results, loadVar, loadCells, Tryz.isAgg27, Tryz.sizeOf27, Tryz.results20, go_sem, d0, d1, d2, d3, d4, d5, d6, d7, d8, d9, d10]
          | false =>
            have hd9 := HD.out
            rw [if_neg (by simp)] at hd9
            subst hd9
            go_wp2_with fail
            obtain ⟨Z, hZ, hr, hb⟩ := set11 HR9.out (.int .i64 1) (Str f) (Str wh) (Str us) (Str n1) (.slice ea xs.length ek) (.slice none 0 0) (.int .i64 0) (Str []) (.slice none 0 0) (Str [])
            try rw [hZ]
            refine bodyPost_ret (v := .tuple #[.agg (msA ⟨1, f, wh, us, n1, xs, [], 0, [], [], []⟩ (.slice ea xs.length ek) (.slice none 0 0) (.slice none 0 0)), .int .i64 0]) ?_ rfl ⟨⟨_, rfl, _, _, _, rfl, (HM9.out.bz hb (Nat.lt_succ_self _)).mono (Nat.le_succ _)⟩, hb.ext HX9.out⟩
            obtain ⟨d0, d1, d2, d3, d4, d5, d6, d7, d8, d9, d10⟩ := cells11 hr
            clear c0 c1 c2 c3 c4 c5 c6 c7 c8 c9 c10 f0 f1 f2 f3 f4 f5 f6 f7 f8 f9 f10 hr hb hZ
            simp [results, loadVar, loadCells, Tryz.isAgg27, Tryz.sizeOf27, Tryz.results20, go_sem, d0, d1, d2, d3, d4, d5, d6, d7, d8, d9, d10]
end Go.Proofs.YtjkbigecejogdaaGreatDoor
