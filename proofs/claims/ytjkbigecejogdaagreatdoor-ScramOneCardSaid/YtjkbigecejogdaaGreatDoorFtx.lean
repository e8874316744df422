/-
  (scram.Final).without, Text, Without at every message.
-/
import Derived.BigGuardPart
import Derived.BigQuiet
import Derived.RegionTactic
import Derived.Deep.DrawnRows
import Derived.Deep.CutBlock
import Derived.Deep.DeepCutAuto
import Derived.Test.YtjkbigecejogdaaGreatDoorRows
import Derived.Test.YtjkbigecejogdaaGreatDoorCtx
import Derived.Test.YtjkbigecejogdaaGreatDoorPng
import Derived.Test.YtjkbigecejogdaaGreatDoorKit
namespace Go.Proofs.YtjkbigecejogdaaGreatDoor
open Go.RowKit
set_option maxRecDepth 100000
attribute [local go_sem ↓] Go.wp_at_zero Go.wp_at_succ
set_option linter.unusedVariables false
set_option linter.unusedSimpArgs false
/-- A final's text without its proof. -/
def finL (hd no : List UInt8) (fs : List Pr) : List UInt8 := 99 :: 61 :: (allL plain true hd ++ 44 :: 114 :: 61 :: (no ++ extL fs))
set_option maxHeartbeats 4000000 in
theorem without_any (hd no : List UInt8) (pv v : Value) (fs : List Pr) (h1 : hd.length ≤ 10000) (h2 : no.length ≤ 10000) (pn : Nat) (po : Option Addr) (pc : Nat) (hpv : pv = .slice po pn pc) (hb : PrOk fs) (w : World) (hr : RowC 2 prC w v fs) :
    Calls Tryz.prog 74 #[.agg #[Str hd, Str no, v, pv]] w fun e w' => e = .returned (Str (finL hd no fs)) ∧ Ext w w' := by
  subst hpv
  have HRW := Lib.hid hr
  obtain ⟨ao, cap, hv, hcap, hmax, hcl⟩ := rowP_shape hr
  subst hv
  have HEN := Lib.hid (fun v W (h : SlB W v hd) => Encode_any v hd W h h1)
  have HX := Lib.hid (fun W hr => extensions_any (.slice ao fs.length cap) fs hb W hr)
  have HTL := Lib.hid (show finL hd no fs = 99 :: 61 :: (allL plain true hd ++ 44 :: 114 :: 61 :: (no ++ extL fs)) from rfl)
  have hl1 := allL_len hd h1
  have hl2 := extL_len2 fs hb
  clear hcl hmax hb hr
  generalize finL hd no fs = tl at *
  generalize allL plain true hd = es at *
  generalize extL fs = ex at *
  obtain ⟨W1, hW1⟩ : ∃ W1, w.alloc (.cells #[Str hd, Str no, .slice ao fs.length cap, .slice po pn pc] 53) = W1 := ⟨_, rfl⟩
  have hx : Ext w W1 := by rw [← hW1]; exact Below.alloc (Below.refl _ _) (Nat.le_refl _) _
  have hc : W1.heap[w.heap.size]? = some (.cells #[Str hd, Str no, .slice ao fs.length cap, .slice po pn pc] 53 (0, 0)) := by rw [← hW1]; exact Array.getElem?_push_size
  have HX1 := Lib.hid hx
  have HR1 := Lib.hid (HRW.out.ext hx)
  have HC1 := Lib.hid hc
  generalize hq : w.heap.size = q at *
  clear hc hx HRW
  go_enter Tryz.func74, Tryz.ntmps74
  go_upto_region 1 with fail
  try rw [hW1]
  clear hW1
  have hte := HTL.out
  subst hte
  -- inv {'ops': [('fa',3,1,'.pointer (some ⟨q, 0, none⟩)','.pointer (some ⟨q, 0, none⟩)'),('lf',4,0,'Str hd','have d0 := (cells4s HQ).1'),('callx',5,[1],"RAW:obtain ⟨cb, w1, hcv, hx1, hr1⟩ := bytes_of_str (P := Tryz.prog) w' 9 25 5 hd (by unfold maxLen; omega) Tryz.underlying9 Tryz.underlying25 Tryz.underlying5;; go_simp","SlB w' (u 5) hd",3),('raw',6,[],"have c2 := C2 (hp.of 2 (by kernel_rfl)) hL;; have e2 := hT 5;; go_simp;; refine (HEN.out _ w' c2).mono ?_;; rintro e w1 ⟨he, hx1⟩;; subst he",'Str es'),('op',7,[3],'Str (99 :: 61 :: es)'),('op',8,[4],'Str (99 :: 61 :: (es ++ [44, 114, 61]))'),('fa',9,1,'.pointer (some ⟨q, 0, none⟩)','.pointer (some ⟨q, 1, none⟩)'),('lf',10,6,'Str no','have d0 := (cells4s HQ).2.1'),('op',11,[5,7],'Str (99 :: 61 :: (es ++ 44 :: 114 :: 61 :: no))'),('fa',12,1,'.pointer (some ⟨q, 0, none⟩)','.pointer (some ⟨q, 2, none⟩)'),('lf',13,9,'.slice ao fs.length cap','have d0 := (cells4s HQ).2.2.1'),('call',14,[10],"HX.out w' R0",'Str ex'),('op',15,[8,11],'Str (99 :: 61 :: (es ++ 44 :: 114 :: 61 :: (no ++ ex)))'),('mw',2,12,'Str (99 :: 61 :: (es ++ 44 :: 114 :: 61 :: (no ++ ex)))')], 'W': [('E0',"Ext W1 w'",'Below.drew (Below.refl _ _)'),('R0',"RowC 2 prC w' (.slice ao fs.length cap) fs",'HR1.out.ext (Below.drew (Below.refl _ _))'),('HQ',"w'.heap[q]? = some (.cells [Str hd, Str no, .slice ao fs.length cap, .slice po pn pc].toArray 53 (0, 0))",'ext_at (Below.drew (Below.refl _ _)) HC1.out')], 'over':{3:{'E0':'ext_trans E0 hx1','R0':'R0.ext hx1','HQ':'ext_at hx1 HQ'}}, 'keephall':1}
  refine wp_region_any (by kernel_rfl) ?_
  change wpAny _ _ _ _ _ _ _ (World.drew _)
  refine wpAny_inv (n := 14) [3, 4, 5, 6, 7, 8, 9, 10, 11, 12, 13, 14, 15, 2] (fun u L w' =>
      (L 0 = true → u 3 = .pointer (some ⟨q, 0, none⟩)) ∧
      (L 1 = true → u 4 = Str hd) ∧
      (L 2 = true → L 3 = false → SlB w' (u 5) hd) ∧
      (L 3 = true → u 6 = Str es) ∧
      (L 4 = true → u 7 = Str (99 :: 61 :: es)) ∧
      (L 5 = true → u 8 = Str (99 :: 61 :: (es ++ [44, 114, 61]))) ∧
      (L 6 = true → u 9 = .pointer (some ⟨q, 1, none⟩)) ∧
      (L 7 = true → u 10 = Str no) ∧
      (L 8 = true → u 11 = Str (99 :: 61 :: (es ++ 44 :: 114 :: 61 :: no))) ∧
      (L 9 = true → u 12 = .pointer (some ⟨q, 2, none⟩)) ∧
      (L 10 = true → u 13 = .slice ao fs.length cap) ∧
      (L 11 = true → u 14 = Str ex) ∧
      (L 12 = true → u 15 = Str (99 :: 61 :: (es ++ 44 :: 114 :: 61 :: (no ++ ex)))) ∧
      (L 13 = true → u 2 = Str (99 :: 61 :: (es ++ 44 :: 114 :: 61 :: (no ++ ex)))) ∧
      (Ext W1 w') ∧
      (RowC 2 prC w' (.slice ao fs.length cap) fs) ∧
      (w'.heap[q]? = some (.cells [Str hd, Str no, .slice ao fs.length cap, .slice po pn pc].toArray 53 (0, 0))))
    (by rfl) (by kernel_rfl) (by kernel_rfl) (by rfl) ?_ ?_ ?_
  · exact ⟨(fun h => by cases h), (fun h => by cases h), (fun h => by cases h), (fun h => by cases h), (fun h => by cases h), (fun h => by cases h), (fun h => by cases h), (fun h => by cases h), (fun h => by cases h), (fun h => by cases h), (fun h => by cases h), (fun h => by cases h), (fun h => by cases h), (fun h => by cases h), Below.drew (Below.refl _ _), HR1.out.ext (Below.drew (Below.refl _ _)), ext_at (Below.drew (Below.refl _ _)) HC1.out⟩
  · refine ⟨⟨⟨⟨⟨⟨⟨⟨⟨⟨⟨⟨⟨⟨trivial, ?_⟩, ?_⟩, ?_⟩, ?_⟩, ?_⟩, ?_⟩, ?_⟩, ?_⟩, ?_⟩, ?_⟩, ?_⟩, ?_⟩, ?_⟩, ?_⟩
    · refine stepOk_some (i := 0) (by rfl) (by rfl) ?_
      rintro u L T w' hT hu hL hp hcl ⟨C0, C1, C2, C3, C4, C5, C6, C7, C8, C9, C10, C11, C12, C13, E0, R0, HQ⟩ K hK
      have e1 : u 1 = .pointer (some ⟨q, 0, none⟩) := hu 1 (by decide)
      go_simp
      refine hK _ _ ?_
      exact ⟨fun _ => rfl, fun h => C1 (by simpa using h), fun h h2 => C2 (by simpa using h) (by simpa using h2), fun h => C3 (by simpa using h), fun h => C4 (by simpa using h), fun h => C5 (by simpa using h), fun h => C6 (by simpa using h), fun h => C7 (by simpa using h), fun h => C8 (by simpa using h), fun h => C9 (by simpa using h), fun h => C10 (by simpa using h), fun h => C11 (by simpa using h), fun h => C12 (by simpa using h), fun h => C13 (by simpa using h), E0, R0, HQ⟩
    · refine stepOk_some (i := 1) (by rfl) (by rfl) ?_
      rintro u L T w' hT hu hL hp hcl ⟨C0, C1, C2, C3, C4, C5, C6, C7, C8, C9, C10, C11, C12, C13, E0, R0, HQ⟩ K hK
      have e0 := C0 (hp.of 0 (by kernel_rfl))
      have d0 := (cells4s HQ).1
      go_simp
      refine hK _ _ ?_
      exact ⟨fun h => C0 (by simpa using h), fun _ => rfl, fun h h2 => C2 (by simpa using h) (by simpa using h2), fun h => C3 (by simpa using h), fun h => C4 (by simpa using h), fun h => C5 (by simpa using h), fun h => C6 (by simpa using h), fun h => C7 (by simpa using h), fun h => C8 (by simpa using h), fun h => C9 (by simpa using h), fun h => C10 (by simpa using h), fun h => C11 (by simpa using h), fun h => C12 (by simpa using h), fun h => C13 (by simpa using h), E0, R0, HQ⟩
    · refine stepOk_some (i := 2) (by rfl) (by rfl) ?_
      rintro u L T w' hT hu hL hp hcl ⟨C0, C1, C2, C3, C4, C5, C6, C7, C8, C9, C10, C11, C12, C13, E0, R0, HQ⟩ K hK
      have e1 := C1 (hp.of 1 (by kernel_rfl))
      obtain ⟨cb, w1, hcv, hx1, hr1⟩ := bytes_of_str (P := Tryz.prog) w' 9 25 5 hd (by unfold maxLen; omega) Tryz.underlying9 Tryz.underlying25 Tryz.underlying5
      go_simp
      refine hK _ _ ?_
      exact ⟨fun h => C0 (by simpa using h), fun h => C1 (by simpa using h), fun _ _ => hr1, fun h => C3 (by simpa using h), fun h => C4 (by simpa using h), fun h => C5 (by simpa using h), fun h => C6 (by simpa using h), fun h => C7 (by simpa using h), fun h => C8 (by simpa using h), fun h => C9 (by simpa using h), fun h => C10 (by simpa using h), fun h => C11 (by simpa using h), fun h => C12 (by simpa using h), fun h => C13 (by simpa using h), ext_trans (E0) hx1, (R0).ext hx1, ext_at hx1 (HQ)⟩
    · refine stepOk_some (i := 3) (by rfl) (by rfl) ?_
      rintro u L T w' hT hu hL hp hcl ⟨C0, C1, C2, C3, C4, C5, C6, C7, C8, C9, C10, C11, C12, C13, E0, R0, HQ⟩ K hK
      have c2 := C2 (hp.of 2 (by kernel_rfl)) hL
      have e2 := hT 5
      go_simp
      refine (HEN.out _ w' c2).mono ?_
      rintro e w1 ⟨he, hx1⟩
      subst he
      refine hK _ _ ?_
      exact ⟨fun h => C0 (by simpa using h), fun h => C1 (by simpa using h), fun h h2 => absurd h2 (by simp), fun _ => rfl, fun h => C4 (by simpa using h), fun h => C5 (by simpa using h), fun h => C6 (by simpa using h), fun h => C7 (by simpa using h), fun h => C8 (by simpa using h), fun h => C9 (by simpa using h), fun h => C10 (by simpa using h), fun h => C11 (by simpa using h), fun h => C12 (by simpa using h), fun h => C13 (by simpa using h), ext_trans E0 hx1, R0.ext hx1, ext_at hx1 HQ⟩
    · refine stepOk_some (i := 4) (by rfl) (by rfl) ?_
      rintro u L T w' hT hu hL hp hcl ⟨C0, C1, C2, C3, C4, C5, C6, C7, C8, C9, C10, C11, C12, C13, E0, R0, HQ⟩ K hK
      have e3 := C3 (hp.of 3 (by kernel_rfl))
      go_simp
      try go_bits
      try (rw [if_neg (by omega)]; go_simp)
      try (rw [if_pos (by omega)]; go_simp)
      refine hK _ _ ?_
      exact ⟨fun h => C0 (by simpa using h), fun h => C1 (by simpa using h), fun h h2 => C2 (by simpa using h) (by simpa using h2), fun h => C3 (by simpa using h), fun _ => rfl, fun h => C5 (by simpa using h), fun h => C6 (by simpa using h), fun h => C7 (by simpa using h), fun h => C8 (by simpa using h), fun h => C9 (by simpa using h), fun h => C10 (by simpa using h), fun h => C11 (by simpa using h), fun h => C12 (by simpa using h), fun h => C13 (by simpa using h), E0, R0, HQ⟩
    · refine stepOk_some (i := 5) (by rfl) (by rfl) ?_
      rintro u L T w' hT hu hL hp hcl ⟨C0, C1, C2, C3, C4, C5, C6, C7, C8, C9, C10, C11, C12, C13, E0, R0, HQ⟩ K hK
      have e4 := C4 (hp.of 4 (by kernel_rfl))
      go_simp
      try go_bits
      try (rw [if_neg (by omega)]; go_simp)
      try (rw [if_pos (by omega)]; go_simp)
      refine hK _ _ ?_
      exact ⟨fun h => C0 (by simpa using h), fun h => C1 (by simpa using h), fun h h2 => C2 (by simpa using h) (by simpa using h2), fun h => C3 (by simpa using h), fun h => C4 (by simpa using h), fun _ => rfl, fun h => C6 (by simpa using h), fun h => C7 (by simpa using h), fun h => C8 (by simpa using h), fun h => C9 (by simpa using h), fun h => C10 (by simpa using h), fun h => C11 (by simpa using h), fun h => C12 (by simpa using h), fun h => C13 (by simpa using h), E0, R0, HQ⟩
    · refine stepOk_some (i := 6) (by rfl) (by rfl) ?_
      rintro u L T w' hT hu hL hp hcl ⟨C0, C1, C2, C3, C4, C5, C6, C7, C8, C9, C10, C11, C12, C13, E0, R0, HQ⟩ K hK
      have e1 : u 1 = .pointer (some ⟨q, 0, none⟩) := hu 1 (by decide)
      go_simp
      refine hK _ _ ?_
      exact ⟨fun h => C0 (by simpa using h), fun h => C1 (by simpa using h), fun h h2 => C2 (by simpa using h) (by simpa using h2), fun h => C3 (by simpa using h), fun h => C4 (by simpa using h), fun h => C5 (by simpa using h), fun _ => rfl, fun h => C7 (by simpa using h), fun h => C8 (by simpa using h), fun h => C9 (by simpa using h), fun h => C10 (by simpa using h), fun h => C11 (by simpa using h), fun h => C12 (by simpa using h), fun h => C13 (by simpa using h), E0, R0, HQ⟩
    · refine stepOk_some (i := 7) (by rfl) (by rfl) ?_
      rintro u L T w' hT hu hL hp hcl ⟨C0, C1, C2, C3, C4, C5, C6, C7, C8, C9, C10, C11, C12, C13, E0, R0, HQ⟩ K hK
      have e6 := C6 (hp.of 6 (by kernel_rfl))
      have d0 := (cells4s HQ).2.1
      go_simp
      refine hK _ _ ?_
      exact ⟨fun h => C0 (by simpa using h), fun h => C1 (by simpa using h), fun h h2 => C2 (by simpa using h) (by simpa using h2), fun h => C3 (by simpa using h), fun h => C4 (by simpa using h), fun h => C5 (by simpa using h), fun h => C6 (by simpa using h), fun _ => rfl, fun h => C8 (by simpa using h), fun h => C9 (by simpa using h), fun h => C10 (by simpa using h), fun h => C11 (by simpa using h), fun h => C12 (by simpa using h), fun h => C13 (by simpa using h), E0, R0, HQ⟩
    · refine stepOk_some (i := 8) (by rfl) (by rfl) ?_
      rintro u L T w' hT hu hL hp hcl ⟨C0, C1, C2, C3, C4, C5, C6, C7, C8, C9, C10, C11, C12, C13, E0, R0, HQ⟩ K hK
      have e5 := C5 (hp.of 5 (by kernel_rfl))
      have e7 := C7 (hp.of 7 (by kernel_rfl))
      go_simp
      try go_bits
      try (rw [if_neg (by omega)]; go_simp)
      try (rw [if_pos (by omega)]; go_simp)
      refine hK _ _ ?_
      exact ⟨fun h => C0 (by simpa using h), fun h => C1 (by simpa using h), fun h h2 => C2 (by simpa using h) (by simpa using h2), fun h => C3 (by simpa using h), fun h => C4 (by simpa using h), fun h => C5 (by simpa using h), fun h => C6 (by simpa using h), fun h => C7 (by simpa using h), fun _ => rfl, fun h => C9 (by simpa using h), fun h => C10 (by simpa using h), fun h => C11 (by simpa using h), fun h => C12 (by simpa using h), fun h => C13 (by simpa using h), E0, R0, HQ⟩
    · refine stepOk_some (i := 9) (by rfl) (by rfl) ?_
      rintro u L T w' hT hu hL hp hcl ⟨C0, C1, C2, C3, C4, C5, C6, C7, C8, C9, C10, C11, C12, C13, E0, R0, HQ⟩ K hK
      have e1 : u 1 = .pointer (some ⟨q, 0, none⟩) := hu 1 (by decide)
      go_simp
      refine hK _ _ ?_
      exact ⟨fun h => C0 (by simpa using h), fun h => C1 (by simpa using h), fun h h2 => C2 (by simpa using h) (by simpa using h2), fun h => C3 (by simpa using h), fun h => C4 (by simpa using h), fun h => C5 (by simpa using h), fun h => C6 (by simpa using h), fun h => C7 (by simpa using h), fun h => C8 (by simpa using h), fun _ => rfl, fun h => C10 (by simpa using h), fun h => C11 (by simpa using h), fun h => C12 (by simpa using h), fun h => C13 (by simpa using h), E0, R0, HQ⟩
    · refine stepOk_some (i := 10) (by rfl) (by rfl) ?_
      rintro u L T w' hT hu hL hp hcl ⟨C0, C1, C2, C3, C4, C5, C6, C7, C8, C9, C10, C11, C12, C13, E0, R0, HQ⟩ K hK
      have e9 := C9 (hp.of 9 (by kernel_rfl))
      have d0 := (cells4s HQ).2.2.1
      go_simp
      refine hK _ _ ?_
      exact ⟨fun h => C0 (by simpa using h), fun h => C1 (by simpa using h), fun h h2 => C2 (by simpa using h) (by simpa using h2), fun h => C3 (by simpa using h), fun h => C4 (by simpa using h), fun h => C5 (by simpa using h), fun h => C6 (by simpa using h), fun h => C7 (by simpa using h), fun h => C8 (by simpa using h), fun h => C9 (by simpa using h), fun _ => rfl, fun h => C11 (by simpa using h), fun h => C12 (by simpa using h), fun h => C13 (by simpa using h), E0, R0, HQ⟩
    · refine stepOk_some (i := 11) (by rfl) (by rfl) ?_
      rintro u L T w' hT hu hL hp hcl ⟨C0, C1, C2, C3, C4, C5, C6, C7, C8, C9, C10, C11, C12, C13, E0, R0, HQ⟩ K hK
      have e10 := C10 (hp.of 10 (by kernel_rfl))
      go_simp
      refine (HX.out w' R0).mono ?_
      rintro e w1 ⟨he, hx1⟩
      subst he
      refine hK _ _ ?_
      exact ⟨fun h => C0 (by simpa using h), fun h => C1 (by simpa using h), fun h h2 => (C2 (by simpa using h) (by simpa using h2)).ext hx1, fun h => C3 (by simpa using h), fun h => C4 (by simpa using h), fun h => C5 (by simpa using h), fun h => C6 (by simpa using h), fun h => C7 (by simpa using h), fun h => C8 (by simpa using h), fun h => C9 (by simpa using h), fun h => C10 (by simpa using h), fun _ => rfl, fun h => C12 (by simpa using h), fun h => C13 (by simpa using h), ext_trans (E0) hx1, (R0).ext hx1, ext_at hx1 (HQ)⟩
    · refine stepOk_some (i := 12) (by rfl) (by rfl) ?_
      rintro u L T w' hT hu hL hp hcl ⟨C0, C1, C2, C3, C4, C5, C6, C7, C8, C9, C10, C11, C12, C13, E0, R0, HQ⟩ K hK
      have e8 := C8 (hp.of 8 (by kernel_rfl))
      have e11 := C11 (hp.of 11 (by kernel_rfl))
      go_simp
      try go_bits
      try (rw [if_neg (by omega)]; go_simp)
      try (rw [if_pos (by omega)]; go_simp)
      refine hK _ _ ?_
      exact ⟨fun h => C0 (by simpa using h), fun h => C1 (by simpa using h), fun h h2 => C2 (by simpa using h) (by simpa using h2), fun h => C3 (by simpa using h), fun h => C4 (by simpa using h), fun h => C5 (by simpa using h), fun h => C6 (by simpa using h), fun h => C7 (by simpa using h), fun h => C8 (by simpa using h), fun h => C9 (by simpa using h), fun h => C10 (by simpa using h), fun h => C11 (by simpa using h), fun _ => rfl, fun h => C13 (by simpa using h), E0, R0, HQ⟩
    · refine stepOk_some (i := 13) (by rfl) (by rfl) ?_
      rintro u L T w' hT hu hL hp hcl ⟨C0, C1, C2, C3, C4, C5, C6, C7, C8, C9, C10, C11, C12, C13, E0, R0, HQ⟩ K hK
      have e12 := C12 (hp.of 12 (by kernel_rfl))
      go_simp
      refine hK _ _ ?_
      exact ⟨fun h => C0 (by simpa using h), fun h => C1 (by simpa using h), fun h h2 => C2 (by simpa using h) (by simpa using h2), fun h => C3 (by simpa using h), fun h => C4 (by simpa using h), fun h => C5 (by simpa using h), fun h => C6 (by simpa using h), fun h => C7 (by simpa using h), fun h => C8 (by simpa using h), fun h => C9 (by simpa using h), fun h => C10 (by simpa using h), fun h => C11 (by simpa using h), fun h => C12 (by simpa using h), fun _ => rfl, E0, R0, HQ⟩
  · rintro u L w' hall hu ⟨C0, C1, C2, C3, C4, C5, C6, C7, C8, C9, C10, C11, C12, C13, E0, R0, HQ⟩
    replace C0 := C0 (hall 0 (by omega))
    replace C1 := C1 (hall 1 (by omega))
    replace C3 := C3 (hall 3 (by omega))
    replace C4 := C4 (hall 4 (by omega))
    replace C5 := C5 (hall 5 (by omega))
    replace C6 := C6 (hall 6 (by omega))
    replace C7 := C7 (hall 7 (by omega))
    replace C8 := C8 (hall 8 (by omega))
    replace C9 := C9 (hall 9 (by omega))
    replace C10 := C10 (hall 10 (by omega))
    replace C11 := C11 (hall 11 (by omega))
    replace C12 := C12 (hall 12 (by omega))
    replace C13 := C13 (hall 13 (by omega))
    simp only [fill, List.setIfInBounds_toArray, List.set_cons_succ, List.set_cons_zero, C0, C1, C3, C4, C5, C6, C7, C8, C9, C10, C11, C12, C13]
    generalize u 5 = s0 at *
    clear C0 C1 C2 C3 C4 C5 C6 C7 C8 C9 C10 C11 C12 C13 hu
  -- end inv
    go_wp2
    go_ret
    exact ⟨rfl, ext_trans HX1.out E0⟩
theorem finL_len (hd no : List UInt8) (fs : List Pr) (h1 : hd.length ≤ 10000) (h2 : no.length ≤ 10000) (hb : PrOk fs) : (finL hd no fs).length ≤ 60000000 := by
  have := allL_len hd h1; have := extL_len2 fs hb
  unfold finL; simp; omega
/-- May a final be told? -/
def fitB (hd no pr : List UInt8) (fs : List Pr) : Bool := (headF hd).1 && (!(headF hd).2 && (nonF no && (fs.all (rightE [112]) && decide (pr.length = 32))))
set_option maxHeartbeats 4000000 in
theorem fitext_any (hd no pr : List UInt8) (pv v : Value) (fs : List Pr) (h1 : hd.length ≤ 10000) (h2 : no.length ≤ 10000) (h3 : pr.length ≤ 10000) (hb : PrOk fs) (w : World) (hs : SlB w pv pr) (hr : RowC 2 prC w v fs) (hF : FormsAt w) (hM : MaxAt w) :
    Calls Tryz.prog 29 #[.agg #[Str hd, Str no, v, pv]] w fun e w' => e = .returned (.tuple #[Str (sizedV (finL hd no fs ++ 44 :: 112 :: 61 :: allL plain true pr) (fitB hd no pr fs)).1, .int .i64 (sizedV (finL hd no fs ++ 44 :: 112 :: 61 :: allL plain true pr) (fitB hd no pr fs)).2]) ∧ Ext w w' := by
  have HRW := Lib.hid hr; have HF := Lib.hid hF; have HSL := Lib.hid hs; have HM := Lib.hid hM
  obtain ⟨ao, cap, hv, hcap, hmax, hcl⟩ := rowP_shape hr
  subst hv
  obtain ⟨so, scap, hsv, hsc, -⟩ : ∃ ao cap, pv = .slice ao pr.length cap ∧ pr.length ≤ cap ∧ True := by
    obtain ⟨a, c, h, h', _⟩ := hs
    rw [List.length_map] at h h'
    exact ⟨a, c, h, h', trivial⟩
  subst hsv
  have HEN := Lib.hid (fun W (h : SlB W (.slice so pr.length scap) pr) => Encode_any _ pr W h h3)
  have HW := Lib.hid (fun W hr => without_any hd no (.slice so pr.length scap) (.slice ao fs.length cap) fs h1 h2 pr.length so scap rfl hb W hr)
  have HED := Lib.hid (fun W hr hF => extended_any (.slice ao fs.length cap) fs [112] hb W hr hF)
  have HNO := Lib.hid (fun W => nonce_scram no (by omega) W)
  have HHD := Lib.hid (fun W hM hF => head_any hd (by omega) W hM hF)
  have HS := Lib.hid (fun W => sized_any (finL hd no fs ++ 44 :: 112 :: 61 :: allL plain true pr) (fitB hd no pr fs) W)
  have HTB := Lib.hid (show fitB hd no pr fs = ((headF hd).1 && (!(headF hd).2 && (nonF no && (fs.all (rightE [112]) && decide (pr.length = 32))))) from rfl)
  have hl1 := allL_len pr h3
  have hl2 := finL_len hd no fs h1 h2 hb
  clear hcl hmax hb hr hF hs hM
  generalize fitB hd no pr fs = tb at *
  generalize sizedV (finL hd no fs ++ 44 :: 112 :: 61 :: allL plain true pr) tb = z at *
  obtain ⟨z1, z2⟩ := z
  simp only at HS ⊢
  generalize finL hd no fs = fl at *
  generalize allL plain true pr = es at *
  generalize nonF no = nb at *
  generalize fs.all (rightE [112]) = xb at *
  generalize (headF hd).1 = rt at *
  generalize (headF hd).2 = nm at *
  obtain ⟨W1, hW1⟩ : ∃ W1, w.alloc (.cells #[Str hd, Str no, .slice ao fs.length cap, .slice so pr.length scap] 53) = W1 := ⟨_, rfl⟩
  have hx : Ext w W1 := by rw [← hW1]; exact Below.alloc (Below.refl _ _) (Nat.le_refl _) _
  have hc : W1.heap[w.heap.size]? = some (.cells #[Str hd, Str no, .slice ao fs.length cap, .slice so pr.length scap] 53 (0, 0)) := by rw [← hW1]; exact Array.getElem?_push_size
  obtain ⟨c0, c1, c2, c3⟩ := cells4s hc
  have HX1 := Lib.hid hx
  have HR1 := Lib.hid (HRW.out.ext hx)
  have HF1 := Lib.hid (HF.out.ext hx)
  have HS1 := Lib.hid (HSL.out.ext hx)
  have HM1 := Lib.hid (HM.out.ext hx)
  clear hc hx HRW HF HSL HM
  go_enter Tryz.func29, Tryz.ntmps29
  go_wp2_with fail
  try rw [hW1]
  clear hW1
  refine (HHD.out _ HM1.out HF1.out).mono ?_
  rintro e W3 ⟨rfl, hx3⟩
  have HX3 := Lib.hid (ext_trans HX1.out hx3)
  have HR3 := Lib.hid (HR1.out.ext hx3)
  have HF3 := Lib.hid (HF1.out.ext hx3)
  have HS3 := Lib.hid (HS1.out.ext hx3)
  replace c0 := ext_cell hx3 c0; replace c1 := ext_cell hx3 c1; replace c2 := ext_cell hx3 c2; replace c3 := ext_cell hx3 c3
  clear hx3 HX1 HR1 HF1 HS1 HM1 HHD
  go_upto_region 2 with fail
  go_cut [6] from 7 (fun s6 wx => s6 = .bool tb ∧ Hid (Ext W3 wx))
  case first =>
    cases rt with
    | false =>
      have hd : tb = false := by rw [HTB.out]; rfl
      subst hd
      clear HTB
      go_wp2
      all_goals (go_meet; exact ⟨rfl, Lib.hid (ext_refl _)⟩)
    | true =>
      cases nm with
      | true =>
        have hd : tb = false := by rw [HTB.out]; rfl
        subst hd
        clear HTB
        go_wp2
        all_goals (go_meet; exact ⟨rfl, Lib.hid (ext_refl _)⟩)
      | false =>
        go_wp2_with fail
        refine (HNO.out _).mono ?_
        rintro e V ⟨rfl, hw⟩
        subst V
        cases nb with
        | false =>
          have hd : tb = false := by rw [HTB.out]; rfl
          subst hd
          clear HTB
          go_wp2
          all_goals (go_meet; exact ⟨rfl, Lib.hid (ext_refl _)⟩)
        | true =>
          go_wp2_with fail
          refine (HED.out _ HR3.out HF3.out).mono ?_
          rintro e W5 ⟨rfl, hx5⟩
          have HX5 := Lib.hid hx5
          replace c3 := ext_cell hx5 c3
          clear hx5 c0 c1 c2
          cases xb with
          | false =>
            have hd : tb = false := by rw [HTB.out]; rfl
            subst hd
            clear HTB
            go_wp2
            all_goals (go_meet; exact ⟨rfl, HX5⟩)
          | true =>
            by_cases q : pr.length = 32
            · have hd : tb = true := by rw [HTB.out]; simp [q]
              subst hd
              clear HTB
              have g1 : ((pr.length : Int) == 32) = true := by simp; omega
              have g2 : (pr.length : Int) = 32 := by omega
              clear q
              go_wp2
              all_goals (go_meet; exact ⟨rfl, HX5⟩)
            · have hd : tb = false := by rw [HTB.out]; simp [q]
              subst hd
              clear HTB
              have g1 : ((pr.length : Int) == 32) = false := by simp; omega
              have g2 : ¬ (pr.length : Int) = 32 := by omega
              clear q
              go_wp2
              all_goals (go_meet; exact ⟨rfl, HX5⟩)
  case rest =>
    obtain ⟨rfl, HXC⟩ := hcut
    have HX4 := Lib.hid (ext_trans HX3.out HXC.out)
    have HR4 := Lib.hid (HR3.out.ext HXC.out)
    have HS4 := Lib.hid (HS3.out.ext HXC.out)
    replace c0 := ext_cell HXC.out c0; replace c1 := ext_cell HXC.out c1; replace c2 := ext_cell HXC.out c2; replace c3 := ext_cell HXC.out c3
    clear HXC HX3 HR3 HS3 HTB
    have d0 := ExtW.cell c0; have d1 := ExtW.cell c1; have d2 := ExtW.cell c2; have d3 := ExtW.cell c3
    clear c0 c1 c2 c3
    go_upto_region 3 with fail
    refine wp_region_ext (by kernel_rfl) (by kernel_rfl) ?_
    repeat (first
      | go_big_quiet_skip
      | (go_big_quiet_want; go_big_quiet_op; (try go_bits); first | go_big_quiet_on | go_big_quiet_call (first | exact Calls.ext_of (W := wc) _ (HW.out _ (HR4.out.ext (ExtW.h _))) | exact Calls.ext_of (W := wc) _ (HEN.out _ (HS4.out.ext (ExtW.h _))) | exact Calls.ext_of _ (HS.out _))))
    refine wpQuiet_nil ?_
    intro _ hw'
    obtain ⟨nq, hw''⟩ := hw'
    subst hw''
    go_wp2
    go_ret2
    exact ⟨rfl, ext_trans HX4.out nq.h⟩
/-- What (Final).Without answers. -/
def fiwV (hd no pr : List UInt8) (fs : List Pr) : List UInt8 × Int :=
  if (sizedV (finL hd no fs ++ 44 :: 112 :: 61 :: allL plain true pr) (fitB hd no pr fs)).2 = 0 then (finL hd no fs, 0) else ([], (sizedV (finL hd no fs ++ 44 :: 112 :: 61 :: allL plain true pr) (fitB hd no pr fs)).2)
end Go.Proofs.YtjkbigecejogdaaGreatDoor
