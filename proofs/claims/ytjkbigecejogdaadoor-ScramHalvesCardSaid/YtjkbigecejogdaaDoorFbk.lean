/-
  ref07.Front, ref07.Back at every message.
-/
import Derived.BigGuardPart
import Derived.BigQuiet
import Derived.RegionTactic
import Derived.Deep.DrawnRows
import Derived.Test.YtjkbigecejogdaaDoorRows
import Derived.Test.YtjkbigecejogdaaDoorSce
import Derived.Test.YtjkbigecejogdaaDoorRby
import Derived.Test.YtjkbigecejogdaaDoorScc
import Derived.Test.YtjkbigecejogdaaDoorRrd
import Derived.Test.YtjkbigecejogdaaDoorKit
namespace Go.Proofs.YtjkbigecejogdaaDoor
open Go.RowKit
set_option maxRecDepth 100000
attribute [local go_sem ↓] Go.wp_at_zero Go.wp_at_succ
set_option linter.unusedVariables false
set_option linter.unusedSimpArgs false
set_option maxHeartbeats 2000000 in
theorem rfront_any (m : Ms) (h1 : m.flag.length ≤ 10000) (h2 : m.authz.length ≤ 3000) (a1 a2 a3 : Option Addr) (n1 k1 n2 k2 n3 k3 : Nat) (w : World) :
    Calls Tryd.prog 9 #[.agg (msA m (.slice a1 n1 k1) (.slice a2 n2 k2) (.slice a3 n3 k3))] w fun e w' => e = .returned (Str (fhdL m.flag m.authz)) ∧ Ext w w' := by
  obtain ⟨W1, hW1⟩ : ∃ W1, w.alloc (.cells (msA m (.slice a1 n1 k1) (.slice a2 n2 k2) (.slice a3 n3 k3)) 25) = W1 := ⟨_, rfl⟩
  have hx : Ext w W1 := by rw [← hW1]; exact Below.alloc (Below.refl _ _) (Nat.le_refl _) _
  have hc : W1.heap[w.heap.size]? = some (.cells (msA m (.slice a1 n1 k1) (.slice a2 n2 k2) (.slice a3 n3 k3)) 25 (0, 0)) := by rw [← hW1]; exact Array.getElem?_push_size
  have HX1 := Lib.hid hx
  have HC1 := Lib.hid hc
  obtain ⟨c0, c1, c2, c3, c4, c5, c6, c7, c8, c9, c10⟩ := cells11 hc
  clear hx hc HC1
  obtain ⟨kind, flag, authz, user, nonce, ext, salt, iter, head, proof, code⟩ := m
  simp only at h1 h2 c0 c1 c2 c3 c4 c5 c6 c7 c8 c9 c10 ⊢
  clear c0 c3 c4 c5 c6 c7 c8 c9 c10
  by_cases hau : authz = []
  · have e1 : (authz == []) = true := by simp [hau]
    have HR := Lib.hid (show fhdL flag authz = flag ++ [44, 44] by unfold fhdL; rw [if_pos hau]; rfl)
    rw [HR.out]
    clear hau
    go_enter Tryd.func9, Tryd.ntmps9
    go_wp2
    try rw [hW1]
    go_ret
    exact ⟨by simp, HX1.out⟩
  · have e1 : (authz == []) = false := by simp [hau]
    have HR := Lib.hid (show fhdL flag authz = flag ++ 44 :: 97 :: 61 :: (escF authz ++ [44]) by unfold fhdL; rw [if_neg hau]; rfl)
    have HE := Lib.hid (fun W => rEscape_any authz (by omega) W)
    have hel := escF_len authz
    rw [HR.out]
    clear hau HR
    generalize escF authz = ea at *
    go_enter Tryd.func9, Tryd.ntmps9
    go_upto_region 3 with fail
    try rw [hW1]
    clear hW1
    have d1 := ExtW.cell c1; have d2 := ExtW.cell c2
    clear c1 c2
    refine wp_region_ext (by kernel_rfl) (by kernel_rfl) ?_
    repeat (first
      | go_big_quiet_skip
      | (go_big_quiet_want; go_big_quiet_op; (try go_bits); first | go_big_quiet_on | go_big_quiet_call (exact Calls.ext_of _ ((HE.out _).mono fun _ _ h => ⟨h.1, by rw [h.2]; exact ext_refl _⟩))))
    refine wpQuiet_nil ?_
    intro _ hw'
    obtain ⟨nq, hw''⟩ := hw'
    subst hw''
    go_wp2
    go_ret
    exact ⟨by simp, ext_trans HX1.out nq.h⟩
set_option maxHeartbeats 2000000 in
theorem rback1_any (m : Ms) (hk : m.kind = 1) (h1 : m.user.length ≤ 3000) (h2 : m.nonce.length ≤ 10000) (hb : PrOk m.ext) (a1 a2 a3 : Option Addr) (n1 k1 n2 k2 n3 k3 : Nat) (w : World) (hr : RowC 2 prC w (.slice a1 n1 k1) m.ext) :
    Calls Tryd.prog 10 #[.agg (msA m (.slice a1 n1 k1) (.slice a2 n2 k2) (.slice a3 n3 k3))] w fun e w' => e = .returned (Str (fbaL m.user m.nonce m.ext)) ∧ Ext w w' := by
  obtain ⟨W1, hW1⟩ : ∃ W1, w.alloc (.cells (msA m (.slice a1 n1 k1) (.slice a2 n2 k2) (.slice a3 n3 k3)) 25) = W1 := ⟨_, rfl⟩
  have hx : Ext w W1 := by rw [← hW1]; exact Below.alloc (Below.refl _ _) (Nat.le_refl _) _
  have hc : W1.heap[w.heap.size]? = some (.cells (msA m (.slice a1 n1 k1) (.slice a2 n2 k2) (.slice a3 n3 k3)) 25 (0, 0)) := by rw [← hW1]; exact Array.getElem?_push_size
  have HX1 := Lib.hid hx
  have HC1 := Lib.hid hc
  obtain ⟨c0, c1, c2, c3, c4, c5, c6, c7, c8, c9, c10⟩ := cells11 hc
  have HR1 := Lib.hid (hr.ext hx)
  have HT := Lib.hid (fun W hr => rtail_any (.slice a1 n1 k1) m.ext hb W hr)
  have HE := Lib.hid (fun W => rEscape_any m.user (by omega) W)
  have hel := escF_len m.user
  have hl2 := extL_len2 m.ext hb
  have HF := Lib.hid (show fbaL m.user m.nonce m.ext = 110 :: 61 :: (escF m.user ++ 44 :: 114 :: 61 :: (m.nonce ++ extL m.ext)) from rfl)
  clear hx hc hr HC1 hb
  obtain ⟨kind, flag, authz, user, nonce, ext, salt, iter, head, proof, code⟩ := m
  simp only at hk h1 h2 c0 c1 c2 c3 c4 c5 c6 c7 c8 c9 c10 HR1 HT HE hel hl2 HF ⊢
  subst hk
  clear c1 c2 c6 c7 c8 c9 c10
  rw [HF.out]
  clear HF
  generalize escF user = ea at *
  generalize extL ext = ex at *
  go_enter Tryd.func10, Tryd.ntmps10
  go_upto_region 2 with fail
  try rw [hW1]
  clear hW1
  have d0 := ExtW.cell c0; have d3 := ExtW.cell c3; have d4 := ExtW.cell c4; have d5 := ExtW.cell c5
  clear c0 c3 c4 c5
  refine wp_region_ext (by kernel_rfl) (by kernel_rfl) ?_
  repeat (first
    | go_big_quiet_skip
    | (go_big_quiet_want; go_big_quiet_op; (try go_bits); first | go_big_quiet_on | go_big_quiet_call (first | exact Calls.ext_of _ ((HE.out _).mono fun _ _ h => ⟨h.1, by rw [h.2]; exact ext_refl _⟩) | exact Calls.ext_of (W := W1) _ (HT.out _ (HR1.out.ext (ExtW.h _))))))
  refine wpQuiet_nil ?_
  intro _ hw'
  obtain ⟨nq, hw''⟩ := hw'
  subst hw''
  go_wp2
  go_ret
  exact ⟨rfl, ext_trans HX1.out nq.h⟩
set_option maxHeartbeats 2000000 in
theorem rback3_any (m : Ms) (hk : m.kind ≠ 1) (h1 : m.head.length ≤ 10000) (h2 : m.nonce.length ≤ 10000) (hb : PrOk m.ext) (a1 a2 a3 : Option Addr) (n1 k1 n2 k2 n3 k3 : Nat) (w : World) (hr : RowC 2 prC w (.slice a1 n1 k1) m.ext) :
    Calls Tryd.prog 10 #[.agg (msA m (.slice a1 n1 k1) (.slice a2 n2 k2) (.slice a3 n3 k3))] w fun e w' => e = .returned (Str (finL m.head m.nonce m.ext)) ∧ Ext w w' := by
  obtain ⟨W1, hW1⟩ : ∃ W1, w.alloc (.cells (msA m (.slice a1 n1 k1) (.slice a2 n2 k2) (.slice a3 n3 k3)) 25) = W1 := ⟨_, rfl⟩
  have hx : Ext w W1 := by rw [← hW1]; exact Below.alloc (Below.refl _ _) (Nat.le_refl _) _
  have hc : W1.heap[w.heap.size]? = some (.cells (msA m (.slice a1 n1 k1) (.slice a2 n2 k2) (.slice a3 n3 k3)) 25 (0, 0)) := by rw [← hW1]; exact Array.getElem?_push_size
  have HX1 := Lib.hid hx
  have HC1 := Lib.hid hc
  obtain ⟨c0, c1, c2, c3, c4, c5, c6, c7, c8, c9, c10⟩ := cells11 hc
  have HR1 := Lib.hid (hr.ext hx)
  have HT := Lib.hid (fun W hr => rtail_any (.slice a1 n1 k1) m.ext hb W hr)
  have HEN := Lib.hid (fun v W (h : SlB W v m.head) => (refEncode_any false v m.head W h h1).mono fun e w' (h : e = .returned (Str (refEnc plain true m.head)) ∧ Ext W w') => (⟨by rw [h.1, refEnc_all plain true m.head.length m.head (Nat.le_refl _)], h.2⟩ : e = .returned (Str (allL plain true m.head)) ∧ Ext W w'))
  have hl1 := allL_len m.head h1
  have hl2 := extL_len2 m.ext hb
  have HF := Lib.hid (show finL m.head m.nonce m.ext = 99 :: 61 :: (allL plain true m.head ++ 44 :: 114 :: 61 :: (m.nonce ++ extL m.ext)) from rfl)
  clear hx hc hr hb
  obtain ⟨kind, flag, authz, user, nonce, ext, salt, iter, head, proof, code⟩ := m
  simp only at hk h1 h2 c0 c1 c2 c3 c4 c5 c6 c7 c8 c9 c10 HR1 HT HEN hl1 hl2 HF HC1 ⊢
  have hkb : (kind == 1) = false := by simp [hk]
  clear hk c1 c2 c3 c4 c5 c6 c7 c8 c9 c10
  rw [HF.out]
  clear HF
  generalize allL plain true head = es at *
  generalize extL ext = ex at *
  generalize hq : w.heap.size = q at *
  go_enter Tryd.func10, Tryd.ntmps10
  go_upto_region 3 with fail
  try rw [hW1]
  clear hW1 c0
  -- inv {'ops': [('fa',18,1,'.pointer (some ⟨q, 0, none⟩)','.pointer (some ⟨q, 8, none⟩)'),('lf',19,0,'Str head','obtain ⟨c0, c1, c2, c3, c4, c5, c6, c7, c8, c9, c10⟩ := cells11 HQ'),('callx',20,[1],"RAW:obtain ⟨cb, w1, hcv, hx1, hr1⟩ := bytes_of_str (P := Tryd.prog) w' 9 23 5 head (by unfold maxLen; omega) Tryd.underlying9 Tryd.underlying23 Tryd.underlying5;; go_simp","SlB w' (u 20) head",3),('raw',21,[],"have c2 := C2 (hp.of 2 (by kernel_rfl)) hL;; have e2 := hT 20;; go_simp;; refine (HEN.out _ w' c2).mono ?_;; rintro e w1 ⟨he, hx1⟩;; subst he",'Str es'),('op',22,[3],'Str (99 :: 61 :: es)'),('op',23,[4],'Str (99 :: 61 :: (es ++ [44, 114, 61]))'),('fa',24,1,'.pointer (some ⟨q, 0, none⟩)','.pointer (some ⟨q, 4, none⟩)'),('lf',25,6,'Str nonce','obtain ⟨c0, c1, c2, c3, c4, c5, c6, c7, c8, c9, c10⟩ := cells11 HQ'),('op',26,[5,7],'Str (99 :: 61 :: (es ++ 44 :: 114 :: 61 :: nonce))'),('fa',27,1,'.pointer (some ⟨q, 0, none⟩)','.pointer (some ⟨q, 5, none⟩)'),('lf',28,9,'.slice a1 n1 k1','obtain ⟨c0, c1, c2, c3, c4, c5, c6, c7, c8, c9, c10⟩ := cells11 HQ'),('call',29,[10],"HT.out w' R0",'Str ex'),('op',30,[8,11],'Str (99 :: 61 :: (es ++ 44 :: 114 :: 61 :: (nonce ++ ex)))'),('mw',2,12,'Str (99 :: 61 :: (es ++ 44 :: 114 :: 61 :: (nonce ++ ex)))')], 'W': [('E0',"Ext W1 w'",'Below.drew (Below.refl _ _)'),('R0',"RowC 2 prC w' (.slice a1 n1 k1) ext",'HR1.out.ext (Below.drew (Below.refl _ _))'),('HQ',"w'.heap[q]? = some (.cells #[.int .i64 kind, Str flag, Str authz, Str user, Str nonce, .slice a1 n1 k1, .slice a2 n2 k2, .int .i64 iter, Str head, .slice a3 n3 k3, Str code] 25 (0, 0))",'ext_at (Below.drew (Below.refl _ _)) HC1.out')], 'over':{3:{'E0':'ext_trans E0 hx1','R0':'R0.ext hx1','HQ':'ext_at hx1 HQ'}}, 'keephall':1}
  refine wp_region_any (by kernel_rfl) ?_
  change wpAny _ _ _ _ _ _ _ (World.drew _)
  refine wpAny_inv (n := 14) [18, 19, 20, 21, 22, 23, 24, 25, 26, 27, 28, 29, 30, 2] (fun u L w' =>
      (L 0 = true → u 18 = .pointer (some ⟨q, 8, none⟩)) ∧
      (L 1 = true → u 19 = Str head) ∧
      (L 2 = true → L 3 = false → SlB w' (u 20) head) ∧
      (L 3 = true → u 21 = Str es) ∧
      (L 4 = true → u 22 = Str (99 :: 61 :: es)) ∧
      (L 5 = true → u 23 = Str (99 :: 61 :: (es ++ [44, 114, 61]))) ∧
      (L 6 = true → u 24 = .pointer (some ⟨q, 4, none⟩)) ∧
      (L 7 = true → u 25 = Str nonce) ∧
      (L 8 = true → u 26 = Str (99 :: 61 :: (es ++ 44 :: 114 :: 61 :: nonce))) ∧
      (L 9 = true → u 27 = .pointer (some ⟨q, 5, none⟩)) ∧
      (L 10 = true → u 28 = .slice a1 n1 k1) ∧
      (L 11 = true → u 29 = Str ex) ∧
      (L 12 = true → u 30 = Str (99 :: 61 :: (es ++ 44 :: 114 :: 61 :: (nonce ++ ex)))) ∧
      (L 13 = true → u 2 = Str (99 :: 61 :: (es ++ 44 :: 114 :: 61 :: (nonce ++ ex)))) ∧
      (Ext W1 w') ∧
      (RowC 2 prC w' (.slice a1 n1 k1) ext) ∧
      (w'.heap[q]? = some (.cells #[.int .i64 kind, Str flag, Str authz, Str user, Str nonce, .slice a1 n1 k1, .slice a2 n2 k2, .int .i64 iter, Str head, .slice a3 n3 k3, Str code] 25 (0, 0))))
    (by rfl) (by kernel_rfl) (by kernel_rfl) (by rfl) ?_ ?_ ?_
  · exact ⟨(fun h => by cases h), (fun h => by cases h), (fun h => by cases h), (fun h => by cases h), (fun h => by cases h), (fun h => by cases h), (fun h => by cases h), (fun h => by cases h), (fun h => by cases h), (fun h => by cases h), (fun h => by cases h), (fun h => by cases h), (fun h => by cases h), (fun h => by cases h), Below.drew (Below.refl _ _), HR1.out.ext (Below.drew (Below.refl _ _)), ext_at (Below.drew (Below.refl _ _)) HC1.out⟩
  · refine ⟨⟨⟨⟨⟨⟨⟨⟨⟨⟨⟨⟨⟨⟨trivial, ?_⟩, ?_⟩, ?_⟩, ?_⟩, ?_⟩, ?_⟩, ?_⟩, ?_⟩, ?_⟩, ?_⟩, ?_⟩, ?_⟩, ?_⟩, ?_⟩
    · refine stepOk_some (i := 0) (by rfl) (by rfl) ?_
      rintro u L T w' hT hu hL hp hcl ⟨C0, C1, C2, C3, C4, C5, C6, C7, C8, C9, C10, C11, C12, C13, E0, R0, HQ⟩ K hK
      have e1 : u 1 = .pointer (some ⟨q, 0, none⟩) := hu 1 (by decide)
      go_simp
      refine hK _ _ ?_
      exact ⟨fun _ => rfl, fun h => C1 (by simpa using h), fun h h2 => C2 (by simpa using h) (by simpa using h2), fun h => C3 (by simpa using h), fun h => C4 (by simpa using h), fun h => C5 (by simpa using h), fun h => C6 (by simpa using h), fun h => C7 (by simpa using h), fun h => C8 (by simpa using h), fun h => C9 (by simpa using h), fun h => C10 (by simpa using h), fun h => C11 (by simpa using h), fun h => C12 (by simpa using h), fun h => C13 (by simpa using h), E0, R0, HQ⟩
    · refine stepOk_some (i := 1) (by rfl) (by rfl) ?_
      rintro u L T w' hT hu hL hp hcl ⟨C0, C1, C2, C3, C4, C5, C6, C7, C8, C9, C10, C11, C12, C13, E0, R0, HQ⟩ K hK
      have e0 := C0 (hp.of 0 (by kernel_rfl))
      obtain ⟨c0, c1, c2, c3, c4, c5, c6, c7, c8, c9, c10⟩ := cells11 HQ
      go_simp
      refine hK _ _ ?_
      exact ⟨fun h => C0 (by simpa using h), fun _ => rfl, fun h h2 => C2 (by simpa using h) (by simpa using h2), fun h => C3 (by simpa using h), fun h => C4 (by simpa using h), fun h => C5 (by simpa using h), fun h => C6 (by simpa using h), fun h => C7 (by simpa using h), fun h => C8 (by simpa using h), fun h => C9 (by simpa using h), fun h => C10 (by simpa using h), fun h => C11 (by simpa using h), fun h => C12 (by simpa using h), fun h => C13 (by simpa using h), E0, R0, HQ⟩
    · refine stepOk_some (i := 2) (by rfl) (by rfl) ?_
      rintro u L T w' hT hu hL hp hcl ⟨C0, C1, C2, C3, C4, C5, C6, C7, C8, C9, C10, C11, C12, C13, E0, R0, HQ⟩ K hK
      have e1 := C1 (hp.of 1 (by kernel_rfl))
      obtain ⟨cb, w1, hcv, hx1, hr1⟩ := bytes_of_str (P := Tryd.prog) w' 9 23 5 head (by unfold maxLen; omega) Tryd.underlying9 Tryd.underlying23 Tryd.underlying5
      go_simp
      refine hK _ _ ?_
      exact ⟨fun h => C0 (by simpa using h), fun h => C1 (by simpa using h), fun _ _ => hr1, fun h => C3 (by simpa using h), fun h => C4 (by simpa using h), fun h => C5 (by simpa using h), fun h => C6 (by simpa using h), fun h => C7 (by simpa using h), fun h => C8 (by simpa using h), fun h => C9 (by simpa using h), fun h => C10 (by simpa using h), fun h => C11 (by simpa using h), fun h => C12 (by simpa using h), fun h => C13 (by simpa using h), ext_trans (E0) hx1, (R0).ext hx1, ext_at hx1 (HQ)⟩
    · refine stepOk_some (i := 3) (by rfl) (by rfl) ?_
      rintro u L T w' hT hu hL hp hcl ⟨C0, C1, C2, C3, C4, C5, C6, C7, C8, C9, C10, C11, C12, C13, E0, R0, HQ⟩ K hK
      have c2 := C2 (hp.of 2 (by kernel_rfl)) hL
      have e2 := hT 20
      go_simp
      refine (HEN.out _ w' c2).mono ?_
      rintro e w1 ⟨he, hx1⟩
      subst he
      refine hK _ _ ?_
      exact ⟨fun h => C0 (by simpa using h), fun h => C1 (by simpa using h), fun h h2 => absurd h2 (by simp), fun _ => rfl, fun h => C4 (by simpa using h), fun h => C5 (by simpa using h), fun h => C6 (by simpa using h), fun h => C7 (by simpa using h), fun h => C8 (by simpa using h), fun h => C9 (by simpa using h), fun h => C10 (by simpa using h), fun h => C11 (by simpa using h), fun h => C12 (by simpa using h), fun h => C13 (by simpa using h), ext_trans E0 hx1, R0.ext hx1, ext_at hx1 HQ⟩
    · refine stepOk_some (i := 4) (by rfl) (by rfl) ?_
      rintro u L T w' hT hu hL hp hcl ⟨C0, C1, C2, C3, C4, C5, C6, C7, C8, C9, C10, C11, C12, C13, E0, R0, HQ⟩ K hK
      have e3 := C3 (hp.of 3 (by kernel_rfl))
      go_simp
      try go_bits
      try (rw [if_neg (by omega)]; go_simp)
      try (rw [if_pos (by omega)]; go_simp)
      refine hK _ _ ?_
      exact ⟨fun h => C0 (by simpa using h), fun h => C1 (by simpa using h), fun h h2 => C2 (by simpa using h) (by simpa using h2), fun h => C3 (by simpa using h), fun _ => rfl, fun h => C5 (by simpa using h), fun h => C6 (by simpa using h), fun h => C7 (by simpa using h), fun h => C8 (by simpa using h), fun h => C9 (by simpa using h), fun h => C10 (by simpa using h), fun h => C11 (by simpa using h), fun h => C12 (by simpa using h), fun h => C13 (by simpa using h), E0, R0, HQ⟩
    · refine stepOk_some (i := 5) (by rfl) (by rfl) ?_
      rintro u L T w' hT hu hL hp hcl ⟨C0, C1, C2, C3, C4, C5, C6, C7, C8, C9, C10, C11, C12, C13, E0, R0, HQ⟩ K hK
      have e4 := C4 (hp.of 4 (by kernel_rfl))
      go_simp
      try go_bits
      try (rw [if_neg (by omega)]; go_simp)
      try (rw [if_pos (by omega)]; go_simp)
      refine hK _ _ ?_
      exact ⟨fun h => C0 (by simpa using h), fun h => C1 (by simpa using h), fun h h2 => C2 (by simpa using h) (by simpa using h2), fun h => C3 (by simpa using h), fun h => C4 (by simpa using h), fun _ => rfl, fun h => C6 (by simpa using h), fun h => C7 (by simpa using h), fun h => C8 (by simpa using h), fun h => C9 (by simpa using h), fun h => C10 (by simpa using h), fun h => C11 (by simpa using h), fun h => C12 (by simpa using h), fun h => C13 (by simpa using h), E0, R0, HQ⟩
    · refine stepOk_some (i := 6) (by rfl) (by rfl) ?_
      rintro u L T w' hT hu hL hp hcl ⟨C0, C1, C2, C3, C4, C5, C6, C7, C8, C9, C10, C11, C12, C13, E0, R0, HQ⟩ K hK
      have e1 : u 1 = .pointer (some ⟨q, 0, none⟩) := hu 1 (by decide)
      go_simp
      refine hK _ _ ?_
      exact ⟨fun h => C0 (by simpa using h), fun h => C1 (by simpa using h), fun h h2 => C2 (by simpa using h) (by simpa using h2), fun h => C3 (by simpa using h), fun h => C4 (by simpa using h), fun h => C5 (by simpa using h), fun _ => rfl, fun h => C7 (by simpa using h), fun h => C8 (by simpa using h), fun h => C9 (by simpa using h), fun h => C10 (by simpa using h), fun h => C11 (by simpa using h), fun h => C12 (by simpa using h), fun h => C13 (by simpa using h), E0, R0, HQ⟩
    · refine stepOk_some (i := 7) (by rfl) (by rfl) ?_
      rintro u L T w' hT hu hL hp hcl ⟨C0, C1, C2, C3, C4, C5, C6, C7, C8, C9, C10, C11, C12, C13, E0, R0, HQ⟩ K hK
      have e6 := C6 (hp.of 6 (by kernel_rfl))
      obtain ⟨c0, c1, c2, c3, c4, c5, c6, c7, c8, c9, c10⟩ := cells11 HQ
      go_simp
      refine hK _ _ ?_
      exact ⟨fun h => C0 (by simpa using h), fun h => C1 (by simpa using h), fun h h2 => C2 (by simpa using h) (by simpa using h2), fun h => C3 (by simpa using h), fun h => C4 (by simpa using h), fun h => C5 (by simpa using h), fun h => C6 (by simpa using h), fun _ => rfl, fun h => C8 (by simpa using h), fun h => C9 (by simpa using h), fun h => C10 (by simpa using h), fun h => C11 (by simpa using h), fun h => C12 (by simpa using h), fun h => C13 (by simpa using h), E0, R0, HQ⟩
    · refine stepOk_some (i := 8) (by rfl) (by rfl) ?_
      rintro u L T w' hT hu hL hp hcl ⟨C0, C1, C2, C3, C4, C5, C6, C7, C8, C9, C10, C11, C12, C13, E0, R0, HQ⟩ K hK
      have e5 := C5 (hp.of 5 (by kernel_rfl))
      have e7 := C7 (hp.of 7 (by kernel_rfl))
      go_simp
      try go_bits
      try (rw [if_neg (by omega)]; go_simp)
      try (rw [if_pos (by omega)]; go_simp)
      refine hK _ _ ?_
      exact ⟨fun h => C0 (by simpa using h), fun h => C1 (by simpa using h), fun h h2 => C2 (by simpa using h) (by simpa using h2), fun h => C3 (by simpa using h), fun h => C4 (by simpa using h), fun h => C5 (by simpa using h), fun h => C6 (by simpa using h), fun h => C7 (by simpa using h), fun _ => rfl, fun h => C9 (by simpa using h), fun h => C10 (by simpa using h), fun h => C11 (by simpa using h), fun h => C12 (by simpa using h), fun h => C13 (by simpa using h), E0, R0, HQ⟩
    · refine stepOk_some (i := 9) (by rfl) (by rfl) ?_
      rintro u L T w' hT hu hL hp hcl ⟨C0, C1, C2, C3, C4, C5, C6, C7, C8, C9, C10, C11, C12, C13, E0, R0, HQ⟩ K hK
      have e1 : u 1 = .pointer (some ⟨q, 0, none⟩) := hu 1 (by decide)
      go_simp
      refine hK _ _ ?_
      exact ⟨fun h => C0 (by simpa using h), fun h => C1 (by simpa using h), fun h h2 => C2 (by simpa using h) (by simpa using h2), fun h => C3 (by simpa using h), fun h => C4 (by simpa using h), fun h => C5 (by simpa using h), fun h => C6 (by simpa using h), fun h => C7 (by simpa using h), fun h => C8 (by simpa using h), fun _ => rfl, fun h => C10 (by simpa using h), fun h => C11 (by simpa using h), fun h => C12 (by simpa using h), fun h => C13 (by simpa using h), E0, R0, HQ⟩
    · refine stepOk_some (i := 10) (by rfl) (by rfl) ?_
      rintro u L T w' hT hu hL hp hcl ⟨C0, C1, C2, C3, C4, C5, C6, C7, C8, C9, C10, C11, C12, C13, E0, R0, HQ⟩ K hK
      have e9 := C9 (hp.of 9 (by kernel_rfl))
      obtain ⟨c0, c1, c2, c3, c4, c5, c6, c7, c8, c9, c10⟩ := cells11 HQ
      go_simp
      refine hK _ _ ?_
      exact ⟨fun h => C0 (by simpa using h), fun h => C1 (by simpa using h), fun h h2 => C2 (by simpa using h) (by simpa using h2), fun h => C3 (by simpa using h), fun h => C4 (by simpa using h), fun h => C5 (by simpa using h), fun h => C6 (by simpa using h), fun h => C7 (by simpa using h), fun h => C8 (by simpa using h), fun h => C9 (by simpa using h), fun _ => rfl, fun h => C11 (by simpa using h), fun h => C12 (by simpa using h), fun h => C13 (by simpa using h), E0, R0, HQ⟩
    · refine stepOk_some (i := 11) (by rfl) (by rfl) ?_
      rintro u L T w' hT hu hL hp hcl ⟨C0, C1, C2, C3, C4, C5, C6, C7, C8, C9, C10, C11, C12, C13, E0, R0, HQ⟩ K hK
      have e10 := C10 (hp.of 10 (by kernel_rfl))
      go_simp
      refine (HT.out w' R0).mono ?_
      rintro e w1 ⟨he, hx1⟩
      subst he
      refine hK _ _ ?_
      exact ⟨fun h => C0 (by simpa using h), fun h => C1 (by simpa using h), fun h h2 => (C2 (by simpa using h) (by simpa using h2)).ext hx1, fun h => C3 (by simpa using h), fun h => C4 (by simpa using h), fun h => C5 (by simpa using h), fun h => C6 (by simpa using h), fun h => C7 (by simpa using h), fun h => C8 (by simpa using h), fun h => C9 (by simpa using h), fun h => C10 (by simpa using h), fun _ => rfl, fun h => C12 (by simpa using h), fun h => C13 (by simpa using h), ext_trans (E0) hx1, (R0).ext hx1, ext_at hx1 (HQ)⟩
    · refine stepOk_some (i := 12) (by rfl) (by rfl) ?_
      rintro u L T w' hT hu hL hp hcl ⟨C0, C1, C2, C3, C4, C5, C6, C7, C8, C9, C10, C11, C12, C13, E0, R0, HQ⟩ K hK
      have e8 := C8 (hp.of 8 (by kernel_rfl))
      have e11 := C11 (hp.of 11 (by kernel_rfl))
      go_simp
      try go_bits
      try (rw [if_neg (by omega)]; go_simp)
      try (rw [if_pos (by omega)]; go_simp)
      refine hK _ _ ?_
      exact ⟨fun h => C0 (by simpa using h), fun h => C1 (by simpa using h), fun h h2 => C2 (by simpa using h) (by simpa using h2), fun h => C3 (by simpa using h), fun h => C4 (by simpa using h), fun h => C5 (by simpa using h), fun h => C6 (by simpa using h), fun h => C7 (by simpa using h), fun h => C8 (by simpa using h), fun h => C9 (by simpa using h), fun h => C10 (by simpa using h), fun h => C11 (by simpa using h), fun _ => rfl, fun h => C13 (by simpa using h), E0, R0, HQ⟩
    · refine stepOk_some (i := 13) (by rfl) (by rfl) ?_
      rintro u L T w' hT hu hL hp hcl ⟨C0, C1, C2, C3, C4, C5, C6, C7, C8, C9, C10, C11, C12, C13, E0, R0, HQ⟩ K hK
      have e12 := C12 (hp.of 12 (by kernel_rfl))
      go_simp
      refine hK _ _ ?_
      exact ⟨fun h => C0 (by simpa using h), fun h => C1 (by simpa using h), fun h h2 => C2 (by simpa using h) (by simpa using h2), fun h => C3 (by simpa using h), fun h => C4 (by simpa using h), fun h => C5 (by simpa using h), fun h => C6 (by simpa using h), fun h => C7 (by simpa using h), fun h => C8 (by simpa using h), fun h => C9 (by simpa using h), fun h => C10 (by simpa using h), fun h => C11 (by simpa using h), fun h => C12 (by simpa using h), fun _ => rfl, E0, R0, HQ⟩
  · rintro u L w' hall hu ⟨C0, C1, C2, C3, C4, C5, C6, C7, C8, C9, C10, C11, C12, C13, E0, R0, HQ⟩
    replace C0 := C0 (hall 0 (by omega))
    replace C1 := C1 (hall 1 (by omega))
    replace C3 := C3 (hall 3 (by omega))
    replace C4 := C4 (hall 4 (by omega))
    replace C5 := C5 (hall 5 (by omega))
    replace C6 := C6 (hall 6 (by omega))
    replace C7 := C7 (hall 7 (by omega))
    replace C8 := C8 (hall 8 (by omega))
    replace C9 := C9 (hall 9 (by omega))
    replace C10 := C10 (hall 10 (by omega))
    replace C11 := C11 (hall 11 (by omega))
    replace C12 := C12 (hall 12 (by omega))
    replace C13 := C13 (hall 13 (by omega))
    simp only [fill, List.setIfInBounds_toArray, List.set_cons_succ, List.set_cons_zero, C0, C1, C3, C4, C5, C6, C7, C8, C9, C10, C11, C12, C13]
    generalize u 20 = s0 at *
    clear C0 C1 C2 C3 C4 C5 C6 C7 C8 C9 C10 C11 C12 C13 hu
  -- end inv
    go_wp2
    go_ret
    exact ⟨rfl, ext_trans HX1.out E0⟩
end Go.Proofs.YtjkbigecejogdaaDoor
