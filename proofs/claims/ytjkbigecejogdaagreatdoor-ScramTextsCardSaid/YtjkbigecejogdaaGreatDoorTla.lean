/-
 ScramTexts: the law's walk.
-/
import Derived.BigGuardPart
import Derived.OwnWalk
import Derived.Deep.LoopGhost
import Derived.Test.YtjkbigecejogdaaGreatDoorRows
import Derived.Test.YtjkbigecejogdaaGreatDoorLpr
import Derived.Test.YtjkbigecejogdaaGreatDoorSmm
import Derived.Test.YtjkbigecejogdaaGreatDoorScb
import Derived.Test.YtjkbigecejogdaaGreatDoorRlg
import Derived.Test.YtjkbigecejogdaaGreatDoorRfw
import Derived.Test.YtjkbigecejogdaaGreatDoorSfa
namespace Go.Proofs.YtjkbigecejogdaaGreatDoor
open Go.RowKit
set_option maxRecDepth 100000
attribute [local go_sem] Oper.semAt_some
set_option linter.unusedVariables false
set_option linter.unusedSimpArgs false
set_option maxHeartbeats 8000000 in
theorem texts_any (m : Ms) (hk1 : -9223372036854775808 ≤ m.kind) (hk2 : m.kind ≤ 9223372036854775807) (hi1 : -9223372036854775808 ≤ m.iter) (hi2 : m.iter ≤ 9223372036854775807) (B : Nat) (e s p : Value) (w : World) (hr : MsR B w e s p m) (hL : LwS w) :
    Calls Tryz.prog 4 #[.agg (msA m e s p)] w fun r w' => r = .returned (.bool true) ∧ Ext w w' := by
 obtain ⟨a1, n1, k1, a2, n2, k2, a3, n3, k3, rfl, rfl, rfl⟩ := hr.shape
 have HAW := Lib.hid (fun W (h : LwS W) => awake_law W h.mx h.fm)
 have HL := Lib.hid hL; have HR := Lib.hid hr
 have HFW := Lib.hid (fun W h => few_any m hk1 hk2 B (.slice a1 n1 k1) (.slice a2 n2 k2) (.slice a3 n3 k3) W h)
 have hff := msF_few m hi1 hi2
 have HVT := Lib.hid (txtV_ok (fewM m) hff)
 have HLT := Lib.hid (fun C e s p W h hl => ltext_any (fewM m) (msF_ok _ hff) C e s p W h hl)
 have HRT := Lib.hid (fun C e s p W h hl => rtext_any (fewM m) hff C e s p W h hl)
 have HPA := Lib.hid (fun t (ht : t.length ≤ 10000) W h => lparse_any (fewM m).kind t ht W h)
 unfold LpP at HPA
 clear hff hi1 hi2
 generalize fewM m = fm at *
 obtain ⟨z, hz⟩ : ∃ z, txtV fm = z := ⟨_, rfl⟩
 rw [hz] at HVT HLT HRT
 clear hz
 obtain ⟨z1, z2⟩ := z
 simp only at HVT HLT HRT
 obtain ⟨W1, hW1⟩ : ∃ W1, w.alloc (.cells #[.int .i64 m.kind, Str m.flag, Str m.authz, Str m.user, Str m.nonce, .slice a1 n1 k1, .slice a2 n2 k2, .int .i64 m.iter, Str m.head, .slice a3 n3 k3, Str m.code] 27) = W1 := ⟨_, rfl⟩
 have x1 : Ext w W1 := by rw [← hW1]; exact Below.alloc (Below.refl _ _) (Nat.le_refl _) _
 have r1 : W1.heap[w.heap.size]? = some (.cells #[.int .i64 m.kind, Str m.flag, Str m.authz, Str m.user, Str m.nonce, .slice a1 n1 k1, .slice a2 n2 k2, .int .i64 m.iter, Str m.head, .slice a3 n3 k3, Str m.code] 27 (0, 0)) := by rw [← hW1]; exact Array.getElem?_push_size
 have HX1 := Lib.hid x1; have HQ1 := Lib.hid r1
 clear x1 r1 hr hL
 go_enter Tryz.func4, Tryz.ntmps4
 go_wp2_with fail
 try rw [hW1]
 clear hW1
 refine (HAW.out _ (HL.out.ext HX1.out)).mono ?_
 rintro e W2 ⟨rfl, hx⟩
 have HX2 := Lib.hid (ext_trans HX1.out hx)
 have HQ2 := Lib.hid (ext_at hx HQ1.out)
 clear hx HX1 HQ1 HAW
 obtain ⟨c0, c1, c2, c3, c4, c5, c6, c7, c8, c9, c10⟩ := cells11 HQ2.out
 go_wp2_with fail
 refine (HFW.out W2 (HR.out.grow HX2.out)).mono ?_
 rintro e W3 ⟨⟨v9, rfl, hm9⟩, hx⟩
 obtain ⟨e9, s9, p9, rfl, hmr⟩ := hm9
 obtain ⟨b1, m1, j1, b2, m2, j2, b3, m3, j3, rfl, rfl, rfl⟩ := hmr.shape
 have HX3 := Lib.hid (ext_trans HX2.out hx)
 have hq3 := ext_at hx HQ2.out
 clear hx HFW HR c0 c1 c2 c3 c4 c5 c6 c7 c8 c9 c10
 obtain ⟨f0, f1, f2, f3, f4, f5, f6, f7, f8, f9, f10⟩ := frozen11 hq3
 obtain ⟨d0, d1, d2, d3, d4, d5, d6, d7, d8, d9, d10⟩ := cells11 hq3
 obtain ⟨Z3, hZ3, hr3, hb3⟩ := set11 hq3 (.int .i64 fm.kind) (Str fm.flag) (Str fm.authz) (Str fm.user) (Str fm.nonce) (.slice b1 m1 j1) (.slice b2 m2 j2) (.int .i64 fm.iter) (Str fm.head) (.slice b3 m3 j3) (Str fm.code)
 have HM3 := Lib.hid (hmr.bz hb3 (Array.getElem?_eq_some_iff.1 HQ2.out).1)
 have HXZ := Lib.hid (hb3.below HX3.out (Nat.le_refl _) (Nat.le_refl _))
 have HQ3 := Lib.hid hr3; have HZ3 := Lib.hid hZ3
 clear hq3 hr3 hb3 hmr hZ3 HX3 HX2 HQ2
 go_upto_region 4 with fail
 rw [HZ3.out]
 clear HZ3 d0 d1 d2 d3 d4 d5 d6 d7 d8 d9 d10 f0 f1 f2 f3 f4 f5 f6 f7 f8 f9 f10
 obtain ⟨c0, c1, c2, c3, c4, c5, c6, c7, c8, c9, c10⟩ := cells11 HQ3.out
 go_wp2_with fail
 refine (HLT.out _ _ _ _ Z3 HM3.out (HL.out.ext HXZ.out)).mono ?_
 rintro e W4 ⟨rfl, hx⟩
 have HX4 := Lib.hid (ext_trans HXZ.out hx)
 have HM4 := Lib.hid (HM3.out.grow hx)
 have HQ4 := Lib.hid (ext_at hx HQ3.out)
 clear hx HXZ HM3 HQ3 HLT c0 c1 c2 c3 c4 c5 c6 c7 c8 c9 c10
 obtain ⟨c0, c1, c2, c3, c4, c5, c6, c7, c8, c9, c10⟩ := cells11 HQ4.out
 go_wp2_with fail
 refine (HRT.out _ _ _ _ W4 HM4.out (HL.out.ext HX4.out)).mono ?_
 rintro e W5 ⟨rfl, hx⟩
 have HX5 := Lib.hid (ext_trans HX4.out hx)
 have HM5 := Lib.hid (HM4.out.grow hx)
 have HQ5 := Lib.hid (ext_at hx HQ4.out)
 clear hx HX4 HM4 HQ4 HRT c0 c1 c2 c3 c4 c5 c6 c7 c8 c9 c10
 obtain ⟨c0, c1, c2, c3, c4, c5, c6, c7, c8, c9, c10⟩ := cells11 HQ5.out
 have t1 : (z1 != z1) = false := by simp
 have t2 : (z1 == z1) = true := by simp
 by_cases hc : z2 = 0
 ·subst hc
  obtain ⟨hrd, hzl⟩ := HVT.out rfl
  have HP := Lib.hid (HPA.out z1 hzl W5 (HL.out.ext HX5.out))
  rw [hrd] at HP
  clear hrd HVT HPA
  go_wp2_with fail
  refine HP.out.mono ?_
  rintro e W6 ⟨⟨v9, rfl, hm9⟩, hx⟩
  have hxa := ext_trans HX5.out hx
  have HM6 := Lib.hid (HM5.out.grow hx)
  have HQ6 := Lib.hid (ext_at hx HQ5.out)
  clear hx HM5 HQ5 c0 c1 c2 c3 c4 c5 c6 c7 c8 c9 c10
  obtain ⟨e9, s9, p9, rfl, hmr⟩ := hm9
  obtain ⟨a4, n4, k4, a5, n5, k5, a6, n6, k6, rfl, rfl, rfl⟩ := hmr.shape
  obtain ⟨W7, hW7⟩ : ∃ WX, W6.alloc (.cells zerM 27) = WX := ⟨_, rfl⟩
  have hx7 : Ext W6 W7 := by rw [← hW7]; exact Below.alloc (Below.refl _ _) (Nat.le_refl _) _
  have hq7 : W7.heap[W6.heap.size]? = some (.cells zerM 27 (0, 0)) := by rw [← hW7]; exact Array.getElem?_push_size
  obtain ⟨Z7, hZ7, hp7, hb7⟩ := set11 hq7 (.int .i64 fm.kind) (Str fm.flag) (Str fm.authz) (Str fm.user) (Str fm.nonce) (.slice a4 n4 k4) (.slice a5 n5 k5) (.int .i64 fm.iter) (Str fm.head) (.slice a6 n6 k6) (Str fm.code)
  obtain ⟨d0, d1, d2, d3, d4, d5, d6, d7, d8, d9, d10⟩ := cells11 hq7
  obtain ⟨f0, f1, f2, f3, f4, f5, f6, f7, f8, f9, f10⟩ := frozen11 hq7
  have hxz : Ext W6 Z7 := hb7.below hx7 (Nat.le_refl _) (Nat.le_refl _)
  have HMX := Lib.hid (show MsIs 0 Z7 (.agg (msA fm (.slice a4 n4 k4) (.slice a5 n5 k5) (.slice a6 n6 k6))) fm from ⟨_, _, _, rfl, (hmr.grow hxz).mono (Nat.zero_le _)⟩)
  have HMM := Lib.hid (show MsIs 0 Z7 (.agg (msA fm (.slice b1 m1 j1) (.slice b2 m2 j2) (.slice b3 m3 j3))) fm from ⟨_, _, _, rfl, (HM6.out.grow hxz).mono (Nat.zero_le _)⟩)
  have HX7 := Lib.hid (ext_trans hxa hxz)
  have HQX := Lib.hid hp7; have HZ7 := Lib.hid hZ7
  have HQM := Lib.hid (ext_at hxz HQ6.out)
  clear hx7 hq7 hb7 hxz hZ7 hp7 hmr hxa HM6 HQ6
  go_upto_region 11 with fail
  try rw [hW7]
  rw [HZ7.out]
  clear hW7 HZ7 d0 d1 d2 d3 d4 d5 d6 d7 d8 d9 d10 f0 f1 f2 f3 f4 f5 f6 f7 f8 f9 f10
  obtain ⟨c0, c1, c2, c3, c4, c5, c6, c7, c8, c9, c10⟩ := cells11 HQM.out
  obtain ⟨d0, d1, d2, d3, d4, d5, d6, d7, d8, d9, d10⟩ := cells11 HQX.out
  go_wp2_with fail
  refine (sameM_any 0 0 _ _ fm fm Z7 HMX.out HMM.out).mono ?_
  rintro e W8 ⟨he, hx⟩
  simp only [decide_true] at he
  subst he
  have HX8 := Lib.hid (ext_trans HX7.out hx)
  clear hx c0 c1 c2 c3 c4 c5 c6 c7 c8 c9 c10 d0 d1 d2 d3 d4 d5 d6 d7 d8 d9 d10
  go_wp2
  go_ret
  exact ⟨rfl, HX8.out⟩
 ·have g1 : (z2 != 0) = true := by simp [hc]
  have g2 : (z2 == 0) = false := by simp [hc]
  have t3 : (z2 != z2) = false := by simp
  clear HVT HPA
  go_wp2
  go_ret
  exact ⟨rfl, HX5.out⟩
end Go.Proofs.YtjkbigecejogdaaGreatDoor
