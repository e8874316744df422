/-
  ScramReads: the law's walk.
-/
import Derived.BigGuardPart
import Derived.OwnWalk
import Derived.Deep.LoopGhost
import Derived.Test.YtjkbigecejogdaaGreatDoorRows
import Derived.Test.YtjkbigecejogdaaGreatDoorLpr
import Derived.Test.YtjkbigecejogdaaGreatDoorSmm
import Derived.Test.YtjkbigecejogdaaGreatDoorScb
namespace Go.Proofs.YtjkbigecejogdaaGreatDoor
open Go.RowKit
set_option maxRecDepth 100000
attribute [local go_sem] Oper.semAt_some
set_option linter.unusedVariables false
set_option linter.unusedSimpArgs false
set_option maxHeartbeats 8000000 in
theorem reads_any (s : List UInt8) (w : World) (hL : LwS w) :
    Calls Tryz.prog 3 #[Str s] w fun e w' => e = .returned (.bool true) ∧ Ext w w' := by
  have HAW := Lib.hid (awake_law w hL.mx hL.fm)
  have HL := Lib.hid hL
  have HCT := Lib.hid (fun W => cutText_any s 4200 W (by omega))
  have htl : (s.take 4200).length ≤ 4200 := by rw [List.length_take]; omega
  generalize s.take 4200 = t at *
  have HPA := Lib.hid (fun (k : Nat) W (h : LwS W) => lparse_any (k : Int) t (by omega) W h)
  have HRD := Lib.hid (fun (k : Nat) W => rRead_any (k : Int) t (by omega) W)
  unfold LpP at HPA
  clear hL
  go_enter Tryz.func3, Tryz.ntmps3
  go_wp2_with fail
  refine HAW.out.mono ?_
  rintro e W1 ⟨rfl, hx⟩
  have HX1 := Lib.hid hx
  clear hx HAW
  go_wp2_with fail
  refine (HCT.out _).mono ?_
  rintro e V ⟨rfl, hw⟩
  subst V
  go_wp2_with fail
  go_loopw [3] (fun i wr => ∃ k : Nat, 1 ≤ k ∧ k ≤ 5 ∧ i = .int .i64 k ∧ Hid (Ext w wr)) (fun i _ => 5 - (intOf i).toNat)
  case atStart => exact ⟨1, by omega, by omega, rfl, HX1⟩
  case round =>
    obtain ⟨k, hk1, hk5, rfl, HXR⟩ := hrel
    by_cases h4 : k ≤ 4
    · have hk4 : (k : Int) ≤ 4 := by omega
      have HP := Lib.hid (HPA.out k wr (HL.out.ext HXR.out))
      have HR := Lib.hid (fun W => HRD.out k W)
      generalize rRead (k : Int) t = mm at *
      obtain ⟨m, c⟩ := mm
      simp only at HP HR
      go_wp2_with fail
      refine HP.out.mono ?_
      rintro e W2 ⟨⟨v9, rfl, hm9⟩, hx⟩
      have hxa := ext_trans HXR.out hx
      clear hx
      obtain ⟨e9, s9, p9, rfl, hmr⟩ := hm9
      obtain ⟨a1, n1, k1, a2, n2, k2, a3, n3, k3, rfl, rfl, rfl⟩ := hmr.shape
      obtain ⟨W3, hW2⟩ : ∃ WX, W2.alloc (.cells zerM 27) = WX := ⟨_, rfl⟩
      have hx2 : Ext W2 W3 := by rw [← hW2]; exact Below.alloc (Below.refl _ _) (Nat.le_refl _) _
      have hq2 : W3.heap[W2.heap.size]? = some (.cells zerM 27 (0, 0)) := by rw [← hW2]; exact Array.getElem?_push_size
      obtain ⟨Z3, hZ2, hp2, hb2⟩ := set11 hq2 (.int .i64 m.kind) (Str m.flag) (Str m.authz) (Str m.user) (Str m.nonce) (.slice a1 n1 k1) (.slice a2 n2 k2) (.int .i64 m.iter) (Str m.head) (.slice a3 n3 k3) (Str m.code)
      obtain ⟨c0, c1, c2, c3, c4, c5, c6, c7, c8, c9, c10⟩ := cells11 hq2
      obtain ⟨f0, f1, f2, f3, f4, f5, f6, f7, f8, f9, f10⟩ := frozen11 hq2
      have hx2z : Ext W2 Z3 := hb2.below hx2 (Nat.le_refl _) (Nat.le_refl _)
      have HMA := Lib.hid (show MsIs 0 Z3 (.agg (msA m (.slice a1 n1 k1) (.slice a2 n2 k2) (.slice a3 n3 k3))) m from ⟨_, _, _, rfl, (hmr.grow hx2z).mono (Nat.zero_le _)⟩)
      have HXA := Lib.hid (ext_trans hxa hx2z)
      have HQA := Lib.hid hp2; have HZ2 := Lib.hid hZ2
      have HXZ := Lib.hid hx2z
      clear hx2 hq2 hb2 hx2z hZ2 hp2 hmr
      go_upto_region 8 with fail
      try rw [hW2]
      rw [HZ2.out]
      clear hW2 HZ2 c0 c1 c2 c3 c4 c5 c6 c7 c8 c9 c10 f0 f1 f2 f3 f4 f5 f6 f7 f8 f9 f10
      clear hxa
      go_wp2_with fail
      refine (HR.out _).mono ?_
      rintro e W4 ⟨⟨v9, rfl, hm9⟩, hx⟩
      have hxb := ext_trans HXA.out hx
      have HXB0 := Lib.hid hx
      clear hx
      have HMA4 := Lib.hid (HMA.out.ext HXB0.out)
      have HQA4 := Lib.hid (ext_at HXB0.out HQA.out)
      obtain ⟨e9, s9, p9, rfl, hmr⟩ := hm9
      obtain ⟨a1, n1, k1, a2, n2, k2, a3, n3, k3, rfl, rfl, rfl⟩ := hmr.shape
      obtain ⟨W5, hW2⟩ : ∃ WX, W4.alloc (.cells zerM 27) = WX := ⟨_, rfl⟩
      have hx2 : Ext W4 W5 := by rw [← hW2]; exact Below.alloc (Below.refl _ _) (Nat.le_refl _) _
      have hq2 : W5.heap[W4.heap.size]? = some (.cells zerM 27 (0, 0)) := by rw [← hW2]; exact Array.getElem?_push_size
      obtain ⟨Z5, hZ2, hp2, hb2⟩ := set11 hq2 (.int .i64 m.kind) (Str m.flag) (Str m.authz) (Str m.user) (Str m.nonce) (.slice a1 n1 k1) (.slice a2 n2 k2) (.int .i64 m.iter) (Str m.head) (.slice a3 n3 k3) (Str m.code)
      obtain ⟨c0, c1, c2, c3, c4, c5, c6, c7, c8, c9, c10⟩ := cells11 hq2
      obtain ⟨f0, f1, f2, f3, f4, f5, f6, f7, f8, f9, f10⟩ := frozen11 hq2
      have hx2z : Ext W4 Z5 := hb2.below hx2 (Nat.le_refl _) (Nat.le_refl _)
      have HMB := Lib.hid (show MsIs 0 Z5 (.agg (msA m (.slice a1 n1 k1) (.slice a2 n2 k2) (.slice a3 n3 k3))) m from ⟨_, _, _, rfl, (hmr.grow hx2z).mono (Nat.zero_le _)⟩)
      have HXB := Lib.hid (ext_trans hxb hx2z)
      have HQB := Lib.hid hp2; have HZ2 := Lib.hid hZ2
      have HXZ := Lib.hid hx2z
      clear hx2 hq2 hb2 hx2z hZ2 hp2 hmr
      go_upto_region 9 with fail
      try rw [hW2]
      rw [HZ2.out]
      clear hW2 HZ2 c0 c1 c2 c3 c4 c5 c6 c7 c8 c9 c10 f0 f1 f2 f3 f4 f5 f6 f7 f8 f9 f10
      clear hxb
      have HMA6 := Lib.hid (HMA4.out.ext HXZ.out)
      have hqa := ext_at HXZ.out HQA4.out
      obtain ⟨c0, c1, c2, c3, c4, c5, c6, c7, c8, c9, c10⟩ := cells11 hqa
      obtain ⟨d0, d1, d2, d3, d4, d5, d6, d7, d8, d9, d10⟩ := cells11 HQB.out
      clear hqa
      go_wp2_with fail
      refine (sameM_any 0 0 _ _ m m Z5 HMA6.out HMB.out).mono ?_
      rintro e W6 ⟨he, hx⟩
      rw [decide_eq_true rfl] at he
      subst he
      have HX6 := Lib.hid (ext_trans HXB.out hx)
      clear hx c0 c1 c2 c3 c4 c5 c6 c7 c8 c9 c10 d0 d1 d2 d3 d4 d5 d6 d7 d8 d9 d10
      go_wp2
      go_roundw
      case rel => exact ⟨k + 1, by omega, by omega, by go_num, HX6⟩
      case measure => simp [intOf] <;> omega
    · have hk4 : ¬ (k : Int) ≤ 4 := by omega
      go_wp2
      go_ret
      exact ⟨rfl, HXR.out⟩
end Go.Proofs.YtjkbigecejogdaaGreatDoor
