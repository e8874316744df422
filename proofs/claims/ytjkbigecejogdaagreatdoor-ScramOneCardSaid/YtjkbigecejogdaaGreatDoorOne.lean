/-
  ScramOne: the law's walk.
-/
import Derived.BigGuardPart
import Derived.Test.YtjkbigecejogdaaGreatDoorRows
import Derived.Test.YtjkbigecejogdaaGreatDoorOnp
import Derived.Test.YtjkbigecejogdaaGreatDoorLtx
import Derived.Test.YtjkbigecejogdaaGreatDoorLpr
import Derived.Test.YtjkbigecejogdaaGreatDoorScb
namespace Go.Proofs.YtjkbigecejogdaaGreatDoor
open Go.RowKit
set_option maxRecDepth 100000
attribute [local go_sem] Oper.semAt_some
set_option linter.unusedVariables false
set_option linter.unusedSimpArgs false
theorem MsIs.rows {B : Nat} {w : World} {e s p : Value} {m : Ms} (h : MsIs B w (.agg (msA m e s p)) m) : MsR B w e s p m := by
  obtain ⟨e', s', p', h1, h2⟩ := h
  simp [msA] at h1
  obtain ⟨rfl, rfl, rfl⟩ := h1
  exact h2
set_option maxHeartbeats 8000000 in
theorem ones_any (s : List UInt8) (x : Int) (hx0 : 0 ≤ x) (hx1 : x ≤ 255) (w : World) (hL : LwS w) :
    Calls Tryz.prog 5 #[Str s, .int .u8 x] w fun e w' => e = .returned (.bool true) ∧ Ext w w' := by
  have HAW := Lib.hid (awake_law w hL.mx hL.fm)
  have HL := Lib.hid hL
  have HCT := Lib.hid (fun W => cutText_any s 600 W (by omega))
  have htl : (s.take 600).length ≤ 600 := by rw [List.length_take]; omega
  generalize s.take 600 = t at *
  have HPA := Lib.hid (fun (k : Int) W (h : LwS W) => lparse_any k t (by omega) W h)
  have HO := Lib.hid (fun (k : Int) m (h : rRead k t = (m, 0)) => one_txt h)
  have HK := Lib.hid (fun (k : Int) m (h : rRead k t = (m, 0)) => msOk_of (one_any h).1 (one_any h).2.1 (by omega))
  unfold LpP at HPA
  clear hL
  obtain ⟨kr, hkr, hkr4⟩ : ∃ kr : Nat, x.tmod 4 = (kr : Int) ∧ kr < 4 := by
    refine ⟨(x % 4).toNat, ?_, ?_⟩
    · rw [Int.tmod_eq_emod_of_nonneg hx0]; omega
    · omega
  have hkr' : x % 4 = (kr : Int) := by rw [← Int.tmod_eq_emod_of_nonneg hx0]; exact hkr
  go_enter Tryz.func5, Tryz.ntmps5
  go_wp2_with fail
  refine HAW.out.mono ?_
  rintro e W1 ⟨rfl, hx⟩
  have HX1 := Lib.hid hx
  clear hx HAW
  go_wp2_with fail
  refine (HCT.out _).mono ?_
  rintro e V ⟨rfl, hw⟩
  subst V
  have hkk : kr = 0 ∨ kr = 1 ∨ kr = 2 ∨ kr = 3 := by omega
  rcases hkk with rfl | rfl | rfl | rfl
  · have hq : x.tmod 4 = 0 := hkr
    have hq' : x % 4 = 0 := hkr'
    clear hkr hkr'
    have HP := Lib.hid (HPA.out 1 W1 (HL.out.ext HX1.out))
    have HO1 := Lib.hid (HO.out 1)
    have HK1 := Lib.hid (HK.out 1)
    clear HPA HO HK
    generalize rRead 1 t = mm at *
    obtain ⟨m, c⟩ := mm
    simp only at HP
    go_wp2_with fail
    refine HP.out.mono ?_
    rintro e W2 ⟨⟨v9, rfl, hm9⟩, hx⟩
    have hxa := ext_trans HX1.out hx
    clear hx
    obtain ⟨e9, s9, p9, rfl, hmr⟩ := hm9
    obtain ⟨a1, n1, k1, a2, n2, k2, a3, n3, k3, rfl, rfl, rfl⟩ := hmr.shape
    obtain ⟨W3, hW2⟩ : ∃ WX, W2.alloc (.cells zerM 27) = WX := ⟨_, rfl⟩
    have hx2 : Ext W2 W3 := by rw [← hW2]; exact Below.alloc (Below.refl _ _) (Nat.le_refl _) _
    have hq2 : W3.heap[W2.heap.size]? = some (.cells zerM 27 (0, 0)) := by rw [← hW2]; exact Array.getElem?_push_size
    obtain ⟨Z3, hZ2, hp2, hb2⟩ := set11 hq2 (.int .i64 m.kind) (Str m.flag) (Str m.authz) (Str m.user) (Str m.nonce) (.slice a1 n1 k1) (.slice a2 n2 k2) (.int .i64 m.iter) (Str m.head) (.slice a3 n3 k3) (Str m.code)
    obtain ⟨c0, c1, c2, c3, c4, c5, c6, c7, c8, c9, c10⟩ := cells11 hq2
    obtain ⟨f0, f1, f2, f3, f4, f5, f6, f7, f8, f9, f10⟩ := frozen11 hq2
    have hx2z : Ext W2 Z3 := hb2.below hx2 (Nat.le_refl _) (Nat.le_refl _)
    have HMA := Lib.hid (show MsIs 0 Z3 (.agg (msA m (.slice a1 n1 k1) (.slice a2 n2 k2) (.slice a3 n3 k3))) m from ⟨_, _, _, rfl, (hmr.grow hx2z).mono (Nat.zero_le _)⟩)
    have HXA := Lib.hid (ext_trans hxa hx2z)
    have HQA := Lib.hid hp2; have HZ2 := Lib.hid hZ2
    have HXZ := Lib.hid hx2z
    clear hx2 hq2 hb2 hx2z hZ2 hp2 hmr
    go_upto_region 6 with fail
    try rw [hW2]
    rw [HZ2.out]
    clear hW2 HZ2 c0 c1 c2 c3 c4 c5 c6 c7 c8 c9 c10 f0 f1 f2 f3 f4 f5 f6 f7 f8 f9 f10
    clear hxa
    by_cases hc : c = 0
    · subst hc
      have htx := HO1.out m rfl
      have hok := HK1.out m rfl
      have HT := Lib.hid (ltext_any m hok 0 _ _ _ Z3 HMA.out.rows (HL.out.ext HXA.out))
      rw [htx] at HT
      clear htx hok HO1 HK1
      obtain ⟨c0, c1, c2, c3, c4, c5, c6, c7, c8, c9, c10⟩ := cells11 HQA.out
      go_wp2_with fail
      refine HT.out.mono ?_
      rintro e W4 ⟨rfl, hx4⟩
      have HX4 := Lib.hid (ext_trans HXA.out hx4)
      clear hx4 c0 c1 c2 c3 c4 c5 c6 c7 c8 c9 c10
      have tt : (t == t) = true := by simp
      go_wp2
      go_ret
      exact ⟨rfl, HX4.out⟩
    · have hcb : (c == 0) = false := by simp [hc]
      have hcc : (c != 0) = true := by simp [hc]
      clear HO1 HK1
      go_wp2
      go_ret
      exact ⟨rfl, HXA.out⟩
  · have hq : x.tmod 4 = 1 := hkr
    have hq' : x % 4 = 1 := hkr'
    clear hkr hkr'
    have HP := Lib.hid (HPA.out 2 W1 (HL.out.ext HX1.out))
    have HO1 := Lib.hid (HO.out 2)
    have HK1 := Lib.hid (HK.out 2)
    clear HPA HO HK
    generalize rRead 2 t = mm at *
    obtain ⟨m, c⟩ := mm
    simp only at HP
    go_wp2_with fail
    refine HP.out.mono ?_
    rintro e W2 ⟨⟨v9, rfl, hm9⟩, hx⟩
    have hxa := ext_trans HX1.out hx
    clear hx
    obtain ⟨e9, s9, p9, rfl, hmr⟩ := hm9
    obtain ⟨a1, n1, k1, a2, n2, k2, a3, n3, k3, rfl, rfl, rfl⟩ := hmr.shape
    obtain ⟨W3, hW2⟩ : ∃ WX, W2.alloc (.cells zerM 27) = WX := ⟨_, rfl⟩
    have hx2 : Ext W2 W3 := by rw [← hW2]; exact Below.alloc (Below.refl _ _) (Nat.le_refl _) _
    have hq2 : W3.heap[W2.heap.size]? = some (.cells zerM 27 (0, 0)) := by rw [← hW2]; exact Array.getElem?_push_size
    obtain ⟨Z3, hZ2, hp2, hb2⟩ := set11 hq2 (.int .i64 m.kind) (Str m.flag) (Str m.authz) (Str m.user) (Str m.nonce) (.slice a1 n1 k1) (.slice a2 n2 k2) (.int .i64 m.iter) (Str m.head) (.slice a3 n3 k3) (Str m.code)
    obtain ⟨c0, c1, c2, c3, c4, c5, c6, c7, c8, c9, c10⟩ := cells11 hq2
    obtain ⟨f0, f1, f2, f3, f4, f5, f6, f7, f8, f9, f10⟩ := frozen11 hq2
    have hx2z : Ext W2 Z3 := hb2.below hx2 (Nat.le_refl _) (Nat.le_refl _)
    have HMA := Lib.hid (show MsIs 0 Z3 (.agg (msA m (.slice a1 n1 k1) (.slice a2 n2 k2) (.slice a3 n3 k3))) m from ⟨_, _, _, rfl, (hmr.grow hx2z).mono (Nat.zero_le _)⟩)
    have HXA := Lib.hid (ext_trans hxa hx2z)
    have HQA := Lib.hid hp2; have HZ2 := Lib.hid hZ2
    have HXZ := Lib.hid hx2z
    clear hx2 hq2 hb2 hx2z hZ2 hp2 hmr
    go_upto_region 6 with fail
    try rw [hW2]
    rw [HZ2.out]
    clear hW2 HZ2 c0 c1 c2 c3 c4 c5 c6 c7 c8 c9 c10 f0 f1 f2 f3 f4 f5 f6 f7 f8 f9 f10
    clear hxa
    by_cases hc : c = 0
    · subst hc
      have htx := HO1.out m rfl
      have hok := HK1.out m rfl
      have HT := Lib.hid (ltext_any m hok 0 _ _ _ Z3 HMA.out.rows (HL.out.ext HXA.out))
      rw [htx] at HT
      clear htx hok HO1 HK1
      obtain ⟨c0, c1, c2, c3, c4, c5, c6, c7, c8, c9, c10⟩ := cells11 HQA.out
      go_wp2_with fail
      refine HT.out.mono ?_
      rintro e W4 ⟨rfl, hx4⟩
      have HX4 := Lib.hid (ext_trans HXA.out hx4)
      clear hx4 c0 c1 c2 c3 c4 c5 c6 c7 c8 c9 c10
      have tt : (t == t) = true := by simp
      go_wp2
      go_ret
      exact ⟨rfl, HX4.out⟩
    · have hcb : (c == 0) = false := by simp [hc]
      have hcc : (c != 0) = true := by simp [hc]
      clear HO1 HK1
      go_wp2
      go_ret
      exact ⟨rfl, HXA.out⟩
  · have hq : x.tmod 4 = 2 := hkr
    have hq' : x % 4 = 2 := hkr'
    clear hkr hkr'
    have HP := Lib.hid (HPA.out 3 W1 (HL.out.ext HX1.out))
    have HO1 := Lib.hid (HO.out 3)
    have HK1 := Lib.hid (HK.out 3)
    clear HPA HO HK
    generalize rRead 3 t = mm at *
    obtain ⟨m, c⟩ := mm
    simp only at HP
    go_wp2_with fail
    refine HP.out.mono ?_
    rintro e W2 ⟨⟨v9, rfl, hm9⟩, hx⟩
    have hxa := ext_trans HX1.out hx
    clear hx
    obtain ⟨e9, s9, p9, rfl, hmr⟩ := hm9
    obtain ⟨a1, n1, k1, a2, n2, k2, a3, n3, k3, rfl, rfl, rfl⟩ := hmr.shape
    obtain ⟨W3, hW2⟩ : ∃ WX, W2.alloc (.cells zerM 27) = WX := ⟨_, rfl⟩
    have hx2 : Ext W2 W3 := by rw [← hW2]; exact Below.alloc (Below.refl _ _) (Nat.le_refl _) _
    have hq2 : W3.heap[W2.heap.size]? = some (.cells zerM 27 (0, 0)) := by rw [← hW2]; exact Array.getElem?_push_size
    obtain ⟨Z3, hZ2, hp2, hb2⟩ := set11 hq2 (.int .i64 m.kind) (Str m.flag) (Str m.authz) (Str m.user) (Str m.nonce) (.slice a1 n1 k1) (.slice a2 n2 k2) (.int .i64 m.iter) (Str m.head) (.slice a3 n3 k3) (Str m.code)
    obtain ⟨c0, c1, c2, c3, c4, c5, c6, c7, c8, c9, c10⟩ := cells11 hq2
    obtain ⟨f0, f1, f2, f3, f4, f5, f6, f7, f8, f9, f10⟩ := frozen11 hq2
    have hx2z : Ext W2 Z3 := hb2.below hx2 (Nat.le_refl _) (Nat.le_refl _)
    have HMA := Lib.hid (show MsIs 0 Z3 (.agg (msA m (.slice a1 n1 k1) (.slice a2 n2 k2) (.slice a3 n3 k3))) m from ⟨_, _, _, rfl, (hmr.grow hx2z).mono (Nat.zero_le _)⟩)
    have HXA := Lib.hid (ext_trans hxa hx2z)
    have HQA := Lib.hid hp2; have HZ2 := Lib.hid hZ2
    have HXZ := Lib.hid hx2z
    clear hx2 hq2 hb2 hx2z hZ2 hp2 hmr
    go_upto_region 6 with fail
    try rw [hW2]
    rw [HZ2.out]
    clear hW2 HZ2 c0 c1 c2 c3 c4 c5 c6 c7 c8 c9 c10 f0 f1 f2 f3 f4 f5 f6 f7 f8 f9 f10
    clear hxa
    by_cases hc : c = 0
    · subst hc
      have htx := HO1.out m rfl
      have hok := HK1.out m rfl
      have HT := Lib.hid (ltext_any m hok 0 _ _ _ Z3 HMA.out.rows (HL.out.ext HXA.out))
      rw [htx] at HT
      clear htx hok HO1 HK1
      obtain ⟨c0, c1, c2, c3, c4, c5, c6, c7, c8, c9, c10⟩ := cells11 HQA.out
      go_wp2_with fail
      refine HT.out.mono ?_
      rintro e W4 ⟨rfl, hx4⟩
      have HX4 := Lib.hid (ext_trans HXA.out hx4)
      clear hx4 c0 c1 c2 c3 c4 c5 c6 c7 c8 c9 c10
      have tt : (t == t) = true := by simp
      go_wp2
      go_ret
      exact ⟨rfl, HX4.out⟩
    · have hcb : (c == 0) = false := by simp [hc]
      have hcc : (c != 0) = true := by simp [hc]
      clear HO1 HK1
      go_wp2
      go_ret
      exact ⟨rfl, HXA.out⟩
  · have hq : x.tmod 4 = 3 := hkr
    have hq' : x % 4 = 3 := hkr'
    clear hkr hkr'
    have HP := Lib.hid (HPA.out 4 W1 (HL.out.ext HX1.out))
    have HO1 := Lib.hid (HO.out 4)
    have HK1 := Lib.hid (HK.out 4)
    clear HPA HO HK
    generalize rRead 4 t = mm at *
    obtain ⟨m, c⟩ := mm
    simp only at HP
    go_wp2_with fail
    refine HP.out.mono ?_
    rintro e W2 ⟨⟨v9, rfl, hm9⟩, hx⟩
    have hxa := ext_trans HX1.out hx
    clear hx
    obtain ⟨e9, s9, p9, rfl, hmr⟩ := hm9
    obtain ⟨a1, n1, k1, a2, n2, k2, a3, n3, k3, rfl, rfl, rfl⟩ := hmr.shape
    obtain ⟨W3, hW2⟩ : ∃ WX, W2.alloc (.cells zerM 27) = WX := ⟨_, rfl⟩
    have hx2 : Ext W2 W3 := by rw [← hW2]; exact Below.alloc (Below.refl _ _) (Nat.le_refl _) _
    have hq2 : W3.heap[W2.heap.size]? = some (.cells zerM 27 (0, 0)) := by rw [← hW2]; exact Array.getElem?_push_size
    obtain ⟨Z3, hZ2, hp2, hb2⟩ := set11 hq2 (.int .i64 m.kind) (Str m.flag) (Str m.authz) (Str m.user) (Str m.nonce) (.slice a1 n1 k1) (.slice a2 n2 k2) (.int .i64 m.iter) (Str m.head) (.slice a3 n3 k3) (Str m.code)
    obtain ⟨c0, c1, c2, c3, c4, c5, c6, c7, c8, c9, c10⟩ := cells11 hq2
    obtain ⟨f0, f1, f2, f3, f4, f5, f6, f7, f8, f9, f10⟩ := frozen11 hq2
    have hx2z : Ext W2 Z3 := hb2.below hx2 (Nat.le_refl _) (Nat.le_refl _)
    have HMA := Lib.hid (show MsIs 0 Z3 (.agg (msA m (.slice a1 n1 k1) (.slice a2 n2 k2) (.slice a3 n3 k3))) m from ⟨_, _, _, rfl, (hmr.grow hx2z).mono (Nat.zero_le _)⟩)
    have HXA := Lib.hid (ext_trans hxa hx2z)
    have HQA := Lib.hid hp2; have HZ2 := Lib.hid hZ2
    have HXZ := Lib.hid hx2z
    clear hx2 hq2 hb2 hx2z hZ2 hp2 hmr
    go_upto_region 6 with fail
    try rw [hW2]
    rw [HZ2.out]
    clear hW2 HZ2 c0 c1 c2 c3 c4 c5 c6 c7 c8 c9 c10 f0 f1 f2 f3 f4 f5 f6 f7 f8 f9 f10
    clear hxa
    by_cases hc : c = 0
    · subst hc
      have htx := HO1.out m rfl
      have hok := HK1.out m rfl
      have HT := Lib.hid (ltext_any m hok 0 _ _ _ Z3 HMA.out.rows (HL.out.ext HXA.out))
      rw [htx] at HT
      clear htx hok HO1 HK1
      obtain ⟨c0, c1, c2, c3, c4, c5, c6, c7, c8, c9, c10⟩ := cells11 HQA.out
      go_wp2_with fail
      refine HT.out.mono ?_
      rintro e W4 ⟨rfl, hx4⟩
      have HX4 := Lib.hid (ext_trans HXA.out hx4)
      clear hx4 c0 c1 c2 c3 c4 c5 c6 c7 c8 c9 c10
      have tt : (t == t) = true := by simp
      go_wp2
      go_ret
      exact ⟨rfl, HX4.out⟩
    · have hcb : (c == 0) = false := by simp [hc]
      have hcc : (c != 0) = true := by simp [hc]
      clear HO1 HK1
      go_wp2
      go_ret
      exact ⟨rfl, HXA.out⟩
end Go.Proofs.YtjkbigecejogdaaGreatDoor
