/-
  ScramHalves: the law's walk.
-/
import Derived.BigGuardPart
import Derived.BigQuiet
import Derived.OwnWalk
import Derived.RegionTactic
import Derived.Deep.CutBlock
import Derived.Deep.DeepCutAuto
import Derived.Test.YtjkbigecejogdaaDoorRows
import Derived.Test.YtjkbigecejogdaaDoorScb
import Derived.Test.YtjkbigecejogdaaDoorFbk
import Derived.Test.YtjkbigecejogdaaDoorFwo
import Derived.Test.YtjkbigecejogdaaDoorLtd
import Derived.Test.YtjkbigecejogdaaDoorRfw
namespace Go.Proofs.YtjkbigecejogdaaDoor
open Go.RowKit
set_option maxRecDepth 100000
attribute [local go_sem] Oper.semAt_some
set_option linter.unusedVariables false
set_option linter.unusedSimpArgs false
theorem allL_32 (l : List UInt8) (h : l.length = 32) : (allL plain true l).length = 44 := by
  rw [allL_true, List.length_append, List.length_replicate, refN_len, h]
theorem sized_okH {s : List UInt8} {b : Bool} (h : (sizedV s b).2 = 0) : b = true ∧ sizedV s b = (s, 0) := by
  unfold sizedV at h ⊢
  cases b with
  | false => simp at h
  | true =>
    by_cases hl : s.length ≤ 4096
    · exact ⟨rfl, by rw [if_pos rfl, if_pos hl]⟩
    · rw [if_pos rfl, if_neg hl] at h; simp at h
theorem txtV_first (m : Ms) (h : m.kind = 1) : txtV m = sizedV (fhdL m.flag m.authz ++ fbaL m.user m.nonce m.ext) (frtB m.flag m.authz m.user m.nonce m.ext) := by
  unfold txtV txtL txtB; rw [if_pos h, if_pos h]
theorem txtV_final (m : Ms) (h : m.kind = 3) : txtV m = sizedV (finL m.head m.nonce m.ext ++ 44 :: 112 :: 61 :: allL plain true m.proof) (fitB m.head m.nonce m.proof m.ext) := by
  unfold txtV txtL txtB; rw [h]; rfl
theorem few_kind (m : Ms) (h : m.kind = -2 ∨ m.kind = 0 ∨ m.kind = 2) : (fewM m).kind = 1 ∨ (fewM m).kind = 3 := by
  unfold fewM
  rcases h with h | h | h
  · have : fewI m.kind = 3 := by rw [h]; rfl
    rw [this]; exact .inr rfl
  · have : fewI m.kind = 1 := by rw [h]; rfl
    rw [this]; exact .inl rfl
  · have : fewI m.kind = 3 := by rw [h]; rfl
    rw [this]; exact .inr rfl
theorem frozen_h {W : World} {b : Nat} {cs : List Value} {t : TypeId} (h : W.heap[b]? = some (.cells cs.toArray t (0, 0))) (j : Nat) : W.frozen? ⟨b, j, none⟩ = false := by simp [World.frozen?, h]
theorem set5h {W : World} {s t : Nat} {a0 a1 a2 a3 a4 : Value} (h : W.heap[s]? = some (.cells [a0, a1, a2, a3, a4].toArray t (0, 0))) (u0 u1 u2 u3 u4 : Value) :
    ∃ Z, ((((W.setCell ⟨s, 0, none⟩ u0).setCell ⟨s, 1, none⟩ u1).setCell ⟨s, 2, none⟩ u2).setCell ⟨s, 3, none⟩ u3).setCell ⟨s, 4, none⟩ u4 = Z ∧ Z.heap[s]? = some (.cells [u0, u1, u2, u3, u4].toArray t (0, 0)) ∧ Bz s W Z := by
  have hZ := set_at (j := 4) (u := u4) (set_at (j := 3) (u := u3) (set_at (j := 2) (u := u2) (set_at (j := 1) (u := u1) (set_at (j := 0) (u := u0) h))))
  refine ⟨_, rfl, ?_, ((((Bz.set W s 0 u0).trans (Bz.set _ s 1 u1)).trans (Bz.set _ s 2 u2)).trans (Bz.set _ s 3 u3)).trans (Bz.set _ s 4 u4)⟩
  rw [hZ]
  simp only [List.setIfInBounds_toArray, List.set_cons_zero, List.set_cons_succ]
theorem tmod2 (k : Int) : k.tmod 2 = -1 ∨ k.tmod 2 = 0 ∨ k.tmod 2 = 1 := by
  have h1 := Int.tmod_lt_of_pos k (show (0 : Int) < 2 by decide)
  have h2 := Int.tmod_lt_of_pos (-k) (show (0 : Int) < 2 by decide)
  rw [Int.neg_tmod] at h2
  omega
set_option maxHeartbeats 8000000 in
theorem halves_any (m : Ms) (hi1 : -9223372036854775808 ≤ m.iter) (hi2 : m.iter ≤ 9223372036854775807) (B : Nat) (e s p : Value) (w : World) (hr : MsR B w e s p m) (hL : LdS w) :
    Calls Tryd.prog 3 #[.agg (msA m e s p)] w fun r w' => r = .returned (.bool true) ∧ Ext w w' := by
  obtain ⟨a1, n1, k1, a2, n2, k2, a3, n3, k3, rfl, rfl, rfl⟩ := hr.shape
  obtain ⟨kk, hkk⟩ : ∃ k, m.kind.tmod 2 * 2 = k := ⟨_, rfl⟩
  have hk3 : kk = -2 ∨ kk = 0 ∨ kk = 2 := by rcases tmod2 m.kind with h | h | h <;> rw [h] at hkk <;> omega
  have HAW := Lib.hid (fun W (h : LdS W) => awake_law W h.mx h.fm)
  have HL := Lib.hid hL; have HKK := Lib.hid hkk
  have HR := Lib.hid (show MsR B w (.slice a1 n1 k1) (.slice a2 n2 k2) (.slice a3 n3 k3) ⟨kk, m.flag, m.authz, m.user, m.nonce, m.ext, m.salt, m.iter, m.head, m.proof, m.code⟩ from ⟨hr.ext, hr.salt, hr.proof, hr.be, hr.bs, hr.bp⟩)
  have HFW := Lib.hid (fun W h => few_any ⟨kk, m.flag, m.authz, m.user, m.nonce, m.ext, m.salt, m.iter, m.head, m.proof, m.code⟩ (by show _ ≤ kk; omega) (by show kk ≤ _; omega) B (.slice a1 n1 k1) (.slice a2 n2 k2) (.slice a3 n3 k3) W h)
  have hff := msF_few ⟨kk, m.flag, m.authz, m.user, m.nonce, m.ext, m.salt, m.iter, m.head, m.proof, m.code⟩ hi1 hi2
  have hfk := few_kind ⟨kk, m.flag, m.authz, m.user, m.nonce, m.ext, m.salt, m.iter, m.head, m.proof, m.code⟩ hk3
  generalize fewM ⟨kk, m.flag, m.authz, m.user, m.nonce, m.ext, m.salt, m.iter, m.head, m.proof, m.code⟩ = fm at *
  have hok := msF_ok fm hff
  have HLT := Lib.hid (fun C e s p W h hl => ltextd_any fm hok C e s p W h hl)
  have hfl := hff.fl; have hau := hff.au; have hus := hff.us; have hno := hff.no; have hhd := hff.hd; have hpr := hff.pr
  have hxe := hok.ext
  have HVF := Lib.hid (txtV_first fm); have HVN := Lib.hid (txtV_final fm)
  obtain ⟨z, hz⟩ : ∃ z, txtV fm = z := ⟨_, rfl⟩
  rw [hz] at HVF HVN HLT
  clear hz hok hff
  obtain ⟨z1, z2⟩ := z
  simp only at HLT
  obtain ⟨W1, hW1⟩ : ∃ W1, w.alloc (.cells #[.int .i64 m.kind, Str m.flag, Str m.authz, Str m.user, Str m.nonce, .slice a1 n1 k1, .slice a2 n2 k2, .int .i64 m.iter, Str m.head, .slice a3 n3 k3, Str m.code] 25) = W1 := ⟨_, rfl⟩
  have x1 : Ext w W1 := by rw [← hW1]; exact Below.alloc (Below.refl _ _) (Nat.le_refl _) _
  have r1 : W1.heap[w.heap.size]? = some (.cells #[.int .i64 m.kind, Str m.flag, Str m.authz, Str m.user, Str m.nonce, .slice a1 n1 k1, .slice a2 n2 k2, .int .i64 m.iter, Str m.head, .slice a3 n3 k3, Str m.code] 25 (0, 0)) := by rw [← hW1]; exact Array.getElem?_push_size
  have HX1 := Lib.hid x1; have HQ1 := Lib.hid r1
  clear x1 r1 hr hL hkk hk3
  go_enter Tryd.func3, Tryd.ntmps3
  go_wp2_with fail
  try rw [hW1]
  clear hW1
  refine (HAW.out _ (HL.out.ext HX1.out)).mono ?_
  rintro e W2 ⟨rfl, hx⟩
  have HX2 := Lib.hid (ext_trans HX1.out hx)
  have hq2 := ext_at hx HQ1.out
  have HQL := Lib.hid (Array.getElem?_eq_some_iff.1 hq2).1
  clear hx HX1 HQ1 HAW
  obtain ⟨Z2, hZ2⟩ : ∃ Z, W2.setCell ⟨w.heap.size, 0, none⟩ (.int .i64 kk) = Z := ⟨_, rfl⟩
  have HQ2 := Lib.hid (show Z2.heap[w.heap.size]? = some (.cells #[.int .i64 kk, Str m.flag, Str m.authz, Str m.user, Str m.nonce, .slice a1 n1 k1, .slice a2 n2 k2, .int .i64 m.iter, Str m.head, .slice a3 n3 k3, Str m.code] 25 (0, 0)) by rw [← hZ2]; exact setCell_row hq2 0 _)
  have HX2Z := Lib.hid (show Ext w Z2 by rw [← hZ2]; exact ext_set HX2.out (Nat.le_refl _))
  have HSZ := Lib.hid (show w.heap.size < Z2.heap.size from (Array.getElem?_eq_some_iff.1 HQ2.out).1)
  obtain ⟨f0, f1, f2, f3, f4, f5, f6, f7, f8, f9, f10⟩ := frozen11 hq2
  obtain ⟨c0, c1, c2, c3, c4, c5, c6, c7, c8, c9, c10⟩ := cells11 hq2
  have HZ2 := Lib.hid hZ2
  clear hq2 hZ2
  go_upto_region 3 with fail
  go_cut [2] from 3 (fun s2 wx => wx = Z2)
  case first =>
    rcases tmod2 m.kind with hq | hq | hq
    all_goals (
      have hfi := HKK.out
      rw [hq] at hfi
      have HFI := Lib.hid hfi
      clear hfi
      go_wp2
      go_meet
      rw [← HZ2.out, ← HFI.out]
      rfl)
  case rest =>
  subst wc
  clear HZ2 HKK HX2 HQL c0 c1 c2 c3 c4 c5 c6 c7 c8 c9 c10 f0 f1 f2 f3 f4 f5 f6 f7 f8 f9 f10
  obtain ⟨c0, c1, c2, c3, c4, c5, c6, c7, c8, c9, c10⟩ := cells11 HQ2.out
  go_wp2_with fail
  refine (HFW.out Z2 (HR.out.grow HX2Z.out)).mono ?_
  rintro e W3 ⟨⟨v9, rfl, hm9⟩, hx⟩
  obtain ⟨e9, s9, p9, rfl, hmr⟩ := hm9
  obtain ⟨b1, m1, j1, b2, m2, j2, b3, m3, j3, rfl, rfl, rfl⟩ := hmr.shape
  have HX3 := Lib.hid (ext_trans HX2Z.out hx)
  have hq3 := ext_at hx HQ2.out
  clear hx HFW HR c0 c1 c2 c3 c4 c5 c6 c7 c8 c9 c10
  obtain ⟨f0, f1, f2, f3, f4, f5, f6, f7, f8, f9, f10⟩ := frozen11 hq3
  obtain ⟨d0, d1, d2, d3, d4, d5, d6, d7, d8, d9, d10⟩ := cells11 hq3
  obtain ⟨Z3, hZ3, hr3, hb3⟩ := set11 hq3 (.int .i64 fm.kind) (Str fm.flag) (Str fm.authz) (Str fm.user) (Str fm.nonce) (.slice b1 m1 j1) (.slice b2 m2 j2) (.int .i64 fm.iter) (Str fm.head) (.slice b3 m3 j3) (Str fm.code)
  have HM3 := Lib.hid (hmr.bz hb3 HSZ.out)
  have HXZ := Lib.hid (hb3.below HX3.out (Nat.le_refl _) (Nat.le_refl _))
  have HQ3 := Lib.hid hr3; have HZ3 := Lib.hid hZ3
  clear hq3 hr3 hb3 hmr hZ3 HX3 HX2Z HQ2 HSZ
  go_upto_region 5 with fail
  rw [HZ3.out]
  clear HZ3 d0 d1 d2 d3 d4 d5 d6 d7 d8 d9 d10 f0 f1 f2 f3 f4 f5 f6 f7 f8 f9 f10
  obtain ⟨c0, c1, c2, c3, c4, c5, c6, c7, c8, c9, c10⟩ := cells11 HQ3.out
  go_wp2_with fail
  refine (HLT.out _ _ _ _ Z3 HM3.out (HL.out.ext HXZ.out)).mono ?_
  rintro e W4 ⟨rfl, hx⟩
  have HX4 := Lib.hid (ext_trans HXZ.out hx)
  have HM4 := Lib.hid (HM3.out.grow hx)
  have HQ4 := Lib.hid (ext_at hx HQ3.out)
  clear hx HXZ HM3 HQ3 HLT c0 c1 c2 c3 c4 c5 c6 c7 c8 c9 c10
  obtain ⟨c0, c1, c2, c3, c4, c5, c6, c7, c8, c9, c10⟩ := cells11 HQ4.out
  have t1 : (z2 != z2) = false := by simp
  rcases hfk with hk | hk
  · have e1 : (fm.kind == 1) = true := by rw [hk]; rfl
    have hz := HVF.out hk
    have HBR := Lib.hid (fun W hr hF => fbare2_any fm.flag fm.authz fm.user fm.nonce (.slice b1 m1 j1) fm.ext (by omega) (by omega) (by omega) (by omega) hxe W hr hF)
    have HBV := Lib.hid (show fbvV fm.flag fm.authz fm.user fm.nonce fm.ext = if z2 = 0 then (fbaL fm.user fm.nonce fm.ext, 0) else ([], z2) by unfold fbvV; rw [← hz])
    have HHD := Lib.hid (fun W => fhead_any fm.flag fm.authz fm.user fm.nonce b1 m1 j1 (by omega) (by omega) W)
    have HFT := Lib.hid (fun W => rfront_any fm (by omega) (by omega) b1 b2 b3 m1 j1 m2 j2 m3 j3 W)
    have HBK := Lib.hid (fun W hr => rback1_any fm hk (by omega) (by omega) hxe b1 b2 b3 m1 j1 m2 j2 m3 j3 W hr)
    have HZ1 := Lib.hid (show z2 = 0 → z1 = fhdL fm.flag fm.authz ++ fbaL fm.user fm.nonce fm.ext from fun h => by
      have hs : (sizedV (fhdL fm.flag fm.authz ++ fbaL fm.user fm.nonce fm.ext) (frtB fm.flag fm.authz fm.user fm.nonce fm.ext)).2 = 0 := by rw [← hz]; exact h
      have h2 := (sized_okH hs).2
      rw [← hz] at h2
      exact congrArg Prod.fst h2)
    have hfh : (fhdL fm.flag fm.authz).length ≤ 1000 := by
      have := escF_len fm.authz
      unfold fhdL; split <;> simp <;> omega
    have hfb : (fbaL fm.user fm.nonce fm.ext).length ≤ 60000000 := by
      have := escF_len fm.user; have := extL_len2 fm.ext hxe
      unfold fbaL; simp; omega
    clear hz hk HVF HVN
    generalize fbvV fm.flag fm.authz fm.user fm.nonce fm.ext = bv at *
    generalize fhdL fm.flag fm.authz = hd at *
    generalize fbaL fm.user fm.nonce fm.ext = ba at *
    obtain ⟨y1, y2⟩ := bv
    simp only at HBR
    obtain ⟨hy2, hy3, hy4⟩ : y2 = z2 ∧ (z2 = 0 → y1 = ba) ∧ (z2 ≠ 0 → y1 = []) := by
      have h := HBV.out
      by_cases h0 : z2 = 0
      · rw [if_pos h0] at h; injection h with h1 h2; exact ⟨by omega, fun _ => h1, fun h => absurd h0 h⟩
      · rw [if_neg h0] at h; injection h with h1 h2; exact ⟨h2, fun h => absurd h h0, fun _ => h1⟩
    have HY3 := Lib.hid hy3; have HY4 := Lib.hid hy4
    clear hy3 hy4 HBV
    subst hy2
    obtain ⟨W5, hW5⟩ : ∃ WX, W4.alloc (.cells #[Str [], Str [], Str [], Str [], .slice none 0 0] 32) = WX := ⟨_, rfl⟩
    have hx5 : Ext W4 W5 := by rw [← hW5]; exact Below.alloc (Below.refl _ _) (Nat.le_refl _) _
    have hq5 : W5.heap[W4.heap.size]? = some (.cells [Str [], Str [], Str [], Str [], .slice none 0 0].toArray 32 (0, 0)) := by rw [← hW5]; exact Array.getElem?_push_size
    obtain ⟨Z5, hZ5, hr5, hb5⟩ := set5h hq5 (Str fm.flag) (Str fm.authz) (Str fm.user) (Str fm.nonce) (.slice b1 m1 j1)
    have hxz : Ext W4 Z5 := hb5.below hx5 (Nat.le_refl _) (Nat.le_refl _)
    have HX5 := Lib.hid (ext_trans HX4.out hxz)
    have HM5 := Lib.hid (HM4.out.grow hxz)
    have HQ5 := Lib.hid (ext_at hxz HQ4.out)
    have HD5 := Lib.hid hr5; have HZ5 := Lib.hid hZ5
    obtain ⟨d0, d1, d2, d3, d4⟩ := cells5 hq5
    have f0 := frozen_h hq5
    clear hx5 hq5 hZ5 hr5 hb5 hxz HX4 HM4 HQ4
    go_upto_region 8 with fail
    try rw [hW5]
    rw [HZ5.out]
    clear hW5 HZ5 d0 d1 d2 d3 d4 f0 c0 c1 c2 c3 c4 c5 c6 c7 c8 c9 c10
    obtain ⟨d0, d1, d2, d3, d4⟩ := cells5 HD5.out
    go_wp2_with fail
    refine (HBR.out Z5 HM5.out.ext (HL.out.ext HX5.out).fm).mono ?_
    rintro e W6 ⟨rfl, hx⟩
    have HX6 := Lib.hid (ext_trans HX5.out hx)
    have HM6 := Lib.hid (HM5.out.grow hx)
    have HQ6 := Lib.hid (ext_at hx HQ5.out)
    have HD6 := Lib.hid (ext_at hx HD5.out)
    clear hx HX5 HM5 HQ5 HD5 HBR d0 d1 d2 d3 d4
    obtain ⟨c0, c1, c2, c3, c4, c5, c6, c7, c8, c9, c10⟩ := cells11 HQ6.out
    obtain ⟨d0, d1, d2, d3, d4⟩ := cells5 HD6.out
    replace c0 := ExtW.cell c0; replace c1 := ExtW.cell c1; replace c2 := ExtW.cell c2; replace c3 := ExtW.cell c3; replace c4 := ExtW.cell c4; replace c5 := ExtW.cell c5; replace c6 := ExtW.cell c6; replace c7 := ExtW.cell c7; replace c8 := ExtW.cell c8; replace c9 := ExtW.cell c9; replace c10 := ExtW.cell c10
    replace d0 := ExtW.cell d0; replace d1 := ExtW.cell d1; replace d2 := ExtW.cell d2; replace d3 := ExtW.cell d3; replace d4 := ExtW.cell d4
    have t2 : (hd != hd) = false := by simp
    go_upto_region 9 with fail
    refine wp_region_ext (by kernel_rfl) (by kernel_rfl) ?_
    repeat (first
      | go_big_quiet_skip
      | (go_big_quiet_want; go_big_quiet_op; (try go_bits); first | go_big_quiet_on | go_big_quiet_call (first | exact Calls.ext_of _ (HHD.out _) | exact Calls.ext_of _ (HFT.out _))))
    refine wpQuiet_nil ?_
    intro _ hw'
    obtain ⟨nq, hw''⟩ := hw'
    subst hw''
    by_cases h0 : y2 = 0
    · have hz1 := HZ1.out h0
      have hy1 := HY3.out h0
      subst h0 hz1 hy1
      clear HZ1 HY3 HY4
      have HNQ := Lib.hid nq.h
      go_wp2_with fail
      refine (HHD.out _).mono ?_
      rintro e W7 ⟨rfl, hx⟩
      have HX7 := Lib.hid (ext_trans HNQ.out hx)
      clear hx c0 c1 c2 c3 c4 c5 c6 c7 c8 c9 c10 d0 d1 d2 d3 d4
      obtain ⟨c0, c1, c2, c3, c4, c5, c6, c7, c8, c9, c10⟩ := cells11 (ext_at HX7.out HQ6.out)
      have t3 : (hd ++ y1 == hd ++ y1) = true := by simp
      go_wp2_with fail
      refine (HBK.out _ (HM6.out.ext.ext HX7.out)).mono ?_
      rintro e W8 ⟨rfl, hx⟩
      have HX8 := Lib.hid (ext_trans HX6.out (ext_trans HX7.out hx))
      clear hx c0 c1 c2 c3 c4 c5 c6 c7 c8 c9 c10
      have t4 : (y1 == y1) = true := by simp
      go_wp2
      go_ret
      exact ⟨rfl, HX8.out⟩
    · have hy1 := HY4.out h0
      have g1 : (y2 != 0) = true := by simp [h0]
      have g2 : (y2 == 0) = false := by simp [h0]
      have HNQ := Lib.hid nq.h
      subst hy1
      clear HZ1 HY3 HY4 h0
      go_wp2
      go_ret
      exact ⟨rfl, ext_trans HX6.out HNQ.out⟩
  · have e1 : (fm.kind == 1) = false := by rw [hk]; rfl
    have hz := HVN.out hk
    have HWO := Lib.hid (fun W hs hr hF hM => fiwo_any fm.head fm.nonce fm.proof (.slice b3 m3 j3) (.slice b1 m1 j1) fm.ext (by omega) (by omega) (by omega) hxe W hs hr hF hM)
    have HBV := Lib.hid (show fiwV fm.head fm.nonce fm.proof fm.ext = if z2 = 0 then (finL fm.head fm.nonce fm.ext, 0) else ([], z2) by unfold fiwV; rw [← hz])
    have HBK := Lib.hid (fun W hr => rback3_any fm (by omega) (by omega) (by omega) hxe b1 b2 b3 m1 j1 m2 j2 m3 j3 W hr)
    have HZ1 := Lib.hid (show z2 = 0 → ∃ es, z1 = finL fm.head fm.nonce fm.ext ++ es ∧ es.length = 47 from fun h => by
      have hs : (sizedV (finL fm.head fm.nonce fm.ext ++ 44 :: 112 :: 61 :: allL plain true fm.proof) (fitB fm.head fm.nonce fm.proof fm.ext)).2 = 0 := by rw [← hz]; exact h
      obtain ⟨h1, h2⟩ := sized_okH hs
      rw [← hz] at h2
      refine ⟨44 :: 112 :: 61 :: allL plain true fm.proof, congrArg Prod.fst h2, ?_⟩
      unfold fitB at h1
      simp only [Bool.and_eq_true, decide_eq_true_eq] at h1
      simp only [List.length_cons]
      rw [allL_32 _ h1.2.2.2.2])
    have hff := finL_len fm.head fm.nonce fm.ext (by omega) (by omega) hxe
    clear hz hk HVF HVN
    generalize fiwV fm.head fm.nonce fm.proof fm.ext = bv at *
    generalize finL fm.head fm.nonce fm.ext = ba at *
    obtain ⟨y1, y2⟩ := bv
    simp only at HWO
    obtain ⟨hy2, hy3, hy4⟩ : y2 = z2 ∧ (z2 = 0 → y1 = ba) ∧ (z2 ≠ 0 → y1 = []) := by
      have h := HBV.out
      by_cases h0 : z2 = 0
      · rw [if_pos h0] at h; injection h with h1 h2; exact ⟨by omega, fun _ => h1, fun h => absurd h0 h⟩
      · rw [if_neg h0] at h; injection h with h1 h2; exact ⟨h2, fun h => absurd h h0, fun _ => h1⟩
    have HY3 := Lib.hid hy3; have HY4 := Lib.hid hy4
    clear hy3 hy4 HBV
    subst hy2
    obtain ⟨W5, hW5⟩ : ∃ WX, W4.alloc (.cells #[Str [], Str [], .slice none 0 0, .slice none 0 0] 37) = WX := ⟨_, rfl⟩
    have hx5 : Ext W4 W5 := by rw [← hW5]; exact Below.alloc (Below.refl _ _) (Nat.le_refl _) _
    have hq5 : W5.heap[W4.heap.size]? = some (.cells [Str [], Str [], .slice none 0 0, .slice none 0 0].toArray 37 (0, 0)) := by rw [← hW5]; exact Array.getElem?_push_size
    obtain ⟨Z5, hZ5, hr5, hb5⟩ := set4b hq5 (Str fm.head) (Str fm.nonce) (.slice b1 m1 j1) (.slice b3 m3 j3)
    have hxz : Ext W4 Z5 := hb5.below hx5 (Nat.le_refl _) (Nat.le_refl _)
    have HX5 := Lib.hid (ext_trans HX4.out hxz)
    have HM5 := Lib.hid (HM4.out.grow hxz)
    have HQ5 := Lib.hid (ext_at hxz HQ4.out)
    have HD5 := Lib.hid hr5; have HZ5 := Lib.hid hZ5
    obtain ⟨d0, d1, d2, d3⟩ := cells4s hq5
    have f0 := frozen_h hq5
    clear hx5 hq5 hZ5 hr5 hb5 hxz HX4 HM4 HQ4
    go_upto_region 13 with fail
    try rw [hW5]
    rw [HZ5.out]
    clear hW5 HZ5 d0 d1 d2 d3 f0 c0 c1 c2 c3 c4 c5 c6 c7 c8 c9 c10
    obtain ⟨d0, d1, d2, d3⟩ := cells4s HD5.out
    go_wp2_with fail
    refine (HWO.out Z5 HM5.out.proof HM5.out.ext (HL.out.ext HX5.out).fm (HL.out.ext HX5.out).mx).mono ?_
    rintro e W6 ⟨rfl, hx⟩
    have HX6 := Lib.hid (ext_trans HX5.out hx)
    have HM6 := Lib.hid (HM5.out.grow hx)
    have HQ6 := Lib.hid (ext_at hx HQ5.out)
    clear hx HX5 HM5 HQ5 HD5 HWO d0 d1 d2 d3
    obtain ⟨c0, c1, c2, c3, c4, c5, c6, c7, c8, c9, c10⟩ := cells11 HQ6.out
    by_cases h0 : y2 = 0
    · obtain ⟨es, hz1, hes⟩ := HZ1.out h0
      have hy1 := HY3.out h0
      subst h0 hy1
      have hzl : z1.length = y1.length + 47 := by rw [hz1, List.length_append, hes]
      have s1 : ∀ W, (Instr.slice 9 (Str z1) none (some (.int .i64 (y1.length : Int))) none).run Tryd.prog W = .ok (Str y1) W := fun W => by
        have h := run_slice_string_h (P := Tryd.prog) (w := W) 9 ⟨z1.toArray⟩ Tryd.underlying9 .i64 (y1.length : Int) (by omega) (by rw [size_list]; omega)
        rw [h]; simp [extract_list, size_list, hz1]
      have g5 : ((z1.length : Int) == (y1.length : Int) + 3 + 44) = true := by rw [hzl]; simp; omega
      have g6 : ((z1.length : Int) == (y1.length : Int) + 47) = true := by rw [hzl]; simp
      have g7 : (z1.length : Int) = (y1.length : Int) + 47 := by omega
      clear HZ1 HY3 HY4 hz1 hes hzl
      have HG7 := Lib.hid g7
      clear g7
      go_wp2_with fail
      refine (HBK.out _ HM6.out.ext).mono ?_
      rintro e W8 ⟨rfl, hx⟩
      have HX8 := Lib.hid (ext_trans HX6.out hx)
      clear hx c0 c1 c2 c3 c4 c5 c6 c7 c8 c9 c10
      have t4 : (y1 == y1) = true := by simp
      go_wp2
      go_ret
      exact ⟨rfl, HX8.out⟩
    · have hy1 := HY4.out h0
      have g1 : (y2 != 0) = true := by simp [h0]
      have g2 : (y2 == 0) = false := by simp [h0]
      subst hy1
      clear HZ1 HY3 HY4 h0
      go_wp2
      go_ret
      exact ⟨rfl, HX6.out⟩
end Go.Proofs.YtjkbigecejogdaaDoor
