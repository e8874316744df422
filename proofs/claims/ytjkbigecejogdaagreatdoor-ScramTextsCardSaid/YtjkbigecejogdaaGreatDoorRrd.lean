/-
 ref07.Read at every text.
-/
import Derived.BigGuardPart
import Derived.OwnWalk
import Derived.Test.YtjkbigecejogdaaGreatDoorRows
import Derived.Test.YtjkbigecejogdaaGreatDoorRfs
import Derived.Test.YtjkbigecejogdaaGreatDoorRch
import Derived.Test.YtjkbigecejogdaaGreatDoorRfn
import Derived.Test.YtjkbigecejogdaaGreatDoorRve
namespace Go.Proofs.YtjkbigecejogdaaGreatDoor
open Go.RowKit
set_option maxRecDepth 100000
attribute [local go_sem] Oper.semAt_some
set_option linter.unusedVariables false
set_option linter.unusedSimpArgs false
theorem MsR.shape {B : Nat} {w : World} {e s p : Value} {m : Ms} (h : MsR B w e s p m) : ∃ a1 n1 k1 a2 n2 k2 a3 n3 k3, e = .slice a1 n1 k1 ∧ s = .slice a2 n2 k2 ∧ p = .slice a3 n3 k3 := by
 obtain ⟨a1, k1, h1, _⟩ := h.ext
 obtain ⟨a2, k2, h2, _⟩ := h.salt
 obtain ⟨a3, k3, h3, _⟩ := h.proof
 exact ⟨_, _, _, _, _, _, _, _, _, h1, h2, h3⟩
set_option maxHeartbeats 4000000 in
theorem rRead_any (k : Int) (s : List UInt8) (hl : s.length ≤ 20000) (w : World) :
    Calls Tryz.prog 9 #[.int .i64 k, Str s] w fun e w' => (∃ v, e = .returned (.tuple #[v, .int .i64 (rRead k s).2]) ∧ MsIs w.heap.size w' v (rRead k s).1) ∧ Ext w w' := by
 obtain ⟨W0, hW0⟩ : ∃ W0, w.alloc (.cells zerM 27) = W0 := ⟨_, rfl⟩
 have x0 : Ext w W0 := by rw [← hW0]; exact Below.alloc (Below.refl _ _) (Nat.le_refl _) _
 have r0 : W0.heap[w.heap.size]? = some (.cells zerM 27 (0, 0)) := by rw [← hW0]; exact Array.getElem?_push_size
 have HX := Lib.hid x0; have HR := Lib.hid r0
 have hlt : w.heap.size < W0.heap.size := (Array.getElem?_eq_some_iff.1 r0).1
 clear x0 r0
 have HF := Lib.hid (fun W => rFirst_any s hl W)
 have HC := Lib.hid (fun W => rChal_any s hl W)
 have HN := Lib.hid (fun W => rFinal_any s hl W)
 have HV := Lib.hid (fun W => rVerd_any s hl W)
 unfold RdP at HF HC HN HV
 by_cases h1 : k = 1
 ·subst h1
  have e0 : rRead 1 s = rFirst s := by unfold rRead; rw [if_pos rfl]
  rw [e0]
  clear e0
  generalize rFirst s = mm at *
  obtain ⟨m, cc⟩ := mm
  simp only at HF ⊢
  go_enter Tryz.func9, Tryz.ntmps9
  go_wp2_with fail
  try rw [hW0]
  refine (HF.out _).mono ?_
  rintro e W9 ⟨⟨v9, rfl, hm9⟩, hx9⟩
  obtain ⟨e9, s9, p9, rfl, hmr⟩ := hm9
  obtain ⟨a1, n1, k1, a2, n2, k2, a3, n3, k3, rfl, rfl, rfl⟩ := hmr.shape
  have HM9 := Lib.hid hmr
  have HX9 := Lib.hid (ext_trans HX.out hx9)
  have HR9 := Lib.hid (ext_at hx9 HR.out)
  clear hx9 hmr
  obtain ⟨c0, c1, c2, c3, c4, c5, c6, c7, c8, c9, c10⟩ := cells11 HR9.out
  obtain ⟨f0, f1, f2, f3, f4, f5, f6, f7, f8, f9, f10⟩ := frozen11 HR9.out
  go_wp2_with fail
  obtain ⟨Z, hZ, hr, hb⟩ := set11 HR9.out (.int .i64 m.kind) (Str m.flag) (Str m.authz) (Str m.user) (Str m.nonce) (.slice a1 n1 k1) (.slice a2 n2 k2) (.int .i64 m.iter) (Str m.head) (.slice a3 n3 k3) (Str m.code)
  try rw [hZ]
  refine bodyPost_ret (v := .tuple #[.agg (msA m (.slice a1 n1 k1) (.slice a2 n2 k2) (.slice a3 n3 k3)), .int .i64 cc]) ?_ rfl ⟨⟨_, rfl, _, _, _, rfl, (HM9.out.bz hb hlt).mono (Nat.le_of_lt hlt)⟩, hb.ext HX9.out⟩
  obtain ⟨d0, d1, d2, d3, d4, d5, d6, d7, d8, d9, d10⟩ := cells11 hr
  clear c0 c1 c2 c3 c4 c5 c6 c7 c8 c9 c10 f0 f1 f2 f3 f4 f5 f6 f7 f8 f9 f10 hr hb hZ
  simp [results, loadVar, loadCells, Tryz.isAgg27, Tryz.sizeOf27, Tryz.results9, go_sem, d0, d1, d2, d3, d4, d5, d6, d7, d8, d9, d10]
 have n1 : (k == 1) = false := by simp [h1]
 by_cases h2 : k = 2
 ·subst h2
  have e0 : rRead 2 s = rChal s := by unfold rRead; rw [if_neg (by omega), if_pos rfl]
  rw [e0]
  clear e0 n1 h1
  generalize rChal s = mm at *
  obtain ⟨m, cc⟩ := mm
  simp only at HC ⊢
  go_enter Tryz.func9, Tryz.ntmps9
  go_wp2_with fail
  try rw [hW0]
  refine (HC.out _).mono ?_
  rintro e W9 ⟨⟨v9, rfl, hm9⟩, hx9⟩
  obtain ⟨e9, s9, p9, rfl, hmr⟩ := hm9
  obtain ⟨a1, n1, k1, a2, n2, k2, a3, n3, k3, rfl, rfl, rfl⟩ := hmr.shape
  have HM9 := Lib.hid hmr
  have HX9 := Lib.hid (ext_trans HX.out hx9)
  have HR9 := Lib.hid (ext_at hx9 HR.out)
  clear hx9 hmr
  obtain ⟨c0, c1, c2, c3, c4, c5, c6, c7, c8, c9, c10⟩ := cells11 HR9.out
  obtain ⟨f0, f1, f2, f3, f4, f5, f6, f7, f8, f9, f10⟩ := frozen11 HR9.out
  go_wp2_with fail
  obtain ⟨Z, hZ, hr, hb⟩ := set11 HR9.out (.int .i64 m.kind) (Str m.flag) (Str m.authz) (Str m.user) (Str m.nonce) (.slice a1 n1 k1) (.slice a2 n2 k2) (.int .i64 m.iter) (Str m.head) (.slice a3 n3 k3) (Str m.code)
  try rw [hZ]
  refine bodyPost_ret (v := .tuple #[.agg (msA m (.slice a1 n1 k1) (.slice a2 n2 k2) (.slice a3 n3 k3)), .int .i64 cc]) ?_ rfl ⟨⟨_, rfl, _, _, _, rfl, (HM9.out.bz hb hlt).mono (Nat.le_of_lt hlt)⟩, hb.ext HX9.out⟩
  obtain ⟨d0, d1, d2, d3, d4, d5, d6, d7, d8, d9, d10⟩ := cells11 hr
  clear c0 c1 c2 c3 c4 c5 c6 c7 c8 c9 c10 f0 f1 f2 f3 f4 f5 f6 f7 f8 f9 f10 hr hb hZ
  simp [results, loadVar, loadCells, Tryz.isAgg27, Tryz.sizeOf27, Tryz.results9, go_sem, d0, d1, d2, d3, d4, d5, d6, d7, d8, d9, d10]
 have n2 : (k == 2) = false := by simp [h2]
 by_cases h3 : k = 3
 ·subst h3
  have e0 : rRead 3 s = rFinal s := by unfold rRead; rw [if_neg (by omega), if_neg (by omega), if_pos rfl]
  rw [e0]
  clear e0 n1 h1 n2 h2
  generalize rFinal s = mm at *
  obtain ⟨m, cc⟩ := mm
  simp only at HN ⊢
  go_enter Tryz.func9, Tryz.ntmps9
  go_wp2_with fail
  try rw [hW0]
  refine (HN.out _).mono ?_
  rintro e W9 ⟨⟨v9, rfl, hm9⟩, hx9⟩
  obtain ⟨e9, s9, p9, rfl, hmr⟩ := hm9
  obtain ⟨a1, n1, k1, a2, n2, k2, a3, n3, k3, rfl, rfl, rfl⟩ := hmr.shape
  have HM9 := Lib.hid hmr
  have HX9 := Lib.hid (ext_trans HX.out hx9)
  have HR9 := Lib.hid (ext_at hx9 HR.out)
  clear hx9 hmr
  obtain ⟨c0, c1, c2, c3, c4, c5, c6, c7, c8, c9, c10⟩ := cells11 HR9.out
  obtain ⟨f0, f1, f2, f3, f4, f5, f6, f7, f8, f9, f10⟩ := frozen11 HR9.out
  go_wp2_with fail
  obtain ⟨Z, hZ, hr, hb⟩ := set11 HR9.out (.int .i64 m.kind) (Str m.flag) (Str m.authz) (Str m.user) (Str m.nonce) (.slice a1 n1 k1) (.slice a2 n2 k2) (.int .i64 m.iter) (Str m.head) (.slice a3 n3 k3) (Str m.code)
  try rw [hZ]
  refine bodyPost_ret (v := .tuple #[.agg (msA m (.slice a1 n1 k1) (.slice a2 n2 k2) (.slice a3 n3 k3)), .int .i64 cc]) ?_ rfl ⟨⟨_, rfl, _, _, _, rfl, (HM9.out.bz hb hlt).mono (Nat.le_of_lt hlt)⟩, hb.ext HX9.out⟩
  obtain ⟨d0, d1, d2, d3, d4, d5, d6, d7, d8, d9, d10⟩ := cells11 hr
  clear c0 c1 c2 c3 c4 c5 c6 c7 c8 c9 c10 f0 f1 f2 f3 f4 f5 f6 f7 f8 f9 f10 hr hb hZ
  simp [results, loadVar, loadCells, Tryz.isAgg27, Tryz.sizeOf27, Tryz.results9, go_sem, d0, d1, d2, d3, d4, d5, d6, d7, d8, d9, d10]
 have n3 : (k == 3) = false := by simp [h3]
 have e0 : rRead k s = rVerd s := by unfold rRead; rw [if_neg h1, if_neg h2, if_neg h3]
 rw [e0]
 clear e0 h1 h2 h3
 generalize rVerd s = mm at *
 obtain ⟨m, cc⟩ := mm
 simp only at HV ⊢
 go_enter Tryz.func9, Tryz.ntmps9
 go_wp2_with fail
 try rw [hW0]
 refine (HV.out _).mono ?_
 rintro e W9 ⟨⟨v9, rfl, hm9⟩, hx9⟩
 obtain ⟨e9, s9, p9, rfl, hmr⟩ := hm9
 obtain ⟨a1, n1, k1, a2, n2, k2, a3, n3, k3, rfl, rfl, rfl⟩ := hmr.shape
 have HM9 := Lib.hid hmr
 have HX9 := Lib.hid (ext_trans HX.out hx9)
 have HR9 := Lib.hid (ext_at hx9 HR.out)
 clear hx9 hmr
 obtain ⟨c0, c1, c2, c3, c4, c5, c6, c7, c8, c9, c10⟩ := cells11 HR9.out
 obtain ⟨f0, f1, f2, f3, f4, f5, f6, f7, f8, f9, f10⟩ := frozen11 HR9.out
 go_wp2_with fail
 obtain ⟨Z, hZ, hr, hb⟩ := set11 HR9.out (.int .i64 m.kind) (Str m.flag) (Str m.authz) (Str m.user) (Str m.nonce) (.slice a1 n1 k1) (.slice a2 n2 k2) (.int .i64 m.iter) (Str m.head) (.slice a3 n3 k3) (Str m.code)
 try rw [hZ]
 refine bodyPost_ret (v := .tuple #[.agg (msA m (.slice a1 n1 k1) (.slice a2 n2 k2) (.slice a3 n3 k3)), .int .i64 cc]) ?_ rfl ⟨⟨_, rfl, _, _, _, rfl, (HM9.out.bz hb hlt).mono (Nat.le_of_lt hlt)⟩, hb.ext HX9.out⟩
 obtain ⟨d0, d1, d2, d3, d4, d5, d6, d7, d8, d9, d10⟩ := cells11 hr
 clear c0 c1 c2 c3 c4 c5 c6 c7 c8 c9 c10 f0 f1 f2 f3 f4 f5 f6 f7 f8 f9 f10 hr hb hZ
 simp [results, loadVar, loadCells, Tryz.isAgg27, Tryz.sizeOf27, Tryz.results9, go_sem, d0, d1, d2, d3, d4, d5, d6, d7, d8, d9, d10]
end Go.Proofs.YtjkbigecejogdaaGreatDoor
