/-
 The law's parse at every text (printed by wip/tools/scram_lawparse.py).
-/
import Derived.BigGuardPart
import Derived.OwnWalk
import Derived.Test.YtjkbigecejogdaaGreatDoorRows
import Derived.Test.YtjkbigecejogdaaGreatDoorPeq
import Derived.Test.YtjkbigecejogdaaGreatDoorRrd
namespace Go.Proofs.YtjkbigecejogdaaGreatDoor
open Go.RowKit
set_option maxRecDepth 100000
attribute [local go_sem] Oper.semAt_some
set_option linter.unusedVariables false
set_option linter.unusedSimpArgs false
theorem MsR.later {B : Nat} {A W Z : World} {e s p : Value} {m : Ms} {q : Nat} (h0 : MsR B A e s p m) (h : MsR B W e s p m) (hq : A.heap.size ≤ q) (hz : Bz q W Z) : MsR B Z e s p m :=
 ⟨h.ext.bz prC_ne hz (fun k hk => by have := rowC_lt h0.ext prC_ne hk; omega), h.salt.bz hz (fun k hk => by have := sblk_lt h0.salt hk; omega), h.proof.bz hz (fun k hk => by have := sblk_lt h0.proof hk; omega), h.be, h.bs, h.bp⟩
theorem row_shape {α : Type} {z : Nat} {f : α → List Value} {w : World} {v : Value} {xs : List α} (h : RowC z f w v xs) : ∃ a n k, v = .slice a n k := by
 obtain ⟨a, k, h, _⟩ := h; exact ⟨_, _, _, h⟩
theorem slb_shape {w : World} {v : Value} {l : List Value} (h : Sl w v l) : ∃ a n k, v = .slice a n k := by
 obtain ⟨a, k, h, _⟩ := h; exact ⟨_, _, _, h⟩
theorem set5b {W : World} {s t : Nat} {a0 a1 a2 a3 a4 : Value} (h : W.heap[s]? = some (.cells [a0, a1, a2, a3, a4].toArray t (0, 0))) (u0 u1 u2 u3 u4 : Value) :
    ∃ Z, ((((W.setCell ⟨s, 0, none⟩ u0).setCell ⟨s, 1, none⟩ u1).setCell ⟨s, 2, none⟩ u2).setCell ⟨s, 3, none⟩ u3).setCell ⟨s, 4, none⟩ u4 = Z ∧ Z.heap[s]? = some (.cells [u0, u1, u2, u3, u4].toArray t (0, 0)) ∧ Bz s W Z := by
 have hZ := set_at (j := 4) (u := u4) (set_at (j := 3) (u := u3) (set_at (j := 2) (u := u2) (set_at (j := 1) (u := u1) (set_at (j := 0) (u := u0) h))))
 refine ⟨_, rfl, ?_, ((((Bz.set W s 0 u0).trans (Bz.set _ s 1 u1)).trans (Bz.set _ s 2 u2)).trans (Bz.set _ s 3 u3)).trans (Bz.set _ s 4 u4)⟩
 rw [hZ]
 simp only [List.setIfInBounds_toArray, List.set_cons_zero, List.set_cons_succ]
theorem frozen_c {W : World} {b : Nat} {cs : List Value} {t : TypeId} (h : W.heap[b]? = some (.cells cs.toArray t (0, 0))) (j : Nat) : W.frozen? ⟨b, j, none⟩ = false := by simp [World.frozen?, h]
theorem pFirst_form (s : List UInt8) : (pFirst s).1 = ⟨if (pFirst s).2 = 0 then 1 else 0, (pFirst s).1.flag, (pFirst s).1.authz, (pFirst s).1.user, (pFirst s).1.nonce, (pFirst s).1.ext, [], 0, [], [], []⟩ := by
 unfold pFirst
 by_cases h : 4096 < s.length
 ·rw [if_pos h]; rfl
 rw [if_neg h]
 by_cases h2 : (f1C s).bad = true
 ·rw [if_pos h2]; rfl
 rw [if_neg h2]
 by_cases h3 : (f1C s).den = true
 ·rw [if_pos h3]; rfl
 rw [if_neg h3]; rfl
theorem pChal_form (s : List UInt8) : (pChal s).1 = ⟨if (pChal s).2 = 0 then 2 else 0, [], [], [], (pChal s).1.nonce, (pChal s).1.ext, (pChal s).1.salt, (pChal s).1.iter, [], [], []⟩ := by
 unfold pChal
 by_cases h : 4096 < s.length
 ·rw [if_pos h]; rfl
 rw [if_neg h]
 by_cases h2 : cBad (badR s) (c1C s) = true
 ·rw [if_pos h2]; rfl
 rw [if_neg h2]
 by_cases h3 : denB (c1C s).xs = true
 ·rw [if_pos h3]; rfl
 rw [if_neg h3]; rfl
theorem pFinal_form (s : List UInt8) : (pFinal s).1 = ⟨if (pFinal s).2 = 0 then 3 else 0, [], [], [], (pFinal s).1.nonce, (pFinal s).1.ext, [], 0, (pFinal s).1.head, (pFinal s).1.proof, []⟩ := by
 unfold pFinal
 by_cases h : 4096 < s.length
 ·rw [if_pos h]; rfl
 rw [if_neg h]
 by_cases h2 : nBad (badR s) (n1C s) = true
 ·rw [if_pos h2]; rfl
 rw [if_neg h2]
 by_cases h3 : nDen (n1C s) = true
 ·rw [if_pos h3]; rfl
 rw [if_neg h3]; rfl
theorem pVerd_form (s : List UInt8) : (pVerd s).1 = ⟨if (pVerd s).2 = 0 then 4 else 0, [], [], [], [], (pVerd s).1.ext, [], 0, [], (pVerd s).1.proof, (pVerd s).1.code⟩ := by
 unfold pVerd
 by_cases h : 4096 < s.length
 ·rw [if_pos h]; rfl
 rw [if_neg h]
 by_cases h1 : hasF [101] (attsP s) = true
 ·rw [if_pos h1]
  unfold vE
  by_cases h2 : ((badR s || !valB (nxT [101] (attsP s))) || !(nxR [101] (attsP s)).all okX) = true
  ·rw [if_pos h2]; rfl
  rw [if_neg h2]
  by_cases h3 : denB (nxR [101] (attsP s)) = true
  ·rw [if_pos h3]; rfl
  rw [if_neg h3]; rfl
 ·rw [if_neg h1]
  unfold vS
  by_cases h2 : (((badR s || !hasF [118] (attsP s)) || !byB (nxT [118] (attsP s)) 32 32) || !(nxR [118] (attsP s)).all okX) = true
  ·rw [if_pos h2]; rfl
  rw [if_neg h2]
  by_cases h3 : denB (nxR [118] (attsP s)) = true
  ·rw [if_pos h3]; rfl
  rw [if_neg h3]; rfl
theorem results_ms {fn : Func} {t u : Nat} (h : fn.results = #[.cell t 27, .tmp u]) (tmps : Array Value) (w : World) {s : Nat} {a0 a1 a2 a3 a4 a5 a6 a7 a8 a9 a10 c : Value} {ty : TypeId}
    (ht : tmps.getD t undef = .pointer (some ⟨s, 0, none⟩)) (hu : tmps.getD u undef = c) (hr : w.heap[s]? = some (.cells #[a0, a1, a2, a3, a4, a5, a6, a7, a8, a9, a10] ty (0, 0))) : (results fn tmps).run Tryz.prog w = .ok (.tuple #[.agg #[a0, a1, a2, a3, a4, a5, a6, a7, a8, a9, a10], c]) w := by
 have ht' : tmps[t]?.getD undef = .pointer (some ⟨s, 0, none⟩) := by rw [← ht]; simp [Array.getD_eq_getD_getElem?]
 have hu' : tmps[u]?.getD undef = c := by rw [← hu]; simp [Array.getD_eq_getD_getElem?]
 obtain ⟨d0, d1, d2, d3, d4, d5, d6, d7, d8, d9, d10⟩ := cells11 hr
 simp [results, h, ht', hu', loadVar, loadCells, Tryz.isAgg27, Tryz.sizeOf27, go_sem, d0, d1, d2, d3, d4, d5, d6, d7, d8, d9, d10]
abbrev LpP (k : Int) (s : List UInt8) (r : Ms × Int) (w : World) : Prop := Calls Tryz.prog 8 #[.int .i64 k, Str s] w fun e w' => (∃ v, e = .returned (.tuple #[v, .int .i64 r.2]) ∧ MsIs w.heap.size w' v r.1) ∧ Ext w w'
set_option maxHeartbeats 8000000 in
theorem lparse_1 (s : List UInt8) (hl : s.length ≤ 10000) (w : World) (hL : LwS w) : LpP 1 s (pFirst s) w := by
 obtain ⟨W0, hW0⟩ : ∃ W0, w.alloc (.cells zerM 27) = W0 := ⟨_, rfl⟩
 have x0 : Ext w W0 := by rw [← hW0]; exact Below.alloc (Below.refl _ _) (Nat.le_refl _) _
 have r0 : W0.heap[w.heap.size]? = some (.cells zerM 27 (0, 0)) := by rw [← hW0]; exact Array.getElem?_push_size
 have HX0 := Lib.hid x0; have HR0 := Lib.hid r0; have HL := Lib.hid hL
 have hlt : w.heap.size < W0.heap.size := (Array.getElem?_eq_some_iff.1 r0).1
 have HFM := Lib.hid (pFirst_form s)
 have HPC := Lib.hid (show Calls Tryz.prog 14 #[Str s] W0 _ from (ParseFirst_any s (by omega) _ (HL.out.mx.ext HX0.out) (HL.out.fm.ext HX0.out)))
 unfold LpP
 clear x0 r0 hL
 unfold FirstR at HPC
 generalize pFirst s = mm at *
 obtain ⟨m, c⟩ := mm
 simp only at HFM HPC ⊢
 go_enter Tryz.func8, Tryz.ntmps8
 go_wp2_with fail
 try rw [hW0]
 refine HPC.out.mono ?_
 rintro e W1 ⟨⟨ev, rfl, hre, hbe⟩, hx⟩
 obtain ⟨ea, en, ek, rfl⟩ := row_shape hre
 have hle : ∀ x, W0.heap.size ≤ x → w.heap.size + 1 ≤ x := fun x h => by omega
 have HM1 := Lib.hid (show MsR (w.heap.size + 1) W1 (.slice ea en ek) (.slice none 0 0) (.slice none 0 0) ⟨if c = 0 then 1 else 0, m.flag, m.authz, m.user, m.nonce, m.ext, [], 0, [], [], []⟩ from ⟨hre, sl_nil _, sl_nil _, fun k hk => hle _ (hbe k hk), nil_sblk, nil_sblk⟩)
 have HX1 := Lib.hid (ext_trans HX0.out hx)
 have HR1 := Lib.hid (ext_at hx HR0.out)
 have hs1 : w.heap.size < W1.heap.size := Nat.lt_of_lt_of_le hlt hx.size
 clear hre hbe hx HX0 HR0 HPC hW0 hle
 obtain ⟨W2, hW2⟩ : ∃ W2, W1.alloc (.cells #[Str [], Str [], Str [], Str [], .slice none 0 0] 43) = W2 := ⟨_, rfl⟩
 have hx2 : Ext W1 W2 := by rw [← hW2]; exact Below.alloc (Below.refl _ _) (Nat.le_refl _) _
 have hq2 : W2.heap[W1.heap.size]? = some (.cells [Str [], Str [], Str [], Str [], .slice none 0 0].toArray 43 (0, 0)) := by rw [← hW2]; exact Array.getElem?_push_size
 obtain ⟨Z2, hZ2, hp2, hb2⟩ := set5b hq2 (Str m.flag) (Str m.authz) (Str m.user) (Str m.nonce) (.slice ea en ek)
 obtain ⟨c0, c1, c2, c3, c4⟩ := cells5s hq2
 have f0 := frozen_c hq2 0
 have f1 := frozen_c hq2 1
 have f2 := frozen_c hq2 2
 have f3 := frozen_c hq2 3
 have f4 := frozen_c hq2 4
 have hx1z : Ext W1 Z2 := hb2.below hx2 (Nat.le_refl _) (Nat.le_refl _)
 have HM2 := Lib.hid (HM1.out.grow hx1z)
 have HX2 := Lib.hid (ext_trans HX1.out hx1z)
 have HR2 := Lib.hid (ext_at hx1z HR1.out)
 have HP2 := Lib.hid hp2; have HZ2 := Lib.hid hZ2
 have hs2 : W1.heap.size < Z2.heap.size := (Array.getElem?_eq_some_iff.1 hp2).1
 clear hx2 hq2 hb2 hx1z hZ2 hp2
 go_upto_region 4 with fail
 try rw [hW2]
 rw [HZ2.out]
 clear hW2 HZ2 c0 c1 c2 c3 c4 f0 f1 f2 f3 f4
 obtain ⟨l0, l1, l2, l3, l4⟩ := cells5s HP2.out
 obtain ⟨W3, hW3⟩ : ∃ W3, Z2.alloc (.cells zerM 27) = W3 := ⟨_, rfl⟩
 have hx3 : Ext Z2 W3 := by rw [← hW3]; exact Below.alloc (Below.refl _ _) (Nat.le_refl _) _
 have hq3 : W3.heap[Z2.heap.size]? = some (.cells zerM 27 (0, 0)) := by rw [← hW3]; exact Array.getElem?_push_size
 obtain ⟨Z3, hZ3, hp3, hb3⟩ := set11 hq3 (.int .i64 0) (Str m.flag) (Str m.authz) (Str m.user) (Str m.nonce) (.slice ea en ek) (.slice none 0 0) (.int .i64 0) (Str []) (.slice none 0 0) (Str [])
 obtain ⟨c0, c1, c2, c3, c4, c5, c6, c7, c8, c9, c10⟩ := cells11 hq3
 obtain ⟨f0, f1, f2, f3, f4, f5, f6, f7, f8, f9, f10⟩ := frozen11 hq3
 skip
 have hx2z : Ext Z2 Z3 := hb3.below hx3 (Nat.le_refl _) (Nat.le_refl _)
 have HM3 := Lib.hid (HM2.out.grow hx2z)
 have HX3 := Lib.hid (ext_trans HX2.out hx2z)
 have HR3 := Lib.hid (ext_at hx2z HR2.out)
 have HP3 := Lib.hid hp3; have HZ3 := Lib.hid hZ3
 have hs3 : Z2.heap.size < Z3.heap.size := (Array.getElem?_eq_some_iff.1 hp3).1
 clear hx3 hq3 hb3 hx2z hZ3 hp3
 go_upto_region 5 with fail
 try rw [hW3]
 rw [HZ3.out]
 clear hW3 HZ3 c0 c1 c2 c3 c4 c5 c6 c7 c8 c9 c10 f0 f1 f2 f3 f4 f5 f6 f7 f8 f9 f10 l0 l1 l2 l3 l4 
 obtain ⟨c0, c1, c2, c3, c4, c5, c6, c7, c8, c9, c10⟩ := cells11 HP3.out
 obtain ⟨f0, f1, f2, f3, f4, f5, f6, f7, f8, f9, f10⟩ := frozen11 HP3.out
 obtain ⟨g0, g1, g2, g3, g4, g5, g6, g7, g8, g9, g10⟩ := cells11 HR3.out
 obtain ⟨e0, e1, e2, e3, e4, e5, e6, e7, e8, e9, e10⟩ := frozen11 HR3.out
 have hsq : w.heap.size < Z2.heap.size := by omega
 by_cases hc : c = 0
 ·have HMM := Lib.hid (show m = ⟨1, m.flag, m.authz, m.user, m.nonce, m.ext, [], 0, [], [], []⟩ by have := HFM.out; rw [if_pos hc] at this; exact this)
  subst hc
  go_wp2_with fail
  obtain ⟨Z4, hZ4⟩ : ∃ Z4, Z3.setCell ⟨Z2.heap.size, 0, none⟩ (.int .i64 1) = Z4 := ⟨_, rfl⟩
  have hb4 : Bz Z2.heap.size Z3 Z4 := by rw [← hZ4]; exact Bz.set _ _ _ _
  rw [hZ4]
  have hr4 := (hb4.block _ (Array.getElem?_eq_some_iff.1 HR3.out).1 (by omega)).trans HR3.out
  obtain ⟨Z, hZ, hr, hb⟩ := set11 hr4 (.int .i64 1) (Str m.flag) (Str m.authz) (Str m.user) (Str m.nonce) (.slice ea en ek) (.slice none 0 0) (.int .i64 0) (Str []) (.slice none 0 0) (Str [])
  rw [hZ]
  have hm4 := HM2.out.later HM3.out (Nat.le_refl _) hb4
  first | rw [if_pos rfl] at hm4 | rw [if_pos trivial] at hm4
  have hmz := hm4.bz hb (Nat.lt_succ_self _)
  have hx4 : Ext w Z4 := hb4.below HX3.out (Nat.le_of_lt hsq) (Nat.le_refl _)
  refine bodyPost_ret (v := .tuple #[.agg #[.int .i64 1, Str m.flag, Str m.authz, Str m.user, Str m.nonce, .slice ea en ek, .slice none 0 0, .int .i64 0, Str [], .slice none 0 0, Str []], .int .i64 0]) ?_ rfl ⟨⟨_, rfl, _, _, _, by rw [HMM.out], by rw [HMM.out]; exact hmz.mono (Nat.le_succ _)⟩, hb.ext hx4⟩
  have hr9 := hr
  clear c0 c1 c2 c3 c4 c5 c6 c7 c8 c9 c10 f0 f1 f2 f3 f4 f5 f6 f7 f8 f9 f10 g0 g1 g2 g3 g4 g5 g6 g7 g8 g9 g10 e0 e1 e2 e3 e4 e5 e6 e7 e8 e9 e10 hr hb hZ
  exact results_ms rfl _ _ rfl rfl hr9
 ·have HMM := Lib.hid (show m = ⟨0, m.flag, m.authz, m.user, m.nonce, m.ext, [], 0, [], [], []⟩ by have := HFM.out; rw [if_neg hc] at this; exact this)
  have hc2 : (c == 0) = false := by simp [hc]
  have HM9 := Lib.hid (show MsR (w.heap.size + 1) Z3 _ _ _ ⟨0, m.flag, m.authz, m.user, m.nonce, m.ext, [], 0, [], [], []⟩ by have := HM3.out; rw [if_neg hc] at this; exact this)
  clear hc
  go_wp2_with fail
  obtain ⟨Z, hZ, hr, hb⟩ := set11 HR3.out (.int .i64 0) (Str m.flag) (Str m.authz) (Str m.user) (Str m.nonce) (.slice ea en ek) (.slice none 0 0) (.int .i64 0) (Str []) (.slice none 0 0) (Str [])
  rw [hZ]
  have hmz := HM9.out.bz hb (Nat.lt_succ_self _)
  refine bodyPost_ret (v := .tuple #[.agg #[.int .i64 0, Str m.flag, Str m.authz, Str m.user, Str m.nonce, .slice ea en ek, .slice none 0 0, .int .i64 0, Str [], .slice none 0 0, Str []], .int .i64 c]) ?_ rfl ⟨⟨_, rfl, _, _, _, by rw [HMM.out], by rw [HMM.out]; exact hmz.mono (Nat.le_succ _)⟩, hb.ext HX3.out⟩
  have hr9 := hr
  clear c0 c1 c2 c3 c4 c5 c6 c7 c8 c9 c10 f0 f1 f2 f3 f4 f5 f6 f7 f8 f9 f10 g0 g1 g2 g3 g4 g5 g6 g7 g8 g9 g10 e0 e1 e2 e3 e4 e5 e6 e7 e8 e9 e10 hr hb hZ
  exact results_ms rfl _ _ rfl rfl hr9
set_option maxHeartbeats 8000000 in
theorem lparse_2 (s : List UInt8) (hl : s.length ≤ 10000) (w : World) (hL : LwS w) : LpP 2 s (pChal s) w := by
 obtain ⟨W0, hW0⟩ : ∃ W0, w.alloc (.cells zerM 27) = W0 := ⟨_, rfl⟩
 have x0 : Ext w W0 := by rw [← hW0]; exact Below.alloc (Below.refl _ _) (Nat.le_refl _) _
 have r0 : W0.heap[w.heap.size]? = some (.cells zerM 27 (0, 0)) := by rw [← hW0]; exact Array.getElem?_push_size
 have HX0 := Lib.hid x0; have HR0 := Lib.hid r0; have HL := Lib.hid hL
 have hlt : w.heap.size < W0.heap.size := (Array.getElem?_eq_some_iff.1 r0).1
 have HFM := Lib.hid (pChal_form s)
 have HPC := Lib.hid (show Calls Tryz.prog 17 #[Str s] W0 _ from (ParseChallenge_any s (by omega) _ (HL.out.ext HX0.out)))
 unfold LpP
 clear x0 r0 hL
 unfold ChalR at HPC
 generalize pChal s = mm at *
 obtain ⟨m, c⟩ := mm
 simp only at HFM HPC ⊢
 go_enter Tryz.func8, Tryz.ntmps8
 go_wp2_with fail
 try rw [hW0]
 refine HPC.out.mono ?_
 rintro e W1 ⟨⟨sv, ev, rfl, hrs, hre, hbs, hbe⟩, hx⟩
 obtain ⟨ea, en, ek, rfl⟩ := row_shape hre
 obtain ⟨sa, sn, sk, rfl⟩ := slb_shape hrs
 have hle : ∀ x, W0.heap.size ≤ x → w.heap.size + 1 ≤ x := fun x h => by omega
 have HM1 := Lib.hid (show MsR (w.heap.size + 1) W1 (.slice ea en ek) (.slice sa sn sk) (.slice none 0 0) ⟨if c = 0 then 2 else 0, [], [], [], m.nonce, m.ext, m.salt, m.iter, [], [], []⟩ from ⟨hre, hrs, sl_nil _, fun k hk => hle _ (hbe k hk), fun k hk => hle _ (hbs k hk), nil_sblk⟩)
 have HX1 := Lib.hid (ext_trans HX0.out hx)
 have HR1 := Lib.hid (ext_at hx HR0.out)
 have hs1 : w.heap.size < W1.heap.size := Nat.lt_of_lt_of_le hlt hx.size
 clear hre hbe hrs hbs hx HX0 HR0 HPC hW0 hle
 obtain ⟨W2, hW2⟩ : ∃ W2, W1.alloc (.cells #[Str [], .slice none 0 0, .int .i64 0, .slice none 0 0] 49) = W2 := ⟨_, rfl⟩
 have hx2 : Ext W1 W2 := by rw [← hW2]; exact Below.alloc (Below.refl _ _) (Nat.le_refl _) _
 have hq2 : W2.heap[W1.heap.size]? = some (.cells [Str [], .slice none 0 0, .int .i64 0, .slice none 0 0].toArray 49 (0, 0)) := by rw [← hW2]; exact Array.getElem?_push_size
 obtain ⟨Z2, hZ2, hp2, hb2⟩ := set4b hq2 (Str m.nonce) (.slice sa sn sk) (.int .i64 m.iter) (.slice ea en ek)
 obtain ⟨c0, c1, c2, c3⟩ := cells4s hq2
 have f0 := frozen_c hq2 0
 have f1 := frozen_c hq2 1
 have f2 := frozen_c hq2 2
 have f3 := frozen_c hq2 3
 have hx1z : Ext W1 Z2 := hb2.below hx2 (Nat.le_refl _) (Nat.le_refl _)
 have HM2 := Lib.hid (HM1.out.grow hx1z)
 have HX2 := Lib.hid (ext_trans HX1.out hx1z)
 have HR2 := Lib.hid (ext_at hx1z HR1.out)
 have HP2 := Lib.hid hp2; have HZ2 := Lib.hid hZ2
 have hs2 : W1.heap.size < Z2.heap.size := (Array.getElem?_eq_some_iff.1 hp2).1
 clear hx2 hq2 hb2 hx1z hZ2 hp2
 go_upto_region 10 with fail
 try rw [hW2]
 rw [HZ2.out]
 clear hW2 HZ2 c0 c1 c2 c3 f0 f1 f2 f3
 obtain ⟨l0, l1, l2, l3⟩ := cells4s HP2.out
 obtain ⟨W3, hW3⟩ : ∃ W3, Z2.alloc (.cells zerM 27) = W3 := ⟨_, rfl⟩
 have hx3 : Ext Z2 W3 := by rw [← hW3]; exact Below.alloc (Below.refl _ _) (Nat.le_refl _) _
 have hq3 : W3.heap[Z2.heap.size]? = some (.cells zerM 27 (0, 0)) := by rw [← hW3]; exact Array.getElem?_push_size
 obtain ⟨Z3, hZ3, hp3, hb3⟩ := set11 hq3 (.int .i64 0) (Str []) (Str []) (Str []) (Str m.nonce) (.slice ea en ek) (.slice sa sn sk) (.int .i64 m.iter) (Str []) (.slice none 0 0) (Str [])
 obtain ⟨c0, c1, c2, c3, c4, c5, c6, c7, c8, c9, c10⟩ := cells11 hq3
 obtain ⟨f0, f1, f2, f3, f4, f5, f6, f7, f8, f9, f10⟩ := frozen11 hq3
 skip
 have hx2z : Ext Z2 Z3 := hb3.below hx3 (Nat.le_refl _) (Nat.le_refl _)
 have HM3 := Lib.hid (HM2.out.grow hx2z)
 have HX3 := Lib.hid (ext_trans HX2.out hx2z)
 have HR3 := Lib.hid (ext_at hx2z HR2.out)
 have HP3 := Lib.hid hp3; have HZ3 := Lib.hid hZ3
 have hs3 : Z2.heap.size < Z3.heap.size := (Array.getElem?_eq_some_iff.1 hp3).1
 clear hx3 hq3 hb3 hx2z hZ3 hp3
 go_upto_region 11 with fail
 try rw [hW3]
 rw [HZ3.out]
 clear hW3 HZ3 c0 c1 c2 c3 c4 c5 c6 c7 c8 c9 c10 f0 f1 f2 f3 f4 f5 f6 f7 f8 f9 f10 l0 l1 l2 l3 
 obtain ⟨c0, c1, c2, c3, c4, c5, c6, c7, c8, c9, c10⟩ := cells11 HP3.out
 obtain ⟨f0, f1, f2, f3, f4, f5, f6, f7, f8, f9, f10⟩ := frozen11 HP3.out
 obtain ⟨g0, g1, g2, g3, g4, g5, g6, g7, g8, g9, g10⟩ := cells11 HR3.out
 obtain ⟨e0, e1, e2, e3, e4, e5, e6, e7, e8, e9, e10⟩ := frozen11 HR3.out
 have hsq : w.heap.size < Z2.heap.size := by omega
 by_cases hc : c = 0
 ·have HMM := Lib.hid (show m = ⟨2, [], [], [], m.nonce, m.ext, m.salt, m.iter, [], [], []⟩ by have := HFM.out; rw [if_pos hc] at this; exact this)
  subst hc
  go_wp2_with fail
  obtain ⟨Z4, hZ4⟩ : ∃ Z4, Z3.setCell ⟨Z2.heap.size, 0, none⟩ (.int .i64 2) = Z4 := ⟨_, rfl⟩
  have hb4 : Bz Z2.heap.size Z3 Z4 := by rw [← hZ4]; exact Bz.set _ _ _ _
  rw [hZ4]
  have hr4 := (hb4.block _ (Array.getElem?_eq_some_iff.1 HR3.out).1 (by omega)).trans HR3.out
  obtain ⟨Z, hZ, hr, hb⟩ := set11 hr4 (.int .i64 2) (Str []) (Str []) (Str []) (Str m.nonce) (.slice ea en ek) (.slice sa sn sk) (.int .i64 m.iter) (Str []) (.slice none 0 0) (Str [])
  rw [hZ]
  have hm4 := HM2.out.later HM3.out (Nat.le_refl _) hb4
  first | rw [if_pos rfl] at hm4 | rw [if_pos trivial] at hm4
  have hmz := hm4.bz hb (Nat.lt_succ_self _)
  have hx4 : Ext w Z4 := hb4.below HX3.out (Nat.le_of_lt hsq) (Nat.le_refl _)
  refine bodyPost_ret (v := .tuple #[.agg #[.int .i64 2, Str [], Str [], Str [], Str m.nonce, .slice ea en ek, .slice sa sn sk, .int .i64 m.iter, Str [], .slice none 0 0, Str []], .int .i64 0]) ?_ rfl ⟨⟨_, rfl, _, _, _, by rw [HMM.out], by rw [HMM.out]; exact hmz.mono (Nat.le_succ _)⟩, hb.ext hx4⟩
  have hr9 := hr
  clear c0 c1 c2 c3 c4 c5 c6 c7 c8 c9 c10 f0 f1 f2 f3 f4 f5 f6 f7 f8 f9 f10 g0 g1 g2 g3 g4 g5 g6 g7 g8 g9 g10 e0 e1 e2 e3 e4 e5 e6 e7 e8 e9 e10 hr hb hZ
  exact results_ms rfl _ _ rfl rfl hr9
 ·have HMM := Lib.hid (show m = ⟨0, [], [], [], m.nonce, m.ext, m.salt, m.iter, [], [], []⟩ by have := HFM.out; rw [if_neg hc] at this; exact this)
  have hc2 : (c == 0) = false := by simp [hc]
  have HM9 := Lib.hid (show MsR (w.heap.size + 1) Z3 _ _ _ ⟨0, [], [], [], m.nonce, m.ext, m.salt, m.iter, [], [], []⟩ by have := HM3.out; rw [if_neg hc] at this; exact this)
  clear hc
  go_wp2_with fail
  obtain ⟨Z, hZ, hr, hb⟩ := set11 HR3.out (.int .i64 0) (Str []) (Str []) (Str []) (Str m.nonce) (.slice ea en ek) (.slice sa sn sk) (.int .i64 m.iter) (Str []) (.slice none 0 0) (Str [])
  rw [hZ]
  have hmz := HM9.out.bz hb (Nat.lt_succ_self _)
  refine bodyPost_ret (v := .tuple #[.agg #[.int .i64 0, Str [], Str [], Str [], Str m.nonce, .slice ea en ek, .slice sa sn sk, .int .i64 m.iter, Str [], .slice none 0 0, Str []], .int .i64 c]) ?_ rfl ⟨⟨_, rfl, _, _, _, by rw [HMM.out], by rw [HMM.out]; exact hmz.mono (Nat.le_succ _)⟩, hb.ext HX3.out⟩
  have hr9 := hr
  clear c0 c1 c2 c3 c4 c5 c6 c7 c8 c9 c10 f0 f1 f2 f3 f4 f5 f6 f7 f8 f9 f10 g0 g1 g2 g3 g4 g5 g6 g7 g8 g9 g10 e0 e1 e2 e3 e4 e5 e6 e7 e8 e9 e10 hr hb hZ
  exact results_ms rfl _ _ rfl rfl hr9
set_option maxHeartbeats 8000000 in
theorem lparse_3 (s : List UInt8) (hl : s.length ≤ 10000) (w : World) (hL : LwS w) : LpP 3 s (pFinal s) w := by
 obtain ⟨W0, hW0⟩ : ∃ W0, w.alloc (.cells zerM 27) = W0 := ⟨_, rfl⟩
 have x0 : Ext w W0 := by rw [← hW0]; exact Below.alloc (Below.refl _ _) (Nat.le_refl _) _
 have r0 : W0.heap[w.heap.size]? = some (.cells zerM 27 (0, 0)) := by rw [← hW0]; exact Array.getElem?_push_size
 have HX0 := Lib.hid x0; have HR0 := Lib.hid r0; have HL := Lib.hid hL
 have hlt : w.heap.size < W0.heap.size := (Array.getElem?_eq_some_iff.1 r0).1
 have HFM := Lib.hid (pFinal_form s)
 have HPC := Lib.hid (show Calls Tryz.prog 18 #[Str s] W0 _ from (ParseFinal_any s (by omega) _ (HL.out.ext HX0.out)))
 unfold LpP
 clear x0 r0 hL
 unfold FinR at HPC
 generalize pFinal s = mm at *
 obtain ⟨m, c⟩ := mm
 simp only at HFM HPC ⊢
 go_enter Tryz.func8, Tryz.ntmps8
 go_wp2_with fail
 try rw [hW0]
 refine HPC.out.mono ?_
 rintro e W1 ⟨⟨sv, ev, rfl, hrs, hre, hbs, hbe⟩, hx⟩
 obtain ⟨ea, en, ek, rfl⟩ := row_shape hre
 obtain ⟨sa, sn, sk, rfl⟩ := slb_shape hrs
 have hle : ∀ x, W0.heap.size ≤ x → w.heap.size + 1 ≤ x := fun x h => by omega
 have HM1 := Lib.hid (show MsR (w.heap.size + 1) W1 (.slice ea en ek) (.slice none 0 0) (.slice sa sn sk) ⟨if c = 0 then 3 else 0, [], [], [], m.nonce, m.ext, [], 0, m.head, m.proof, []⟩ from ⟨hre, sl_nil _, hrs, fun k hk => hle _ (hbe k hk), nil_sblk, fun k hk => hle _ (hbs k hk)⟩)
 have HX1 := Lib.hid (ext_trans HX0.out hx)
 have HR1 := Lib.hid (ext_at hx HR0.out)
 have hs1 : w.heap.size < W1.heap.size := Nat.lt_of_lt_of_le hlt hx.size
 clear hre hbe hrs hbs hx HX0 HR0 HPC hW0 hle
 obtain ⟨W2, hW2⟩ : ∃ W2, W1.alloc (.cells #[Str [], Str [], .slice none 0 0, .slice none 0 0] 53) = W2 := ⟨_, rfl⟩
 have hx2 : Ext W1 W2 := by rw [← hW2]; exact Below.alloc (Below.refl _ _) (Nat.le_refl _) _
 have hq2 : W2.heap[W1.heap.size]? = some (.cells [Str [], Str [], .slice none 0 0, .slice none 0 0].toArray 53 (0, 0)) := by rw [← hW2]; exact Array.getElem?_push_size
 obtain ⟨Z2, hZ2, hp2, hb2⟩ := set4b hq2 (Str m.head) (Str m.nonce) (.slice ea en ek) (.slice sa sn sk)
 obtain ⟨c0, c1, c2, c3⟩ := cells4s hq2
 have f0 := frozen_c hq2 0
 have f1 := frozen_c hq2 1
 have f2 := frozen_c hq2 2
 have f3 := frozen_c hq2 3
 have hx1z : Ext W1 Z2 := hb2.below hx2 (Nat.le_refl _) (Nat.le_refl _)
 have HM2 := Lib.hid (HM1.out.grow hx1z)
 have HX2 := Lib.hid (ext_trans HX1.out hx1z)
 have HR2 := Lib.hid (ext_at hx1z HR1.out)
 have HP2 := Lib.hid hp2; have HZ2 := Lib.hid hZ2
 have hs2 : W1.heap.size < Z2.heap.size := (Array.getElem?_eq_some_iff.1 hp2).1
 clear hx2 hq2 hb2 hx1z hZ2 hp2
 go_upto_region 16 with fail
 try rw [hW2]
 rw [HZ2.out]
 clear hW2 HZ2 c0 c1 c2 c3 f0 f1 f2 f3
 obtain ⟨l0, l1, l2, l3⟩ := cells4s HP2.out
 obtain ⟨W3, hW3⟩ : ∃ W3, Z2.alloc (.cells zerM 27) = W3 := ⟨_, rfl⟩
 have hx3 : Ext Z2 W3 := by rw [← hW3]; exact Below.alloc (Below.refl _ _) (Nat.le_refl _) _
 have hq3 : W3.heap[Z2.heap.size]? = some (.cells zerM 27 (0, 0)) := by rw [← hW3]; exact Array.getElem?_push_size
 obtain ⟨Z3, hZ3, hp3, hb3⟩ := set11 hq3 (.int .i64 0) (Str []) (Str []) (Str []) (Str m.nonce) (.slice ea en ek) (.slice none 0 0) (.int .i64 0) (Str m.head) (.slice sa sn sk) (Str [])
 obtain ⟨c0, c1, c2, c3, c4, c5, c6, c7, c8, c9, c10⟩ := cells11 hq3
 obtain ⟨f0, f1, f2, f3, f4, f5, f6, f7, f8, f9, f10⟩ := frozen11 hq3
 skip
 have hx2z : Ext Z2 Z3 := hb3.below hx3 (Nat.le_refl _) (Nat.le_refl _)
 have HM3 := Lib.hid (HM2.out.grow hx2z)
 have HX3 := Lib.hid (ext_trans HX2.out hx2z)
 have HR3 := Lib.hid (ext_at hx2z HR2.out)
 have HP3 := Lib.hid hp3; have HZ3 := Lib.hid hZ3
 have hs3 : Z2.heap.size < Z3.heap.size := (Array.getElem?_eq_some_iff.1 hp3).1
 clear hx3 hq3 hb3 hx2z hZ3 hp3
 go_upto_region 17 with fail
 try rw [hW3]
 rw [HZ3.out]
 clear hW3 HZ3 c0 c1 c2 c3 c4 c5 c6 c7 c8 c9 c10 f0 f1 f2 f3 f4 f5 f6 f7 f8 f9 f10 l0 l1 l2 l3 
 obtain ⟨c0, c1, c2, c3, c4, c5, c6, c7, c8, c9, c10⟩ := cells11 HP3.out
 obtain ⟨f0, f1, f2, f3, f4, f5, f6, f7, f8, f9, f10⟩ := frozen11 HP3.out
 obtain ⟨g0, g1, g2, g3, g4, g5, g6, g7, g8, g9, g10⟩ := cells11 HR3.out
 obtain ⟨e0, e1, e2, e3, e4, e5, e6, e7, e8, e9, e10⟩ := frozen11 HR3.out
 have hsq : w.heap.size < Z2.heap.size := by omega
 by_cases hc : c = 0
 ·have HMM := Lib.hid (show m = ⟨3, [], [], [], m.nonce, m.ext, [], 0, m.head, m.proof, []⟩ by have := HFM.out; rw [if_pos hc] at this; exact this)
  subst hc
  go_wp2_with fail
  obtain ⟨Z4, hZ4⟩ : ∃ Z4, Z3.setCell ⟨Z2.heap.size, 0, none⟩ (.int .i64 3) = Z4 := ⟨_, rfl⟩
  have hb4 : Bz Z2.heap.size Z3 Z4 := by rw [← hZ4]; exact Bz.set _ _ _ _
  rw [hZ4]
  have hr4 := (hb4.block _ (Array.getElem?_eq_some_iff.1 HR3.out).1 (by omega)).trans HR3.out
  obtain ⟨Z, hZ, hr, hb⟩ := set11 hr4 (.int .i64 3) (Str []) (Str []) (Str []) (Str m.nonce) (.slice ea en ek) (.slice none 0 0) (.int .i64 0) (Str m.head) (.slice sa sn sk) (Str [])
  rw [hZ]
  have hm4 := HM2.out.later HM3.out (Nat.le_refl _) hb4
  first | rw [if_pos rfl] at hm4 | rw [if_pos trivial] at hm4
  have hmz := hm4.bz hb (Nat.lt_succ_self _)
  have hx4 : Ext w Z4 := hb4.below HX3.out (Nat.le_of_lt hsq) (Nat.le_refl _)
  refine bodyPost_ret (v := .tuple #[.agg #[.int .i64 3, Str [], Str [], Str [], Str m.nonce, .slice ea en ek, .slice none 0 0, .int .i64 0, Str m.head, .slice sa sn sk, Str []], .int .i64 0]) ?_ rfl ⟨⟨_, rfl, _, _, _, by rw [HMM.out], by rw [HMM.out]; exact hmz.mono (Nat.le_succ _)⟩, hb.ext hx4⟩
  have hr9 := hr
  clear c0 c1 c2 c3 c4 c5 c6 c7 c8 c9 c10 f0 f1 f2 f3 f4 f5 f6 f7 f8 f9 f10 g0 g1 g2 g3 g4 g5 g6 g7 g8 g9 g10 e0 e1 e2 e3 e4 e5 e6 e7 e8 e9 e10 hr hb hZ
  exact results_ms rfl _ _ rfl rfl hr9
 ·have HMM := Lib.hid (show m = ⟨0, [], [], [], m.nonce, m.ext, [], 0, m.head, m.proof, []⟩ by have := HFM.out; rw [if_neg hc] at this; exact this)
  have hc2 : (c == 0) = false := by simp [hc]
  have HM9 := Lib.hid (show MsR (w.heap.size + 1) Z3 _ _ _ ⟨0, [], [], [], m.nonce, m.ext, [], 0, m.head, m.proof, []⟩ by have := HM3.out; rw [if_neg hc] at this; exact this)
  clear hc
  go_wp2_with fail
  obtain ⟨Z, hZ, hr, hb⟩ := set11 HR3.out (.int .i64 0) (Str []) (Str []) (Str []) (Str m.nonce) (.slice ea en ek) (.slice none 0 0) (.int .i64 0) (Str m.head) (.slice sa sn sk) (Str [])
  rw [hZ]
  have hmz := HM9.out.bz hb (Nat.lt_succ_self _)
  refine bodyPost_ret (v := .tuple #[.agg #[.int .i64 0, Str [], Str [], Str [], Str m.nonce, .slice ea en ek, .slice none 0 0, .int .i64 0, Str m.head, .slice sa sn sk, Str []], .int .i64 c]) ?_ rfl ⟨⟨_, rfl, _, _, _, by rw [HMM.out], by rw [HMM.out]; exact hmz.mono (Nat.le_succ _)⟩, hb.ext HX3.out⟩
  have hr9 := hr
  clear c0 c1 c2 c3 c4 c5 c6 c7 c8 c9 c10 f0 f1 f2 f3 f4 f5 f6 f7 f8 f9 f10 g0 g1 g2 g3 g4 g5 g6 g7 g8 g9 g10 e0 e1 e2 e3 e4 e5 e6 e7 e8 e9 e10 hr hb hZ
  exact results_ms rfl _ _ rfl rfl hr9
set_option maxHeartbeats 8000000 in
theorem lparse_4 (k : Int) (h1 : k ≠ 1) (h2 : k ≠ 2) (h3 : k ≠ 3) (s : List UInt8) (hl : s.length ≤ 10000) (w : World) (hL : LwS w) : LpP k s (pVerd s) w := by
 have n1 : (k == 1) = false := by simp [h1]
 have n2 : (k == 2) = false := by simp [h2]
 have n3 : (k == 3) = false := by simp [h3]
 obtain ⟨W0, hW0⟩ : ∃ W0, w.alloc (.cells zerM 27) = W0 := ⟨_, rfl⟩
 have x0 : Ext w W0 := by rw [← hW0]; exact Below.alloc (Below.refl _ _) (Nat.le_refl _) _
 have r0 : W0.heap[w.heap.size]? = some (.cells zerM 27 (0, 0)) := by rw [← hW0]; exact Array.getElem?_push_size
 have HX0 := Lib.hid x0; have HR0 := Lib.hid r0; have HL := Lib.hid hL
 have hlt : w.heap.size < W0.heap.size := (Array.getElem?_eq_some_iff.1 r0).1
 have HFM := Lib.hid (pVerd_form s)
 have HPC := Lib.hid (show Calls Tryz.prog 19 #[Str s] W0 _ from (ParseVerdict_any s (by omega) _ (HL.out.ext HX0.out)))
 unfold LpP
 clear x0 r0 hL
 unfold VerdR at HPC
 generalize pVerd s = mm at *
 obtain ⟨m, c⟩ := mm
 simp only at HFM HPC ⊢
 go_enter Tryz.func8, Tryz.ntmps8
 go_wp2_with fail
 try rw [hW0]
 refine HPC.out.mono ?_
 rintro e W1 ⟨⟨sv, ev, rfl, hrs, hre, hbs, hbe⟩, hx⟩
 obtain ⟨ea, en, ek, rfl⟩ := row_shape hre
 obtain ⟨sa, sn, sk, rfl⟩ := slb_shape hrs
 have hle : ∀ x, W0.heap.size ≤ x → w.heap.size + 1 ≤ x := fun x h => by omega
 have HM1 := Lib.hid (show MsR (w.heap.size + 1) W1 (.slice ea en ek) (.slice none 0 0) (.slice sa sn sk) ⟨if c = 0 then 4 else 0, [], [], [], [], m.ext, [], 0, [], m.proof, m.code⟩ from ⟨hre, sl_nil _, hrs, fun k hk => hle _ (hbe k hk), nil_sblk, fun k hk => hle _ (hbs k hk)⟩)
 have HX1 := Lib.hid (ext_trans HX0.out hx)
 have HR1 := Lib.hid (ext_at hx HR0.out)
 have hs1 : w.heap.size < W1.heap.size := Nat.lt_of_lt_of_le hlt hx.size
 clear hre hbe hrs hbs hx HX0 HR0 HPC hW0 hle
 obtain ⟨W2, hW2⟩ : ∃ W2, W1.alloc (.cells #[.slice none 0 0, Str [], .slice none 0 0] 57) = W2 := ⟨_, rfl⟩
 have hx2 : Ext W1 W2 := by rw [← hW2]; exact Below.alloc (Below.refl _ _) (Nat.le_refl _) _
 have hq2 : W2.heap[W1.heap.size]? = some (.cells [.slice none 0 0, Str [], .slice none 0 0].toArray 57 (0, 0)) := by rw [← hW2]; exact Array.getElem?_push_size
 obtain ⟨Z2, hZ2, hp2, hb2⟩ := set3b hq2 (.slice sa sn sk) (Str m.code) (.slice ea en ek)
 obtain ⟨c0, c1, c2⟩ := cells3t hq2
 have f0 := frozen_c hq2 0
 have f1 := frozen_c hq2 1
 have f2 := frozen_c hq2 2
 have hx1z : Ext W1 Z2 := hb2.below hx2 (Nat.le_refl _) (Nat.le_refl _)
 have HM2 := Lib.hid (HM1.out.grow hx1z)
 have HX2 := Lib.hid (ext_trans HX1.out hx1z)
 have HR2 := Lib.hid (ext_at hx1z HR1.out)
 have HP2 := Lib.hid hp2; have HZ2 := Lib.hid hZ2
 have hs2 : W1.heap.size < Z2.heap.size := (Array.getElem?_eq_some_iff.1 hp2).1
 clear hx2 hq2 hb2 hx1z hZ2 hp2
 go_upto_region 21 with fail
 try rw [hW2]
 rw [HZ2.out]
 clear hW2 HZ2 c0 c1 c2 f0 f1 f2
 obtain ⟨l0, l1, l2⟩ := cells3t HP2.out
 obtain ⟨W3, hW3⟩ : ∃ W3, Z2.alloc (.cells zerM 27) = W3 := ⟨_, rfl⟩
 have hx3 : Ext Z2 W3 := by rw [← hW3]; exact Below.alloc (Below.refl _ _) (Nat.le_refl _) _
 have hq3 : W3.heap[Z2.heap.size]? = some (.cells zerM 27 (0, 0)) := by rw [← hW3]; exact Array.getElem?_push_size
 obtain ⟨Z3, hZ3, hp3, hb3⟩ := set11 hq3 (.int .i64 0) (Str []) (Str []) (Str []) (Str []) (.slice ea en ek) (.slice none 0 0) (.int .i64 0) (Str []) (.slice sa sn sk) (Str m.code)
 obtain ⟨c0, c1, c2, c3, c4, c5, c6, c7, c8, c9, c10⟩ := cells11 hq3
 obtain ⟨f0, f1, f2, f3, f4, f5, f6, f7, f8, f9, f10⟩ := frozen11 hq3
 skip
 have hx2z : Ext Z2 Z3 := hb3.below hx3 (Nat.le_refl _) (Nat.le_refl _)
 have HM3 := Lib.hid (HM2.out.grow hx2z)
 have HX3 := Lib.hid (ext_trans HX2.out hx2z)
 have HR3 := Lib.hid (ext_at hx2z HR2.out)
 have HP3 := Lib.hid hp3; have HZ3 := Lib.hid hZ3
 have hs3 : Z2.heap.size < Z3.heap.size := (Array.getElem?_eq_some_iff.1 hp3).1
 clear hx3 hq3 hb3 hx2z hZ3 hp3
 go_upto_region 22 with fail
 try rw [hW3]
 rw [HZ3.out]
 clear hW3 HZ3 c0 c1 c2 c3 c4 c5 c6 c7 c8 c9 c10 f0 f1 f2 f3 f4 f5 f6 f7 f8 f9 f10 l0 l1 l2 
 obtain ⟨c0, c1, c2, c3, c4, c5, c6, c7, c8, c9, c10⟩ := cells11 HP3.out
 obtain ⟨f0, f1, f2, f3, f4, f5, f6, f7, f8, f9, f10⟩ := frozen11 HP3.out
 obtain ⟨g0, g1, g2, g3, g4, g5, g6, g7, g8, g9, g10⟩ := cells11 HR3.out
 obtain ⟨e0, e1, e2, e3, e4, e5, e6, e7, e8, e9, e10⟩ := frozen11 HR3.out
 have hsq : w.heap.size < Z2.heap.size := by omega
 by_cases hc : c = 0
 ·have HMM := Lib.hid (show m = ⟨4, [], [], [], [], m.ext, [], 0, [], m.proof, m.code⟩ by have := HFM.out; rw [if_pos hc] at this; exact this)
  subst hc
  go_wp2_with fail
  obtain ⟨Z4, hZ4⟩ : ∃ Z4, Z3.setCell ⟨Z2.heap.size, 0, none⟩ (.int .i64 4) = Z4 := ⟨_, rfl⟩
  have hb4 : Bz Z2.heap.size Z3 Z4 := by rw [← hZ4]; exact Bz.set _ _ _ _
  rw [hZ4]
  have hr4 := (hb4.block _ (Array.getElem?_eq_some_iff.1 HR3.out).1 (by omega)).trans HR3.out
  obtain ⟨Z, hZ, hr, hb⟩ := set11 hr4 (.int .i64 4) (Str []) (Str []) (Str []) (Str []) (.slice ea en ek) (.slice none 0 0) (.int .i64 0) (Str []) (.slice sa sn sk) (Str m.code)
  rw [hZ]
  have hm4 := HM2.out.later HM3.out (Nat.le_refl _) hb4
  first | rw [if_pos rfl] at hm4 | rw [if_pos trivial] at hm4
  have hmz := hm4.bz hb (Nat.lt_succ_self _)
  have hx4 : Ext w Z4 := hb4.below HX3.out (Nat.le_of_lt hsq) (Nat.le_refl _)
  refine bodyPost_ret (v := .tuple #[.agg #[.int .i64 4, Str [], Str [], Str [], Str [], .slice ea en ek, .slice none 0 0, .int .i64 0, Str [], .slice sa sn sk, Str m.code], .int .i64 0]) ?_ rfl ⟨⟨_, rfl, _, _, _, by rw [HMM.out], by rw [HMM.out]; exact hmz.mono (Nat.le_succ _)⟩, hb.ext hx4⟩
  have hr9 := hr
  clear c0 c1 c2 c3 c4 c5 c6 c7 c8 c9 c10 f0 f1 f2 f3 f4 f5 f6 f7 f8 f9 f10 g0 g1 g2 g3 g4 g5 g6 g7 g8 g9 g10 e0 e1 e2 e3 e4 e5 e6 e7 e8 e9 e10 hr hb hZ
  exact results_ms rfl _ _ rfl rfl hr9
 ·have HMM := Lib.hid (show m = ⟨0, [], [], [], [], m.ext, [], 0, [], m.proof, m.code⟩ by have := HFM.out; rw [if_neg hc] at this; exact this)
  have hc2 : (c == 0) = false := by simp [hc]
  have HM9 := Lib.hid (show MsR (w.heap.size + 1) Z3 _ _ _ ⟨0, [], [], [], [], m.ext, [], 0, [], m.proof, m.code⟩ by have := HM3.out; rw [if_neg hc] at this; exact this)
  clear hc
  go_wp2_with fail
  obtain ⟨Z, hZ, hr, hb⟩ := set11 HR3.out (.int .i64 0) (Str []) (Str []) (Str []) (Str []) (.slice ea en ek) (.slice none 0 0) (.int .i64 0) (Str []) (.slice sa sn sk) (Str m.code)
  rw [hZ]
  have hmz := HM9.out.bz hb (Nat.lt_succ_self _)
  refine bodyPost_ret (v := .tuple #[.agg #[.int .i64 0, Str [], Str [], Str [], Str [], .slice ea en ek, .slice none 0 0, .int .i64 0, Str [], .slice sa sn sk, Str m.code], .int .i64 c]) ?_ rfl ⟨⟨_, rfl, _, _, _, by rw [HMM.out], by rw [HMM.out]; exact hmz.mono (Nat.le_succ _)⟩, hb.ext HX3.out⟩
  have hr9 := hr
  clear c0 c1 c2 c3 c4 c5 c6 c7 c8 c9 c10 f0 f1 f2 f3 f4 f5 f6 f7 f8 f9 f10 g0 g1 g2 g3 g4 g5 g6 g7 g8 g9 g10 e0 e1 e2 e3 e4 e5 e6 e7 e8 e9 e10 hr hb hZ
  exact results_ms rfl _ _ rfl rfl hr9
theorem lparse_any (k : Int) (s : List UInt8) (hl : s.length ≤ 10000) (w : World) (hL : LwS w) : LpP k s (rRead k s) w := by
 rw [read_eq]
 by_cases h1 : k = 1
 ·rw [if_pos h1]; subst h1; exact lparse_1 s hl w hL
 rw [if_neg h1]
 by_cases h2 : k = 2
 ·rw [if_pos h2]; subst h2; exact lparse_2 s hl w hL
 rw [if_neg h2]
 by_cases h3 : k = 3
 ·rw [if_pos h3]; subst h3; exact lparse_3 s hl w hL
 rw [if_neg h3]
 exact lparse_4 k h1 h2 h3 s hl w hL
end Go.Proofs.YtjkbigecejogdaaGreatDoor
