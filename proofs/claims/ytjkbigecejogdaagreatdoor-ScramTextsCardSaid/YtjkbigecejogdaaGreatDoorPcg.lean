/-
 scram.ParseChallenge at every text.
-/
import Derived.BigGuardPart
import Derived.Deep.CutBlock
import Derived.Deep.DeepCutAuto
import Derived.Test.YtjkbigecejogdaaGreatDoorRows
import Derived.Test.YtjkbigecejogdaaGreatDoorPst
namespace Go.Proofs.YtjkbigecejogdaaGreatDoor
open Go.RowKit
set_option maxRecDepth 100000
attribute [local go_sem] Oper.semAt_some
set_option linter.unusedVariables false
set_option linter.unusedSimpArgs false
structure C1 where
 p0 : List (List UInt8)
 no : List UInt8
 p1 : List (List UInt8)
 sa : List UInt8
 p2 : List (List UInt8)
 it : List UInt8
 xs : List (List UInt8)
def c1C (s : List UInt8) : C1 :=
 ⟨attsP s, nxT [114] (attsP s), nxR [114] (attsP s), nxT [115] (nxR [114] (attsP s)), nxR [115] (nxR [114] (attsP s)), nxT [105] (nxR [115] (nxR [114] (attsP s))), nxR [105] (nxR [115] (nxR [114] (attsP s)))⟩
def cBad (b0 : Bool) (c : C1) : Bool := ((((((b0 || !hasF [114] c.p0) || !nonF c.no) || !hasF [115] c.p1) || !byB c.sa 1 32) || !hasF [105] c.p2) || !decide (0 < rndN c.it)) || !c.xs.all okX
def pChal (s : List UInt8) : Ms × Int :=
 if 4096 < s.length then (Ms0, 3) else if cBad (badR s) (c1C s) = true then (Ms0, 4) else if denB (c1C s).xs = true then (Ms0, 12)
 else (⟨2, [], [], [], (c1C s).no, (c1C s).xs.map atPr, (decF (c1C s).sa).1, rndN (c1C s).it, [], [], []⟩, 0)
def ChalR (B : Nat) (m : Ms) (c : Int) (w' : World) (e : Ending) : Prop :=
 ∃ sv ev, e = .returned (.tuple #[.agg #[Str m.nonce, sv, .int .i64 m.iter, ev], .int .i64 c]) ∧ SlB w' sv m.salt ∧ RowC 2 prC w' ev m.ext ∧ (∀ k, sblk sv (m.salt.map Byt).length k → B ≤ k) ∧ ∀ k, rblk ev m.ext.length k → B ≤ k
theorem chalR0 (B : Nat) (c : Int) (w' : World) : ChalR B Ms0 c w' (.returned (.tuple #[.agg #[Str [], .slice none 0 0, .int .i64 0, .slice none 0 0], .int .i64 c])) := ⟨_, _, rfl, sl_nil _, rowP_nil _, nil_sblk, nil_rblk⟩
set_option maxHeartbeats 8000000 in
theorem ParseChallenge_any (s : List UInt8) (hl : s.length ≤ 10000) (w : World) (hL : LwS w) :
    Calls Tryz.prog 17 #[Str s] w fun e w' => ChalR w.heap.size (pChal s).1 (pChal s).2 w' e ∧ Ext w w' := by
 obtain ⟨W0, hW0⟩ : ∃ W0, w.alloc (.cells #[Str [], .slice none 0 0, .int .i64 0, .slice none 0 0] 49) = W0 := ⟨_, rfl⟩
 have x0 : Ext w W0 := by rw [← hW0]; exact Below.alloc (Below.refl _ _) (Nat.le_refl _) _
 have r0 : W0.heap[w.heap.size]? = some (.cells [Str [], .slice none 0 0, .int .i64 0, .slice none 0 0].toArray 49 (0, 0)) := by rw [← hW0]; exact Array.getElem?_push_size
 have HX0 := Lib.hid x0; have HR0 := Lib.hid r0; have HL := Lib.hid hL
 have hfg : 1 < w.heap.size := by obtain ⟨fr, hf⟩ := hL.fm; exact (Array.getElem?_eq_some_iff.1 hf).1
 clear x0 hL
 by_cases hs : 4096 < s.length
 ·have hlen : decide ((4096 : Int) < (s.length : Int)) = true := by simp; omega
  have HP := Lib.hid (show pChal s = (Ms0, 3) by unfold pChal; rw [if_pos hs])
  obtain ⟨z0, z1, z2, z3⟩ := cells4s r0
  obtain ⟨y0, y1, y2, y3⟩ := frozen_b r0
  clear r0
  go_enter Tryz.func17, Tryz.ntmps17
  go_wp2_with fail
  try rw [hW0]
  obtain ⟨Z, hZ, hr, hb⟩ := set4b HR0.out (Str []) (.slice none 0 0) (.int .i64 0) (.slice none 0 0)
  rw [hZ]
  refine bodyPost_ret (v := .tuple #[.agg #[Str [], .slice none 0 0, .int .i64 0, .slice none 0 0], .int .i64 3]) ?_ rfl ⟨by rw [HP.out]; exact chalR0 _ _ _, hb.ext HX0.out⟩
  obtain ⟨d0, d1, d2, d3⟩ := cells4s hr
  clear z0 z1 z2 z3 y0 y1 y2 y3
  simp [results, loadVar, loadCells, Tryz.isAgg49, Tryz.sizeOf49, Tryz.results17, go_sem, d0, d1, d2, d3]
 have hlen : decide ((4096 : Int) < (s.length : Int)) = false := by simp; omega
 have hp : pChal s = if cBad (badR s) (c1C s) = true then (Ms0, 4) else if denB (c1C s).xs = true then (Ms0, 12) else (⟨2, [], [], [], (c1C s).no, (c1C s).xs.map atPr, (decF (c1C s).sa).1, rndN (c1C s).it, [], [], []⟩, 0) := by unfold pChal; rw [if_neg hs]
 have hcd : cBad (badR s) (c1C s) = (((((((badR s || !hasF [114] (c1C s).p0) || !nonF (c1C s).no) || !hasF [115] (c1C s).p1) || !byB (c1C s).sa 1 32) || !hasF [105] (c1C s).p2) || !decide (0 < rndN (c1C s).it)) || !(c1C s).xs.all okX) := rfl
 have hbad0 : decide ((attsP s).length < (spl s).length) = badR s := rfl
 have ha0 : ∀ p ∈ attsP s, p.length ≤ 4096 ∧ 2 ≤ p.length := fun p hp => ⟨by have := spl_mem_len _ _ (atts_mem hp).1; omega, isAt_len (atts_mem hp).2⟩
 have hxl0 : (attsP s).length ≤ 5000 := by have h1 := spl_len s; have h2 := tw_le isAt (spl s); unfold attsP; omega
 rw [show c1C s = ⟨attsP s, nxT [114] (attsP s), nxR [114] (attsP s), nxT [115] (nxR [114] (attsP s)), nxR [115] (nxR [114] (attsP s)), nxT [105] (nxR [115] (nxR [114] (attsP s))), nxR [105] (nxR [115] (nxR [114] (attsP s)))⟩ from rfl] at hp hcd
 simp only at hp hcd
 rw [hcd] at hp
 clear hcd r0
 have HP0 := Lib.hid (rfl : attsP s = attsP s)
 obtain ⟨p0, hp0⟩ : ∃ p, attsP s = p := ⟨_, rfl⟩
 rw [hp0] at hp ha0 hxl0 hbad0
 obtain ⟨p1, hp1⟩ : ∃ p, nxR [114] p0 = p := ⟨_, rfl⟩
 obtain ⟨no, hno⟩ : ∃ p, nxT [114] p0 = p := ⟨_, rfl⟩
 rw [hp1, hno] at hp
 obtain ⟨p2, hp2⟩ : ∃ p, nxR [115] p1 = p := ⟨_, rfl⟩
 obtain ⟨sa, hsa⟩ : ∃ p, nxT [115] p1 = p := ⟨_, rfl⟩
 rw [hp2, hsa] at hp
 obtain ⟨xs, hp3⟩ : ∃ p, nxR [105] p2 = p := ⟨_, rfl⟩
 obtain ⟨it, hit⟩ : ∃ p, nxT [105] p2 = p := ⟨_, rfl⟩
 rw [hp3, hit] at hp
 have hq1 : ∀ p ∈ p1, p.length ≤ 4096 ∧ 2 ≤ p.length := fun p h => ha0 p (nxR_mem _ _ p (by rw [hp1]; exact h))
 have hq2 : ∀ p ∈ p2, p.length ≤ 4096 ∧ 2 ≤ p.length := fun p h => hq1 p (nxR_mem _ _ p (by rw [hp2]; exact h))
 have hq3 : ∀ p ∈ xs, p.length ≤ 4096 ∧ 2 ≤ p.length := fun p h => hq2 p (nxR_mem _ _ p (by rw [hp3]; exact h))
 have hnl : no.length ≤ 4096 := by rw [← hno]; exact nxT_len _ _ _ fun p h => (ha0 p h).1
 have hsl : sa.length ≤ 4096 := by rw [← hsa]; exact nxT_len _ _ _ fun p h => (hq1 p h).1
 have hil : it.length ≤ 4096 := by rw [← hit]; exact nxT_len _ _ _ fun p h => (hq2 p h).1
 have hxl : xs.length ≤ 5000 := by
  have h1 := nxR_len [114] p0; have h2 := nxR_len [115] p1; have h3 := nxR_len [105] p2
  rw [hp1] at h1; rw [hp2] at h2; rw [hp3] at h3; omega
 have HX2 := Lib.hid (fun (p : List UInt8) (hp : p ∈ xs) => (show 1 ≤ p.length by have := (hq3 p hp).2; omega))
 have HV := Lib.hid (fun p (hp : p ∈ xs) W (hW : FormsAt W) => svalue_any (p.drop 2) (by have := (hq3 p hp).1; simp; omega) W hW)
 have HA0 := Lib.hid hp0; have HE1 := Lib.hid hp1; have HE2 := Lib.hid hp2; have HE3 := Lib.hid hp3; have HT1 := Lib.hid hno; have HT2 := Lib.hid hsa; have HT3 := Lib.hid hit
 have HFR := Lib.hid (show ∀ (bad den : Bool), bad = (((((((badR s || !hasF [114] p0) || !nonF no) || !hasF [115] p1) || !byB sa 1 32) || !hasF [105] p2) || !decide (0 < rndN it)) || !xs.all okX) → den = denB xs → pChal s = if bad = true then (Ms0, 4) else if den = true then (Ms0, 12) else (⟨2, [], [], [], no, xs.map atPr, (decF sa).1, rndN it, [], [], []⟩, 0) from fun bad den hb hd => by rw [hb, hd]; exact hp)
 have HNN := Lib.hid (fun W => nonce_scram no (by omega) W)
 have HBY := Lib.hid (fun (bm M : Nat) (bad : Bool) (W : World) (h : Msg bm M bad p2 W) (hM : M ≤ W.heap.size) => bytesOf_any bm M bad p2 sa (by omega) 1 32 (by omega) (by omega) W h hM)
 have HRN := Lib.hid (fun W h => rounds_any it (by omega) W h)
 have hdl := decF_len sa
 have hrn : rndN it ≤ 64 := by
  unfold rndN; split
  ·rename_i h; unfold rndB at h; simp at h; omega
  ·omega
 have hxa : okA (fun p => valB (p.drop 2)) = okX := rfl
 clear hp hp1 hp2 hp3 hno hsa hit hq1 hq2 hq3 ha0 hp0 HP0
 generalize pChal s = pc at *
 generalize nonF no = nb at *
 generalize rndN it = rn at *
 generalize byB sa 1 32 = by1 at *
 generalize decF sa = dd at *
 obtain ⟨ds, dc⟩ := dd
 simp only at HFR HBY hdl
 go_enter Tryz.func17, Tryz.ntmps17
 go_wp2_with fail
 try rw [hW0]
 clear hW0
 refine (read_any s (by omega) W0 (HL.out.mx.ext HX0.out)).mono ?_
 rintro e W3 ⟨bm, v, rfl, hbm, hmsg, hown, hx⟩
 rw [HA0.out] at hmsg hown
 rw [hbad0] at hmsg
 have hsb : w.heap.size < bm := Nat.lt_of_lt_of_le (Array.getElem?_eq_some_iff.1 HR0.out).1 hbm
 have HMS := Lib.hid (show Msg bm W3.heap.size (badR s) p0 W3 from ⟨v, hmsg, row2_of_own hown (by omega) (Nat.le_refl _)⟩)
 have HX3 := Lib.hid (ext_trans HX0.out hx)
 have HR3 := Lib.hid (ext_at hx HR0.out)
 have hbq : bm < W3.heap.size := HMS.out.lt
 clear hx hmsg hown HX0 HR0 hbm hbad0
 generalize badR s = b0 at *
 obtain ⟨W4, hW4⟩ : ∃ W4, W3.alloc (.cells #[Str [], .slice none 0 0, .int .i64 0, .slice none 0 0] 49) = W4 := ⟨_, rfl⟩
 have hx4 : Ext W3 W4 := by rw [← hW4]; exact Below.alloc (Below.refl _ _) (Nat.le_refl _) _
 have HP := Lib.hid (show PB w w.heap.size bm W3.heap.size 49 [Str [], .slice none 0 0, .int .i64 0, .slice none 0 0] [Str [], .slice none 0 0, .int .i64 0, .slice none 0 0] b0 p0 W4 from
  ⟨ext_trans HX3.out hx4, HMS.out.ext hx4, by rw [← hW4]; exact Array.getElem?_push_size, ext_at hx4 HR3.out, rfl, hsb, hbq⟩)
 clear hx4 HMS HX3 HR3
 go_wp2_with fail
 try rw [hW4]
 clear hW4
 obtain ⟨q, hq⟩ : ∃ q, W3.heap.size = q := ⟨_, rfl⟩
 rw [hq] at HP hbq ⊢
 clear hq
 have hqf : 1 < q := by omega
 refine (next_any bm q b0 p0 [114] _ HP.out.msg).mono ?_
 rintro e Vx ⟨he, hmx, hzx⟩
 rw [HT1.out] at he
 subst he
 rw [HE1.out] at hmx
 have HP1 := Lib.hid (HP.out.bz hzx hmx)
 clear hmx hzx HP
 obtain ⟨b1, hb9⟩ : ∃ b, (b0 || !hasF [114] p0) = b := ⟨_, rfl⟩
 rw [hb9] at HP1 HFR
 clear hb9
 go_wp2_with fail
 refine (nonceM_any bm q b1 p1 no nb _ HP1.out.msg HNN.out).mono ?_
 rintro e Vx ⟨rfl, hmx, hzx⟩
 have HP2 := Lib.hid (HP1.out.bz hzx hmx)
 clear hmx hzx HP1
 obtain ⟨b2, hb9⟩ : ∃ b, (b1 || !nb) = b := ⟨_, rfl⟩
 rw [hb9] at HP2 HFR
 clear hb9
 obtain ⟨c0, f0⟩ := HP2.out.cell 0 _ rfl
 go_wp2_with fail
 have HP3 := Lib.hid (HP2.out.store 0 (Str no) (cs' := [Str no, .slice none 0 0, .int .i64 0, .slice none 0 0]) rfl)
 clear c0 f0 HP2
 refine (next_any bm q b2 p1 [115] _ HP3.out.msg).mono ?_
 rintro e Vx ⟨he, hmx, hzx⟩
 rw [HT2.out] at he
 subst he
 rw [HE2.out] at hmx
 have HP4 := Lib.hid (HP3.out.bz hzx hmx)
 clear hmx hzx HP3
 obtain ⟨b3, hb9⟩ : ∃ b, (b2 || !hasF [115] p1) = b := ⟨_, rfl⟩
 rw [hb9] at HP4 HFR
 clear hb9
 go_wp2_with fail
 have HQ4 := HP4.out.lt
 refine Calls.mono (HBY.out _ _ _ _ HP4.out.msg (Nat.le_of_lt HP4.out.lt)) ?_
 rintro e V5 ⟨sv, rfl, hown, hmx, hzx⟩
 obtain ⟨sa1, sa3, hsv, -⟩ := ownz_shape hown
 subst hsv
 have HP5 := Lib.hid (PBS.mk (HP4.out.bz hzx hmx) (Stay.refl q V5))
 have HSO := Lib.hid hown
 clear hmx hzx HP4 hown
 obtain ⟨b4, hb9⟩ : ∃ b, (b3 || !by1) = b := ⟨_, rfl⟩
 rw [hb9] at HP5 HFR
 clear hb9
 obtain ⟨c0, f0⟩ := HP5.out.cell 1 _ rfl
 go_wp2_with fail
 have HP6 := Lib.hid (HP5.out.store 1 (.slice sa1 ds.length sa3) (cs' := [Str no, .slice sa1 ds.length sa3, .int .i64 0, .slice none 0 0]) rfl)
 clear c0 f0 HP5
 refine (next_any bm q b4 p2 [105] _ HP6.out.msg).mono ?_
 rintro e Vx ⟨he, hmx, hzx⟩
 rw [HT3.out] at he
 subst he
 rw [HE3.out] at hmx
 have HP7 := Lib.hid (HP6.out.bz hzx hmx)
 clear hmx hzx HP6
 obtain ⟨b5, hb9⟩ : ∃ b, (b4 || !hasF [105] p2) = b := ⟨_, rfl⟩
 rw [hb9] at HP7 HFR
 clear hb9
 go_wp2_with fail
 refine (HRN.out _ (HL.out.ext HP7.out.bel)).mono ?_
 rintro e V8 ⟨rfl, hx⟩
 have HP8 := Lib.hid (HP7.out.ext hx)
 clear hx HP7
 obtain ⟨c0, f0⟩ := HP8.out.cell 2 _ rfl
 obtain ⟨gt, hgt⟩ : ∃ b, decide (0 < rn) = b := ⟨_, rfl⟩
 have hgi : decide (0 < (rn : Int)) = gt := by rw [← hgt]; simp
 rw [hgt] at HFR
 go_wp2_with fail
 clear hgi hgt
 have HP9 := Lib.hid (HP8.out.store 2 (.int .i64 rn) (cs' := [Str no, .slice sa1 ds.length sa3, .int .i64 rn, .slice none 0 0]) rfl)
 clear c0 f0 HP8
 have hm9 := HP9.out.msg
 refine (fine_any bm q b5 gt _ _ hm9).mono ?_
 rintro e Vx ⟨rfl, hmx, hzx⟩
 have HP10 := Lib.hid (HP9.out.bz hzx hmx)
 clear hmx hzx hm9 HP9
 obtain ⟨b6, hb9⟩ : ∃ b, (b5 || !gt) = b := ⟨_, rfl⟩
 rw [hb9] at HP10 HFR
 clear hb9
 go_wp2_with fail
 refine (rest_any (fun p => valB (p.drop 2)) bm q b6 xs [] (by simpa using (show xs.length ≤ 100000 by omega)) _ (by simpa using HP10.out.msg) (Nat.le_of_lt HP10.out.lt) HX2.out (HL.out.fm.ext HP10.out.bel) hqf (by omega) HV.out).mono ?_
 rintro e Vc ⟨xv, rfl, hown, hmc, hzc⟩
 have hxv : ∃ a n c, xv = .slice a n c := by
  rcases hown.2 with ⟨hv, h0⟩ | ⟨g, cap, _, hv, _⟩
  ·exact ⟨_, _, _, hv⟩
  ·exact ⟨_, _, _, hv⟩
 obtain ⟨xa1, xa2, xa3, rfl⟩ := hxv
 rw [hxa] at hmc
 have HP11 := Lib.hid (HP10.out.bz hzc hmc)
 have HO := Lib.hid (hown.set q 3 (.slice xa1 xa2 xa3) HP10.out.lt)
 have hqb := HP10.out.lt
 obtain ⟨b7, hb9⟩ : ∃ b, (b6 || !xs.all okX) = b := ⟨_, rfl⟩
 rw [hb9] at HP11 HFR
 clear hmc hzc HP10 hown hb9
 obtain ⟨c0, f0⟩ := HP11.out.cell 3 _ rfl
 go_wp2_with fail
 have HP12 := Lib.hid (HP11.out.store 3 (.slice xa1 xa2 xa3) (cs' := [Str no, .slice sa1 ds.length sa3, .int .i64 rn, .slice xa1 xa2 xa3]) rfl)
 clear c0 f0 HP11
 refine (denied_any _ _ xs (by omega) _ HO.out).mono ?_
 rintro e V13 ⟨rfl, hx⟩
 have HP13 := Lib.hid (HP12.out.ext hx)
 have HO2 := Lib.hid (OwnP.ext HO.out hx)
 clear hx HP12 HO
 generalize denB xs = de at *
 go_wp2_with fail
 refine (ended_any bm q b7 de _ HP13.out.msg).mono ?_
 rintro e V14 ⟨rfl, hw⟩
 subst V14
 have hsp := own_stay HSO.out HP13.out.st HQ4
 have HSP := Lib.hid hsp
 have hres := HP13.out.res
 obtain ⟨z0, z1, z2, z3⟩ := cells4s hres
 obtain ⟨l0, l1, l2, l3⟩ := cells4s HP13.out.loc
 obtain ⟨y0, y1, y2, y3⟩ := frozen_b hres
 have HRS := Lib.hid hres; have HBL := Lib.hid HP13.out.bel
 clear hres hsp
 cases b7 with
 | true =>
   have hpc := HFR.out true de rfl rfl
   rw [if_pos rfl] at hpc
   subst hpc
   clear HFR
   go_wp2_with fail
   obtain ⟨Z, hZ, hr, hb⟩ := set4b HRS.out (Str []) (.slice none 0 0) (.int .i64 0) (.slice none 0 0)
   rw [hZ]
   refine bodyPost_ret (v := .tuple #[.agg #[Str [], .slice none 0 0, .int .i64 0, .slice none 0 0], .int .i64 4]) ?_ rfl ⟨chalR0 _ _ _, hb.ext HBL.out⟩
   obtain ⟨d0, d1, d2, d3⟩ := cells4s hr
   clear z0 z1 z2 z3 y0 y1 y2 y3 l0 l1 l2 l3
   simp [results, loadVar, loadCells, Tryz.isAgg49, Tryz.sizeOf49, Tryz.results17, go_sem, d0, d1, d2, d3]
 | false =>
   cases de with
   | true =>
     have hpc := HFR.out false true rfl rfl
     rw [if_neg (by simp), if_pos rfl] at hpc
     subst hpc
     clear HFR
     go_wp2_with fail
     obtain ⟨Z, hZ, hr, hb⟩ := set4b HRS.out (Str []) (.slice none 0 0) (.int .i64 0) (.slice none 0 0)
     rw [hZ]
     refine bodyPost_ret (v := .tuple #[.agg #[Str [], .slice none 0 0, .int .i64 0, .slice none 0 0], .int .i64 12]) ?_ rfl ⟨chalR0 _ _ _, hb.ext HBL.out⟩
     obtain ⟨d0, d1, d2, d3⟩ := cells4s hr
     clear z0 z1 z2 z3 y0 y1 y2 y3 l0 l1 l2 l3
     simp [results, loadVar, loadCells, Tryz.isAgg49, Tryz.sizeOf49, Tryz.results17, go_sem, d0, d1, d2, d3]
   | false =>
     have hpc := HFR.out false false rfl rfl
     rw [if_neg (by simp), if_neg (by simp)] at hpc
     subst hpc
     clear HFR
     go_wp2_with fail
     obtain ⟨Z, hZ, hr, hb⟩ := set4b HRS.out (Str no) (.slice sa1 ds.length sa3) (.int .i64 rn) (.slice xa1 xa2 xa3)
     rw [hZ]
     have ho1 := own_bz HSP.out hb (by omega)
     have ho2 := own_bz HO2.out hb (by omega)
     refine bodyPost_ret (v := .tuple #[.agg #[Str no, .slice sa1 ds.length sa3, .int .i64 rn, .slice xa1 xa2 xa3], .int .i64 0]) ?_ rfl ⟨⟨_, _, rfl, sl_of_own ho1, rowP_of_ownP ho2, own_sblk ho1 (by omega) _, by rw [List.length_map]; exact own_rblk ho2 (by omega)⟩, hb.ext HBL.out⟩
     obtain ⟨d0, d1, d2, d3⟩ := cells4s hr
     clear z0 z1 z2 z3 y0 y1 y2 y3 l0 l1 l2 l3
     simp [results, loadVar, loadCells, Tryz.isAgg49, Tryz.sizeOf49, Tryz.results17, go_sem, d0, d1, d2, d3]
end Go.Proofs.YtjkbigecejogdaaGreatDoor
