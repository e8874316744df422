/-
 scram.ParseVerdict at every text.
-/
import Derived.BigGuardPart
import Derived.Deep.CutBlock
import Derived.Deep.DeepCutAuto
import Derived.Test.YtjkbigecejogdaaGreatDoorRows
import Derived.Test.YtjkbigecejogdaaGreatDoorPst
namespace Go.Proofs.YtjkbigecejogdaaGreatDoor
open Go.RowKit
set_option maxRecDepth 100000
attribute [local go_sem] Oper.semAt_some
set_option linter.unusedVariables false
set_option linter.unusedSimpArgs false
def vE (s : List UInt8) : Ms × Int :=
 if ((badR s || !valB (nxT [101] (attsP s))) || !(nxR [101] (attsP s)).all okX) = true then (Ms0, 4) else if denB (nxR [101] (attsP s)) = true then (Ms0, 12)
 else (⟨4, [], [], [], [], (nxR [101] (attsP s)).map atPr, [], 0, [], [], nxT [101] (attsP s)⟩, 0)
def vS (s : List UInt8) : Ms × Int :=
 if (((badR s || !hasF [118] (attsP s)) || !byB (nxT [118] (attsP s)) 32 32) || !(nxR [118] (attsP s)).all okX) = true then (Ms0, 4) else if denB (nxR [118] (attsP s)) = true then (Ms0, 12)
 else (⟨4, [], [], [], [], (nxR [118] (attsP s)).map atPr, [], 0, [], (decF (nxT [118] (attsP s))).1, []⟩, 0)
def pVerd (s : List UInt8) : Ms × Int := if 4096 < s.length then (Ms0, 3) else if hasF [101] (attsP s) = true then vE s else vS s
def VerdR (B : Nat) (m : Ms) (c : Int) (w' : World) (e : Ending) : Prop :=
 ∃ pv ev, e = .returned (.tuple #[.agg #[pv, Str m.code, ev], .int .i64 c]) ∧ SlB w' pv m.proof ∧ RowC 2 prC w' ev m.ext ∧ (∀ k, sblk pv (m.proof.map Byt).length k → B ≤ k) ∧ ∀ k, rblk ev m.ext.length k → B ≤ k
theorem verdR0 (B : Nat) (c : Int) (w' : World) : VerdR B Ms0 c w' (.returned (.tuple #[.agg #[.slice none 0 0, Str [], .slice none 0 0], .int .i64 c])) := ⟨_, _, rfl, sl_nil _, rowP_nil _, nil_sblk, nil_rblk⟩
set_option maxHeartbeats 8000000 in
theorem verd_e (s : List UInt8) (hs : ¬ 4096 < s.length) (hh : hasF [101] (attsP s) = true) (w : World) (hL : LwS w) :
    Calls Tryz.prog 19 #[Str s] w fun e w' => VerdR w.heap.size (vE s).1 (vE s).2 w' e ∧ Ext w w' := by
 obtain ⟨W0, hW0⟩ : ∃ W0, w.alloc (.cells #[.slice none 0 0, Str [], .slice none 0 0] 57) = W0 := ⟨_, rfl⟩
 have x0 : Ext w W0 := by rw [← hW0]; exact Below.alloc (Below.refl _ _) (Nat.le_refl _) _
 have r0 : W0.heap[w.heap.size]? = some (.cells [.slice none 0 0, Str [], .slice none 0 0].toArray 57 (0, 0)) := by rw [← hW0]; exact Array.getElem?_push_size
 have HX0 := Lib.hid x0; have HR0 := Lib.hid r0; have HL := Lib.hid hL
 have hfg : 1 < w.heap.size := by obtain ⟨fr, hf⟩ := hL.fm; exact (Array.getElem?_eq_some_iff.1 hf).1
 clear x0 hL r0
 have hlen : decide ((4096 : Int) < (s.length : Int)) = false := by simp; omega
 have hbad0 : decide ((attsP s).length < (spl s).length) = badR s := rfl
 have ha0 : ∀ p ∈ attsP s, p.length ≤ 4096 ∧ 2 ≤ p.length := fun p hp => ⟨by have := spl_mem_len _ _ (atts_mem hp).1; omega, isAt_len (atts_mem hp).2⟩
 have hxl0 : (attsP s).length ≤ 5000 := by have h1 := spl_len s; have h2 := tw_le isAt (spl s); unfold attsP; omega
 have hp : vE s = if ((badR s || !valB (nxT [101] (attsP s))) || !(nxR [101] (attsP s)).all okX) = true then (Ms0, 4) else if denB (nxR [101] (attsP s)) = true then (Ms0, 12) else (⟨4, [], [], [], [], (nxR [101] (attsP s)).map atPr, [], 0, [], [], nxT [101] (attsP s)⟩, 0) := rfl
 clear hp
 have hp : vE s = if ((badR s || !valB (nxT [101] (attsP s))) || !(nxR [101] (attsP s)).all okX) = true then (Ms0, 4) else if denB (nxR [101] (attsP s)) = true then (Ms0, 12) else (⟨4, [], [], [], [], (nxR [101] (attsP s)).map atPr, [], 0, [], [], nxT [101] (attsP s)⟩, 0) := rfl
 obtain ⟨p0, hp0⟩ : ∃ p, attsP s = p := ⟨_, rfl⟩
 rw [hp0] at hp ha0 hxl0 hbad0 hh
 obtain ⟨xs, hp1⟩ : ∃ p, nxR [101] p0 = p := ⟨_, rfl⟩
 obtain ⟨no, hno⟩ : ∃ p, nxT [101] p0 = p := ⟨_, rfl⟩
 rw [hp1, hno] at hp
 have hq1 : ∀ p ∈ xs, p.length ≤ 4096 ∧ 2 ≤ p.length := fun p h => ha0 p (nxR_mem _ _ p (by rw [hp1]; exact h))
 have hnl : no.length ≤ 4096 := by rw [← hno]; exact nxT_len _ _ _ fun p h => (ha0 p h).1
 have hxl : xs.length ≤ 5000 := by have h1 := nxR_len [101] p0; rw [hp1] at h1; omega
 have HFR := Lib.hid (show ∀ (bad den : Bool), bad = (((badR s || !true) || !valB no) || !xs.all okX) → den = denB xs → vE s = if bad = true then (Ms0, 4) else if den = true then (Ms0, 12) else (⟨4, [], [], [], [], xs.map atPr, [], 0, [], [], no⟩, 0) from fun bad den hb hd => by rw [hb, hd]; simpa using hp)
 have HVL := Lib.hid (fun W (hW : FormsAt W) => svalue_any no (by omega) W hW)
 clear hp
 generalize vE s = pc at *
 generalize valB no = vb at *
 have HX2 := Lib.hid (fun (p : List UInt8) (hp : p ∈ xs) => (show 1 ≤ p.length by have := (hq1 p hp).2; omega))
 have HV := Lib.hid (fun p (hp : p ∈ xs) W (hW : FormsAt W) => svalue_any (p.drop 2) (by have := (hq1 p hp).1; simp; omega) W hW)
 have HA0 := Lib.hid hp0; have HE1 := Lib.hid hp1; have HT1 := Lib.hid hno; have HH := Lib.hid hh
 have hxa : okA (fun p => valB (p.drop 2)) = okX := rfl
 clear hp1 hno hq1 ha0 hp0 hh
 go_enter Tryz.func19, Tryz.ntmps19
 go_wp2_with fail
 try rw [hW0]
 clear hW0
 refine (read_any s (by omega) W0 (HL.out.mx.ext HX0.out)).mono ?_
 rintro e W3 ⟨bm, v, rfl, hbm, hmsg, hown, hx⟩
 rw [HA0.out] at hmsg hown
 rw [hbad0] at hmsg
 have hsb : w.heap.size < bm := Nat.lt_of_lt_of_le (Array.getElem?_eq_some_iff.1 HR0.out).1 hbm
 have HMS := Lib.hid (show Msg bm W3.heap.size (badR s) p0 W3 from ⟨v, hmsg, row2_of_own hown (by omega) (Nat.le_refl _)⟩)
 have HX3 := Lib.hid (ext_trans HX0.out hx)
 have HR3 := Lib.hid (ext_at hx HR0.out)
 have hbq : bm < W3.heap.size := HMS.out.lt
 clear hx hmsg hown HX0 HR0 hbm hbad0
 generalize badR s = b0 at *
 obtain ⟨W4, hW4⟩ : ∃ W4, W3.alloc (.cells #[.slice none 0 0, Str [], .slice none 0 0] 57) = W4 := ⟨_, rfl⟩
 have hx4 : Ext W3 W4 := by rw [← hW4]; exact Below.alloc (Below.refl _ _) (Nat.le_refl _) _
 have HP := Lib.hid (show PB w w.heap.size bm W3.heap.size 57 [.slice none 0 0, Str [], .slice none 0 0] [.slice none 0 0, Str [], .slice none 0 0] b0 p0 W4 from
  ⟨ext_trans HX3.out hx4, HMS.out.ext hx4, by rw [← hW4]; exact Array.getElem?_push_size, ext_at hx4 HR3.out, rfl, hsb, hbq⟩)
 clear hx4 HMS HX3 HR3
 go_wp2_with fail
 try rw [hW4]
 clear hW4
 obtain ⟨q, hq⟩ : ∃ q, W3.heap.size = q := ⟨_, rfl⟩
 rw [hq] at HP hbq ⊢
 clear hq
 have hqf : 1 < q := by omega
 refine (has_any bm q b0 _ [101] W4 HP.out.msg).mono ?_
 rintro e V0 ⟨he, hw⟩
 subst V0
 rw [HH.out] at he
 subst he
 go_wp2_with fail
 refine (next_any bm q b0 p0 [101] _ HP.out.msg).mono ?_
 rintro e Vx ⟨he, hmx, hzx⟩
 rw [HT1.out] at he
 subst he
 rw [HE1.out, HH.out] at hmx
 have HP1 := Lib.hid (HP.out.bz hzx hmx)
 clear hmx hzx HP
 obtain ⟨b1, hb9⟩ : ∃ b, (b0 || !true) = b := ⟨_, rfl⟩
 rw [hb9] at HP1 HFR
 clear hb9
 obtain ⟨c0, f0⟩ := HP1.out.cell 1 _ rfl
 go_wp2_with fail
 have HP2 := Lib.hid (HP1.out.store 1 (Str no) (cs' := [.slice none 0 0, Str no, .slice none 0 0]) rfl)
 clear c0 f0 HP1
 refine (HVL.out _ (HL.out.fm.ext HP2.out.bel)).mono ?_
 rintro e V3 ⟨rfl, hx⟩
 have HP3 := Lib.hid (HP2.out.ext hx)
 clear hx HP2
 go_wp2_with fail
 have hm9 := HP3.out.msg
 refine (fine_any bm q b1 vb _ _ hm9).mono ?_
 rintro e Vx ⟨rfl, hmx, hzx⟩
 have HP4 := Lib.hid (HP3.out.bz hzx hmx)
 clear hmx hzx hm9 HP3
 obtain ⟨b2, hb9⟩ : ∃ b, (b1 || !vb) = b := ⟨_, rfl⟩
 rw [hb9] at HP4 HFR
 clear hb9
 go_wp2_with fail
 refine (rest_any (fun p => valB (p.drop 2)) bm q b2 xs [] (by simpa using (show xs.length ≤ 100000 by omega)) _ (by simpa using HP4.out.msg) (Nat.le_of_lt HP4.out.lt) HX2.out (HL.out.fm.ext HP4.out.bel) hqf (by omega) HV.out).mono ?_
 rintro e Vc ⟨xv, rfl, hown, hmc, hzc⟩
 have hxv : ∃ a n c, xv = .slice a n c := by
  rcases hown.2 with ⟨hv, h0⟩ | ⟨g, cap, _, hv, _⟩
  ·exact ⟨_, _, _, hv⟩
  ·exact ⟨_, _, _, hv⟩
 obtain ⟨xa1, xa2, xa3, rfl⟩ := hxv
 rw [hxa] at hmc
 have HP11 := Lib.hid (HP4.out.bz hzc hmc)
 have HO := Lib.hid (hown.set q 2 (.slice xa1 xa2 xa3) HP4.out.lt)
 have hqb := HP4.out.lt
 obtain ⟨b7, hb9⟩ : ∃ b, (b2 || !xs.all okX) = b := ⟨_, rfl⟩
 rw [hb9] at HP11 HFR
 clear hmc hzc HP4 hown hb9
 obtain ⟨c0, f0⟩ := HP11.out.cell 2 _ rfl
 go_wp2_with fail
 have HP12 := Lib.hid (HP11.out.store 2 (.slice xa1 xa2 xa3) (cs' := [.slice none 0 0, Str no, .slice xa1 xa2 xa3]) rfl)
 clear c0 f0 HP11
 refine (denied_any _ _ xs (by omega) _ HO.out).mono ?_
 rintro e V13 ⟨rfl, hx⟩
 have HP13 := Lib.hid (HP12.out.ext hx)
 have HO2 := Lib.hid (OwnP.ext HO.out hx)
 clear hx HP12 HO
 generalize denB xs = de at *
 go_wp2_with fail
 refine (ended_any bm q b7 de _ HP13.out.msg).mono ?_
 rintro e V14 ⟨rfl, hw⟩
 subst V14
 have hres := HP13.out.res
 obtain ⟨z0, z1, z2⟩ := cells3t hres
 obtain ⟨l0, l1, l2⟩ := cells3t HP13.out.loc
 obtain ⟨y0, y1, y2, -⟩ := frozen_b hres
 have HRS := Lib.hid hres; have HBL := Lib.hid HP13.out.bel
 clear hres
 cases b7 with
 | true =>
   have hpc := HFR.out true de rfl rfl
   rw [if_pos rfl] at hpc
   subst hpc
   clear HFR
   go_wp2_with fail
   obtain ⟨Z, hZ, hr, hb⟩ := set3b HRS.out (.slice none 0 0) (Str []) (.slice none 0 0)
   rw [hZ]
   refine bodyPost_ret (v := .tuple #[.agg #[.slice none 0 0, Str [], .slice none 0 0], .int .i64 4]) ?_ rfl ⟨verdR0 _ _ _, hb.ext HBL.out⟩
   obtain ⟨d0, d1, d2⟩ := cells3t hr
   clear z0 z1 z2 y0 y1 y2 l0 l1 l2
   simp [results, loadVar, loadCells, Tryz.isAgg57, Tryz.sizeOf57, Tryz.results19, go_sem, d0, d1, d2]
 | false =>
   cases de with
   | true =>
     have hpc := HFR.out false true rfl rfl
     rw [if_neg (by simp), if_pos rfl] at hpc
     subst hpc
     clear HFR
     go_wp2_with fail
     obtain ⟨Z, hZ, hr, hb⟩ := set3b HRS.out (.slice none 0 0) (Str []) (.slice none 0 0)
     rw [hZ]
     refine bodyPost_ret (v := .tuple #[.agg #[.slice none 0 0, Str [], .slice none 0 0], .int .i64 12]) ?_ rfl ⟨verdR0 _ _ _, hb.ext HBL.out⟩
     obtain ⟨d0, d1, d2⟩ := cells3t hr
     clear z0 z1 z2 y0 y1 y2 l0 l1 l2
     simp [results, loadVar, loadCells, Tryz.isAgg57, Tryz.sizeOf57, Tryz.results19, go_sem, d0, d1, d2]
   | false =>
     have hpc := HFR.out false false rfl rfl
     rw [if_neg (by simp), if_neg (by simp)] at hpc
     subst hpc
     clear HFR
     go_wp2_with fail
     obtain ⟨Z, hZ, hr, hb⟩ := set3b HRS.out (.slice none 0 0) (Str no) (.slice xa1 xa2 xa3)
     rw [hZ]
     have ho2 := own_bz HO2.out hb (by omega)
     refine bodyPost_ret (v := .tuple #[.agg #[.slice none 0 0, Str no, .slice xa1 xa2 xa3], .int .i64 0]) ?_ rfl ⟨⟨_, _, rfl, sl_nil _, rowP_of_ownP ho2, nil_sblk, by rw [List.length_map]; exact own_rblk ho2 (by omega)⟩, hb.ext HBL.out⟩
     obtain ⟨d0, d1, d2⟩ := cells3t hr
     clear z0 z1 z2 y0 y1 y2 l0 l1 l2
     simp [results, loadVar, loadCells, Tryz.isAgg57, Tryz.sizeOf57, Tryz.results19, go_sem, d0, d1, d2]
set_option maxHeartbeats 8000000 in
theorem verd_s (s : List UInt8) (hs : ¬ 4096 < s.length) (hh : hasF [101] (attsP s) = false) (w : World) (hL : LwS w) :
    Calls Tryz.prog 19 #[Str s] w fun e w' => VerdR w.heap.size (vS s).1 (vS s).2 w' e ∧ Ext w w' := by
 obtain ⟨W0, hW0⟩ : ∃ W0, w.alloc (.cells #[.slice none 0 0, Str [], .slice none 0 0] 57) = W0 := ⟨_, rfl⟩
 have x0 : Ext w W0 := by rw [← hW0]; exact Below.alloc (Below.refl _ _) (Nat.le_refl _) _
 have r0 : W0.heap[w.heap.size]? = some (.cells [.slice none 0 0, Str [], .slice none 0 0].toArray 57 (0, 0)) := by rw [← hW0]; exact Array.getElem?_push_size
 have HX0 := Lib.hid x0; have HR0 := Lib.hid r0; have HL := Lib.hid hL
 have hfg : 1 < w.heap.size := by obtain ⟨fr, hf⟩ := hL.fm; exact (Array.getElem?_eq_some_iff.1 hf).1
 clear x0 hL r0
 have hlen : decide ((4096 : Int) < (s.length : Int)) = false := by simp; omega
 have hbad0 : decide ((attsP s).length < (spl s).length) = badR s := rfl
 have ha0 : ∀ p ∈ attsP s, p.length ≤ 4096 ∧ 2 ≤ p.length := fun p hp => ⟨by have := spl_mem_len _ _ (atts_mem hp).1; omega, isAt_len (atts_mem hp).2⟩
 have hxl0 : (attsP s).length ≤ 5000 := by have h1 := spl_len s; have h2 := tw_le isAt (spl s); unfold attsP; omega
 have hp : vS s = if (((badR s || !hasF [118] (attsP s)) || !byB (nxT [118] (attsP s)) 32 32) || !(nxR [118] (attsP s)).all okX) = true then (Ms0, 4) else if denB (nxR [118] (attsP s)) = true then (Ms0, 12) else (⟨4, [], [], [], [], (nxR [118] (attsP s)).map atPr, [], 0, [], (decF (nxT [118] (attsP s))).1, []⟩, 0) := rfl
 obtain ⟨p0, hp0⟩ : ∃ p, attsP s = p := ⟨_, rfl⟩
 rw [hp0] at hp ha0 hxl0 hbad0 hh
 obtain ⟨xs, hp1⟩ : ∃ p, nxR [118] p0 = p := ⟨_, rfl⟩
 obtain ⟨no, hno⟩ : ∃ p, nxT [118] p0 = p := ⟨_, rfl⟩
 rw [hp1, hno] at hp
 have hq1 : ∀ p ∈ xs, p.length ≤ 4096 ∧ 2 ≤ p.length := fun p h => ha0 p (nxR_mem _ _ p (by rw [hp1]; exact h))
 have hnl : no.length ≤ 4096 := by rw [← hno]; exact nxT_len _ _ _ fun p h => (ha0 p h).1
 have hxl : xs.length ≤ 5000 := by have h1 := nxR_len [118] p0; rw [hp1] at h1; omega
 have HFR := Lib.hid (show ∀ (bad den : Bool), bad = (((badR s || !hasF [118] p0) || !byB no 32 32) || !xs.all okX) → den = denB xs → vS s = if bad = true then (Ms0, 4) else if den = true then (Ms0, 12) else (⟨4, [], [], [], [], xs.map atPr, [], 0, [], (decF no).1, []⟩, 0) from fun bad den hb hd => by rw [hb, hd]; exact hp)
 have HBY := Lib.hid (fun (bm M : Nat) (bad : Bool) (W : World) (h : Msg bm M bad xs W) (hM : M ≤ W.heap.size) => bytesOf_any bm M bad xs no (by omega) 32 32 (by omega) (by omega) W h hM)
 have hdl := decF_len no
 clear hp
 generalize vS s = pc at *
 generalize byB no 32 32 = by1 at *
 generalize decF no = dd at *
 obtain ⟨ds, dc⟩ := dd
 simp only at HFR HBY hdl
 have HX2 := Lib.hid (fun (p : List UInt8) (hp : p ∈ xs) => (show 1 ≤ p.length by have := (hq1 p hp).2; omega))
 have HV := Lib.hid (fun p (hp : p ∈ xs) W (hW : FormsAt W) => svalue_any (p.drop 2) (by have := (hq1 p hp).1; simp; omega) W hW)
 have HA0 := Lib.hid hp0; have HE1 := Lib.hid hp1; have HT1 := Lib.hid hno; have HH := Lib.hid hh
 have hxa : okA (fun p => valB (p.drop 2)) = okX := rfl
 clear hp1 hno hq1 ha0 hp0 hh
 go_enter Tryz.func19, Tryz.ntmps19
 go_wp2_with fail
 try rw [hW0]
 clear hW0
 refine (read_any s (by omega) W0 (HL.out.mx.ext HX0.out)).mono ?_
 rintro e W3 ⟨bm, v, rfl, hbm, hmsg, hown, hx⟩
 rw [HA0.out] at hmsg hown
 rw [hbad0] at hmsg
 have hsb : w.heap.size < bm := Nat.lt_of_lt_of_le (Array.getElem?_eq_some_iff.1 HR0.out).1 hbm
 have HMS := Lib.hid (show Msg bm W3.heap.size (badR s) p0 W3 from ⟨v, hmsg, row2_of_own hown (by omega) (Nat.le_refl _)⟩)
 have HX3 := Lib.hid (ext_trans HX0.out hx)
 have HR3 := Lib.hid (ext_at hx HR0.out)
 have hbq : bm < W3.heap.size := HMS.out.lt
 clear hx hmsg hown HX0 HR0 hbm hbad0
 generalize badR s = b0 at *
 obtain ⟨W4, hW4⟩ : ∃ W4, W3.alloc (.cells #[.slice none 0 0, Str [], .slice none 0 0] 57) = W4 := ⟨_, rfl⟩
 have hx4 : Ext W3 W4 := by rw [← hW4]; exact Below.alloc (Below.refl _ _) (Nat.le_refl _) _
 have HP := Lib.hid (show PB w w.heap.size bm W3.heap.size 57 [.slice none 0 0, Str [], .slice none 0 0] [.slice none 0 0, Str [], .slice none 0 0] b0 p0 W4 from
  ⟨ext_trans HX3.out hx4, HMS.out.ext hx4, by rw [← hW4]; exact Array.getElem?_push_size, ext_at hx4 HR3.out, rfl, hsb, hbq⟩)
 clear hx4 HMS HX3 HR3
 go_wp2_with fail
 try rw [hW4]
 clear hW4
 obtain ⟨q, hq⟩ : ∃ q, W3.heap.size = q := ⟨_, rfl⟩
 rw [hq] at HP hbq ⊢
 clear hq
 have hqf : 1 < q := by omega
 refine (has_any bm q b0 _ [101] W4 HP.out.msg).mono ?_
 rintro e V0 ⟨he, hw⟩
 subst V0
 rw [HH.out] at he
 subst he
 go_wp2_with fail
 refine (next_any bm q b0 p0 [118] _ HP.out.msg).mono ?_
 rintro e Vx ⟨he, hmx, hzx⟩
 rw [HT1.out] at he
 subst he
 rw [HE1.out] at hmx
 have HP4 := Lib.hid (HP.out.bz hzx hmx)
 clear hmx hzx HP
 obtain ⟨b1, hb9⟩ : ∃ b, (b0 || !hasF [118] p0) = b := ⟨_, rfl⟩
 rw [hb9] at HP4 HFR
 clear hb9
 go_wp2_with fail
 have HQ4 := HP4.out.lt
 refine Calls.mono (HBY.out _ _ _ _ HP4.out.msg (Nat.le_of_lt HP4.out.lt)) ?_
 rintro e V5 ⟨sv, rfl, hown, hmx, hzx⟩
 obtain ⟨sa1, sa3, hsv, -⟩ := ownz_shape hown
 subst hsv
 have HP5 := Lib.hid (PBS.mk (HP4.out.bz hzx hmx) (Stay.refl q V5))
 have HSO := Lib.hid hown
 clear hmx hzx HP4 hown
 obtain ⟨b4, hb9⟩ : ∃ b, (b1 || !by1) = b := ⟨_, rfl⟩
 rw [hb9] at HP5 HFR
 clear hb9
 obtain ⟨c0, f0⟩ := HP5.out.cell 0 _ rfl
 go_wp2_with fail
 have HP6 := Lib.hid (HP5.out.store 0 (.slice sa1 ds.length sa3) (cs' := [.slice sa1 ds.length sa3, Str [], .slice none 0 0]) rfl)
 clear c0 f0 HP5
 refine (rest_any (fun p => valB (p.drop 2)) bm q b4 xs [] (by simpa using (show xs.length ≤ 100000 by omega)) _ (by simpa using HP6.out.msg) (Nat.le_of_lt HP6.out.lt) HX2.out (HL.out.fm.ext HP6.out.bel) hqf (by omega) HV.out).mono ?_
 rintro e Vc ⟨xv, rfl, hown, hmc, hzc⟩
 have hxv : ∃ a n c, xv = .slice a n c := by
  rcases hown.2 with ⟨hv, h0⟩ | ⟨g, cap, _, hv, _⟩
  ·exact ⟨_, _, _, hv⟩
  ·exact ⟨_, _, _, hv⟩
 obtain ⟨xa1, xa2, xa3, rfl⟩ := hxv
 rw [hxa] at hmc
 have HP11 := Lib.hid (HP6.out.bz hzc hmc)
 have HO := Lib.hid (hown.set q 2 (.slice xa1 xa2 xa3) HP6.out.lt)
 have hqb := HP6.out.lt
 obtain ⟨b7, hb9⟩ : ∃ b, (b4 || !xs.all okX) = b := ⟨_, rfl⟩
 rw [hb9] at HP11 HFR
 clear hmc hzc HP6 hown hb9
 obtain ⟨c0, f0⟩ := HP11.out.cell 2 _ rfl
 go_wp2_with fail
 have HP12 := Lib.hid (HP11.out.store 2 (.slice xa1 xa2 xa3) (cs' := [.slice sa1 ds.length sa3, Str [], .slice xa1 xa2 xa3]) rfl)
 clear c0 f0 HP11
 refine (denied_any _ _ xs (by omega) _ HO.out).mono ?_
 rintro e V13 ⟨rfl, hx⟩
 have HP13 := Lib.hid (HP12.out.ext hx)
 have HO2 := Lib.hid (OwnP.ext HO.out hx)
 clear hx HP12 HO
 generalize denB xs = de at *
 go_wp2_with fail
 refine (ended_any bm q b7 de _ HP13.out.msg).mono ?_
 rintro e V14 ⟨rfl, hw⟩
 subst V14
 have hres := HP13.out.res
 obtain ⟨z0, z1, z2⟩ := cells3t hres
 obtain ⟨l0, l1, l2⟩ := cells3t HP13.out.loc
 obtain ⟨y0, y1, y2, -⟩ := frozen_b hres
 have HRS := Lib.hid hres; have HBL := Lib.hid HP13.out.bel
 clear hres
 cases b7 with
 | true =>
   have hpc := HFR.out true de rfl rfl
   rw [if_pos rfl] at hpc
   subst hpc
   clear HFR
   go_wp2_with fail
   obtain ⟨Z, hZ, hr, hb⟩ := set3b HRS.out (.slice none 0 0) (Str []) (.slice none 0 0)
   rw [hZ]
   refine bodyPost_ret (v := .tuple #[.agg #[.slice none 0 0, Str [], .slice none 0 0], .int .i64 4]) ?_ rfl ⟨verdR0 _ _ _, hb.ext HBL.out⟩
   obtain ⟨d0, d1, d2⟩ := cells3t hr
   clear z0 z1 z2 y0 y1 y2 l0 l1 l2
   simp [results, loadVar, loadCells, Tryz.isAgg57, Tryz.sizeOf57, Tryz.results19, go_sem, d0, d1, d2]
 | false =>
   cases de with
   | true =>
     have hpc := HFR.out false true rfl rfl
     rw [if_neg (by simp), if_pos rfl] at hpc
     subst hpc
     clear HFR
     go_wp2_with fail
     obtain ⟨Z, hZ, hr, hb⟩ := set3b HRS.out (.slice none 0 0) (Str []) (.slice none 0 0)
     rw [hZ]
     refine bodyPost_ret (v := .tuple #[.agg #[.slice none 0 0, Str [], .slice none 0 0], .int .i64 12]) ?_ rfl ⟨verdR0 _ _ _, hb.ext HBL.out⟩
     obtain ⟨d0, d1, d2⟩ := cells3t hr
     clear z0 z1 z2 y0 y1 y2 l0 l1 l2
     simp [results, loadVar, loadCells, Tryz.isAgg57, Tryz.sizeOf57, Tryz.results19, go_sem, d0, d1, d2]
   | false =>
     have hpc := HFR.out false false rfl rfl
     rw [if_neg (by simp), if_neg (by simp)] at hpc
     subst hpc
     clear HFR
     go_wp2_with fail
     obtain ⟨Z, hZ, hr, hb⟩ := set3b HRS.out (.slice sa1 ds.length sa3) (Str []) (.slice xa1 xa2 xa3)
     rw [hZ]
     have ho2 := own_bz HO2.out hb (by omega)
     refine bodyPost_ret (v := .tuple #[.agg #[.slice sa1 ds.length sa3, Str [], .slice xa1 xa2 xa3], .int .i64 0]) ?_ rfl ⟨⟨_, _, rfl, sl_of_own (own_bz (own_stay HSO.out HP13.out.st HQ4) hb (by omega)), rowP_of_ownP ho2, own_sblk (own_stay HSO.out HP13.out.st HQ4) (by omega) _, by rw [List.length_map]; exact own_rblk ho2 (by omega)⟩, hb.ext HBL.out⟩
     obtain ⟨d0, d1, d2⟩ := cells3t hr
     clear z0 z1 z2 y0 y1 y2 l0 l1 l2
     simp [results, loadVar, loadCells, Tryz.isAgg57, Tryz.sizeOf57, Tryz.results19, go_sem, d0, d1, d2]
theorem ParseVerdict_any (s : List UInt8) (hl : s.length ≤ 10000) (w : World) (hL : LwS w) :
    Calls Tryz.prog 19 #[Str s] w fun e w' => VerdR w.heap.size (pVerd s).1 (pVerd s).2 w' e ∧ Ext w w' := by
 by_cases hs : 4096 < s.length
 ·obtain ⟨W0, hW0⟩ : ∃ W0, w.alloc (.cells #[.slice none 0 0, Str [], .slice none 0 0] 57) = W0 := ⟨_, rfl⟩
  have x0 : Ext w W0 := by rw [← hW0]; exact Below.alloc (Below.refl _ _) (Nat.le_refl _) _
  have r0 : W0.heap[w.heap.size]? = some (.cells [.slice none 0 0, Str [], .slice none 0 0].toArray 57 (0, 0)) := by rw [← hW0]; exact Array.getElem?_push_size
  have HX0 := Lib.hid x0; have HR0 := Lib.hid r0
  have hlen : decide ((4096 : Int) < (s.length : Int)) = true := by simp; omega
  have HP := Lib.hid (show pVerd s = (Ms0, 3) by unfold pVerd; rw [if_pos hs])
  obtain ⟨z0, z1, z2⟩ := cells3t r0
  obtain ⟨y0, y1, y2, -⟩ := frozen_b r0
  clear r0 x0
  go_enter Tryz.func19, Tryz.ntmps19
  go_wp2_with fail
  try rw [hW0]
  obtain ⟨Z, hZ, hr, hb⟩ := set3b HR0.out (.slice none 0 0) (Str []) (.slice none 0 0)
  rw [hZ]
  refine bodyPost_ret (v := .tuple #[.agg #[.slice none 0 0, Str [], .slice none 0 0], .int .i64 3]) ?_ rfl ⟨by rw [HP.out]; exact verdR0 _ _ _, hb.ext HX0.out⟩
  obtain ⟨d0, d1, d2⟩ := cells3t hr
  clear z0 z1 z2 y0 y1 y2
  simp [results, loadVar, loadCells, Tryz.isAgg57, Tryz.sizeOf57, Tryz.results19, go_sem, d0, d1, d2]
 ·cases hh : hasF [101] (attsP s) with
  | true =>
    have hp : pVerd s = vE s := by unfold pVerd; rw [if_neg hs, if_pos hh]
    rw [hp]
    exact verd_e s hs hh w hL
  | false =>
    have hp : pVerd s = vS s := by unfold pVerd; rw [if_neg hs, if_neg (by rw [hh]; simp)]
    rw [hp]
    exact verd_s s hs hh w hL
end Go.Proofs.YtjkbigecejogdaaGreatDoor
