/-
 scram.ParseFinal at every text.
-/
import Derived.BigGuardPart
import Derived.Deep.CutBlock
import Derived.Deep.DeepCutAuto
import Derived.Test.YtjkbigecejogdaaGreatDoorRows
import Derived.Deep.LoopGhost
import Derived.Test.YtjkbigecejogdaaGreatDoorPst
namespace Go.Proofs.YtjkbigecejogdaaGreatDoor
open Go.RowKit
set_option maxRecDepth 100000
attribute [local go_sem] Oper.semAt_some
set_option linter.unusedVariables false
set_option linter.unusedSimpArgs false
theorem ended_gen (bm M : Nat) (bad no : Bool) (ps : List (List UInt8)) (w : World) (hg : bad = true ∨ ps = []) (h : Msg bm M bad ps w) :
    Calls Tryz.prog 48 #[.pointer (some ⟨bm, 0, none⟩), .bool no] w fun e w' => e = .returned (.int .i64 (if bad then 4 else if no then 12 else 0)) ∧ w' = w := by
 by_cases hp : ps = []
 ·subst hp
  exact ended_any bm M bad no w h
 ·rcases hg with rfl | hg
  ·obtain ⟨v, hb, ao, cap, hv, hcap, hmax, hcc⟩ := h
   subst hv
   obtain ⟨c0, c1, cf⟩ := cells2m hb
   clear hb cf hcc
   go_enter Tryz.func48, Tryz.ntmps48
   go_wp2
   go_ret
   exact ⟨rfl, rfl⟩
  ·exact absurd hg hp
def allB (ps : List (List UInt8)) : List (List UInt8) := ps.take (ps.length - 1)
def lastB (ps : List (List UInt8)) : List (List UInt8) := ps.drop (ps.length - 1)
set_option maxHeartbeats 1000000 in
theorem rest1_any (vB : List UInt8 → Bool) (bm M : Nat) (bad : Bool) (ps : List (List UInt8)) (hsm : ps.length ≤ 100000) (w : World) (h : Msg bm M bad ps w) (hM : M ≤ w.heap.size) (h2 : ∀ p ∈ allB ps, 1 ≤ p.length)
    (hF : FormsAt w) (hfb : 1 < M) (hfm : 1 ≠ bm) (hv : ∀ p ∈ allB ps, ∀ W, FormsAt W → Calls Tryz.prog 44 #[Str (p.drop 2)] W fun e w' => e = .returned (.bool (vB p)) ∧ Ext W w') :
    Calls Tryz.prog 47 #[.pointer (some ⟨bm, 0, none⟩), .int .i64 1] w fun e w' => ∃ v, e = .returned v ∧ OwnP w.heap.size v (allB ps) w' ∧ Msg bm M (bad || !((allB ps).all (okA vB))) (lastB ps) w' ∧ Bz bm w w' := by
 by_cases hp : ps = []
 ·subst hp
  have HM := Lib.hid h
  obtain ⟨v, hb, ao, cap, hv', hcap, hmax, hcc⟩ := h
  subst hv'
  obtain ⟨c0, c1, cf⟩ := cells2m hb
  clear hb cf hcc
  go_enter Tryz.func47, Tryz.ntmps47
  go_wp2
  go_loop [5] (fun v => v = .slice none 0 0) (fun _ => 0)
  case atStart => rfl
  case round =>
   subst hrel
   go_wp2
   go_ret
   exact ⟨_, rfl, World.ownsRow_nil _ _ _ _, by simpa [allB, lastB] using HM.out, Bz.of_ext (ext_refl _)⟩
 ·have hl : (lastB ps).length = 1 := by unfold lastB; rw [List.length_drop]; have := List.length_pos_iff.2 hp; omega
  have he : allB ps ++ lastB ps = ps := List.take_append_drop _ _
  have := rest_any vB bm M bad (allB ps) (lastB ps) (by rw [← List.length_append, he]; exact hsm) w (by rw [he]; exact h) hM h2 hF hfb hfm hv
  rw [hl] at this
  exact this
structure N1 where
 p0 : List (List UInt8)
 hd : List UInt8
 p1 : List (List UInt8)
 no : List UInt8
 p2 : List (List UInt8)
 pf : List UInt8
def n1C (s : List UInt8) : N1 :=
 ⟨attsP s, nxT [99] (attsP s), nxR [99] (attsP s), nxT [114] (nxR [99] (attsP s)), nxR [114] (nxR [99] (attsP s)), nxT [112] (lastB (nxR [114] (nxR [99] (attsP s))))⟩
def notP (xs : List (List UInt8)) : Bool := xs.all fun p => p.take 1 != [112]
def nBad (b0 : Bool) (c : N1) : Bool := ((((((((b0 || !hasF [99] c.p0) || !byB c.hd 0 4096) || !(headF (decF c.hd).1).1) || !hasF [114] c.p1) || !nonF c.no) || !(allB c.p2).all okX) || !notP (allB c.p2)) || !hasF [112] (lastB c.p2)) || !byB c.pf 32 32
def nDen (c : N1) : Bool := (headF (decF c.hd).1).2 || denB (allB c.p2)
def pFinal (s : List UInt8) : Ms × Int :=
 if 4096 < s.length then (Ms0, 3) else if nBad (badR s) (n1C s) = true then (Ms0, 4) else if nDen (n1C s) = true then (Ms0, 12)
 else (⟨3, [], [], [], (n1C s).no, (allB (n1C s).p2).map atPr, [], 0, (decF (n1C s).hd).1, (decF (n1C s).pf).1, []⟩, 0)
def FinR (B : Nat) (m : Ms) (c : Int) (w' : World) (e : Ending) : Prop :=
 ∃ pv ev, e = .returned (.tuple #[.agg #[Str m.head, Str m.nonce, ev, pv], .int .i64 c]) ∧ SlB w' pv m.proof ∧ RowC 2 prC w' ev m.ext ∧ (∀ k, sblk pv (m.proof.map Byt).length k → B ≤ k) ∧ ∀ k, rblk ev m.ext.length k → B ≤ k
theorem finR0 (B : Nat) (c : Int) (w' : World) : FinR B Ms0 c w' (.returned (.tuple #[.agg #[Str [], Str [], .slice none 0 0, .slice none 0 0], .int .i64 c])) := ⟨_, _, rfl, sl_nil _, rowP_nil _, nil_sblk, nil_rblk⟩
set_option maxHeartbeats 8000000 in
theorem ParseFinal_any (s : List UInt8) (hl : s.length ≤ 10000) (w : World) (hL : LwS w) :
    Calls Tryz.prog 18 #[Str s] w fun e w' => FinR w.heap.size (pFinal s).1 (pFinal s).2 w' e ∧ Ext w w' := by
 obtain ⟨W0, hW0⟩ : ∃ W0, w.alloc (.cells #[Str [], Str [], .slice none 0 0, .slice none 0 0] 53) = W0 := ⟨_, rfl⟩
 have x0 : Ext w W0 := by rw [← hW0]; exact Below.alloc (Below.refl _ _) (Nat.le_refl _) _
 have r0 : W0.heap[w.heap.size]? = some (.cells [Str [], Str [], .slice none 0 0, .slice none 0 0].toArray 53 (0, 0)) := by rw [← hW0]; exact Array.getElem?_push_size
 have HX0 := Lib.hid x0; have HR0 := Lib.hid r0; have HL := Lib.hid hL
 have hfg : 1 < w.heap.size := by obtain ⟨fr, hf⟩ := hL.fm; exact (Array.getElem?_eq_some_iff.1 hf).1
 clear x0 hL
 by_cases hs : 4096 < s.length
 ·have hlen : decide ((4096 : Int) < (s.length : Int)) = true := by simp; omega
  have HP := Lib.hid (show pFinal s = (Ms0, 3) by unfold pFinal; rw [if_pos hs])
  obtain ⟨z0, z1, z2, z3⟩ := cells4s r0
  obtain ⟨y0, y1, y2, y3⟩ := frozen_b r0
  clear r0
  go_enter Tryz.func18, Tryz.ntmps18
  go_wp2_with fail
  try rw [hW0]
  obtain ⟨Z, hZ, hr, hb⟩ := set4b HR0.out (Str []) (Str []) (.slice none 0 0) (.slice none 0 0)
  rw [hZ]
  refine bodyPost_ret (v := .tuple #[.agg #[Str [], Str [], .slice none 0 0, .slice none 0 0], .int .i64 3]) ?_ rfl ⟨by rw [HP.out]; exact finR0 _ _ _, hb.ext HX0.out⟩
  obtain ⟨d0, d1, d2, d3⟩ := cells4s hr
  clear z0 z1 z2 z3 y0 y1 y2 y3
  simp [results, loadVar, loadCells, Tryz.isAgg53, Tryz.sizeOf53, Tryz.results18, go_sem, d0, d1, d2, d3]
 have hlen : decide ((4096 : Int) < (s.length : Int)) = false := by simp; omega
 have hp : pFinal s = if nBad (badR s) (n1C s) = true then (Ms0, 4) else if nDen (n1C s) = true then (Ms0, 12) else (⟨3, [], [], [], (n1C s).no, (allB (n1C s).p2).map atPr, [], 0, (decF (n1C s).hd).1, (decF (n1C s).pf).1, []⟩, 0) := by unfold pFinal; rw [if_neg hs]
 have hcd : nBad (badR s) (n1C s) = (((((((((badR s || !hasF [99] (n1C s).p0) || !byB (n1C s).hd 0 4096) || !(headF (decF (n1C s).hd).1).1) || !hasF [114] (n1C s).p1) || !nonF (n1C s).no) || !(allB (n1C s).p2).all okX) || !notP (allB (n1C s).p2)) || !hasF [112] (lastB (n1C s).p2)) || !byB (n1C s).pf 32 32) := rfl
 have hdn : nDen (n1C s) = ((headF (decF (n1C s).hd).1).2 || denB (allB (n1C s).p2)) := rfl
 have hbad0 : decide ((attsP s).length < (spl s).length) = badR s := rfl
 have ha0 : ∀ p ∈ attsP s, p.length ≤ 4096 ∧ 2 ≤ p.length := fun p hp => ⟨by have := spl_mem_len _ _ (atts_mem hp).1; omega, isAt_len (atts_mem hp).2⟩
 have hxl0 : (attsP s).length ≤ 5000 := by have h1 := spl_len s; have h2 := tw_le isAt (spl s); unfold attsP; omega
 rw [show n1C s = ⟨attsP s, nxT [99] (attsP s), nxR [99] (attsP s), nxT [114] (nxR [99] (attsP s)), nxR [114] (nxR [99] (attsP s)), nxT [112] (lastB (nxR [114] (nxR [99] (attsP s))))⟩ from rfl] at hp hcd hdn
 simp only at hp hcd hdn
 rw [hcd, hdn] at hp
 clear hcd hdn r0
 obtain ⟨p0, hp0⟩ : ∃ p, attsP s = p := ⟨_, rfl⟩
 rw [hp0] at hp ha0 hxl0 hbad0
 obtain ⟨p1, hp1⟩ : ∃ p, nxR [99] p0 = p := ⟨_, rfl⟩
 obtain ⟨hd, hhd⟩ : ∃ p, nxT [99] p0 = p := ⟨_, rfl⟩
 rw [hp1, hhd] at hp
 obtain ⟨p2, hp2⟩ : ∃ p, nxR [114] p1 = p := ⟨_, rfl⟩
 obtain ⟨no, hno⟩ : ∃ p, nxT [114] p1 = p := ⟨_, rfl⟩
 rw [hp2, hno] at hp
 obtain ⟨xs, hxs⟩ : ∃ p, allB p2 = p := ⟨_, rfl⟩
 obtain ⟨ks, hks⟩ : ∃ p, lastB p2 = p := ⟨_, rfl⟩
 rw [hxs, hks] at hp
 obtain ⟨pf, hpf⟩ : ∃ p, nxT [112] ks = p := ⟨_, rfl⟩
 rw [hpf] at hp
 have hq1 : ∀ p ∈ p1, p.length ≤ 4096 ∧ 2 ≤ p.length := fun p h => ha0 p (nxR_mem _ _ p (by rw [hp1]; exact h))
 have hq2 : ∀ p ∈ p2, p.length ≤ 4096 ∧ 2 ≤ p.length := fun p h => hq1 p (nxR_mem _ _ p (by rw [hp2]; exact h))
 have hq3 : ∀ p ∈ xs, p.length ≤ 4096 ∧ 2 ≤ p.length := fun p h => hq2 p (by rw [← hxs] at h; exact List.mem_of_mem_take h)
 have hq4 : ∀ p ∈ ks, p.length ≤ 4096 ∧ 2 ≤ p.length := fun p h => hq2 p (by rw [← hks] at h; exact List.mem_of_mem_drop h)
 have hhl : hd.length ≤ 4096 := by rw [← hhd]; exact nxT_len _ _ _ fun p h => (ha0 p h).1
 have hnl : no.length ≤ 4096 := by rw [← hno]; exact nxT_len _ _ _ fun p h => (hq1 p h).1
 have hpl : pf.length ≤ 4096 := by rw [← hpf]; exact nxT_len _ _ _ fun p h => (hq4 p h).1
 have hp2l : p2.length ≤ 5000 := by
  have h1 := nxR_len [99] p0; have h2 := nxR_len [114] p1
  rw [hp1] at h1; rw [hp2] at h2; omega
 have hxl : xs.length ≤ 5000 := by rw [← hxs]; unfold allB; rw [List.length_take]; omega
 have hkl : ks.length ≤ 1 := by rw [← hks]; unfold lastB; rw [List.length_drop]; omega
 have HX2 := Lib.hid (fun (p : List UInt8) (hp : p ∈ allB p2) => (show 1 ≤ p.length by rw [hxs] at hp; have := (hq3 p hp).2; omega))
 have HV := Lib.hid (fun p (hp : p ∈ allB p2) W (hW : FormsAt W) => svalue_any (p.drop 2) (by rw [hxs] at hp; have := (hq3 p hp).1; simp; omega) W hW)
 have HA0 := Lib.hid hp0; have HE1 := Lib.hid hp1; have HE2 := Lib.hid hp2; have HXS := Lib.hid hxs; have HKS := Lib.hid hks; have HT1 := Lib.hid hhd; have HT2 := Lib.hid hno; have HT3 := Lib.hid hpf
 have HFR := Lib.hid (show ∀ (bad den : Bool), bad = (((((((((badR s || !hasF [99] p0) || !byB hd 0 4096) || !(headF (decF hd).1).1) || !hasF [114] p1) || !nonF no) || !xs.all okX) || !notP xs) || !hasF [112] ks) || !byB pf 32 32) → den = ((headF (decF hd).1).2 || denB xs) → pFinal s = if bad = true then (Ms0, 4) else if den = true then (Ms0, 12) else (⟨3, [], [], [], no, xs.map atPr, [], 0, (decF hd).1, (decF pf).1, []⟩, 0) from fun bad den hb hd => by rw [hb, hd]; exact hp)
 have HNN := Lib.hid (fun W => nonce_scram no (by omega) W)
 have HBY := Lib.hid (fun (bm M : Nat) (bad : Bool) (W : World) (h : Msg bm M bad p1 W) (hM : M ≤ W.heap.size) => bytesOf_any bm M bad p1 hd (by omega) 0 4096 (by omega) (by omega) W h hM)
 have HBP := Lib.hid (fun (bm M : Nat) (bad : Bool) (ps : List (List UInt8)) (W : World) (h : Msg bm M bad ps W) (hM : M ≤ W.heap.size) => bytesOf_any bm M bad ps pf (by omega) 32 32 (by omega) (by omega) W h hM)
 have hdl := decF_len hd
 have hdl9 := decF_len pf
 have hxa : okA (fun p => valB (p.drop 2)) = okX := rfl
 clear hp hp1 hp2 hxs hks hhd hno hpf hq1 hq2 hq4 ha0 hp0
 generalize pFinal s = pc at *
 generalize nonF no = nb at *
 generalize byB hd 0 4096 = by0 at *
 generalize byB pf 32 32 = by9 at *
 generalize decF hd = dd at *
 generalize decF pf = dd9 at *
 obtain ⟨hs, hc⟩ := dd
 obtain ⟨ds, dc⟩ := dd9
 simp only at HFR HBY HBP hdl hdl9
 have HHD := Lib.hid (fun W h1 h2 => head_any hs (by omega) W h1 h2)
 generalize headF hs = hh at *
 obtain ⟨rt, nd⟩ := hh
 simp only at HHD HFR
 go_enter Tryz.func18, Tryz.ntmps18
 go_wp2_with fail
 try rw [hW0]
 clear hW0
 refine (read_any s (by omega) W0 (HL.out.mx.ext HX0.out)).mono ?_
 rintro e W3 ⟨bm, v, rfl, hbm, hmsg, hown, hx⟩
 rw [HA0.out] at hmsg hown
 rw [hbad0] at hmsg
 have hsb : w.heap.size < bm := Nat.lt_of_lt_of_le (Array.getElem?_eq_some_iff.1 HR0.out).1 hbm
 have HMS := Lib.hid (show Msg bm W3.heap.size (badR s) p0 W3 from ⟨v, hmsg, row2_of_own hown (by omega) (Nat.le_refl _)⟩)
 have HX3 := Lib.hid (ext_trans HX0.out hx)
 have HR3 := Lib.hid (ext_at hx HR0.out)
 have hbq : bm < W3.heap.size := HMS.out.lt
 clear hx hmsg hown HX0 HR0 hbm hbad0
 generalize badR s = b0 at *
 obtain ⟨W4, hW4⟩ : ∃ W4, W3.alloc (.cells #[Str [], Str [], .slice none 0 0, .slice none 0 0] 53) = W4 := ⟨_, rfl⟩
 have hx4 : Ext W3 W4 := by rw [← hW4]; exact Below.alloc (Below.refl _ _) (Nat.le_refl _) _
 have HP := Lib.hid (show PB w w.heap.size bm W3.heap.size 53 [Str [], Str [], .slice none 0 0, .slice none 0 0] [Str [], Str [], .slice none 0 0, .slice none 0 0] b0 p0 W4 from
  ⟨ext_trans HX3.out hx4, HMS.out.ext hx4, by rw [← hW4]; exact Array.getElem?_push_size, ext_at hx4 HR3.out, rfl, hsb, hbq⟩)
 clear hx4 HMS HX3 HR3
 go_wp2_with fail
 try rw [hW4]
 clear hW4
 obtain ⟨q, hq⟩ : ∃ q, W3.heap.size = q := ⟨_, rfl⟩
 rw [hq] at HP hbq ⊢
 clear hq
 have hqf : 1 < q := by omega
 refine (next_any bm q b0 p0 [99] _ HP.out.msg).mono ?_
 rintro e Vx ⟨he, hmx, hzx⟩
 rw [HT1.out] at he
 subst he
 rw [HE1.out] at hmx
 have HP4 := Lib.hid (HP.out.bz hzx hmx)
 clear hmx hzx HP
 obtain ⟨b1, hb9⟩ : ∃ b, (b0 || !hasF [99] p0) = b := ⟨_, rfl⟩
 rw [hb9] at HP4 HFR
 clear hb9
 go_wp2_with fail
 refine Calls.mono (HBY.out _ _ _ _ HP4.out.msg (Nat.le_of_lt HP4.out.lt)) ?_
 rintro e V5 ⟨sv, rfl, hown, hmx, hzx⟩
 obtain ⟨ha1, ha3, hsv, -⟩ := ownz_shape hown
 subst hsv
 have hcv := run_str (P := Tryz.prog) Tryz.underlying25 Tryz.underlying5 Tryz.underlying9 (show SlB V5 _ hs from sl_of_own hown)
 have HP5 := Lib.hid (HP4.out.bz hzx hmx)
 clear hmx hzx HP4 hown
 obtain ⟨b2, hb9⟩ : ∃ b, (b1 || !by0) = b := ⟨_, rfl⟩
 rw [hb9] at HP5 HFR
 clear hb9
 obtain ⟨c0, f0⟩ := HP5.out.cell 0 _ rfl
 go_wp2_with fail
 clear hcv
 have HP6 := Lib.hid (HP5.out.store 0 (Str hs) (cs' := [Str hs, Str [], .slice none 0 0, .slice none 0 0]) rfl)
 clear c0 f0 HP5
 refine (HHD.out _ (HL.out.mx.ext HP6.out.bel) (HL.out.fm.ext HP6.out.bel)).mono ?_
 rintro e V7 ⟨rfl, hx⟩
 have HP7 := Lib.hid (HP6.out.ext hx)
 clear hx HP6
 go_wp2_with fail
 have hm9 := HP7.out.msg
 refine (fine_any bm q b2 rt _ _ hm9).mono ?_
 rintro e Vx ⟨rfl, hmx, hzx⟩
 have HP8 := Lib.hid (HP7.out.bz hzx hmx)
 clear hmx hzx hm9 HP7
 obtain ⟨b3, hb9⟩ : ∃ b, (b2 || !rt) = b := ⟨_, rfl⟩
 rw [hb9] at HP8 HFR
 clear hb9
 go_wp2_with fail
 refine (next_any bm q b3 p1 [114] _ HP8.out.msg).mono ?_
 rintro e Vx ⟨he, hmx, hzx⟩
 rw [HT2.out] at he
 subst he
 rw [HE2.out] at hmx
 have HP9 := Lib.hid (HP8.out.bz hzx hmx)
 clear hmx hzx HP8
 obtain ⟨b4, hb9⟩ : ∃ b, (b3 || !hasF [114] p1) = b := ⟨_, rfl⟩
 rw [hb9] at HP9 HFR
 clear hb9
 go_wp2_with fail
 refine (nonceM_any bm q b4 p2 no nb _ HP9.out.msg HNN.out).mono ?_
 rintro e Vx ⟨rfl, hmx, hzx⟩
 have HPa := Lib.hid (HP9.out.bz hzx hmx)
 clear hmx hzx HP9
 obtain ⟨b5, hb9⟩ : ∃ b, (b4 || !nb) = b := ⟨_, rfl⟩
 rw [hb9] at HPa HFR
 clear hb9
 obtain ⟨c1, f1⟩ := HPa.out.cell 1 _ rfl
 go_wp2_with fail
 have HPb := Lib.hid (HPa.out.store 1 (Str no) (cs' := [Str hs, Str no, .slice none 0 0, .slice none 0 0]) rfl)
 clear c1 f1 HPa
 refine (rest1_any (fun p => valB (p.drop 2)) bm q b5 p2 (by omega) _ HPb.out.msg (Nat.le_of_lt HPb.out.lt) HX2.out (HL.out.fm.ext HPb.out.bel) hqf (by omega) HV.out).mono ?_
 rintro e Vc ⟨xv, rfl, hown, hmc, hzc⟩
 rw [HXS.out] at hown hmc
 rw [HKS.out, hxa] at hmc
 have hxv : ∃ a c, xv = .slice a xs.length c := by
  rcases hown.2 with ⟨hv, h0⟩ | ⟨g, cap, _, hv, _⟩
  ·exact ⟨none, 0, by rw [hv, h0]⟩
  ·exact ⟨_, _, hv⟩
 obtain ⟨xa1, xa3, rfl⟩ := hxv
 have HPc := Lib.hid (HPb.out.bz hzc hmc)
 have HO := Lib.hid (hown.set q 2 (.slice xa1 xs.length xa3) HPb.out.lt)
 have hqb := HPb.out.lt
 obtain ⟨b6, hb9⟩ : ∃ b, (b5 || !xs.all okX) = b := ⟨_, rfl⟩
 rw [hb9] at HPc HFR
 clear hmc hzc HPb hown hb9
 obtain ⟨c2, f2⟩ := HPc.out.cell 2 _ rfl
 go_wp2_with fail
 have HPd := Lib.hid (HPc.out.store 2 (.slice xa1 xs.length xa3) (cs' := [Str hs, Str no, .slice xa1 xs.length xa3, .slice none 0 0]) rfl)
 clear c2 f2 HPc
 obtain ⟨WD, hWD⟩ : ∃ W, Vc.setCell ⟨q, 2, none⟩ (.slice xa1 xs.length xa3) = W := ⟨_, rfl⟩
 rw [hWD] at HPd HO ⊢
 clear hWD
 obtain ⟨BO, hBO⟩ : ∃ B, B = B ∧ q < B ∧ OwnP B (.slice xa1 xs.length xa3) xs WD := ⟨_, rfl, hqb, HO.out⟩
 have HOB := Lib.hid hBO.2.2
 have hqB := hBO.2.1
 clear hBO HO hqb
 go_loopg [43] xs.length (fun gh s43 wx => ∃ k : Nat, k ≤ xs.length ∧ s43 = .int .i64 (k : Int) ∧ gh = xs.length - k ∧ Hid (PB w w.heap.size bm q 53 [Str [], Str [], .slice none 0 0, .slice none 0 0] [Str hs, Str no, .slice xa1 xs.length xa3, .slice none 0 0] (b6 || !notP (xs.take k)) ks wx) ∧ Hid (OwnP BO (.slice xa1 xs.length xa3) xs wx))
 case atStart => exact ⟨0, by omega, rfl, by omega, Lib.hid (by simpa [notP] using HPd.out), HOB⟩
 case round =>
  obtain ⟨k, hk, rfl, rfl, HPR, HOR⟩ := hrel
  by_cases h3 : k < xs.length
  ·have hne : xs ≠ [] := fun e => by rw [e] at h3; simp at h3
   obtain ⟨g, cap, hgv, hgl, hgc⟩ := ownP_at HOR.out hne
   simp only [Value.slice.injEq] at hgv
   obtain ⟨rfl, -, rfl⟩ := hgv
   obtain ⟨p, hp⟩ : ∃ p, xs[k] = p := ⟨_, rfl⟩
   obtain ⟨d0, d1⟩ := hgc k p (by rw [← hp]; exact List.getElem?_eq_getElem h3)
   have hix := index_pr g xs.length xa3 k h3
   have HTS := Lib.hid (show notP (xs.take (k + 1)) = (notP (xs.take k) && (p.take 1 != [112])) by unfold notP; rw [List.take_succ_eq_append_getElem h3, List.all_append, hp]; simp)
   have HT2' := Lib.hid (show (b6 || !notP (xs.take (k + 1))) = ((b6 || !notP (xs.take k)) || !(p.take 1 != [112])) by rw [HTS.out]; cases b6 <;> cases notP (xs.take k) <;> simp)
   generalize (b6 || !notP (xs.take k)) = bk at *
   clear hgc hp hne HTS
   generalize p.take 1 = q1 at *
   generalize p.drop 2 = q2 at *
   obtain ⟨W6, hW6⟩ : ∃ W6, wr.alloc (.cells #[Str q1, Str q2] 64) = W6 := ⟨_, rfl⟩
   have hx6 : Ext wr W6 := by rw [← hW6]; exact Below.alloc (Below.refl _ _) (Nat.le_refl _) _
   have n1 : W6.heap[wr.heap.size]? = some (.cells #[Str q1, Str q2] 64 (0, 0)) := by rw [← hW6]; exact Array.getElem?_push_size
   obtain ⟨k0, k1⟩ := cells2 n1
   have HP6 := Lib.hid (HPR.out.ext hx6)
   have HO6 := Lib.hid (OwnP.ext HOR.out hx6)
   clear hx6 n1
   obtain ⟨qe, hqe⟩ : ∃ b, (q1 == [112]) = b := ⟨_, rfl⟩
   have HQE := Lib.hid (show (q1 != [112]) = !qe by rw [← hqe]; rfl)
   rw [HQE.out] at HT2'
   go_wp2_with fail
   try rw [hW6]
   clear hW6 hqe
   refine (fine_any bm q bk (!qe) _ _ HP6.out.msg).mono ?_
   rintro e V8 ⟨rfl, hm8, hz8⟩
   have HP8 := Lib.hid (HP6.out.bz hz8 hm8)
   have HO8 := Lib.hid (show OwnP BO _ xs V8 from own_bz HO6.out hz8 (by omega))
   clear hm8 hz8 HP6 HO6 HPR HOR d0 d1 k0 k1
   go_wp2_with fail
   go_roundg (xs.length - (k + 1))
   case measure => omega
   case rel => exact ⟨k + 1, by omega, by go_num, rfl, Lib.hid (by rw [HT2'.out]; exact HP8.out), HO8⟩
  ·have hkl' : k = xs.length := by omega
   subst hkl'
   rw [List.take_length] at HPR
   obtain ⟨b7, hb9⟩ : ∃ b, (b6 || !notP xs) = b := ⟨_, rfl⟩
   rw [hb9] at HPR HFR
   clear hb9 h3
   go_wp2_with fail
   refine (next_any bm q b7 ks [112] _ HPR.out.msg).mono ?_
   rintro e Vx ⟨he, hmx, hzx⟩
   rw [HT3.out] at he
   subst he
   have HPe := Lib.hid (HPR.out.bz hzx hmx)
   have HOe := Lib.hid (show OwnP BO _ xs Vx from own_bz HOR.out hzx (by omega))
   clear hmx hzx HPR HOR
   obtain ⟨hk9, hhk9⟩ : ∃ b, hasF [112] ks = b := ⟨_, rfl⟩
   have hgen0 : (b7 || !hk9) = true ∨ nxR [112] ks = [] := by
    cases hk9 with
    | false => left; simp
    | true =>
      right
      unfold nxR
      rw [if_pos hhk9]
      cases ks with
      | nil => rfl
      | cons a r => have : r.length = 0 := by simp at hkl; simp [hkl]
                    simpa using List.eq_nil_of_length_eq_zero this
   rw [hhk9] at HPe HFR
   clear hhk9
   obtain ⟨b7', hb9⟩ : ∃ b, (b7 || !hk9) = b := ⟨_, rfl⟩
   rw [hb9] at HPe HFR hgen0
   have HGN := Lib.hid hgen0
   clear hb9 hgen0
   go_wp2_with fail
   have HQ9 := HPe.out.lt
   refine Calls.mono (HBP.out _ _ _ _ _ HPe.out.msg (Nat.le_of_lt HPe.out.lt)) ?_
   rintro e V9 ⟨sv, rfl, hown, hmx, hzx⟩
   obtain ⟨sa1, sa3, hsv, -⟩ := ownz_shape hown
   subst hsv
   have HPf := Lib.hid (PBS.mk (HPe.out.bz hzx hmx) (Stay.refl q V9))
   have HSO := Lib.hid hown
   have HOf := Lib.hid (show OwnP BO _ xs V9 from own_bz HOe.out hzx (by omega))
   clear hmx hzx HPe hown HOe
   obtain ⟨b8, hb9⟩ : ∃ b, (b7' || !by9) = b := ⟨_, rfl⟩
   have hgen : b8 = true ∨ nxR [112] ks = [] := by
    rcases HGN.out with h | h
    ·left; rw [← hb9, h]; rfl
    ·exact .inr h
   rw [hb9] at HPf HFR
   clear hb9 HGN
   obtain ⟨c3, f3⟩ := HPf.out.cell 3 _ rfl
   have HOg := Lib.hid (OwnP.set HOf.out q 3 (.slice sa1 ds.length sa3) hqB)
   obtain ⟨de, hde⟩ : ∃ b, (nd || denB xs) = b := ⟨_, rfl⟩
   have HDE := Lib.hid hde
   rw [hde] at HFR
   clear hde
   have HGE := Lib.hid hgen
   clear hgen
   have HPg := Lib.hid (HPf.out.store 3 (.slice sa1 ds.length sa3) (cs' := [Str hs, Str no, .slice xa1 xs.length xa3, .slice sa1 ds.length sa3]) rfl)
   have HDN := Lib.hid (fun B W (h : OwnP B (.slice xa1 xs.length xa3) xs W) => denied_any B _ xs (by omega) W h)
   cases nd with
   | true =>
     have hd : de = true := by rw [← HDE.out]; rfl
     clear HDE HDN
     subst hd
     go_wp2_with fail
     clear c3 f3
     have hgen := HGE.out
     refine (ended_gen bm q b8 true _ _ hgen HPg.out.msg).mono ?_
     rintro e V14 ⟨rfl, hw⟩
     subst V14
     have hres := HPg.out.res
     obtain ⟨z0, z1, z2, z3⟩ := cells4s hres
     obtain ⟨l0, l1, l2, l3⟩ := cells4s HPg.out.loc
     obtain ⟨y0, y1, y2, y3⟩ := frozen_b hres
     have HRS := Lib.hid hres; have HBL := Lib.hid HPg.out.bel; have HST := Lib.hid HPg.out.st
     clear hres
     cases b8 with
     | true =>
       have hpc := HFR.out true true rfl rfl
       rw [if_pos rfl] at hpc
       subst hpc
       clear HFR
       go_wp2_with fail
       obtain ⟨Z, hZ, hr, hb⟩ := set4b HRS.out (Str []) (Str []) (.slice none 0 0) (.slice none 0 0)
       rw [hZ]
       refine bodyPost_ret (v := .tuple #[.agg #[Str [], Str [], .slice none 0 0, .slice none 0 0], .int .i64 4]) ?_ rfl ⟨finR0 _ _ _, hb.ext HBL.out⟩
       obtain ⟨d0, d1, d2, d3⟩ := cells4s hr
       clear z0 z1 z2 z3 y0 y1 y2 y3 l0 l1 l2 l3
       simp [results, loadVar, loadCells, Tryz.isAgg53, Tryz.sizeOf53, Tryz.results18, go_sem, d0, d1, d2, d3]
     | false =>
       by_cases hde : true = true
       ·have hpc := HFR.out false true rfl rfl
        rw [if_neg (by simp), if_pos hde] at hpc
        subst hpc
        rw [hde]
        clear HFR
        go_wp2_with fail
        obtain ⟨Z, hZ, hr, hb⟩ := set4b HRS.out (Str []) (Str []) (.slice none 0 0) (.slice none 0 0)
        rw [hZ]
        refine bodyPost_ret (v := .tuple #[.agg #[Str [], Str [], .slice none 0 0, .slice none 0 0], .int .i64 12]) ?_ rfl ⟨finR0 _ _ _, hb.ext HBL.out⟩
        obtain ⟨d0, d1, d2, d3⟩ := cells4s hr
        clear z0 z1 z2 z3 y0 y1 y2 y3 l0 l1 l2 l3
        simp [results, loadVar, loadCells, Tryz.isAgg53, Tryz.sizeOf53, Tryz.results18, go_sem, d0, d1, d2, d3]
       ·try exact absurd rfl hde
        all_goals (
         have hpc := HFR.out false true rfl rfl
         rw [if_neg (by simp), if_neg hde] at hpc
         subst hpc
         simp only [Bool.not_eq_true] at hde
         rw [hde]
         clear HFR
         go_wp2_with fail
         obtain ⟨Z, hZ, hr, hb⟩ := set4b HRS.out (Str hs) (Str no) (.slice xa1 xs.length xa3) (.slice sa1 ds.length sa3)
         rw [hZ]
         have ho1 := own_bz (own_stay HSO.out HST.out HQ9) hb (by omega)
         have ho2 := own_bz HOg.out hb (by omega)
         refine bodyPost_ret (v := .tuple #[.agg #[Str hs, Str no, .slice xa1 xs.length xa3, .slice sa1 ds.length sa3], .int .i64 0]) ?_ rfl ⟨⟨_, _, rfl, sl_of_own ho1, rowP_of_ownP ho2, own_sblk ho1 (by omega) _, by rw [List.length_map]; exact own_rblk ho2 (by omega)⟩, hb.ext HBL.out⟩
         obtain ⟨d0, d1, d2, d3⟩ := cells4s hr
         clear z0 z1 z2 z3 y0 y1 y2 y3 l0 l1 l2 l3
         simp [results, loadVar, loadCells, Tryz.isAgg53, Tryz.sizeOf53, Tryz.results18, go_sem, d0, d1, d2, d3])
   | false =>
     have hd : de = denB xs := by rw [← HDE.out]; rfl
     have HDX := Lib.hid hd
     clear HDE hd
     obtain ⟨c2, f2⟩ := HPf.out.cell 2 _ rfl
     go_wp2_with fail
     clear c3 f3 c2 f2
     refine (HDN.out _ _ HOg.out).mono ?_
     rintro e Ve ⟨he, hx⟩
     rw [← HDX.out] at he
     subst he
     have HPh := Lib.hid (HPg.out.ext hx)
     have HOh := Lib.hid (OwnP.ext HOg.out hx)
     clear hx HPg HOg HDN HDX
     go_wp2_with fail
     have hgen := HGE.out
     refine (ended_gen bm q b8 de _ _ hgen HPh.out.msg).mono ?_
     rintro e V14 ⟨rfl, hw⟩
     subst V14
     have hres := HPh.out.res
     obtain ⟨z0, z1, z2, z3⟩ := cells4s hres
     obtain ⟨l0, l1, l2, l3⟩ := cells4s HPh.out.loc
     obtain ⟨y0, y1, y2, y3⟩ := frozen_b hres
     have HRS := Lib.hid hres; have HBL := Lib.hid HPh.out.bel; have HST := Lib.hid HPh.out.st
     clear hres
     cases b8 with
     | true =>
       have hpc := HFR.out true de rfl rfl
       rw [if_pos rfl] at hpc
       subst hpc
       clear HFR
       go_wp2_with fail
       obtain ⟨Z, hZ, hr, hb⟩ := set4b HRS.out (Str []) (Str []) (.slice none 0 0) (.slice none 0 0)
       rw [hZ]
       refine bodyPost_ret (v := .tuple #[.agg #[Str [], Str [], .slice none 0 0, .slice none 0 0], .int .i64 4]) ?_ rfl ⟨finR0 _ _ _, hb.ext HBL.out⟩
       obtain ⟨d0, d1, d2, d3⟩ := cells4s hr
       clear z0 z1 z2 z3 y0 y1 y2 y3 l0 l1 l2 l3
       simp [results, loadVar, loadCells, Tryz.isAgg53, Tryz.sizeOf53, Tryz.results18, go_sem, d0, d1, d2, d3]
     | false =>
       by_cases hde : de = true
       ·have hpc := HFR.out false de rfl rfl
        rw [if_neg (by simp), if_pos hde] at hpc
        subst hpc
        rw [hde]
        clear HFR
        go_wp2_with fail
        obtain ⟨Z, hZ, hr, hb⟩ := set4b HRS.out (Str []) (Str []) (.slice none 0 0) (.slice none 0 0)
        rw [hZ]
        refine bodyPost_ret (v := .tuple #[.agg #[Str [], Str [], .slice none 0 0, .slice none 0 0], .int .i64 12]) ?_ rfl ⟨finR0 _ _ _, hb.ext HBL.out⟩
        obtain ⟨d0, d1, d2, d3⟩ := cells4s hr
        clear z0 z1 z2 z3 y0 y1 y2 y3 l0 l1 l2 l3
        simp [results, loadVar, loadCells, Tryz.isAgg53, Tryz.sizeOf53, Tryz.results18, go_sem, d0, d1, d2, d3]
       ·try exact absurd rfl hde
        all_goals (
         have hpc := HFR.out false de rfl rfl
         rw [if_neg (by simp), if_neg hde] at hpc
         subst hpc
         simp only [Bool.not_eq_true] at hde
         rw [hde]
         clear HFR
         go_wp2_with fail
         obtain ⟨Z, hZ, hr, hb⟩ := set4b HRS.out (Str hs) (Str no) (.slice xa1 xs.length xa3) (.slice sa1 ds.length sa3)
         rw [hZ]
         have ho1 := own_bz (own_stay HSO.out HST.out HQ9) hb (by omega)
         have ho2 := own_bz HOh.out hb (by omega)
         refine bodyPost_ret (v := .tuple #[.agg #[Str hs, Str no, .slice xa1 xs.length xa3, .slice sa1 ds.length sa3], .int .i64 0]) ?_ rfl ⟨⟨_, _, rfl, sl_of_own ho1, rowP_of_ownP ho2, own_sblk ho1 (by omega) _, by rw [List.length_map]; exact own_rblk ho2 (by omega)⟩, hb.ext HBL.out⟩
         obtain ⟨d0, d1, d2, d3⟩ := cells4s hr
         clear z0 z1 z2 z3 y0 y1 y2 y3 l0 l1 l2 l3
         simp [results, loadVar, loadCells, Tryz.isAgg53, Tryz.sizeOf53, Tryz.results18, go_sem, d0, d1, d2, d3])
end Go.Proofs.YtjkbigecejogdaaGreatDoor
