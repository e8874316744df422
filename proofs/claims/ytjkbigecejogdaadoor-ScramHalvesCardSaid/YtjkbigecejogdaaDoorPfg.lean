/-
  scram.ParseFirst at every text.
-/
import Derived.BigGuardPart
import Derived.Deep.CutBlock
import Derived.Deep.DeepCutAuto
import Derived.Test.YtjkbigecejogdaaDoorRows
import Derived.Test.YtjkbigecejogdaaDoorPbx
import Derived.Test.YtjkbigecejogdaaDoorPrs
import Derived.Test.YtjkbigecejogdaaDoorScd
import Derived.Test.YtjkbigecejogdaaDoorPfl
import Derived.Test.YtjkbigecejogdaaDoorMsv
namespace Go.Proofs.YtjkbigecejogdaaDoor
open Go.RowKit
set_option maxRecDepth 100000
attribute [local go_sem] Oper.semAt_some
set_option linter.unusedVariables false
set_option linter.unusedSimpArgs false
theorem cells5s {Z : World} {s t : Nat} {a0 a1 a2 a3 a4 : Value} (h : Z.heap[s]? = some (.cells [a0, a1, a2, a3, a4].toArray t (0, 0))) : Z.cell? ⟨s, 0, none⟩ = some a0 ∧ Z.cell? ⟨s, 1, none⟩ = some a1 ∧ Z.cell? ⟨s, 2, none⟩ = some a2 ∧ Z.cell? ⟨s, 3, none⟩ = some a3 ∧ Z.cell? ⟨s, 4, none⟩ = some a4 := by
  simp [World.cell?, h]
theorem set5s {W w : World} {t : Nat} {a0 a1 a2 a3 a4 : Value} (h : W.heap[w.heap.size]? = some (.cells [a0, a1, a2, a3, a4].toArray t (0, 0))) (hb : Below w.heap.size w W) (u0 u1 u2 u3 u4 : Value) :
    ∃ Z, ((((W.setCell ⟨w.heap.size, 0, none⟩ u0).setCell ⟨w.heap.size, 1, none⟩ u1).setCell ⟨w.heap.size, 2, none⟩ u2).setCell ⟨w.heap.size, 3, none⟩ u3).setCell ⟨w.heap.size, 4, none⟩ u4 = Z ∧ Z.cell? ⟨w.heap.size, 0, none⟩ = some u0 ∧ Z.cell? ⟨w.heap.size, 1, none⟩ = some u1 ∧ Z.cell? ⟨w.heap.size, 2, none⟩ = some u2 ∧ Z.cell? ⟨w.heap.size, 3, none⟩ = some u3 ∧ Z.cell? ⟨w.heap.size, 4, none⟩ = some u4 ∧ Ext w Z ∧
      ∀ B v ps, w.heap.size < B → OwnP B v ps W → OwnP B v ps Z := by
  have hZ := set_at (j := 4) (u := u4) (set_at (j := 3) (u := u3) (set_at (j := 2) (u := u2) (set_at (j := 1) (u := u1) (set_at (j := 0) (u := u0) h))))
  refine ⟨_, rfl, ?_, ?_, ?_, ?_, ?_, ?_, ?_⟩
  · simp [World.cell?, hZ]
  · simp [World.cell?, hZ]
  · simp [World.cell?, hZ]
  · simp [World.cell?, hZ]
  · simp [World.cell?, hZ]
  · exact Below.setCell (Below.setCell (Below.setCell (Below.setCell (Below.setCell hb (Nat.le_refl _) _) (Nat.le_refl _) _) (Nat.le_refl _) _) (Nat.le_refl _) _) (Nat.le_refl _) _
  · exact fun B v ps hB ho => ((((ho.set _ _ _ hB).set _ _ _ hB).set _ _ _ hB).set _ _ _ hB).set _ _ _ hB
/-- Where attributes end: a piece that is none is bad. -/
def badR (l : List UInt8) : Bool := decide ((attsP l).length < (spl l).length)
def unP (two : List UInt8) : List UInt8 := if two = [] then [] else (unV (Lib.trimPrefix two [97, 61])).1
structure F1 where
  one : List UInt8
  two : List UInt8
  bare : List UInt8
  ok : Bool
  is : Bool
def f1C (s : List UInt8) : F1 := ⟨(Lib.cut s [44]).1, (Lib.cut (Lib.cut s [44]).2.1 [44]).1, (Lib.cut (Lib.cut s [44]).2.1 [44]).2.1, (Lib.cut s [44]).2.2, (Lib.cut (Lib.cut s [44]).2.1 [44]).2.2⟩
def F1.p0 (f : F1) := attsP f.bare
def F1.p1 (f : F1) := nxR [109] f.p0
def F1.p2 (f : F1) := nxR [110] f.p1
def F1.xs (f : F1) := nxR [114] f.p2
def F1.us (f : F1) := nxT [110] f.p1
def F1.no (f : F1) := nxT [114] f.p2
def okX (p : List UInt8) : Bool := okA (fun p => valB (p.drop 2)) p
def F1.b1 (f : F1) : Bool := ((badR f.bare || !(f.ok && f.is)) || !(flF f.one).2) || !whoB f.two
def F1.b2 (f : F1) : Bool := f.b1 || (hasF [109] f.p0 && !valB (nxT [109] f.p0))
def F1.b3 (f : F1) : Bool := ((f.b2 || !hasF [110] f.p1) || !escB f.us)
def F1.bad (f : F1) : Bool := (((f.b3 || !hasF [114] f.p2) || !nonF f.no) || !f.xs.all okX)
def F1.den (f : F1) : Bool := ((flF f.one).1 == [112] || hasF [109] f.p0) || denB f.xs
def F1.code (f : F1) : Int := if f.bad then 4 else if f.den then 12 else 0
/-- What ParseFirst reads. -/
def pFirst (s : List UInt8) : Ms × Int :=
  if 4096 < s.length then (Ms0, 3) else if (f1C s).bad = true then (Ms0, 4) else if (f1C s).den = true then (Ms0, 12)
  else (⟨1, (flF (f1C s).one).1, unP (f1C s).two, (unV (f1C s).us).1, (f1C s).no, (f1C s).xs.map atPr, [], 0, [], [], []⟩, 0)
/-- What ParseFirst answers. -/
def FirstR (B : Nat) (s : List UInt8) (w' : World) (e : Ending) : Prop :=
  ∃ v, e = .returned (.tuple #[.agg #[Str (pFirst s).1.flag, Str (pFirst s).1.authz, Str (pFirst s).1.user, Str (pFirst s).1.nonce, v], .int .i64 (pFirst s).2]) ∧ RowC 2 prC w' v (pFirst s).1.ext ∧ ∀ k, rblk v (pFirst s).1.ext.length k → B ≤ k
set_option maxHeartbeats 8000000 in
theorem ParseFirst_any (s : List UInt8) (hl : s.length ≤ 10000) (w : World) (hM : MaxAt w) (hF : FormsAt w) :
    Calls Tryd.prog 12 #[Str s] w fun e w' => FirstR w.heap.size s w' e ∧ Ext w w' := by
  by_cases hs : 4096 < s.length
  · have hlen : decide ((4096 : Int) < (s.length : Int)) = true := by simp; omega
    obtain ⟨W0, hW0⟩ : ∃ W0, w.alloc (.cells #[Str [], Str [], Str [], Str [], .slice none 0 0] 32) = W0 := ⟨_, rfl⟩
    have x0 : Ext w W0 := by rw [← hW0]; exact Below.alloc (Below.refl _ _) (Nat.le_refl _) _
    have r0 : W0.heap[w.heap.size]? = some (.cells [Str [], Str [], Str [], Str [], .slice none 0 0].toArray 32 (0, 0)) := by rw [← hW0]; exact Array.getElem?_push_size
    obtain ⟨z0, z1, z2, z3, z4⟩ := cells5s r0
    have zf : ∀ j, W0.frozen? ⟨w.heap.size, j, none⟩ = false := fun j => by simp [World.frozen?, r0]
    have f0 := zf 0; have f1 := zf 1; have f2 := zf 2; have f3 := zf 3; have f4 := zf 4
    have HR := Lib.hid r0; have HB := Lib.hid x0
    clear r0 x0 zf hM hF
    go_enter Tryd.func12, Tryd.ntmps12
    go_wp2_with fail
    obtain ⟨Z, hZ, d0, d1, d2, d3, d4, hX, -⟩ := set5s HR.out HB.out (Str []) (Str []) (Str []) (Str []) (.slice none 0 0)
    try rw [hW0]
    rw [hZ]
    refine bodyPost_ret (v := .tuple #[.agg #[Str [], Str [], Str [], Str [], .slice none 0 0], .int .i64 3]) ?_ rfl ⟨⟨.slice none 0 0, by rw [show pFirst s = (Ms0, 3) by unfold pFirst; rw [if_pos hs]]; rfl, by rw [show pFirst s = (Ms0, 3) by unfold pFirst; rw [if_pos hs]]; exact rowP_nil _, nil_rblk⟩, hX⟩
    clear z0 z1 z2 z3 z4 f0 f1 f2 f3 f4
    simp [results, loadVar, loadCells, Tryd.isAgg32, Tryd.sizeOf32, Tryd.results12, go_sem, d0, d1, d2, d3, d4]
  have hs' : s.length ≤ 4096 := by omega
  have hlen : decide ((4096 : Int) < (s.length : Int)) = false := by simp; omega
  -- the pieces
  have HFR := Lib.hid (show ∀ (w' : World) e, ((f1C s).bad = true ∧ e = .returned (.tuple #[.agg #[Str [], Str [], Str [], Str [], .slice none 0 0], .int .i64 4])) ∨ ((f1C s).bad = false ∧ (f1C s).den = true ∧ e = .returned (.tuple #[.agg #[Str [], Str [], Str [], Str [], .slice none 0 0], .int .i64 12])) ∨ ((f1C s).bad = false ∧ (f1C s).den = false ∧ ∃ v, e = .returned (.tuple #[.agg #[Str (flF (f1C s).one).1, Str (unP (f1C s).two), Str (unV (f1C s).us).1, Str (f1C s).no, v], .int .i64 0]) ∧ RowC 2 prC w' v ((f1C s).xs.map atPr) ∧ ∀ k, rblk v ((f1C s).xs.map atPr).length k → w.heap.size ≤ k) → FirstR w.heap.size s w' e from fun w' e h => by
    unfold FirstR
    have hp : pFirst s = if (f1C s).bad = true then (Ms0, 4) else if (f1C s).den = true then (Ms0, 12) else (⟨1, (flF (f1C s).one).1, unP (f1C s).two, (unV (f1C s).us).1, (f1C s).no, (f1C s).xs.map atPr, [], 0, [], [], []⟩, 0) := by unfold pFirst; rw [if_neg hs]
    rcases h with ⟨h1, h2⟩ | ⟨h1, h2, h3⟩ | ⟨h1, h2, h3⟩
    · rw [hp, if_pos h1]
      exact ⟨_, h2, rowP_nil _, nil_rblk⟩
    · rw [hp, if_neg (by rw [h1]; simp), if_pos h2]
      exact ⟨_, h3, rowP_nil _, nil_rblk⟩
    · rw [hp, if_neg (by rw [h1]; simp), if_neg (by rw [h2]; simp)]
      exact h3)
  have hc1 := cut_len s
  have HC1 := Lib.hid (fun W (h : MaxAt W) => cut_gen s (by omega) W h)
  have HFC := Lib.hid (show f1C s = ⟨(Lib.cut s [44]).1, (Lib.cut (Lib.cut s [44]).2.1 [44]).1, (Lib.cut (Lib.cut s [44]).2.1 [44]).2.1, (Lib.cut s [44]).2.2, (Lib.cut (Lib.cut s [44]).2.1 [44]).2.2⟩ from rfl)
  generalize f1C s = F at *
  generalize Lib.cut s [44] = t1 at *
  obtain ⟨one, r1, ok⟩ := t1
  simp only at hc1 HC1 HFC
  have hc2 := cut_len r1
  have HC2 := Lib.hid (fun W (h : MaxAt W) => cut_gen r1 (by omega) W h)
  generalize Lib.cut r1 [44] = t2 at *
  obtain ⟨two, bare, is⟩ := t2
  simp only at hc2 HC2 HFC
  have hFe := HFC.out
  subst hFe
  clear HFC
  simp only at HFR
  have ha0 : ∀ p ∈ attsP bare, p.length ≤ 4096 ∧ 2 ≤ p.length := fun p hp => ⟨by have := spl_mem_len _ _ (atts_mem hp).1; omega, isAt_len (atts_mem hp).2⟩
  have hxl0 : (attsP bare).length ≤ 5000 := by have h1 := spl_len bare; have h2 := tw_le isAt (spl bare); unfold attsP; omega
  have HFL := Lib.hid (fun W => flag_any one (by omega) W)
  have hbad0 : decide ((attsP bare).length < (spl bare).length) = badR bare := rfl
  -- names for what the parts are
  obtain ⟨p0, hp0⟩ : ∃ p, attsP bare = p := ⟨_, rfl⟩
  obtain ⟨p1, hp1⟩ : ∃ p, nxR [109] p0 = p := ⟨_, rfl⟩
  obtain ⟨p2, hp2⟩ : ∃ p, nxR [110] p1 = p := ⟨_, rfl⟩
  obtain ⟨xs, hp3⟩ : ∃ p, nxR [114] p2 = p := ⟨_, rfl⟩
  obtain ⟨us, hus⟩ : ∃ p, nxT [110] p1 = p := ⟨_, rfl⟩
  obtain ⟨no, hno⟩ : ∃ p, nxT [114] p2 = p := ⟨_, rfl⟩
  have hq1 : ∀ p ∈ p1, p.length ≤ 4096 ∧ 2 ≤ p.length := fun p hp => ha0 p (by rw [hp0]; exact nxR_mem _ _ p (by rw [hp1]; exact hp))
  have hq2 : ∀ p ∈ p2, p.length ≤ 4096 ∧ 2 ≤ p.length := fun p hp => hq1 p (nxR_mem _ _ p (by rw [hp2]; exact hp))
  have hq3 : ∀ p ∈ xs, p.length ≤ 4096 ∧ 2 ≤ p.length := fun p hp => hq2 p (nxR_mem _ _ p (by rw [hp3]; exact hp))
  have hul : us.length ≤ 4096 := by rw [← hus]; exact nxT_len _ _ _ fun p hp => (hq1 p hp).1
  have hnl : no.length ≤ 4096 := by rw [← hno]; exact nxT_len _ _ _ fun p hp => (hq2 p hp).1
  have hml : (nxT [109] p0).length ≤ 4096 := nxT_len _ _ _ fun p hp => (ha0 p (by rw [hp0]; exact hp)).1
  have hxl : xs.length ≤ 5000 := by
    have h1 := nxR_len [109] p0; have h2 := nxR_len [110] p1; have h3 := nxR_len [114] p2
    rw [hp1] at h1; rw [hp2] at h2; rw [hp3] at h3; rw [hp0] at hxl0; omega
  have HX2 := Lib.hid (fun (p : List UInt8) (hp : p ∈ xs) => (show 1 ≤ p.length by have := (hq3 p hp).2; omega))
  have HV := Lib.hid (fun p (hp : p ∈ xs) W (hW : FormsAt W) => svalue_any (p.drop 2) (by have := (hq3 p hp).1; simp; omega) W hW)
  have HE1 := Lib.hid hp1; have HE2 := Lib.hid hp2; have HE3 := Lib.hid hp3; have HUS := Lib.hid hus; have HNO := Lib.hid hno; have HP0 := Lib.hid hp0
  have HFR2 := Lib.hid (show ∀ (bad den : Bool), bad = (((((((((((badR bare || !(ok && is)) || !(flF one).2) || !whoB two) || (hasF [109] p0 && !valB (nxT [109] p0))) || !hasF [110] p1) || !escB us)) || !hasF [114] p2) || !nonF no) || !xs.all okX)) → den = (((flF one).1 == [112] || hasF [109] p0) || denB xs) → ∀ (w' : World) e, (bad = true ∧ e = .returned (.tuple #[.agg #[Str [], Str [], Str [], Str [], .slice none 0 0], .int .i64 4])) ∨ (bad = false ∧ den = true ∧ e = .returned (.tuple #[.agg #[Str [], Str [], Str [], Str [], .slice none 0 0], .int .i64 12])) ∨ (bad = false ∧ den = false ∧ ∃ v, e = .returned (.tuple #[.agg #[Str (flF one).1, Str (unP two), Str (unV us).1, Str no, v], .int .i64 0]) ∧ RowC 2 prC w' v (xs.map atPr) ∧ ∀ k, rblk v (xs.map atPr).length k → w.heap.size ≤ k) → FirstR w.heap.size s w' e from fun bad den hb hd w' e h => by
    subst hb hd
    refine HFR.out w' e ?_
    simp only [F1.bad, F1.den, F1.b3, F1.b2, F1.b1, F1.xs, F1.no, F1.us, F1.p2, F1.p1, F1.p0, hp0, hp1, hp2, hp3, hus, hno]
    exact h)
  clear HFR hp1 hp2 hp3 hus hno hq1 hq2 hq3 ha0 hp0
  have hfg : 1 < w.heap.size := by obtain ⟨fr, hf⟩ := hF; exact (Array.getElem?_eq_some_iff.1 hf).1
  have HM := Lib.hid hM; have HF := Lib.hid hF
  have HES := Lib.hid (fun W (h : FormsAt W) => escaped_any us (by omega) W h)
  have HNN := Lib.hid (fun W => nonce_scram no (by omega) W)
  have HVM := Lib.hid (fun W (h : FormsAt W) => svalue_any (nxT [109] p0) (by omega) W h)
  have hxa : okA (fun p => valB (p.drop 2)) = okX := rfl
  clear hM hF
  generalize escB us = eb at *
  generalize (unV us).1 = un at *
  generalize nonF no = nb at *
  generalize valB (nxT [109] p0) = vm at *
  generalize flF one = fl at *
  obtain ⟨f, rt⟩ := fl
  simp only at HFL HFR2
  obtain ⟨W0, hW0⟩ : ∃ W0, w.alloc (.cells #[Str [], Str [], Str [], Str [], .slice none 0 0] 32) = W0 := ⟨_, rfl⟩
  have x0 : Ext w W0 := by rw [← hW0]; exact Below.alloc (Below.refl _ _) (Nat.le_refl _) _
  have r0 : W0.heap[w.heap.size]? = some (.cells #[Str [], Str [], Str [], Str [], .slice none 0 0] 32 (0, 0)) := by rw [← hW0]; exact Array.getElem?_push_size
  have HX0 := Lib.hid x0; have HR0 := Lib.hid r0
  clear x0 r0
  go_enter Tryd.func12, Tryd.ntmps12
  go_wp2_with fail
  try rw [hW0]
  clear hW0
  refine (HC1.out W0 (HM.out.ext HX0.out)).mono ?_
  rintro e W1 ⟨rfl, hx⟩
  have HX1 := Lib.hid (ext_trans HX0.out hx); have HR1 := Lib.hid (ext_at hx HR0.out)
  clear hx HX0 HR0
  go_wp2_with fail
  refine (HC2.out W1 (HM.out.ext HX1.out)).mono ?_
  rintro e W2 ⟨rfl, hx⟩
  have HX2' := Lib.hid (ext_trans HX1.out hx); have HR2 := Lib.hid (ext_at hx HR1.out)
  clear hx HX1 HR1
  go_wp2_with fail
  refine (read_any bare (by omega) W2 (HM.out.ext HX2'.out)).mono ?_
  rintro e W3 ⟨bm, v, rfl, hbm, hmsg, hown, hx⟩
  rw [HP0.out] at hmsg hown
  rw [HP0.out] at hbad0
  rw [hbad0] at hmsg
  have hsb : w.heap.size < bm := Nat.lt_of_lt_of_le (Array.getElem?_eq_some_iff.1 HR2.out).1 hbm
  have HMS := Lib.hid (show Msg bm W3.heap.size (badR bare) _ W3 from ⟨v, hmsg, row2_of_own hown (by rw [HP0.out] at hxl0; omega) (Nat.le_refl _)⟩)
  have HX3 := Lib.hid (ext_trans HX2'.out hx)
  have HR3 := Lib.hid (ext_at hx HR2.out)
  have hbq : bm < W3.heap.size := HMS.out.lt
  clear hx hmsg hown HX2' HR2 hbm hbad0
  generalize badR bare = b0 at *
  have HB0 := Lib.hid (rfl : b0 = b0)
  obtain ⟨oi, hoi⟩ : ∃ oi, (ok && is) = oi := ⟨_, rfl⟩
  have HOI := Lib.hid hoi
  rw [hoi] at HFR2
  clear hoi
  go_upto_region 6 with fail
  go_cut [] from 34 (fun wx => Msg bm W3.heap.size (b0 || !oi) p0 wx ∧ Bz bm W3 wx)
  case first =>
    have HK := Lib.hid (fun c (h : oi = c) W (hm : Msg bm W3.heap.size b0 p0 W) => (show Calls Tryd.prog 27 #[.pointer (some ⟨bm, 0, none⟩), .bool c] W fun e w' => e = .returned (.tuple #[]) ∧ Msg bm W3.heap.size (b0 || !oi) p0 w' ∧ Bz bm W w' by rw [h]; exact fine_any bm _ b0 c _ _ hm))
    cases ok with
    | false =>
      have hoi2 := HOI.out.symm
      clear HOI
      go_wp2_with fail
      refine (HK.out false (by rw [hoi2]; rfl) _ HMS.out).mono ?_
      rintro e W4 ⟨rfl, hm, hz⟩
      have HMZ := Lib.hid (And.intro hm hz)
      clear hm hz
      go_wp2
      go_meet
      exact HMZ.out
    | true =>
      have hoi2 := HOI.out.symm
      clear HOI
      go_wp2_with fail
      refine (HK.out is (by rw [hoi2]; rfl) _ HMS.out).mono ?_
      rintro e W4 ⟨rfl, hm, hz⟩
      have HMZ := Lib.hid (And.intro hm hz)
      clear hm hz
      go_wp2
      go_meet
      exact HMZ.out
  case rest =>
  obtain ⟨hm4, hz4⟩ := hcut
  have hsz4 := hz4.size
  have HMS4 := Lib.hid (hm4.mono hsz4)
  have HX4 := Lib.hid (hz4.below HX3.out (by omega) (Nat.le_refl _))
  have HR4 := Lib.hid ((hz4.block _ (Array.getElem?_eq_some_iff.1 HR3.out).1 (by omega)).trans HR3.out)
  clear hm4 hz4 HMS HX3 HR3 HB0
  obtain ⟨b1, hb1⟩ : ∃ b, (b0 || !oi) = b := ⟨_, rfl⟩
  rw [hb1] at HMS4 HFR2
  clear hb1 HOI
  obtain ⟨W5, hW5⟩ : ∃ W5, wc.alloc (.cells #[Str [], Str [], Str [], Str [], .slice none 0 0] 32) = W5 := ⟨_, rfl⟩
  have hx5 : Ext wc W5 := by rw [← hW5]; exact Below.alloc (Below.refl _ _) (Nat.le_refl _) _
  have HP := Lib.hid (show PB w w.heap.size bm wc.heap.size 32 [Str [], Str [], Str [], Str [], .slice none 0 0] [Str [], Str [], Str [], Str [], .slice none 0 0] b1 _ W5 from
    ⟨ext_trans HX4.out hx5, HMS4.out.ext hx5, by rw [← hW5]; exact Array.getElem?_push_size, ext_at hx5 HR4.out, rfl, hsb, by omega⟩)
  have hbq4 : bm < wc.heap.size := by omega
  clear hx5 HMS4 HX4 HR4
  go_wp2_with fail
  try rw [hW5]
  clear hW5
  obtain ⟨q, hq⟩ : ∃ q, wc.heap.size = q := ⟨_, rfl⟩
  rw [hq] at HP hbq4 ⊢
  clear hq
  have hqf : 1 < q := by omega
  refine (HFL.out _).mono ?_
  rintro e V0 ⟨rfl, hw⟩
  subst V0
  obtain ⟨c0, f0⟩ := HP.out.cell 0 _ rfl
  go_wp2_with fail
  have HP1 := Lib.hid (HP.out.store 0 (Str f) (cs' := [Str f, Str [], Str [], Str [], .slice none 0 0]) rfl)
  clear c0 f0 HP
  refine (fine_any bm q b1 rt _ _ HP1.out.msg).mono ?_
  rintro e V2 ⟨rfl, hm, hz⟩
  have HP2 := Lib.hid (HP1.out.bz hz hm)
  clear hm hz HP1
  obtain ⟨b2, hb2⟩ : ∃ b, (b1 || !rt) = b := ⟨_, rfl⟩
  rw [hb2] at HP2 HFR2
  clear hb2
  obtain ⟨ut, hut⟩ : ∃ u, unP two = u := ⟨_, rfl⟩
  obtain ⟨wb, hwb⟩ : ∃ u, whoB two = u := ⟨_, rfl⟩
  have HUT := Lib.hid hut; have HWB := Lib.hid hwb
  rw [hut, hwb] at HFR2
  clear hut hwb
  obtain ⟨c0, f0⟩ := HP2.out.cell 0 _ rfl
  obtain ⟨t2, ht2⟩ : ∃ b, (two == []) = b := ⟨_, rfl⟩
  have HT2 := Lib.hid ht2
  go_upto_if 50 with fail
  clear ht2
  go_cut [6, 12, 13] from 50 (fun s6 s12 s13 wx => PB w w.heap.size bm q 32 [Str [], Str [], Str [], Str [], .slice none 0 0] [Str f, Str ut, Str [], Str [], .slice none 0 0] (b2 || !wb) p0 wx)
  case first =>
    cases t2 with
    | true =>
      have h2 : two = [] := by have := HT2.out; simpa using this
      have hu : ut = [] := by rw [← HUT.out, unP, if_pos h2]
      have hb : wb = true := by rw [← HWB.out]; simp [whoB, h2]
      subst hu hb
      clear HUT HWB HT2 h2
      go_wp2
      go_meet
      simpa using HP2.out
    | false =>
      have h2 : two ≠ [] := by have := HT2.out; simpa using this
      have hu : (unV (Lib.trimPrefix two [97, 61])).1 = ut := by rw [← HUT.out, unP, if_neg h2]
      have hb : (Lib.hasPrefix two [97, 61] && escB (Lib.trimPrefix two [97, 61])) = wb := by rw [← HWB.out]; simp [whoB, h2]
      have htl := strim_len two [97, 61]
      have HPR := Lib.hid (fun W => pre_any two 97 61 W)
      have HE := Lib.hid (fun W (h : FormsAt W) => escaped_any (Lib.trimPrefix two [97, 61]) (by omega) W h)
      rw [hu] at HE
      have HBB := Lib.hid hb
      clear HUT HWB HT2 h2 hu hb
      generalize Lib.trimPrefix two [97, 61] = who at *
      generalize Lib.hasPrefix two [97, 61] = ours at *
      generalize escB who = named at *
      go_wp2_with fail
      refine (HPR.out _).mono ?_
      rintro e V3 ⟨rfl, hw⟩
      subst V3
      go_wp2_with fail
      refine (HE.out _ (HF.out.ext HP2.out.bel)).mono ?_
      rintro e V4 ⟨rfl, hx⟩
      have HP3 := Lib.hid (HP2.out.ext hx)
      clear hx HP2 c0 f0
      obtain ⟨c1, f1⟩ := HP3.out.cell 1 _ rfl
      have HK := Lib.hid (fun c (h : wb = c) W (hm : PB w w.heap.size bm q 32 [Str [], Str [], Str [], Str [], .slice none 0 0] [Str f, Str ut, Str [], Str [], .slice none 0 0] b2 p0 W) => (show Calls Tryd.prog 27 #[.pointer (some ⟨bm, 0, none⟩), .bool c] W fun e w' => e = .returned (.tuple #[]) ∧ PB w w.heap.size bm q 32 [Str [], Str [], Str [], Str [], .slice none 0 0] [Str f, Str ut, Str [], Str [], .slice none 0 0] (b2 || !wb) p0 w' by
        rw [h]; exact (fine_any bm q b2 c _ _ hm.msg).mono fun e w' ⟨he, h1, h2⟩ => ⟨he, hm.bz h2 h1⟩))
      cases ours with
      | false =>
        go_wp2_with fail
        refine (HK.out false (by rw [← HBB.out]; rfl) _ (HP3.out.store 1 (Str ut) (cs' := [Str f, Str ut, Str [], Str [], .slice none 0 0]) rfl)).mono ?_
        rintro e V5 ⟨rfl, hm⟩
        have HM5 := Lib.hid hm
        clear hm
        go_wp2
        go_meet
        exact HM5.out
      | true =>
        go_wp2_with fail
        refine (HK.out named (by rw [← HBB.out]; rfl) _ (HP3.out.store 1 (Str ut) (cs' := [Str f, Str ut, Str [], Str [], .slice none 0 0]) rfl)).mono ?_
        rintro e V5 ⟨rfl, hm⟩
        have HM5 := Lib.hid hm
        clear hm
        go_wp2
        go_meet
        exact HM5.out
  case rest =>
  have HP3 := Lib.hid hcut
  clear hcut HP2 HUT HWB c0 f0
  obtain ⟨b3, hb3⟩ : ∃ b, (b2 || !wb) = b := ⟨_, rfl⟩
  rw [hb3] at HP3 HFR2
  clear hb3
  obtain ⟨c0, f0⟩ := HP3.out.cell 0 _ rfl
  obtain ⟨pf, hpf⟩ : ∃ b, (f == [112]) = b := ⟨_, rfl⟩
  rw [hpf] at HFR2
  obtain ⟨hm, hhm⟩ : ∃ b, hasF [109] p0 = b := ⟨_, rfl⟩
  rw [hhm] at HFR2
  have HPF := Lib.hid hpf; have HHM := Lib.hid hhm
  go_wp2_with fail
  refine (has_any bm q _ _ [109] _ HP3.out.msg).mono ?_
  rintro e V3 ⟨rfl, hw⟩
  subst V3
  clear hpf
  go_upto_if 72 with fail
  try clear hhm
  go_cut [14] from 73 (fun s14 wx => s14 = .bool (pf || hm) ∧ PB w w.heap.size bm q 32 [Str [], Str [], Str [], Str [], .slice none 0 0] [Str f, Str ut, Str [], Str [], .slice none 0 0] (b3 || (hm && !vm)) p1 wx)
  case first =>
    cases hm with
    | true =>
      have HR109 := Lib.hid (show nxR [109] p0 = p1 from HE1.out)
      go_wp2_with fail
      refine (next_any bm q b3 p0 [109] _ HP3.out.msg).mono ?_
      rintro e V4 ⟨rfl, hm4, hz4⟩
      rw [HR109.out, HHM.out] at hm4
      have HP4 := Lib.hid (HP3.out.bz hz4 hm4)
      clear hm4 hz4 HP3 c0 f0
      go_wp2_with fail
      refine (HVM.out _ (HF.out.ext HP4.out.bel)).mono ?_
      rintro e V5 ⟨rfl, hx⟩
      have HP5 := Lib.hid (HP4.out.ext hx)
      clear hx HP4
      go_wp2_with fail
      refine (fine_any bm q (b3 || !true) vm _ _ HP5.out.msg).mono ?_
      rintro e V6 ⟨rfl, hm6, hz6⟩
      have HP6 := Lib.hid (HP5.out.bz hz6 hm6)
      clear hm6 hz6 HP5
      go_wp2
      go_meet
      exact ⟨by simp, by simpa using HP6.out⟩
    | false =>
      have hr : p0 = p1 := by rw [← HE1.out]; unfold nxR; rw [HHM.out]; simp
      have HP4 := Lib.hid (show PB w w.heap.size bm q 32 [Str [], Str [], Str [], Str [], .slice none 0 0] [Str f, Str ut, Str [], Str [], .slice none 0 0] b3 p1 _ by rw [← hr]; exact HP3.out)
      clear hr HP3 c0 f0
      go_wp2
      go_meet
      exact ⟨by simp, by simpa using HP4.out⟩
  case rest =>
  obtain ⟨rfl, hpb⟩ := hcut
  have HP4 := Lib.hid hpb
  clear hpb HP3 c0 f0 HPF HHM
  obtain ⟨b4, hb4⟩ : ∃ b, (b3 || (hm && !vm)) = b := ⟨_, rfl⟩
  rw [hb4] at HP4 HFR2
  clear hb4
  obtain ⟨nd, hnd⟩ : ∃ b, (pf || hm) = b := ⟨_, rfl⟩
  rw [hnd] at HFR2 ⊢
  clear hnd
  go_wp2_with fail
  refine (next_any bm q b4 p1 [110] _ HP4.out.msg).mono ?_
  rintro e V5 ⟨he, hm5, hz5⟩
  rw [HUS.out] at he
  subst he
  rw [HE2.out] at hm5
  have HP5 := Lib.hid (HP4.out.bz hz5 hm5)
  clear hm5 hz5 HP4
  obtain ⟨b5, hb5⟩ : ∃ b, (b4 || !hasF [110] p1) = b := ⟨_, rfl⟩
  rw [hb5] at HP5 HFR2
  clear hb5
  go_wp2_with fail
  refine (HES.out _ (HF.out.ext HP5.out.bel)).mono ?_
  rintro e V6 ⟨rfl, hx⟩
  have HP6 := Lib.hid (HP5.out.ext hx)
  clear hx HP5
  obtain ⟨c2, f2⟩ := HP6.out.cell 2 _ rfl
  go_wp2_with fail
  have HP7 := Lib.hid (HP6.out.store 2 (Str un) (cs' := [Str f, Str ut, Str un, Str [], .slice none 0 0]) rfl)
  clear c2 f2 HP6
  refine (fine_any bm q b5 eb _ _ HP7.out.msg).mono ?_
  rintro e V8 ⟨rfl, hm8, hz8⟩
  have HP8 := Lib.hid (HP7.out.bz hz8 hm8)
  clear hm8 hz8 HP7
  obtain ⟨b6, hb6⟩ : ∃ b, (b5 || !eb) = b := ⟨_, rfl⟩
  rw [hb6] at HP8 HFR2
  clear hb6
  go_wp2_with fail
  refine (next_any bm q b6 p2 [114] _ HP8.out.msg).mono ?_
  rintro e V9 ⟨he, hm9, hz9⟩
  rw [HNO.out] at he
  subst he
  rw [HE3.out] at hm9
  have HP9 := Lib.hid (HP8.out.bz hz9 hm9)
  clear hm9 hz9 HP8
  obtain ⟨b7, hb7⟩ : ∃ b, (b6 || !hasF [114] p2) = b := ⟨_, rfl⟩
  rw [hb7] at HP9 HFR2
  clear hb7
  go_wp2_with fail
  refine (nonceM_any bm q b7 xs no nb _ HP9.out.msg HNN.out).mono ?_
  rintro e Va ⟨rfl, hma, hza⟩
  have HPa := Lib.hid (HP9.out.bz hza hma)
  clear hma hza HP9
  obtain ⟨b8, hb8⟩ : ∃ b, (b7 || !nb) = b := ⟨_, rfl⟩
  rw [hb8] at HPa HFR2
  clear hb8
  obtain ⟨c3, f3⟩ := HPa.out.cell 3 _ rfl
  go_wp2_with fail
  have HPb := Lib.hid (HPa.out.store 3 (Str no) (cs' := [Str f, Str ut, Str un, Str no, .slice none 0 0]) rfl)
  clear c3 f3 HPa
  refine (rest_any (fun p => valB (p.drop 2)) bm q b8 xs [] (by simpa using (show xs.length ≤ 100000 by omega)) _ (by simpa using HPb.out.msg) (Nat.le_of_lt HPb.out.lt) HX2.out (HF.out.ext HPb.out.bel) hqf (by omega) HV.out).mono ?_
  rintro e Vc ⟨xv, rfl, hown, hmc, hzc⟩
  have hxv : ∃ a n c, xv = .slice a n c := by
    rcases hown.2 with ⟨hv, h0⟩ | ⟨g, cap, _, hv, _⟩
    · exact ⟨_, _, _, hv⟩
    · exact ⟨_, _, _, hv⟩
  obtain ⟨xa1, xa2, xa3, rfl⟩ := hxv
  rw [hxa] at hmc
  have HPc := Lib.hid (HPb.out.bz hzc hmc)
  have HO := Lib.hid (hown.set q 4 (.slice xa1 xa2 xa3) HPb.out.lt)
  have hqb := HPb.out.lt
  obtain ⟨b9, hb9⟩ : ∃ b, (b8 || !xs.all okX) = b := ⟨_, rfl⟩
  rw [hb9] at HPc HFR2
  clear hmc hzc HPb hown hb9
  obtain ⟨c4, f4⟩ := HPc.out.cell 4 _ rfl
  obtain ⟨dx, hdx⟩ : ∃ b, denB xs = b := ⟨_, rfl⟩
  obtain ⟨de, hde⟩ : ∃ b, (nd || dx) = b := ⟨_, rfl⟩
  have HDX := Lib.hid hdx
  rw [hdx, hde] at HFR2
  have HDE := Lib.hid hde
  clear hdx hde
  have HPd := Lib.hid (HPc.out.store 4 (.slice xa1 xa2 xa3) (cs' := [Str f, Str ut, Str un, Str no, .slice xa1 xa2 xa3]) rfl)
  have HDN := Lib.hid (fun B W (h : OwnP B (.slice xa1 xa2 xa3) xs W) => denied_any B _ xs (by omega) W h)
  cases nd with
  | true =>
    have hd : de = true := by rw [← HDE.out]; rfl
    clear HDE HDX HDN
    subst hd
    go_wp2_with fail
    clear c4 f4
    refine (ended_any bm q b9 true _ HPd.out.msg).mono ?_
    rintro e Vn ⟨rfl, hw⟩
    subst Vn
    have hbel := HPd.out.bel
    have hres := HPd.out.res
    have hsz := HPd.out.hs
    obtain ⟨z0, z1, z2, z3, z4⟩ := cells5s hres
    obtain ⟨l0, l1, l2, l3, l4⟩ := cells5s HPd.out.loc
    have zf : ∀ (j : Nat) (W : World), W.heap[w.heap.size]? = some (.cells [Str [], Str [], Str [], Str [], .slice none 0 0].toArray 32 (0, 0)) → W.frozen? ⟨w.heap.size, j, none⟩ = false := fun j W h => by simp [World.frozen?, h]
    have y0 := zf 0 _ hres; have y1 := zf 1 _ hres; have y2 := zf 2 _ hres; have y3 := zf 3 _ hres; have y4 := zf 4 _ hres
    have HRS := Lib.hid hres; have HBL := Lib.hid hbel
    clear zf hres hbel hsz
    cases b9 with
    | true =>
      go_wp2_with fail
      obtain ⟨Z, hZ, d0, d1, d2, d3, d4, hX, -⟩ := set5s HRS.out HBL.out (Str []) (Str []) (Str []) (Str []) (.slice none 0 0)
      rw [hZ]
      refine bodyPost_ret (v := .tuple #[.agg #[Str [], Str [], Str [], Str [], .slice none 0 0], .int .i64 4]) ?_ rfl ⟨HFR2.out true true rfl rfl _ _ (.inl ⟨rfl, rfl⟩), hX⟩
      clear z0 z1 z2 z3 z4 l0 l1 l2 l3 l4 y0 y1 y2 y3 y4
      simp [results, loadVar, loadCells, Tryd.isAgg32, Tryd.sizeOf32, Tryd.results12, go_sem, d0, d1, d2, d3, d4]
    | false =>
      have HDQ := Lib.hid (rfl : true = true)
      by_cases hde : true = true
      · rw [hde] at HFR2 ⊢
        go_wp2_with fail
        obtain ⟨Z, hZ, d0, d1, d2, d3, d4, hX, -⟩ := set5s HRS.out HBL.out (Str []) (Str []) (Str []) (Str []) (.slice none 0 0)
        rw [hZ]
        refine bodyPost_ret (v := .tuple #[.agg #[Str [], Str [], Str [], Str [], .slice none 0 0], .int .i64 12]) ?_ rfl ⟨HFR2.out false true rfl rfl _ _ (.inr (.inl ⟨rfl, rfl, rfl⟩)), hX⟩
        clear z0 z1 z2 z3 z4 l0 l1 l2 l3 l4 y0 y1 y2 y3 y4
        simp [results, loadVar, loadCells, Tryd.isAgg32, Tryd.sizeOf32, Tryd.results12, go_sem, d0, d1, d2, d3, d4]
      · try exact absurd rfl hde
        all_goals (
          simp only [Bool.not_eq_true] at hde
          rw [hde] at HFR2 ⊢
          go_wp2_with fail
          obtain ⟨Z, hZ, d0, d1, d2, d3, d4, hX, hO⟩ := set5s HRS.out HBL.out (Str f) (Str ut) (Str un) (Str no) (.slice xa1 xa2 xa3)
          rw [hZ]
          have hoz := hO _ _ _ (show w.heap.size < _ from by have := hsb; omega) HO.out
          refine bodyPost_ret (v := .tuple #[.agg #[Str f, Str ut, Str un, Str no, .slice xa1 xa2 xa3], .int .i64 0]) ?_ rfl ⟨HFR2.out false false rfl rfl _ _ (.inr (.inr ⟨rfl, rfl, _, rfl, rowP_of_ownP hoz, by rw [List.length_map]; exact own_rblk hoz (by have := hsb; omega)⟩)), hX⟩
          clear z0 z1 z2 z3 z4 l0 l1 l2 l3 l4 y0 y1 y2 y3 y4
          simp [results, loadVar, loadCells, Tryd.isAgg32, Tryd.sizeOf32, Tryd.results12, go_sem, d0, d1, d2, d3, d4])
  | false =>
    have hd : de = dx := by rw [← HDE.out]; rfl
    subst hd
    clear HDE
    go_wp2_with fail
    clear c4 f4
    refine (HDN.out _ _ HO.out).mono ?_
    rintro e Ve ⟨he, hx⟩
    rw [HDX.out] at he
    subst he
    have HPe := Lib.hid (HPd.out.ext hx)
    have HOe := Lib.hid (OwnP.ext HO.out hx)
    clear hx HPd HO HDN HDX
    go_wp2_with fail
    refine (ended_any bm q b9 de _ HPe.out.msg).mono ?_
    rintro e Vn ⟨rfl, hw⟩
    subst Vn
    have hbel := HPe.out.bel
    have hres := HPe.out.res
    have hsz := HPe.out.hs
    obtain ⟨z0, z1, z2, z3, z4⟩ := cells5s hres
    obtain ⟨l0, l1, l2, l3, l4⟩ := cells5s HPe.out.loc
    have zf : ∀ (j : Nat) (W : World), W.heap[w.heap.size]? = some (.cells [Str [], Str [], Str [], Str [], .slice none 0 0].toArray 32 (0, 0)) → W.frozen? ⟨w.heap.size, j, none⟩ = false := fun j W h => by simp [World.frozen?, h]
    have y0 := zf 0 _ hres; have y1 := zf 1 _ hres; have y2 := zf 2 _ hres; have y3 := zf 3 _ hres; have y4 := zf 4 _ hres
    have HRS := Lib.hid hres; have HBL := Lib.hid hbel
    clear zf hres hbel hsz
    cases b9 with
    | true =>
      go_wp2_with fail
      obtain ⟨Z, hZ, d0, d1, d2, d3, d4, hX, -⟩ := set5s HRS.out HBL.out (Str []) (Str []) (Str []) (Str []) (.slice none 0 0)
      rw [hZ]
      refine bodyPost_ret (v := .tuple #[.agg #[Str [], Str [], Str [], Str [], .slice none 0 0], .int .i64 4]) ?_ rfl ⟨HFR2.out true de rfl rfl _ _ (.inl ⟨rfl, rfl⟩), hX⟩
      clear z0 z1 z2 z3 z4 l0 l1 l2 l3 l4 y0 y1 y2 y3 y4
      simp [results, loadVar, loadCells, Tryd.isAgg32, Tryd.sizeOf32, Tryd.results12, go_sem, d0, d1, d2, d3, d4]
    | false =>
      have HDQ := Lib.hid (rfl : de = de)
      by_cases hde : de = true
      · rw [hde] at HFR2 ⊢
        go_wp2_with fail
        obtain ⟨Z, hZ, d0, d1, d2, d3, d4, hX, -⟩ := set5s HRS.out HBL.out (Str []) (Str []) (Str []) (Str []) (.slice none 0 0)
        rw [hZ]
        refine bodyPost_ret (v := .tuple #[.agg #[Str [], Str [], Str [], Str [], .slice none 0 0], .int .i64 12]) ?_ rfl ⟨HFR2.out false true rfl rfl _ _ (.inr (.inl ⟨rfl, rfl, rfl⟩)), hX⟩
        clear z0 z1 z2 z3 z4 l0 l1 l2 l3 l4 y0 y1 y2 y3 y4
        simp [results, loadVar, loadCells, Tryd.isAgg32, Tryd.sizeOf32, Tryd.results12, go_sem, d0, d1, d2, d3, d4]
      · try exact absurd rfl hde
        all_goals (
          simp only [Bool.not_eq_true] at hde
          rw [hde] at HFR2 ⊢
          go_wp2_with fail
          obtain ⟨Z, hZ, d0, d1, d2, d3, d4, hX, hO⟩ := set5s HRS.out HBL.out (Str f) (Str ut) (Str un) (Str no) (.slice xa1 xa2 xa3)
          rw [hZ]
          have hoz := hO _ _ _ (show w.heap.size < _ from by have := hsb; omega) HOe.out
          refine bodyPost_ret (v := .tuple #[.agg #[Str f, Str ut, Str un, Str no, .slice xa1 xa2 xa3], .int .i64 0]) ?_ rfl ⟨HFR2.out false false rfl rfl _ _ (.inr (.inr ⟨rfl, rfl, _, rfl, rowP_of_ownP hoz, by rw [List.length_map]; exact own_rblk hoz (by have := hsb; omega)⟩)), hX⟩
          clear z0 z1 z2 z3 z4 l0 l1 l2 l3 l4 y0 y1 y2 y3 y4
          simp [results, loadVar, loadCells, Tryd.isAgg32, Tryd.sizeOf32, Tryd.results12, go_sem, d0, d1, d2, d3, d4])
end Go.Proofs.YtjkbigecejogdaaDoor
