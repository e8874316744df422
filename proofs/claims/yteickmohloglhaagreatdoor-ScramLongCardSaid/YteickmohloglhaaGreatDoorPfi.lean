/-
  scram.ParseFirst at the two texts of the law's example.
-/
import Derived.Test.YteickmohloglhaaGreatDoorRows
import Derived.Test.YteickmohloglhaaGreatDoorMsg
import Derived.Test.YteickmohloglhaaGreatDoorFlg
namespace Go.Proofs.YteickmohloglhaaGreatDoor
open Go.RowKit Go.Shelf
set_option maxRecDepth 100000
set_option linter.unusedVariables false
set_option linter.unusedSimpArgs false

theorem Msg.mono {bm M M' : Nat} {bad : Bool} {ps : List (List UInt8)} {W : World} (h : Msg bm M bad ps W) (hM : M ≤ M') : Msg bm M' bad ps W := by
  obtain ⟨v, hv, ao, cap, e, h1, h2, h3⟩ := h
  refine ⟨v, hv, ao, cap, e, h1, h2, fun hne => ?_⟩
  obtain ⟨g, o, e1, e2, e3⟩ := h3 hne
  exact ⟨g, o, e1, ⟨e2.1, by omega⟩, e3⟩
/-- What ParseFirst keeps: its result's box at s, its first's at q, the message at bm. -/
structure PF (w : World) (s bm q : Nat) (a0 a1 a2 a3 a4 : Value) (bad : Bool) (ps : List (List UInt8)) (W : World) : Prop where
  bel : Below w.heap.size w W
  msg : Msg bm q bad ps W
  box : W.heap[q]? = some (.cells #[a0, a1, a2, a3, a4] 34 (0, 0))
  res : W.heap[s]? = some (.cells #[Str [], Str [], Str [], Str [], .slice none 0 0] 34 (0, 0))
  ne : s = w.heap.size ∧ s < bm ∧ bm < q
theorem PF.ext {w : World} {s bm q : Nat} {a0 a1 a2 a3 a4 : Value} {bad : Bool} {ps : List (List UInt8)} {W C : World} (h : PF w s bm q a0 a1 a2 a3 a4 bad ps W) (he : Ext W C) : PF w s bm q a0 a1 a2 a3 a4 bad ps C :=
  ⟨h.bel.trans (he.mono h.bel.size), h.msg.ext he, (he.block _ (Array.getElem?_eq_some_iff.1 h.box).1).trans h.box, (he.block _ (Array.getElem?_eq_some_iff.1 h.res).1).trans h.res, h.ne⟩
theorem PF.bz {w : World} {s bm q : Nat} {a0 a1 a2 a3 a4 : Value} {bad bad' : Bool} {ps ps' : List (List UInt8)} {W C : World} (h : PF w s bm q a0 a1 a2 a3 a4 bad ps W) (hz : Bz bm W C) (hm : Msg bm q bad' ps' C) : PF w s bm q a0 a1 a2 a3 a4 bad' ps' C := by
  have hn := h.ne
  exact ⟨hz.below h.bel (by omega) (Nat.le_refl _), hm, (hz.block _ (Array.getElem?_eq_some_iff.1 h.box).1 (by omega)).trans h.box, (hz.block _ (Array.getElem?_eq_some_iff.1 h.res).1 (by omega)).trans h.res, h.ne⟩
theorem PF.store {w : World} {s bm q : Nat} {a0 a1 a2 a3 a4 : Value} {bad : Bool} {ps : List (List UInt8)} {W : World} (h : PF w s bm q a0 a1 a2 a3 a4 bad ps W) (j : Nat) (u : Value) (b0 b1 b2 b3 b4 : Value)
    (hb : (#[a0, a1, a2, a3, a4] : Array Value).setIfInBounds j u = #[b0, b1, b2, b3, b4]) : PF w s bm q b0 b1 b2 b3 b4 bad ps (W.setCell ⟨q, j, none⟩ u) := by
  have hn := h.ne
  have hc := Chg.setCell W ⟨q, j, none⟩ u
  have hk : ∀ k, k < W.heap.size → k ≠ q → (W.setCell ⟨q, j, none⟩ u).heap[k]? = W.heap[k]? := fun k h1 h2 => hc.block k h1 h2
  refine ⟨below_chg h.bel hc (fun k hk => by have h' : k = q := hk; omega) (Nat.le_refl _), ?_, by rw [set_at h.box, hb], (hk _ (Array.getElem?_eq_some_iff.1 h.res).1 (by omega)).trans h.res, h.ne⟩
  obtain ⟨v, hv, ao, cap, e, h1, h2, h3⟩ := h.msg
  refine ⟨v, (hk _ (Array.getElem?_eq_some_iff.1 hv).1 (by omega)).trans hv, ao, cap, e, h1, h2, fun hne => ?_⟩
  obtain ⟨g, o, e1, e2, e3⟩ := h3 hne
  refine ⟨g, o, e1, e2, fun j p hj => ?_⟩
  obtain ⟨x, y⟩ := e3 j p hj
  exact ⟨(World.cell?_of_block (w := W) (hk g (World.block_lt_of_cell? W _ x) (by omega))).trans x, (World.cell?_of_block (w := W) (hk g (World.block_lt_of_cell? W _ y) (by omega))).trans y⟩
theorem PF.cells {w : World} {s bm q : Nat} {a0 a1 a2 a3 a4 : Value} {bad : Bool} {ps : List (List UInt8)} {W : World} (h : PF w s bm q a0 a1 a2 a3 a4 bad ps W) :
    W.cell? ⟨q, 0, none⟩ = some a0 ∧ W.cell? ⟨q, 1, none⟩ = some a1 ∧ W.cell? ⟨q, 2, none⟩ = some a2 ∧ W.cell? ⟨q, 3, none⟩ = some a3 ∧ W.cell? ⟨q, 4, none⟩ = some a4 ∧ W.frozen? ⟨q, 0, none⟩ = false ∧ W.frozen? ⟨q, 1, none⟩ = false ∧ W.frozen? ⟨q, 2, none⟩ = false ∧ W.frozen? ⟨q, 3, none⟩ = false ∧ W.frozen? ⟨q, 4, none⟩ = false := by
  simp [World.cell?, World.frozen?, h.box]
theorem PF.cellsR {w : World} {s bm q : Nat} {a0 a1 a2 a3 a4 : Value} {bad : Bool} {ps : List (List UInt8)} {W : World} (h : PF w s bm q a0 a1 a2 a3 a4 bad ps W) :
    W.cell? ⟨s, 0, none⟩ = some (Str []) ∧ W.cell? ⟨s, 1, none⟩ = some (Str []) ∧ W.cell? ⟨s, 2, none⟩ = some (Str []) ∧ W.cell? ⟨s, 3, none⟩ = some (Str []) ∧ W.cell? ⟨s, 4, none⟩ = some (.slice none 0 0) ∧ W.frozen? ⟨s, 0, none⟩ = false ∧ W.frozen? ⟨s, 1, none⟩ = false ∧ W.frozen? ⟨s, 2, none⟩ = false ∧ W.frozen? ⟨s, 3, none⟩ = false ∧ W.frozen? ⟨s, 4, none⟩ = false := by
  simp [World.cell?, World.frozen?, h.res]
theorem below_set5 {w V : World} (h : Below w.heap.size w V) (u0 u1 u2 u3 u4 : Value) : Below w.heap.size w (((((V.setCell ⟨w.heap.size, 0, none⟩ u0).setCell ⟨w.heap.size, 1, none⟩ u1).setCell ⟨w.heap.size, 2, none⟩ u2).setCell ⟨w.heap.size, 3, none⟩ u3).setCell ⟨w.heap.size, 4, none⟩ u4) := by
  have hb : ∀ (A : World) (j : Nat) (u : Value), Below w.heap.size w A → Below w.heap.size w (A.setCell ⟨w.heap.size, j, none⟩ u) := fun A j u hA => below_chg hA (Chg.setCell A ⟨w.heap.size, j, none⟩ u) (fun k hk => by have h' : k = w.heap.size := hk; omega) (Nat.le_refl _)
  exact hb _ _ _ (hb _ _ _ (hb _ _ _ (hb _ _ _ (hb _ _ _ h))))
theorem cells5 {Z : World} {s t : Nat} {a0 a1 a2 a3 a4 : Value} (h : Z.heap[s]? = some (.cells #[a0, a1, a2, a3, a4] t (0, 0))) : Z.cell? ⟨s, 0, none⟩ = some a0 ∧ Z.cell? ⟨s, 1, none⟩ = some a1 ∧ Z.cell? ⟨s, 2, none⟩ = some a2 ∧ Z.cell? ⟨s, 3, none⟩ = some a3 ∧ Z.cell? ⟨s, 4, none⟩ = some a4 := by
  simp [World.cell?, h]
theorem cut_of (s : List UInt8) (m : Int) (one r1 : List UInt8) (h : Lib.cut s [44] = (one, r1, true)) (hs : s.length ≤ 4096) (w : World) (hm : w.cell? ⟨0, 0, none⟩ = some (.int .i64 m)) :
    Calls Tryz.prog 14 #[Str s, Str [44]] w fun e w' => e = .returned (.tuple #[Str one, Str r1, .bool true]) ∧ Ext w w' := by
  have hC := Tryz.strings_Cut ⟨s.toArray⟩ ⟨#[44]⟩ m w (by rw [size_list]; omega) hm
  rw [show (⟨#[44]⟩ : ByteArray).data.toList = [44] from rfl, show (⟨s.toArray⟩ : ByteArray).data.toList = s from rfl, h] at hC
  refine hC.mono ?_
  rintro e W ⟨he, n, hw⟩
  subst hw
  exact ⟨he, ext_drewN (ext_refl _) _⟩
/-- The result of ParseFirst: a message, or the zero one. -/
def firV (bp : Bool) (fl us no : List UInt8) : Value := if bp then .tuple #[.agg #[Str [], Str [], Str [], Str [], .slice none 0 0], .int .i64 12] else .tuple #[.agg #[Str fl, Str [], Str us, Str no, .slice none 0 0], .int .i64 0]
set_option maxHeartbeats 4000000 in
theorem ParseFirst_plain (s one r1 bare fl us no : List UInt8) (bp : Bool) (hs : s.length ≤ 4096) (hc1 : Lib.cut s [44] = (one, r1, true)) (hc2 : Lib.cut r1 [44] = ([], bare, true)) (hr1 : r1.length ≤ 4096) (hbl : bare.length ≤ 4096)
    (hfl : ∀ W, Calls Tryz.prog 17 #[Str one] W fun e w' => e = .returned (.tuple #[Str fl, .bool true]) ∧ w' = W) (hbp : (fl == [112]) = bp)
    (hA : attsP bare = [110 :: 61 :: us, 114 :: 61 :: no]) (hS : (spl bare).length = 2) (hu0 : us ≠ []) (hul : us.length ≤ 10000) (hup : pln us) (hnl : no.length ≤ 10000) (hno : nonF no = true) (w : World) (hM : MaxAt w) (hF : FormsAt w) :
    Calls Tryz.prog 7 #[Str s] w fun e w' => e = .returned (firV bp fl us no) ∧ Ext w w' := by
  obtain ⟨m, hm⟩ := id hM
  have hlen : decide ((4096 : Int) < (s.length : Int)) = false := by simp; omega
  have H1 := Lib.hid hc1; have H2 := Lib.hid hc2; have HFL := Lib.hid hfl; have HBP := Lib.hid hbp; have HA := Lib.hid hA; have HS := Lib.hid hS; have HU0 := Lib.hid hu0; have HUP := Lib.hid hup; have HNO := Lib.hid hno; have HM := Lib.hid hM; have HF := Lib.hid hF; have Hm := Lib.hid hm
  clear hc1 hc2 hfl hbp hA hS hu0 hup hno hM hF hm
  go_enter Tryz.func7, Tryz.ntmps7
  go_wp2_with fail
  obtain ⟨W0, hW0⟩ : ∃ W0, w.alloc (.cells #[Str [], Str [], Str [], Str [], .slice none 0 0] 34) = W0 := ⟨_, rfl⟩
  have x0 : Ext w W0 := by rw [← hW0]; exact Below.alloc (Below.refl _ _) (Nat.le_refl _) _
  have r0 : W0.heap[w.heap.size]? = some (.cells #[Str [], Str [], Str [], Str [], .slice none 0 0] 34 (0, 0)) := by rw [← hW0]; exact Array.getElem?_push_size
  rw [hW0]
  have HR0 := Lib.hid r0
  clear hW0 r0
  refine (cut_of s m one r1 H1.out hs W0 (ext_cell x0 Hm.out)).mono ?_
  rintro e W1 ⟨he, hx1⟩
  subst he
  replace x0 := ext_trans x0 hx1
  replace HR0 := Lib.hid ((hx1.block _ (Array.getElem?_eq_some_iff.1 HR0.out).1).trans HR0.out)
  clear hx1
  go_wp2_with fail
  refine (cut_of r1 m [] bare H2.out hr1 W1 (ext_cell x0 Hm.out)).mono ?_
  rintro e W2 ⟨he, hx1⟩
  subst he
  replace x0 := ext_trans x0 hx1
  replace HR0 := Lib.hid ((hx1.block _ (Array.getElem?_eq_some_iff.1 HR0.out).1).trans HR0.out)
  clear hx1
  go_wp2_with fail
  refine (read_any bare (by omega) W2 (HM.out.ext x0)).mono ?_
  rintro e W3 ⟨bm, v, he, hbm, hmsg, hown, hx1⟩
  subst he
  rw [HA.out, HS.out] at hmsg
  rw [HA.out] at hown
  have hsb : w.heap.size < bm := Nat.lt_of_lt_of_le (Array.getElem?_eq_some_iff.1 HR0.out).1 hbm
  replace x0 := ext_trans x0 hx1
  replace HR0 := Lib.hid ((hx1.block _ (Array.getElem?_eq_some_iff.1 HR0.out).1).trans HR0.out)
  have HMS := Lib.hid (show Msg bm W3.heap.size false [110 :: 61 :: us, 114 :: 61 :: no] W3 from ⟨v, hmsg, row2_of_own hown (by omega) (Nat.le_refl _)⟩)
  clear hx1 hmsg hown
  go_wp2_with fail
  refine (fine_any bm _ false true _ _ HMS.out).mono ?_
  rintro e W4 ⟨he, hm4, hz4⟩
  subst he
  replace x0 := hz4.below x0 (by omega) (Nat.le_refl _)
  replace HR0 := Lib.hid ((hz4.block _ (Array.getElem?_eq_some_iff.1 HR0.out).1 (by omega)).trans HR0.out)
  have hsz4 := Lib.hid hz4.size
  have HMS4 := Lib.hid hm4
  clear hz4 hm4 HMS
  go_wp2_with fail
  obtain ⟨W5, hW5⟩ : ∃ W5, W4.alloc (.cells #[Str [], Str [], Str [], Str [], .slice none 0 0] 34) = W5 := ⟨_, rfl⟩
  obtain ⟨q, hq⟩ : ∃ q, W4.heap.size = q := ⟨_, rfl⟩
  have P0 : PF w w.heap.size bm q (Str []) (Str []) (Str []) (Str []) (.slice none 0 0) false [110 :: 61 :: us, 114 :: 61 :: no] W5 := by
    have hx5 : Ext W4 W5 := by rw [← hW5]; exact Below.alloc (Below.refl _ _) (Nat.le_refl _) _
    refine ⟨ext_trans x0 hx5, (HMS4.out.ext hx5).mono (by have := hsz4.out; omega), ?_, ?_, rfl, hsb, ?_⟩
    · rw [← hW5, ← hq]; exact Array.getElem?_push_size
    · exact (hx5.block _ (Array.getElem?_eq_some_iff.1 HR0.out).1).trans HR0.out
    · obtain ⟨_, hb, _⟩ := HMS4.out
      have := (Array.getElem?_eq_some_iff.1 hb).1
      omega
  rw [hW5, hq]
  have HP0 := Lib.hid P0
  obtain ⟨c0, c1, c2, c3, c4, f0, f1, f2, f3, f4⟩ := P0.cells
  clear P0 hW5 x0 HR0 HMS4 hsz4 hsb hbm
  refine (HFL.out _).mono ?_
  rintro e W ⟨he, hw⟩
  subst he; subst hw
  go_wp2_with fail
  have HP := Lib.hid (PF.store HP0.out 0 (Str fl) (Str fl) (Str []) (Str []) (Str []) (.slice none 0 0) (by simp))
  clear c0 c1 c2 c3 c4 f0 f1 f2 f3 f4 HP0
  refine (fine_any bm _ false true _ _ HP.out.msg).mono ?_
  rintro e V1 ⟨he, hm, hz⟩
  subst he
  replace HP := Lib.hid (HP.out.bz hz hm)
  clear hm hz
  obtain ⟨c0, c1, c2, c3, c4, f0, f1, f2, f3, f4⟩ := HP.out.cells
  have hbp := HBP.out
  go_wp2_with fail
  refine (has_any bm _ _ _ [109] _ HP.out.msg).mono ?_
  rintro e V ⟨he, hw⟩
  subst he; subst hw
  have hhas : hasF [109] [110 :: 61 :: us, 114 :: 61 :: no] = false := rfl
  rw [hhas]
  go_wp2_with fail
  refine (next_hit bm _ _ _ _ _ HP.out.msg).mono ?_
  rintro e V2 ⟨he, hm, hz⟩
  rw [show (110 :: 61 :: us).drop 2 = us from rfl] at he
  subst he
  replace HP := Lib.hid (HP.out.bz hz hm)
  clear hm hz c0 c1 c2 c3 c4 f0 f1 f2 f3 f4
  go_wp2_with fail
  refine (escaped_pln us hul HU0.out HUP.out _ (HF.out.ext HP.out.bel)).mono ?_
  rintro e V3 ⟨he, hx⟩
  subst he
  replace HP := Lib.hid (HP.out.ext hx)
  clear hx
  obtain ⟨c0, c1, c2, c3, c4, f0, f1, f2, f3, f4⟩ := HP.out.cells
  go_wp2_with fail
  replace HP := Lib.hid (PF.store HP.out 2 (Str us) (Str fl) (Str []) (Str us) (Str []) (.slice none 0 0) (by simp))
  clear c0 c1 c2 c3 c4 f0 f1 f2 f3 f4
  refine (fine_any bm _ false true _ _ HP.out.msg).mono ?_
  rintro e V4 ⟨he, hm, hz⟩
  subst he
  replace HP := Lib.hid (HP.out.bz hz hm)
  clear hm hz
  go_wp2_with fail
  refine (next_hit bm _ _ _ _ _ HP.out.msg).mono ?_
  rintro e V5 ⟨he, hm, hz⟩
  rw [show (114 :: 61 :: no).drop 2 = no from rfl] at he
  subst he
  replace HP := Lib.hid (HP.out.bz hz hm)
  clear hm hz
  go_wp2_with fail
  refine (nonceM_any bm _ _ _ no true _ HP.out.msg (fun W => by have h := nonce_scram no (by omega) W; rw [HNO.out] at h; exact h)).mono ?_
  rintro e V6 ⟨he, hm, hz⟩
  subst he
  replace HP := Lib.hid (HP.out.bz hz hm)
  clear hm hz
  obtain ⟨c0, c1, c2, c3, c4, f0, f1, f2, f3, f4⟩ := HP.out.cells
  go_wp2_with fail
  replace HP := Lib.hid (PF.store HP.out 3 (Str no) (Str fl) (Str []) (Str us) (Str no) (.slice none 0 0) (by simp))
  clear c0 c1 c2 c3 c4 f0 f1 f2 f3 f4
  refine (rest_nil bm _ _ _ HP.out.msg).mono ?_
  rintro e V7 ⟨he, hw⟩
  subst he; subst hw
  obtain ⟨c0, c1, c2, c3, c4, f0, f1, f2, f3, f4⟩ := HP.out.cells
  have HQ := Lib.hid (PF.store HP.out 4 (.slice none 0 0) (Str fl) (Str []) (Str us) (Str no) (.slice none 0 0) (by simp))
  cases bp
  · go_wp2_with fail
    refine (denied_nil _).mono ?_
    rintro e V8 ⟨he, hw⟩
    subst he; subst hw
    go_wp2_with fail
    refine (ended_any bm _ _ false _ HQ.out.msg).mono ?_
    rintro e V9 ⟨he, hw⟩
    subst he
    clear c0 c1 c2 c3 c4 f0 f1 f2 f3 f4
    rw [← hw] at HQ
    clear hw HP
    obtain ⟨c0, c1, c2, c3, c4, f0, f1, f2, f3, f4⟩ := HQ.out.cells
    obtain ⟨d0, d1, d2, d3, d4, g0, g1, g2, g3, g4⟩ := HQ.out.cellsR
    go_wp2_with fail
    have hZ := set_at (j := 4) (u := .slice none 0 0) (set_at (j := 3) (u := Str no) (set_at (j := 2) (u := Str us) (set_at (j := 1) (u := Str []) (set_at (j := 0) (u := Str fl) HQ.out.res))))
    have hX : Below w.heap.size w (((((V9.setCell ⟨w.heap.size, 0, none⟩ (Str fl)).setCell ⟨w.heap.size, 1, none⟩ (Str [])).setCell ⟨w.heap.size, 2, none⟩ (Str us)).setCell ⟨w.heap.size, 3, none⟩ (Str no)).setCell ⟨w.heap.size, 4, none⟩ (.slice none 0 0)) :=
      below_set5 HQ.out.bel _ _ _ _ _
    obtain ⟨Z, hZe⟩ : ∃ Z, (((((V9.setCell ⟨w.heap.size, 0, none⟩ (Str fl)).setCell ⟨w.heap.size, 1, none⟩ (Str [])).setCell ⟨w.heap.size, 2, none⟩ (Str us)).setCell ⟨w.heap.size, 3, none⟩ (Str no)).setCell ⟨w.heap.size, 4, none⟩ (.slice none 0 0)) = Z := ⟨_, rfl⟩
    rw [hZe] at hZ hX
    have hZ2 : Z.heap[w.heap.size]? = some (.cells #[Str fl, Str [], Str us, Str no, .slice none 0 0] 34 (0, 0)) := by rw [hZ]; simp
    obtain ⟨z0, z1, z2, z3, z4⟩ := cells5 hZ2
    simp only [hZe]
    refine bodyPost_ret (v := .tuple #[.agg #[Str fl, Str [], Str us, Str no, .slice none 0 0], .int .i64 0]) ?_ rfl ⟨rfl, hX⟩
    clear d0 d1 d2 d3 d4 g0 g1 g2 g3 g4 c0 c1 c2 c3 c4 f0 f1 f2 f3 f4
    simp [results, loadVar, loadCells, Tryz.isAgg34, Tryz.sizeOf34, Tryz.results7, go_sem, z0, z1, z2, z3, z4]
  · go_wp2_with fail
    refine (ended_any bm _ _ true _ HQ.out.msg).mono ?_
    rintro e V9 ⟨he, hw⟩
    subst he
    clear c0 c1 c2 c3 c4 f0 f1 f2 f3 f4
    rw [← hw] at HQ
    clear hw HP
    obtain ⟨c0, c1, c2, c3, c4, f0, f1, f2, f3, f4⟩ := HQ.out.cells
    obtain ⟨d0, d1, d2, d3, d4, g0, g1, g2, g3, g4⟩ := HQ.out.cellsR
    go_wp2_with fail
    have hZ := set_at (j := 4) (u := .slice none 0 0) (set_at (j := 3) (u := Str []) (set_at (j := 2) (u := Str []) (set_at (j := 1) (u := Str []) (set_at (j := 0) (u := Str []) HQ.out.res))))
    have hX : Below w.heap.size w (((((V9.setCell ⟨w.heap.size, 0, none⟩ (Str [])).setCell ⟨w.heap.size, 1, none⟩ (Str [])).setCell ⟨w.heap.size, 2, none⟩ (Str [])).setCell ⟨w.heap.size, 3, none⟩ (Str [])).setCell ⟨w.heap.size, 4, none⟩ (.slice none 0 0)) :=
      below_set5 HQ.out.bel _ _ _ _ _
    obtain ⟨Z, hZe⟩ : ∃ Z, (((((V9.setCell ⟨w.heap.size, 0, none⟩ (Str [])).setCell ⟨w.heap.size, 1, none⟩ (Str [])).setCell ⟨w.heap.size, 2, none⟩ (Str [])).setCell ⟨w.heap.size, 3, none⟩ (Str [])).setCell ⟨w.heap.size, 4, none⟩ (.slice none 0 0)) = Z := ⟨_, rfl⟩
    rw [hZe] at hZ hX
    have hZ2 : Z.heap[w.heap.size]? = some (.cells #[Str [], Str [], Str [], Str [], .slice none 0 0] 34 (0, 0)) := by rw [hZ]; simp
    obtain ⟨z0, z1, z2, z3, z4⟩ := cells5 hZ2
    simp only [hZe]
    refine bodyPost_ret (v := .tuple #[.agg #[Str [], Str [], Str [], Str [], .slice none 0 0], .int .i64 12]) ?_ rfl ⟨rfl, hX⟩
    clear d0 d1 d2 d3 d4 g0 g1 g2 g3 g4 c0 c1 c2 c3 c4 f0 f1 f2 f3 f4
    simp [results, loadVar, loadCells, Tryz.isAgg34, Tryz.sizeOf34, Tryz.results7, go_sem, z0, z1, z2, z3, z4]
end Go.Proofs.YteickmohloglhaaGreatDoor
