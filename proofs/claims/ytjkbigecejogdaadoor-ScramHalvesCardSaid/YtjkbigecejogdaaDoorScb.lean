/-
  The texts that every chapter uses, in one: Frs, Flg, Pfi, Hds, Awf.
-/
import Derived.Test.YtjkbigecejogdaaDoorRows
import Derived.Test.YtjkbigecejogdaaDoorShf
import Derived.Test.YtjkbigecejogdaaDoorSca
import Derived.Test.YtjkbigecejogdaaDoorMsg
import Derived.Test.YtjkbigecejogdaaDoorKit
namespace Go.Proofs.YtjkbigecejogdaaDoor
open Go.RowKit Go.Shelf
set_option maxRecDepth 100000
set_option linter.unusedVariables false
set_option linter.unusedSimpArgs false

theorem escaped_pln (l : List UInt8) (hl : l.length ≤ 10000) (h0 : l ≠ []) (hp : pln l) (w : World) (hF : FormsAt w) :
    Calls Tryd.prog 30 #[Str l] w fun e w' => e = .returned (.tuple #[Str l, .bool true]) ∧ Ext w w' := by
  have HU := Lib.hid (Unescape_pln l hl hp w)
  go_enter Tryd.func30, Tryd.ntmps30
  go_wp2_with fail
  refine HU.out.mono ?_
  rintro e W1 ⟨he, hx⟩
  subst he
  have HV := Lib.hid (value_pln l hl h0 hp W1 (hF.ext hx))
  go_wp2_with fail
  refine HV.out.mono ?_
  rintro e W2 ⟨he, hx2⟩
  subst he
  go_wp2_with fail
  go_ret2
  exact ⟨rfl, hx.trans (hx2.mono hx.size)⟩

def nonB (c : UInt8) : Bool := decide (33 ≤ c.toNat) && (decide (c.toNat ≤ 126) && (c.toNat != 44))
/-- Is a text a nonce? -/
def nonF (l : List UInt8) : Bool := l.all nonB && (decide (0 < l.length) && decide (l.length ≤ 64))
theorem all_snoc (l : List UInt8) (k : Nat) (h : k < l.length) : (l.take (k + 1)).all nonB = ((l.take k).all nonB && nonB (bt l k)) := by rw [take_snoc l k h]; simp
theorem all_take (l : List UInt8) (k : Nat) (h : (l.take k).all nonB = false) : l.all nonB = false := by
  cases hg : l.all nonB with
  | false => rfl
  | true =>
    rw [← h]; simp only [List.all_eq_true] at hg ⊢
    exact (List.all_eq_true.2 fun x hx => hg x (List.mem_of_mem_take hx)).symm
set_option maxHeartbeats 1000000 in
theorem nonce_scram (l : List UInt8) (hl : l.length ≤ 100000) (w : World) :
    Calls Tryd.prog 40 #[Str l] w fun e w' => e = .returned (.bool (nonF l)) ∧ w' = w := by
  have hixl : ∀ i, i < l.length → ∀ W, (Instr.index 9 (Str l) (.int .i64 (i : Int))).run Tryd.prog W = .ok (Byt (bt l i)) W := fun i hi W => run_index_str Tryd.underlying9 l i _ rfl hi W
  have HI := Lib.hid hixl; clear hixl
  have hnf := Lib.hid (show nonF l = (l.all nonB && (decide (0 < l.length) && decide (l.length ≤ 64))) from rfl)
  go_enter Tryd.func40, Tryd.ntmps40
  go_wp2
  go_loop [6] (fun i => ∃ k : Nat, k ≤ l.length ∧ i = .int .i64 k ∧ (l.take k).all nonB = true) (fun i => l.length - (intOf i).toNat)
  case atStart => exact ⟨0, by omega, rfl, by simp⟩
  case round =>
    obtain ⟨k, hk, rfl, hall⟩ := hrel
    by_cases h3 : k < l.length
    · have hix := HI.out k h3
      have hs := all_snoc l k h3
      rw [hall, Bool.true_and] at hs
      have HB := Lib.hid (all_take l (k + 1))
      have HS := Lib.hid hs
      clear hs hall
      generalize bt l k = c at *
      have hcb := c.toNat_lt
      cases hc : nonB c with
      | true =>
        have h1 : 33 ≤ c.toNat ∧ c.toNat ≤ 126 ∧ c.toNat ≠ 44 := by simpa [nonB] using hc
        have HC := Lib.hid (HS.out.trans hc)
        have t1 : decide ((c.toNat : Int) < 33) = false := by simp; omega
        have t2 : decide ((126 : Int) < (c.toNat : Int)) = false := by simp; omega
        have t3 : ((c.toNat : Int) == 44) = false := by simp; omega
        clear hc h1
        go_wp2
        go_round
        case rel => exact ⟨k + 1, by omega, by go_num, HC.out⟩
        case measure => simp [intOf] <;> omega
      | false =>
        have HF := Lib.hid (HB.out (HS.out.trans hc))
        have h1 : c.toNat < 33 ∨ (33 ≤ c.toNat ∧ 126 < c.toNat) ∨ c.toNat = 44 := by
          simp [nonB] at hc; omega
        clear hc
        rcases h1 with h1 | ⟨h1, h2⟩ | h1
        · have t1 : decide ((c.toNat : Int) < 33) = true := by simp; omega
          go_wp2
          go_ret
          exact ⟨by rw [hnf.out, HF.out]; rfl, rfl⟩
        · have t1 : decide ((c.toNat : Int) < 33) = false := by simp; omega
          have t2 : decide ((126 : Int) < (c.toNat : Int)) = true := by simp; omega
          go_wp2
          go_ret
          exact ⟨by rw [hnf.out, HF.out]; rfl, rfl⟩
        · have t1 : decide ((c.toNat : Int) < 33) = false := by simp; omega
          have t2 : decide ((126 : Int) < (c.toNat : Int)) = false := by simp; omega
          have t3 : ((c.toNat : Int) == 44) = true := by simp; omega
          go_wp2
          go_ret
          exact ⟨by rw [hnf.out, HF.out]; rfl, rfl⟩
    · have hkl : k = l.length := by omega
      subst hkl
      rw [List.take_length] at hall
      rw [hall, Bool.true_and] at hnf
      have hne : (l == []) = !decide (0 < l.length) := by cases l <;> simp
      clear hall
      by_cases e1 : 0 < l.length
      · have u1 : (l == []) = false := by rw [hne]; simp [e1]
        by_cases e2 : l.length ≤ 64
        · have u3 : decide (64 < (l.length : Int)) = false := by simp; omega
          have u2 : decide ((l.length : Int) ≤ 64) = true := by simp; omega
          have u4 : decide ((1 : Int) ≤ (l.length : Int)) = true := by simp; omega
          have R := Lib.hid (show nonF l = true by rw [hnf.out]; simp [e1, e2])
          clear hne hnf
          go_wp2
          go_ret
          exact ⟨by rw [R.out]; rfl, rfl⟩
        · have u2 : decide ((l.length : Int) ≤ 64) = false := by simp; omega
          have u4 : decide ((1 : Int) ≤ (l.length : Int)) = true := by simp; omega
          have R := Lib.hid (show nonF l = false by rw [hnf.out]; simp [e2])
          clear hne hnf
          go_wp2
          go_ret
          exact ⟨by rw [R.out]; rfl, rfl⟩
      · have u1 : (l == []) = true := by rw [hne]; simp [e1]
        have u4 : decide ((1 : Int) ≤ (l.length : Int)) = false := by simp; omega
        have R := Lib.hid (show nonF l = false by rw [hnf.out]; simp [e1])
        clear hne hnf
        go_wp2
        go_ret
        exact ⟨by rw [R.out]; rfl, rfl⟩
end Go.Proofs.YtjkbigecejogdaaDoor

namespace Go.Proofs.YtjkbigecejogdaaDoor
open Go.RowKit Go.Shelf
set_option maxRecDepth 100000
set_option linter.unusedVariables false
set_option linter.unusedSimpArgs false

def alphas : List UInt8 := [97, 98, 99, 100, 101, 102, 103, 104, 105, 106, 107, 108, 109, 110, 111, 112, 113, 114, 115, 116, 117, 118, 119, 120, 121, 122, 65, 66, 67, 68, 69, 70, 71, 72, 73, 74, 75, 76, 77, 78, 79, 80, 81, 82, 83, 84, 85, 86, 87, 88, 89, 90]
def letB (c : UInt8) : Bool := decide (0 ≤ Lib.indexByte alphas c)
theorem sletter_any (c : UInt8) (w : World) : Calls Tryd.prog 53 #[.int .u8 (c.toNat : Int)] w fun e w' => e = .returned (.bool (letB c)) ∧ w' = w := by
  have hI := Tryd.strings_IndexByte ⟨alphas.toArray⟩ (c.toNat : Int) w
  rw [show ((c.toNat : Int).toNat.toUInt8) = c by simp, show (⟨alphas.toArray⟩ : ByteArray).data.toList = alphas from rfl] at hI
  have HI := Lib.hid hI
  have hb : letB c = decide (0 ≤ Lib.indexByte alphas c) := rfl
  have HB := Lib.hid hb
  clear hI hb
  generalize Lib.indexByte alphas c = v at *
  go_enter Tryd.func53, Tryd.ntmps53
  go_wp2_with fail
  refine HI.out.mono ?_
  rintro e W1 ⟨he, hw⟩
  subst he; subst hw
  go_wp2_with fail
  go_ret
  exact ⟨by rw [HB.out]; rfl, rfl⟩
theorem flag_n (w : World) : Calls Tryd.prog 28 #[Str [110]] w fun e w' => e = .returned (.tuple #[Str [110], .bool true]) ∧ w' = w := by
  go_enter Tryd.func28, Tryd.ntmps28
  go_wp2
  go_ret2
  exact ⟨rfl, rfl⟩
set_option maxHeartbeats 1000000 in
theorem flag_p (l : List UInt8) (hl : l.length ≤ 1000) (h0 : l ≠ []) (hal : ∀ c ∈ l, letB c = true) (w : World) :
    Calls Tryd.prog 28 #[Str (112 :: 61 :: l)] w fun e w' => e = .returned (.tuple #[Str [112], .bool true]) ∧ w' = w := by
  have hixl : ∀ i, i < l.length → ∀ W, (Instr.index 9 (Str l) (.int .i64 (i : Int))).run Tryd.prog W = .ok (Byt (bt l i)) W := fun i hi W => run_index_str Tryd.underlying9 l i _ rfl hi W
  have HI := Lib.hid hixl; clear hixl
  have hC := fun W => Tryd.strings_CutPrefix ⟨(112 :: 61 :: l).toArray⟩ ⟨#[112, 61]⟩ W
  have e1 : Lib.trimPrefix (⟨(112 :: 61 :: l).toArray⟩ : ByteArray).data.toList (⟨#[112, 61]⟩ : ByteArray).data.toList = l := by
    simp [Lib.trimPrefix, Lib.hasPrefix]
  have e2 : Lib.hasPrefix (⟨(112 :: 61 :: l).toArray⟩ : ByteArray).data.toList (⟨#[112, 61]⟩ : ByteArray).data.toList = true := by
    simp [Lib.hasPrefix]
  rw [e1, e2] at hC
  have HC := Lib.hid hC
  have hne : (l == []) = false := by simpa using h0
  have n1 : ((112 :: 61 :: l) == [110]) = false := by simp
  have n2 : ((112 :: 61 :: l) == [121]) = false := by simp
  clear hC e1 e2 h0
  generalize hs : (112 :: 61 :: l) = s at *
  clear hs
  go_enter Tryd.func28, Tryd.ntmps28
  go_wp2_with fail
  refine (HC.out _).mono ?_
  rintro e W1 ⟨he, hw⟩
  subst he; subst hw
  go_wp2_with fail
  go_loop [5, 22] (fun b i => ∃ k : Nat, k ≤ l.length ∧ i = .int .i64 k ∧ b = .bool true) (fun _ i => l.length - (intOf i).toNat)
  case atStart => exact ⟨0, by omega, rfl, rfl⟩
  case round =>
    obtain ⟨k, hk, rfl, rfl⟩ := hrel
    by_cases h3 : k < l.length
    · have hix := HI.out k h3
      have hL := fun W => sletter_any (bt l k) W
      rw [hal _ (by rw [bt_get l k h3]; exact List.getElem_mem _)] at hL
      have HL := Lib.hid hL
      clear hL
      generalize bt l k = c at *
      go_wp2_with (go_at_call 53; refine (HL.out _).mono ?_; rintro e W3 ⟨rfl, rfl⟩)
      go_round
      case rel => exact ⟨k + 1, by omega, by go_num, rfl⟩
      case measure => simp [intOf] <;> omega
    · have hkl : k = l.length := by omega
      subst hkl
      go_wp2
      go_ret2
      exact ⟨rfl, rfl⟩
end Go.Proofs.YtjkbigecejogdaaDoor

namespace Go.Proofs.YtjkbigecejogdaaDoor
open Go.RowKit Go.Shelf
set_option maxRecDepth 100000
set_option linter.unusedVariables false
set_option linter.unusedSimpArgs false

theorem Msg.mono {bm M M' : Nat} {bad : Bool} {ps : List (List UInt8)} {W : World} (h : Msg bm M bad ps W) (hM : M ≤ M') : Msg bm M' bad ps W := by
  obtain ⟨v, hv, ao, cap, e, h1, h2, h3⟩ := h
  refine ⟨v, hv, ao, cap, e, h1, h2, fun hne => ?_⟩
  obtain ⟨g, o, e1, e2, e3⟩ := h3 hne
  exact ⟨g, o, e1, ⟨e2.1, by omega⟩, e3⟩
/-- What ParseFirst keeps: its result's box at s, its first's at q, the message at bm. -/
structure PF (w : World) (s bm q : Nat) (a0 a1 a2 a3 a4 : Value) (bad : Bool) (ps : List (List UInt8)) (W : World) : Prop where
  bel : Below w.heap.size w W
  msg : Msg bm q bad ps W
  box : W.heap[q]? = some (.cells #[a0, a1, a2, a3, a4] 32 (0, 0))
  res : W.heap[s]? = some (.cells #[Str [], Str [], Str [], Str [], .slice none 0 0] 32 (0, 0))
  ne : s = w.heap.size ∧ s < bm ∧ bm < q
theorem PF.ext {w : World} {s bm q : Nat} {a0 a1 a2 a3 a4 : Value} {bad : Bool} {ps : List (List UInt8)} {W C : World} (h : PF w s bm q a0 a1 a2 a3 a4 bad ps W) (he : Ext W C) : PF w s bm q a0 a1 a2 a3 a4 bad ps C :=
  ⟨h.bel.trans (he.mono h.bel.size), h.msg.ext he, (he.block _ (Array.getElem?_eq_some_iff.1 h.box).1).trans h.box, (he.block _ (Array.getElem?_eq_some_iff.1 h.res).1).trans h.res, h.ne⟩
theorem PF.bz {w : World} {s bm q : Nat} {a0 a1 a2 a3 a4 : Value} {bad bad' : Bool} {ps ps' : List (List UInt8)} {W C : World} (h : PF w s bm q a0 a1 a2 a3 a4 bad ps W) (hz : Bz bm W C) (hm : Msg bm q bad' ps' C) : PF w s bm q a0 a1 a2 a3 a4 bad' ps' C := by
  have hn := h.ne
  exact ⟨hz.below h.bel (by omega) (Nat.le_refl _), hm, (hz.block _ (Array.getElem?_eq_some_iff.1 h.box).1 (by omega)).trans h.box, (hz.block _ (Array.getElem?_eq_some_iff.1 h.res).1 (by omega)).trans h.res, h.ne⟩
theorem PF.store {w : World} {s bm q : Nat} {a0 a1 a2 a3 a4 : Value} {bad : Bool} {ps : List (List UInt8)} {W : World} (h : PF w s bm q a0 a1 a2 a3 a4 bad ps W) (j : Nat) (u : Value) (b0 b1 b2 b3 b4 : Value)
    (hb : (#[a0, a1, a2, a3, a4] : Array Value).setIfInBounds j u = #[b0, b1, b2, b3, b4]) : PF w s bm q b0 b1 b2 b3 b4 bad ps (W.setCell ⟨q, j, none⟩ u) := by
  have hn := h.ne
  have hc := Chg.setCell W ⟨q, j, none⟩ u
  have hk : ∀ k, k < W.heap.size → k ≠ q → (W.setCell ⟨q, j, none⟩ u).heap[k]? = W.heap[k]? := fun k h1 h2 => hc.block k h1 h2
  refine ⟨below_chg h.bel hc (fun k hk => by have h' : k = q := hk; omega) (Nat.le_refl _), ?_, by rw [set_at h.box, hb], (hk _ (Array.getElem?_eq_some_iff.1 h.res).1 (by omega)).trans h.res, h.ne⟩
  obtain ⟨v, hv, ao, cap, e, h1, h2, h3⟩ := h.msg
  refine ⟨v, (hk _ (Array.getElem?_eq_some_iff.1 hv).1 (by omega)).trans hv, ao, cap, e, h1, h2, fun hne => ?_⟩
  obtain ⟨g, o, e1, e2, e3⟩ := h3 hne
  refine ⟨g, o, e1, e2, fun j p hj => ?_⟩
  obtain ⟨x, y⟩ := e3 j p hj
  exact ⟨(World.cell?_of_block (w := W) (hk g (World.block_lt_of_cell? W _ x) (by omega))).trans x, (World.cell?_of_block (w := W) (hk g (World.block_lt_of_cell? W _ y) (by omega))).trans y⟩
theorem PF.cells {w : World} {s bm q : Nat} {a0 a1 a2 a3 a4 : Value} {bad : Bool} {ps : List (List UInt8)} {W : World} (h : PF w s bm q a0 a1 a2 a3 a4 bad ps W) :
    W.cell? ⟨q, 0, none⟩ = some a0 ∧ W.cell? ⟨q, 1, none⟩ = some a1 ∧ W.cell? ⟨q, 2, none⟩ = some a2 ∧ W.cell? ⟨q, 3, none⟩ = some a3 ∧ W.cell? ⟨q, 4, none⟩ = some a4 ∧ W.frozen? ⟨q, 0, none⟩ = false ∧ W.frozen? ⟨q, 1, none⟩ = false ∧ W.frozen? ⟨q, 2, none⟩ = false ∧ W.frozen? ⟨q, 3, none⟩ = false ∧ W.frozen? ⟨q, 4, none⟩ = false := by
  simp [World.cell?, World.frozen?, h.box]
theorem PF.cellsR {w : World} {s bm q : Nat} {a0 a1 a2 a3 a4 : Value} {bad : Bool} {ps : List (List UInt8)} {W : World} (h : PF w s bm q a0 a1 a2 a3 a4 bad ps W) :
    W.cell? ⟨s, 0, none⟩ = some (Str []) ∧ W.cell? ⟨s, 1, none⟩ = some (Str []) ∧ W.cell? ⟨s, 2, none⟩ = some (Str []) ∧ W.cell? ⟨s, 3, none⟩ = some (Str []) ∧ W.cell? ⟨s, 4, none⟩ = some (.slice none 0 0) ∧ W.frozen? ⟨s, 0, none⟩ = false ∧ W.frozen? ⟨s, 1, none⟩ = false ∧ W.frozen? ⟨s, 2, none⟩ = false ∧ W.frozen? ⟨s, 3, none⟩ = false ∧ W.frozen? ⟨s, 4, none⟩ = false := by
  simp [World.cell?, World.frozen?, h.res]
theorem below_set5 {w V : World} (h : Below w.heap.size w V) (u0 u1 u2 u3 u4 : Value) : Below w.heap.size w (((((V.setCell ⟨w.heap.size, 0, none⟩ u0).setCell ⟨w.heap.size, 1, none⟩ u1).setCell ⟨w.heap.size, 2, none⟩ u2).setCell ⟨w.heap.size, 3, none⟩ u3).setCell ⟨w.heap.size, 4, none⟩ u4) := by
  have hb : ∀ (A : World) (j : Nat) (u : Value), Below w.heap.size w A → Below w.heap.size w (A.setCell ⟨w.heap.size, j, none⟩ u) := fun A j u hA => below_chg hA (Chg.setCell A ⟨w.heap.size, j, none⟩ u) (fun k hk => by have h' : k = w.heap.size := hk; omega) (Nat.le_refl _)
  exact hb _ _ _ (hb _ _ _ (hb _ _ _ (hb _ _ _ (hb _ _ _ h))))
theorem cells5 {Z : World} {s t : Nat} {a0 a1 a2 a3 a4 : Value} (h : Z.heap[s]? = some (.cells #[a0, a1, a2, a3, a4] t (0, 0))) : Z.cell? ⟨s, 0, none⟩ = some a0 ∧ Z.cell? ⟨s, 1, none⟩ = some a1 ∧ Z.cell? ⟨s, 2, none⟩ = some a2 ∧ Z.cell? ⟨s, 3, none⟩ = some a3 ∧ Z.cell? ⟨s, 4, none⟩ = some a4 := by
  simp [World.cell?, h]
theorem cut_of (s : List UInt8) (m : Int) (one r1 : List UInt8) (h : Lib.cut s [44] = (one, r1, true)) (hs : s.length ≤ 4096) (w : World) (hm : w.cell? ⟨0, 0, none⟩ = some (.int .i64 m)) :
    Calls Tryd.prog 25 #[Str s, Str [44]] w fun e w' => e = .returned (.tuple #[Str one, Str r1, .bool true]) ∧ Ext w w' := by
  have hC := Tryd.strings_Cut ⟨s.toArray⟩ ⟨#[44]⟩ m w (by rw [size_list]; omega) hm
  rw [show (⟨#[44]⟩ : ByteArray).data.toList = [44] from rfl, show (⟨s.toArray⟩ : ByteArray).data.toList = s from rfl, h] at hC
  refine hC.mono ?_
  rintro e W ⟨he, n, hw⟩
  subst hw
  exact ⟨he, ext_drewN (ext_refl _) _⟩
/-- The result of ParseFirst: a message, or the zero one. -/
def firV (bp : Bool) (fl us no : List UInt8) : Value := if bp then .tuple #[.agg #[Str [], Str [], Str [], Str [], .slice none 0 0], .int .i64 12] else .tuple #[.agg #[Str fl, Str [], Str us, Str no, .slice none 0 0], .int .i64 0]
set_option maxHeartbeats 4000000 in
theorem ParseFirst_plain (s one r1 bare fl us no : List UInt8) (bp : Bool) (hs : s.length ≤ 4096) (hc1 : Lib.cut s [44] = (one, r1, true)) (hc2 : Lib.cut r1 [44] = ([], bare, true)) (hr1 : r1.length ≤ 4096) (hbl : bare.length ≤ 4096)
    (hfl : ∀ W, Calls Tryd.prog 28 #[Str one] W fun e w' => e = .returned (.tuple #[Str fl, .bool true]) ∧ w' = W) (hbp : (fl == [112]) = bp)
    (hA : attsP bare = [110 :: 61 :: us, 114 :: 61 :: no]) (hS : (spl bare).length = 2) (hu0 : us ≠ []) (hul : us.length ≤ 10000) (hup : pln us) (hnl : no.length ≤ 10000) (hno : nonF no = true) (w : World) (hM : MaxAt w) (hF : FormsAt w) :
    Calls Tryd.prog 12 #[Str s] w fun e w' => e = .returned (firV bp fl us no) ∧ Ext w w' := by
  obtain ⟨m, hm⟩ := id hM
  have hlen : decide ((4096 : Int) < (s.length : Int)) = false := by simp; omega
  have H1 := Lib.hid hc1; have H2 := Lib.hid hc2; have HFL := Lib.hid hfl; have HBP := Lib.hid hbp; have HA := Lib.hid hA; have HS := Lib.hid hS; have HU0 := Lib.hid hu0; have HUP := Lib.hid hup; have HNO := Lib.hid hno; have HM := Lib.hid hM; have HF := Lib.hid hF; have Hm := Lib.hid hm
  clear hc1 hc2 hfl hbp hA hS hu0 hup hno hM hF hm
  go_enter Tryd.func12, Tryd.ntmps12
  go_wp2_with fail
  obtain ⟨W0, hW0⟩ : ∃ W0, w.alloc (.cells #[Str [], Str [], Str [], Str [], .slice none 0 0] 32) = W0 := ⟨_, rfl⟩
  have x0 : Ext w W0 := by rw [← hW0]; exact Below.alloc (Below.refl _ _) (Nat.le_refl _) _
  have r0 : W0.heap[w.heap.size]? = some (.cells #[Str [], Str [], Str [], Str [], .slice none 0 0] 32 (0, 0)) := by rw [← hW0]; exact Array.getElem?_push_size
  rw [hW0]
  have HR0 := Lib.hid r0
  clear hW0 r0
  refine (cut_of s m one r1 H1.out hs W0 (ext_cell x0 Hm.out)).mono ?_
  rintro e W1 ⟨he, hx1⟩
  subst he
  replace x0 := ext_trans x0 hx1
  replace HR0 := Lib.hid ((hx1.block _ (Array.getElem?_eq_some_iff.1 HR0.out).1).trans HR0.out)
  clear hx1
  go_wp2_with fail
  refine (cut_of r1 m [] bare H2.out hr1 W1 (ext_cell x0 Hm.out)).mono ?_
  rintro e W2 ⟨he, hx1⟩
  subst he
  replace x0 := ext_trans x0 hx1
  replace HR0 := Lib.hid ((hx1.block _ (Array.getElem?_eq_some_iff.1 HR0.out).1).trans HR0.out)
  clear hx1
  go_wp2_with fail
  refine (read_any bare (by omega) W2 (HM.out.ext x0)).mono ?_
  rintro e W3 ⟨bm, v, he, hbm, hmsg, hown, hx1⟩
  subst he
  rw [HA.out, HS.out] at hmsg
  rw [HA.out] at hown
  have hsb : w.heap.size < bm := Nat.lt_of_lt_of_le (Array.getElem?_eq_some_iff.1 HR0.out).1 hbm
  replace x0 := ext_trans x0 hx1
  replace HR0 := Lib.hid ((hx1.block _ (Array.getElem?_eq_some_iff.1 HR0.out).1).trans HR0.out)
  have HMS := Lib.hid (show Msg bm W3.heap.size false [110 :: 61 :: us, 114 :: 61 :: no] W3 from ⟨v, hmsg, row2_of_own hown (by omega) (Nat.le_refl _)⟩)
  clear hx1 hmsg hown
  go_wp2_with fail
  refine (fine_any bm _ false true _ _ HMS.out).mono ?_
  rintro e W4 ⟨he, hm4, hz4⟩
  subst he
  replace x0 := hz4.below x0 (by omega) (Nat.le_refl _)
  replace HR0 := Lib.hid ((hz4.block _ (Array.getElem?_eq_some_iff.1 HR0.out).1 (by omega)).trans HR0.out)
  have hsz4 := Lib.hid hz4.size
  have HMS4 := Lib.hid hm4
  clear hz4 hm4 HMS
  go_wp2_with fail
  obtain ⟨W5, hW5⟩ : ∃ W5, W4.alloc (.cells #[Str [], Str [], Str [], Str [], .slice none 0 0] 32) = W5 := ⟨_, rfl⟩
  obtain ⟨q, hq⟩ : ∃ q, W4.heap.size = q := ⟨_, rfl⟩
  have P0 : PF w w.heap.size bm q (Str []) (Str []) (Str []) (Str []) (.slice none 0 0) false [110 :: 61 :: us, 114 :: 61 :: no] W5 := by
    have hx5 : Ext W4 W5 := by rw [← hW5]; exact Below.alloc (Below.refl _ _) (Nat.le_refl _) _
    refine ⟨ext_trans x0 hx5, (HMS4.out.ext hx5).mono (by have := hsz4.out; omega), ?_, ?_, rfl, hsb, ?_⟩
    · rw [← hW5, ← hq]; exact Array.getElem?_push_size
    · exact (hx5.block _ (Array.getElem?_eq_some_iff.1 HR0.out).1).trans HR0.out
    · obtain ⟨_, hb, _⟩ := HMS4.out
      have := (Array.getElem?_eq_some_iff.1 hb).1
      omega
  rw [hW5, hq]
  have HP0 := Lib.hid P0
  obtain ⟨c0, c1, c2, c3, c4, f0, f1, f2, f3, f4⟩ := P0.cells
  clear P0 hW5 x0 HR0 HMS4 hsz4 hsb hbm
  refine (HFL.out _).mono ?_
  rintro e W ⟨he, hw⟩
  subst he; subst hw
  go_wp2_with fail
  have HP := Lib.hid (PF.store HP0.out 0 (Str fl) (Str fl) (Str []) (Str []) (Str []) (.slice none 0 0) (by simp))
  clear c0 c1 c2 c3 c4 f0 f1 f2 f3 f4 HP0
  refine (fine_any bm _ false true _ _ HP.out.msg).mono ?_
  rintro e V1 ⟨he, hm, hz⟩
  subst he
  replace HP := Lib.hid (HP.out.bz hz hm)
  clear hm hz
  obtain ⟨c0, c1, c2, c3, c4, f0, f1, f2, f3, f4⟩ := HP.out.cells
  have hbp := HBP.out
  go_wp2_with fail
  refine (has_any bm _ _ _ [109] _ HP.out.msg).mono ?_
  rintro e V ⟨he, hw⟩
  subst he; subst hw
  have hhas : hasF [109] [110 :: 61 :: us, 114 :: 61 :: no] = false := rfl
  rw [hhas]
  go_wp2_with fail
  refine (next_hit bm _ _ _ _ _ HP.out.msg).mono ?_
  rintro e V2 ⟨he, hm, hz⟩
  rw [show (110 :: 61 :: us).drop 2 = us from rfl] at he
  subst he
  replace HP := Lib.hid (HP.out.bz hz hm)
  clear hm hz c0 c1 c2 c3 c4 f0 f1 f2 f3 f4
  go_wp2_with fail
  refine (escaped_pln us hul HU0.out HUP.out _ (HF.out.ext HP.out.bel)).mono ?_
  rintro e V3 ⟨he, hx⟩
  subst he
  replace HP := Lib.hid (HP.out.ext hx)
  clear hx
  obtain ⟨c0, c1, c2, c3, c4, f0, f1, f2, f3, f4⟩ := HP.out.cells
  go_wp2_with fail
  replace HP := Lib.hid (PF.store HP.out 2 (Str us) (Str fl) (Str []) (Str us) (Str []) (.slice none 0 0) (by simp))
  clear c0 c1 c2 c3 c4 f0 f1 f2 f3 f4
  refine (fine_any bm _ false true _ _ HP.out.msg).mono ?_
  rintro e V4 ⟨he, hm, hz⟩
  subst he
  replace HP := Lib.hid (HP.out.bz hz hm)
  clear hm hz
  go_wp2_with fail
  refine (next_hit bm _ _ _ _ _ HP.out.msg).mono ?_
  rintro e V5 ⟨he, hm, hz⟩
  rw [show (114 :: 61 :: no).drop 2 = no from rfl] at he
  subst he
  replace HP := Lib.hid (HP.out.bz hz hm)
  clear hm hz
  go_wp2_with fail
  refine (nonceM_any bm _ _ _ no true _ HP.out.msg (fun W => by have h := nonce_scram no (by omega) W; rw [HNO.out] at h; exact h)).mono ?_
  rintro e V6 ⟨he, hm, hz⟩
  subst he
  replace HP := Lib.hid (HP.out.bz hz hm)
  clear hm hz
  obtain ⟨c0, c1, c2, c3, c4, f0, f1, f2, f3, f4⟩ := HP.out.cells
  go_wp2_with fail
  replace HP := Lib.hid (PF.store HP.out 3 (Str no) (Str fl) (Str []) (Str us) (Str no) (.slice none 0 0) (by simp))
  clear c0 c1 c2 c3 c4 f0 f1 f2 f3 f4
  refine (rest_nil bm _ _ _ HP.out.msg).mono ?_
  rintro e V7 ⟨he, hw⟩
  subst he; subst hw
  obtain ⟨c0, c1, c2, c3, c4, f0, f1, f2, f3, f4⟩ := HP.out.cells
  have HQ := Lib.hid (PF.store HP.out 4 (.slice none 0 0) (Str fl) (Str []) (Str us) (Str no) (.slice none 0 0) (by simp))
  cases bp
  · go_wp2_with fail
    refine (denied_nil _).mono ?_
    rintro e V8 ⟨he, hw⟩
    subst he; subst hw
    go_wp2_with fail
    refine (ended_any bm _ _ false _ HQ.out.msg).mono ?_
    rintro e V9 ⟨he, hw⟩
    subst he
    clear c0 c1 c2 c3 c4 f0 f1 f2 f3 f4
    rw [← hw] at HQ
    clear hw HP
    obtain ⟨c0, c1, c2, c3, c4, f0, f1, f2, f3, f4⟩ := HQ.out.cells
    obtain ⟨d0, d1, d2, d3, d4, g0, g1, g2, g3, g4⟩ := HQ.out.cellsR
    go_wp2_with fail
    have hZ := set_at (j := 4) (u := .slice none 0 0) (set_at (j := 3) (u := Str no) (set_at (j := 2) (u := Str us) (set_at (j := 1) (u := Str []) (set_at (j := 0) (u := Str fl) HQ.out.res))))
    have hX : Below w.heap.size w (((((V9.setCell ⟨w.heap.size, 0, none⟩ (Str fl)).setCell ⟨w.heap.size, 1, none⟩ (Str [])).setCell ⟨w.heap.size, 2, none⟩ (Str us)).setCell ⟨w.heap.size, 3, none⟩ (Str no)).setCell ⟨w.heap.size, 4, none⟩ (.slice none 0 0)) :=
      below_set5 HQ.out.bel _ _ _ _ _
    obtain ⟨Z, hZe⟩ : ∃ Z, (((((V9.setCell ⟨w.heap.size, 0, none⟩ (Str fl)).setCell ⟨w.heap.size, 1, none⟩ (Str [])).setCell ⟨w.heap.size, 2, none⟩ (Str us)).setCell ⟨w.heap.size, 3, none⟩ (Str no)).setCell ⟨w.heap.size, 4, none⟩ (.slice none 0 0)) = Z := ⟨_, rfl⟩
    rw [hZe] at hZ hX
    have hZ2 : Z.heap[w.heap.size]? = some (.cells #[Str fl, Str [], Str us, Str no, .slice none 0 0] 32 (0, 0)) := by rw [hZ]; simp
    obtain ⟨z0, z1, z2, z3, z4⟩ := cells5 hZ2
    simp only [hZe]
    refine bodyPost_ret (v := .tuple #[.agg #[Str fl, Str [], Str us, Str no, .slice none 0 0], .int .i64 0]) ?_ rfl ⟨rfl, hX⟩
    clear d0 d1 d2 d3 d4 g0 g1 g2 g3 g4 c0 c1 c2 c3 c4 f0 f1 f2 f3 f4
    simp [results, loadVar, loadCells, Tryd.isAgg32, Tryd.sizeOf32, Tryd.results12, go_sem, z0, z1, z2, z3, z4]
  · go_wp2_with fail
    refine (ended_any bm _ _ true _ HQ.out.msg).mono ?_
    rintro e V9 ⟨he, hw⟩
    subst he
    clear c0 c1 c2 c3 c4 f0 f1 f2 f3 f4
    rw [← hw] at HQ
    clear hw HP
    obtain ⟨c0, c1, c2, c3, c4, f0, f1, f2, f3, f4⟩ := HQ.out.cells
    obtain ⟨d0, d1, d2, d3, d4, g0, g1, g2, g3, g4⟩ := HQ.out.cellsR
    go_wp2_with fail
    have hZ := set_at (j := 4) (u := .slice none 0 0) (set_at (j := 3) (u := Str []) (set_at (j := 2) (u := Str []) (set_at (j := 1) (u := Str []) (set_at (j := 0) (u := Str []) HQ.out.res))))
    have hX : Below w.heap.size w (((((V9.setCell ⟨w.heap.size, 0, none⟩ (Str [])).setCell ⟨w.heap.size, 1, none⟩ (Str [])).setCell ⟨w.heap.size, 2, none⟩ (Str [])).setCell ⟨w.heap.size, 3, none⟩ (Str [])).setCell ⟨w.heap.size, 4, none⟩ (.slice none 0 0)) :=
      below_set5 HQ.out.bel _ _ _ _ _
    obtain ⟨Z, hZe⟩ : ∃ Z, (((((V9.setCell ⟨w.heap.size, 0, none⟩ (Str [])).setCell ⟨w.heap.size, 1, none⟩ (Str [])).setCell ⟨w.heap.size, 2, none⟩ (Str [])).setCell ⟨w.heap.size, 3, none⟩ (Str [])).setCell ⟨w.heap.size, 4, none⟩ (.slice none 0 0)) = Z := ⟨_, rfl⟩
    rw [hZe] at hZ hX
    have hZ2 : Z.heap[w.heap.size]? = some (.cells #[Str [], Str [], Str [], Str [], .slice none 0 0] 32 (0, 0)) := by rw [hZ]; simp
    obtain ⟨z0, z1, z2, z3, z4⟩ := cells5 hZ2
    simp only [hZe]
    refine bodyPost_ret (v := .tuple #[.agg #[Str [], Str [], Str [], Str [], .slice none 0 0], .int .i64 12]) ?_ rfl ⟨rfl, hX⟩
    clear d0 d1 d2 d3 d4 g0 g1 g2 g3 g4 c0 c1 c2 c3 c4 f0 f1 f2 f3 f4
    simp [results, loadVar, loadCells, Tryd.isAgg32, Tryd.sizeOf32, Tryd.results12, go_sem, z0, z1, z2, z3, z4]
end Go.Proofs.YtjkbigecejogdaaDoor

namespace Go.Proofs.YtjkbigecejogdaaDoor
open Go.RowKit Go.Shelf
set_option maxRecDepth 100000
set_option linter.unusedVariables false
set_option linter.unusedSimpArgs false

set_option maxHeartbeats 400000 in
theorem extended_nil (t : List UInt8) (w : World) :
    Calls Tryd.prog 41 #[.slice none 0 0, Str t] w fun e w' => e = .returned (.bool true) ∧ Ext w w' := by
  go_enter Tryd.func41, Tryd.ntmps41
  go_wp2
  go_loop [9] (fun i => i = .int .i64 0) (fun _ => 0)
  case atStart => rfl
  case round =>
    subst hrel
    go_wp2
    go_ret
    exact ⟨rfl, ext_refl _⟩
set_option maxHeartbeats 400000 in
theorem extensions_nil (w : World) :
    Calls Tryd.prog 44 #[.slice none 0 0] w fun e w' => e = .returned (Str []) ∧ Ext w w' := by
  have hB := Lib.hid (bld_new (w.heap.size + 1) w)
  go_enter Tryd.func44, Tryd.ntmps44
  go_wp2
  obtain ⟨W1, hW1⟩ : ∃ W1, w.alloc (.cells #[.pointer none, .slice none 0 0] 72) = W1 := ⟨_, rfl⟩
  have hx : Ext w W1 := by rw [← hW1]; exact Below.alloc (Below.refl _ _) (Nat.le_refl _) _
  rw [hW1] at hB ⊢
  have hsz : W1.heap.size = w.heap.size + 1 := by rw [← hW1]; exact Array.size_push _
  clear hW1
  go_loop [8] (fun i => i = .int .i64 0) (fun _ => 0)
  case atStart => rfl
  case round =>
    subst hrel
    go_wp2_with fail
    refine (String_any (w.heap.size + 1) w.heap.size [] _ hB.out).mono ?_
    rintro e W2 ⟨he, hf⟩
    subst he
    go_wp2_with fail
    go_ret
    exact ⟨rfl, hx.trans (hf.below (B := w.heap.size) (by omega) (Nat.le_refl _) (by omega))⟩
set_option maxHeartbeats 400000 in
theorem sized_ok (s : List UInt8) (hs : s.length ≤ 4096) (w : World) :
    Calls Tryd.prog 38 #[Str s, .bool true] w fun e w' => e = .returned (.tuple #[Str s, .int .i64 0]) ∧ Ext w w' := by
  have hlen : decide ((4096 : Int) < (s.length : Int)) = false := by simp; omega
  go_enter Tryd.func38, Tryd.ntmps38
  go_wp2
  go_ret2
  exact ⟨rfl, ext_refl _⟩
/-- A first without more. -/
def firA (fl us no : List UInt8) : Value := .agg #[Str fl, Str [], Str us, Str no, .slice none 0 0]
set_option maxHeartbeats 400000 in
theorem Head_plain (fl us no : List UInt8) (hfl : fl.length ≤ 10000) (w : World) :
    Calls Tryd.prog 8 #[firA fl us no] w fun e w' => e = .returned (Str (fl ++ [44, 44])) ∧ Ext w w' := by
  unfold firA
  go_enter Tryd.func8, Tryd.ntmps8
  go_wp2
  go_ret
  exact ⟨rfl, Below.alloc (Below.refl _ _) (Nat.le_refl _) _⟩
set_option maxHeartbeats 400000 in
theorem bare_plain (fl us no : List UInt8) (hul : us.length ≤ 10000) (hup : pln us) (hnl : no.length ≤ 10000) (w : World) :
    Calls Tryd.prog 19 #[firA fl us no] w fun e w' => e = .returned (Str (110 :: 61 :: us ++ 44 :: 114 :: 61 :: no)) ∧ Ext w w' := by
  unfold firA
  have HUP := Lib.hid hup
  clear hup
  go_enter Tryd.func19, Tryd.ntmps19
  go_wp2
  obtain ⟨W1, hW1⟩ : ∃ W1, w.alloc (.cells #[Str fl, Str [], Str us, Str no, .slice none 0 0] 32) = W1 := ⟨_, rfl⟩
  have hx : Ext w W1 := by rw [← hW1]; exact Below.alloc (Below.refl _ _) (Nat.le_refl _) _
  have hc : W1.heap[w.heap.size]? = some (.cells #[Str fl, Str [], Str us, Str no, .slice none 0 0] 32 (0, 0)) := by rw [← hW1]; exact Array.getElem?_push_size
  rw [hW1]
  obtain ⟨c0, c1, c2, c3, c4⟩ := cells5 hc
  have HX := Lib.hid hx
  clear hW1 hc hx
  have d2 := ExtW.cell c2; have d3 := ExtW.cell c3; have d4 := ExtW.cell c4
  clear c0 c1 c2 c3 c4
  refine wp_region_ext (by kernel_rfl) (by kernel_rfl) ?_
  repeat (first
    | go_big_quiet_skip
    | (go_big_quiet_want; go_big_quiet_op; (try go_bits); first | go_big_quiet_on | go_big_quiet_call (first | exact Calls.ext_of _ (Escape_pln us hul HUP.out _) | exact Calls.ext_of _ (extensions_nil _))))
  refine wpQuiet_nil ?_
  intro _ hw'
  obtain ⟨nq, hw''⟩ := hw'
  subst hw''
  go_wp2
  go_ret
  exact ⟨rfl, ext_trans HX.out nq.h⟩
set_option maxHeartbeats 1000000 in
theorem right_plain (us no : List UInt8) (hul : us.length ≤ 10000) (hu0 : us ≠ []) (hup : pln us) (hnl : no.length ≤ 10000) (hno : nonF no = true) (w : World) (hF : FormsAt w) :
    Calls Tryd.prog 39 #[firA [110] us no] w fun e w' => e = .returned (.bool true) ∧ Ext w w' := by
  unfold firA
  have HUP := Lib.hid hup; have HU0 := Lib.hid hu0; have HNO := Lib.hid hno; have HF := Lib.hid hF
  clear hup hu0 hno hF
  generalize hfl : ([110] : List UInt8) = fl
  go_enter Tryd.func39, Tryd.ntmps39
  go_wp2_with fail
  obtain ⟨W1, hW1⟩ : ∃ W1, w.alloc (.cells #[Str fl, Str [], Str us, Str no, .slice none 0 0] 32) = W1 := ⟨_, rfl⟩
  have hx : Ext w W1 := by rw [← hW1]; exact Below.alloc (Below.refl _ _) (Nat.le_refl _) _
  have hc : W1.heap[w.heap.size]? = some (.cells #[Str fl, Str [], Str us, Str no, .slice none 0 0] 32 (0, 0)) := by rw [← hW1]; exact Array.getElem?_push_size
  rw [hW1]
  obtain ⟨c0, c1, c2, c3, c4⟩ := cells5 hc
  have HX := Lib.hid hx
  have HC := Lib.hid hc
  clear hW1 hc hx
  go_wp2_with fail
  refine (Escape_pln us hul HUP.out _).mono ?_
  rintro e W2 ⟨he, hx2⟩
  subst he
  go_wp2_with fail
  refine (value_pln us hul HU0.out HUP.out W2 ((HF.out.ext HX.out).ext hx2)).mono ?_
  rintro e W3 ⟨he, hx3⟩
  subst he
  have hx13 := ext_trans hx2 hx3
  have HX3 := Lib.hid (ext_trans HX.out hx13)
  have d0 := ext_cell hx13 c0; have d1 := ext_cell hx13 c1; have d3 := ext_cell hx13 c3; have d4 := ext_cell hx13 c4
  clear hx2 hx3 hx13 c0 c1 c2 c3 c4 HC
  have hfe : (fl == [110]) = true := by rw [← hfl]; rfl
  clear hfl
  go_wp2_with fail
  refine (nonce_scram no (by omega) _).mono ?_
  rintro e W4 ⟨he, hw⟩
  rw [HNO.out] at he
  subst he; subst hw
  go_wp2_with fail
  refine (extended_nil [] _).mono ?_
  rintro e W5 ⟨he, hx5⟩
  subst he
  go_wp2_with fail
  go_ret
  exact ⟨rfl, ext_trans HX3.out hx5⟩
set_option maxHeartbeats 1000000 in
theorem TextF_plain (us no : List UInt8) (hul : us.length ≤ 1000) (hu0 : us ≠ []) (hup : pln us) (hnl : no.length ≤ 1000) (hno : nonF no = true) (w : World) (hF : FormsAt w) :
    Calls Tryd.prog 15 #[firA [110] us no] w fun e w' => e = .returned (.tuple #[Str (110 :: 44 :: 44 :: 110 :: 61 :: (us ++ 44 :: 114 :: 61 :: no)), .int .i64 0]) ∧ Ext w w' := by
  have HUP := Lib.hid hup; have HU0 := Lib.hid hu0; have HNO := Lib.hid hno; have HF := Lib.hid hF
  clear hup hu0 hno hF
  have HH := Lib.hid (fun W => Head_plain [110] us no (by simp) W)
  have HB := Lib.hid (fun W => bare_plain [110] us no (by omega) HUP.out (by omega) W)
  have HR := Lib.hid (fun W hW => right_plain us no (by omega) HU0.out HUP.out (by omega) HNO.out W hW)
  unfold firA at HH HB HR ⊢
  generalize hfl : ([110] : List UInt8) = fl at HH HB HR ⊢
  have hlen : fl.length ≤ 1000 := by rw [← hfl]; simp
  obtain ⟨ba, hba⟩ : ∃ ba, 110 :: 61 :: us ++ 44 :: 114 :: 61 :: no = ba := ⟨_, rfl⟩
  obtain ⟨he, hhe⟩ : ∃ he, fl ++ [44, 44] = he := ⟨_, rfl⟩
  have hbl : ba.length ≤ 2010 := by rw [← hba]; simp; omega
  have hhl : he.length ≤ 1010 := by rw [← hhe]; simp; omega
  have hre : 110 :: 44 :: 44 :: 110 :: 61 :: (us ++ 44 :: 114 :: 61 :: no) = he ++ ba := by rw [← hhe, ← hba, ← hfl]; simp
  rw [hre]
  rw [hba] at HB; rw [hhe] at HH
  have HS := Lib.hid (fun W => sized_ok (he ++ ba) (by simp; omega) W)
  clear hre hba hhe hfl
  go_enter Tryd.func15, Tryd.ntmps15
  go_wp2
  obtain ⟨W1, hW1⟩ : ∃ W1, w.alloc (.cells #[Str fl, Str [], Str us, Str no, .slice none 0 0] 32) = W1 := ⟨_, rfl⟩
  have hx : Ext w W1 := by rw [← hW1]; exact Below.alloc (Below.refl _ _) (Nat.le_refl _) _
  have hc : W1.heap[w.heap.size]? = some (.cells #[Str fl, Str [], Str us, Str no, .slice none 0 0] 32 (0, 0)) := by rw [← hW1]; exact Array.getElem?_push_size
  rw [hW1]
  obtain ⟨c0, c1, c2, c3, c4⟩ := cells5 hc
  have HX := Lib.hid hx
  have HC := Lib.hid hc
  clear hW1 hc hx
  have d0 := ExtW.cell c0; have d1 := ExtW.cell c1; have d2 := ExtW.cell c2; have d3 := ExtW.cell c3; have d4 := ExtW.cell c4
  clear c0 c1 c2 c3 c4
  refine wp_region_ext (by kernel_rfl) (by kernel_rfl) ?_
  repeat (first
    | go_big_quiet_skip
    | (go_big_quiet_want; go_big_quiet_op; (try go_bits); first | go_big_quiet_on | go_big_quiet_call (first | exact Calls.ext_of _ (HH.out _) | exact Calls.ext_of _ (HB.out _) | exact Calls.ext_of _ (HS.out _) | exact Calls.ext_of (W := W1) _ (HR.out _ ((HF.out.ext HX.out).ext (ExtW.h _))))))
  refine wpQuiet_nil ?_
  intro _ hw'
  obtain ⟨nq, hw''⟩ := hw'
  subst hw''
  go_wp2
  go_ret2
  exact ⟨rfl, ext_trans HX.out nq.h⟩
set_option maxHeartbeats 1000000 in
theorem BareF_plain (us no : List UInt8) (hul : us.length ≤ 1000) (hu0 : us ≠ []) (hup : pln us) (hnl : no.length ≤ 1000) (hno : nonF no = true) (w : World) (hF : FormsAt w) :
    Calls Tryd.prog 7 #[firA [110] us no] w fun e w' => e = .returned (.tuple #[Str (110 :: 61 :: (us ++ 44 :: 114 :: 61 :: no)), .int .i64 0]) ∧ Ext w w' := by
  have HUP := Lib.hid hup; have HU0 := Lib.hid hu0; have HNO := Lib.hid hno; have HF := Lib.hid hF
  clear hup hu0 hno hF
  have HB := Lib.hid (fun W => bare_plain [110] us no (by omega) HUP.out (by omega) W)
  have HT := Lib.hid (fun W hW => TextF_plain us no (by omega) HU0.out HUP.out (by omega) HNO.out W hW)
  unfold firA at HB HT ⊢
  generalize hfl : ([110] : List UInt8) = fl at HB HT ⊢
  obtain ⟨ba, hba⟩ : ∃ ba, 110 :: 61 :: us ++ 44 :: 114 :: 61 :: no = ba := ⟨_, rfl⟩
  have hre : 110 :: 61 :: (us ++ 44 :: 114 :: 61 :: no) = ba := hba
  rw [hba] at HB; rw [hre] at HT; rw [hre]
  clear hba hre hfl
  obtain ⟨tx, htx⟩ : ∃ tx, 110 :: 44 :: 44 :: ba = tx := ⟨_, rfl⟩
  rw [htx] at HT
  clear htx
  go_enter Tryd.func7, Tryd.ntmps7
  go_wp2_with fail
  obtain ⟨W1, hW1⟩ : ∃ W1, w.alloc (.cells #[Str fl, Str [], Str us, Str no, .slice none 0 0] 32) = W1 := ⟨_, rfl⟩
  have hx : Ext w W1 := by rw [← hW1]; exact Below.alloc (Below.refl _ _) (Nat.le_refl _) _
  have hc : W1.heap[w.heap.size]? = some (.cells #[Str fl, Str [], Str us, Str no, .slice none 0 0] 32 (0, 0)) := by rw [← hW1]; exact Array.getElem?_push_size
  rw [hW1]
  obtain ⟨c0, c1, c2, c3, c4⟩ := cells5 hc
  have HX := Lib.hid hx
  have HC := Lib.hid hc
  clear hW1 hc hx
  refine (HT.out _ (HF.out.ext HX.out)).mono ?_
  rintro e W2 ⟨he, hx2⟩
  subst he
  have d0 := ext_cell hx2 c0; have d1 := ext_cell hx2 c1; have d2 := ext_cell hx2 c2; have d3 := ext_cell hx2 c3; have d4 := ext_cell hx2 c4
  clear c0 c1 c2 c3 c4 HC
  go_wp2_with fail
  refine (HB.out _).mono ?_
  rintro e W3 ⟨he, hx3⟩
  subst he
  go_wp2_with fail
  go_ret2
  exact ⟨rfl, ext_trans HX.out (ext_trans hx2 hx3)⟩
end Go.Proofs.YtjkbigecejogdaaDoor

namespace Go.Proofs.YtjkbigecejogdaaDoor
open Go.RowKit Go.Shelf
set_option maxRecDepth 100000
set_option linter.unusedVariables false
set_option linter.unusedSimpArgs false

theorem first_one (w : World) (hM : MaxAt w) (hF : FormsAt w) :
    Calls Tryd.prog 12 #[Str [110, 44, 44, 110, 61, 117, 115, 101, 114, 44, 114, 61, 97, 98, 99]] w fun e w' => e = .returned (.tuple #[firA [110] [117, 115, 101, 114] [97, 98, 99], .int .i64 0]) ∧ Ext w w' :=
  ParseFirst_plain _ [110] [44, 110, 61, 117, 115, 101, 114, 44, 114, 61, 97, 98, 99] [110, 61, 117, 115, 101, 114, 44, 114, 61, 97, 98, 99] [110] [117, 115, 101, 114] [97, 98, 99] false (by decide) (by decide) (by decide) (by decide) (by decide)
    (fun W => flag_n W) (by decide) (by decide) (by decide) (by decide) (by decide) (by unfold pln; decide) (by decide) (by decide) w hM hF
theorem first_two (w : World) (hM : MaxAt w) (hF : FormsAt w) :
    Calls Tryd.prog 12 #[Str [112, 61, 116, 108, 115, 44, 44, 110, 61, 117, 44, 114, 61, 97]] w fun e w' => e = .returned (.tuple #[firA [] [] [], .int .i64 12]) ∧ Ext w w' :=
  ParseFirst_plain _ [112, 61, 116, 108, 115] [44, 110, 61, 117, 44, 114, 61, 97] [110, 61, 117, 44, 114, 61, 97] [112] [117] [97] true (by decide) (by decide) (by decide) (by decide) (by decide)
    (fun W => flag_p [116, 108, 115] (by decide) (by decide) (by decide) W) (by decide) (by decide) (by decide) (by decide) (by decide) (by unfold pln; decide) (by decide) (by decide) w hM hF
set_option maxHeartbeats 1000000 in
theorem awake_law (w : World) (hM : MaxAt w) (hF : FormsAt w) :
    Calls Tryd.prog 4 #[] w fun e w' => e = .returned (.bool true) ∧ Ext w w' := by
  have HM := Lib.hid hM; have HF := Lib.hid hF
  have H1 := Lib.hid (first_one w hM hF)
  clear hM hF
  have H2 := Lib.hid (fun W hM hF => first_two W hM hF)
  have H3 := Lib.hid (fun W hF => BareF_plain [117, 115, 101, 114] [97, 98, 99] (by decide) (by decide) (by unfold pln; decide) (by decide) (by decide) W hF)
  have H4 := Lib.hid (fun W => Head_plain [110] [117, 115, 101, 114] [97, 98, 99] (by decide) W)
  unfold firA at H1 H2 H3 H4
  go_enter Tryd.func4, Tryd.ntmps4
  go_wp2_with fail
  refine H1.out.mono ?_
  rintro e W1 ⟨he, hx1⟩
  subst he
  go_wp2_with fail
  obtain ⟨W2, hW2⟩ : ∃ W2, W1.alloc (.cells #[Str [110], Str [], Str [117, 115, 101, 114], Str [97, 98, 99], .slice none 0 0] 32) = W2 := ⟨_, rfl⟩
  have hx2 : Ext W1 W2 := by rw [← hW2]; exact Below.alloc (Below.refl _ _) (Nat.le_refl _) _
  have hc : W2.heap[W1.heap.size]? = some (.cells #[Str [110], Str [], Str [117, 115, 101, 114], Str [97, 98, 99], .slice none 0 0] 32 (0, 0)) := by rw [← hW2]; exact Array.getElem?_push_size
  have hX2 := Lib.hid (ext_trans hx1 hx2)
  rw [show (W1.alloc (Obj.cells #[Value.string { data := #[110] }, Value.string { data := #[] }, Value.string { data := #[117, 115, 101, 114] }, Value.string { data := #[97, 98, 99] }, Value.slice none 0 0] 32)) = W2 from hW2]
  obtain ⟨c0, c1, c2, c3, c4⟩ := cells5 hc
  clear hW2 hx1 hx2 hc
  refine (H3.out _ (HF.out.ext hX2.out)).mono ?_
  rintro e W3 ⟨he, hx3⟩
  subst he
  have hX3 := Lib.hid (ext_trans hX2.out hx3)
  replace c0 := ext_cell hx3 c0; replace c1 := ext_cell hx3 c1; replace c2 := ext_cell hx3 c2; replace c3 := ext_cell hx3 c3; replace c4 := ext_cell hx3 c4
  clear hx3
  go_wp2_with fail
  refine (H2.out _ (HM.out.ext hX3.out) (HF.out.ext hX3.out)).mono ?_
  rintro e W4 ⟨he, hx4⟩
  subst he
  have hX4 := Lib.hid (ext_trans hX3.out hx4)
  replace c0 := ext_cell hx4 c0; replace c1 := ext_cell hx4 c1; replace c2 := ext_cell hx4 c2; replace c3 := ext_cell hx4 c3; replace c4 := ext_cell hx4 c4
  clear hx4
  have al : ∀ {a : Addr} {v : Value}, W4.cell? a = some v → ∀ o, (W4.alloc o).cell? a = some v := fun h o => ext_cell (Below.alloc (Below.refl _ _) (Nat.le_refl _) o) h
  replace c0 := al c0; replace c1 := al c1; replace c2 := al c2; replace c3 := al c3; replace c4 := al c4
  clear al
  go_wp2_with fail
  refine (H4.out _).mono ?_
  rintro e W5 ⟨he, hx5⟩
  subst he
  go_wp2_with fail
  go_ret
  exact ⟨rfl, ext_trans hX4.out (ext_trans (Below.alloc (Below.refl _ _) (Nat.le_refl _) _) hx5)⟩
end Go.Proofs.YtjkbigecejogdaaDoor
