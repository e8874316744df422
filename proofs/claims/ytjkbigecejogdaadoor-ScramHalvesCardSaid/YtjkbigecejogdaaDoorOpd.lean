/-
  A message as a card's parameter by value: opened; ScramHalves as its card asks it.
-/
import Derived.WalkKit
import Derived.ProofKit
import Derived.OpenShut
import Derived.ShutString
import Derived.ChangeOld
import Derived.Below
import Derived.Test.YtjkbigecejogdaaDoorRows
import Derived.Test.YtjkbigecejogdaaDoorKit
import Derived.Test.YtjkbigecejogdaaDoorMsv
import Derived.Test.YtjkbigecejogdaaDoorHla
namespace Go.Proofs.YtjkbigecejogdaaDoor
open Go.ChangeShapes Go.WideShapes Go.ChangeAt Go.RowKit
set_option maxRecDepth 100000
set_option linter.unusedVariables false
set_option linter.unusedSimpArgs false

theorem byt_wf {n : Int} (h : (Lit.int .u8 n).wf = true) : Value.int .u8 n = Byt (UInt8.ofNat n.toNat) := by
  simp [Lit.wf] at h
  have e1 : IntKind.u8.min = 0 := rfl
  have e2 : IntKind.u8.max = 255 := rfl
  simp only [Byt, UInt8.toNat_ofNat']
  congr 1
  omega
theorem sl_ints {w : World} {x : Addr} {len cap : Nat} {zs : List Int} (h1 : len ≤ cap) (h2 : cap ≤ maxLen) (h3 : len ≤ zs.length) (h4 : ∀ i, i < zs.length → w.cell? (x.add i) = some (.int .u8 (zs.getD i 0))) (h5 : ∀ n ∈ zs, (Lit.int .u8 n).wf = true) : ∃ l, SlB w (.slice (some x) len cap) l := by
  refine ⟨(zs.take len).map fun n => UInt8.ofNat n.toNat, some x, cap, by simp; omega, by simp; omega, h2, (fun h => by cases h), fun j u hu => ?_⟩
  have hj : j < len ∧ j < zs.length := by
    have := (List.getElem?_eq_some_iff.1 hu).1
    simp at this; omega
  have hc := h4 j hj.2
  have hm : zs.getD j 0 ∈ zs := by simp [List.getD, hj.2]
  have hw := byt_wf (h5 _ hm)
  rw [hw] at hc
  show w.cell? (x.add j) = some u
  rw [hc]
  simp [List.getElem?_take_of_lt hj.1, List.getElem?_eq_getElem hj.2] at hu
  rw [← hu]
  simp [List.getD, hj.2]
def TruePr (p : Pr) : Prop := True
section
variable {H : Type} {enc : TypeId × Value → H} {w : World} {base : Nat} {spare : Nat → Bool} {held : Bool}
theorem open_bytes1 {c : Value} {y : DataW H × List MemPlace} {fuel : Nat} (hf : DataW.trod enc Tryd.prog w base spare held fuel 23 [c] = some y) : ∃ l : List UInt8, SlB w c l := by
  obtain ⟨d, p⟩ := y
  rcases open_ints Tryd.underlying23 Tryd.underlying5 (by kernel_rfl) hf with ⟨hcs, _⟩ | ⟨x, l, c, zs, hcs, _, hl, hm, hz, _, hcell, hwz⟩
  · simp at hcs
    subst hcs
    exact ⟨[], sl_nil w⟩
  · simp at hcs
    subst hcs
    exact sl_ints hl hm (by rw [hz]; split <;> omega) hcell hwz

theorem open_pairs1 {c : Value} {y : DataW H × List MemPlace} {fuel : Nat} (hf : DataW.trod enc Tryd.prog w base spare held fuel 22 [c] = some y) :
    ∃ ls : List Pr, RowC 2 prC w c ls := by
  obtain ⟨d, p⟩ := y
  rcases open_slice_fields Tryd.underlying22 Tryd.underlying42 (by kernel_rfl) (by kernel_rfl) hf with ⟨hcs, _⟩ | ⟨a, len, cap, m, D, Pl, hcs, _, hl, hm, hmm, _, hx⟩
  · simp at hcs
    subst hcs
    exact ⟨[], none, 0, rfl, .inl ⟨rfl, rfl⟩, Nat.le_refl _, by simp [maxLen], fun h => absurd rfl h⟩
  · simp at hcs
    subst hcs
    obtain ⟨g, o, ai⟩ := a
    have hml : len ≤ m := by rw [hmm]; split <;> omega
    by_cases h0 : len = 0
    · subst h0
      exact ⟨[], _, cap, rfl, .inr ⟨_, rfl⟩, by simp, hm, fun h => absurd rfl h⟩
    have hai : ai = none := by
      cases ai with
      | none => rfl
      | some q =>
        obtain ⟨ys, n, _, _, hys, hfl⟩ := hx 0 (by omega)
        obtain ⟨c0, y0, k0, _⟩ := hfl 0 _ rfl
        simp [World.cell?, Addr.add] at k0
        split at k0 <;> simp at k0
    subst hai
    have hel : ∀ i, i < len → ∃ x : Pr, TruePr x ∧ ∀ (j : Nat) u, (prC x)[j]? = some u → w.cell? ⟨g, o + (2 * i + j), none⟩ = some u := fun i hi => by
      obtain ⟨ys, n, _, _, hys, hfl⟩ := hx i (by omega)
      obtain ⟨c0, y0, k0, _, t0⟩ := hfl 0 _ rfl
      obtain ⟨c1, y1, k1, _, t1⟩ := hfl 1 _ rfl
      obtain ⟨s1, e1, rfl, w1⟩ := DataW.trod_string Tryd.underlying9 t0
      obtain ⟨s2, e2, rfl, w2⟩ := DataW.trod_string Tryd.underlying9 t1
      obtain ⟨l1, rfl⟩ : ∃ l : List UInt8, s1 = ⟨l.toArray⟩ := str_of s1
      obtain ⟨l2, rfl⟩ : ∃ l : List UInt8, s2 = ⟨l.toArray⟩ := str_of s2
      simp only [List.cons.injEq, and_true] at e1 e2
      subst e1 e2
      refine ⟨⟨l1, l2⟩, trivial, fun j u hu => ?_⟩
      have hj : j < 2 := (List.getElem?_eq_some_iff.1 hu).1
      have hadd : ∀ j, (⟨g, o, none⟩ : Addr).add (i * 2 + j) = ⟨g, o + (2 * i + j), none⟩ := fun j => by rw [Nat.mul_comm i 2]; exact adr_some g o _
      match j, hj with
      | 0, _ => simp at hu; subst hu; rw [← hadd]; exact k0
      | 1, _ => simp at hu; subst hu; rw [← hadd]; exact k1
    obtain ⟨xs, hxl, hP, hrow⟩ := rowC_mk (z := 2) (f := prC) (W := w) (g := g) (o := o) (n := len) (cap := cap) (P := TruePr) hl hm (fun i hi => hel i hi)
    exact ⟨xs, hrow⟩
theorem km_cells : Tryd.prog.cellsOf 25 = 11 := by kernel_rfl
theorem km_str : Tryd.prog.cellsOf 9 = 1 := by kernel_rfl
theorem km_int : Tryd.prog.cellsOf 3 = 1 := by kernel_rfl
theorem km_row : Tryd.prog.cellsOf 22 = 1 := by kernel_rfl
theorem km_byt : Tryd.prog.cellsOf 23 = 1 := by kernel_rfl
/-- What a message is. -/
structure MsgIs (w : World) (v : Value) (m : Ms) : Prop where
  is : MsIs 0 w v m
  k1 : -9223372036854775808 ≤ m.kind
  k2 : m.kind ≤ 9223372036854775807
  i1 : -9223372036854775808 ≤ m.iter
  i2 : m.iter ≤ 9223372036854775807
theorem open_msg {r : Reach} {b0 : Nat} {v : Value} {d : DataW H} {p : List MemPlace} (hv : Value.okWide Tryd.prog w r b0 25 v) (h : DataW.Trod enc Tryd.prog w base spare held 25 v d p) :
    ∃ m, MsgIs w v m := by
  obtain ⟨cs, rfl, hsz⟩ := okWide_struct Tryd.underlying25 hv
  obtain ⟨fuel, hf⟩ := h
  obtain ⟨xs, n, _, hx, _, hlen, hg⟩ := DataW.trod_struct Tryd.underlying25 hf
  obtain ⟨l⟩ := cs
  match l, hsz.trans km_cells with
  | [c0, c1, c2, c3, c4, c5, c6, c7, c8, c9, c10], _ =>
    match xs, hlen with
    | [y0, y1, y2, y3, y4, y5, y6, y7, y8, y9, y10], _ =>
      have g0 : DataW.trod enc Tryd.prog w base spare held n 3 [c0] = some y0 := by simpa [Value.cells, km_int] using hg 0 _ rfl
      have g1 : DataW.trod enc Tryd.prog w base spare held n 9 [c1] = some y1 := by simpa [Value.cells, km_str] using hg 1 _ rfl
      have g2 : DataW.trod enc Tryd.prog w base spare held n 9 [c2] = some y2 := by simpa [Value.cells, km_str] using hg 2 _ rfl
      have g3 : DataW.trod enc Tryd.prog w base spare held n 9 [c3] = some y3 := by simpa [Value.cells, km_str] using hg 3 _ rfl
      have g4 : DataW.trod enc Tryd.prog w base spare held n 9 [c4] = some y4 := by simpa [Value.cells, km_str] using hg 4 _ rfl
      have g5 : DataW.trod enc Tryd.prog w base spare held n 22 [c5] = some y5 := by simpa [Value.cells, km_row] using hg 5 _ rfl
      have g6 : DataW.trod enc Tryd.prog w base spare held n 23 [c6] = some y6 := by simpa [Value.cells, km_byt] using hg 6 _ rfl
      have g7 : DataW.trod enc Tryd.prog w base spare held n 3 [c7] = some y7 := by simpa [Value.cells, km_int] using hg 7 _ rfl
      have g8 : DataW.trod enc Tryd.prog w base spare held n 9 [c8] = some y8 := by simpa [Value.cells, km_str] using hg 8 _ rfl
      have g9 : DataW.trod enc Tryd.prog w base spare held n 23 [c9] = some y9 := by simpa [Value.cells, km_byt] using hg 9 _ rfl
      have g10 : DataW.trod enc Tryd.prog w base spare held n 9 [c10] = some y10 := by simpa [Value.cells, km_str] using hg 10 _ rfl
      obtain ⟨n0, e0, rfl, w0⟩ := DataW.trod_int Tryd.underlying3 g0
      obtain ⟨s1, e1, rfl, w1⟩ := DataW.trod_string Tryd.underlying9 g1
      obtain ⟨l1, rfl⟩ : ∃ l : List UInt8, s1 = ⟨l.toArray⟩ := str_of s1
      obtain ⟨s2, e2, rfl, w2⟩ := DataW.trod_string Tryd.underlying9 g2
      obtain ⟨l2, rfl⟩ : ∃ l : List UInt8, s2 = ⟨l.toArray⟩ := str_of s2
      obtain ⟨s3, e3, rfl, w3⟩ := DataW.trod_string Tryd.underlying9 g3
      obtain ⟨l3, rfl⟩ : ∃ l : List UInt8, s3 = ⟨l.toArray⟩ := str_of s3
      obtain ⟨s4, e4, rfl, w4⟩ := DataW.trod_string Tryd.underlying9 g4
      obtain ⟨l4, rfl⟩ : ∃ l : List UInt8, s4 = ⟨l.toArray⟩ := str_of s4
      obtain ⟨l5, hrow⟩ := open_pairs1 g5
      obtain ⟨l6, hb6⟩ := open_bytes1 g6
      obtain ⟨n7, e7, rfl, w7⟩ := DataW.trod_int Tryd.underlying3 g7
      obtain ⟨s8, e8, rfl, w8⟩ := DataW.trod_string Tryd.underlying9 g8
      obtain ⟨l8, rfl⟩ : ∃ l : List UInt8, s8 = ⟨l.toArray⟩ := str_of s8
      obtain ⟨l9, hb9⟩ := open_bytes1 g9
      obtain ⟨s10, e10, rfl, w10⟩ := DataW.trod_string Tryd.underlying9 g10
      obtain ⟨l10, rfl⟩ : ∃ l : List UInt8, s10 = ⟨l.toArray⟩ := str_of s10
      simp only [List.cons.injEq, and_true] at e0 e1 e2 e3 e4 e7 e8 e10
      subst e0 e1 e2 e3 e4 e7 e8 e10
      exact ⟨⟨n0, l1, l2, l3, l4, l5, l6, n7, l8, l9, l10⟩, ⟨_, _, _, rfl, hrow, hb6, hb9, fun k _ => Nat.zero_le k, fun k _ => Nat.zero_le k, fun k _ => Nat.zero_le k⟩, (bounds_i64 w0).1, (bounds_i64 w0).2, (bounds_i64 w7).1, (bounds_i64 w7).2⟩
end
theorem halves_card (w : World) (a : Value) (m : Ms) (h : MsgIs w a m) (hL : LdS w) :
    Calls Tryd.prog 3 #[a] w fun r w' => r = .returned (.bool true) ∧ Ext w w' := by
  obtain ⟨⟨e, s, p, rfl, hr⟩, h1, h2, h3, h4⟩ := h
  exact halves_any m h3 h4 0 e s p w hr hL
end Go.Proofs.YtjkbigecejogdaaDoor
