/-
  A head as a card's parameter by value: opened.
-/
import Derived.WalkKit
import Derived.ProofKit
import Derived.OpenShut
import Derived.ShutString
import Derived.ChangeOld
import Derived.Below
import Derived.Test.YtmflnffjhfejhaaGreatDoorRows
import Derived.Test.YtmflnffjhfejhaaGreatDoorHfl
import Derived.Test.YtmflnffjhfejhaaGreatDoorKit
import Derived.Test.YtmflnffjhfejhaaGreatDoorOpp
namespace Go.Proofs.YtmflnffjhfejhaaGreatDoor
open Go.ChangeShapes Go.WideShapes Go.RowKit
set_option maxRecDepth 100000
set_option linter.unusedVariables false
set_option linter.unusedSimpArgs false

section
variable {H : Type} {enc : TypeId × Value → H} {w : World} {base : Nat} {spare : Nat → Bool} {held : Bool}
theorem open_pairs1 {c : Value} {y : DataW H × List MemPlace} {fuel : Nat} (hf : DataW.trod enc Tryz.prog w base spare held fuel 27 [c] = some y) :
    ∃ ls : List Pr, RowP w c ls := by
  obtain ⟨d, p⟩ := y
  rcases open_slice_fields Tryz.underlying27 Tryz.underlying53 (by kernel_rfl) (by kernel_rfl) hf with ⟨hcs, _⟩ | ⟨a, len, cap, m, D, Pl, hcs, _, hl, hm, hmm, _, hx⟩
  · simp at hcs
    subst hcs
    exact ⟨[], none, 0, rfl, .inl ⟨rfl, rfl⟩, Nat.le_refl _, by simp [maxLen], fun h => absurd rfl h⟩
  · simp at hcs
    subst hcs
    obtain ⟨g, o, ai⟩ := a
    have hml : len ≤ m := by rw [hmm]; split <;> omega
    by_cases h0 : len = 0
    · subst h0
      exact ⟨[], _, cap, rfl, .inr ⟨_, rfl⟩, by simp, hm, fun h => absurd rfl h⟩
    have hai : ai = none := by
      cases ai with
      | none => rfl
      | some q =>
        obtain ⟨ys, n, _, _, hys, hfl⟩ := hx 0 (by omega)
        obtain ⟨c0, y0, k0, _⟩ := hfl 0 _ rfl
        simp [World.cell?, Addr.add] at k0
        split at k0 <;> simp at k0
    subst hai
    have hel : ∀ i, i < len → ∃ x : Pr, TruePr x ∧ ∀ (j : Nat) u, (prC x)[j]? = some u → w.cell? ⟨g, o + (2 * i + j), none⟩ = some u := fun i hi => by
      obtain ⟨ys, n, _, _, hys, hfl⟩ := hx i (by omega)
      obtain ⟨c0, y0, k0, _, t0⟩ := hfl 0 _ rfl
      obtain ⟨c1, y1, k1, _, t1⟩ := hfl 1 _ rfl
      obtain ⟨s1, e1, rfl, w1⟩ := DataW.trod_string Tryz.underlying9 t0
      obtain ⟨s2, e2, rfl, w2⟩ := DataW.trod_string Tryz.underlying9 t1
      obtain ⟨l1, rfl⟩ : ∃ l : List UInt8, s1 = ⟨l.toArray⟩ := str_of s1
      obtain ⟨l2, rfl⟩ : ∃ l : List UInt8, s2 = ⟨l.toArray⟩ := str_of s2
      simp only [List.cons.injEq, and_true] at e1 e2
      subst e1 e2
      refine ⟨⟨l1, l2⟩, trivial, fun j u hu => ?_⟩
      have hj : j < 2 := (List.getElem?_eq_some_iff.1 hu).1
      have hadd : ∀ j, (⟨g, o, none⟩ : Addr).add (i * 2 + j) = ⟨g, o + (2 * i + j), none⟩ := fun j => by rw [Nat.mul_comm i 2]; exact adr_some g o _
      match j, hj with
      | 0, _ => simp at hu; subst hu; rw [← hadd]; exact k0
      | 1, _ => simp at hu; subst hu; rw [← hadd]; exact k1
    obtain ⟨xs, hxl, hP, hrow⟩ := rowC_mk (z := 2) (f := prC) (W := w) (g := g) (o := o) (n := len) (cap := cap) (P := TruePr) hl hm (fun i hi => hel i hi)
    exact ⟨xs, hrow⟩
theorem kh_cells : Tryz.prog.cellsOf 29 = 4 := by kernel_rfl
theorem kh_str : Tryz.prog.cellsOf 9 = 1 := by kernel_rfl
theorem kh_int : Tryz.prog.cellsOf 3 = 1 := by kernel_rfl
theorem kh_row : Tryz.prog.cellsOf 27 = 1 := by kernel_rfl
/-- What a head is. -/
structure HeadIs (w : World) (v : Value) (one two : List UInt8) (st : Int) (fv : Value) (ls : List Pr) : Prop where
  shape : v = .agg #[Str one, Str two, .int .i64 st, fv]
  row : RowP w fv ls
  lo : -9223372036854775808 ≤ st
  hi : st ≤ 9223372036854775807
theorem open_head {r : Reach} {b0 : Nat} {v : Value} {d : DataW H} {p : List MemPlace} (hv : Value.okWide Tryz.prog w r b0 29 v) (h : DataW.Trod enc Tryz.prog w base spare held 29 v d p) :
    ∃ one two st fv ls, HeadIs w v one two st fv ls := by
  obtain ⟨cs, rfl, hsz⟩ := okWide_struct Tryz.underlying29 hv
  obtain ⟨fuel, hf⟩ := h
  obtain ⟨xs, n, _, hx, _, hlen, hg⟩ := DataW.trod_struct Tryz.underlying29 hf
  obtain ⟨l⟩ := cs
  match l, hsz.trans kh_cells with
  | [c0, c1, c2, c3], _ =>
    match xs, hlen with
    | [y0, y1, y2, y3], _ =>
      have g0 : DataW.trod enc Tryz.prog w base spare held n 9 [c0] = some y0 := by simpa [Value.cells, kh_str] using hg 0 _ rfl
      have g1 : DataW.trod enc Tryz.prog w base spare held n 9 [c1] = some y1 := by simpa [Value.cells, kh_str] using hg 1 _ rfl
      have g2 : DataW.trod enc Tryz.prog w base spare held n 3 [c2] = some y2 := by simpa [Value.cells, kh_int] using hg 2 _ rfl
      have g3 : DataW.trod enc Tryz.prog w base spare held n 27 [c3] = some y3 := by simpa [Value.cells, kh_row] using hg 3 _ rfl
      obtain ⟨s1, e1, rfl, w1⟩ := DataW.trod_string Tryz.underlying9 g0
      obtain ⟨s2, e2, rfl, w2⟩ := DataW.trod_string Tryz.underlying9 g1
      obtain ⟨n4, e4, rfl, w4⟩ := DataW.trod_int Tryz.underlying3 g2
      obtain ⟨ls, hrow⟩ := open_pairs1 g3
      obtain ⟨l1, rfl⟩ : ∃ l : List UInt8, s1 = ⟨l.toArray⟩ := str_of s1
      obtain ⟨l2, rfl⟩ : ∃ l : List UInt8, s2 = ⟨l.toArray⟩ := str_of s2
      simp only [List.cons.injEq, and_true] at e1 e2 e4
      subst e1 e2 e4
      exact ⟨l1, l2, n4, c3, ls, rfl, hrow, (bounds_i64 w4).1, (bounds_i64 w4).2⟩
end
end Go.Proofs.YtmflnffjhfejhaaGreatDoor
