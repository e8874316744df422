/-
  A slice of fields (api.Pair) as a card's parameter: opened to a row.
-/
import Derived.WalkKit
import Derived.ProofKit
import Derived.OpenShut
import Derived.ShutString
import Derived.ChangeOld
import Derived.Below
import Derived.Test.YtmflnffjhfejhaaGreatDoorRows
import Derived.Test.YtmflnffjhfejhaaGreatDoorHfl
import Derived.Test.YtmflnffjhfejhaaGreatDoorKit
namespace Go.Proofs.YtmflnffjhfejhaaGreatDoor
open Go.ChangeShapes Go.WideShapes Go.RowKit
set_option maxRecDepth 100000
set_option linter.unusedVariables false
set_option linter.unusedSimpArgs false

abbrev RowP (w : World) (v : Value) (xs : List Pr) : Prop := RowC 2 prC w v xs
def TruePr (p : Pr) : Prop := True
section
variable {H : Type} {enc : TypeId × Value → H} {w : World} {base : Nat} {spare : Nat → Bool} {held : Bool}
theorem open_pairs {r : Reach} {b0 : Nat} {v : Value} {d : DataW H} {p : List MemPlace} (hv : Value.okWide Tryz.prog w r b0 27 v) (h : DataW.Trod enc Tryz.prog w base spare held 27 v d p) :
    ∃ ls : List Pr, RowP w v ls ∧ ∀ x ∈ ls, TruePr x := by
  obtain ⟨a0, len0, cap0, rfl⟩ := okWide_slice Tryz.underlying27 hv
  obtain ⟨fuel, hf⟩ := h
  rcases open_slice_fields Tryz.underlying27 Tryz.underlying53 (by kernel_rfl) (by kernel_rfl) hf with ⟨hcs, _⟩ | ⟨a, len, cap, m, D, Pl, hcs, _, hl, hm, hmm, _, hx⟩
  · simp [Value.cells] at hcs
    obtain ⟨rfl, rfl, rfl⟩ := hcs
    exact ⟨[], ⟨none, 0, rfl, .inl ⟨rfl, rfl⟩, Nat.le_refl _, by simp [maxLen], fun h => absurd rfl h⟩, fun x hx => by simp at hx⟩
  · simp [Value.cells] at hcs
    obtain ⟨rfl, rfl, rfl⟩ := hcs
    obtain ⟨g, o, ai⟩ := a
    have hml : len0 ≤ m := by rw [hmm]; split <;> omega
    by_cases h0 : len0 = 0
    · subst h0
      exact ⟨[], ⟨_, cap0, rfl, .inr ⟨_, rfl⟩, by simp, hm, fun h => absurd rfl h⟩, fun x hx => by simp at hx⟩
    have hai : ai = none := by
      cases ai with
      | none => rfl
      | some q =>
        obtain ⟨ys, n, _, _, hys, hfl⟩ := hx 0 (by omega)
        obtain ⟨c0, y0, k0, _⟩ := hfl 0 _ rfl
        simp [World.cell?, Addr.add] at k0
        split at k0 <;> simp at k0
    subst hai
    have hel : ∀ i, i < len0 → ∃ x : Pr, TruePr x ∧ ∀ (j : Nat) u, (prC x)[j]? = some u → w.cell? ⟨g, o + (2 * i + j), none⟩ = some u := fun i hi => by
      obtain ⟨ys, n, _, _, hys, hfl⟩ := hx i (by omega)
      obtain ⟨c0, y0, k0, _, t0⟩ := hfl 0 _ rfl
      obtain ⟨c1, y1, k1, _, t1⟩ := hfl 1 _ rfl
      obtain ⟨s1, e1, rfl, w1⟩ := DataW.trod_string Tryz.underlying9 t0
      obtain ⟨s2, e2, rfl, w2⟩ := DataW.trod_string Tryz.underlying9 t1
      obtain ⟨l1, rfl⟩ : ∃ l : List UInt8, s1 = ⟨l.toArray⟩ := str_of s1
      obtain ⟨l2, rfl⟩ : ∃ l : List UInt8, s2 = ⟨l.toArray⟩ := str_of s2
      simp only [List.cons.injEq, and_true] at e1 e2
      subst e1 e2
      refine ⟨⟨l1, l2⟩, trivial, fun j u hu => ?_⟩
      have hj : j < 2 := (List.getElem?_eq_some_iff.1 hu).1
      have hadd : ∀ j, (⟨g, o, none⟩ : Addr).add (i * 2 + j) = ⟨g, o + (2 * i + j), none⟩ := fun j => by rw [Nat.mul_comm i 2]; exact adr_some g o _
      match j, hj with
      | 0, _ => simp at hu; subst hu; rw [← hadd]; exact k0
      | 1, _ => simp at hu; subst hu; rw [← hadd]; exact k1
    obtain ⟨xs, hxl, hP, hrow⟩ := rowC_mk (z := 2) (f := prC) (W := w) (g := g) (o := o) (n := len0) (cap := cap0) (P := TruePr) hl hm (fun i hi => hel i hi)
    exact ⟨xs, hrow, hP⟩
end
end Go.Proofs.YtmflnffjhfejhaaGreatDoor
