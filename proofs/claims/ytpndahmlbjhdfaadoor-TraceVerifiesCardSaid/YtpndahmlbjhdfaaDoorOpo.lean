/-
  A slice of the law's operations as a parameter: opened to a row.
-/
import Derived.Test.YtpndahmlbjhdfaaDoorRows
import Derived.Test.YtpndahmlbjhdfaaDoorTbp
import Derived.Test.YtpndahmlbjhdfaaDoorKit
import Derived.WalkKit
import Derived.ProofKit
import Derived.OpenShut
import Derived.ShutString
namespace Go.Proofs.YtpndahmlbjhdfaaDoor
open Go.ChangeShapes Go.WideShapes Go.RowKit
set_option maxRecDepth 100000
set_option linter.unusedVariables false
set_option linter.unusedSimpArgs false
section
variable {H : Type} {enc : TypeId × Value → H} {w : World} {base : Nat} {spare : Nat → Bool} {held : Bool}
theorem open_ops {r : Reach} {b0 : Nat} {v : Value} {d : DataW H} {p : List MemPlace} (hv : Value.okWide Tryd.prog w r b0 22 v) (h : DataW.Trod enc Tryd.prog w base spare held 22 v d p) :
    ∃ ls : List OpE, RowO w v ls ∧ ∀ x ∈ ls, OpE.ok x := by
  obtain ⟨a0, len0, cap0, rfl⟩ := okWide_slice Tryd.underlying22 hv
  obtain ⟨fuel, hf⟩ := h
  rcases open_slice_fields Tryd.underlying22 Tryd.underlying74 (by kernel_rfl) (by kernel_rfl) hf with ⟨hcs, _⟩ | ⟨a, len, cap, m, D, Pl, hcs, _, hl, hm, hmm, _, hx⟩
  · simp [Value.cells] at hcs
    obtain ⟨rfl, rfl, rfl⟩ := hcs
    exact ⟨[], ⟨none, 0, rfl, .inl ⟨rfl, rfl⟩, Nat.le_refl _, by simp [maxLen], fun h => absurd rfl h⟩, fun x hx => by simp at hx⟩
  · simp [Value.cells] at hcs
    obtain ⟨rfl, rfl, rfl⟩ := hcs
    obtain ⟨g, o, ai⟩ := a
    have hml : len0 ≤ m := by rw [hmm]; split <;> omega
    by_cases h0 : len0 = 0
    · subst h0
      exact ⟨[], ⟨_, cap0, rfl, .inr ⟨_, rfl⟩, by simp, hm, fun h => absurd rfl h⟩, fun x hx => by simp at hx⟩
    have hai : ai = none := by
      cases ai with
      | none => rfl
      | some q =>
        obtain ⟨ys, n, _, _, hys, hfl⟩ := hx 0 (by omega)
        obtain ⟨c0, y0, k0, _⟩ := hfl 0 _ rfl
        simp [World.cell?, Addr.add] at k0
        split at k0 <;> simp at k0
    subst hai
    have hel : ∀ i, i < len0 → ∃ x : OpE, OpE.ok x ∧ ∀ (j : Nat) u, (opC x)[j]? = some u → w.cell? ⟨g, o + (4 * i + j), none⟩ = some u := fun i hi => by
      obtain ⟨ys, n, _, _, hys, hfl⟩ := hx i (by omega)
      obtain ⟨c0, y0, k0, _, t0⟩ := hfl 0 _ rfl
      obtain ⟨c1, y1, k1, _, t1⟩ := hfl 1 _ rfl
      obtain ⟨c2, y2, k2, _, t2⟩ := hfl 2 _ rfl
      obtain ⟨c3, y3, k3, _, t3⟩ := hfl 3 _ rfl
      obtain ⟨n0, e0, rfl, w0⟩ := DataW.trod_int Tryd.underlying23 t0
      obtain ⟨s1, e1, rfl, w1⟩ := DataW.trod_string Tryd.underlying9 t1
      obtain ⟨n2, e2, rfl, w2⟩ := DataW.trod_int Tryd.underlying3 t2
      obtain ⟨s3, e3, rfl, w3⟩ := DataW.trod_string Tryd.underlying9 t3
      obtain ⟨l1, rfl⟩ : ∃ l : List UInt8, s1 = ⟨l.toArray⟩ := str_of s1
      obtain ⟨l3, rfl⟩ : ∃ l : List UInt8, s3 = ⟨l.toArray⟩ := str_of s3
      obtain ⟨m0, rfl⟩ : ∃ m : Nat, n0 = (m : Int) := ⟨n0.toNat, by have := (bounds_u64 w0).1; omega⟩
      simp only [List.cons.injEq, and_true] at e0 e1 e2 e3
      subst e0 e1 e2 e3
      refine ⟨⟨m0, l1, n2, l3⟩, ⟨by have := (bounds_u64 w0).2; show m0 < 18446744073709551616; omega, (bounds_i64 w2).1, (bounds_i64 w2).2⟩, fun j u hu => ?_⟩
      have hj : j < 4 := (List.getElem?_eq_some_iff.1 hu).1
      have hadd : ∀ j, (⟨g, o, none⟩ : Addr).add (i * 4 + j) = ⟨g, o + (4 * i + j), none⟩ := fun j => by rw [Nat.mul_comm i 4]; exact adr_some g o _
      match j, hj with
      | 0, _ => simp [opC] at hu; subst hu; rw [← hadd]; exact k0
      | 1, _ => simp [opC] at hu; subst hu; rw [← hadd]; exact k1
      | 2, _ => simp [opC] at hu; subst hu; rw [← hadd]; exact k2
      | 3, _ => simp [opC] at hu; subst hu; rw [← hadd]; exact k3
    obtain ⟨xs, hxl, hP, hrow⟩ := rowC_mk (z := 4) (f := opC) (W := w) (g := g) (o := o) (n := len0) (cap := cap0) (P := OpE.ok) hl hm (fun i hi => hel i hi)
    exact ⟨xs, hrow, hP⟩
end
end Go.Proofs.YtpndahmlbjhdfaaDoor
