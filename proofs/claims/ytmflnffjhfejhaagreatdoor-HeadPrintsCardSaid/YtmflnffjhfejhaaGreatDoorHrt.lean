/-
  Lemmas for ref09.Parse: rows' tails, fields of lines.
-/
import Derived.Test.YtmflnffjhfejhaaGreatDoorRows
import Derived.Test.YtmflnffjhfejhaaGreatDoorHhd
import Derived.Test.YtmflnffjhfejhaaGreatDoorHtr
import Derived.Test.YtmflnffjhfejhaaGreatDoorHlr
import Derived.Test.YtmflnffjhfejhaaGreatDoorHsr
namespace Go.Proofs.YtmflnffjhfejhaaGreatDoor
open Go.RowKit
set_option linter.unusedVariables false
set_option linter.unusedSimpArgs false

theorem rowC_tail {α : Type} {z : Nat} {f : α → List Value} {W : World} {g o cap : Nat} {xs : List α} (h : RowC z f W (.slice (some ⟨g, o, none⟩) xs.length cap) xs) (hne : xs ≠ []) (hz : 0 < z) :
    RowC z f W (.slice (some ⟨g, if cap = 1 then o else o + z, none⟩) (xs.length - 1) (cap - 1)) xs.tail ∧ ∀ j x, xs.tail[j]? = some x → ∀ (i : Nat) u, (f x)[i]? = some u → W.cell? ⟨g, (if cap = 1 then o else o + z) + (z * j + i), none⟩ = some u := by
  obtain ⟨ao, cp, hv, h0, h1, h2, h3⟩ := h
  simp only [Value.slice.injEq] at hv
  obtain ⟨rfl, _, rfl⟩ := hv
  obtain ⟨g', o', ha, hc⟩ := h3 hne
  simp only [Option.some.injEq, Addr.mk.injEq] at ha
  obtain ⟨rfl, rfl, _⟩ := ha
  have hpos := List.length_pos_iff.2 hne
  have key : ∀ j x, xs.tail[j]? = some x → ∀ (i : Nat) u, (f x)[i]? = some u → W.cell? ⟨g, (if cap = 1 then o else o + z) + (z * j + i), none⟩ = some u := fun j x hj i u hu => by
    have hj2 : xs[j + 1]? = some x := by rw [List.getElem?_tail] at hj; exact hj
    have hlt : j + 1 < xs.length := (List.getElem?_eq_some_iff.1 hj2).1
    rw [if_neg (by omega)]
    have := hc (j + 1) x hj2 i u hu
    rw [Nat.mul_add, Nat.mul_one] at this
    rw [show o + z + (z * j + i) = o + (z * j + z + i) by omega]
    exact this
  refine ⟨⟨_, cap - 1, by rw [List.length_tail], .inr ⟨_, rfl⟩, by rw [List.length_tail]; omega, by omega, fun _ => ⟨g, _, rfl, key⟩⟩, key⟩
theorem run_tail2 {P : Program} {t e : TypeId} (ht : P.underlying t = some (.slice e)) (hz : ∀ w, (Go.sizeOf e).run P w = .ok 2 w) {g o n cap : Nat} (hn : 1 ≤ n) :
    ∀ W, (Instr.slice t (.slice (some ⟨g, o, none⟩) n cap) (some (.int .i64 1)) none none).run P W = .ok (.slice (some ⟨g, if cap = 1 then o else o + 2, none⟩) (n - 1) (cap - 1)) W := by
  intro W
  have hs := run_sliceBound (P := P) (w := W) .i64 (1 : Int) n .sliceB (by omega) (by omega)
  by_cases hc : cap = 1
  · simp [Instr.slice, Instr.sliceBounds, run_underlying ht, hs, hz, Result.andThen, Addr.add, hc]
  · simp [Instr.slice, Instr.sliceBounds, run_underlying ht, hs, hz, Result.andThen, Addr.add, hc]
theorem dropW_text (l : List UInt8) : (l.dropWhile spC).all textC = l.all textC := by
  induction l with
  | nil => rfl
  | cons a l ih =>
    rw [List.dropWhile_cons]
    split
    · rename_i h
      rw [ih, List.all_cons]
      have : textC a = true := by
        have h2 : a = 32 ∨ a = 9 := by simpa [spC] using h
        rcases h2 with rfl | rfl <;> rfl
      rw [this, Bool.true_and]
    · rfl
theorem textB_trim (l : List UInt8) : textB (Lib.trimS l [32, 9]) = textB l := by
  show ((((l.reverse.dropWhile spC).reverse)).dropWhile spC).all textC = l.all textC
  rw [dropW_text, List.all_reverse, dropW_text, List.all_reverse]
theorem tkA_none (x : List UInt8 × Bool) (h : (58 : UInt8) ∉ x.1) : tkA x = false := by
  unfold tkA fldB
  rcases cut_byte x.1 58 with ⟨p, q, _, he, _⟩ | ⟨hc, _⟩
  · exact absurd (by rw [he]; simp) h
  · rw [hc]; rfl
theorem tkA_some (x : List UInt8 × Bool) (p q : List UInt8) (h : Lib.cut x.1 [58] = (p, q, true)) : tkA x = (tokenB p && textB q) ∧ tkF x = ⟨p, Lib.trimS q [32, 9]⟩ := by
  unfold tkA fldB tkF fldP
  rw [h]
  simp only [textB_trim]
  exact ⟨by simp, trivial⟩
theorem headC_cases (asks : Bool) (L : List (List UInt8 × Bool)) : headC asks L = if firstB asks (L.getD 0 ([], false)).1 && L.tail.all tkA then (if 24 < L.tail.length then 3 else 0) else 4 := by
  unfold headC cnt
  rw [List.length_map]
  cases firstB asks (L.getD 0 ([], false)).1 <;> cases L.tail.all tkA <;> simp
end Go.Proofs.YtmflnffjhfejhaaGreatDoor
