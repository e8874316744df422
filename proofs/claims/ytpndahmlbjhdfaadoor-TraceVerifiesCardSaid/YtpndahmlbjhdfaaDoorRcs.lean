/-
  Cuts of rows of structs: v[k:], v[:k].
-/
import Derived.Test.YtpndahmlbjhdfaaDoorRows
import Derived.Test.YtpndahmlbjhdfaaDoorKit
namespace Go.Proofs.YtpndahmlbjhdfaaDoor
open Go.RowKit
set_option linter.unusedVariables false
set_option linter.unusedSimpArgs false
section
variable {α : Type} {P : Program} {t e : TypeId} {z : Nat} {f : α → List Value}
theorem row_from (ht : P.underlying t = some (.slice e)) (hz : ∀ w, (Go.sizeOf e).run P w = .ok z w) {W : World} {v : Value} {xs : List α} (h : RowC z f W v xs) {k : Nat} (hk : k ≤ xs.length) :
    ∃ ao cap, RowC z f W (.slice ao (xs.length - k) cap) (xs.drop k) ∧ (∀ j, rblk (.slice ao (xs.length - k) cap) (xs.drop k).length j → rblk v xs.length j) ∧
      ∀ W', (Instr.slice t v (some (.int .i64 (k : Int))) none none).run P W' = .ok (.slice ao (xs.length - k) cap) W' := by
  obtain ⟨ao, cap, hv, h0, h1, h2, h3⟩ := h
  subst hv
  have hrun : ∀ W', (Instr.slice t (.slice ao xs.length cap) (some (.int .i64 (k : Int))) none none).run P W' = .ok (.slice (if cap = k then ao else ao.map (·.add (k * z))) (xs.length - k) (cap - k)) W' := fun W' => by
    have hs := run_sliceBound (P := P) (w := W') .i64 (k : Int) xs.length .sliceB (by omega) (by omega)
    simp [Instr.slice, Instr.sliceBounds, run_underlying ht, hs, hz, Result.andThen]
  refine ⟨_, _, ⟨_, _, by rw [List.length_drop], ?_, by rw [List.length_drop]; omega, by omega, fun hne => ?_⟩, ?_, hrun⟩
  · rcases h0 with ⟨rfl, rfl⟩ | ⟨a, rfl⟩
    · exact .inl ⟨by split <;> rfl, by omega⟩
    · exact .inr (by split <;> exact ⟨_, rfl⟩)
  · have hlt : k < xs.length := by
      rcases Nat.lt_or_ge k xs.length with h | h
      · exact h
      · exact absurd (List.drop_of_length_le h) hne
    obtain ⟨g, o, rfl, hc⟩ := h3 (fun h => by rw [h] at hlt; simp at hlt)
    rw [if_neg (by omega)]
    have hadd : (⟨g, o, none⟩ : Addr).add (k * z) = ⟨g, o + k * z, none⟩ := by unfold Addr.add; split <;> simp_all
    refine ⟨g, o + k * z, by rw [Option.map_some, hadd], fun j x hj i u hu => ?_⟩
    have hj' : xs[k + j]? = some x := by rw [List.getElem?_drop] at hj; exact hj
    have := hc (k + j) x hj' i u hu
    rw [show o + k * z + (z * j + i) = o + (z * (k + j) + i) by rw [Nat.mul_add, Nat.mul_comm k z]; omega]
    exact this
  · rintro j ⟨hp, hb⟩
    rw [List.length_drop] at hp
    refine ⟨by omega, ?_⟩
    rw [if_neg (by omega)] at hb
    cases ao with
    | none => simp [Value.ownBlock] at hb
    | some a =>
      simp only [Value.ownBlock, Option.map_some, Option.some.injEq] at hb ⊢
      rw [← hb]; unfold Addr.add; split <;> rfl
theorem row_to (ht : P.underlying t = some (.slice e)) (hz : ∀ w, (Go.sizeOf e).run P w = .ok z w) {W : World} {v : Value} {xs : List α} (h : RowC z f W v xs) {k : Nat} (hk : k ≤ xs.length) :
    ∃ ao cap, RowC z f W (.slice ao k cap) (xs.take k) ∧ (∀ j, rblk (.slice ao k cap) (xs.take k).length j → rblk v xs.length j) ∧
      ∀ W', (Instr.slice t v none (some (.int .i64 (k : Int))) none).run P W' = .ok (.slice ao k cap) W' := by
  obtain ⟨ao, cap, hv, h0, h1, h2, h3⟩ := h
  subst hv
  have hlen : (xs.take k).length = k := by simp; omega
  have hrun : ∀ W', (Instr.slice t (.slice ao xs.length cap) none (some (.int .i64 (k : Int))) none).run P W' = .ok (.slice (if cap = 0 then ao else ao.map (·.add 0)) k cap) W' := fun W' => by
    have hs := run_sliceBound (P := P) (w := W') .i64 (k : Int) cap .sliceAcap (by omega) (by omega)
    simp [Instr.slice, Instr.sliceBounds, run_underlying ht, hs, hz, Result.andThen]
  refine ⟨_, _, ⟨_, _, by rw [hlen], ?_, by omega, h2, fun hne => ?_⟩, ?_, hrun⟩
  · rcases h0 with ⟨rfl, rfl⟩ | ⟨a, rfl⟩
    · exact .inl ⟨by split <;> rfl, rfl⟩
    · exact .inr (by split <;> exact ⟨_, rfl⟩)
  · have hne' : xs ≠ [] := fun h => hne (by rw [h]; simp)
    obtain ⟨g, o, rfl, hc⟩ := h3 hne'
    have hcap : cap ≠ 0 := by have := List.length_pos_iff.2 hne'; omega
    rw [if_neg hcap]
    have hadd : (⟨g, o, none⟩ : Addr).add 0 = ⟨g, o, none⟩ := by simp [Addr.add]
    refine ⟨g, o, by rw [Option.map_some, hadd], fun j x hj i u hu => ?_⟩
    have hj' : xs[j]? = some x := by
      rw [List.getElem?_take] at hj
      split at hj
      · exact hj
      · cases hj
    exact hc j x hj' i u hu
  · rintro j ⟨hp, hb⟩
    refine ⟨by omega, ?_⟩
    cases ao with
    | none => split at hb <;> simp [Value.ownBlock] at hb
    | some a =>
      split at hb
      · exact hb
      · simp only [Value.ownBlock, Option.map_some, Option.some.injEq] at hb ⊢
        rw [← hb]; simp [Addr.add]
end
end Go.Proofs.YtpndahmlbjhdfaaDoor
