/-
  ref07.Split: a text's pieces.
-/
import Derived.Test.YtjkbigecejogdaaDoorRows
import Derived.Test.YtjkbigecejogdaaDoorSca
namespace Go.Proofs.YtjkbigecejogdaaDoor
open Go.RowKit Go.Shelf
set_option maxRecDepth 100000
set_option linter.unusedVariables false
set_option linter.unusedSimpArgs false

theorem spl_headp : ∀ (p r : List UInt8), (∀ c ∈ p, c ≠ 44) → spl (p ++ 44 :: r) = p :: spl r
  | [], r, _ => by simp [spl]
  | c :: p, r, h => by
    have ih := spl_headp p r (fun x hx => h x (by simp [hx]))
    have hc : c ≠ 44 := h c (by simp)
    simp [spl, hc, ih]
theorem spl_none : ∀ (p : List UInt8), (∀ c ∈ p, c ≠ 44) → spl p = [p]
  | [], _ => by simp [spl]
  | c :: p, h => by
    have ih := spl_none p (fun x hx => h x (by simp [hx]))
    have hc : c ≠ 44 := h c (by simp)
    simp [spl, hc, ih]
theorem run_slice_str {P : Program} {t : TypeId} (ht : P.underlying t = some .string) (l : List UInt8) (a b : Nat) (hab : a ≤ b) (hb : b ≤ l.length) (W : World) :
    (Instr.slice t (Str l) (some (.int .i64 (a : Int))) (some (.int .i64 (b : Int))) none).run P W = .ok (Str ((l.take b).drop a)) W := by
  have h := run_slice_string (P := P) (w := W) t ⟨l.toArray⟩ .i64 .i64 (a : Int) (b : Int) ht (by omega) (by omega) (by rw [size_list]; omega)
  rw [h]
  simp [extract_list]
/-- What is done at i, where the piece that is open begins at f. -/
def Sp (l : List UInt8) (f i : Nat) (ps : List (List UInt8)) : Prop := (i ≤ l.length ∧ f ≤ i ∧ spl l = ps ++ spl (l.drop f) ∧ ∀ c ∈ (l.take i).drop f, c ≠ 44) ∨ (i = l.length + 1 ∧ f = i ∧ spl l = ps)
theorem sp_start (l : List UInt8) : Sp l 0 0 [] := .inl ⟨by omega, by omega, by simp, by simp⟩
theorem sp_on {l : List UInt8} {f i : Nat} {ps : List (List UInt8)} (h : Sp l f i ps) (hi : i < l.length) (hc : bt l i ≠ 44) : Sp l f (i + 1) ps := by
  rcases h with ⟨h1, h2, h3, h4⟩ | ⟨h1, _⟩
  · refine .inl ⟨by omega, by omega, h3, fun c hc' => ?_⟩
    rw [take_snoc l i hi, List.drop_append_of_le_length (by simp; omega)] at hc'
    rcases List.mem_append.1 hc' with h | h
    · exact h4 c h
    · simp at h; subst h; exact hc
  · omega
theorem sp_cut {l : List UInt8} {f i : Nat} {ps : List (List UInt8)} (h : Sp l f i ps) (hi : i < l.length) (hc : bt l i = 44) : Sp l (i + 1) (i + 1) (ps ++ [(l.take i).drop f]) := by
  rcases h with ⟨h1, h2, h3, h4⟩ | ⟨h1, _⟩
  · refine .inl ⟨by omega, by omega, ?_, by simp⟩
    have e : l.drop f = (l.take i).drop f ++ 44 :: l.drop (i + 1) := by
      rw [← hc, bt_get l i hi, ← List.drop_eq_getElem_cons hi]
      rw [show l.drop i = (l.drop f).drop (i - f) by rw [List.drop_drop]; congr 1; omega, show (l.take i).drop f = (l.drop f).take (i - f) by rw [List.drop_take]]
      exact (List.take_append_drop _ _).symm
    rw [h3, e, spl_headp _ _ h4]
    simp
  · omega
theorem sp_end {l : List UInt8} {f i : Nat} {ps : List (List UInt8)} (h : Sp l f i ps) (hi : i = l.length) : Sp l (i + 1) (i + 1) (ps ++ [(l.take i).drop f]) := by
  rcases h with ⟨h1, h2, h3, h4⟩ | ⟨h1, _⟩
  · refine .inr ⟨by omega, rfl, ?_⟩
    subst hi
    rw [List.take_length] at h4 ⊢
    rw [h3, spl_none _ h4]
  · omega
theorem infoStr : (Tryd.prog.info? 9).map (fun i => (i.zero, i.size, i.bytes)) = some (some (.string ⟨#[]⟩), 1, 16) := by kernel_rfl

end Go.Proofs.YtjkbigecejogdaaDoor
