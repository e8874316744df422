/-
  ref16.Covers; a rule that another one covers holds nowhere where that doesn't.
-/
import Derived.BigGuardPart
import Derived.RegionTactic
import Derived.Deep.RegionHeld3
import Derived.Deep.DrawnRows
import Derived.Test.YtjbobblnicnhnaaDoorRows
import Derived.Test.YtjbobblnicnhnaaDoorOvd
import Derived.Test.YtjbobblnicnhnaaDoorHol
namespace Go.Proofs.YtjbobblnicnhnaaDoor
open Go.RowKit
set_option maxRecDepth 100000
attribute [local go_sem ↓] Go.wp_at_zero Go.wp_at_succ
set_option linter.unusedVariables false
set_option linter.unusedSimpArgs false

/-! ### The plain law -/
theorem over_fit (a b h : List UInt8) (ho : overB a b = true) (hf : fit b h = true) : fit a h = true := by
  unfold overB at ho
  rcases Bool.or_eq_true _ _ ▸ ho with h1 | h1
  · have : a = [42] := by simpa using h1
    rw [this]; exact fit_all h
  · rcases Bool.or_eq_true _ _ ▸ h1 with h2 | h2
    · have : a = b := by simpa using h2
      rw [this]; exact hf
    · rw [Bool.and_eq_true] at h2
      obtain ⟨h3, h4⟩ := h2
      obtain ⟨hs, hn⟩ := (cut_star a).2 h3
      generalize (Lib.cut a [42]).1 = p at *
      generalize (Lib.cut a [42]).2.1 = q at *
      unfold overJ at h4
      simp only [Bool.and_eq_true, contains_star, Bool.not_eq_true', decide_eq_false_iff_not] at h4
      obtain ⟨h5, h6, h7⟩ := h4
      by_cases hq : q = []
      · subst hq
        rw [if_pos rfl] at h7
        unfold Lib.hasPrefix at h7
        rw [List.isPrefixOf_iff_prefix] at h7
        rw [hs]; exact fit_front p b h hn h7 hf
      · rw [if_neg hq] at h7
        unfold Lib.hasSuffix at h7
        rw [List.isSuffixOf_iff_suffix] at h7
        have hp : p = [] := by
          rcases Decidable.em (p = []) with e | e
          · exact e
          · simp [e, hq] at h6
        rw [hs, hp]; exact fit_back q b h h5 h7 hf
theorem fits_cover (a b s : List UInt8) (h1 : fitsB a b = true) (h2 : fitsB b s = true) : fitsB a s = true := by
  unfold fitsB at *
  simp only [Bool.or_eq_true, beq_iff_eq] at *
  rcases h1 with h1 | h1
  · exact .inl h1
  · rw [h1]; exact h2
/-- A rule that another one covers holds nowhere where that doesn't. -/
theorem cover_hold (a b : Ru) (ro te ho : List UInt8) (p : Int) (hc : coverB a b = true) (hh : holdB b ro te ho p = true) : holdB a ro te ho p = true := by
  unfold coverB at hc
  unfold holdB at *
  simp only [Bool.and_eq_true, decide_eq_true_eq] at *
  obtain ⟨c1, c2, c3, c4, c5⟩ := hc
  obtain ⟨h1, h2, h3, h4, h5⟩ := hh
  exact ⟨fits_cover _ _ _ c1 h1, fits_cover _ _ _ c2 h2, over_fit _ _ _ c3 h3, by omega, by omega⟩

/-! ### The document's Covers -/
set_option maxHeartbeats 4000000 in
theorem coversR_any (r s : Ru) (hr : RuB r) (hs : RuB s) (w : World) :
    Calls Tryd.prog 15 #[ruV r, ruV s] w fun e w' => e = .returned (.bool (coverB r s)) ∧ Ext w w' := by
  have HP := Lib.hid (fun W => overR_any r.ho s.ho hr.ho hs.ho W)
  have hok := Lib.hid (show coverB r s = (((r.ro == [42]) || (r.ro == s.ro)) && (((r.te == [42]) || (r.te == s.te)) && (overD r.ho s.ho && decide (r.fr ≤ s.fr ∧ s.to ≤ r.to)))) by rw [← over_eq]; rfl)
  obtain ⟨al, ro, te, ho, fr, to⟩ := r
  obtain ⟨al', ro', te', ho', fr', to'⟩ := s
  simp only at HP hok ⊢
  have e1 := str_beq ro ro'
  have e2 := str_beq te te'
  generalize overD ho ho' = b3 at *
  cases v1 : (ro == [42]) <;> cases v2 : (ro == ro') <;> cases v3 : (te == [42]) <;> cases v4 : (te == te')
  all_goals
    rw [v1, v2, v3, v4] at hok
    go_enter Tryd.func15, Tryd.ntmps15
    go_wp2_with fail
    obtain ⟨W1, hW1⟩ : ∃ W1, (w.alloc (.cells #[.bool al, Str ro, Str te, Str ho, .int .i64 fr, .int .i64 to] 26)).alloc (.cells #[.bool al', Str ro', Str te', Str ho', .int .i64 fr', .int .i64 to'] 26) = W1 := ⟨_, rfl⟩
    have hx : Ext w W1 := by rw [← hW1]; exact allocs_ext w [.cells #[.bool al, Str ro, Str te, Str ho, .int .i64 fr, .int .i64 to] 26, .cells #[.bool al', Str ro', Str te', Str ho', .int .i64 fr', .int .i64 to'] 26]
    have hc : W1.heap[w.heap.size]? = some (.cells #[.bool al, Str ro, Str te, Str ho, .int .i64 fr, .int .i64 to] 26 (0, 0)) := by rw [← hW1]; exact allocs_at w [.cells #[.bool al, Str ro, Str te, Str ho, .int .i64 fr, .int .i64 to] 26, .cells #[.bool al', Str ro', Str te', Str ho', .int .i64 fr', .int .i64 to'] 26] 0 _ rfl
    have hd : W1.heap[w.heap.size + 1]? = some (.cells #[.bool al', Str ro', Str te', Str ho', .int .i64 fr', .int .i64 to'] 26 (0, 0)) := by rw [← hW1]; exact allocs_at w [.cells #[.bool al, Str ro, Str te, Str ho, .int .i64 fr, .int .i64 to] 26, .cells #[.bool al', Str ro', Str te', Str ho', .int .i64 fr', .int .i64 to'] 26] 1 _ rfl
    try rw [hW1]
    obtain ⟨c0, c1, c2, c3, c4, c5⟩ := cells6 hc
    obtain ⟨d0, d1, d2, d3, d4, d5⟩ := cells6 hd
    have HX := Lib.hid hx
    clear hc hd hx c0 d0
    first
      | (refine (HP.out _).mono ?_
         rintro e W4 ⟨he, hx4⟩
         subst he
         have HX4 := Lib.hid (ext_trans HX.out hx4)
         replace c4 := ext_cell hx4 c4; replace c5 := ext_cell hx4 c5; replace d4 := ext_cell hx4 d4; replace d5 := ext_cell hx4 d5
         clear hx4 HX c1 c2 c3 d1 d2 d3
         cases b3
         all_goals
           go_wp2
           all_goals
             go_ret
             exact ⟨ret_bool (by rw [hok.out, Bool.eq_iff_iff]; simp; try omega), HX4.out⟩)
      | (go_ret
         exact ⟨ret_bool (by rw [hok.out]; rfl), by rw [hW1]; exact HX.out⟩)
      | (go_ret
         exact ⟨ret_bool (by rw [hok.out]; rfl), HX.out⟩)
end Go.Proofs.YtjbobblnicnhnaaDoor
