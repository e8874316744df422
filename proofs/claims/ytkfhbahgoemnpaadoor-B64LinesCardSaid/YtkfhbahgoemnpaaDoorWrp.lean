/-
  b64.Wrap, ref03.Wrap: a text as lines.
-/
import Derived.Test.YtkfhbahgoemnpaaDoorRows
import Derived.Test.YtkfhbahgoemnpaaDoorShf
import Derived.Test.YtkfhbahgoemnpaaDoorRgp
namespace Go.Proofs.YtkfhbahgoemnpaaDoor
open Go.RowKit
set_option linter.unusedVariables false
set_option linter.unusedSimpArgs false

/-- Pieces as lines. -/
def linesL (xs : List (List UInt8)) : List UInt8 := Lib.join xs [10]
theorem lines_snoc (xs : List (List UInt8)) (y : List UInt8) : linesL (xs ++ [y]) = linesL xs ++ (if xs = [] then [] else [10]) ++ y := by
  cases xs with
  | nil => simp [linesL, Lib.join_one, Lib.join_nil]
  | cons x r => simp [linesL, Lib.join_cons, Lib.joinTail]
theorem lines_len (m : Nat) (l : List UInt8) : ∀ k, (linesL (grpN m l k)).length ≤ k * (l.length + 1)
  | 0 => by simp [grpN, linesL, Lib.join_nil]
  | k + 1 => by
    have h := lines_len m l k
    rw [grpN_succ, lines_snoc]
    have h2 : ((l.drop (m * k)).take m).length ≤ l.length := by simp; omega
    have h3 : (if grpN m l k = [] then ([] : List UInt8) else [10]).length ≤ 1 := by split <;> simp
    simp only [List.length_append]
    rw [Nat.add_mul, Nat.one_mul]
    omega

theorem wrap_any (l : List UInt8) (z : Int) (w : World) (hl : l.length ≤ 1000) :
    Calls Tryd.prog 9 #[Str l, .int .i64 z] w fun e w' => e = .returned (Str (linesL (grpL z l))) ∧ Ext w w' := by
  have hlen : (linesL (grpL z l)).length ≤ 2000000 := by
    have h1 := lines_len (gsz z l.length) l (gcnt (gsz z l.length) l.length)
    have h2 := grpL_len z l
    rw [grpL, grpN_len] at h2
    have h3 : gcnt (gsz z l.length) l.length * (l.length + 1) ≤ 1000 * 1001 := Nat.mul_le_mul (by omega) (by omega)
    unfold grpL; omega
  have hgl := grpL_len z l
  have Hlen := Lib.hid hlen; clear hlen
  obtain ⟨W0, hW0⟩ : ∃ W0, (w.alloc (.cells #[Str l] 9)).alloc (.cells #[.int .i64 z] 3) = W0 := ⟨_, rfl⟩
  have hW0' : W0 = allocs w [.cells #[Str l] 9, .cells #[.int .i64 z] 3] := hW0.symm
  have b0 : W0.heap[w.heap.size]? = some (.cells #[Str l] 9 (0, 0)) := by rw [hW0']; exact allocs_at w _ 0 _ rfl
  have b1 : W0.heap[w.heap.size + 1]? = some (.cells #[.int .i64 z] 3 (0, 0)) := by rw [hW0']; exact allocs_at w _ 1 _ rfl
  have hext0 : Ext w W0 := by rw [hW0']; exact allocs_ext _ _
  have HW0 := Lib.hid hW0; clear hW0 hW0'
  go_enter Tryd.func9, Tryd.ntmps9
  go_wp2_with (go_at_call 18; refine (groups_any _ _ _).mono ?_; rintro e w' ⟨rfl, hw'⟩; rw [HW0.out] at hw'; subst hw')
  refine (collect_any l z w.heap.size (w.heap.size + 1) _ (by omega) b0 b1).mono ?_
  rintro e W1 ⟨v, rfl, hown, hbx⟩
  have hext := Bx.below hext0 hbx (Nat.le_refl _) (Nat.le_refl _)
  have hsl := sl_of_own hown
  have hmap : ((grpL z l).map fun g => (⟨g.toArray⟩ : ByteArray)).map (·.data.toList) = grpL z l := by
    rw [List.map_map]; exact (List.map_congr_left fun g _ => rfl).trans (List.map_id _)
  rcases hown.2 with ⟨hv, hn⟩ | ⟨g, cap, cur, hv, hbg, hg, hn, hm, _, ht⟩
  · subst hv
    have h0 : grpL z l = [] := List.eq_nil_of_length_eq_zero hn
    have H0 := Lib.hid h0; clear h0 hown hbx hsl hmap
    go_wp2_with (go_at_call 16; refine (Tryd.strings_Join_none _ _ _ _).mono ?_; rintro e w' ⟨rfl, rfl⟩)
    go_ret
    exact ⟨by rw [H0.out]; rfl, hext⟩
  · subst hv
    obtain ⟨ao, c2, hve, hcap, hmax, hnil, hcell⟩ := hsl
    rw [List.length_map] at hve hcap
    cases hve
    have hc := fun (j : Nat) (x : ByteArray) (hj : ((grpL z l).map fun g => (⟨g.toArray⟩ : ByteArray))[j]? = some x) => by
      have := hcell j (.string x) (by
        rw [List.getElem?_map] at hj ⊢
        cases hq : (grpL z l)[j]? with
        | none => rw [hq] at hj; simp at hj
        | some q => rw [hq] at hj; simp at hj ⊢; exact hj)
      rw [adr_some] at this
      exact this
    have hJ := Tryd.strings_Join g 0 cap ((grpL z l).map fun g => (⟨g.toArray⟩ : ByteArray)) ⟨#[10]⟩ W1 hc (Array.getElem?_eq_some_iff.1 hg).1 (by simp; omega) (by simpa using hcap) (by rw [hmap]; have := Hlen.out; unfold linesL at this; exact Nat.le_trans this (by omega))
    rw [hmap, List.length_map] at hJ
    have HJ := Lib.hid hJ; clear hJ hc hcell hown hbx hg ht hmap
    go_wp2_with (go_at_call 16; refine HJ.out.mono ?_; rintro e w' ⟨rfl, hext2⟩)
    go_ret
    exact ⟨rfl, hext.trans (hext2.mono hext.size)⟩

set_option maxHeartbeats 1000000 in
theorem refWrap_any (l : List UInt8) (z : Int) (w : World) (hl : l.length ≤ 1000) :
    Calls Tryd.prog 8 #[Str l, .int .i64 z] w fun e w' => e = .returned (Str (linesL (grpL z l))) ∧ Ext w w' := by
  have HG := Lib.hid (fun W => refGroups_any l z W (by omega))
  have hres : grpL z l = grpN (gsz z l.length) l (gcnt (gsz z l.length) l.length) := rfl
  have hcl := gcnt_le (n := l.length) (gsz_pos z l.length)
  have hll := lines_len (gsz z l.length) l
  rw [hres] at HG ⊢
  generalize gsz z l.length = m at *
  generalize gcnt m l.length = N at *
  have hNl := grpN_len m l N
  go_enter Tryd.func8, Tryd.ntmps8
  go_wp2_with (go_at_call 15; refine (HG.out _).mono ?_; rintro e W1 ⟨v, rfl, hown, hext⟩; obtain ⟨ao, cap, hve, hcap, hmax, hnil, hcell⟩ := sl_of_own hown; rw [List.length_map] at hve hcap; rw [hNl] at hve hcap; subst hve; clear hown)
  have hix := run_index_adr (P := Tryd.prog) Tryd.underlying36 Tryd.sizeOf9 hnil hcap
  have HC := Lib.hid hcell; have Hll := Lib.hid hll
  clear hcell hcap hnil hll hres
  go_loop [5, 12] (fun o i => ∃ k : Nat, k ≤ N ∧ i = .int .i64 k ∧ o = Str (linesL (grpN m l k))) (fun _ i => N - (intOf i).toNat)
  case atStart => exact ⟨0, by omega, rfl, rfl⟩
  case round =>
    obtain ⟨k, hk, rfl, rfl⟩ := hrel
    by_cases h3 : k < N
    · have hck := HC.out k (Str ((l.drop (m * k)).take m)) (by rw [List.getElem?_map]; simp [grpN, h3])
      have hln := lines_snoc (grpN m l k) ((l.drop (m * k)).take m)
      rw [← grpN_succ] at hln
      have hl1 : (linesL (grpN m l k)).length ≤ 2000000 := by
        have := Hll.out k
        have h3 : k * (l.length + 1) ≤ 1000 * 1001 := Nat.mul_le_mul (by omega) (by omega)
        omega
      have hgl : ((l.drop (m * k)).take m).length ≤ 1000 := by simp; omega
      have hne : (grpN m l k = []) = (k = 0) := by
        have := grpN_len m l k
        apply propext; constructor
        · intro h; rw [h] at this; simpa using this.symm
        · intro h; subst h; rfl
      simp only [hne] at hln
      generalize (l.drop (m * k)).take m = g at *
      generalize linesL (grpN m l k) = o at *
      clear hne
      by_cases hk0 : k = 0
      · rw [if_pos hk0] at hln
        subst hk0
        have hix0 : ∀ W, (Instr.indexAt 36 (.slice ao N cap) (.int .i64 0)).run Tryd.prog W = .ok (.pointer (some (adr ao 0))) W := fun W => hix W 0 (by omega)
        have Hln := Lib.hid hln; clear hln
        go_wp2
        go_round
        case rel => exact ⟨1, by omega, by go_num, by rw [Hln.out]; simp [Str, append_list]⟩
        case measure => simp [intOf] <;> omega
      · rw [if_neg hk0] at hln
        have Hln := Lib.hid hln; clear hln
        have hk1 : decide (0 < (k : Int)) = true := by simp; omega
        go_wp2
        go_round
        case rel => exact ⟨k + 1, by omega, by go_num, by rw [Hln.out]; simp [Str, append_list]⟩
        case measure => simp [intOf] <;> omega
    · obtain rfl : k = N := by omega
      go_wp2
      go_ret
      exact ⟨rfl, hext⟩
end Go.Proofs.YtkfhbahgoemnpaaDoor
