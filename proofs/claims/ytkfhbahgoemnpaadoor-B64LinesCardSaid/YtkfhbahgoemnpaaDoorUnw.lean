/-
  b64.Unwrap, ref03.Letters.
-/
import Derived.Test.YtkfhbahgoemnpaaDoorRows
import Derived.Test.YtkfhbahgoemnpaaDoorShf
import Derived.Test.YtkfhbahgoemnpaaDoorWrp
import Derived.Test.YtkfhbahgoemnpaaDoorNum
namespace Go.Proofs.YtkfhbahgoemnpaaDoor
open Go.RowKit
set_option linter.unusedVariables false
set_option linter.unusedSimpArgs false

/-! ### The plain law -/
theorem repl_filter (c : UInt8) : ∀ s : List UInt8, Lib.replaceK [c] [] (Lib.count s [c]) s = s.filter (· != c)
  | [] => rfl
  | b :: l => by
    have ih := repl_filter c l
    by_cases h : b = c
    · subst h
      rw [Lib.count_cons_eq, Nat.add_comm]
      have hix : Lib.index (b :: l) [b] = ((0 : Nat) : Int) := by rw [Lib.index]; simp [List.isPrefixOf]
      rw [Lib.replaceK_hit _ _ _ _ _ hix]
      simpa using ih
    · rw [Lib.count_cons_ne b c l h]
      have hf : (b :: l).filter (· != c) = b :: l.filter (· != c) := by simp [h]
      rw [hf]
      cases hk : Lib.count l [c] with
      | zero => rw [hk] at ih; rw [← ih]; rfl
      | succ j =>
        obtain ⟨i, hi⟩ := Lib.index_of_count (s := l) (old := [c]) (by omega)
        have hp : [c].isPrefixOf (b :: l) = false := by simp [List.isPrefixOf, Ne.symm h]
        have hix : Lib.index (b :: l) [c] = ((i + 1 : Nat) : Int) := by
          rw [Lib.index, hp, if_neg (by simp), hi, if_neg (by simp), ]
          omega
        rw [hk] at ih
        rw [Lib.replaceK_hit _ _ _ _ _ hi] at ih
        rw [Lib.replaceK_hit _ _ _ _ _ hix, ← ih]
        simp
theorem replAll_filter (c : UInt8) (s : List UInt8) : Lib.replaceAll s [c] [] = s.filter (· != c) := by
  rw [Lib.replaceAll, Lib.replace, if_neg (by simp), Lib.replaceNum, if_pos (Or.inl (by omega)), repl_filter]

def okF (t : List UInt8) : Bool := t.all fun c => c == 61 || valL plain c != -1
def unl (l : List UInt8) : List UInt8 := l.filter (· != 10)
/-- What Unwrap answers. -/
def unwR (z : Int) (l : List UInt8) : List UInt8 × Nat :=
  if z < 1 then ([], 1) else if okF (unl l) then (if linesL (grpL z (unl l)) = l then (unl l, 0) else ([], 4)) else ([], 4)
theorem okF_snoc (t : List UInt8) (c : UInt8) : okF (t ++ [c]) = (okF t && (c == 61 || valL plain c != -1)) := by simp [okF]
theorem okF_take (t : List UInt8) (k : Nat) (h : okF (t.take k) = false) : okF t = false := by
  cases hg : okF t with
  | false => rfl
  | true =>
    rw [← h]; simp only [okF, List.all_eq_true] at hg ⊢
    exact (List.all_eq_true.2 fun x hx => hg x (List.mem_of_mem_take hx)).symm
theorem unl_len (l : List UInt8) : (unl l).length ≤ l.length := List.length_filter_le _ _

set_option maxHeartbeats 400000 in
theorem letters_any (t : List UInt8) (w : World) (hl : t.length ≤ 10000) :
    Calls Tryd.prog 7 #[Str t] w fun e w' => e = .returned (.bool (okF t)) ∧ w' = w := by
  have hixl : ∀ i, i < t.length → ∀ W, (Instr.index 9 (Str t) (.int .i64 (i : Int))).run Tryd.prog W = .ok (Byt (bt t i)) W := fun i hi W => run_index_str Tryd.underlying9 t i _ rfl hi W
  have HI := Lib.hid hixl; clear hixl
  have Hnum := Lib.hid (fun c W => number_any false c W)
  rw [show alph false = plain from rfl] at Hnum
  go_enter Tryd.func7, Tryd.ntmps7
  go_wp2
  go_loop [3] (fun i => ∃ k : Nat, k ≤ t.length ∧ i = .int .i64 k ∧ okF (t.take k) = true) (fun i => t.length - (intOf i).toNat)
  case atStart => exact ⟨0, by omega, rfl, rfl⟩
  case round =>
    obtain ⟨k, hk, rfl, hok⟩ := hrel
    by_cases h3 : k < t.length
    · have hix := HI.out k h3
      have hs := okF_snoc (t.take k) (bt t k)
      rw [← take_snoc t k h3, hok, Bool.true_and] at hs
      have hbad := Lib.hid (fun h => okF_take t (k + 1) h)
      have hc := (bt t k).toNat_lt
      have hnum := Lib.hid (Hnum.out (bt t k))
      have hv := valL_range plain (bt t k)
      have h61 : (bt t k == 61) = ((bt t k).toNat == 61) := by
        rw [Bool.eq_iff_iff]; simp only [beq_iff_eq]
        constructor
        · intro h; rw [h]; rfl
        · intro h; exact UInt8.toNat_inj.1 (by rw [h]; rfl)
      rw [h61] at hs
      generalize bt t k = c at *
      generalize valL plain c = v at *
      clear hok h61
      by_cases he : c.toNat = 61
      · have hb : (((c.toNat : Int)) != 61) = false := by simp; omega
        rw [show (c.toNat == 61) = true by simp [he], Bool.true_or] at hs
        have HS := Lib.hid hs; clear hs he
        go_wp2_with (go_at_call 14; refine (hnum.out _).mono ?_; rintro e W3 ⟨rfl, rfl⟩)
        go_round
        case rel => exact ⟨k + 1, by omega, by go_num, HS.out⟩
        case measure => simp [intOf] <;> omega
      · have hb : (((c.toNat : Int)) != 61) = true := by simp; omega
        rw [show (c.toNat == 61) = false by simp [he], Bool.false_or] at hs
        have HS := Lib.hid hs; clear hs he
        rcases (show v = -1 ∨ 0 ≤ v by omega) with hneg | hpos
        · subst hneg
          have hf := Lib.hid (hbad.out HS.out)
          go_wp2_with (go_at_call 14; refine (hnum.out _).mono ?_; rintro e W3 ⟨rfl, rfl⟩)
          go_ret
          exact ⟨by rw [hf.out]; rfl, rfl⟩
        · have hv1 : (v != -1) = true := by simp; omega
          have hv2 : decide (v < 0) = false := by simp; omega
          have HS2 := Lib.hid (HS.out.trans hv1)
          clear hv1
          go_wp2_with (go_at_call 14; refine (hnum.out _).mono ?_; rintro e W3 ⟨rfl, rfl⟩)
          go_round
          case rel => exact ⟨k + 1, by omega, by go_num, HS2.out⟩
          case measure => simp [intOf] <;> omega
    · obtain rfl : k = t.length := by omega
      rw [List.take_length] at hok
      have HO := Lib.hid hok; clear hok
      go_wp2
      go_ret
      exact ⟨by rw [HO.out]; rfl, rfl⟩

set_option maxHeartbeats 1000000 in
theorem unwrap_any (l : List UInt8) (z : Int) (m : Int) (w : World) (hl : l.length ≤ 1000) (hm : w.cell? ⟨0, 0, none⟩ = some (.int .i64 m)) :
    Calls Tryd.prog 6 #[Str l, .int .i64 z] w fun e w' => e = .returned (.tuple #[Str (unwR z l).1, .int .i64 ((unwR z l).2 : Int)]) ∧ Ext w w' := by
  have hf := Lib.hid (show unwR z l = if z < 1 then ([], 1) else if okF (unl l) then (if linesL (grpL z (unl l)) = l then (unl l, 0) else ([], 4)) else ([], 4) from rfl)
  by_cases hz : z < 1
  · rw [if_pos hz] at hf
    go_enter Tryd.func6, Tryd.ntmps6
    go_wp2
    go_ret2
    exact ⟨by rw [hf.out]; rfl, Below.refl _ _⟩
  · rw [if_neg hz] at hf
    have hz1 : decide (z < 1) = false := by simp; omega
    have hR := Tryd.strings_ReplaceAll ⟨l.toArray⟩ ⟨#[10]⟩ ⟨#[]⟩ m w (by rw [size_list]; omega) hm (by decide) (by rw [size_list]; simp [ByteArray.size]; omega)
    rw [show (Lib.replaceAll (⟨l.toArray⟩ : ByteArray).data.toList (⟨#[10]⟩ : ByteArray).data.toList (⟨#[]⟩ : ByteArray).data.toList) = unl l from replAll_filter 10 l] at hR
    have HR := Lib.hid hR
    have htl := unl_len l
    have hA : plain.length = 64 := rfl
    clear hR hz
    obtain ⟨T, hT⟩ : ∃ T, unl l = T := ⟨_, rfl⟩
    rw [hT] at HR hf htl
    clear hT
    have htl' : T.length ≤ 1000 := by omega
    go_enter Tryd.func6, Tryd.ntmps6
    go_wp2_with fail
    refine HR.out.mono ?_
    rintro e W1 ⟨he, hx1⟩
    subst he
    obtain ⟨capb, Wb, hconv, hextb, hslb⟩ := bytes_of_str (P := Tryd.prog) W1 9 29 5 T (by unfold maxLen; omega) Tryd.underlying9 Tryd.underlying29 Tryd.underlying5
    have hconv' : (convert 9 29 (.string ⟨T.toArray⟩)).run Tryd.prog W1 = .ok (.slice (some ⟨W1.heap.size, 0, none⟩) T.length capb) Wb := hconv
    have hck : ∀ k, k < T.length → Wb.cell? (adr (some ⟨W1.heap.size, 0, none⟩) k) = some (Byt (bt T k)) := by
      obtain ⟨ao, cap, hve, hcap, hmax, hnil, hcell⟩ := hslb
      simp only [List.length_map] at hve; cases hve
      exact fun k hk => hcell k _ (byt_map T k hk)
    have hcapb : T.length ≤ capb := by
      obtain ⟨ao, cap, hve, hcap, hmax, hnil, hcell⟩ := hslb
      simp only [List.length_map] at hve hcap; cases hve
      exact hcap
    have HC := Lib.hid hck; clear hck hslb
    have hix := run_index_adr (P := Tryd.prog) Tryd.underlying29 Tryd.sizeOf5 (ao := some ⟨W1.heap.size, 0, none⟩) (by simp) hcapb
    have HX := Lib.hid (hx1.trans (hextb.mono hx1.size))
    clear hx1 hextb hcapb HR
    have Hv := Lib.hid (fun c W => value_any plain hA c W)
    generalize hn : T.length = n at *
    have Hn := Lib.hid hn; clear hn
    go_wp2_with fail
    go_loop [16] (fun i => ∃ k : Nat, k ≤ n ∧ i = .int .i64 k ∧ okF (T.take k) = true) (fun i => n - (intOf i).toNat)
    case atStart => exact ⟨0, by omega, rfl, rfl⟩
    case round =>
      obtain ⟨k, hk, rfl, hok⟩ := hrel
      by_cases h3 : k < n
      · have hcb := HC.out k h3
        have hs := okF_snoc (T.take k) (bt T k)
        rw [← take_snoc T k (by rw [Hn.out]; exact h3), hok, Bool.true_and] at hs
        have hbad := Lib.hid (fun h => okF_take T (k + 1) h)
        have hc := (bt T k).toNat_lt
        have hvv := Lib.hid (Hv.out (bt T k))
        have hv := valL_range plain (bt T k)
        have h61 : (bt T k == 61) = ((bt T k).toNat == 61) := by
          rw [Bool.eq_iff_iff]; simp only [beq_iff_eq]
          constructor
          · intro h; rw [h]; rfl
          · intro h; exact UInt8.toNat_inj.1 (by rw [h]; rfl)
        rw [h61] at hs
        generalize bt T k = c at *
        generalize valL plain c = v at *
        clear hok h61
        by_cases he : c.toNat = 61
        · have hb : (((c.toNat : Int)) != 61) = false := by simp; omega
          rw [show (c.toNat == 61) = true by simp [he], Bool.true_or] at hs
          have HS := Lib.hid hs; clear hs he
          go_wp2_with (go_at_call 13; refine (hvv.out _).mono ?_; rintro e W3 ⟨rfl, rfl⟩)
          go_round
          case rel => exact ⟨k + 1, by omega, by go_num, HS.out⟩
          case measure => simp [intOf] <;> omega
        · have hb : (((c.toNat : Int)) != 61) = true := by simp; omega
          rw [show (c.toNat == 61) = false by simp [he], Bool.false_or] at hs
          have HS := Lib.hid hs; clear hs he
          rcases (show v = -1 ∨ 0 ≤ v by omega) with hneg | hpos
          · subst hneg
            have hff := hbad.out HS.out
            rw [hff] at hf
            go_wp2_with (go_at_call 13; refine (hvv.out _).mono ?_; rintro e W3 ⟨rfl, rfl⟩)
            go_ret2
            exact ⟨by rw [hf.out]; rfl, HX.out⟩
          · have hv1 : (v != -1) = true := by simp; omega
            have hv2 : (v == -1) = false := by simp; omega
            have HS2 := Lib.hid (HS.out.trans hv1)
            clear hv1
            go_wp2_with (go_at_call 13; refine (hvv.out _).mono ?_; rintro e W3 ⟨rfl, rfl⟩)
            go_round
            case rel => exact ⟨k + 1, by omega, by go_num, HS2.out⟩
            case measure => simp [intOf] <;> omega
      · obtain rfl : k = n := by omega
        rw [List.take_of_length_le (by rw [Hn.out]; omega)] at hok
        rw [if_pos hok] at hf
        have hE := wrap_any T z Wb (by rw [Hn.out]; omega)
        by_cases heq : linesL (grpL z T) = l
        · rw [if_pos heq] at hf
          rw [heq] at hE
          have HE := Lib.hid hE; clear hE heq hok
          go_wp2_with fail
          refine HE.out.mono ?_
          rintro e W2 ⟨he, hx2⟩
          subst he
          have HX2 := Lib.hid (HX.out.trans (hx2.mono HX.out.size)); clear hx2
          go_wp2_with fail
          go_ret2
          exact ⟨by rw [hf.out]; rfl, HX2.out⟩
        · rw [if_neg heq] at hf
          have hbq : (linesL (grpL z T) == l) = false := by simp [heq]
          have HE := Lib.hid hE; clear hE heq hok
          generalize linesL (grpL z T) = L at *
          go_wp2_with fail
          refine HE.out.mono ?_
          rintro e W2 ⟨he, hx2⟩
          subst he
          have HX2 := Lib.hid (HX.out.trans (hx2.mono HX.out.size)); clear hx2
          go_wp2_with fail
          go_ret2
          exact ⟨by rw [hf.out]; rfl, HX2.out⟩
end Go.Proofs.YtkfhbahgoemnpaaDoor
