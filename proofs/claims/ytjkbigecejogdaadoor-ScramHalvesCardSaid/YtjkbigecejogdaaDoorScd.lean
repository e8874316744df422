/-
  The texts that every chapter uses, in one: Esg, Flt, Nxt, Hdg.
-/
import Derived.BigGuardPart
import Derived.Test.YtjkbigecejogdaaDoorRows
import Derived.Test.YtjkbigecejogdaaDoorSca
import Derived.Test.YtjkbigecejogdaaDoorRug
import Derived.Test.YtjkbigecejogdaaDoorScb
import Derived.Test.YtjkbigecejogdaaDoorRes
namespace Go.Proofs.YtjkbigecejogdaaDoor
open Go.RowKit
set_option maxRecDepth 100000
attribute [local go_sem] Oper.semAt_some
set_option linter.unusedVariables false
set_option linter.unusedSimpArgs false
theorem slice_to (l : List UInt8) (n : Nat) (h : n ≤ l.length) (W : World) : (Instr.slice 9 (Str l) none (some (.int .i64 (n : Int))) none).run Tryd.prog W = .ok (Str (l.take n)) W := by
  have h := run_slice_string_h (P := Tryd.prog) (w := W) 9 ⟨l.toArray⟩ Tryd.underlying9 .i64 (n : Int) (by omega) (by rw [size_list]; omega)
  rw [h]; simp [extract_list, size_list]
theorem slice_from (l : List UInt8) (n : Nat) (h : n ≤ l.length) (W : World) : (Instr.slice 9 (Str l) (some (.int .i64 (n : Int))) none none).run Tryd.prog W = .ok (Str (l.drop n)) W := by
  have h := run_slice_string_l (P := Tryd.prog) (w := W) 9 ⟨l.toArray⟩ Tryd.underlying9 .i64 (n : Int) (by omega) (by rw [size_list]; omega)
  rw [h]; simp [extract_list, size_list]
def pre3 (l : List UInt8) (a b c : UInt8) : Bool := decide (3 ≤ l.length) && (l.take 3 == [a, b, c])
theorem lite_pre (l : List UInt8) (a b c : UInt8) (hl : l.length ≤ 1000000) (w : World) :
    Calls Tryd.prog 64 #[Str l, Str [a, b, c]] w fun e w' => e = .returned (.bool (pre3 l a b c)) ∧ w' = w := by
  by_cases h : 3 ≤ l.length
  · have h' : (3 : Int) ≤ (l.length : Int) := by omega
    have hsl : ∀ W, (Instr.slice 9 (Str l) none (some (.int .i64 3)) none).run Tryd.prog W = .ok (Str (l.take 3)) W := fun W => slice_to l 3 h W
    rw [show pre3 l a b c = (l.take 3 == [a, b, c]) by simp [pre3, h]]
    generalize l.take 3 = t3 at *
    obtain ⟨p, hp⟩ : ∃ p, [a, b, c] = p := ⟨_, rfl⟩
    have hpl : p.length = 3 := by rw [← hp]; rfl
    rw [hp]
    clear hp
    go_enter Tryd.func64, Tryd.ntmps64
    go_wp2
    go_ret
    exact ⟨rfl, rfl⟩
  · have h' : ¬ (3 : Int) ≤ (l.length : Int) := by omega
    rw [show pre3 l a b c = false by simp [pre3, h]]
    obtain ⟨p, hp⟩ : ∃ p, [a, b, c] = p := ⟨_, rfl⟩
    have hpl : p.length = 3 := by rw [← hp]; rfl
    rw [hp]
    clear hp
    go_enter Tryd.func64, Tryd.ntmps64
    go_wp2
    go_ret
    exact ⟨rfl, rfl⟩
theorem has_pre (l : List UInt8) (a b c : UInt8) (hl : l.length ≤ 1000000) (w : World) :
    Calls Tryd.prog 65 #[Str l, Str [a, b, c]] w fun e w' => e = .returned (.bool (pre3 l a b c)) ∧ w' = w := by
  have HL := Lib.hid (lite_pre l a b c hl w)
  obtain ⟨p, hp⟩ : ∃ p, [a, b, c] = p := ⟨_, rfl⟩
  rw [hp] at HL ⊢
  clear hp
  go_enter Tryd.func65, Tryd.ntmps65
  go_wp2_with fail
  refine HL.out.mono ?_
  rintro e W ⟨rfl, hw⟩
  subst W
  go_wp2
  go_ret
  exact ⟨rfl, rfl⟩
/-! ### Escape -/
def esc1 (c : UInt8) : List UInt8 := if c = 44 then [61, 50, 67] else if c = 61 then [61, 51, 68] else [c]
def escF (l : List UInt8) : List UInt8 := l.flatMap esc1
theorem esc1_len (c : UInt8) : (esc1 c).length ≤ 3 := by unfold esc1; split; simp; split <;> simp
theorem escF_len : ∀ l : List UInt8, (escF l).length ≤ 3 * l.length
  | [] => by simp [escF]
  | c :: t => by
    have h1 := escF_len t
    have h2 := esc1_len c
    simp only [escF, List.flatMap_cons, List.length_append, List.length_cons] at *
    omega
theorem escF_snoc (l : List UInt8) (c : UInt8) : escF (l ++ [c]) = escF l ++ esc1 c := by simp [escF, List.flatMap_append]
set_option maxHeartbeats 1000000 in
theorem Escape_any (l : List UInt8) (hl : l.length ≤ 10000) (w : World) :
    Calls Tryd.prog 20 #[Str l] w fun e w' => e = .returned (Str (escF l)) ∧ Ext w w' := by
  have hixl : ∀ i, i < l.length → ∀ W, (Instr.index 9 (Str l) (.int .i64 (i : Int))).run Tryd.prog W = .ok (Byt (bt l i)) W := fun i hi W => run_index_str Tryd.underlying9 l i _ rfl hi W
  have HI := Lib.hid hixl; clear hixl
  have hb0 := bld_new (w.heap.size + 1) w
  go_enter Tryd.func20, Tryd.ntmps20
  go_wp2
  go_loopw [7] (fun i wr => ∃ k : Nat, k ≤ l.length ∧ i = .int .i64 k ∧ Bld (w.heap.size + 1) wr w.heap.size (escF (l.take k)) ∧ Ext w wr) (fun i _ => l.length - (intOf i).toNat)
  case atStart => exact ⟨0, by omega, rfl, hb0, (Below.refl _ w).alloc (Nat.le_refl _) _⟩
  case round =>
    obtain ⟨k, hk, rfl, hbl, hext⟩ := hrel
    by_cases h3 : k < l.length
    · have hix := HI.out k h3
      have Ht := Lib.hid (show escF (l.take (k + 1)) = escF (l.take k) ++ esc1 (bt l k) by rw [take_snoc l k h3, escF_snoc])
      have hlen : (escF (l.take k)).length ≤ 40000 := by have := escF_len (l.take k); rw [List.length_take] at this; omega
      have hsz := hbl.lt
      have hc := (bt l k).toNat_lt
      generalize bt l k = c at *
      generalize escF (l.take k) = bs at *
      have Hb := Lib.hid hbl; clear hbl
      by_cases h44 : c = 44
      · have he := Ht.out
        rw [show esc1 c = [61, 50, 67] by simp [esc1, h44]] at he
        have He := Lib.hid he
        subst h44
        clear he Ht
        go_wp2_with (go_at_call 46; refine (WriteString_any (w.heap.size + 1) w.heap.size bs [61, 50, 67] wr Hb.out (by simp; omega) hsz).mono ?_; rintro e W1 ⟨he1, hb1, hfr1⟩; subst he1; have Hb1 := Lib.hid hb1; clear hb1)
        go_roundw
        case rel => exact ⟨k + 1, by omega, by go_num, by rw [He.out]; exact Hb1.out, hext.trans (hfr1.below (by omega) (by omega) (by omega))⟩
        case measure => simp [intOf] <;> omega
      · have h44n : ((c.toNat : Int) == 44) = false := by
          have : c.toNat ≠ 44 := fun h => h44 (UInt8.toNat_inj.1 h)
          simp; omega
        by_cases h61 : c = 61
        · have he := Ht.out
          rw [show esc1 c = [61, 51, 68] by simp [esc1, h61]] at he
          have He := Lib.hid he
          subst h61
          clear he Ht
          go_wp2_with (go_at_call 46; refine (WriteString_any (w.heap.size + 1) w.heap.size bs [61, 51, 68] wr Hb.out (by simp; omega) hsz).mono ?_; rintro e W1 ⟨he1, hb1, hfr1⟩; subst he1; have Hb1 := Lib.hid hb1; clear hb1)
          go_roundw
          case rel => exact ⟨k + 1, by omega, by go_num, by rw [He.out]; exact Hb1.out, hext.trans (hfr1.below (by omega) (by omega) (by omega))⟩
          case measure => simp [intOf] <;> omega
        · have h61n : ((c.toNat : Int) == 61) = false := by
            have : c.toNat ≠ 61 := fun h => h61 (UInt8.toNat_inj.1 h)
            simp; omega
          have he := Ht.out
          rw [show esc1 c = [c] by simp [esc1, h44, h61]] at he
          have He := Lib.hid he
          clear he Ht h44 h61
          go_wp2_with (go_at_call 47; refine (WriteByte_any (w.heap.size + 1) w.heap.size bs c wr Hb.out (by omega) hsz).mono ?_; rintro e W1 ⟨he1, hb1, hfr1⟩; subst he1; have Hb1 := Lib.hid hb1; clear hb1)
          go_roundw
          case rel => exact ⟨k + 1, by omega, by go_num, by rw [He.out]; exact Hb1.out, hext.trans (hfr1.below (by omega) (by omega) (by omega))⟩
          case measure => simp [intOf] <;> omega
    · have hsz := hbl.lt
      have Hb := Lib.hid hbl; clear hbl
      go_wp2_with (go_at_call 48; refine (String_any (w.heap.size + 1) w.heap.size _ _ Hb.out).mono ?_; rintro e W1 ⟨rfl, hfr1⟩)
      go_ret
      exact ⟨by rw [List.take_of_length_le (by omega)]; rfl, hext.trans (hfr1.below (by omega) (by omega) (by omega))⟩
/-! ### Unescape -/
/-- The text, and whether a comma was met; none: it isn't escaped rightly. -/
def unN : Nat → List UInt8 → Option (List UInt8 × Bool)
  | 0, _ => some ([], false)
  | _ + 1, [] => some ([], false)
  | f + 1, c :: t =>
    if c = 44 then (unN f t).map (fun p => (p.1, true))
    else if c ≠ 61 then (unN f t).map (fun p => (c :: p.1, p.2))
    else if pre3 (c :: t) 61 50 67 = true then (unN f (t.drop 2)).map (fun p => (44 :: p.1, p.2))
    else if pre3 (c :: t) 61 51 68 = true then (unN f (t.drop 2)).map (fun p => (61 :: p.1, p.2))
    else none
def unG (l : List UInt8) : Option (List UInt8 × Bool) := unN l.length l
def comb (bs : List UInt8) (cm : Bool) (o : Option (List UInt8 × Bool)) : Option (List UInt8 × Bool) := o.map fun p => (bs ++ p.1, cm || p.2)
theorem comb_comma (bs : List UInt8) (cm : Bool) (o : Option (List UInt8 × Bool)) : comb bs cm (o.map fun p => (p.1, true)) = comb bs true o := by
  cases o <;> simp [comb]
theorem comb_byte (bs : List UInt8) (cm : Bool) (c : UInt8) (o : Option (List UInt8 × Bool)) : comb bs cm (o.map fun p => (c :: p.1, p.2)) = comb (bs ++ [c]) cm o := by
  cases o <;> simp [comb]
def cI (b : Bool) : Int := if b then 5 else 0
/-- What name.Unescape answers: the text, and the error. -/
def unV (l : List UInt8) : List UInt8 × Int := match unG l with | none => ([], 4) | some (t, true) => ([], 5) | some (t, false) => (t, 0)
theorem drop_cons (l : List UInt8) (k : Nat) (h : k < l.length) : l.drop k = bt l k :: l.drop (k + 1) := by
  rw [List.drop_eq_getElem_cons h, bt_get l k h]
set_option maxHeartbeats 2000000 in
theorem Unescape_any (l : List UInt8) (hl : l.length ≤ 10000) (w : World) :
    Calls Tryd.prog 55 #[Str l] w fun e w' => e = .returned (.tuple #[Str (unV l).1, .int .i64 (unV l).2]) ∧ Ext w w' := by
  have hixl : ∀ i, i < l.length → ∀ W, (Instr.index 9 (Str l) (.int .i64 (i : Int))).run Tryd.prog W = .ok (Byt (bt l i)) W := fun i hi W => run_index_str Tryd.underlying9 l i _ rfl hi W
  have HI := Lib.hid hixl; clear hixl
  have HSL := Lib.hid (fun k (h : k ≤ l.length) W => slice_from l k h W)
  have HPR := Lib.hid (fun k a b c W => has_pre (l.drop k) a b c (by rw [List.length_drop]; omega) W)
  have HDC := Lib.hid (fun k h => drop_cons l k h)
  obtain ⟨un, hun⟩ : ∃ un, unV l = un := ⟨_, rfl⟩
  have HUN := Lib.hid (show (match unG l with | none => ([], 4) | some (t, true) => ([], 5) | some (t, false) => (t, 0)) = un from hun)
  rw [hun]
  clear hun
  have hb0 := bld_new (w.heap.size + 1) w
  go_enter Tryd.func55, Tryd.ntmps55
  go_wp2
  go_loopw [5, 6] (fun c i wr => ∃ (k f : Nat) (bs : List UInt8) (cm : Bool), k ≤ l.length ∧ i = .int .i64 k ∧ c = .int .i64 (cI cm) ∧ Bld (w.heap.size + 1) wr w.heap.size bs ∧ bs.length ≤ k ∧ l.length ≤ k + f ∧ Hid (unG l = comb bs cm (unN f (l.drop k))) ∧ Ext w wr) (fun _ i _ => l.length - (intOf i).toNat)
  case atStart => exact ⟨0, l.length, [], false, by omega, rfl, rfl, hb0, by simp, by omega, Lib.hid (by unfold unG comb; rw [List.drop_zero]; cases unN l.length l <;> simp), (Below.refl _ w).alloc (Nat.le_refl _) _⟩
  case round =>
    obtain ⟨k, f, bs, cm, hk, rfl, rfl, hbl, hbk, hf, HU, hext⟩ := hrel
    by_cases h3 : k < l.length
    · have hix := HI.out k h3
      have hsl := HSL.out k hk
      have hsz := hbl.lt
      obtain ⟨f1, rfl⟩ : ∃ f1, f = f1 + 1 := ⟨f - 1, by omega⟩
      have hu := HU.out
      rw [HDC.out k h3] at hu
      have hp1 := HPR.out k 61 50 67
      have hp2 := HPR.out k 61 51 68
      rw [HDC.out k h3] at hp1 hp2 hsl
      have hdd : (l.drop (k + 1)).drop 2 = l.drop (k + 3) := by rw [List.drop_drop]
      have hdl : (l.drop (k + 1)).length + (k + 1) = l.length := by rw [List.length_drop]; omega
      have hc := (bt l k).toNat_lt
      generalize bt l k = c at *
      have HDD := Lib.hid hdd
      clear hdd
      generalize hdr : l.drop (k + 1) = dr at *
      have HDR := Lib.hid hdr
      clear hdr
      have Hb := Lib.hid hbl; clear hbl HU
      by_cases h44 : c = 44
      · have hu2 : unG l = comb bs true (unN f1 dr) := by rw [hu]; simp only [unN]; rw [if_pos h44, comb_comma]
        have HU2 := Lib.hid hu2
        subst h44
        clear hu hu2 hp1 hp2 hsl
        go_wp2
        go_roundw
        case rel => exact ⟨k + 1, f1, bs, true, by omega, by go_num, rfl, Hb.out, by omega, by omega, Lib.hid (by rw [HU2.out, HDR.out]), hext⟩
        case measure => simp [intOf] <;> omega
      · have h44n : ((c.toNat : Int) == 44) = false := by
          have : c.toNat ≠ 44 := fun h => h44 (UInt8.toNat_inj.1 h)
          simp; omega
        by_cases h61 : c = 61
        · subst h61
          by_cases q1 : pre3 (61 :: dr) 61 50 67 = true
          · have h3l : 3 ≤ (61 :: dr).length := by simp only [pre3, Bool.and_eq_true, decide_eq_true_eq] at q1; exact q1.1
            have h3l' : k + 3 ≤ l.length := by simp at h3l; omega
            have hu2 : unG l = comb (bs ++ [44]) cm (unN f1 (l.drop (k + 3))) := by rw [hu]; simp only [unN]; rw [if_neg (by decide), if_neg (by decide), if_pos q1, comb_byte, HDD.out]
            have HU2 := Lib.hid hu2
            rw [q1] at hp1
            have HP1 := Lib.hid hp1
            clear hu hu2 hp1 hp2 q1 h3l h44
            go_wp2_with (first | (go_at_call 65; refine (HP1.out _).mono ?_; rintro e W1 ⟨he1, hw1⟩; subst he1; subst W1) | (go_at_call 47; refine (WriteByte_any (w.heap.size + 1) w.heap.size bs 44 wr Hb.out (by omega) hsz).mono ?_; rintro e W1 ⟨he1, hb1, hfr1⟩; subst he1; have Hb1 := Lib.hid hb1; clear hb1))
            go_roundw
            case rel => exact ⟨k + 3, f1, bs ++ [44], cm, by omega, by go_num, rfl, Hb1.out, by simp; omega, by omega, HU2, hext.trans (hfr1.below (by omega) (by omega) (by omega))⟩
            case measure => simp [intOf] <;> omega
          · have q1' : pre3 (61 :: dr) 61 50 67 = false := by simpa using q1
            rw [q1'] at hp1
            have HP1 := Lib.hid hp1
            by_cases q2 : pre3 (61 :: dr) 61 51 68 = true
            · have h3l : 3 ≤ (61 :: dr).length := by simp only [pre3, Bool.and_eq_true, decide_eq_true_eq] at q2; exact q2.1
              have h3l' : k + 3 ≤ l.length := by simp at h3l; omega
              have hu2 : unG l = comb (bs ++ [61]) cm (unN f1 (l.drop (k + 3))) := by rw [hu]; simp only [unN]; rw [if_neg (by decide), if_neg (by decide), if_neg q1, if_pos q2, comb_byte, HDD.out]
              have HU2 := Lib.hid hu2
              rw [q2] at hp2
              have HP2 := Lib.hid hp2
              clear hu hu2 hp1 hp2 q1 q1' q2 h3l h44
              go_wp2_with fail
              refine (HP1.out _).mono ?_
              rintro e W1 ⟨rfl, hw1⟩
              subst W1
              go_wp2_with fail
              refine (HP2.out _).mono ?_
              rintro e W1 ⟨rfl, hw1⟩
              subst W1
              go_wp2_with fail
              refine (WriteByte_any (w.heap.size + 1) w.heap.size bs 61 wr Hb.out (by omega) hsz).mono ?_
              rintro e W1 ⟨rfl, hb1, hfr1⟩
              have Hb1 := Lib.hid hb1
              clear hb1
              go_wp2
              go_roundw
              case rel => exact ⟨k + 3, f1, bs ++ [61], cm, by omega, by go_num, rfl, Hb1.out, by simp; omega, by omega, HU2, hext.trans (hfr1.below (by omega) (by omega) (by omega))⟩
              case measure => simp [intOf] <;> omega
            · have q2' : pre3 (61 :: dr) 61 51 68 = false := by simpa using q2
              rw [q2'] at hp2
              have HP2 := Lib.hid hp2
              have hu2 : unG l = none := by rw [hu]; simp only [unN]; rw [if_neg (by decide), if_neg (by decide), if_neg q1, if_neg q2]; rfl
              have hd : un = ([], 4) := by rw [← HUN.out, hu2]
              subst hd
              clear hu hu2 hp1 hp2 q1 q1' q2 q2' h44
              go_wp2_with fail
              refine (HP1.out _).mono ?_
              rintro e W1 ⟨rfl, hw1⟩
              subst W1
              go_wp2_with fail
              refine (HP2.out _).mono ?_
              rintro e W1 ⟨rfl, hw1⟩
              subst W1
              go_wp2
              go_ret2
              exact ⟨rfl, hext⟩
        · have h61n : ((c.toNat : Int) == 61) = false := by
            have : c.toNat ≠ 61 := fun h => h61 (UInt8.toNat_inj.1 h)
            simp; omega
          have h61' : ((c.toNat : Int) != 61) = true := by
            have : c.toNat ≠ 61 := fun h => h61 (UInt8.toNat_inj.1 h)
            simp; omega
          have hu2 : unG l = comb (bs ++ [c]) cm (unN f1 dr) := by rw [hu]; simp only [unN]; rw [if_neg h44, if_pos h61, comb_byte]
          have HU2 := Lib.hid hu2
          clear hu hu2 hp1 hp2 hsl h44 h61
          go_wp2_with (go_at_call 47; refine (WriteByte_any (w.heap.size + 1) w.heap.size bs c wr Hb.out (by omega) hsz).mono ?_; rintro e W1 ⟨he1, hb1, hfr1⟩; subst he1; have Hb1 := Lib.hid hb1; clear hb1)
          go_roundw
          case rel => exact ⟨k + 1, f1, bs ++ [c], cm, by omega, by go_num, rfl, Hb1.out, by simp; omega, by omega, Lib.hid (by rw [HU2.out, HDR.out]), hext.trans (hfr1.below (by omega) (by omega) (by omega))⟩
          case measure => simp [intOf] <;> omega
    · obtain rfl : k = l.length := by omega
      have hu2 : unG l = some (bs, cm) := by
        rw [HU.out, List.drop_length]
        cases f <;> simp [unN, comb]
      have hd := HUN.out
      rw [hu2] at hd
      have hsz := hbl.lt
      have Hb := Lib.hid hbl; clear hbl hu2 HU
      cases cm with
      | true =>
        have hd2 : un = ([], 5) := hd.symm
        subst hd2
        clear hd
        rw [show cI true = 5 from rfl]
        go_wp2
        go_ret2
        exact ⟨rfl, hext⟩
      | false =>
        have hd2 : un = (bs, 0) := hd.symm
        subst hd2
        clear hd
        rw [show cI false = 0 from rfl]
        go_wp2_with (go_at_call 48; refine (String_any (w.heap.size + 1) w.heap.size _ _ Hb.out).mono ?_; rintro e W1 ⟨rfl, hfr1⟩)
        go_ret2
        exact ⟨rfl, hext.trans (hfr1.below (by omega) (by omega) (by omega))⟩
end Go.Proofs.YtjkbigecejogdaaDoor

namespace Go.Proofs.YtjkbigecejogdaaDoor
open Go.RowKit
set_option maxRecDepth 100000
attribute [local go_sem] Oper.semAt_some
set_option linter.unusedVariables false
set_option linter.unusedSimpArgs false
/-- The name that was escaped, and whether there is one. -/
def escB (l : List UInt8) : Bool := valB l && decide ((unV l).2 = 0)
set_option maxHeartbeats 1000000 in
theorem escaped_any (l : List UInt8) (hl : l.length ≤ 10000) (w : World) (hF : FormsAt w) :
    Calls Tryd.prog 30 #[Str l] w fun e w' => e = .returned (.tuple #[Str (unV l).1, .bool (escB l)]) ∧ Ext w w' := by
  have HU := Lib.hid (Unescape_any l hl w)
  have HV := Lib.hid (fun W (hF : FormsAt W) => svalue_any l (by omega) W hF)
  have HF := Lib.hid hF
  obtain ⟨eb, heb⟩ : ∃ eb, escB l = eb := ⟨_, rfl⟩
  have HEB := Lib.hid (show (valB l && decide ((unV l).2 = 0)) = eb from heb)
  rw [heb]
  clear heb hF
  generalize valB l = vb at *
  generalize unV l = un at *
  obtain ⟨t, c⟩ := un
  simp only at HU HEB ⊢
  go_enter Tryd.func30, Tryd.ntmps30
  go_wp2_with fail
  refine HU.out.mono ?_
  rintro e W1 ⟨rfl, hx⟩
  have HX1 := Lib.hid hx
  clear hx
  go_wp2_with fail
  refine (HV.out W1 (HF.out.ext HX1.out)).mono ?_
  rintro e W2 ⟨rfl, hx⟩
  have HX2 := Lib.hid (ext_trans HX1.out hx)
  clear hx
  cases vb with
  | false =>
    have hd : eb = false := by rw [← HEB.out]; rfl
    subst hd
    go_wp2
    go_ret2
    exact ⟨rfl, HX2.out⟩
  | true =>
    by_cases hc : c = 0
    · have hd : eb = true := by rw [← HEB.out]; simp [hc]
      subst hd; subst hc
      go_wp2
      go_ret2
      exact ⟨rfl, HX2.out⟩
    · have hd : eb = false := by rw [← HEB.out]; simp [hc]
      have hc2 : (c == 0) = false := by simp [hc]
      subst hd
      go_wp2
      go_ret2
      exact ⟨rfl, HX2.out⟩
def flC (c : UInt8) : Bool := letB c || ((decide (48 ≤ c.toNat) && decide (c.toNat ≤ 57)) || ((c.toNat == 46) || (c.toNat == 45)))
/-- What is said of channels, and whether it is. -/
def flF (s : List UInt8) : List UInt8 × Bool :=
  if s = [110] ∨ s = [121] then (s, true) else ([112], (Lib.hasPrefix s [112, 61] && (Lib.trimPrefix s [112, 61]).all flC) && decide (Lib.trimPrefix s [112, 61] ≠ []))
set_option maxHeartbeats 2000000 in
theorem flag_any (s : List UInt8) (hl : s.length ≤ 100000) (w : World) :
    Calls Tryd.prog 28 #[Str s] w fun e w' => e = .returned (.tuple #[Str (flF s).1, .bool (flF s).2]) ∧ w' = w := by
  by_cases h1 : s = [110]
  · subst h1
    go_enter Tryd.func28, Tryd.ntmps28
    go_wp2
    go_ret2
    exact ⟨rfl, rfl⟩
  by_cases h2 : s = [121]
  · subst h2
    go_enter Tryd.func28, Tryd.ntmps28
    go_wp2
    go_ret2
    exact ⟨rfl, rfl⟩
  have hC := fun W => Tryd.strings_CutPrefix ⟨s.toArray⟩ ⟨#[112, 61]⟩ W
  rw [show (⟨s.toArray⟩ : ByteArray).data.toList = s from rfl, show (⟨#[112, 61]⟩ : ByteArray).data.toList = [112, 61] from rfl] at hC
  have HC := Lib.hid hC
  have hff : flF s = ([112], (Lib.hasPrefix s [112, 61] && (Lib.trimPrefix s [112, 61]).all flC) && decide (Lib.trimPrefix s [112, 61] ≠ [])) := by unfold flF; rw [if_neg (by simp [h1, h2])]
  rw [hff]
  have hwl : (Lib.trimPrefix s [112, 61]).length ≤ 100000 := by
    have : (Lib.trimPrefix s [112, 61]).length ≤ s.length := by
      unfold Lib.trimPrefix; split <;> simp
    omega
  have n1 : (s == [110]) = false := by simp [h1]
  have n2 : (s == [121]) = false := by simp [h2]
  clear hC hff h1 h2
  generalize Lib.trimPrefix s [112, 61] = l at *
  generalize Lib.hasPrefix s [112, 61] = pre at *
  obtain ⟨ans, hans⟩ : ∃ ans, ((pre && l.all flC) && decide (l ≠ [])) = ans := ⟨_, rfl⟩
  have HANS := Lib.hid hans
  simp only [hans]
  clear hans
  have hixl : ∀ i, i < l.length → ∀ W, (Instr.index 9 (Str l) (.int .i64 (i : Int))).run Tryd.prog W = .ok (Byt (bt l i)) W := fun i hi W => run_index_str Tryd.underlying9 l i _ rfl hi W
  have HI := Lib.hid hixl; clear hixl
  go_enter Tryd.func28, Tryd.ntmps28
  go_wp2_with fail
  refine (HC.out _).mono ?_
  rintro e W1 ⟨he, hw⟩
  subst he; subst hw
  go_wp2_with fail
  go_loop [5, 22] (fun b i => ∃ k : Nat, k ≤ l.length ∧ i = .int .i64 k ∧ b = .bool (pre && (l.take k).all flC)) (fun _ i => l.length - (intOf i).toNat)
  case atStart => exact ⟨0, by omega, rfl, by simp⟩
  case round =>
    obtain ⟨k, hk, rfl, rfl⟩ := hrel
    by_cases h3 : k < l.length
    · have hix := HI.out k h3
      have HT := Lib.hid (show (pre && (l.take (k + 1)).all flC) = ((pre && (l.take k).all flC) && flC (bt l k)) by rw [take_snoc l k h3, List.all_append]; simp [Bool.and_assoc])
      have HL := Lib.hid (fun W => sletter_any (bt l k) W)
      have HFC := Lib.hid (show flC (bt l k) = (letB (bt l k) || ((decide (48 ≤ (bt l k).toNat) && decide ((bt l k).toNat ≤ 57)) || (((bt l k).toNat == 46) || ((bt l k).toNat == 45)))) from rfl)
      generalize bt l k = c at *
      generalize (pre && (l.take k).all flC) = ba at *
      cases ba with
      | false =>
        go_wp2
        go_round
        case rel => exact ⟨k + 1, by omega, by go_num, by rw [HT.out]; rfl⟩
        case measure => simp [intOf] <;> omega
      | true =>
        go_wp2_with fail
        refine (HL.out _).mono ?_
        rintro e W3 ⟨rfl, hw⟩
        subst W3
        generalize letB c = lb at *
        cases lb with
        | true =>
          go_wp2
          go_round
          case rel => exact ⟨k + 1, by omega, by go_num, by rw [HT.out, HFC.out]; rfl⟩
          case measure => simp [intOf] <;> omega
        | false =>
          by_cases g1 : 48 ≤ c.toNat
          · have g1' : (48 : Int) ≤ (c.toNat : Int) := by omega
            by_cases g2 : c.toNat ≤ 57
            · have g2' : (c.toNat : Int) ≤ 57 := by omega
              go_wp2
              go_round
              case rel => exact ⟨k + 1, by omega, by go_num, by rw [HT.out, HFC.out]; simp [g1, g2]⟩
              case measure => simp [intOf] <;> omega
            · have g2' : ¬ (c.toNat : Int) ≤ 57 := by omega
              have g3 : ((c.toNat : Int) == 46) = false := by simp; omega
              have g4 : ((c.toNat : Int) == 45) = false := by simp; omega
              go_wp2
              go_round
              case rel => exact ⟨k + 1, by omega, by go_num, by rw [HT.out, HFC.out]; simp [g2]; omega⟩
              case measure => simp [intOf] <;> omega
          · have g1' : ¬ (48 : Int) ≤ (c.toNat : Int) := by omega
            by_cases g3 : c.toNat = 46
            · have g3' : ((c.toNat : Int) == 46) = true := by simp; omega
              have g3'' : (c.toNat : Int) = 46 := by omega
              go_wp2
              go_round
              case rel => exact ⟨k + 1, by omega, by go_num, by rw [HT.out, HFC.out]; simp [g3]⟩
              case measure => simp [intOf] <;> omega
            · have g3' : ((c.toNat : Int) == 46) = false := by simp; omega
              by_cases g4 : c.toNat = 45
              · have g4' : ((c.toNat : Int) == 45) = true := by simp; omega
                have g4'' : (c.toNat : Int) = 45 := by omega
                go_wp2
                go_round
                case rel => exact ⟨k + 1, by omega, by go_num, by rw [HT.out, HFC.out]; simp [g4]⟩
                case measure => simp [intOf] <;> omega
              · have g4' : ((c.toNat : Int) == 45) = false := by simp; omega
                go_wp2
                go_round
                case rel => exact ⟨k + 1, by omega, by go_num, by rw [HT.out, HFC.out]; simp [g1, g3, g4]⟩
                case measure => simp [intOf] <;> omega
    · obtain rfl : k = l.length := by omega
      rw [List.take_length]
      generalize (pre && l.all flC) = ba at *
      cases ba with
      | false =>
        have hd : ans = false := by rw [← HANS.out]; rfl
        subst hd
        go_wp2
        go_ret2
        exact ⟨rfl, rfl⟩
      | true =>
        by_cases hn : l = []
        · have hd : ans = false := by rw [← HANS.out]; simp [hn]
          subst hd
          have hne : (l == []) = true := by simp [hn]
          go_wp2
          go_ret2
          exact ⟨rfl, rfl⟩
        · have hd : ans = true := by rw [← HANS.out]; simp [hn]
          subst hd
          have hne : (l == []) = false := by simp [hn]
          go_wp2
          go_ret2
          exact ⟨rfl, rfl⟩
end Go.Proofs.YtjkbigecejogdaaDoor

namespace Go.Proofs.YtjkbigecejogdaaDoor
open Go.RowKit
set_option maxRecDepth 100000
attribute [local go_sem] Oper.semAt_some
set_option linter.unusedVariables false
set_option linter.unusedSimpArgs false
set_option maxHeartbeats 1000000 in
theorem next_miss (bm M : Nat) (bad : Bool) (ps : List (List UInt8)) (nm : List UInt8) (hm : hasF nm ps = false) (w : World) (h : Msg bm M bad ps w) :
    Calls Tryd.prog 33 #[.pointer (some ⟨bm, 0, none⟩), Str nm] w fun e w' => e = .returned (Str []) ∧ Msg bm M true ps w' ∧ Bz bm w w' := by
  have hbz := Bz.set w bm 1 (.bool true)
  have HM : Hid (Msg bm M true ps (w.setCell ⟨bm, 1, none⟩ (.bool true))) := Lib.hid (by
    obtain ⟨v, hb, hr⟩ := h
    exact ⟨v, set_at (j := 1) (u := .bool true) hb, hr.ch fun k hk hn => hbz.block k hk hn⟩)
  have HB := Lib.hid hbz
  clear hbz
  cases ps with
  | nil =>
    obtain ⟨v, hb, ao, cap, hv, -⟩ := h
    subst hv
    obtain ⟨c0, c1, cf⟩ := cells2m hb
    have f1 := cf 1
    clear hb cf
    go_enter Tryd.func33, Tryd.ntmps33
    go_wp2
    go_ret
    exact ⟨rfl, HM.out, HB.out⟩
  | cons p r =>
    obtain ⟨g, o, cap, a2, c2, hb, d0, d1, hix, -, -⟩ := msg_pop h
    obtain ⟨c0, c1, cf⟩ := cells2m hb
    have f1 := cf 1
    have hne : (p.take 1 == nm) = false := hm
    have hlen : (((r.length + 1 : Nat) : Int) == 0) = false := by simp; omega
    clear hb cf h hm
    generalize p.take 1 = q1 at *
    generalize p.drop 2 = q2 at *
    generalize r.length = n at *
    go_enter Tryd.func33, Tryd.ntmps33
    go_wp2
    go_ret
    exact ⟨rfl, HM.out, HB.out⟩
/-- What next leaves: the value, whether it is bad, the rest. -/
def nxT (nm : List UInt8) (ps : List (List UInt8)) : List UInt8 := if hasF nm ps then (ps.headD []).drop 2 else []
def nxR (nm : List UInt8) (ps : List (List UInt8)) : List (List UInt8) := if hasF nm ps then ps.tail else ps
theorem next_any (bm M : Nat) (bad : Bool) (ps : List (List UInt8)) (nm : List UInt8) (w : World) (h : Msg bm M bad ps w) :
    Calls Tryd.prog 33 #[.pointer (some ⟨bm, 0, none⟩), Str nm] w fun e w' => e = .returned (Str (nxT nm ps)) ∧ Msg bm M (bad || !hasF nm ps) (nxR nm ps) w' ∧ Bz bm w w' := by
  cases hh : hasF nm ps with
  | true =>
    match ps, hh, h with
    | p :: r, hh, h =>
      have e : p.take 1 = nm := by simpa [hasF] using hh
      have := next_hit bm M bad p r w h
      rw [e] at this
      simpa [nxT, nxR, hh] using this
  | false =>
    have := next_miss bm M bad ps nm hh w h
    simpa [nxT, nxR, hh] using this
end Go.Proofs.YtjkbigecejogdaaDoor

namespace Go.Proofs.YtjkbigecejogdaaDoor
open Go.RowKit
set_option maxRecDepth 100000
attribute [local go_sem] Oper.semAt_some
set_option linter.unusedVariables false
set_option linter.unusedSimpArgs false
theorem cut_gen (s : List UInt8) (hs : s.length ≤ 100000) (w : World) (hM : MaxAt w) :
    Calls Tryd.prog 25 #[Str s, Str [44]] w fun e w' => e = .returned (.tuple #[Str (Lib.cut s [44]).1, Str (Lib.cut s [44]).2.1, .bool (Lib.cut s [44]).2.2]) ∧ Ext w w' := by
  obtain ⟨m, hm⟩ := hM
  have hC := Tryd.strings_Cut ⟨s.toArray⟩ ⟨#[44]⟩ m w (by rw [size_list]; omega) hm
  rw [show (⟨#[44]⟩ : ByteArray).data.toList = [44] from rfl, show (⟨s.toArray⟩ : ByteArray).data.toList = s from rfl] at hC
  refine hC.mono ?_
  rintro e W ⟨he, n, hw⟩
  subst hw
  exact ⟨he, ext_drewN (ext_refl _) _⟩
theorem cut_len (s : List UInt8) : (Lib.cut s [44]).1.length ≤ s.length ∧ (Lib.cut s [44]).2.1.length ≤ s.length := by
  unfold Lib.cut
  split <;> simp <;> omega
/-- Of a first's second piece: is it right? -/
def whoB (two : List UInt8) : Bool := decide (two = []) || (Lib.hasPrefix two [97, 61] && escB (Lib.trimPrefix two [97, 61]))
def headF (s : List UInt8) : Bool × Bool :=
  (((Lib.cut s [44]).2.2 && ((Lib.cut (Lib.cut s [44]).2.1 [44]).2.2 && decide ((Lib.cut (Lib.cut s [44]).2.1 [44]).2.1 = []))) && ((flF (Lib.cut s [44]).1).2 && whoB (Lib.cut (Lib.cut s [44]).2.1 [44]).1), (flF (Lib.cut s [44]).1).1 == [112])
theorem pre_any (s : List UInt8) (a b : UInt8) (W : World) : Calls Tryd.prog 29 #[Str s, Str [a, b]] W fun e w' => e = .returned (.tuple #[Str (Lib.trimPrefix s [a, b]), .bool (Lib.hasPrefix s [a, b])]) ∧ w' = W := by
  have hC := Tryd.strings_CutPrefix ⟨s.toArray⟩ ⟨#[a, b]⟩ W
  rw [show (⟨s.toArray⟩ : ByteArray).data.toList = s from rfl, show (⟨#[a, b]⟩ : ByteArray).data.toList = [a, b] from rfl] at hC
  exact hC
theorem strim_len (s p : List UInt8) : (Lib.trimPrefix s p).length ≤ s.length := by unfold Lib.trimPrefix; split <;> simp
set_option maxHeartbeats 2000000 in
theorem head_any (s : List UInt8) (hl : s.length ≤ 10000) (w : World) (hM : MaxAt w) (hF : FormsAt w) :
    Calls Tryd.prog 45 #[Str s] w fun e w' => e = .returned (.tuple #[.bool (headF s).1, .bool (headF s).2]) ∧ Ext w w' := by
  have HM := Lib.hid hM; have HF := Lib.hid hF
  clear hM hF
  have hc1 := cut_len s
  have HC1 := Lib.hid (fun W (h : MaxAt W) => cut_gen s (by omega) W h)
  obtain ⟨hd, hhd⟩ : ∃ hd, headF s = hd := ⟨_, rfl⟩
  have HHD := Lib.hid (show (((Lib.cut s [44]).2.2 && ((Lib.cut (Lib.cut s [44]).2.1 [44]).2.2 && decide ((Lib.cut (Lib.cut s [44]).2.1 [44]).2.1 = []))) && ((flF (Lib.cut s [44]).1).2 && whoB (Lib.cut (Lib.cut s [44]).2.1 [44]).1), (flF (Lib.cut s [44]).1).1 == [112]) = hd from hhd)
  rw [hhd]
  clear hhd
  generalize Lib.cut s [44] = t1 at *
  obtain ⟨one, r1, ok⟩ := t1
  simp only at hc1 HC1 HHD
  have hc2 := cut_len r1
  have HC2 := Lib.hid (fun W (h : MaxAt W) => cut_gen r1 (by omega) W h)
  generalize Lib.cut r1 [44] = t2 at *
  obtain ⟨two, bh, is⟩ := t2
  simp only at hc2 HC2 HHD
  have HFL := Lib.hid (fun W => flag_any one (by omega) W)
  generalize flF one = fl at *
  obtain ⟨f, rt⟩ := fl
  simp only at HFL HHD
  go_enter Tryd.func45, Tryd.ntmps45
  go_wp2_with fail
  refine (HC1.out w HM.out).mono ?_
  rintro e W1 ⟨rfl, hx⟩
  have HX1 := Lib.hid hx
  clear hx
  go_wp2_with fail
  refine (HC2.out W1 (HM.out.ext HX1.out)).mono ?_
  rintro e W2 ⟨rfl, hx⟩
  have HX2 := Lib.hid (ext_trans HX1.out hx)
  clear hx
  go_wp2_with fail
  refine (HFL.out W2).mono ?_
  rintro e W3 ⟨rfl, hw⟩
  subst W3
  obtain ⟨pb, hpb⟩ : ∃ pb, (f == [112]) = pb := ⟨_, rfl⟩
  rw [hpb] at HHD
  by_cases h2 : two = []
  · have hn2 : (two == []) = true := by simp [h2]
    have hwb : whoB two = true := by simp [whoB, h2]
    rw [hwb, Bool.and_true] at HHD
    clear hwb h2
    by_cases hb : bh = []
    · have hbb : (bh == []) = true := by simp [hb]
      rw [decide_eq_true hb] at HHD
      clear hb
      cases ok <;> cases is <;> cases rt <;> (have hd2 := HHD.out.symm; subst hd2; go_wp2; go_ret2; exact ⟨rfl, HX2.out⟩)
    · have hbb : (bh == []) = false := by simp [hb]
      rw [decide_eq_false hb] at HHD
      clear hb
      cases ok <;> cases is <;> cases rt <;> (have hd2 := HHD.out.symm; subst hd2; go_wp2; go_ret2; exact ⟨rfl, HX2.out⟩)
  · have hn2 : (two == []) = false := by simp [h2]
    have hwb : whoB two = (Lib.hasPrefix two [97, 61] && escB (Lib.trimPrefix two [97, 61])) := by simp [whoB, h2]
    rw [hwb] at HHD
    clear hwb h2
    have htl := strim_len two [97, 61]
    have HP := Lib.hid (fun W => pre_any two 97 61 W)
    have HE := Lib.hid (fun W (h : FormsAt W) => escaped_any (Lib.trimPrefix two [97, 61]) (by omega) W h)
    generalize Lib.trimPrefix two [97, 61] = who at *
    generalize Lib.hasPrefix two [97, 61] = ours at *
    generalize escB who = named at *
    generalize (unV who).1 = un at *
    go_wp2_with fail
    refine (HP.out W2).mono ?_
    rintro e W3 ⟨rfl, hw⟩
    subst W3
    go_wp2_with fail
    refine (HE.out W2 (HF.out.ext HX2.out)).mono ?_
    rintro e W4 ⟨rfl, hx⟩
    have HX4 := Lib.hid (ext_trans HX2.out hx)
    clear hx
    by_cases hb : bh = []
    · have hbb : (bh == []) = true := by simp [hb]
      rw [decide_eq_true hb] at HHD
      clear hb
      cases ok <;> cases is <;> cases rt <;> cases ours <;> cases named <;> (have hd2 := HHD.out.symm; subst hd2; go_wp2; go_ret2; exact ⟨rfl, HX4.out⟩)
    · have hbb : (bh == []) = false := by simp [hb]
      rw [decide_eq_false hb] at HHD
      clear hb
      cases ok <;> cases is <;> cases rt <;> cases ours <;> cases named <;> (have hd2 := HHD.out.symm; subst hd2; go_wp2; go_ret2; exact ⟨rfl, HX4.out⟩)
end Go.Proofs.YtjkbigecejogdaaDoor
