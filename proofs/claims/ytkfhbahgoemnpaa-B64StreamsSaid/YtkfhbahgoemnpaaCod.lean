/-
  Encode, EncodeURL, Hex; Decode, DecodeURL; awake.
-/
import Derived.Test.YtkfhbahgoemnpaaRows
import Derived.Test.YtkfhbahgoemnpaaAll
import Derived.Test.YtkfhbahgoemnpaaHexr
import Derived.Test.YtkfhbahgoemnpaaSml
import Derived.Test.YtkfhbahgoemnpaaDec
namespace Go.Proofs.Ytkfhbahgoemnpaa
open Go.RowKit

def plain : List UInt8 := [65, 66, 67, 68, 69, 70, 71, 72, 73, 74, 75, 76, 77, 78, 79, 80, 81, 82, 83, 84, 85, 86, 87, 88, 89, 90, 97, 98, 99, 100, 101, 102, 103, 104, 105, 106, 107, 108, 109, 110, 111, 112, 113, 114, 115, 116, 117, 118, 119, 120, 121, 122, 48, 49, 50, 51, 52, 53, 54, 55, 56, 57, 43, 47]
def other : List UInt8 := [65, 66, 67, 68, 69, 70, 71, 72, 73, 74, 75, 76, 77, 78, 79, 80, 81, 82, 83, 84, 85, 86, 87, 88, 89, 90, 97, 98, 99, 100, 101, 102, 103, 104, 105, 106, 107, 108, 109, 110, 111, 112, 113, 114, 115, 116, 117, 118, 119, 120, 121, 122, 48, 49, 50, 51, 52, 53, 54, 55, 56, 57, 45, 95]

theorem Encode_any (v : Value) (l : List UInt8) (w : World) (hv : SlB w v l) (hl : l.length ≤ 10000) :
    Calls Try.prog 11 #[v] w fun e w' => e = .returned (Str (allL plain true l)) ∧ Ext w w' := by
  have hA : plain.length = 64 := rfl
  go_enter Try.func11, Try.ntmps11
  go_wp2_with (go_at_call 33; refine (all_any plain l hA true v _ hv hl).mono ?_; rintro e w' ⟨rfl, hext⟩)
  go_ret
  exact ⟨rfl, hext⟩
theorem EncodeURL_any (v : Value) (l : List UInt8) (w : World) (hv : SlB w v l) (hl : l.length ≤ 10000) :
    Calls Try.prog 12 #[v] w fun e w' => e = .returned (Str (allL other false l)) ∧ Ext w w' := by
  have hA : other.length = 64 := rfl
  go_enter Try.func12, Try.ntmps12
  go_wp2_with (go_at_call 33; refine (all_any other l hA false v _ hv hl).mono ?_; rintro e w' ⟨rfl, hext⟩)
  go_ret
  exact ⟨rfl, hext⟩

set_option maxHeartbeats 1000000 in
theorem hex_any (v : Value) (l : List UInt8) (w : World) (hv : SlB w v l) (hn : l.length ≤ 1000) :
    Calls Try.prog 13 #[v] w fun e w' => e = .returned (Str (hexL l)) ∧ Ext w w' := by
  obtain ⟨ao, cap, rfl, hcap, hmax, hnil, hcell⟩ := hv
  simp only [List.length_map] at hcap ⊢
  have HC := Lib.hid hcell; clear hcell
  have hix := run_index_adr (P := Try.prog) Try.underlying22 Try.sizeOf5 hnil hcap
  have hl := hexd_lit; have hll := hexd_len
  have hb0 := bld_new (w.heap.size + 1) w
  go_enter Try.func13, Try.ntmps13
  go_wp2
  go_loopw [8] (fun i wr => ∃ k : Nat, k ≤ l.length ∧ i = .int .i64 k ∧ Bld (w.heap.size + 1) wr w.heap.size (hexL (l.take k)) ∧ Ext w wr) (fun i _ => l.length - (intOf i).toNat)
  case atStart => exact ⟨0, by omega, rfl, hb0, (Below.refl _ w).alloc (Nat.le_refl _) _⟩
  case round =>
    obtain ⟨k, hk, rfl, hbl, hext⟩ := hrel
    by_cases h3 : k < l.length
    · have hck : wr.cell? (adr ao k) = some (Byt (bt l k)) := ext_cell hext (HC.out k _ (byt_map l k h3))
      have hlen : (hexL (l.take k)).length ≤ 2000 := by rw [hexL_len]; simp; omega
      have Hh := Lib.hid (hexL_snoc (l.take k) (bt l k)); rw [← take_snoc l k h3] at Hh
      have hb := (bt l k).toNat_lt
      generalize bt l k = c at *
      have hsz := hbl.lt
      generalize hexL (l.take k) = bs at *
      have Hb := Lib.hid hbl; clear hbl
      have p1 : bs.length + 1 ≤ 100000000 := by omega
      have p2 : (bs ++ [bt hexd (c.toNat / 16)]).length + 1 ≤ 100000000 := by simp; omega
      have p3 : w.heap.size + 1 ≤ wr.heap.size := hsz
      go_wp2_with (go_at_call 34; first
        | (with_reducible refine (WriteByte_any (w.heap.size + 1) w.heap.size (bs ++ [bt hexd (c.toNat / 16)]) (bt hexd (c.toNat % 16)) _ Hb1.out p2 (Nat.le_trans p3 hs1)).mono ?_; rintro e W2 ⟨he2, hb2, hfr2⟩; subst he2; have Hb2 := Lib.hid hb2; clear hb2)
        | (with_reducible refine (WriteByte_any (w.heap.size + 1) w.heap.size bs (bt hexd (c.toNat / 16)) wr Hb.out p1 p3).mono ?_; rintro e W1 ⟨he1, hb1, hfr1⟩; subst he1; have Hb1 := Lib.hid hb1; clear hb1; have hs1 := hfr1.size))
      go_roundw
      case rel => exact ⟨k + 1, by omega, by go_num, by rw [Hh.out, List.append_assoc] at *; exact Hb2.out, hext.trans ((hfr1.trans hfr2).below (by omega) (by omega) (by omega))⟩
      case measure => simp [intOf]; omega
    · have hsz := hbl.lt
      have Hb := Lib.hid hbl; clear hbl
      go_wp2_with (go_at_call 35; refine (String_any (w.heap.size + 1) w.heap.size _ _ Hb.out).mono ?_; rintro e W1 ⟨rfl, hfr1⟩)
      go_ret
      exact ⟨by rw [List.take_of_length_le (by omega)]; rfl, hext.trans (hfr1.below (by omega) (by omega) (by omega))⟩

/-- One '=' off the end. -/
def trim (l : List UInt8) : List UInt8 := if 0 < l.length ∧ bt l (l.length - 1) = 61 then l.take (l.length - 1) else l
def trimN (l : List UInt8) : Nat → List UInt8
  | 0 => l
  | k + 1 => trim (trimN l k)
theorem trim_len (l : List UInt8) : (trim l).length ≤ l.length := by unfold trim; split <;> simp
theorem trimN_len (l : List UInt8) : ∀ k, (trimN l k).length ≤ l.length
  | 0 => Nat.le_refl _
  | k + 1 => Nat.le_trans (trim_len _) (trimN_len l k)
/-- What Decode answers. -/
def decF (l : List UInt8) : List UInt8 × Nat :=
  if l.length % 4 = 0 then (if (trimN l 2).length % 4 = 1 then ([], 5) else decR plain (trimN l 2)) else ([], 2)
def decU (l : List UInt8) : List UInt8 × Nat := if l.length % 4 = 1 then ([], 2) else decR other l

theorem DecodeURL_any (l : List UInt8) (w : World) (hl : l.length ≤ 10000) :
    Calls Try.prog 21 #[Str l] w fun e w' => ∃ v, e = .returned (.tuple #[v, .int .i64 ((decU l).2 : Int)]) ∧ w'.ownsRow w.heap.size 5 1 v (decU l).1.length ((decU l).1.map Byt) ∧ Ext w w' := by
  have hA : other.length = 64 := rfl
  have hf := Lib.hid (show decU l = if l.length % 4 = 1 then ([], 2) else decR other l from rfl)
  by_cases h : l.length % 4 = 1
  · rw [if_pos h] at hf
    go_enter Try.func21, Try.ntmps21
    go_wp2
    go_ret2
    exact ⟨.slice none 0 0, by rw [hf.out]; rfl, by rw [hf.out]; exact World.ownsRow_nil _ _ _ _, Below.refl _ _⟩
  · rw [if_neg h] at hf
    have Hd := Lib.hid (decode_any other l hA w hl h)
    rw [← hf.out] at Hd
    go_enter Try.func21, Try.ntmps21
    go_wp2_with (go_at_call 38; refine Hd.out.mono ?_; rintro e w' ⟨v, rfl, hown, hext⟩; have Ho := Lib.hid hown; clear hown)
    go_ret2
    exact ⟨v, rfl, Ho.out, hext⟩

set_option maxHeartbeats 1000000 in
theorem Decode_any (l : List UInt8) (w : World) (hl : l.length ≤ 10000) :
    Calls Try.prog 20 #[Str l] w fun e w' => ∃ v, e = .returned (.tuple #[v, .int .i64 ((decF l).2 : Int)]) ∧ w'.ownsRow w.heap.size 5 1 v (decF l).1.length ((decF l).1.map Byt) ∧ Ext w w' := by
  have hA : plain.length = 64 := rfl
  have hf := Lib.hid (show decF l = if l.length % 4 = 0 then (if (trimN l 2).length % 4 = 1 then ([], 5) else decR plain (trimN l 2)) else ([], 2) from rfl)
  by_cases h : l.length % 4 = 0
  · rw [if_pos h] at hf
    go_enter Try.func20, Try.ntmps20
    go_wp2
    go_loop [0, 9] (fun s i => ∃ k : Nat, k ≤ 2 ∧ i = .int .i64 k ∧ s = Str (trimN l k)) (fun _ i => 2 - (intOf i).toNat)
    case atStart => exact ⟨0, by omega, rfl, rfl⟩
    case round =>
      obtain ⟨k, hk, rfl, rfl⟩ := hrel
      by_cases h3 : k < 2
      · have hn := Lib.hid (show trimN l (k + 1) = trim (trimN l k) from rfl)
        have htl := trimN_len l k
        generalize trimN l k = t at *
        by_cases h0 : 0 < t.length
        · have hix : ∀ W, (Instr.index 9 (Str t) (.int .i64 ((t.length : Int) - 1))).run Try.prog W = .ok (Byt (bt t (t.length - 1))) W := fun W => run_index_str Try.underlying9 t (t.length - 1) _ (by omega) (by omega) W
          by_cases hb : bt t (t.length - 1) = 61
          · have htr : trim t = t.take (t.length - 1) := if_pos ⟨h0, hb⟩
            rw [htr] at hn
            rw [hb] at hix
            clear hb htr
            go_wp2
            go_round
            case rel => exact ⟨k + 1, by omega, by go_num, by rw [hn.out]⟩
            case measure => simp [intOf] <;> omega
          · have htr : trim t = t := if_neg (fun h => hb h.2)
            rw [htr] at hn
            have hbn : ((bt t (t.length - 1)).toNat : Int) ≠ 61 := fun e => hb (UInt8.toNat_inj.1 (by rw [show (61 : UInt8).toNat = 61 from rfl]; omega))
            clear hb htr
            generalize bt t (t.length - 1) = c at *
            go_wp2
            go_round
            case rel => exact ⟨k + 1, by omega, by go_num, by rw [hn.out]⟩
            case measure => simp [intOf] <;> omega
        · have htr : trim t = t := if_neg (fun h => h0 h.1)
          rw [htr] at hn
          clear htr
          go_wp2
          go_round
          case rel => exact ⟨k + 1, by omega, by go_num, by rw [hn.out]⟩
          case measure => simp [intOf] <;> omega
      · obtain rfl : k = 2 := by omega
        have htl := trimN_len l 2
        clear h3 hk
        generalize trimN l 2 = t at *
        by_cases h1 : t.length % 4 = 1
        · rw [if_pos h1] at hf
          go_wp2
          go_ret2
          exact ⟨.slice none 0 0, by rw [hf.out]; rfl, by rw [hf.out]; exact World.ownsRow_nil _ _ _ _, Below.refl _ _⟩
        · rw [if_neg h1] at hf
          have Hd := Lib.hid (decode_any plain t hA w (by omega) h1)
          rw [← hf.out] at Hd
          go_wp2_with (go_at_call 38; refine Hd.out.mono ?_; rintro e w' ⟨v, rfl, hown, hext⟩; have Ho := Lib.hid hown; clear hown)
          go_ret2
          exact ⟨v, rfl, Ho.out, hext⟩
  · rw [if_neg h] at hf
    go_enter Try.func20, Try.ntmps20
    go_wp2
    go_ret2
    exact ⟨.slice none 0 0, by rw [hf.out]; rfl, by rw [hf.out]; exact World.ownsRow_nil _ _ _ _, Below.refl _ _⟩
end Go.Proofs.Ytkfhbahgoemnpaa
