/-
  Encode, EncodeURL, Hex; Decode, DecodeURL; awake.
-/
import Derived.Test.YtpndahmlbjhdfaaDoorRows
import Derived.Test.YtpndahmlbjhdfaaDoorKit
import Derived.Test.YtpndahmlbjhdfaaDoorHexr
import Derived.Test.YtpndahmlbjhdfaaDoorDec
namespace Go.Proofs.YtpndahmlbjhdfaaDoor
open Go.RowKit

def plain : List UInt8 := [65, 66, 67, 68, 69, 70, 71, 72, 73, 74, 75, 76, 77, 78, 79, 80, 81, 82, 83, 84, 85, 86, 87, 88, 89, 90, 97, 98, 99, 100, 101, 102, 103, 104, 105, 106, 107, 108, 109, 110, 111, 112, 113, 114, 115, 116, 117, 118, 119, 120, 121, 122, 48, 49, 50, 51, 52, 53, 54, 55, 56, 57, 43, 47]
def other : List UInt8 := [65, 66, 67, 68, 69, 70, 71, 72, 73, 74, 75, 76, 77, 78, 79, 80, 81, 82, 83, 84, 85, 86, 87, 88, 89, 90, 97, 98, 99, 100, 101, 102, 103, 104, 105, 106, 107, 108, 109, 110, 111, 112, 113, 114, 115, 116, 117, 118, 119, 120, 121, 122, 48, 49, 50, 51, 52, 53, 54, 55, 56, 57, 45, 95]

set_option maxHeartbeats 1000000 in
theorem hex_any (v : Value) (l : List UInt8) (w : World) (hv : SlB w v l) (hn : l.length ≤ 1000) :
    Calls Tryd.prog 51 #[v] w fun e w' => e = .returned (Str (hexL l)) ∧ Ext w w' := by
  obtain ⟨ao, cap, rfl, hcap, hmax, hnil, hcell⟩ := hv
  simp only [List.length_map] at hcap ⊢
  have HC := Lib.hid hcell; clear hcell
  have hix := run_index_adr (P := Tryd.prog) Tryd.underlying45 Tryd.sizeOf5 hnil hcap
  have hl := hexd_lit; have hll := hexd_len
  have hb0 := bld_new (w.heap.size + 1) w
  go_enter Tryd.func51, Tryd.ntmps51
  go_wp2
  go_loopw [8] (fun i wr => ∃ k : Nat, k ≤ l.length ∧ i = .int .i64 k ∧ Bld (w.heap.size + 1) wr w.heap.size (hexL (l.take k)) ∧ Ext w wr) (fun i _ => l.length - (intOf i).toNat)
  case atStart => exact ⟨0, by omega, rfl, hb0, (Below.refl _ w).alloc (Nat.le_refl _) _⟩
  case round =>
    obtain ⟨k, hk, rfl, hbl, hext⟩ := hrel
    by_cases h3 : k < l.length
    · have hck : wr.cell? (adr ao k) = some (Byt (bt l k)) := ext_cell hext (HC.out k _ (byt_map l k h3))
      have hlen : (hexL (l.take k)).length ≤ 2000 := by rw [hexL_len]; simp; omega
      have Hh := Lib.hid (hexL_snoc (l.take k) (bt l k)); rw [← take_snoc l k h3] at Hh
      have hb := (bt l k).toNat_lt
      generalize bt l k = c at *
      have hsz := hbl.lt
      generalize hexL (l.take k) = bs at *
      have Hb := Lib.hid hbl; clear hbl
      have p1 : bs.length + 1 ≤ 100000000 := by omega
      have p2 : (bs ++ [bt hexd (c.toNat / 16)]).length + 1 ≤ 100000000 := by simp; omega
      have p3 : w.heap.size + 1 ≤ wr.heap.size := hsz
      go_wp2_with (go_at_call 70; first
        | (with_reducible refine (WriteByte_any (w.heap.size + 1) w.heap.size (bs ++ [bt hexd (c.toNat / 16)]) (bt hexd (c.toNat % 16)) _ Hb1.out p2 (Nat.le_trans p3 hs1)).mono ?_; rintro e W2 ⟨he2, hb2, hfr2⟩; subst he2; have Hb2 := Lib.hid hb2; clear hb2)
        | (with_reducible refine (WriteByte_any (w.heap.size + 1) w.heap.size bs (bt hexd (c.toNat / 16)) wr Hb.out p1 p3).mono ?_; rintro e W1 ⟨he1, hb1, hfr1⟩; subst he1; have Hb1 := Lib.hid hb1; clear hb1; have hs1 := hfr1.size))
      go_roundw
      case rel => exact ⟨k + 1, by omega, by go_num, by rw [Hh.out, List.append_assoc] at *; exact Hb2.out, hext.trans ((hfr1.trans hfr2).below (by omega) (by omega) (by omega))⟩
      case measure => simp [intOf]; omega
    · have hsz := hbl.lt
      have Hb := Lib.hid hbl; clear hbl
      go_wp2_with (go_at_call 71; refine (String_any (w.heap.size + 1) w.heap.size _ _ Hb.out).mono ?_; rintro e W1 ⟨rfl, hfr1⟩)
      go_ret
      exact ⟨by rw [List.take_of_length_le (by omega)]; rfl, hext.trans (hfr1.below (by omega) (by omega) (by omega))⟩

/-- One '=' off the end. -/
def trim (l : List UInt8) : List UInt8 := if 0 < l.length ∧ bt l (l.length - 1) = 61 then l.take (l.length - 1) else l
def trimN (l : List UInt8) : Nat → List UInt8
  | 0 => l
  | k + 1 => trim (trimN l k)
theorem trim_len (l : List UInt8) : (trim l).length ≤ l.length := by unfold trim; split <;> simp
theorem trimN_len (l : List UInt8) : ∀ k, (trimN l k).length ≤ l.length
  | 0 => Nat.le_refl _
  | k + 1 => Nat.le_trans (trim_len _) (trimN_len l k)
/-- What Decode answers. -/
def decF (l : List UInt8) : List UInt8 × Nat :=
  if l.length % 4 = 0 then (if (trimN l 2).length % 4 = 1 then ([], 5) else decR plain (trimN l 2)) else ([], 2)
def decU (l : List UInt8) : List UInt8 × Nat := if l.length % 4 = 1 then ([], 2) else decR other l

end Go.Proofs.YtpndahmlbjhdfaaDoor
