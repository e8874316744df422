import Derived.Test.YtpndahmlbjhdfaaDoorRows
import Derived.Test.YtpndahmlbjhdfaaDoorKit
namespace Go.Proofs.YtpndahmlbjhdfaaDoor
open Go.RowKit

def hexd : List UInt8 := [48, 49, 50, 51, 52, 53, 54, 55, 56, 57, 97, 98, 99, 100, 101, 102]
theorem hexd_lit : (⟨#[48, 49, 50, 51, 52, 53, 54, 55, 56, 57, 97, 98, 99, 100, 101, 102]⟩ : ByteArray) = ⟨hexd.toArray⟩ := rfl
theorem hexd_len : hexd.length = 16 := rfl
def hexL : List UInt8 → List UInt8
  | [] => []
  | b :: l => bt hexd (b.toNat / 16) :: bt hexd (b.toNat % 16) :: hexL l
theorem hexL_snoc (l : List UInt8) (b : UInt8) : hexL (l ++ [b]) = hexL l ++ [bt hexd (b.toNat / 16), bt hexd (b.toNat % 16)] := by
  induction l with
  | nil => rfl
  | cons c l ih => simp [hexL, ih]
theorem hexL_len (l : List UInt8) : (hexL l).length = 2 * l.length := by
  induction l with
  | nil => rfl
  | cons c l ih => simp [hexL, ih]; omega

set_option maxHeartbeats 400000 in
theorem r1hex_any (v : Value) (l : List UInt8) (w : World) (hv : SlB w v l) (hn : l.length ≤ 1000) :
    Calls Tryd.prog 49 #[v] w fun e w' => e = .returned (Str (hexL l)) ∧ Ext w w' := by
  obtain ⟨ao, cap, rfl, hcap, hmax, hnil, hcell⟩ := hv
  simp only [List.length_map] at hcap ⊢
  have HC := Lib.hid hcell; clear hcell
  have hix := run_index_adr (P := Tryd.prog) Tryd.underlying45 Tryd.sizeOf5 hnil hcap
  have hl := hexd_lit; have hll := hexd_len
  go_enter Tryd.func49, Tryd.ntmps49
  go_wp2
  go_loopw [3, 8] (fun v i wr => ∃ k : Nat, k ≤ l.length ∧ i = .int .i64 k ∧ v = Str (hexL (l.take k)) ∧ (∃ m, wr = w.drewN m)) (fun _ i _ => l.length - (intOf i).toNat)
  case atStart => exact ⟨0, by omega, rfl, rfl, 0, rfl⟩
  case round =>
    obtain ⟨k, hk, rfl, rfl, m, rfl⟩ := hrel
    by_cases h3 : k < l.length
    · have hck : w.cell? (adr ao k) = some (Byt (bt l k)) := HC.out k _ (byt_map l k h3)
      have hlen : (hexL (l.take k)).length ≤ 2000 := by rw [hexL_len]; simp; omega
      have Hh := Lib.hid (hexL_snoc (l.take k) (bt l k)); rw [← take_snoc l k h3] at Hh
      have hb := (bt l k).toNat_lt
      generalize bt l k = c at *
      go_wp2
      refine wp_region_quiet_lit (by kernel_rfl) (by kernel_rfl) ?_
      repeat (first
        | go_big_quiet_skip
        | (go_big_quiet_want; go_big_quiet_op; (try go_bits); first | go_big_quiet_on | go_big_quiet_call (fail)))
      refine wpQuiet_nil ?_
      intro _ hw'
      obtain ⟨nq, hw''⟩ := hw'
      subst hw''
      go_wp2
      go_roundw
      case rel => exact ⟨k + 1, by omega, by go_num, by rw [Hh.out, cut_one _ _ (by omega), cut_one _ _ (by omega)]; rfl, _, rfl⟩
      case measure => simp [intOf]; omega
    · go_wp2
      go_ret
      exact ⟨by rw [List.take_of_length_le (by omega)]; rfl, Below.drewN (Below.refl _ _) m⟩

end Go.Proofs.YtpndahmlbjhdfaaDoor
