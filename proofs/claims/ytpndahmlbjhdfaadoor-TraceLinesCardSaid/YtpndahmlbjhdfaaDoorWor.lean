/-
  sha.word, ref01.Num.
-/
import Derived.BigQuiet
import Derived.Test.YtpndahmlbjhdfaaDoorRows
import Derived.Test.YtpndahmlbjhdfaaDoorRot
namespace Go.Proofs.YtpndahmlbjhdfaaDoor
open Go.RowKit
set_option maxRecDepth 100000
set_option linter.unusedVariables false
set_option linter.unusedSimpArgs false
theorem word_num (a b c d : UInt8) : bits .or .u32 (bits .or .u32 (bits .or .u32 ((a.toNat : Int) * 16777216) ((b.toNat : Int) * 65536)) ((c.toNat : Int) * 256)) (d.toNat : Int) = ((UInt32.ofNat (((a.toNat * 256 + b.toNat) * 256 + c.toNat) * 256 + d.toNat)).toNat : Int) := by
  have ha := a.toNat_lt; have hb := b.toNat_lt; have hc := c.toNat_lt; have hd := d.toNat_lt
  have e1 : (a.toNat : Int) * 16777216 = ((a.toNat * 16777216 : Nat) : Int) := by omega
  have e2 : (b.toNat : Int) * 65536 = ((b.toNat * 65536 : Nat) : Int) := by omega
  have e3 : (c.toNat : Int) * 256 = ((c.toNat * 256 : Nat) : Int) := by omega
  rw [e1, e2, e3, u32_or_nat _ _ (by omega) (by omega), nat_join 24 _ _ (by omega) (by omega), u32_or_nat _ _ (by omega) (by omega), nat_join 16 _ _ (by omega) (by omega), u32_or_nat _ _ (by omega) (by omega), nat_join 8 _ _ (by omega) (by omega)]
  rw [UInt32.toNat_ofNat']
  omega
theorem word_any (v : Value) (l : List UInt8) (w : World) (hv : SlB w v l) (h4 : 4 ≤ l.length) :
    Calls Tryd.prog 126 #[v] w fun e w' => e = .returned (W32 (shWord l 0)) ∧ ∃ m, w' = w.drewN m := by
  obtain ⟨ao, cap, rfl, hcap, hmax, hnil, hcell⟩ := hv
  simp only [List.length_map] at hcap ⊢
  have hix := run_index_adr (P := Tryd.prog) Tryd.underlying45 Tryd.sizeOf5 hnil hcap
  have i0 : ∀ W, (Instr.indexAt 45 (.slice ao l.length cap) (.int .i64 0)).run Tryd.prog W = .ok (.pointer (some (adr ao 0))) W := fun W => hix W 0 (by omega)
  have i1 : ∀ W, (Instr.indexAt 45 (.slice ao l.length cap) (.int .i64 1)).run Tryd.prog W = .ok (.pointer (some (adr ao 1))) W := fun W => hix W 1 (by omega)
  have i2 : ∀ W, (Instr.indexAt 45 (.slice ao l.length cap) (.int .i64 2)).run Tryd.prog W = .ok (.pointer (some (adr ao 2))) W := fun W => hix W 2 (by omega)
  have i3 : ∀ W, (Instr.indexAt 45 (.slice ao l.length cap) (.int .i64 3)).run Tryd.prog W = .ok (.pointer (some (adr ao 3))) W := fun W => hix W 3 (by omega)
  have c0 : w.cell? (adr ao 0) = some (Byt (bt l 0)) := hcell 0 _ (byt_map l 0 (by omega))
  have c1 : w.cell? (adr ao 1) = some (Byt (bt l 1)) := hcell 1 _ (byt_map l 1 (by omega))
  have c2 : w.cell? (adr ao 2) = some (Byt (bt l 2)) := hcell 2 _ (byt_map l 2 (by omega))
  have c3 : w.cell? (adr ao 3) = some (Byt (bt l 3)) := hcell 3 _ (byt_map l 3 (by omega))
  clear hix hcell
  have hw := Lib.hid (show shWord l 0 = UInt32.ofNat ((((bt l 0).toNat * 256 + (bt l 1).toNat) * 256 + (bt l 2).toNat) * 256 + (bt l 3).toNat) from rfl)
  have hn := word_num (bt l 0) (bt l 1) (bt l 2) (bt l 3)
  have h0 := (bt l 0).toNat_lt; have h1 := (bt l 1).toNat_lt; have h2 := (bt l 2).toNat_lt; have h3 := (bt l 3).toNat_lt
  have Hn := Lib.hid hn; clear hn
  generalize bt l 0 = a at *
  generalize bt l 1 = b at *
  generalize bt l 2 = c at *
  generalize bt l 3 = d at *
  go_enter Tryd.func126, Tryd.ntmps126
  go_wp2
  refine wp_region_quiet_lit (by kernel_rfl) (by kernel_rfl) ?_
  repeat (first
    | go_big_quiet_skip
    | (go_big_quiet_want; go_big_quiet_op; (try go_bits); first | go_big_quiet_on | go_big_quiet_call (fail)))
  refine wpQuiet_nil ?_
  intro _ hw'
  obtain ⟨nq, hw''⟩ := hw'
  subst hw''
  go_wp2
  go_ret
  exact ⟨by rw [hw.out]; exact congrArg Ending.returned (congrArg (Value.int .u32) Hn.out), _, rfl⟩
/-- Bytes as a number. -/
def numL (l : List UInt8) : Nat := l.foldl (fun n b => n * 256 + b.toNat) 0
theorem numL_snoc (l : List UInt8) (b : UInt8) : numL (l ++ [b]) = numL l * 256 + b.toNat := by simp [numL]
theorem numL_lt : ∀ l : List UInt8, numL l < 256 ^ l.length := by
  intro l
  have : ∀ r : List UInt8, numL r.reverse < 256 ^ r.length := fun r => by
    induction r with
    | nil => simp [numL]
    | cons b r ih =>
      have hb := b.toNat_lt
      rw [List.reverse_cons, numL_snoc, List.length_cons, Nat.pow_succ]
      omega
  simpa using this l.reverse
theorem numL_take (l : List UInt8) (k : Nat) (h : k < l.length) : numL (l.take (k + 1)) = numL (l.take k) * 256 + (bt l k).toNat := by
  rw [take_snoc l k h, numL_snoc]
theorem num_any (v : Value) (l : List UInt8) (w : World) (hv : SlB w v l) (h7 : l.length ≤ 7) :
    Calls Tryd.prog 101 #[v] w fun e w' => e = .returned (.int .u64 (numL l : Nat)) ∧ w' = w := by
  obtain ⟨ao, cap, rfl, hcap, hmax, hnil, hcell⟩ := hv
  simp only [List.length_map] at hcap ⊢
  have HC := Lib.hid hcell; clear hcell
  have hix := run_index_adr (P := Tryd.prog) Tryd.underlying45 Tryd.sizeOf5 hnil hcap
  go_enter Tryd.func101, Tryd.ntmps101
  go_wp2
  go_loop [3, 8] (fun v i => ∃ k : Nat, k ≤ l.length ∧ i = .int .i64 k ∧ v = .int .u64 (numL (l.take k) : Nat)) (fun _ i => l.length - (intOf i).toNat)
  case atStart => exact ⟨0, by omega, rfl, rfl⟩
  case round =>
    obtain ⟨k, hk, rfl, rfl⟩ := hrel
    by_cases h3 : k < l.length
    · have hck : w.cell? (adr ao k) = some (Byt (bt l k)) := HC.out k _ (byt_map l k h3)
      have hp : numL (l.take k) < 281474976710656 := Nat.lt_of_lt_of_le (numL_lt _) (Nat.pow_le_pow_right (n := 256) (by omega) (show (l.take k).length ≤ 6 by simp; omega))
      have hs := Lib.hid (numL_take l k h3)
      have hb := (bt l k).toNat_lt
      generalize bt l k = c at *
      generalize numL (l.take k) = p at *
      go_wp2
      go_round
      case rel => exact ⟨k + 1, by omega, by go_num, by rw [hs.out]; go_num⟩
      case measure => simp [intOf] <;> omega
    · go_wp2
      go_ret
      exact ⟨by rw [List.take_of_length_le (by omega)]; rfl, rfl⟩
end Go.Proofs.YtpndahmlbjhdfaaDoor
