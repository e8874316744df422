/-
  strconv.FormatUint at base 10; trace.number.
-/
import Derived.Lib.Walk
import Derived.Lib.ItoaMem
import Derived.Lib.AppendIntMem
import Derived.WalkKit
import Derived.BigCall
import Derived.BigGuard
import Derived.Test.YtpndahmlbjhdfaaDoorRows
import Derived.Test.YtpndahmlbjhdfaaDoorLbk
import Derived.Test.YtpndahmlbjhdfaaDoorEvp
namespace Go.Proofs.YtpndahmlbjhdfaaDoor
open Go.RowKit Go.Sort
set_option maxRecDepth 100000
set_option linter.unusedVariables false
set_option linter.unusedSimpArgs false
/-- What a number's text needs: the table of tens. -/
structure Lt (W : World) : Prop where
  tab : Lib.TabIs Tryd.prog W "internal/strconv.uint64pow10" .u64 Lib.pow10Tab
theorem Lb.lt' {W : World} (h : Lb W) : Lt W := ⟨h.tab⟩
theorem Lt.ext {A C : World} (h : Lt A) (he : Ext A C) : Lt C := ⟨tabIs_keep h.tab fun k hk _ => he.block k hk⟩
theorem itoaT_any (n : Int) (h0 : -9223372036854775808 ≤ n) (h1 : n ≤ 9223372036854775807) (W : World) (hW : Lt W) :
    Calls Tryd.prog 54 #[.int .i64 n] W fun e w' => e = .returned (Str (Lib.itoa n)) ∧ Ext W w' :=
  (Tryd.strconv_Itoa n h0 h1 W hW.tab).mono fun e w' ⟨he, k, os, hw⟩ => ⟨he, by rw [hw]; exact Lib.below_grow _ W (Nat.le_refl _) k os⟩
set_option maxHeartbeats 1000000 in
theorem ifmtU_any (u : Nat) (hu64 : u < 18446744073709551616) (w : World) (hL : Lt w) :
    Calls Tryd.prog 74 #[.int .u64 (u : Int), .int .i64 10] w fun e w' => e = .returned (Str (Lib.decDigits u)) ∧ Ext w w' := by
  have htab := hL.tab
  by_cases hs : u < 100
  · go_enter Tryd.func74, Tryd.ntmps74
    go_wp2_with (go_at_call 89; refine (Tryd.internal_strconv_small u hs _).mono ?_; rintro e w' ⟨rfl, rfl⟩)
    go_ret
    exact ⟨rfl, ext_refl _⟩
  · have hu1 : 1 ≤ u := by omega
    have hnd20 : Lib.nDigits u ≤ 20 := by have := Lib.numDigits_eq u hu1 hu64; split at this <;> omega
    have hal : Tryd.prog.arrayLen 141 = 24 := by simp [Program.arrayLen, Tryd.underlying141]
    have hsl1 : ∀ W, (Instr.sliceAt 141 (.pointer (some ⟨w.heap.size, 0, none⟩)) none (some (.int .i64 (Lib.nDigits u : Int))) none).run Tryd.prog W = .ok (.slice (some ⟨w.heap.size, 0, none⟩) (Lib.nDigits u) 24) W := fun W => by
      rw [run_sliceAt_array_h W 141 ⟨w.heap.size, 0, none⟩ (by simp [Program.arrayLen, Program.elem, Tryd.underlying141]) .i64 (Lib.nDigits u : Int) (by omega) (by rw [hal]; omega)]
      go_simp
    have hH0 := Lib.holds_zero0 w 141 (Lib.nDigits u) (by omega)
    have hfmt := Tryd.internal_strconv_formatBase10 w.heap.size 0 24 u (Array.replicate (Lib.nDigits u) 0) (w.alloc (.cells Lib.zeros24 141)) hH0 (by rw [Array.size_replicate]; exact Lib.lt_pow_nDigits u) hu64 (by rw [Array.size_replicate]; omega)
    rw [Array.size_replicate] at hfmt
    have HH0 := Lib.hid hH0
    have HT := Lib.hid htab
    clear hH0 hal htab
    go_enter Tryd.func74, Tryd.ntmps74
    go_wp2_with (go_at_call 90; refine (Tryd.internal_strconv_numDigits u hu1 hu64 _ (Lib.tabIs_alloc HT.out _)).mono ?_; rintro e w' ⟨rfl, rfl⟩)
    refine hfmt.mono ?_
    rintro e w' ⟨rfl, k, v', dk, rfl, hF⟩
    have hcv : (convert 45 9 (.slice (some ⟨w.heap.size, 0, none⟩) (Lib.nDigits u) 24)).run Tryd.prog ((putRow (fun (b : UInt8) => Value.int .u8 (b.toNat : Int)) (w.alloc (.cells Lib.zeros24 141)) w.heap.size 0 dk).drewN k) = .ok (.string ⟨(Lib.decDigits u).toArray⟩) ((putRow (fun (b : UInt8) => Value.int .u8 (b.toNat : Int)) (w.alloc (.cells Lib.zeros24 141)) w.heap.size 0 dk).drewN k) := by
      have h := run_convert_bytes_back (P := Tryd.prog) ((putRow (fun (b : UInt8) => Value.int .u8 (b.toNat : Int)) (w.alloc (.cells Lib.zeros24 141)) w.heap.size 0 dk).drewN k) 45 9 5 ⟨w.heap.size, 0, none⟩ 24 (Lib.decDigits u) Tryd.underlying45 Tryd.underlying5 Tryd.underlying9 (fun j hj => by
        rw [Lib.row_is_numeral hF j hj, Lib.add_plain, World.cell?_drewN]
        exact cell?_putRow (fun (b : UInt8) => Value.int .u8 (b.toNat : Int)) _ w.heap.size 0 _ dk HH0.out (by rw [hF.size, Array.size_replicate]) j (by rw [hF.size]; rw [Lib.decDigits_length] at hj; exact hj))
      rw [Lib.decDigits_length] at h
      exact h
    go_wp2
    go_ret
    obtain ⟨os, eo⟩ := Lib.fin_at w (.cells Lib.zeros24 141) dk k 0
    exact ⟨rfl, by rw [eo]; exact Lib.below_grow _ w (Nat.le_refl _) k os⟩
theorem fmtU_any (u : Nat) (hu64 : u < 18446744073709551616) (w : World) (hL : Lt w) :
    Calls Tryd.prog 53 #[.int .u64 (u : Int), .int .i64 10] w fun e w' => e = .returned (Str (Lib.decDigits u)) ∧ Ext w w' := by
  have H := Lib.hid (ifmtU_any u hu64 w hL)
  go_enter Tryd.func53, Tryd.ntmps53
  go_wp2_with (go_at_call 74; refine (H.out).mono ?_; rintro e w' ⟨rfl, hx⟩)
  go_ret
  exact ⟨rfl, hx⟩
theorem parseM_le (M : Nat) : ∀ (l : List UInt8) (acc u : Nat), acc ≤ M → Lib.parseUintM M acc l = .ok u → u ≤ M
  | [], acc, u, h, he => by simp [Lib.parseUintM] at he; omega
  | c :: r, acc, u, h, he => by
    unfold Lib.parseUintM at he
    split at he
    · split at he
      · cases he
      · split at he
        · cases he
        · exact parseM_le M r _ u (by omega) he
    · cases he
theorem parseB_lt (l : List UInt8) (u : Nat) (h : Lib.parseUintB 64 l = .ok u) : u < 18446744073709551616 := by
  unfold Lib.parseUintB at h
  split at h
  · cases h
  · have := parseM_le _ l 0 u (Nat.zero_le _) h
    omega
theorem parseU_any (l : List UInt8) (hl : l.length ≤ 100000) (W : World) (hL : Lb W) :
    Calls Tryd.prog 77 #[Str l, .int .i64 10, .int .i64 64] W fun e w' => (∃ (m : Nat) (ev : Value), e = .returned (.tuple #[.int .u64 (m : Int), ev]) ∧ m < 18446744073709551616 ∧ ((Lib.parseUintB 64 l = .ok m ∧ ev = .nilIface) ∨ ((∀ u, Lib.parseUintB 64 l ≠ .ok u) ∧ ∃ t p, ev = .iface t p))) ∧ Ext W w' := by
  cases h : Lib.parseUintB 64 l with
  | ok u =>
    refine (Tryd.strconv_ParseUint_10_at64_ok ⟨l.toArray⟩ (by rw [size_list]; omega) u h W).mono fun e w' ⟨he, hw⟩ => ⟨⟨u, _, he, ?_, .inl ⟨rfl, rfl⟩⟩, ?_⟩
    · exact parseB_lt l u h
    · rcases hw with hw | hw
      · rw [hw]; exact ext_refl _
      · rw [hw]; exact Lib.bytesWorld_below _ _ _
  | range =>
    obtain ⟨te, pe, hv⟩ := hL.e2
    exact (Tryd.strconv_ParseUint_10_at64_range ⟨l.toArray⟩ (by rw [size_list]; omega) h _ W hv (.inr ⟨te, pe, rfl⟩)).mono fun e w' ⟨N, he, _, _, hb⟩ => ⟨⟨18446744073709551615, _, he, by omega, .inr ⟨fun u hu => (by cases hu), _, _, rfl⟩⟩, hb⟩
  | _ =>
    obtain ⟨te, pe, hv⟩ := hL.e1
    exact (Tryd.strconv_ParseUint_10_at64_syntax ⟨l.toArray⟩ (by rw [size_list]; omega) (h.trans (by rfl)) _ W hv (.inr ⟨te, pe, rfl⟩)).mono fun e w' ⟨N, he, _, _, hb⟩ => ⟨⟨0, _, he, by omega, .inr ⟨fun u hu => (by cases hu), _, _, rfl⟩⟩, hb⟩
theorem numB_iff (l : List UInt8) : numB l = true ↔ (canB l = true ∧ valD 0 l < 18446744073709551616) := by simp [numB]
set_option maxHeartbeats 400000 in
theorem number_any (l : List UInt8) (hl : l.length ≤ 100000) (W : World) (hL : Lb W) :
    Calls Tryd.prog 56 #[Str l] W fun e w' => (∃ m : Nat, e = .returned (.tuple #[.int .u64 (m : Int), .bool (numB l)]) ∧ m < 18446744073709551616 ∧ (numB l = true → m = valD 0 l)) ∧ Ext W w' := by
  have HP := Lib.hid (parseU_any l hl W hL)
  have HL := Lib.hid hL
  clear hL
  go_enter Tryd.func56, Tryd.ntmps56
  go_wp2_with fail
  refine (HP.out).mono ?_
  rintro e w1 ⟨⟨m, ev, rfl, hm, hev⟩, hx1⟩
  have HF := Lib.hid (fmtU_any m hm w1 (HL.out.ext hx1).lt')
  have HX1 := Lib.hid hx1
  clear hx1
  rcases hev with ⟨hok, rfl⟩ | ⟨hbad, t, p, rfl⟩
  · have hpf := (parse_format l m)
    have HN : Hid (numB l = decide (Lib.decDigits m = l) ∧ (numB l = true → m = valD 0 l)) := Lib.hid (by
      constructor
      · rw [Bool.eq_iff_iff, numB_iff, decide_eq_true_eq]
        constructor
        · rintro ⟨h1, h2⟩
          have := parse_val l h1 h2
          rw [hok] at this
          cases this
          exact can_dec l h1
        · intro h
          have := hpf.1 ⟨hok, h⟩
          exact ⟨this.1, this.2.2.1⟩
      · intro h
        have h' := (numB_iff l).1 h
        have := parse_val l h'.1 h'.2
        rw [hok] at this
        cases this; rfl)
    have HM := Lib.hid hm
    clear hpf hok hm
    go_wp2_with (go_at_call 53; refine (HF.out).mono ?_; rintro e w2 ⟨rfl, hx2⟩)
    have hb : (Lib.decDigits m == l) = numB l := by rw [HN.out.1, Bool.eq_iff_iff]; simp
    rw [hb]
    go_ret2
    exact ⟨⟨m, rfl, HM.out, HN.out.2⟩, ext_trans HX1.out hx2⟩
  · have hn : numB l = false := by
      cases h : numB l with
      | false => rfl
      | true => have h' := (numB_iff l).1 h; exact absurd (parse_val l h'.1 h'.2) (hbad _)
    have HB := Lib.hid hn
    have HM := Lib.hid hm
    clear hn hbad hm
    go_wp2
    go_ret2
    exact ⟨⟨m, by rw [HB.out]; rfl, HM.out, fun h => by rw [HB.out] at h; cases h⟩, HX1.out⟩
end Go.Proofs.YtpndahmlbjhdfaaDoor
