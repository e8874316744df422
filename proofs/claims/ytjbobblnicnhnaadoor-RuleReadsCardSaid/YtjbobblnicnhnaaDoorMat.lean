/-
  rule.Match.
-/
import Derived.WalkMore
import Derived.Test.YtjbobblnicnhnaaDoorRows
import Derived.Test.YtjbobblnicnhnaaDoorLbk
import Derived.Test.YtjbobblnicnhnaaDoorLow
import Derived.Test.YtjbobblnicnhnaaDoorGlb
namespace Go.Proofs.YtjbobblnicnhnaaDoor
open Go.RowKit
set_option maxRecDepth 100000
set_option linter.unusedVariables false
set_option linter.unusedSimpArgs false

def sLen : Value → Nat | .string s => s.size | _ => 0
set_option maxHeartbeats 1000000 in
theorem match_any (p h : List UInt8) (hp : p.length ≤ 10000) (hh : h.length ≤ 10000) (w : World) (hL : Lb w) :
    Calls Tryd.prog 11 #[Str p, Str h] w fun e w' => e = .returned (.bool (fit p (lowL h))) ∧ Ext w w' := by
  have HL := Lib.hid hL; clear hL
  have HS := Lib.hid (fun W => small_any h (by omega) W)
  have hll : (lowL h).length ≤ 10000 := by rw [lowL_len]; exact hh
  generalize lowL h = t at *
  go_enter Tryd.func11, Tryd.ntmps11
  go_wp2
  go_step3
  go_wp2_with fail
  refine (HS.out _).mono ?_
  rintro e W1 ⟨he, hx1⟩
  subst he
  have HX1 := Lib.hid hx1; clear hx1
  have HC := Lib.hid (scut_any p [42] (by omega) W1 (HL.out.ext HX1.out))
  have hcs := cut_star p
  obtain ⟨a, b, f, hcut⟩ : ∃ a b f, Lib.cut p [42] = (a, b, f) := ⟨_, _, _, rfl⟩
  rw [hcut] at HC hcs
  simp only at HC hcs
  clear hcut
  have HCS := Lib.hid hcs; clear hcs
  go_wp2_with fail
  refine (HC.out).mono ?_
  rintro e W2 ⟨he, hx2⟩
  subst he
  have HX2 := Lib.hid (ext_trans HX1.out hx2); clear hx2 HX1 HC
  cases f with
  | false =>
    obtain ⟨_, _, hn⟩ := HCS.out.1 rfl
    have hb := str_beq p t
    have hft : fit p t = (p == t) := by
      rw [Bool.eq_iff_iff, fit_plain p t hn]; simp; exact eq_comm
    have HFT := Lib.hid hft; have HB := Lib.hid hb
    clear hn hb hft
    go_wp2
    simp only [Exit.noGoto]
    go_ret
    exact ⟨by rw [HFT.out, ← HB.out]; rfl, HX2.out⟩
  | true =>
    obtain ⟨hpe, hna⟩ := HCS.out.2 rfl
    have hlb : b.length ≤ 10000 := by have := congrArg List.length hpe; simp at this; omega
    have hfp : fit p t = true ↔ ∃ u, t = a ++ u ∧ anyTail (fit b) u = true := by
      rw [hpe, fit_first a _ t hna]; simp only [fit_star]
    have HFP := Lib.hid hfp; have HCP := Lib.hid (fun W => cutPrefix_any t a W)
    clear hpe hna hfp HCS
    cases hpf : Lib.hasPrefix t a with
    | false =>
      rw [hpf] at HCP
      have R := Lib.hid (show fit p t = false by
        rw [Bool.eq_false_iff]
        intro h0
        obtain ⟨u, e, _⟩ := HFP.out.1 h0
        have : Lib.hasPrefix t a = true := by unfold Lib.hasPrefix; rw [List.isPrefixOf_iff_prefix, e]; exact ⟨u, rfl⟩
        rw [hpf] at this; cases this)
      clear hpf HFP
      go_wp2_with fail
      refine (HCP.out _).mono ?_
      rintro e W3 ⟨he, hw⟩
      subst he; subst hw
      go_wp2
      simp only [Exit.noGoto]
      go_ret
      exact ⟨by rw [R.out]; rfl, HX2.out⟩
    | true =>
      obtain ⟨u, hu⟩ : ∃ u, t = a ++ u := by
        unfold Lib.hasPrefix at hpf; rw [List.isPrefixOf_iff_prefix] at hpf; obtain ⟨u, hu⟩ := hpf; exact ⟨u, hu.symm⟩
      have htr : Lib.trimPrefix t a = u := by unfold Lib.trimPrefix; rw [if_pos hpf, hu]; simp
      have hul : u.length ≤ 10000 := by have := congrArg List.length hu; simp at this; omega
      rw [htr, hpf] at HCP
      have hR : fit p t = anyTail (fit b) u := by
        rw [Bool.eq_iff_iff, HFP.out]
        constructor
        · rintro ⟨u', e, h0⟩
          have : u' = u := by rw [hu] at e; exact (List.append_cancel_left e).symm
          rw [← this]; exact h0
        · intro h0; exact ⟨u, hu, h0⟩
      obtain ⟨r, hr⟩ : ∃ r, fit p t = r := ⟨_, rfl⟩
      rw [hr] at hR
      have R := Lib.hid hR
      have HRR := Lib.hid hr
      clear hpf HFP hu htr hR hr
      go_wp2_with fail
      refine (HCP.out _).mono ?_
      rintro e W3 ⟨he, hw⟩
      subst he; subst hw
      clear HCP HS
      go_wp2
      go_step3
      go_wp2
      go_loopw [1, 6] (fun hv rv wr => ∃ x y : List UInt8, hv = Str x ∧ rv = Str y ∧ x.length ≤ 10000 ∧ y.length ≤ 10000 ∧ anyTail (fit y) x = r ∧ Ext W3 wr) (fun _ rv _ => sLen rv)
      case atStart => exact ⟨u, b, rfl, rfl, hul, hlb, R.out.symm, ext_refl _⟩
      case round =>
        obtain ⟨x, y, rfl, rfl, hx, hy, hxy, hext⟩ := hrel
        have HC2 := Lib.hid (scut_any y [42] (by omega) wr (HL.out.ext (ext_trans HX2.out hext)))
        have hcs := cut_star y
        obtain ⟨a2, b2, f, hcut⟩ : ∃ a b f, Lib.cut y [42] = (a, b, f) := ⟨_, _, _, rfl⟩
        rw [hcut] at HC2 hcs
        simp only at HC2 hcs
        clear hcut
        have HCS := Lib.hid hcs; have HXY := Lib.hid hxy; clear hcs hxy
        go_wp2_with fail
        refine (HC2.out).mono ?_
        rintro e W4 ⟨he, hx4⟩
        subst he
        have HX4 := Lib.hid (ext_trans hext hx4); clear hx4 HC2 hext
        cases f with
        | false =>
          obtain ⟨e1, _, hn⟩ := HCS.out.1 rfl
          have hsf := hasSuffix_any x a2 (by omega) W4
          have e2 : Lib.hasSuffix x a2 = r := by rw [e1, ← tail_last y x hn]; exact HXY.out
          rw [e2] at hsf
          have HSF := Lib.hid hsf; clear hsf e2 e1 hn
          go_wp2_with fail
          refine (HSF.out).mono ?_
          rintro e W5 ⟨he, hw⟩
          subst he; subst hw
          go_wp2
          simp only [Exit.noGoto]
          go_ret
          exact ⟨by rw [HRR.out]; rfl, ext_trans HX2.out HX4.out⟩
        | true =>
          obtain ⟨hye, hna⟩ := HCS.out.2 rfl
          have hlen := congrArg List.length hye
          simp at hlen
          have hlen2 : b2.length < y.length := by omega
          have htp := tail_part a2 b2 x hna
          rw [← hye, HXY.out] at htp
          have hix := index_any x a2 (by omega) W4 (HL.out.ext (ext_trans HX2.out HX4.out))
          have hge := Lib.index_ge x a2
          clear hye hna hlen HCS
          generalize Lib.index x a2 = ix at *
          have HTP := Lib.hid htp; have HIX := Lib.hid hix; clear htp hix
          by_cases hneg : ix < 0
          · have hr := HTP.out.1 hneg
            have HR := Lib.hid hr; clear hr
            go_wp2_with fail
            refine (HIX.out).mono ?_
            rintro e W5 ⟨he, hw⟩
            subst he; subst hw
            go_wp2
            simp only [Exit.noGoto]
            go_ret
            exact ⟨by rw [HRR.out, HR.out]; rfl, ext_trans HX2.out HX4.out⟩
          · obtain ⟨i, hi⟩ : ∃ i : Nat, ix = i := ⟨ix.toNat, by omega⟩
            subst hi
            obtain ⟨h1, h2⟩ := HTP.out.2 i rfl
            have HR := Lib.hid h2
            have hsl : ∀ W, (Instr.slice 9 (Str x) (some (.int .i64 ((i : Int) + (a2.length : Int)))) none none).run Tryd.prog W = .ok (Str (x.drop (i + a2.length))) W := fun W => by
              have h := run_slice_string_l (P := Tryd.prog) (w := W) 9 ⟨x.toArray⟩ Tryd.underlying9 .i64 ((i : Int) + (a2.length : Int)) (by omega) (by rw [size_list]; omega)
              rw [h]; simp [extract_list, size_list]
              congr 1
            clear h2 HTP
            go_wp2_with fail
            refine (HIX.out).mono ?_
            rintro e W5 ⟨he, hw⟩
            subst he; subst hw
            go_wp2
            go_roundw
            case rel => exact ⟨x.drop (i + a2.length), b2, rfl, rfl, by simp; omega, by omega, HR.out.symm, HX4.out⟩
            case measure => simp [sLen, size_list]; omega
end Go.Proofs.YtjbobblnicnhnaaDoor
