/-
  The walk of B64Decodes.
-/
import Derived.Test.YtkfhbahgoemnpaaRows
import Derived.Test.YtkfhbahgoemnpaaAwk
import Derived.Test.YtkfhbahgoemnpaaRdr
namespace Go.Proofs.Ytkfhbahgoemnpaa
open Go.RowKit
set_option linter.unusedVariables false
set_option linter.unusedSimpArgs false

theorem decR_len (A l : List UInt8) : (decR A l).1.length ≤ 3 * ((l.length + 3) / 4) := by
  simp only [decR]
  split
  · split
    · exact decN_len _ _ _
    · simp
  · simp
theorem decF_len (l : List UInt8) : (decF l).1.length ≤ 3 * ((l.length + 3) / 4) := by
  have h1 := decR_len plain (trimN l 2)
  have h2 := trimN_len l 2
  unfold decF
  split
  · split
    · simp
    · omega
  · simp
theorem decU_len (l : List UInt8) : (decU l).1.length ≤ 3 * ((l.length + 3) / 4) := by
  have h1 := decR_len other l
  unfold decU
  split
  · simp
  · exact h1
theorem unhR_len (l : List UInt8) : (unhR l).1.length ≤ (l.length + 1) / 2 := by
  unfold unhR
  split
  · split
    · simp [unhN]
    · simp
  · simp
set_option maxHeartbeats 2000000 in
theorem decodes_any (l0 : List UInt8) (w : World) :
    Calls Try.prog 6 #[Str l0] w fun e w' => e = .returned (.bool true) ∧ Ext w w' := by
  go_enter Try.func6, Try.ntmps6
  go_wp2_with fail
  refine (awake_any w).mono ?_
  rintro e W1 ⟨rfl, hx1⟩
  go_wp2_with fail
  refine (cutText_any l0 200 W1 (by omega)).mono ?_
  rintro e W2 ⟨he, hw⟩
  subst he; subst hw
  have hl : (l0.take 200).length ≤ 200 := by simp; omega
  generalize l0.take 200 = x at *
  have T := Lib.hid hx1
  clear hx1
  obtain ⟨pa, na, qa⟩ : ∃ p n, decF x = (p, n) := ⟨_, _, rfl⟩
  obtain ⟨pb, nb, qb⟩ : ∃ p n, decU x = (p, n) := ⟨_, _, rfl⟩
  obtain ⟨pc, nc, qc⟩ : ∃ p n, unhR x = (p, n) := ⟨_, _, rfl⟩
  have la := decF_len x; have lb := decU_len x; have lc := unhR_len x
  have ca := decF_canon x; have cb := decU_canon x; have cc := unhR_canon x
  rw [qa] at la ca; rw [qb] at lb cb; rw [qc] at lc cc
  dsimp only at la ca lb cb lc cc
  have Ca := Lib.hid ca; have Cb := Lib.hid cb; have Cc := Lib.hid cc
  have Qa := Lib.hid qa; have Qb := Lib.hid qb; have Qc := Lib.hid qc
  clear ca cb cc qa qb qc
  go_wp2_with fail
  have hE := Decode_any x W2 (by omega)
  rw [Qa.out] at hE
  dsimp only at hE
  refine hE.mono ?_
  rintro e W3 ⟨u1, he, ho, hx⟩
  subst he
  have u1s := Lib.hid (sl_of_own ho)
  replace T := Lib.hid (T.out.trans (hx.mono T.out.size))
  clear hE hx ho
  go_wp2_with fail
  have hE := refDecode_any false x W3 (by omega)
  rw [refDF_decF, Qa.out] at hE
  dsimp only at hE
  refine hE.mono ?_
  rintro e W4 ⟨u2, he, ho, hx⟩
  subst he
  have u2s := Lib.hid (sl_of_own ho)
  replace T := Lib.hid (T.out.trans (hx.mono T.out.size))
  replace u1s := Lib.hid (u1s.out.ext hx)
  clear hE hx ho
  go_wp2_with fail
  have hE := DecodeURL_any x W4 (by omega)
  rw [Qb.out] at hE
  dsimp only at hE
  refine hE.mono ?_
  rintro e W5 ⟨u3, he, ho, hx⟩
  subst he
  have u3s := Lib.hid (sl_of_own ho)
  replace T := Lib.hid (T.out.trans (hx.mono T.out.size))
  replace u1s := Lib.hid (u1s.out.ext hx)
  replace u2s := Lib.hid (u2s.out.ext hx)
  clear hE hx ho
  go_wp2_with fail
  have hE := refDecode_any true x W5 (by omega)
  rw [refDF_decU, Qb.out] at hE
  dsimp only at hE
  refine hE.mono ?_
  rintro e W6 ⟨u4, he, ho, hx⟩
  subst he
  have u4s := Lib.hid (sl_of_own ho)
  replace T := Lib.hid (T.out.trans (hx.mono T.out.size))
  replace u1s := Lib.hid (u1s.out.ext hx)
  replace u2s := Lib.hid (u2s.out.ext hx)
  replace u3s := Lib.hid (u3s.out.ext hx)
  clear hE hx ho
  go_wp2_with fail
  have hE := unhex_any x W6 (by omega)
  rw [Qc.out] at hE
  dsimp only at hE
  refine hE.mono ?_
  rintro e W7 ⟨u5, he, ho, hx⟩
  subst he
  have u5s := Lib.hid (sl_of_own ho)
  replace T := Lib.hid (T.out.trans (hx.mono T.out.size))
  replace u1s := Lib.hid (u1s.out.ext hx)
  replace u2s := Lib.hid (u2s.out.ext hx)
  replace u3s := Lib.hid (u3s.out.ext hx)
  replace u4s := Lib.hid (u4s.out.ext hx)
  clear hE hx ho
  go_wp2_with fail
  have hE := refUnhex_any x W7 (by omega)
  rw [Qc.out] at hE
  dsimp only at hE
  refine hE.mono ?_
  rintro e W8 ⟨u6, he, ho, hx⟩
  subst he
  have u6s := Lib.hid (sl_of_own ho)
  replace T := Lib.hid (T.out.trans (hx.mono T.out.size))
  replace u1s := Lib.hid (u1s.out.ext hx)
  replace u2s := Lib.hid (u2s.out.ext hx)
  replace u3s := Lib.hid (u3s.out.ext hx)
  replace u4s := Lib.hid (u4s.out.ext hx)
  replace u5s := Lib.hid (u5s.out.ext hx)
  clear hE hx ho
  go_wp2_with fail
  refine (same_any u1 u2 pa pa W8 u1s.out u2s.out).mono ?_
  rintro e W9 ⟨he, hw⟩
  rw [beq_self_eq_true] at he
  subst he; subst hw
  go_wp2_with fail
  refine (same_any u3 u4 pb pb W9 u3s.out u4s.out).mono ?_
  rintro e W10 ⟨he, hw⟩
  rw [beq_self_eq_true] at he
  subst he; subst hw
  go_wp2_with fail
  refine (same_any u5 u6 pc pc W10 u5s.out u6s.out).mono ?_
  rintro e W11 ⟨he, hw⟩
  rw [beq_self_eq_true] at he
  subst he; subst hw
  by_cases ha : na = 0
  · subst ha
    go_wp2_with fail
    have hE := Encode_any u1 pa W11 u1s.out (by omega)
    rw [Ca.out (by trivial)] at hE
    refine hE.mono ?_
    rintro e W12 ⟨he, hx⟩
    subst he
    replace T := Lib.hid (T.out.trans (hx.mono T.out.size))
    replace u3s := Lib.hid (u3s.out.ext hx)
    replace u5s := Lib.hid (u5s.out.ext hx)
    clear hE hx
    by_cases hb : nb = 0
    · subst hb
      go_wp2_with fail
      have hE := EncodeURL_any u3 pb W12 u3s.out (by omega)
      rw [Cb.out (by trivial)] at hE
      refine hE.mono ?_
      rintro e W13 ⟨he, hx⟩
      subst he
      replace T := Lib.hid (T.out.trans (hx.mono T.out.size))
      replace u5s := Lib.hid (u5s.out.ext hx)
      clear hE hx
      by_cases hc : nc = 0
      · subst hc
        go_wp2_with fail
        have hE := hex_any u5 pc W13 u5s.out (by omega)
        rw [Cc.out (by trivial)] at hE
        refine hE.mono ?_
        rintro e W14 ⟨he, hx⟩
        subst he
        replace T := Lib.hid (T.out.trans (hx.mono T.out.size))
        clear hE hx
        go_wp2_with fail
        go_ret
        exact ⟨rfl, T.out⟩
      · have hbc : (((nc : Nat) : Int) != 0) = true := by simp; omega
        clear hc
        go_wp2_with fail
        go_ret
        exact ⟨rfl, T.out⟩
    · have hbb : (((nb : Nat) : Int) != 0) = true := by simp; omega
      clear hb
      by_cases hc : nc = 0
      · subst hc
        go_wp2_with fail
        have hE := hex_any u5 pc W12 u5s.out (by omega)
        rw [Cc.out (by trivial)] at hE
        refine hE.mono ?_
        rintro e W13 ⟨he, hx⟩
        subst he
        replace T := Lib.hid (T.out.trans (hx.mono T.out.size))
        clear hE hx
        go_wp2_with fail
        go_ret
        exact ⟨rfl, T.out⟩
      · have hbc : (((nc : Nat) : Int) != 0) = true := by simp; omega
        clear hc
        go_wp2_with fail
        go_ret
        exact ⟨rfl, T.out⟩
  · have hba : (((na : Nat) : Int) != 0) = true := by simp; omega
    clear ha
    by_cases hb : nb = 0
    · subst hb
      go_wp2_with fail
      have hE := EncodeURL_any u3 pb W11 u3s.out (by omega)
      rw [Cb.out (by trivial)] at hE
      refine hE.mono ?_
      rintro e W12 ⟨he, hx⟩
      subst he
      replace T := Lib.hid (T.out.trans (hx.mono T.out.size))
      replace u5s := Lib.hid (u5s.out.ext hx)
      clear hE hx
      by_cases hc : nc = 0
      · subst hc
        go_wp2_with fail
        have hE := hex_any u5 pc W12 u5s.out (by omega)
        rw [Cc.out (by trivial)] at hE
        refine hE.mono ?_
        rintro e W13 ⟨he, hx⟩
        subst he
        replace T := Lib.hid (T.out.trans (hx.mono T.out.size))
        clear hE hx
        go_wp2_with fail
        go_ret
        exact ⟨rfl, T.out⟩
      · have hbc : (((nc : Nat) : Int) != 0) = true := by simp; omega
        clear hc
        go_wp2_with fail
        go_ret
        exact ⟨rfl, T.out⟩
    · have hbb : (((nb : Nat) : Int) != 0) = true := by simp; omega
      clear hb
      by_cases hc : nc = 0
      · subst hc
        go_wp2_with fail
        have hE := hex_any u5 pc W11 u5s.out (by omega)
        rw [Cc.out (by trivial)] at hE
        refine hE.mono ?_
        rintro e W12 ⟨he, hx⟩
        subst he
        replace T := Lib.hid (T.out.trans (hx.mono T.out.size))
        clear hE hx
        go_wp2_with fail
        go_ret
        exact ⟨rfl, T.out⟩
      · have hbc : (((nc : Nat) : Int) != 0) = true := by simp; omega
        clear hc
        go_wp2_with fail
        go_ret
        exact ⟨rfl, T.out⟩
end Go.Proofs.Ytkfhbahgoemnpaa
