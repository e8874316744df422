/-
  The walk of B64Encodes.
-/
import Derived.Test.YtkfhbahgoemnpaaRows
import Derived.Test.YtkfhbahgoemnpaaAwk
import Derived.Test.YtkfhbahgoemnpaaRt
namespace Go.Proofs.Ytkfhbahgoemnpaa
open Go.RowKit
set_option linter.unusedVariables false
set_option linter.unusedSimpArgs false

set_option maxHeartbeats 1000000 in
theorem encodes_any (v1 : Value) (l1 : List UInt8) (w : World) (h1 : SlB w v1 l1) :
    Calls Try.prog 5 #[v1] w fun e w' => e = .returned (.bool true) ∧ Ext w w' := by
  have H1 := Lib.hid h1; clear h1
  go_enter Try.func5, Try.ntmps5
  go_wp2_with fail
  refine (awake_any w).mono ?_
  rintro e W1 ⟨rfl, hx1⟩
  go_wp2_with fail
  refine (cut_any v1 l1 200 W1 (H1.out.ext hx1) (by omega)).mono ?_
  rintro e W2 ⟨c1, rfl, ho1, hx2⟩
  have hl1 : (l1.take 200).length ≤ 200 := by simp; omega
  generalize l1.take 200 = x at *
  have S := Lib.hid (sl_of_own ho1)
  have HX := Lib.hid (hx1.trans (hx2.mono hx1.size))
  clear ho1 hx1 hx2
  go_wp2_with fail
  refine (copy_any c1 x W2 S.out (by omega)).mono ?_
  rintro e W3 ⟨c2, rfl, ho2, hx3⟩
  have T := Lib.hid (show _ ∧ _ ∧ _ from ⟨S.out.ext hx3, sl_of_own ho2, HX.out.trans (hx3.mono HX.out.size)⟩)
  clear ho2 hx3 S HX
  have lz1 : (allL plain true x).length ≤ 1000 := by have := allN_len plain true x ((x.length + 2) / 3); unfold allL; omega
  have lz2 : (allL other false x).length ≤ 1000 := by have := allN_len other false x ((x.length + 2) / 3); unfold allL; omega
  have lz3 : (hexL x).length ≤ 1000 := by rw [hexL_len]; omega
  go_wp2_with fail
  have hE := Encode_any c2 x W3 T.out.2.1 (by omega)
  refine hE.mono ?_
  rintro e W4 ⟨he, hx⟩
  subst he
  replace T := Lib.hid (show _ ∧ _ ∧ _ from ⟨T.out.1.ext hx, T.out.2.1.ext hx, T.out.2.2.trans (hx.mono T.out.2.2.size)⟩)
  clear hE hx
  go_wp2_with fail
  have hE := EncodeURL_any c2 x W4 T.out.2.1 (by omega)
  refine hE.mono ?_
  rintro e W5 ⟨he, hx⟩
  subst he
  replace T := Lib.hid (show _ ∧ _ ∧ _ from ⟨T.out.1.ext hx, T.out.2.1.ext hx, T.out.2.2.trans (hx.mono T.out.2.2.size)⟩)
  clear hE hx
  go_wp2_with fail
  have hE := hex_any c2 x W5 T.out.2.1 (by omega)
  refine hE.mono ?_
  rintro e W6 ⟨he, hx⟩
  subst he
  replace T := Lib.hid (show _ ∧ _ ∧ _ from ⟨T.out.1.ext hx, T.out.2.1.ext hx, T.out.2.2.trans (hx.mono T.out.2.2.size)⟩)
  clear hE hx
  go_wp2_with fail
  have hE := refEncode_any false c1 x W6 T.out.1 (by omega)
  rw [show refEnc (alph false) (!false) x = allL plain true x from refEnc_all plain true _ x (Nat.le_refl _)] at hE
  refine hE.mono ?_
  rintro e W7 ⟨he, hx⟩
  subst he
  replace T := Lib.hid (show _ ∧ _ ∧ _ from ⟨T.out.1.ext hx, T.out.2.1.ext hx, T.out.2.2.trans (hx.mono T.out.2.2.size)⟩)
  clear hE hx
  go_wp2_with fail
  have hE := refEncode_any true c1 x W7 T.out.1 (by omega)
  rw [show refEnc (alph true) (!true) x = allL other false x from refEnc_all other false _ x (Nat.le_refl _)] at hE
  refine hE.mono ?_
  rintro e W8 ⟨he, hx⟩
  subst he
  replace T := Lib.hid (show _ ∧ _ ∧ _ from ⟨T.out.1.ext hx, T.out.2.1.ext hx, T.out.2.2.trans (hx.mono T.out.2.2.size)⟩)
  clear hE hx
  go_wp2_with fail
  have hE := r1hex_any c1 x W8 T.out.1 (by omega)
  refine hE.mono ?_
  rintro e W9 ⟨he, hx⟩
  subst he
  replace T := Lib.hid (show _ ∧ _ ∧ _ from ⟨T.out.1.ext hx, T.out.2.1.ext hx, T.out.2.2.trans (hx.mono T.out.2.2.size)⟩)
  clear hE hx
  go_wp2_with fail
  refine (same_any c2 c1 x x W9 T.out.2.1 T.out.1).mono ?_
  rintro e W10 ⟨he, hw⟩
  rw [beq_self_eq_true] at he
  subst he; subst hw
  go_wp2_with fail
  have hE := Decode_any (allL plain true x) W10 (by omega)
  rw [decF_enc] at hE
  refine hE.mono ?_
  rintro e W11 ⟨x1, he, ho, hx⟩
  subst he
  have x1s := Lib.hid (sl_of_own ho)
  replace T := Lib.hid (show _ ∧ _ ∧ _ from ⟨T.out.1.ext hx, T.out.2.1.ext hx, T.out.2.2.trans (hx.mono T.out.2.2.size)⟩)
  clear hE hx ho
  go_wp2_with fail
  have hE := DecodeURL_any (allL other false x) W11 (by omega)
  rw [decU_enc] at hE
  refine hE.mono ?_
  rintro e W12 ⟨x2, he, ho, hx⟩
  subst he
  have x2s := Lib.hid (sl_of_own ho)
  replace T := Lib.hid (show _ ∧ _ ∧ _ from ⟨T.out.1.ext hx, T.out.2.1.ext hx, T.out.2.2.trans (hx.mono T.out.2.2.size)⟩)
  replace x1s := Lib.hid (x1s.out.ext hx)
  clear hE hx ho
  go_wp2_with fail
  have hE := unhex_any (hexL x) W12 (by omega)
  rw [unhR_hex] at hE
  refine hE.mono ?_
  rintro e W13 ⟨x3, he, ho, hx⟩
  subst he
  have x3s := Lib.hid (sl_of_own ho)
  replace T := Lib.hid (show _ ∧ _ ∧ _ from ⟨T.out.1.ext hx, T.out.2.1.ext hx, T.out.2.2.trans (hx.mono T.out.2.2.size)⟩)
  replace x1s := Lib.hid (x1s.out.ext hx)
  replace x2s := Lib.hid (x2s.out.ext hx)
  clear hE hx ho
  go_wp2_with fail
  refine (same_any x1 c1 x x W13 x1s.out T.out.1).mono ?_
  rintro e W14 ⟨he, hw⟩
  rw [beq_self_eq_true] at he
  subst he; subst hw
  go_wp2_with fail
  refine (same_any x2 c1 x x W14 x2s.out T.out.1).mono ?_
  rintro e W15 ⟨he, hw⟩
  rw [beq_self_eq_true] at he
  subst he; subst hw
  go_wp2_with fail
  refine (same_any x3 c1 x x W15 x3s.out T.out.1).mono ?_
  rintro e W16 ⟨he, hw⟩
  rw [beq_self_eq_true] at he
  subst he; subst hw
  go_wp2_with fail
  go_ret
  exact ⟨rfl, T.out.2.2⟩
end Go.Proofs.Ytkfhbahgoemnpaa
