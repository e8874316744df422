/-
  The rule laws' awake; RuleMatches.
-/
import Derived.Test.YtjbobblnicnhnaaDoorRows
import Derived.Test.YtjbobblnicnhnaaDoorPar
import Derived.Test.YtjbobblnicnhnaaDoorWhi
import Derived.Test.YtjbobblnicnhnaaDoorMtr
import Derived.Test.YtjbobblnicnhnaaDoorKit
namespace Go.Proofs.YtjbobblnicnhnaaDoor
open Go.RowKit
set_option maxRecDepth 100000
set_option linter.unusedVariables false
set_option linter.unusedSimpArgs false

/-- The document's example. -/
def awkL : List UInt8 := [100, 101, 110, 121, 32, 42, 32, 116, 32, 100, 98, 42, 46, 120, 32, 53, 52, 51, 50, 10, 97, 108, 108, 111, 119, 32, 100, 101, 118, 32, 116, 32, 42, 32, 49, 45, 57, 57, 57, 57]
def awkR : List Ru := [⟨false, [42], [116], [100, 98, 42, 46, 120], 5432, 5432⟩, ⟨true, [100, 101, 118], [116], [42], 1, 9999⟩]
theorem awk_parse : parseR awkL = .ok awkR := by decide +kernel
theorem awk_may1 : mayB awkR [100, 101, 118] [116] [100, 98, 49, 46, 120] 5432 = false := by decide +kernel
theorem awk_may2 : mayB awkR [100, 101, 118] [116] [68, 66, 49, 46, 121] 5432 = true := by decide +kernel
theorem awk_rb : ∀ r ∈ awkR, RuB r := by
  intro r hr
  simp only [awkR, List.mem_cons, List.not_mem_nil, or_false] at hr
  rcases hr with rfl | rfl <;> exact ⟨by simp, by simp, by simp, by simp, by simp, by simp, by simp⟩
set_option maxHeartbeats 1000000 in
theorem awake_law (w : World) (hL : Lb w) : Calls Tryd.prog 9 #[] w fun e w' => e = .returned (.bool true) ∧ Ext w w' := by
  have HP := Lib.hid (parse_any awkL (by simp [awkL]) w hL)
  have HL := Lib.hid hL; clear hL
  go_enter Tryd.func9, Tryd.ntmps9
  go_wp2_with fail
  refine HP.out.mono ?_
  rintro e W1 ⟨he, hx⟩
  unfold ParR at he
  rw [awk_parse] at he
  obtain ⟨b, he, hbb, hpol⟩ := he
  subst he
  have hp : PolV W1 (some ⟨b, 0, none⟩) awkR := .inr ⟨b, rfl, hpol⟩
  have HX := Lib.hid hx
  have HM1 := Lib.hid (may_any (some ⟨b, 0, none⟩) awkR (by simp [awkR]) awk_rb [100, 101, 118] [116] [100, 98, 49, 46, 120] (by simp) 5432 W1 (HL.out.ext hx) hp)
  have HPO := Lib.hid hp
  rw [awk_may1] at HM1
  clear hx hpol hp hbb HP
  go_wp2_with fail
  refine HM1.out.mono ?_
  rintro e W2 ⟨he, hx2⟩
  subst he
  have HX2 := Lib.hid (ext_trans HX.out hx2)
  have HM2 := Lib.hid (may_any (some ⟨b, 0, none⟩) awkR (by simp [awkR]) awk_rb [100, 101, 118] [116] [68, 66, 49, 46, 121] (by simp) 5432 W2 (HL.out.ext HX2.out) (HPO.out.ext hx2))
  rw [awk_may2] at HM2
  clear hx2 HM1 HPO HX
  go_wp2_with fail
  refine HM2.out.mono ?_
  rintro e W3 ⟨he, hx3⟩
  subst he
  go_wp2
  go_ret
  exact ⟨rfl, ext_trans HX2.out hx3⟩

set_option maxHeartbeats 1000000 in
theorem matches_any (p0 h0 : List UInt8) (w : World) (hL : Lb w) :
    Calls Tryd.prog 3 #[Str p0, Str h0] w fun e w' => e = .returned (.bool true) ∧ Ext w w' := by
  have HA := Lib.hid (awake_law w hL)
  have HL := Lib.hid hL; clear hL
  have HC1 := Lib.hid (fun W => cutText_any p0 40 W (by omega))
  have HC2 := Lib.hid (fun W => cutText_any h0 40 W (by omega))
  have lp : (p0.take 40).length ≤ 40 := by simp; omega
  have lh : (h0.take 40).length ≤ 40 := by simp; omega
  generalize p0.take 40 = p at *
  generalize h0.take 40 = h at *
  have HM := Lib.hid (fun W hW => match_any p h (by omega) (by omega) W hW)
  have HR := Lib.hid (fun W => matchR_any p h (by omega) (by omega) W)
  have HS := Lib.hid (fun W hW => match_any [42] h (by simp) (by omega) W hW)
  rw [show fit [42] (lowL h) = true from fit_all _] at HS
  generalize fit p (lowL h) = r at *
  go_enter Tryd.func3, Tryd.ntmps3
  go_wp2_with fail
  refine HA.out.mono ?_
  rintro e W1 ⟨he, hx1⟩
  subst he
  have HX1 := Lib.hid hx1; clear hx1 HA
  go_wp2_with fail
  refine (HC1.out _).mono ?_
  rintro e W2 ⟨he, hw⟩
  subst he; subst W2
  go_wp2_with fail
  refine (HC2.out _).mono ?_
  rintro e W2 ⟨he, hw⟩
  subst he; subst W2
  clear HC1 HC2
  go_wp2_with fail
  refine (HM.out _ (HL.out.ext HX1.out)).mono ?_
  rintro e W2 ⟨he, hx2⟩
  subst he
  have HX2 := Lib.hid (ext_trans HX1.out hx2); clear hx2
  go_wp2_with fail
  refine (HR.out _).mono ?_
  rintro e W3 ⟨he, hx3⟩
  subst he
  have HX3 := Lib.hid (ext_trans HX2.out hx3); clear hx3
  cases r
  all_goals
    go_wp2_with fail
    refine (HS.out _ (HL.out.ext HX3.out)).mono ?_
    rintro e W4 ⟨he, hx4⟩
    subst he
    go_wp2
    go_ret
    exact ⟨rfl, ext_trans HX3.out hx4⟩
end Go.Proofs.YtjbobblnicnhnaaDoor
