/-
  (scram.Final).Without at every message.
-/
import Derived.BigGuardPart
import Derived.BigQuiet
import Derived.RegionTactic
import Derived.Deep.DrawnRows
import Derived.Test.YtjkbigecejogdaaDoorRows
import Derived.Test.YtjkbigecejogdaaDoorSce
namespace Go.Proofs.YtjkbigecejogdaaDoor
open Go.RowKit
set_option maxRecDepth 100000
attribute [local go_sem ↓] Go.wp_at_zero Go.wp_at_succ
set_option linter.unusedVariables false
set_option linter.unusedSimpArgs false
set_option maxHeartbeats 1000000 in
theorem fiwo_any (hd no pr : List UInt8) (pv v : Value) (fs : List Pr) (h1 : hd.length ≤ 10000) (h2 : no.length ≤ 10000) (h3 : pr.length ≤ 10000) (hb : PrOk fs) (w : World) (hs : SlB w pv pr) (hr : RowC 2 prC w v fs) (hF : FormsAt w) (hM : MaxAt w) :
    Calls Tryd.prog 11 #[.agg #[Str hd, Str no, v, pv]] w fun e w' => e = .returned (.tuple #[Str (fiwV hd no pr fs).1, .int .i64 (fiwV hd no pr fs).2]) ∧ Ext w w' := by
  have HRW := Lib.hid hr; have HF := Lib.hid hF; have HM := Lib.hid hM; have HSL := Lib.hid hs
  obtain ⟨ao, cap, hv, hcap, hmax, hcl⟩ := rowP_shape hr
  subst hv
  obtain ⟨so, scap, hsv, hsc, -⟩ : ∃ ao cap, pv = .slice ao pr.length cap ∧ pr.length ≤ cap ∧ True := by
    obtain ⟨a, c, h, h', _⟩ := hs
    rw [List.length_map] at h h'
    exact ⟨a, c, h, h', trivial⟩
  subst hsv
  have HT := Lib.hid (fun W hs hr hF hM => fitext_any hd no pr (.slice so pr.length scap) (.slice ao fs.length cap) fs h1 h2 h3 hb W hs hr hF hM)
  have HB := Lib.hid (fun W hr => without_any hd no (.slice so pr.length scap) (.slice ao fs.length cap) fs h1 h2 pr.length so scap rfl hb W hr)
  have HZ := Lib.hid (show fiwV hd no pr fs = if (sizedV (finL hd no fs ++ 44 :: 112 :: 61 :: allL plain true pr) (fitB hd no pr fs)).2 = 0 then (finL hd no fs, 0) else ([], (sizedV (finL hd no fs ++ 44 :: 112 :: 61 :: allL plain true pr) (fitB hd no pr fs)).2) from rfl)
  clear hcl hmax hb hr hF hM hs
  obtain ⟨z, hz⟩ : ∃ z, sizedV (finL hd no fs ++ 44 :: 112 :: 61 :: allL plain true pr) (fitB hd no pr fs) = z := ⟨_, rfl⟩
  rw [hz] at HT HZ
  clear hz
  generalize fiwV hd no pr fs = bv at *
  generalize finL hd no fs = ba at *
  obtain ⟨z1, z2⟩ := z
  obtain ⟨b1, b2⟩ := bv
  simp only at HT HZ ⊢
  obtain ⟨W1, hW1⟩ : ∃ W1, w.alloc (.cells #[Str hd, Str no, .slice ao fs.length cap, .slice so pr.length scap] 37) = W1 := ⟨_, rfl⟩
  have hx : Ext w W1 := by rw [← hW1]; exact Below.alloc (Below.refl _ _) (Nat.le_refl _) _
  have hc : W1.heap[w.heap.size]? = some (.cells #[Str hd, Str no, .slice ao fs.length cap, .slice so pr.length scap] 37 (0, 0)) := by rw [← hW1]; exact Array.getElem?_push_size
  obtain ⟨c0, c1, c2, c3⟩ := cells4s hc
  have HX1 := Lib.hid hx
  have HR1 := Lib.hid (HRW.out.ext hx)
  have HF1 := Lib.hid (HF.out.ext hx)
  have HM1 := Lib.hid (HM.out.ext hx)
  have HS1 := Lib.hid (HSL.out.ext hx)
  clear hc hx HRW HF HM HSL
  go_enter Tryd.func11, Tryd.ntmps11
  go_wp2_with fail
  try rw [hW1]
  clear hW1
  refine (HT.out _ HS1.out HR1.out HF1.out HM1.out).mono ?_
  rintro e W2 ⟨rfl, hx2⟩
  have d0 := ext_cell hx2 c0; have d1 := ext_cell hx2 c1; have d2 := ext_cell hx2 c2; have d3 := ext_cell hx2 c3
  have HX2 := Lib.hid (ext_trans HX1.out hx2)
  have HR2 := Lib.hid (HR1.out.ext hx2)
  clear c0 c1 c2 c3 hx2 HX1 HR1
  by_cases hz : z2 = 0
  · have h := HZ.out
    rw [if_pos hz] at h
    injection h with h1 h2
    subst h1 h2 hz
    go_wp2_with fail
    refine (HB.out _ HR2.out).mono ?_
    rintro e W3 ⟨rfl, hx3⟩
    have HX3 := Lib.hid (ext_trans HX2.out hx3)
    clear hx3
    go_wp2
    go_ret2
    exact ⟨rfl, HX3.out⟩
  · have h := HZ.out
    rw [if_neg hz] at h
    have hz2 : (z2 != 0) = true := by simp [hz]
    have hz3 : (z2 == 0) = false := by simp [hz]
    injection h with h1 h2
    subst h1 h2
    clear hz
    go_wp2
    go_ret2
    exact ⟨rfl, HX2.out⟩
end Go.Proofs.YtjkbigecejogdaaDoor
