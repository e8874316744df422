/-
  The law's text of a message of any of the four kinds (where no number is read).
-/
import Derived.BigGuardPart
import Derived.Test.YtjkbigecejogdaaDoorRows
import Derived.Test.YtjkbigecejogdaaDoorSce
import Derived.Test.YtjkbigecejogdaaDoorRrd
import Derived.Test.YtjkbigecejogdaaDoorSfa
namespace Go.Proofs.YtjkbigecejogdaaDoor
open Go.RowKit
set_option maxRecDepth 100000
attribute [local go_sem] Oper.semAt_some
set_option linter.unusedVariables false
set_option linter.unusedSimpArgs false
/-- What the law's text reads of the library and of name. -/
structure LdS (W : World) : Prop where
  mx : MaxAt W
  fm : FormsAt W
  tab : TabW W
theorem LdS.ext {A C : World} (h : LdS A) (he : Ext A C) : LdS C := ⟨h.mx.ext he, h.fm.ext he, h.tab.ext he⟩
set_option maxHeartbeats 4000000 in
theorem ltextd_any (m : Ms) (hok : MsOk m) (B : Nat) (e s p : Value) (w : World) (hr : MsR B w e s p m) (hL : LdS w) :
    Calls Tryd.prog 6 #[.agg (msA m e s p)] w fun r w' => r = .returned (.tuple #[Str (txtV m).1, .int .i64 (txtV m).2]) ∧ Ext w w' := by
  obtain ⟨a1, n1, k1, a2, n2, k2, a3, n3, k3, rfl, rfl, rfl⟩ := hr.shape
  obtain ⟨W1, hW1⟩ : ∃ W1, w.alloc (.cells (msA m (.slice a1 n1 k1) (.slice a2 n2 k2) (.slice a3 n3 k3)) 25) = W1 := ⟨_, rfl⟩
  have hx : Ext w W1 := by rw [← hW1]; exact Below.alloc (Below.refl _ _) (Nat.le_refl _) _
  have hc : W1.heap[w.heap.size]? = some (.cells (msA m (.slice a1 n1 k1) (.slice a2 n2 k2) (.slice a3 n3 k3)) 25 (0, 0)) := by rw [← hW1]; exact Array.getElem?_push_size
  have hr1 := hr.grow hx
  have hL1 := hL.ext hx
  have HX := Lib.hid hx
  obtain ⟨kind, flag, authz, user, nonce, ext, salt, iter, head, proof, code⟩ := m
  obtain ⟨o1, o2, o3, o4, o9⟩ := hok
  obtain ⟨re, rs, rp, -, -, -⟩ := hr1
  simp only at o1 o2 o3 o4 o9 re rs rp hc
  have HT1 := Lib.hid (fun q => ftext_any flag authz user nonce _ ext (o1 q).1 (o1 q).2.1 (o1 q).2.2.1 (o1 q).2.2.2 o9 W1 re hL1.fm)
  have HT2 := Lib.hid (fun q => ctext_any nonce salt iter _ _ ext (o2 q).1 (o2 q).2.1 (o2 q).2.2.1 (o2 q).2.2.2 o9 W1 rs re hL1.fm hL1.tab)
  have HT3 := Lib.hid (fun q => fitext_any head nonce proof _ _ ext (o3 q).1 (o3 q).2.1 (o3 q).2.2 o9 W1 rp re hL1.fm hL1.mx)
  have HT4 := Lib.hid (fun q1 q2 q3 => vtext_any proof code _ _ ext (o4 q1 q2 q3).1 (o4 q1 q2 q3).2 o9 W1 rp re hL1.fm)
  have HV := Lib.hid (show txtV ⟨kind, flag, authz, user, nonce, ext, salt, iter, head, proof, code⟩ =
    if kind = 1 then sizedV (fhdL flag authz ++ fbaL user nonce ext) (frtB flag authz user nonce ext)
    else if kind = 2 then sizedV (chtL nonce salt iter ext) (chtB nonce salt iter ext)
    else if kind = 3 then sizedV (finL head nonce ext ++ 44 :: 112 :: 61 :: allL plain true proof) (fitB head nonce proof ext)
    else sizedV (vetL proof code ext) (vetB proof code ext) by
      unfold txtV txtL txtB
      simp only
      by_cases q1 : kind = 1
      · rw [if_pos q1, if_pos q1, if_pos q1]
      · rw [if_neg q1, if_neg q1, if_neg q1]
        by_cases q2 : kind = 2
        · rw [if_pos q2, if_pos q2, if_pos q2]
        · rw [if_neg q2, if_neg q2, if_neg q2]
          by_cases q3 : kind = 3
          · rw [if_pos q3, if_pos q3, if_pos q3]
          · rw [if_neg q3, if_neg q3, if_neg q3])
  generalize txtV ⟨kind, flag, authz, user, nonce, ext, salt, iter, head, proof, code⟩ = z at *
  generalize sizedV (fhdL flag authz ++ fbaL user nonce ext) (frtB flag authz user nonce ext) = z1 at *
  generalize sizedV (chtL nonce salt iter ext) (chtB nonce salt iter ext) = z2 at *
  generalize sizedV (finL head nonce ext ++ 44 :: 112 :: 61 :: allL plain true proof) (fitB head nonce proof ext) = z3 at *
  generalize sizedV (vetL proof code ext) (vetB proof code ext) = z4 at *
  obtain ⟨c0, c1, c2, c3, c4, c5, c6, c7, c8, c9, c10⟩ := cells11 hc
  clear hr hL hx hc hL1 re rs rp o1 o2 o3 o4 o9
  have hv := HV.out
  clear HV
  by_cases q1 : kind = 1
  · rw [if_pos q1] at hv
    subst hv q1
    go_enter Tryd.func6, Tryd.ntmps6
    go_wp2_with fail
    try rw [hW1]
    refine (HT1.out trivial).mono ?_
    rintro e W2 ⟨rfl, hx2⟩
    have HX2 := Lib.hid (ext_trans HX.out hx2)
    clear hx2 c0 c1 c2 c3 c4 c5 c6 c7 c8 c9 c10
    go_wp2
    go_ret2
    exact ⟨rfl, HX2.out⟩
  · rw [if_neg q1] at hv
    have g1 : (kind == 1) = false := by simp [q1]
    by_cases q2 : kind = 2
    · rw [if_pos q2] at hv
      subst hv q2
      go_enter Tryd.func6, Tryd.ntmps6
      go_wp2_with fail
      try rw [hW1]
      refine (HT2.out trivial).mono ?_
      rintro e W2 ⟨rfl, hx2⟩
      have HX2 := Lib.hid (ext_trans HX.out hx2)
      clear hx2 c0 c1 c2 c3 c4 c5 c6 c7 c8 c9 c10
      go_wp2
      go_ret2
      exact ⟨rfl, HX2.out⟩
    · rw [if_neg q2] at hv
      have g2 : (kind == 2) = false := by simp [q2]
      by_cases q3 : kind = 3
      · rw [if_pos q3] at hv
        subst hv q3
        go_enter Tryd.func6, Tryd.ntmps6
        go_wp2_with fail
        try rw [hW1]
        refine (HT3.out trivial).mono ?_
        rintro e W2 ⟨rfl, hx2⟩
        have HX2 := Lib.hid (ext_trans HX.out hx2)
        clear hx2 c0 c1 c2 c3 c4 c5 c6 c7 c8 c9 c10
        go_wp2
        go_ret2
        exact ⟨rfl, HX2.out⟩
      · rw [if_neg q3] at hv
        have g3 : (kind == 3) = false := by simp [q3]
        subst hv
        go_enter Tryd.func6, Tryd.ntmps6
        go_wp2_with fail
        try rw [hW1]
        refine (HT4.out q1 q2 q3).mono ?_
        rintro e W2 ⟨rfl, hx2⟩
        have HX2 := Lib.hid (ext_trans HX.out hx2)
        clear hx2 c0 c1 c2 c3 c4 c5 c6 c7 c8 c9 c10
        go_wp2
        go_ret2
        exact ⟨rfl, HX2.out⟩
end Go.Proofs.YtjkbigecejogdaaDoor
