/-
  ref16.Which over a row of rules.
-/
import Derived.BigGuardPart
import Derived.Test.YtjbobblnicnhnaaDoorRows
import Derived.Test.YtjbobblnicnhnaaDoorHlr
import Derived.Test.YtjbobblnicnhnaaDoorWhi
namespace Go.Proofs.YtjbobblnicnhnaaDoor
open Go.RowKit Go.Shelf
set_option maxRecDepth 100000
set_option linter.unusedVariables false
set_option linter.unusedSimpArgs false

theorem elemRuleR : Tryd.prog.elem 34 = 26 := by kernel_rfl
theorem index_ruleR (g o n cap j : Nat) (hn : j < n) (W : World) : (Instr.indexAt 34 (.slice (some ⟨g, o, none⟩) n cap) (.int .i64 (j : Int))).run Tryd.prog W = .ok (.pointer (some ⟨g, o + 6 * j, none⟩)) W := by
  rw [run_indexAt_slice (h := by rw [elemRuleR]; exact Tryd.underlying34), if_pos (by omega), elemRuleR]
  simp [Tryd.sizeOf26, Result.andThen, Addr.add, Nat.mul_comm]
/-- The first one that holds; -1: none. -/
def whichI (rs : List Ru) (ro te ho : List UInt8) (p : Int) : Int := match whichO rs ro te ho p with | some i => (i : Int) | none => -1
set_option maxHeartbeats 2000000 in
theorem whichR_any (v : Value) (rs : List Ru) (hl : rs.length ≤ 100000) (hrb : ∀ r ∈ rs, RuB r) (ro te ho : List UInt8) (hh : ho.length ≤ 10000) (p : Int) (w : World) (hr : RowU w v rs) :
    Calls Tryd.prog 20 #[v, Str ro, Str te, Str ho, .int .i64 p] w fun e w' => e = .returned (.int .i64 (whichI rs ro te ho p)) ∧ Ext w w' := by
  by_cases hne : rs = []
  · subst hne
    obtain ⟨ao, cap, hv, _⟩ := hr
    subst hv
    have HN := Lib.hid (show whichI [] ro te ho p = -1 from rfl)
    go_enter Tryd.func20, Tryd.ntmps20
    go_wp2
    go_loop [15] (fun i => i = .int .i64 0) (fun _ => 0)
    case atStart => rfl
    case round =>
      subst hrel
      go_wp2
      go_ret
      exact ⟨by rw [HN.out]; rfl, ext_refl w⟩
  · obtain ⟨g, o, cap, hv, _, _, hcl⟩ := rowU_cells hr hne
    subst hv
    have HCL := Lib.hid hcl
    have HH := Lib.hid (fun (r : Ru) (hb : RuB r) W => holdsR_any r hb ro te ho p hh W)
    have HRB := Lib.hid hrb
    have hix := index_ruleR g o rs.length cap
    have HIX := Lib.hid hix
    have HWN := Lib.hid (fun h => whichO_none (rs := rs) (ro := ro) (te := te) (ho := ho) (p := p) h)
    have HWS := Lib.hid (fun i hi h0 h1 => whichO_some (rs := rs) (ro := ro) (te := te) (ho := ho) (p := p) (i := i) hi h0 h1)
    clear hcl hrb hix hr
    go_enter Tryd.func20, Tryd.ntmps20
    go_wp2
    go_loopw [11, 12, 15] (fun _ _ i wr => ∃ k : Nat, k ≤ rs.length ∧ i = .int .i64 k ∧ (∀ r ∈ rs.take k, holdB r ro te ho p = false) ∧ Ext w wr) (fun _ _ i _ => rs.length - (intOf i).toNat)
    case atStart => exact ⟨0, by omega, rfl, fun r hr => by simp at hr, ext_refl w⟩
    case round =>
      obtain ⟨k, hk, rfl, hno, hxr⟩ := hrel
      by_cases hlt : k < rs.length
      · have hix1 := HIX.out k hlt
        have HRBX := Lib.hid (HRB.out (rs.getD k ruD) (by simp [List.getD, hlt]))
        have HTK := Lib.hid (show rs.take (k + 1) = rs.take k ++ [rs.getD k ruD] by rw [List.take_succ_eq_append_getElem hlt]; simp [List.getD, hlt])
        have HNO := Lib.hid hno
        have HS := Lib.hid (HWS.out k hlt hno)
        obtain ⟨a0, a1, a2, a3, a4, a5⟩ := HCL.out k hlt
        have k0 := ext_cell hxr a0; have k1 := ext_cell hxr a1; have k2 := ext_cell hxr a2; have k3 := ext_cell hxr a3; have k4 := ext_cell hxr a4; have k5 := ext_cell hxr a5
        have HXR := Lib.hid hxr
        clear a0 a1 a2 a3 a4 a5 hno hxr
        generalize rs.getD k ruD = r at *
        generalize o + 6 * k = q at *
        have HX := Lib.hid (HH.out r HRBX.out)
        obtain ⟨al, xo, xe, xh, fr, to⟩ := r
        simp only at k0 k1 k2 k3 k4 k5
        go_wp2_with fail
        obtain ⟨W1, hW1⟩ : ∃ W1, wr.alloc (.cells #[.bool al, Str xo, Str xe, Str xh, .int .i64 fr, .int .i64 to] 26) = W1 := ⟨_, rfl⟩
        have hx : Ext wr W1 := by rw [← hW1]; exact Below.alloc (Below.refl _ _) (Nat.le_refl _) _
        try rw [hW1]
        refine (HX.out _).mono ?_
        rintro e W2 ⟨he, hx2⟩
        subst he
        have HX2 := Lib.hid (ext_trans HXR.out (ext_trans hx hx2))
        clear hx hx2 hW1 k0 k1 k2 k3 k4 k5 hix1 HX
        obtain ⟨hd, hhd⟩ : ∃ hd, holdB ⟨al, xo, xe, xh, fr, to⟩ ro te ho p = hd := ⟨_, rfl⟩
        rw [hhd] at HS ⊢
        have HHD := Lib.hid hhd
        clear hhd
        cases hd with
        | true =>
          have HI := Lib.hid (show whichI rs ro te ho p = (k : Int) by unfold whichI; rw [HS.out rfl])
          clear HS
          go_wp2
          go_ret
          exact ⟨by rw [HI.out]; rfl, HX2.out⟩
        | false =>
          clear HS
          go_wp2
          go_round
          case rel =>
            refine ⟨k + 1, by omega, by go_num, fun q hq => ?_, HX2.out⟩
            rw [HTK.out] at hq
            rcases List.mem_append.1 hq with hq | hq
            · exact HNO.out q hq
            · rw [List.mem_singleton.1 hq]; exact HHD.out
          case measure => simp [intOf] <;> omega
      · have : k = rs.length := by omega
        subst this
        rw [List.take_length] at hno
        have HI := Lib.hid (show whichI rs ro te ho p = -1 by unfold whichI; rw [HWN.out hno])
        have HXR := Lib.hid hxr
        clear hno hxr
        go_wp2
        go_ret
        exact ⟨by rw [HI.out]; rfl, HXR.out⟩
end Go.Proofs.YtjbobblnicnhnaaDoor
