/-
  ref23.Chain: behind events.
-/
import Derived.Test.YtpndahmlbjhdfaaDoorRows
import Derived.Test.YtpndahmlbjhdfaaDoorRad
import Derived.Test.YtpndahmlbjhdfaaDoorRsm
import Derived.Test.YtpndahmlbjhdfaaDoorTrs
namespace Go.Proofs.YtpndahmlbjhdfaaDoor
open Go.RowKit
set_option maxRecDepth 100000
attribute [local go_sem] Oper.semAt_some
set_option linter.unusedVariables false
set_option linter.unusedSimpArgs false
/-- An event's line, or nothing. -/
def lnR (e : Ev) : List UInt8 := if e.right then e.line else []
def chainR (c : List UInt8) (es : List Ev) : List UInt8 := es.foldl (fun c e => shSum (c ++ lnR e)) c
theorem index_evR (g o n cap k : Nat) (hk : k < n) : ∀ W, (Instr.indexAt 29 (.slice (some ⟨g, o, none⟩) n cap) (.int .i64 (k : Int))).run Tryd.prog W = .ok (.pointer (some ⟨g, o + 5 * k, none⟩)) W := by
  intro W
  have ht' : Tryd.prog.underlying 29 = some (.slice (Tryd.prog.elem 29)) := by simp [Program.elem, Tryd.underlying29]
  have he : Tryd.prog.elem 29 = 32 := by simp [Program.elem, Tryd.underlying29]
  have hadd : (⟨g, o, none⟩ : Addr).add (k * 5) = ⟨g, o + 5 * k, none⟩ := by rw [Nat.mul_comm]; unfold Addr.add; split <;> simp_all
  rw [run_indexAt_slice (h := ht'), if_pos (by omega), he]
  simp [Tryd.sizeOf32, Result.andThen, hadd]
theorem chainR_len (es : List Ev) : ∀ c : List UInt8, c.length = 32 → (chainR c es).length = 32 := by
  induction es with
  | nil => intro c h; exact h
  | cons e es ih => intro c h; exact ih _ (shSum_len _)
theorem chainR_snoc (c : List UInt8) (es : List Ev) (e : Ev) : chainR c (es ++ [e]) = shSum (chainR c es ++ lnR e) := by
  simp [chainR, List.foldl_append]
theorem lnR_len (e : Ev) (he : e.ok) : (lnR e).length ≤ 600 := by
  unfold lnR
  split
  · rename_i h; exact line_len e he h
  · simp
theorem strCells_map (l : List UInt8) : Lib.strCells ⟨l.toArray⟩ = l.map Byt := by simp [Lib.strCells]
theorem take_evs (es : List Ev) (k : Nat) (h : k < es.length) : es.take (k + 1) = es.take k ++ [es.getD k evD] := by
  have e : es.getD k evD = es[k] := by simp [List.getD, h]
  rw [e, List.take_succ_eq_append_getElem h]
set_option maxHeartbeats 1000000 in
theorem rchain_any (v1 v2 : Value) (c : List UInt8) (es : List Ev) (hc : c.length = 32) (hlen : es.length ≤ 1000) (hok : ∀ e ∈ es, e.ok) (w : World) (h1 : SlB w v1 c) (h2 : RowE w v2 es) (hW : WordsAt w) :
    Calls Tryd.prog 19 #[v1, v2] w fun e w' => ∃ v', e = .returned v' ∧ SlB w' v' (chainR c es) ∧ Ext w w' := by
  obtain ⟨ao, cap, rfl, hcase, hcap, hmx, hcells⟩ := id h2
  have HR := Lib.hid h2
  have HC := Lib.hid h1
  have HW := Lib.hid hW
  obtain ⟨i0, hi, hz0, hz1, hz2⟩ := info_parts infoByte
  clear hcells h1 h2 hW hcase
  go_enter Tryd.func19, Tryd.ntmps19
  go_wp2
  go_loopw [0, 11] (fun v i wr => ∃ k : Nat, k ≤ es.length ∧ i = .int .i64 k ∧ SlB wr v (chainR c (es.take k)) ∧ Ext w wr) (fun _ i _ => es.length - (intOf i).toNat)
  case atStart => exact ⟨0, by omega, rfl, HC.out, ext_refl _⟩
  case round =>
    obtain ⟨k, hk, rfl, hs, hx⟩ := hrel
    obtain ⟨cao, ccap, rfl, -⟩ := id hs
    rw [List.length_map] at hs ⊢
    by_cases h3 : k < es.length
    · have hev := hok (es.getD k evD) (by simp [List.getD, h3])
      obtain ⟨g, o, cap', hv, hcl⟩ := row_cells (HR.out.ext hx) (by intro h; rw [h] at h3; simp at h3)
      cases hv
      obtain ⟨d0, d1, d2, d3, d4⟩ := hcl k h3
      have hix := index_evR g o es.length cap k h3
      have HSN := Lib.hid (show chainR c (es.take (k + 1)) = shSum (chainR c (es.take k) ++ lnR (es.getD k evD)) by rw [take_evs es k h3, chainR_snoc])
      have hln := lnR_len _ hev
      have hcl2 : (chainR c (es.take k)).length = 32 := chainR_len _ _ hc
      have HLN := Lib.hid (rline_any _ hev)
      have HX := Lib.hid hx; have HS := Lib.hid hs
      have HLQ := Lib.hid (show lnR (es.getD k evD) = if (es.getD k evD).right then (es.getD k evD).line else [] from rfl)
      clear hcl hev hx hs
      generalize lnR (es.getD k evD) = lr at *
      generalize (es.getD k evD).line = ln at *
      generalize (es.getD k evD).right = R at *
      generalize es.getD k evD = ev at *
      obtain ⟨en, ek, ekind, econn, etext⟩ := ev
      simp only at d0 d1 d2 d3 d4
      simp only [evC] at HLN
      generalize chainR c (es.take k) = ck at *
      have hlt : g < wr.heap.size := by
        have := d0
        unfold World.cell? at this
        exact Nat.lt_of_not_le fun h => by rw [Array.getElem?_eq_none h] at this; cases this
      go_wp2_with fail
      obtain ⟨W1, hW1⟩ : ∃ W1, wr.alloc (.cells #[.int .u64 (en : Int), .int .u64 (ek : Int), Str ekind, .int .i64 econn, Str etext] 32) = W1 := ⟨_, rfl⟩
      have hx1 : Ext wr W1 := by rw [← hW1]; exact Below.alloc (Below.refl _ _) (Nat.le_refl _) _
      rw [show wr.alloc (.cells #[.int .u64 (en : Int), .int .u64 (ek : Int), .string ⟨ekind.toArray⟩, .int .i64 econn, .string ⟨etext.toArray⟩] 32) = W1 from hW1]
      clear hW1 d0 d1 d2 d3 d4
      have HLN2 := Lib.hid (show ∀ W, Calls Tryd.prog 29 #[.agg #[.int .u64 (en : Int), .int .u64 (ek : Int), Str ekind, .int .i64 econn, Str etext]] W fun r w' => (∃ cd : Int, r = .returned (.tuple #[Str lr, .int .i64 cd])) ∧ Ext W w' from fun W => (HLN.out W).mono (fun r w' h => by
        refine ⟨?_, h.2⟩
        rw [h.1, HLQ.out]
        cases R with
        | false => exact ⟨4, rfl⟩
        | true => exact ⟨0, rfl⟩))
      clear HLN HLQ
      refine (HLN2.out W1).mono ?_
      rintro e W2 ⟨⟨cd, rfl⟩, hx2⟩
      have HX2 := Lib.hid (ext_trans hx1 hx2)
      clear hx1 hx2 HLN2
      have HCP := Lib.hid (copy_any _ ck W2 (HS.out.ext HX2.out) (by omega))
      rw [hcl2] at HCP
      go_wp2_with fail
      refine HCP.out.mono ?_
      rintro e W3 ⟨v3, rfl, ho3, hx3⟩
      have HX3 := Lib.hid (ext_trans HX2.out hx3)
      have hsz3 := hx3.size
      go_wp2_with (at_builtin; refine Lib.wpList_append_own_string _ rfl _ _ 45 9 rfl W2.heap.size 5 i0 Tryd.underlying45 Tryd.underlying9 hi hz0 hz1 hz2 _ _ _ rfl ho3 ⟨lr.toArray⟩ rfl ?c3 ?c4 ?c5 ?_)
      case c3 => rw [size_list]; unfold maxLen; omega
      case c4 => rw [size_list]; omega
      case c5 => omega
      intro v4 W4 ho4 hg4 _
      have hx4 : Ext W2 W4 := ext_pushz hx3 ho3 hg4
      have hsl4 := sl_of_own ho4
      rw [strCells_map, ← List.map_append] at hsl4
      have HSM := Lib.hid (rsum_any v4 (ck ++ lr) W4 hsl4 (by rw [List.length_append]; omega) (HW.out.ext (ext_trans HX.out (ext_trans HX2.out hx4))))
      have HX4 := Lib.hid (ext_trans HX.out (ext_trans HX2.out hx4))
      clear ho3 hx3 hg4 ho4 HX3 HCP hx4 hsl4
      go_wp2_with fail
      refine HSM.out.mono ?_
      rintro e W5 ⟨v5, rfl, ho5, hx5⟩
      have H5 := Lib.hid (And.intro ho5.sl (ext_trans HX4.out hx5))
      clear ho5 hx5 HSM
      go_wp2
      go_roundw
      case rel => exact ⟨k + 1, by omega, by go_num, by rw [HSN.out]; exact H5.out.1, H5.out.2⟩
      case measure => simp [intOf]; omega
    · have hkl : k = es.length := by omega
      subst hkl
      rw [List.take_length] at hs
      have HS := Lib.hid hs
      go_wp2
      go_ret
      refine ⟨.slice cao (chainR c (es.take es.length)).length ccap, rfl, ?_, hx⟩
      rw [List.take_length]
      exact HS.out
end Go.Proofs.YtpndahmlbjhdfaaDoor
