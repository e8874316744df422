/-
  trace.Verify.
-/
import Derived.Lib.LazyBuf
import Derived.BigGuardPart
import Derived.Test.YtpndahmlbjhdfaaDoorRows
import Derived.Test.YtpndahmlbjhdfaaDoorTfi
import Derived.Test.YtpndahmlbjhdfaaDoorRch
import Derived.Test.YtpndahmlbjhdfaaDoorRt5
import Derived.Test.YtpndahmlbjhdfaaDoorShf
namespace Go.Proofs.YtpndahmlbjhdfaaDoor
open Go.RowKit
set_option maxRecDepth 100000
attribute [local go_sem] Oper.semAt_some
set_option linter.unusedVariables false
set_option linter.unusedSimpArgs false
theorem equalB_any (v1 v2 : Value) (a b : List UInt8) (w : World) (h1 : SlB w v1 a) (h2 : SlB w v2 b) :
    Calls Tryd.prog 44 #[v1, v2] w fun e w' => e = .returned (.bool (decide (a = b))) ∧ w' = w := by
  have h := Tryd.bytes_Equal v1 v2 (a.map fun b => (b.toNat : Int)) (b.map fun b => (b.toNat : Int)) w (by rw [Lib.Lz.strOfNums_map]; exact str_of_sl h1) (by rw [Lib.Lz.strOfNums_map]; exact str_of_sl h2)
  have e : ∀ l : List UInt8, Lib.bytesOf (l.map fun b => (b.toNat : Int)) = l := fun l => by
    unfold Lib.bytesOf
    rw [List.map_map]
    refine (List.map_congr_left fun b _ => ?_).trans (List.map_id _)
    simp
  rw [e, e] at h
  refine h.mono (fun r w' hr => ⟨?_, hr.2⟩)
  rw [hr.1]
  congr 2
  rw [Bool.eq_iff_iff]; simp
def verB (es : List Ev) (f c : List UInt8) : Bool := es.all Ev.right && decide (chainR f es = c)
theorem take_evs' (es : List Ev) (k : Nat) (h : k < es.length) : es.take (k + 1) = es.take k ++ [es.getD k evD] := by
  have e : es.getD k evD = es[k] := by simp [List.getD, h]
  rw [e, List.take_succ_eq_append_getElem h]
set_option maxHeartbeats 2000000 in
theorem verify_any (fv cv v : Value) (f c : List UInt8) (hf : f.length = 32) (es : List Ev) (hl : es.length ≤ 1000) (hok : ∀ e ∈ es, e.ok) (w : World) (h1 : SlB w fv f) (h2 : SlB w cv c) (h3 : RowE w v es) (hT : Tw w) :
    Calls Tryd.prog 25 #[fv, cv, v] w fun e w' => e = .returned (.bool (verB es f c)) ∧ Ext w w' := by
  obtain ⟨ya, yc, rfl, -⟩ := id h3
  have H1 := Lib.hid h1; have H2 := Lib.hid h2; have H3 := Lib.hid h3; have HT := Lib.hid hT; have HOK := Lib.hid hok
  clear h1 h2 h3 hT hok
  go_enter Tryd.func25, Tryd.ntmps25
  go_wp2_with fail
  go_loopw [7, 15] (fun v i wr => ∃ k : Nat, k ≤ es.length ∧ i = .int .i64 k ∧ Hid (SlB wr v (chainR f (es.take k))) ∧ Hid ((es.take k).all Ev.right = true) ∧ Ext w wr) (fun _ i _ => es.length - (intOf i).toNat)
  case atStart => exact ⟨0, by omega, rfl, Lib.hid H1.out, Lib.hid rfl, ext_refl _⟩
  case round =>
    obtain ⟨k, hk, rfl, HS, HR, hx⟩ := hrel
    by_cases hlt : k < es.length
    · obtain ⟨g, o, cap', hv, hcl⟩ := row_cells ((H3.out).ext hx) (by intro h; rw [h] at hlt; simp at hlt)
      cases hv
      obtain ⟨d0, d1, d2, d3, d4⟩ := hcl k hlt
      have hix := index_ev g o es.length yc k hlt
      have hgl : g < wr.heap.size := by
        have := d0
        unfold World.cell? at this
        exact Nat.lt_of_not_le fun h => by rw [Array.getElem?_eq_none h] at this; cases this
      have hmem : es.getD k evD ∈ es := by simp [List.getD, hlt]
      have heok := HOK.out _ hmem
      have HTK := Lib.hid (take_evs' es k hlt)
      have hcl32 := chainR_len (es.take k) f hf
      have HLN := Lib.hid (fun W (hx : Ext w W) => Line_any (es.getD k evD) heok W (HT.out.ext hx).lb)
      have HLL := Lib.hid (line_len (es.getD k evD) heok)
      have HLR := Lib.hid (show lnR (es.getD k evD) = if (es.getD k evD).right then (es.getD k evD).line else [] from rfl)
      clear hcl hmem heok
      generalize es.getD k evD = ev at *
      obtain ⟨b, hb⟩ : ∃ b, ev.right = b := ⟨_, rfl⟩
      rw [hb] at HLN HLR HLL
      obtain ⟨ln, hln⟩ : ∃ ln, ev.line = ln := ⟨_, rfl⟩
      rw [hln] at HLN HLL HLR
      have HBR := Lib.hid hb
      clear hb hln
      have hevc : evC ev = #[.int .u64 (ev.n : Int), .int .u64 (ev.tk : Int), Str ev.kind, .int .i64 ev.conn, Str ev.text] := rfl
      rw [hevc] at HLN
      clear hevc
      obtain ⟨en, ek, ekind, econn, etext⟩ := ev
      simp only at d0 d1 d2 d3 d4 HLN
      obtain ⟨Wb, hWb⟩ : ∃ Wb, wr.alloc (.cells #[.int .u64 (en : Int), .int .u64 (ek : Int), Str ekind, .int .i64 econn, Str etext] 37) = Wb := ⟨_, rfl⟩
      have hxb : Ext wr Wb := by rw [← hWb]; exact Below.alloc (Below.refl _ _) (Nat.le_refl _) _
      have hbb : Wb.heap[wr.heap.size]? = some (.cells #[.int .u64 (en : Int), .int .u64 (ek : Int), Str ekind, .int .i64 econn, Str etext] 37 (0, 0)) := by rw [← hWb]; exact Array.getElem?_push_size
      obtain ⟨q0, q1, q2, q3, q4⟩ := cells5 hbb
      have HX := Lib.hid (ext_trans hx hxb)
      have HS2 := Lib.hid (HS.out.ext hxb)
      clear hxb hbb hx HS
      go_wp2_with fail
      refine (HLN.out Wb HX.out).mono ?_
      rintro r W2 ⟨rfl, hx2⟩
      have HX2 := Lib.hid (ext_trans HX.out hx2)
      have HS3 := Lib.hid (HS2.out.ext hx2)
      clear hx2 HS2 HLN
      cases b with
      | false =>
        simp only [Bool.false_eq_true, if_false]
        go_wp2_with fail
        go_ret
        refine ⟨?_, HX2.out⟩
        have : es.all Ev.right = false := by
          rw [List.all_eq_false]
          exact ⟨⟨en, ek, ekind, econn, etext⟩, List.mem_of_mem_take (i := k + 1) (by rw [HTK.out]; simp), by rw [HBR.out]; simp⟩
        simp [verB, this]
      | true =>
        simp only [if_true]
        have HLK := Lib.hid (linked_any _ (chainR f (es.take k)) ln (by omega) (by have := HLL.out rfl; omega) W2 HS3.out (HT.out.ext HX2.out))
        go_wp2_with fail
        refine HLK.out.mono ?_
        rintro r W3 ⟨v3, rfl, ho3, hx3⟩
        have HO3 := Lib.hid ho3.sl
        have HX3 := Lib.hid (ext_trans HX2.out hx3)
        clear ho3 hx3 HLK
        go_wp2
        go_roundw
        case rel =>
          refine ⟨k + 1, by omega, by go_num, Lib.hid ?_, Lib.hid ?_, HX3.out⟩
          · rw [HTK.out, chainR_snoc, HLR.out, if_pos trivial]; exact HO3.out
          · rw [HTK.out, List.all_append, HR.out]; simp [HBR.out]
        case measure => simp [intOf]; omega
    · obtain rfl : k = es.length := by omega
      have hS := HS.out; have hR := HR.out
      rw [List.take_length] at hS hR
      have HEQ := Lib.hid (equalB_any _ _ _ _ wr hS (H2.out.ext hx))
      have HV := Lib.hid (show verB es f c = decide (chainR f es = c) by unfold verB; rw [hR]; rfl)
      have HX := Lib.hid hx
      clear hS hR HS HR hx
      go_wp2_with fail
      refine HEQ.out.mono ?_
      rintro r W2 ⟨rfl, rfl⟩
      go_wp2
      go_ret
      exact ⟨by rw [HV.out]; rfl, HX.out⟩
end Go.Proofs.YtpndahmlbjhdfaaDoor
