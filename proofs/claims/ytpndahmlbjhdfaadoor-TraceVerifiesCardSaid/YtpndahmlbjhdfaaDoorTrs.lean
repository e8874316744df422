/-
  (*trace.Trace).some: its iterator; Since, Of, About.
-/
import Derived.BigGuardIn
import Derived.BigGuardPart
import Derived.Test.YtpndahmlbjhdfaaDoorRows
import Derived.Test.YtpndahmlbjhdfaaDoorTrb
import Derived.Test.YtpndahmlbjhdfaaDoorRfr
namespace Go.Proofs.YtpndahmlbjhdfaaDoor
open Go.RowKit
set_option maxRecDepth 100000
attribute [local go_sem] Oper.semAt_some
set_option linter.unusedVariables false
set_option linter.unusedSimpArgs false
def evD : Ev := ⟨0, 0, [], 0, []⟩
theorem index_ev (g o n cap k : Nat) (hk : k < n) : ∀ W, (Instr.indexAt 35 (.slice (some ⟨g, o, none⟩) n cap) (.int .i64 (k : Int))).run Tryd.prog W = .ok (.pointer (some ⟨g, o + 5 * k, none⟩)) W := by
  intro W
  have ht' : Tryd.prog.underlying 35 = some (.slice (Tryd.prog.elem 35)) := by simp [Program.elem, Tryd.underlying35]
  have he : Tryd.prog.elem 35 = 37 := by simp [Program.elem, Tryd.underlying35]
  have hadd : (⟨g, o, none⟩ : Addr).add (k * 5) = ⟨g, o + 5 * k, none⟩ := by rw [Nat.mul_comm]; unfold Addr.add; split <;> simp_all
  rw [run_indexAt_slice (h := ht'), if_pos (by omega), he]
  simp [Tryd.sizeOf37, Result.andThen, hadd]
theorem row_cells {W : World} {v : Value} {es : List Ev} (h : RowE W v es) (hne : es ≠ []) : ∃ g o cap, v = .slice (some ⟨g, o, none⟩) es.length cap ∧
    ∀ j, j < es.length → W.cell? ⟨g, o + 5 * j, none⟩ = some (.int .u64 ((es.getD j evD).n : Int)) ∧ W.cell? ⟨g, o + 5 * j + 1, none⟩ = some (.int .u64 ((es.getD j evD).tk : Int)) ∧ W.cell? ⟨g, o + 5 * j + 2, none⟩ = some (Str (es.getD j evD).kind) ∧ W.cell? ⟨g, o + 5 * j + 3, none⟩ = some (.int .i64 (es.getD j evD).conn) ∧ W.cell? ⟨g, o + 5 * j + 4, none⟩ = some (Str (es.getD j evD).text) := by
  obtain ⟨ao, cap, hv, _, h1, h2, h3⟩ := h
  obtain ⟨g, o, ha, hc⟩ := h3 hne
  subst ha
  refine ⟨g, o, cap, hv, fun j hj => ?_⟩
  have hx : es[j]? = some (es.getD j evD) := by simp [List.getD, hj]
  have hh := hc j _ hx
  refine ⟨?_, ?_, ?_, ?_, ?_⟩
  · have := hh 0 _ rfl; rwa [Nat.add_zero] at this
  · have := hh 1 _ rfl; rwa [← Nat.add_assoc] at this
  · have := hh 2 _ rfl; rwa [← Nat.add_assoc] at this
  · have := hh 3 _ rfl; rwa [← Nat.add_assoc] at this
  · have := hh 4 _ rfl; rwa [← Nat.add_assoc] at this
/-- A function of events that answers q; it reads the blocks of own. -/
def SoFn (gf : Nat) (lb : Array Value) (own : Nat → Prop) (q : Ev → Bool) (w0 : World) : Prop :=
  ∀ (W : World) (e : Ev), (∀ k, own k → W.heap[k]? = w0.heap[k]?) → e.ok → Calls Tryd.prog gf (#[.agg (evC e)] ++ lb) W fun r w' => r = .returned (.bool (q e)) ∧ Ext W w'
def evItem (es : List Ev) (i : Nat) (args : Array Value) (_ : World) : Prop := args = #[.agg (evC (es.getD i evD))]
theorem filter_take {q : Ev → Bool} (es : List Ev) (k : Nat) (h : k < es.length) : (es.take (k + 1)).filter q = (es.take k).filter q ++ if q (es.getD k evD) then [es.getD k evD] else [] := by
  have e : es.getD k evD = es[k] := by simp [List.getD, h]
  rw [List.take_succ_eq_append_getElem h, List.filter_append, e]
  congr 1
  simp [List.filter_cons]
theorem filter_at {q : Ev → Bool} (es : List Ev) (k : Nat) (h : k < es.length) (hq : q (es.getD k evD) = true) : ((es.take k).filter q).length < (es.filter q).length ∧ (es.filter q).getD ((es.take k).filter q).length evD = es.getD k evD := by
  have h1 := filter_take (q := q) es k h
  rw [hq] at h1
  have h2 : es.filter q = (es.take (k + 1)).filter q ++ (es.drop (k + 1)).filter q := by rw [← List.filter_append, List.take_append_drop]
  rw [h2, h1]
  simp [List.getD]
set_option maxHeartbeats 2000000 in
theorem some_iter (gf : Nat) (lb : Array Value) (eg : ∀ args w, (callFunc gf args).run Tryd.prog w = .ok (.enter gf args) w) (q : Ev → Bool) (own : Nat → Prop) (bx1 bx2 : Nat) (B p : Nat) (lv cv : Value) (S : TrS) (hlen : S.evs.length ≤ 1000) (hok : ∀ e ∈ S.evs, e.ok) (w0 : World)
    (hb1 : w0.heap[bx1]? = some (.cells #[.pointer (some ⟨p, 0, none⟩)] 25 (0, 0))) (hb2 : w0.heap[bx2]? = some (.cells #[.func (.func gf) #[] lb] 79 (0, 0))) (hp : TrAt B p lv cv S w0) (hso : SoFn gf lb own q w0) (hown : ∀ k, own k → k < w0.heap.size) :
    Iter4 Tryd.prog 61 #[.pointer (some ⟨bx1, 0, none⟩), .pointer (some ⟨bx2, 0, none⟩)] (S.evs.filter q).length 1 (evItem (S.evs.filter q)) (fun k => k = bx1 ∨ k = bx2 ∨ k = p ∨ lv.ownBlock = some k ∨ own k) (fun k => k = bx2 ∨ own k) w0 := by
  obtain ⟨room, es, last, chain⟩ := S
  dsimp only at hlen hok ⊢
  intro n lp J Jx W hW hsz hJ hJx hY h0
  have hb1W := (hW bx1 (.inl rfl)).trans hb1
  have hb2W := (hW bx2 (.inr (.inl rfl))).trans hb2
  have hpW := (hW p (.inr (.inr (.inl rfl)))).trans hp.blk
  dsimp only at hpW
  have hrW : OwnE B lv es W := hp.row.keep fun g hg => hW g (.inr (.inr (.inr (.inl hg))))
  have hsoW : ∀ (W2 : World) (e : Ev), (∀ k, own k → W2.heap[k]? = W.heap[k]?) → e.ok → Calls Tryd.prog gf (#[.agg (evC e)] ++ lb) W2 fun r w' => r = .returned (.bool (q e)) ∧ Ext W2 w' := fun W2 e hk he => hso W2 e (fun k ho => (hk k ho).trans (hW k (.inr (.inr (.inr (.inr ho)))))) he
  have cb1 := cell_of hb1W
  obtain ⟨d0, d1, d2, d3⟩ := cells4 hpW
  have HCL := Lib.hid (cloneE_any lv es W hrW.row (by omega))
  have HSO := Lib.hid hsoW
  have HB2 := Lib.hid hb2W
  clear hb1 hb2 hp hso hb1W hb2W hpW hrW hsoW hW
  refine callsIn_of_wp Tryd.func61 rfl trivial ?_ rfl
  simp only [Tryd.ntmps61, List.size_toArray, List.length_cons, List.length_nil, Nat.reduceAdd, Nat.reduceSub, Array.replicate_succ, Array.replicate_zero, List.push_toArray, List.append_toArray, List.nil_append, List.cons_append]
  gi_wp2
  refine ⟨trivial, fun h => by simp [Fence.wide] at h, (callsIn_wide.2 HCL.out).mono ?_⟩
  rintro e W1 ⟨vc, rfl, hoc, hx1⟩
  clear d0 d1 d2 d3 cb1 HCL
  have hgl : ∀ k, vc.ownBlock = some k → W.heap.size ≤ k ∧ k < W1.heap.size := fun k hk => ⟨(own_lt hoc hk).1, (own_lt hoc hk).2.1⟩
  have hJ0 := h0 (fun k => vc.ownBlock = some k) W1 hgl hx1
  have hY' := Lib.hid (hY (fun k => vc.ownBlock = some k))
  have hJ' := Lib.hid (hJ (fun k => vc.ownBlock = some k))
  have HGL := Lib.hid hgl
  have HX1 := Lib.hid hx1
  have HOC := Lib.hid hoc
  have HOK := Lib.hid hok
  obtain ⟨ao, cap, hvc⟩ : ∃ ao cap, vc = .slice ao es.length cap := by obtain ⟨ao, cap, h, _⟩ := hoc.row; exact ⟨ao, cap, h⟩
  have hsz1 := hx1.size
  have HQ := Lib.hid (fun k (h : k < es.length) => filter_take (q := q) es k h)
  have HA := Lib.hid (fun k (h : k < es.length) (hq : q (es.getD k evD) = true) => filter_at (q := q) es k h hq)
  have HB2' := Lib.hid (ext_at hx1 HB2.out)
  have HOW : Hid (∀ k, own k → W1.heap[k]? = W.heap[k]?) := Lib.hid (fun k hk => hx1.block k (by have := hown k hk; omega))
  clear hY hJ hJx h0 hgl hx1 hoc hok HB2
  subst hvc
  have hlt63 : es.length ≤ 1000 := hlen
  gi_wp2
  gi_loopw [14] (fun i wr => ∃ k : Nat, k ≤ es.length ∧ i = .int .i64 k ∧ OwnE W.heap.size (.slice ao es.length cap) es wr ∧ (∀ k, own k → wr.heap[k]? = W.heap[k]?) ∧ wr.heap[bx2]? = some (.cells #[.func (.func gf) #[] lb] 79 (0, 0)) ∧ W1.heap.size ≤ wr.heap.size ∧ J (fun k => (Value.slice ao es.length cap).ownBlock = some k) ((es.take k).filter q).length wr) (fun i _ => es.length - (intOf i).toNat)
  case atStart => exact ⟨0, by omega, rfl, HOC.out, HOW.out, HB2'.out, Nat.le_refl _, hJ0⟩
  case round =>
    obtain ⟨k, hk, rfl, hor, how, hb2, hszr, hJr⟩ := hrel
    by_cases hlt : k < es.length
    · obtain ⟨g, o, cap', hsh, hcl⟩ := row_cells hor.row (fun h => by rw [h] at hlt; simp at hlt)
      simp only [Value.slice.injEq, true_and] at hsh
      obtain ⟨rfl, rfl⟩ := hsh
      have hix := index_ev g o es.length cap k hlt
      obtain ⟨d0, d1, d2, d3, d4⟩ := hcl k hlt
      have hme : es.getD k evD ∈ es := by simp [List.getD, hlt]
      have heok := HOK.out _ hme
      have cb2 := cell_of hb2
      have hbl := (Array.getElem?_eq_some_iff.1 hb2).1
      have HFT := Lib.hid (HQ.out k hlt)
      have HFA := Lib.hid (HA.out k hlt)
      have HR := Lib.hid (show _ ∧ _ ∧ _ from ⟨hor, how, hb2⟩)
      clear hcl hor how hb2 hme
      generalize es.getD k evD = e at *
      have HE := Lib.hid heok
      clear heok
      obtain ⟨n', tk, kind, conn, text⟩ := e
      simp only at d0 d1 d2 d3 d4
      generalize o + 5 * k = q5 at *
      gi_wp2
      obtain ⟨W2, hW2⟩ : ∃ W2, wr.alloc (.cells #[.int .u64 (n' : Int), .int .u64 (tk : Int), Str kind, .int .i64 conn, Str text] 37) = W2 := ⟨_, rfl⟩
      have hx2 : Ext wr W2 := by rw [← hW2]; exact Below.alloc (Below.refl _ _) (Nat.le_refl _) _
      have hbx2 : W2.heap[wr.heap.size]? = some (.cells #[.int .u64 (n' : Int), .int .u64 (tk : Int), Str kind, .int .i64 conn, Str text] 37 (0, 0)) := by rw [← hW2]; exact Array.getElem?_push_size
      rw [hW2]
      clear hW2 d0 d1 d2 d3 d4 hix cb2
      refine ⟨trivial, fun h => by simp [Fence.wide] at h, (callsIn_wide.2 (HSO.out W2 ⟨n', tk, kind, conn, text⟩ (fun k hk => (hx2.block k (by have := hown k hk; omega)).trans (HR.out.2.1 k hk)) HE.out)).mono ?_⟩
      rintro r W3 ⟨rfl, hx3⟩
      have hx23 := ext_trans hx2 hx3
      have HR3 := Lib.hid (show _ ∧ _ ∧ _ from ⟨HR.out.1.ext hx23, fun k hk => (hx23.block k (by have := hown k hk; omega)).trans (HR.out.2.1 k hk), ext_at hx23 HR.out.2.2⟩)
      have hJ3 := hJ'.out _ _ _ hJr hx23
      obtain ⟨e0, e1, e2, e3, e4⟩ := cells5 (ext_at hx3 hbx2)
      have hsz3 := hx23.size
      clear HR hJr hx2 hx3 hbx2 hx23
      obtain ⟨b, hb⟩ : ∃ b, q ⟨n', tk, kind, conn, text⟩ = b := ⟨_, rfl⟩
      rw [hb] at HFT HFA ⊢
      have HB := Lib.hid hb; clear hb
      cases b with
      | false =>
        have hl : ((es.take (k + 1)).filter q).length = ((es.take k).filter q).length := by rw [HFT.out]; simp
        rw [← hl] at hJ3
        have HJ3 := Lib.hid hJ3
        clear hJ3 hl
        gi_wp2
        refine ⟨(fun f hf => by cases hf), ?_⟩
        gi_wp2
        go_roundw
        case rel => exact ⟨k + 1, by omega, by go_num, HR3.out.1, HR3.out.2.1, HR3.out.2.2, by omega, HJ3.out⟩
        case measure => simp [intOf] <;> omega
      | true =>
        have hl : ((es.take (k + 1)).filter q).length = ((es.take k).filter q).length + 1 := by rw [HFT.out]; simp
        have hfa := HFA.out rfl
        obtain ⟨fn, tmps, assign, body, hy, hR⟩ := hY'.out (n - 1) _ W3 #[.agg (evC ⟨n', tk, kind, conn, text⟩)] hfa.1 (fun k hk => ⟨(HGL.out k hk).1, by have := (HGL.out k hk).2; omega⟩) hJ3 rfl (by unfold evItem; rw [hfa.2])
        rw [← hl] at hR
        have HRR := Lib.hid hR
        have HFA2 := Lib.hid hfa.1
        simp only [evC] at hy
        clear hR hl hfa hJ3
        gi_wp2

        refine ⟨fun h => by simp [Fence.wide] at h, HRR.out.mono ?_⟩
        rintro r W4 (⟨rfl, hJ5, hs5, hk5⟩ | ⟨rfl, hJ5⟩)
        · have HR4 := Lib.hid (show _ ∧ _ ∧ _ from ⟨HR3.out.1.keep (C := W4) (fun g' hg' => hk5 g' (.inl hg')), fun k hk => (hk5 k (.inr (.inr hk))).trans (HR3.out.2.1 k hk), (hk5 bx2 (.inr (.inl rfl))).trans HR3.out.2.2⟩)
          clear hk5
          gi_wp2
          go_roundw
          case rel => exact ⟨k + 1, by omega, by go_num, HR4.out.1, HR4.out.2.1, HR4.out.2.2, by omega, hJ5⟩
          case measure => simp [intOf] <;> omega
        · gi_wp2
          refine bodyPost_ret (results_none rfl _ _ _) rfl ?_
          exact ⟨⟨_, rfl⟩, _, fun k hk => (HGL.out k hk).1, .inr ⟨_, HFA2.out, hJ5⟩⟩
    · obtain rfl : k = es.length := by omega
      rw [List.take_length] at hJr
      clear hor how hb2
      gi_wp2
      refine bodyPost_end (results_none rfl _ _ _) rfl ?_
      exact ⟨⟨_, rfl⟩, _, fun k hk => (HGL.out k hk).1, .inl hJr⟩
end Go.Proofs.YtpndahmlbjhdfaaDoor
