/-
  head.Get: its iterator.
-/
import Derived.BigGuardPart
import Derived.Test.YtmflnffjhfejhaaDoorRows
import Derived.Test.YtmflnffjhfejhaaDoorFge
import Derived.Test.YtmflnffjhfejhaaDoorKit
import Derived.Shelf.Abstract
namespace Go.Proofs.YtmflnffjhfejhaaDoor
open Go.RowKit Go.Shelf
set_option maxRecDepth 100000
attribute [local go_sem] Oper.semAt_some
set_option linter.unusedVariables false
set_option linter.unusedSimpArgs false

theorem getL_append (a b : List Pr) (nm : List UInt8) : getL (a ++ b) nm = getL a nm ++ getL b nm := by
  unfold getL; rw [List.filter_append, List.map_append]
theorem getL_at (fs : List Pr) (nm : List UInt8) (k : Nat) (h : k < fs.length) (hf : foldB (fs.getD k prD).n nm = true) :
    (getL (fs.take k) nm).length < (getL fs nm).length ∧ (getL fs nm).getD (getL (fs.take k) nm).length [] = (fs.getD k prD).v := by
  have h1 := getL_snoc fs nm k h
  rw [hf, if_pos rfl] at h1
  have h2 : getL fs nm = getL (fs.take (k + 1)) nm ++ getL (fs.drop (k + 1)) nm := by rw [← getL_append, List.take_append_drop]
  rw [h2, h1]
  generalize getL (fs.take k) nm = a
  refine ⟨by simp, ?_⟩
  simp [List.getD]
theorem get_any (v : Value) (nm : List UInt8) (ao : Option Addr) (n cap : Nat) (hv : v = .slice ao n cap) (w : World) :
    Calls Tryd.prog 22 #[v, Str nm] w fun e w' => e = .returned (.func (.func 38) #[] #[.pointer (some ⟨w.heap.size, 0, none⟩), .pointer (some ⟨w.heap.size + 1, 0, none⟩)]) ∧ w' = allocs w [.cells #[v] 28, .cells #[Str nm] 9] := by
  subst hv
  go_enter Tryd.func22, Tryd.ntmps22
  go_wp2
  go_ret
  exact ⟨rfl, rfl⟩
set_option maxHeartbeats 2000000 in
theorem get_iter (v : Value) (fs : List Pr) (nm : List UInt8) (hl : fs.length ≤ 1000) (hb : PrB fs) (hn : nm.length ≤ 10000) (bx nx : Nat) (w0 : World) (hbx : w0.heap[bx]? = some (.cells #[v] 28 (0, 0)))
    (hnx : w0.heap[nx]? = some (.cells #[Str nm] 9 (0, 0))) (hr : RowC 2 prC w0 v fs) :
    Iter Tryd.prog 38 #[.pointer (some ⟨bx, 0, none⟩), .pointer (some ⟨nx, 0, none⟩)] (getL fs nm).length (fun i => #[Str ((getL fs nm).getD i [])]) (fun k => k = bx ∨ k = nx ∨ rblk v fs.length k) (fun k => False) w0 := by
  intro n lp J Jx W hW hsz hJ hJx hY h0
  have hbxW := (hW bx (.inl rfl)).trans hbx
  have hnxW := (hW nx (.inr (.inl rfl))).trans hnx
  have hrW : RowC 2 prC W v fs := hr.keep fun k hk => hW k (.inr (.inr hk))
  obtain ⟨ao, cap, hv, hcap, hmax, _⟩ := rowP_shape hrW
  have HV := Lib.hid hv
  have cx := cell_of hbxW
  rw [hv] at cx
  have HR := Lib.hid hrW; have HN := Lib.hid hnxW
  have HIX := Lib.hid (fun g o j h W => index_pair g o fs.length cap j h W)
  have HFD := Lib.hid (fun a ha W => fold_any a nm ha hn W)
  have HB := Lib.hid hb
  clear hbx hnx hr hbxW hnxW hrW hW hb hv
  refine callsIn_of_wp Tryd.func38 rfl trivial ?_ rfl
  simp only [Tryd.ntmps38, List.size_toArray, List.length_cons, List.length_nil, Nat.reduceAdd, Nat.reduceSub, Array.replicate_succ, Array.replicate_zero, List.push_toArray, List.append_toArray, List.nil_append, List.cons_append]
  gi_wp2
  gi_loopw [8] (fun iv wr => ∃ i : Nat, i ≤ fs.length ∧ iv = .int .i64 (i : Int) ∧ Hid (RowC 2 prC wr v fs) ∧ Hid (wr.heap[nx]? = some (.cells #[Str nm] 9 (0, 0))) ∧ Hid (J (getL (fs.take i) nm).length wr)) (fun iv _ => fs.length - (intOf iv).toNat)
  case atStart => exact ⟨0, by omega, rfl, HR, HN, Lib.hid (by simpa [getL] using h0)⟩
  case round =>
    obtain ⟨i, hi, rfl, HRO, HNX, HJR⟩ := hrel
    by_cases hlt : i < fs.length
    · obtain ⟨ao', cap', hv', _, _, hcl⟩ := rowP_shape HRO.out
      rw [HV.out] at hv'
      simp only [Value.slice.injEq] at hv'
      obtain ⟨rfl, _, rfl⟩ := hv'
      rcases hcl with h | ⟨g, o, rfl, hcc⟩
      · subst h; simp at hlt
      obtain ⟨a0, a1⟩ := hcc i hlt
      have i1 := HIX.out g o i hlt
      have HSN := Lib.hid (getL_snoc fs nm i hlt)
      have HAT := Lib.hid (fun h => getL_at fs nm i hlt h)
      have hbb := HB.out (fs.getD i prD) (by simp [List.getD, hlt])
      have hY' := fun W3 h1 hJ3 => hY (n - 1) (getL (fs.take i) nm).length W3 h1 hJ3
      generalize fs.getD i prD = p at *
      generalize o + 2 * i = q at *
      obtain ⟨pn, pv⟩ := p
      simp only at a0 a1 HSN HAT hbb
      have HFW := Lib.hid (fun W => HFD.out pn hbb.1 W)
      have HY := Lib.hid hY'
      have cn := cell_of HNX.out
      have hnl := (Array.getElem?_eq_some_iff.1 HNX.out).1
      obtain ⟨W3, hW3⟩ : ∃ W3, wr.alloc (.cells #[Str pn, Str pv] 44) = W3 := ⟨_, rfl⟩
      have hx3 : Ext wr W3 := by rw [← hW3]; exact Below.alloc (Below.refl _ _) (Nat.le_refl _) _
      have n3 : W3.heap[wr.heap.size]? = some (.cells #[Str pn, Str pv] 44 (0, 0)) := by rw [← hW3]; exact Array.getElem?_push_size
      have HW3 := Lib.hid hW3; have HX3 := Lib.hid hx3; have HN3 := Lib.hid n3
      clear hcc hbb hY' hY hW3 hx3 n3
      gi_wp2
      rw [HW3.out]
      refine ⟨trivial, fun h => by simp [Fence.wide] at h, (callsIn_wide.2 (HFW.out W3)).mono ?_⟩
      rintro e W4 ⟨he, hx4⟩
      subst he
      have hx := ext_trans HX3.out hx4
      have hro4 := HRO.out.ext hx
      have hnx4 := ext_at hx HNX.out
      have hJ4 := hJ _ wr _ HJR.out (Chg.of_ext _ hx)
      obtain ⟨d0, d1⟩ := cells2 (ext_at hx4 HN3.out)
      have HRO4 := Lib.hid hro4; have HNX4 := Lib.hid hnx4; have HJ4 := Lib.hid hJ4
      generalize wr.heap.size = gg at *
      clear hx hx4 hro4 hnx4 hJ4 a0 a1 cn HN3 HX3 HW3 HFW
      cases hf : foldB pn nm with
      | true =>
        obtain ⟨hk1, hk2⟩ := HAT.out hf
        rw [hf] at HSN
        have HS2 := Lib.hid (show (getL (fs.take (i + 1)) nm).length = (getL (fs.take i) nm).length + 1 by rw [HSN.out]; simp)
        have hY' := HY.out
        rw [hk2] at hY'
        obtain ⟨fn, tmps, assign, body, hy, hR⟩ := hY' _ hk1 HJ4.out
        have HK1 := Lib.hid hk1
        clear hY' HSN HAT HY hk1 hk2 hf
        gi_wp2
        refine ⟨fun h => by simp [Fence.wide] at h, hR.mono ?_⟩
        rintro e W5 (⟨rfl, hJ5, hs5, hk5⟩ | ⟨rfl, hJ5⟩)
        · have HR5 := Lib.hid (show RowC 2 prC W5 (.slice (some ⟨g, o, none⟩) fs.length cap) fs from HV.out ▸ HRO4.out.keep fun k hk => hk5 k (.inr (.inr hk)))
          have HN5 := Lib.hid ((hk5 nx (.inr (.inl rfl))).trans HNX4.out)
          have HJ5 := Lib.hid (show J (getL (fs.take (i + 1)) nm).length W5 by rw [HS2.out]; exact hJ5)
          clear hk5 hR hJ5
          gi_wp2
          go_roundw
          case rel => exact ⟨i + 1, by omega, by go_num, by rw [HV.out]; exact HR5, HN5, HJ5⟩
          case measure => simp [intOf]; omega
        · have HJ5 := Lib.hid hJ5
          clear hR hJ5
          gi_wp2
          refine bodyPost_ret (results_none rfl _ _ _) rfl ?_
          exact ⟨⟨_, rfl⟩, .inr ⟨_, HK1.out, HJ5.out⟩⟩
      | false =>
        rw [hf] at HSN
        have HS2 := Lib.hid (show getL (fs.take (i + 1)) nm = getL (fs.take i) nm by rw [HSN.out]; simp)
        clear HSN HAT HY hf
        gi_wp2
        refine ⟨(fun f h => by cases h), ?_⟩
        gi_wp2
        go_roundw
        case rel => exact ⟨i + 1, by omega, by go_num, HRO4, HNX4, by rw [HS2.out]; exact HJ4⟩
        case measure => simp [intOf]; omega
    · obtain rfl : i = fs.length := by omega
      have hJr := HJR.out
      rw [List.take_length] at hJr
      clear HJR
      gi_wp2
      refine bodyPost_end (results_none rfl _ _ _) rfl ?_
      exact ⟨⟨_, rfl⟩, .inl hJr⟩
end Go.Proofs.YtmflnffjhfejhaaDoor
