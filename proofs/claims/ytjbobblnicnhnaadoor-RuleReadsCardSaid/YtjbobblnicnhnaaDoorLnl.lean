/-
  rule.lines' iterator: a text's lines by their numbers.
-/
import Derived.Test.YtjbobblnicnhnaaDoorRows
import Derived.Test.YtjbobblnicnhnaaDoorLbk
import Derived.Test.YtjbobblnicnhnaaDoorKit
import Derived.Shelf.Abstract
namespace Go.Proofs.YtjbobblnicnhnaaDoor
open Go.RowKit Go.Shelf
set_option maxRecDepth 100000
attribute [local go_sem] Oper.semAt_some
set_option linter.unusedVariables false
set_option linter.unusedSimpArgs false

def strLen2 (w : World) (b : Nat) : Nat := match w.cell? ⟨b, 0, none⟩ with | some (.string s) => s.size | _ => 0

set_option maxHeartbeats 1000000 in
theorem lines_iter (l : List UInt8) (hl : l.length ≤ 100000) (bs : Nat) (w0 : World) (hbs : w0.heap[bs]? = some (.cells #[Str l] 9 (0, 0))) (hL : Lb w0) (hne : ¬ libB bs) :
    Iter Tryd.prog 68 #[.pointer (some ⟨bs, 0, none⟩)] (lnL l).length (fun i => #[.int .i64 ((i : Int) + 1), Str ((lnL l).getD i [])]) (fun k => k = bs ∨ libB k) (fun k => k = bs) w0 := by
  intro n lp J Jx W hW hsz hJ hJx hY h0
  have hlen := lnL_len l
  refine callsIn_of_wp Tryd.func68 rfl trivial ?_ rfl
  simp only [Tryd.ntmps68, List.size_toArray, List.length_cons, List.length_nil, Nat.reduceAdd, Nat.reduceSub, Array.replicate_succ, Array.replicate_zero, List.push_toArray, List.append_toArray, List.nil_append, List.cons_append]
  gi_wp2
  gi_loopw [3] (fun nv wr => ∃ (i : Nat) (r : List UInt8), i ≤ (lnL l).length ∧ r.length ≤ 100000 ∧ nv = .int .i64 ((i : Int) + 1) ∧ wr.heap[bs]? = some (.cells #[Str r] 9 (0, 0)) ∧ Lb wr ∧ J i wr ∧ lnL r = (lnL l).drop i) (fun _ wr => strLen2 wr bs)
  case atStart => exact ⟨0, l, by omega, hl, rfl, (hW bs (.inl rfl)).trans hbs, hL.keep (fun k hk => hW k (.inr hk)), h0, rfl⟩
  case round =>
    obtain ⟨i, r, hi, hr, rfl, hb, hm, hJr, hln⟩ := hrel
    have c0 := cell_of hb
    by_cases hr0 : r = []
    · have t0 : (r == []) = true := by rw [hr0]; rfl
      have hiN : i = (lnL l).length := by
        have := congrArg List.length hln
        rw [hr0, lnL_nil] at this
        simp at this; omega
      clear hln hb hr0
      subst hiN
      gi_wp2
      refine bodyPost_end (results_none rfl _ _ _) rfl ?_
      exact ⟨⟨_, rfl⟩, .inl hJr⟩
    · have t0 : (r == []) = false := by simpa using hr0
      have hstep := lnL_step r hr0
      have hC := scut_any r [10] hr wr hm
      have hlt : i < (lnL l).length := by
        have := congrArg List.length hln
        rw [hstep.1] at this
        simp at this; omega
      have hhead : (Lib.cut r [10]).1 = (lnL l).getD i [] := by
        rw [hstep.1] at hln
        have := congrArg (·[0]?) hln
        simp at this
        simp [List.getD, ← this]
      have hY' := fun W3 hJ3 => hY (n - 1) i W3 hlt hJ3
      rw [← hhead] at hY'
      obtain ⟨p, q, f, hcut⟩ : ∃ p q f, Lib.cut r [10] = (p, q, f) := ⟨_, _, _, rfl⟩
      rw [hcut] at hC hstep hY'
      simp only at hC hstep hY'
      have hnx : lnL q = (lnL l).drop (i + 1) := by
        rw [hstep.1] at hln
        have := congrArg List.tail hln
        simpa using this
      have hln' : strLen2 wr bs = r.length := by simp [strLen2, World.cell?, hb, size_list]
      have hql := hstep.2
      have HC := Lib.hid hC; have HY := Lib.hid hY'; have HB := Lib.hid hb; have HNX := Lib.hid hnx; have HM := Lib.hid hm; have HLN := Lib.hid hln'
      clear hC hY hY' hb hm hcut hhead hstep hln hnx hln' hr0
      gi_wp2
      refine ⟨trivial, fun h => by simp [Fence.wide] at h, (callsIn_wide.2 HC.out).mono ?_⟩
      rintro e W3 ⟨he, hx3⟩
      subst he
      have hb3 := (hx3.block _ (Array.getElem?_eq_some_iff.1 HB.out).1).trans HB.out
      have hm3 := HM.out.ext hx3
      have hJ3 := hJ i wr _ hJr (Chg.of_ext _ hx3)
      obtain ⟨fn, tmps, assign, body, hy, hR⟩ := HY.out _ hJ3
      have HB3 := Lib.hid hb3; have HM3 := Lib.hid hm3
      clear hb3 hm3 hx3 HC HY c0
      gi_wp2
      refine ⟨fun h => by simp [Fence.wide] at h, hR.mono ?_⟩
      rintro e W4 (⟨rfl, hJ5, hs5, hk5⟩ | ⟨rfl, hJ5⟩)
      · have hb5 := (hk5 bs (.inl rfl)).trans HB3.out
        have hm5 : Lb W4 := HM3.out.keep fun k hk => hk5 k (.inr hk)
        have c5 := cell_of hb5; have f5 := frozen_of hb5
        have hset := one_setCell (u := Str q) hb5
        have hch := Chg.setCell W4 ⟨bs, 0, none⟩ (Str q)
        have hJ6 := hJ (i + 1) W4 _ hJ5 hch
        have hm6 : Lb (W4.setCell ⟨bs, 0, none⟩ (Str q)) := hm5.keep fun k hk => Below.heap_setCell _ _ _ _ (fun e => hne (by rw [← show k = bs from e]; exact hk))
        have hl6 : strLen2 (W4.setCell ⟨bs, 0, none⟩ (Str q)) bs = q.length := by simp [strLen2, World.cell?, hset, size_list]
        have HS := Lib.hid hset; have HM6 := Lib.hid hm6; have HL6 := Lib.hid hl6; have HJ6 := Lib.hid hJ6
        clear hk5 hb5 hm5 hR hset hch hJ6 hm6 hl6
        gi_wp2
        go_roundw
        case rel => exact ⟨i + 1, q, by omega, by omega, by simp, HS.out, HM6.out, HJ6.out, HNX.out⟩
        case measure => rw [HL6.out, HLN.out]; omega
      · gi_wp2
        refine bodyPost_ret (results_none rfl _ _ _) rfl ?_
        exact ⟨⟨_, rfl⟩, .inr ⟨i, hlt, hJ5⟩⟩
theorem lines_any (l : List UInt8) (w : World) :
    Calls Tryd.prog 49 #[Str l] w fun e w' => e = .returned (.func (.func 68) #[] #[.pointer (some ⟨w.heap.size, 0, none⟩)]) ∧ w' = w.alloc (.cells #[Str l] 9) := by
  go_enter Tryd.func49, Tryd.ntmps49
  go_wp2
  go_ret
  exact ⟨rfl, rfl⟩
end Go.Proofs.YtjbobblnicnhnaaDoor
