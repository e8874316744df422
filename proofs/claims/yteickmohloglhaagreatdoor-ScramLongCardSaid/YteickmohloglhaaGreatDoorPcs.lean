/-
  scram.pieces' iterator: a text's pieces between commas.
-/
import Derived.Lib.IndexBytes
import Derived.Test.YteickmohloglhaaGreatDoorRows
import Derived.Test.YteickmohloglhaaGreatDoorShf
import Derived.Test.YteickmohloglhaaGreatDoorKit
import Derived.Shelf.Abstract
namespace Go.Proofs.YteickmohloglhaaGreatDoor
open Go.RowKit Go.Shelf
set_option maxRecDepth 100000
attribute [local go_sem] Oper.semAt_some
set_option linter.unusedVariables false
set_option linter.unusedSimpArgs false

/-- A text's pieces between commas. -/
def spl : List UInt8 → List (List UInt8)
  | [] => [[]]
  | c :: r => if c = 44 then [] :: spl r else (c :: (spl r).headD []) :: (spl r).tail
theorem spl_ne : ∀ l, spl l ≠ []
  | [] => by simp [spl]
  | c :: r => by unfold spl; split <;> simp
theorem spl_len : ∀ l, (spl l).length ≤ l.length + 1
  | [] => by simp [spl]
  | c :: r => by
    have := spl_len r
    unfold spl; split
    · simp; omega
    · simp; omega
theorem spl_part : ∀ (l : List UInt8) (p : List UInt8), p ∈ spl l → p.length ≤ l.length
  | [], p, h => by simp [spl] at h; subst h; simp
  | c :: r, p, h => by
    unfold spl at h; split at h
    · rcases List.mem_cons.1 h with h | h
      · subst h; simp
      · have := spl_part r p h; simp; omega
    · rcases List.mem_cons.1 h with h | h
      · subst h
        have h2 : (spl r).headD [] ∈ spl r := by
          cases hs : spl r with
          | nil => exact absurd hs (spl_ne r)
          | cons a t => simp
        have := spl_part r _ h2; simp at this ⊢; omega
      · have := spl_part r p (List.mem_of_mem_tail h); simp; omega
/-- What strings.Cut gives at a comma. -/
theorem cut_spl : ∀ l, (Lib.cut l [44]).1 = (spl l).headD [] ∧ (Lib.cut l [44]).2.2 = decide (1 < (spl l).length) ∧ (1 < (spl l).length → spl (Lib.cut l [44]).2.1 = (spl l).tail ∧ (Lib.cut l [44]).2.1.length < l.length)
  | [] => by simp [Lib.cut, Lib.index, spl]
  | c :: r => by
    obtain ⟨h1, h2, h3⟩ := cut_spl r
    have hge := Lib.index_ge r [44]
    by_cases hc : c = 44
    · subst hc
      have hix : Lib.index (44 :: r) [44] = 0 := by rw [Lib.index]; simp [List.isPrefixOf]
      have hs : spl (44 :: r) = [] :: spl r := by rw [spl]; simp
      have hl : 0 < (spl r).length := List.length_pos_iff.2 (spl_ne r)
      rw [hs]
      simp only [Lib.cut, hix]
      refine ⟨rfl, by simp; omega, fun _ => ⟨?_, ?_⟩⟩
      · simp
      · simp
    · have hp : [44].isPrefixOf (c :: r) = false := by simp [List.isPrefixOf, Ne.symm hc]
      have hix : Lib.index (c :: r) [44] = if Lib.index r [44] == -1 then -1 else Lib.index r [44] + 1 := by rw [Lib.index, hp]; simp
      have hs : spl (c :: r) = (c :: (spl r).headD []) :: (spl r).tail := by rw [spl, if_neg hc]
      have hlen : (spl (c :: r)).length = (spl r).length := by
        rw [hs]
        cases h : spl r with
        | nil => exact absurd h (spl_ne r)
        | cons a t => simp
      rw [hlen]
      by_cases hm : Lib.index r [44] = -1
      · have e1 : Lib.index (c :: r) [44] = -1 := by rw [hix, hm]; rfl
        have e2 : Lib.cut r [44] = (r, [], false) := by simp [Lib.cut, hm]
        have e3 : Lib.cut (c :: r) [44] = (c :: r, [], false) := by simp [Lib.cut, e1]
        rw [e2] at h1 h2
        rw [e3, hs]
        simp only at h1 h2
        refine ⟨by rw [← h1]; rfl, h2, fun h => ?_⟩
        rw [decide_eq_true h] at h2; cases h2
      · obtain ⟨j, hj⟩ : ∃ j : Nat, Lib.index r [44] = j := ⟨(Lib.index r [44]).toNat, by omega⟩
        have e1 : Lib.index (c :: r) [44] = ((j + 1 : Nat) : Int) := by rw [hix, if_neg (by simp; omega), hj]; omega
        have e2 : Lib.cut r [44] = (r.take j, r.drop (j + 1), true) := by simp [Lib.cut, hj]
        have e3 : Lib.cut (c :: r) [44] = (c :: r.take j, r.drop (j + 1), true) := by
          simp only [Lib.cut, e1]
          rw [if_pos (by omega)]
          simp
        rw [e2] at h1 h2 h3
        rw [e3, hs]
        simp only at h1 h2 h3 ⊢
        refine ⟨by simp [h1], h2, fun h => ⟨(h3 h).1, ?_⟩⟩
        have := (h3 h).2
        simp at this ⊢; omega

theorem cut_none (l : List UInt8) (h : ¬ 1 < (spl l).length) : (Lib.cut l [44]).2.1 = [] := by
  have h2 := (cut_spl l).2.1
  rw [decide_eq_false h] at h2
  unfold Lib.cut at h2 ⊢
  split at h2
  · cases h2
  · rename_i hn; rw [if_neg hn]

def strLen2 (w : World) (b : Nat) : Nat := match w.cell? ⟨b, 0, none⟩ with | some (.string s) => s.size | _ => 0
def boolNat : Value → Nat | .bool true => 1 | _ => 0
def MaxAt (W : World) : Prop := ∃ m, W.cell? ⟨0, 0, none⟩ = some (.int .i64 m)
theorem MaxAt.keep {A C : World} (h : MaxAt A) (hk : C.heap[0]? = A.heap[0]?) : MaxAt C := by
  obtain ⟨m, hm⟩ := h
  exact ⟨m, (World.cell?_of_block (w := A) (w' := C) hk).trans hm⟩
theorem MaxAt.lt {A : World} (h : MaxAt A) : 0 < A.heap.size := by
  obtain ⟨m, hm⟩ := h
  exact World.block_lt_of_cell? A _ hm
theorem MaxAt.ext {A C : World} (h : MaxAt A) (he : Ext A C) : MaxAt C := h.keep (he.block _ h.lt)

set_option maxHeartbeats 1000000 in
theorem pieces_iter (l : List UInt8) (hl : l.length ≤ 100000) (bs : Nat) (w0 : World) (hbs : w0.heap[bs]? = some (.cells #[Str l] 9 (0, 0))) (hM : MaxAt w0) (hne : bs ≠ 0) :
    Iter Tryz.prog 52 #[.pointer (some ⟨bs, 0, none⟩)] (spl l).length (fun i => #[Str ((spl l).getD i [])]) (fun k => k = bs ∨ k = 0) (fun k => k = bs) w0 := by
  intro n lp J Jx W hW hsz hJ hJx hY h0
  refine callsIn_of_wp Tryz.func52 rfl trivial ?_ rfl
  simp only [Tryz.ntmps52, List.size_toArray, List.length_cons, List.length_nil, Nat.reduceAdd, Nat.reduceSub, Array.replicate_succ, Array.replicate_zero, List.push_toArray, List.append_toArray, List.nil_append, List.cons_append]
  gi_wp2
  gi_loopw [3] (fun b wr => ∃ (i : Nat) (r : List UInt8), i ≤ (spl l).length ∧ r.length ≤ 100000 ∧ wr.heap[bs]? = some (.cells #[Str r] 9 (0, 0)) ∧ MaxAt wr ∧ J i wr ∧ ((b = .bool true ∧ spl r = (spl l).drop i) ∨ (b = .bool false ∧ i = (spl l).length))) (fun b wr => strLen2 wr bs + boolNat b)
  case atStart => exact ⟨0, l, by omega, hl, (hW bs (.inl rfl)).trans hbs, hM.keep (hW _ (.inr rfl)), h0, .inl ⟨rfl, rfl⟩⟩
  case round =>
    obtain ⟨i, r, hi, hr, hb, hm, hJr, (⟨rfl, hspl⟩ | ⟨rfl, rfl⟩)⟩ := hrel
    · have c0 := cell_of hb
      obtain ⟨m, hmc⟩ := hm
      have hC := Tryz.strings_Cut ⟨r.toArray⟩ ⟨#[44]⟩ m wr (by rw [size_list]; omega) hmc
      have hcs := cut_spl r
      rw [show (⟨r.toArray⟩ : ByteArray).data.toList = r from rfl, show (⟨#[44]⟩ : ByteArray).data.toList = [44] from rfl] at hC
      have hlt : i < (spl l).length := by
        have h1 : (spl r).length = (spl l).length - i := by rw [hspl]; simp
        have h2 : 0 < (spl r).length := List.length_pos_iff.2 (spl_ne r)
        omega
      have hhead : (spl r).headD [] = (spl l).getD i [] := by
        rw [hspl]; simp [List.getD, List.headD_eq_head?_getD]
      obtain ⟨p, q, f, hcut⟩ : ∃ p q f, Lib.cut r [44] = (p, q, f) := ⟨_, _, _, rfl⟩
      have hq0 := cut_none r
      rw [hcut] at hC hcs hq0
      simp only at hC hcs
      rw [hhead] at hcs
      have hY' := fun W3 hJ3 => hY (n - 1) i W3 hlt hJ3
      rw [← hcs.1] at hY'
      have HC := Lib.hid hC; have HY := Lib.hid hY'; have HB := Lib.hid hb; have HS := Lib.hid hcs; have HQ := Lib.hid hq0; have HSP := Lib.hid hspl
      have HM := Lib.hid hmc
      clear hC hY hY' hb hq0 hcs hspl hmc hcut hhead
      gi_wp2
      refine ⟨trivial, fun h => by simp [Fence.wide] at h, (callsIn_wide.2 HC.out).mono ?_⟩
      rintro e W3 ⟨he, nd, hw⟩
      subst he
      have hch3 : Chg (fun k => k = bs) wr W3 := by rw [hw]; exact Chg.drewN _ _ _
      have hbl := (Array.getElem?_eq_some_iff.1 HB.out).1
      have hb3 : W3.heap[bs]? = some (.cells #[Str r] 9 (0, 0)) := by rw [hw]; exact HB.out
      have hm3 : W3.heap[0]? = wr.heap[0]? := by rw [hw]; rfl
      have c3 := cell_of hb3; have f3 := frozen_of hb3
      have hset := one_setCell (u := Str q) hb3
      have hch4 := hch3.trans (Chg.setCell W3 ⟨bs, 0, none⟩ (Str q))
      have hJ4 := hJ i wr _ hJr hch4
      have hm4 : (W3.setCell ⟨bs, 0, none⟩ (Str q)).heap[0]? = wr.heap[0]? := (Below.heap_setCell _ _ _ _ (Ne.symm hne)).trans hm3
      obtain ⟨fn, tmps, assign, body, hy, hR⟩ := HY.out _ hJ4
      have HW := Lib.hid hw; have HSET := Lib.hid hset; have HM4 := Lib.hid hm4
      have hln : strLen2 wr bs = r.length := by simp [strLen2, World.cell?, HB.out, size_list]
      have HLN := Lib.hid hln
      clear hw hb3 hm3 hset hch3 hch4 hm4 HC HY hln c0
      gi_wp2
      refine ⟨fun h => by simp [Fence.wide] at h, hR.mono ?_⟩
      rintro e W4 (⟨rfl, hJ5, hs5, hk5⟩ | ⟨rfl, hJ5⟩)
      · have hb5 := (hk5 bs (.inl rfl)).trans HSET.out
        have hm5 : MaxAt W4 := MaxAt.keep ⟨m, HM.out⟩ ((hk5 _ (.inr rfl)).trans HM4.out)
        have hl5 : strLen2 W4 bs = q.length := by simp [strLen2, World.cell?, hb5, size_list]
        have HB5 := Lib.hid hb5; have HM5 := Lib.hid hm5; have HL5 := Lib.hid hl5
        clear hk5 hb5 hm5 hl5 hR
        by_cases h1 : 1 < (spl r).length
        · have hf : f = true := by have := HS.out.2.1; rw [this]; simp [h1]
          obtain ⟨h2, h3⟩ := HS.out.2.2 h1
          subst hf
          have hnx : spl q = (spl l).drop (i + 1) := by rw [h2, HSP.out, List.tail_drop]
          have HNX := Lib.hid hnx
          clear h2 hnx HS
          gi_wp2
          go_roundw
          case rel => exact ⟨i + 1, q, by omega, by omega, HB5.out, HM5.out, hJ5, .inl ⟨rfl, HNX.out⟩⟩
          case measure => rw [HL5.out, HLN.out]; simp [boolNat]; omega
        · have hf : f = false := by have := HS.out.2.1; rw [this]; simp [h1]
          have hiN : i + 1 = (spl l).length := by
            have h2 : (spl r).length = (spl l).length - i := by rw [HSP.out]; simp
            omega
          subst hf
          have hq : q = [] := by
            have := HQ.out h1
            exact this
          have HQ2 := Lib.hid hq
          have HIN := Lib.hid hiN
          clear hq hiN HS
          gi_wp2
          go_roundw
          case rel => exact ⟨i + 1, q, by omega, by rw [HQ2.out]; simp, HB5.out, HM5.out, hJ5, .inr ⟨rfl, HIN.out⟩⟩
          case measure => rw [HL5.out, HLN.out, HQ2.out]; simp [boolNat]
      · gi_wp2
        refine bodyPost_ret (results_none rfl _ _ _) rfl ?_
        exact ⟨⟨_, rfl⟩, .inr ⟨i, hlt, hJ5⟩⟩
    · gi_wp2
      refine bodyPost_end (results_none rfl _ _ _) rfl ?_
      exact ⟨⟨_, rfl⟩, .inl hJr⟩
end Go.Proofs.YteickmohloglhaaGreatDoor
