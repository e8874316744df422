/-
  name.Runes' iterator and name.Valid at texts of ASCII.
-/
import Derived.Test.YteickmohloglhaaGreatDoorRows
import Derived.Shelf.Abstract
import Derived.Test.YteickmohloglhaaGreatDoorUtf
namespace Go.Proofs.YteickmohloglhaaGreatDoor
open Go.RowKit Go.Shelf
set_option maxRecDepth 100000
attribute [local go_sem] Oper.semAt_some
set_option linter.unusedVariables false
set_option linter.unusedSimpArgs false

def asc (l : List UInt8) : Prop := ∀ c ∈ l, c.toNat < 128
theorem asc_drop {l : List UInt8} (h : asc l) (k : Nat) : asc (l.drop k) := fun c hc => h c (List.mem_of_mem_drop hc)
theorem asc_bt {l : List UInt8} (h : asc l) (i : Nat) (hi : i < l.length) : (bt l i).toNat < 128 := h _ (by rw [bt_get l i hi]; exact List.getElem_mem _)
theorem bt_drop (l : List UInt8) (i : Nat) (hi : i < l.length) : bt (l.drop i) 0 = bt l i := by simp [bt, List.getD, hi]
theorem FormsAt.keep {A C : World} (h : FormsAt A) (hk : C.heap[1]? = A.heap[1]?) : FormsAt C := by
  obtain ⟨fr, hf⟩ := h
  exact ⟨fr, hk.trans hf⟩
theorem FormsAt.ext {A C : World} (h : FormsAt A) (he : Ext A C) : FormsAt C := by
  obtain ⟨fr, hf⟩ := h
  exact ⟨fr, (he.block _ (Array.getElem?_eq_some_iff.1 hf).1).trans hf⟩

set_option maxHeartbeats 1000000 in
theorem runes_iter (l : List UInt8) (hl : l.length ≤ 100000) (ha : asc l) (bs : Nat) (w0 : World) (hbs : w0.heap[bs]? = some (.cells #[Str l] 9 (0, 0))) (hF : FormsAt w0) :
    Iter Tryz.prog 67 #[.pointer (some ⟨bs, 0, none⟩)] l.length (fun i => #[.int .i64 (i : Int), .int .i32 ((bt l i).toNat : Int)]) (fun k => k = bs ∨ k = 1) (fun _ => False) w0 := by
  intro n lp J Jx W hW hsz hJ hJx hY h0
  refine callsIn_of_wp Tryz.func67 rfl trivial ?_ rfl
  simp only [Tryz.ntmps67, List.size_toArray, List.length_cons, List.length_nil, Nat.reduceAdd, Nat.reduceSub, Array.replicate_succ, Array.replicate_zero, List.push_toArray, List.append_toArray, List.nil_append, List.cons_append]
  gi_wp2
  gi_loopw [3] (fun i wr => ∃ k : Nat, k ≤ l.length ∧ i = .int .i64 k ∧ wr.heap[bs]? = some (.cells #[Str l] 9 (0, 0)) ∧ FormsAt wr ∧ J k wr) (fun i _ => l.length - (intOf i).toNat)
  case atStart => exact ⟨0, by omega, rfl, (hW bs (.inl rfl)).trans hbs, hF.keep (hW _ (.inr rfl)), h0⟩
  case round =>
    obtain ⟨k, hk, rfl, hb, hf, hJr⟩ := hrel
    have c0 := cell_of hb
    by_cases hlt : k < l.length
    · have hD := decode_ascii (l.drop k) (by simp; omega) (by simp; omega) (by rw [bt_drop l k hlt]; exact asc_bt ha k hlt) wr hf
      rw [bt_drop l k hlt] at hD
      have hY' := fun W3 hJ3 => hY (n - 1) k W3 hlt hJ3
      have HD := Lib.hid hD; have HY := Lib.hid hY'; have HB := Lib.hid hb; have HF := Lib.hid hf
      clear hD hY hY' hb hf
      have hkl : k ≤ l.length := hk
      gi_wp2
      refine ⟨trivial, fun h => by simp [Fence.wide] at h, (callsIn_wide.2 HD.out).mono ?_⟩
      rintro e W3 ⟨rfl, hx⟩
      have hJ3 := hJ k wr W3 hJr (Chg.of_ext _ hx)
      have hb3 := (hx.block bs (Array.getElem?_eq_some_iff.1 HB.out).1).trans HB.out
      have hf3 := HF.out.ext hx
      obtain ⟨fn, tmps, assign, body, hy, hR⟩ := HY.out W3 hJ3
      have HB3 := Lib.hid hb3; have HF3 := Lib.hid hf3
      clear HD HB HF hx hb3 hf3 c0 HY
      gi_wp2
      refine ⟨fun h => by simp [Fence.wide] at h, hR.mono ?_⟩
      rintro e W4 (⟨rfl, hJ4, hs4, hk4⟩ | ⟨rfl, hJ4⟩)
      · have HB4 := Lib.hid ((hk4 bs (.inl rfl)).trans HB3.out)
        have HF4 := Lib.hid (HF3.out.keep (hk4 _ (.inr rfl)))
        clear hk4 HB3 HF3 hR
        gi_wp2
        go_roundw
        case rel => exact ⟨k + 1, by omega, by go_num, HB4.out, HF4.out, hJ4⟩
        case measure => simp [intOf] <;> omega
      · gi_wp2
        refine bodyPost_ret (results_none rfl _ _ _) rfl ?_
        exact ⟨⟨_, rfl⟩, .inr ⟨k, hlt, hJ4⟩⟩
    · have hkl : k = l.length := by omega
      subst hkl
      gi_wp2
      refine bodyPost_end (results_none rfl _ _ _) rfl ?_
      exact ⟨⟨_, rfl⟩, .inl hJr⟩

theorem runes_any (l : List UInt8) (w : World) :
    Calls Tryz.prog 56 #[Str l] w fun e w' => e = .returned (.func (.func 67) #[] #[.pointer (some ⟨w.heap.size, 0, none⟩)]) ∧ w' = w.alloc (.cells #[Str l] 9) := by
  go_enter Tryz.func56, Tryz.ntmps56
  go_wp2
  go_ret
  exact ⟨rfl, rfl⟩
theorem agg4 : ∀ w, (isAgg 4).run Tryz.prog w = .ok false w := fun w => by simp [isAgg, run_underlying Tryz.underlying4, Result.andThen]

set_option maxHeartbeats 1000000 in
theorem valid_ascii (l : List UInt8) (hl : l.length ≤ 100000) (ha : asc l) (w : World) (hF : FormsAt w) :
    Calls Tryz.prog 39 #[Str l] w fun e w' => e = .returned (.bool true) ∧ Ext w w' := by
  refine (callsIn_wide (n := 5)).1 (callsIn_of_wp_marks Tryz.func39 rfl trivial (wpIn_wide.2 ?_) rfl)
  simp only [Tryz.ntmps39, List.size_toArray, List.length_cons, List.length_nil, Nat.reduceAdd, Nat.reduceSub, Array.replicate_succ, Array.replicate_zero, List.push_toArray, List.append_toArray, List.nil_append, List.cons_append]
  go_wp2_with (go_at_call 56; refine (runes_any _ _).mono ?_; rintro e w' ⟨rfl, rfl⟩)
  obtain ⟨W0, hW0⟩ : ∃ W0, (w.alloc (.cells #[.bool false] 4)).alloc (.cells #[Str l] 9) = W0 := ⟨_, rfl⟩
  have hW0' : W0 = allocs w [.cells #[.bool false] 4, .cells #[Str l] 9] := hW0.symm
  have b0 : W0.heap[w.heap.size]? = some (.cells #[.bool false] 4 (0, 0)) := by rw [hW0']; exact allocs_at w _ 0 _ rfl
  have b1 : W0.heap[w.heap.size + 1]? = some (.cells #[Str l] 9 (0, 0)) := by rw [hW0']; exact allocs_at w _ 1 _ rfl
  have hext0 : Ext w W0 := by rw [hW0']; exact allocs_ext _ _
  have hsz0 : W0.heap.size = w.heap.size + 2 := by rw [hW0']; exact allocs_size _ _
  have hF0 := hF.ext hext0
  have hgl : 1 < w.heap.size := by obtain ⟨fr, hf⟩ := hF; exact (Array.getElem?_eq_some_iff.1 hf).1
  rw [hW0]
  clear hW0 hW0'
  have hit := runes_iter l hl ha (w.heap.size + 1) W0 b1 hF0
  refine wpIn_wide.1 (wpIn_range (n := 5) (P := Tryz.prog) rfl (enters_of Tryz.func67 (by kernel_rfl) rfl) hit (fun k h => by omega) (fun k h => h.elim) (fun _ => rfl)
    (fun i W => W.heap[w.heap.size]? = some (.cells #[.bool false] 4 (0, 0)) ∧ Below w.heap.size w W ∧ w.heap.size + 2 ≤ W.heap.size)
    (fun c i W => False) ?_ (fun _ _ _ _ h _ => h.elim)
    ⟨b0, hext0, by omega⟩ ?_ ?_ (fun _ _ _ _ _ _ h _ => h.elim))
  · rintro i A' C ⟨h0, hbel, hsz⟩ hm
    exact ⟨hm.keeps h0 (fun h => h) (by omega), hm.below hbel (fun k hk => hk.elim) (by omega) (Nat.le_refl _), Nat.le_trans hsz hm.size⟩
  · rintro m' lp i W hi ⟨h0, hbel, hsz⟩ hlp hrec
    gi_wp2
    refine ⟨Kp.refl _ _ _, fun W2 hm2 hrec2 => ?_⟩
    replace h0 := hm2.keeps h0 (fun h => h) (by omega)
    replace hbel := hm2.below hbel (fun k hk => hk.elim) (by omega) (Nat.le_refl _)
    replace hsz := Nat.le_trans hsz hm2.size
    have hne : ((((bt l i).toNat : Int)) == -1) = false := by first | (simp; done) | (simp; omega)
    clear hm2 hrec hrec2
    gi_wp2
    exact ⟨Kp.refl _ _ _, h0, hbel, hsz⟩
  · rintro D W hD ⟨h0, hbel, hsz⟩ hdef
    have hc0 := cell_of h0; have hf0 := frozen_of h0
    go_wp2
    have hs := one_setCell (u := .bool true) h0
    have hch := Chg.setCell W ⟨w.heap.size, 0, none⟩ (.bool true)
    have hdef2 := (hch.block D (Array.getElem?_eq_some_iff.1 hdef).1 (by simp; omega)).trans hdef
    refine marks_ret_at hdef2 (results_cell1 rfl _ _ _ rfl agg4 (cell_of ((World.putObj_heap_other (by omega)).trans hs))) ⟨rfl, below_mark (below_chg hbel hch (fun k hk => by simp at hk; omega) (Nat.le_refl _)) (by omega) hdef2⟩
end Go.Proofs.YteickmohloglhaaGreatDoor
