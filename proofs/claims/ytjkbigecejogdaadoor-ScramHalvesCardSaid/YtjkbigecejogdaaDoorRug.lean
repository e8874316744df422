/-
  name.Runes' iterator, name.Valid and scram.value at every text.
-/
import Derived.Test.YtjkbigecejogdaaDoorRows
import Derived.Test.YtjkbigecejogdaaDoorUtg
import Derived.Test.YtjkbigecejogdaaDoorSca
namespace Go.Proofs.YtjkbigecejogdaaDoor
open Go.RowKit Go.Shelf
set_option maxRecDepth 100000
attribute [local go_sem] Oper.semAt_some
set_option linter.unusedVariables false
set_option linter.unusedSimpArgs false
theorem formT_size (l : List UInt8) (n lead least : Nat) (h : n ≤ l.length) (hn : 1 ≤ n) (hl : 0 < l.length) : 1 ≤ (formT l n lead least).2 ∧ (formT l n lead least).2 ≤ l.length := by
  unfold formT
  split
  · exact ⟨hn, h⟩
  · exact ⟨Nat.le_refl _, hl⟩
theorem decT_size (l : List UInt8) (hl : 0 < l.length) : 1 ≤ (decT l).2 ∧ (decT l).2 ≤ l.length := by
  unfold decT
  simp only
  split
  · exact ⟨Nat.le_refl _, hl⟩
  · split
    · rename_i h; exact formT_size l 2 _ _ h.2.2 (by omega) hl
    · split
      · rename_i h; exact formT_size l 3 _ _ h.2.2 (by omega) hl
      · split
        · rename_i h; exact formT_size l 4 _ _ h.2.2 (by omega) hl
        · exact ⟨Nat.le_refl _, hl⟩
/-- Where the k-th sign begins. -/
def posT (l : List UInt8) : Nat → Nat
  | 0 => 0
  | k + 1 => posT l k + (decT (l.drop (posT l k))).2
/-- How many signs there are in at most f steps. -/
def cntT (l : List UInt8) : Nat → Nat → Nat
  | 0, k => k
  | f + 1, k => if posT l k < l.length then cntT l f (k + 1) else k
theorem posT_step (l : List UInt8) (k : Nat) (h : posT l k < l.length) : posT l k < posT l (k + 1) ∧ posT l (k + 1) ≤ l.length := by
  have := decT_size (l.drop (posT l k)) (by rw [List.length_drop]; omega)
  rw [List.length_drop] at this
  rw [show posT l (k + 1) = posT l k + (decT (l.drop (posT l k))).2 from rfl]
  omega
theorem cntT_spec (l : List UInt8) : ∀ (f k : Nat), (∀ j, j < k → posT l j < l.length) → l.length ≤ posT l k + f → posT l k ≤ l.length →
    (∀ j, j < cntT l f k → posT l j < l.length) ∧ posT l (cntT l f k) = l.length
  | 0, k, h1, h2, h3 => by
    simp only [cntT]
    exact ⟨h1, by omega⟩
  | f + 1, k, h1, h2, h3 => by
    simp only [cntT]
    by_cases h : posT l k < l.length
    · rw [if_pos h]
      have hs := posT_step l k h
      exact cntT_spec l f (k + 1) (fun j hj => by
        rcases Nat.lt_succ_iff_lt_or_eq.1 hj with hj | rfl
        · exact h1 j hj
        · exact h) (by omega) hs.2
    · rw [if_neg h]
      exact ⟨h1, by omega⟩
def numT (l : List UInt8) : Nat := cntT l l.length 0
theorem numT_spec (l : List UInt8) : (∀ j, j < numT l → posT l j < l.length) ∧ posT l (numT l) = l.length :=
  cntT_spec l l.length 0 (fun j hj => by omega) (by simp [posT]) (by simp [posT])
theorem posT_le (l : List UInt8) : ∀ k, k ≤ numT l → k ≤ posT l k
  | 0, _ => Nat.zero_le _
  | k + 1, h => by
    have h1 := posT_le l k (by omega)
    have h2 := posT_step l k ((numT_spec l).1 k (by omega))
    omega
theorem numT_le (l : List UInt8) : numT l ≤ l.length := by
  have := posT_le l (numT l) (Nat.le_refl _)
  rw [(numT_spec l).2] at this
  exact this
/-- The k-th sign. -/
def runT (l : List UInt8) (k : Nat) : Int := (decT (l.drop (posT l k))).1
def validT (l : List UInt8) : Bool := (List.range (numT l)).all fun k => runT l k != -1
set_option maxHeartbeats 1000000 in
theorem runesT_iter (l : List UInt8) (hl : l.length ≤ 100000) (bs : Nat) (w0 : World) (hbs : w0.heap[bs]? = some (.cells #[Str l] 9 (0, 0))) (hF : FormsAt w0) :
    Iter Tryd.prog 77 #[.pointer (some ⟨bs, 0, none⟩)] (numT l) (fun i => #[.int .i64 (posT l i : Int), .int .i32 (runT l i)]) (fun k => k = bs ∨ k = 1) (fun _ => False) w0 := by
  intro n lp J Jx W hW hsz hJ hJx hY h0
  refine callsIn_of_wp Tryd.func77 rfl trivial ?_ rfl
  simp only [Tryd.ntmps77, List.size_toArray, List.length_cons, List.length_nil, Nat.reduceAdd, Nat.reduceSub, Array.replicate_succ, Array.replicate_zero, List.push_toArray, List.append_toArray, List.nil_append, List.cons_append]
  gi_wp2
  gi_loopw [3] (fun i wr => ∃ k : Nat, k ≤ numT l ∧ i = .int .i64 (posT l k : Int) ∧ wr.heap[bs]? = some (.cells #[Str l] 9 (0, 0)) ∧ FormsAt wr ∧ J k wr) (fun i _ => l.length - (intOf i).toNat)
  case atStart => exact ⟨0, by omega, rfl, (hW bs (.inl rfl)).trans hbs, hF.keep (hW _ (.inr rfl)), h0⟩
  case round =>
    obtain ⟨k, hk, rfl, hb, hf, hJr⟩ := hrel
    have c0 := cell_of hb
    by_cases hlt : k < numT l
    · have hpl := (numT_spec l).1 k hlt
      have hst := posT_step l k hpl
      have hD := ndecode_any (l.drop (posT l k)) (by simp; omega) (by simp; omega) wr hf
      have hps : posT l (k + 1) = posT l k + (decT (l.drop (posT l k))).2 := rfl
      have hrn : runT l k = (decT (l.drop (posT l k))).1 := rfl
      have hY' := fun W3 hJ3 => hY (n - 1) k W3 hlt hJ3
      rw [hrn] at hY'
      have HPS := Lib.hid hps
      have HD := Lib.hid hD; have HY := Lib.hid hY'; have HB := Lib.hid hb; have HF := Lib.hid hf
      clear hD hY hY' hb hf hrn hps
      have hpl2 : (posT l k : Int) < (l.length : Int) := by omega
      rw [HPS.out] at hst
      generalize posT l k = pk at *
      generalize (decT (l.drop pk)).1 = rk at *
      generalize (decT (l.drop pk)).2 = nk at *
      gi_wp2
      refine ⟨trivial, fun h => by simp [Fence.wide] at h, (callsIn_wide.2 HD.out).mono ?_⟩
      rintro e W3 ⟨rfl, hx⟩
      have hJ3 := hJ k wr W3 hJr (Chg.of_ext _ hx)
      have hb3 := (hx.block bs (Array.getElem?_eq_some_iff.1 HB.out).1).trans HB.out
      have hf3 := HF.out.ext hx
      obtain ⟨fn, tmps, assign, body, hy, hR⟩ := HY.out W3 hJ3
      have HB3 := Lib.hid hb3; have HF3 := Lib.hid hf3
      clear HD HB HF hx hb3 hf3 c0 HY
      gi_wp2
      refine ⟨fun h => by simp [Fence.wide] at h, hR.mono ?_⟩
      rintro e W4 (⟨rfl, hJ4, hs4, hk4⟩ | ⟨rfl, hJ4⟩)
      · have HB4 := Lib.hid ((hk4 bs (.inl rfl)).trans HB3.out)
        have HF4 := Lib.hid (HF3.out.keep (hk4 _ (.inr rfl)))
        clear hk4 HB3 HF3 hR
        gi_wp2
        go_roundw
        case rel => exact ⟨k + 1, by omega, by rw [HPS.out]; go_num, HB4.out, HF4.out, hJ4⟩
        case measure => simp [intOf] <;> omega
      · gi_wp2
        refine bodyPost_ret (results_none rfl _ _ _) rfl ?_
        exact ⟨⟨_, rfl⟩, .inr ⟨k, hlt, hJ4⟩⟩
    · have hkl : k = numT l := by omega
      subst hkl
      have hpe := (numT_spec l).2
      rw [hpe]
      gi_wp2
      refine bodyPost_end (results_none rfl _ _ _) rfl ?_
      exact ⟨⟨_, rfl⟩, .inl hJr⟩
set_option maxHeartbeats 1000000 in
theorem validT_any (l : List UInt8) (hl : l.length ≤ 100000) (w : World) (hF : FormsAt w) :
    Calls Tryd.prog 56 #[Str l] w fun e w' => e = .returned (.bool (validT l)) ∧ Ext w w' := by
  refine (callsIn_wide (n := 5)).1 (callsIn_of_wp_marks Tryd.func56 rfl trivial (wpIn_wide.2 ?_) rfl)
  simp only [Tryd.ntmps56, List.size_toArray, List.length_cons, List.length_nil, Nat.reduceAdd, Nat.reduceSub, Array.replicate_succ, Array.replicate_zero, List.push_toArray, List.append_toArray, List.nil_append, List.cons_append]
  go_wp2_with (go_at_call 66; refine (runes_any _ _).mono ?_; rintro e w' ⟨rfl, rfl⟩)
  obtain ⟨W0, hW0⟩ : ∃ W0, (w.alloc (.cells #[.bool false] 4)).alloc (.cells #[Str l] 9) = W0 := ⟨_, rfl⟩
  have hW0' : W0 = allocs w [.cells #[.bool false] 4, .cells #[Str l] 9] := hW0.symm
  have b0 : W0.heap[w.heap.size]? = some (.cells #[.bool false] 4 (0, 0)) := by rw [hW0']; exact allocs_at w _ 0 _ rfl
  have b1 : W0.heap[w.heap.size + 1]? = some (.cells #[Str l] 9 (0, 0)) := by rw [hW0']; exact allocs_at w _ 1 _ rfl
  have hext0 : Ext w W0 := by rw [hW0']; exact allocs_ext _ _
  have hsz0 : W0.heap.size = w.heap.size + 2 := by rw [hW0']; exact allocs_size _ _
  have hF0 := hF.ext hext0
  have hgl : 1 < w.heap.size := by obtain ⟨fr, hf⟩ := hF; exact (Array.getElem?_eq_some_iff.1 hf).1
  rw [hW0]
  clear hW0 hW0'
  have hit := runesT_iter l hl (w.heap.size + 1) W0 b1 hF0
  refine wpIn_wide.1 (wpIn_range (n := 5) (P := Tryd.prog) rfl (enters_of Tryd.func77 (by kernel_rfl) rfl) hit (fun k h => by omega) (fun k h => h.elim) (fun _ => rfl)
    (fun i W => (∀ k, k < i → runT l k ≠ -1) ∧ W.heap[w.heap.size]? = some (.cells #[.bool false] 4 (0, 0)) ∧ Below w.heap.size w W ∧ w.heap.size + 2 ≤ W.heap.size)
    (fun c i W => c = .ret ∧ runT l i = -1 ∧ W.heap[w.heap.size]? = some (.cells #[.bool false] 4 (0, 0)) ∧ Below w.heap.size w W ∧ w.heap.size + 2 ≤ W.heap.size) ?_ ?_
    ⟨fun k hk => by omega, b0, hext0, by omega⟩ ?_ ?_ ?_)
  · rintro i A' C ⟨hr, h0, hbel, hsz⟩ hm
    exact ⟨hr, hm.keeps h0 (fun h => h) (by omega), hm.below hbel (fun k hk => hk.elim) (by omega) (Nat.le_refl _), Nat.le_trans hsz hm.size⟩
  · rintro c i A' C ⟨hc, hr, h0, hbel, hsz⟩ hm
    exact ⟨hc, hr, hm.keeps h0 (fun h => h) (by omega), hm.below hbel (fun k hk => hk.elim) (by omega) (Nat.le_refl _), Nat.le_trans hsz hm.size⟩
  · rintro m' lp i W hi ⟨hr, h0, hbel, hsz⟩ hlp hrec
    gi_wp2
    refine ⟨Kp.refl _ _ _, fun W2 hm2 hrec2 => ?_⟩
    replace h0 := hm2.keeps h0 (fun h => h) (by omega)
    replace hbel := hm2.below hbel (fun k hk => hk.elim) (by omega) (Nat.le_refl _)
    replace hsz := Nat.le_trans hsz hm2.size
    have HR := Lib.hid hr
    obtain ⟨r, hrr⟩ : ∃ r, runT l i = r := ⟨_, rfl⟩
    have HRR := Lib.hid hrr
    rw [hrr]
    clear hm2 hrec hrec2 hr hrr
    by_cases hb : r = -1
    · subst hb
      have hc0 := cell_of h0; have hf0 := frozen_of h0
      have H0 := Lib.hid h0
      clear h0
      gi_wp2
      have hch := Chg.setCell W2 ⟨w.heap.size, 0, none⟩ (.bool false)
      refine ⟨Kp.of_chg hch (fun k hk => ?_) (fun k hk hB _ => ?_), rfl, HRR.out, one_setCell H0.out, below_chg hbel hch (fun k hk => by have hk' : k = w.heap.size := hk; omega) (Nat.le_refl _), Nat.le_trans hsz hch.size⟩
      · rcases hk with rfl | rfl
        · exact ⟨by omega, by show ¬ w.heap.size + 1 = w.heap.size; omega⟩
        · exact ⟨by omega, by show ¬ 1 = w.heap.size; omega⟩
      · have hk' : k = w.heap.size := hk
        omega
    · have hne : (r == -1) = false := by simp [hb]
      gi_wp2
      refine ⟨Kp.refl _ _ _, fun k hk => ?_, h0, hbel, hsz⟩
      rcases Nat.lt_succ_iff_lt_or_eq.1 hk with hk | rfl
      · exact HR.out k hk
      · rw [HRR.out]; exact hb
  · rintro D W hD ⟨hr, h0, hbel, hsz⟩ hdef
    have hc0 := cell_of h0; have hf0 := frozen_of h0
    have hv : validT l = true := by
      unfold validT
      rw [List.all_eq_true]
      intro k hk
      have := hr k (List.mem_range.1 hk)
      simp [this]
    have HV := Lib.hid hv
    clear hr hv
    go_wp2
    have hs := one_setCell (u := .bool true) h0
    have hch := Chg.setCell W ⟨w.heap.size, 0, none⟩ (.bool true)
    have hdef2 := (hch.block D (Array.getElem?_eq_some_iff.1 hdef).1 (by simp; omega)).trans hdef
    refine marks_ret_at hdef2 (results_cell1 rfl _ _ _ rfl agg4 (cell_of ((World.putObj_heap_other (by omega)).trans hs))) ⟨by rw [HV.out], below_mark (below_chg hbel hch (fun k hk => by simp at hk; omega) (Nat.le_refl _)) (by omega) hdef2⟩
  · rintro D c i W hD hi ⟨rfl, hr, h0, hbel, hsz⟩ hdef
    have hv : validT l = false := by
      unfold validT
      rw [List.all_eq_false]
      exact ⟨i, List.mem_range.2 hi, by simp [hr]⟩
    have HV := Lib.hid hv
    clear hr hv
    gi_wp2
    refine marks_ret_at hdef (results_cell1 rfl _ _ _ rfl agg4 (cell_of ((World.putObj_heap_other (by omega)).trans h0))) ⟨by rw [HV.out], below_mark hbel (by omega) hdef⟩
def okC (c : UInt8) : Bool := (c.toNat != 0) && (c.toNat != 44)
/-- Is it a value? -/
def valB (l : List UInt8) : Bool := decide (l ≠ []) && (validT l && l.all okC)
set_option maxHeartbeats 1000000 in
theorem svalue_any (l : List UInt8) (hl : l.length ≤ 100000) (w : World) (hF : FormsAt w) :
    Calls Tryd.prog 32 #[Str l] w fun e w' => e = .returned (.bool (valB l)) ∧ Ext w w' := by
  have hixl : ∀ i, i < l.length → ∀ W, (Instr.index 9 (Str l) (.int .i64 (i : Int))).run Tryd.prog W = .ok (Byt (bt l i)) W := fun i hi W => run_index_str Tryd.underlying9 l i _ rfl hi W
  have HI := Lib.hid hixl; clear hixl
  have HV := Lib.hid (validT_any l hl w hF)
  by_cases h0 : l = []
  · subst h0
    have hv : valB [] = false := rfl
    rw [hv]
    go_enter Tryd.func32, Tryd.ntmps32
    go_wp2
    go_ret
    exact ⟨rfl, ext_refl _⟩
  have hne : (l == []) = false := by simpa using h0
  obtain ⟨vv, hvv⟩ : ∃ vv, valB l = vv := ⟨_, rfl⟩
  have HVV := Lib.hid (show (validT l && l.all okC) = vv by rw [← hvv]; simp [valB, h0])
  rw [hvv]
  clear hvv
  obtain ⟨va, hva⟩ : ∃ va, validT l = va := ⟨_, rfl⟩
  rw [hva] at HV HVV
  clear hva
  go_enter Tryd.func32, Tryd.ntmps32
  go_wp2_with fail
  refine HV.out.mono ?_
  rintro e W1 ⟨rfl, hx⟩
  cases va with
  | false =>
    have hd : vv = false := by rw [← HVV.out]; rfl
    subst hd
    go_wp2
    go_ret
    exact ⟨rfl, hx⟩
  | true =>
    have HA := Lib.hid (show l.all okC = vv by rw [← HVV.out]; rfl)
    go_wp2_with fail
    go_loop [13] (fun i => ∃ k : Nat, k ≤ l.length ∧ i = .int .i64 k ∧ Hid (∀ j, j < k → okC (bt l j) = true)) (fun i => l.length - (intOf i).toNat)
    case atStart => exact ⟨0, by omega, rfl, Lib.hid fun j hj => by omega⟩
    case round =>
      obtain ⟨k, hk, rfl, HK⟩ := hrel
      by_cases h3 : k < l.length
      · have hix := HI.out k h3
        have hmem : bt l k ∈ l := by rw [bt_get l k h3]; exact List.getElem_mem _
        have HF2 := Lib.hid (fun h : okC (bt l k) = false => show vv = false by
          rw [← HA.out, List.all_eq_false]; exact ⟨_, hmem, by simp [h]⟩)
        have HKN := Lib.hid (fun h : okC (bt l k) = true => fun j (hj : j < k + 1) => show okC (bt l j) = true by
          rcases Nat.lt_succ_iff_lt_or_eq.1 hj with hj | rfl
          · exact HK.out j hj
          · exact h)
        clear hmem
        generalize bt l k = c at *
        by_cases hz0 : c.toNat = 0
        · have hd := HF2.out (by simp [okC, hz0])
          subst hd
          have hz : ((c.toNat : Int) == 0) = true := by simp; omega
          have hz1 : (c.toNat : Int) = 0 := by omega
          go_wp2
          go_ret
          exact ⟨rfl, hx⟩
        · have hz : ((c.toNat : Int) == 0) = false := by simp; omega
          by_cases h44 : c.toNat = 44
          · have hd := HF2.out (by simp [okC, h44])
            subst hd
            have h4 : ((c.toNat : Int) == 44) = true := by simp; omega
            have h41 : (c.toNat : Int) = 44 := by omega
            go_wp2
            go_ret
            exact ⟨rfl, hx⟩
          · have h4 : ((c.toNat : Int) == 44) = false := by simp; omega
            have hk2 := Lib.hid (HKN.out (by simp [okC, hz0, h44]))
            go_wp2
            go_round
            case rel => exact ⟨k + 1, by omega, by go_num, hk2⟩
            case measure => simp [intOf] <;> omega
      · have hkl : k = l.length := by omega
        subst hkl
        have hd : vv = true := by
          rw [← HA.out, List.all_eq_true]
          intro c hc
          obtain ⟨j, hj, rfl⟩ := List.getElem_of_mem hc
          have := HK.out j hj
          rw [bt_get l j hj] at this
          exact this
        subst hd
        go_wp2
        go_ret
        exact ⟨rfl, hx⟩
end Go.Proofs.YtjkbigecejogdaaDoor
