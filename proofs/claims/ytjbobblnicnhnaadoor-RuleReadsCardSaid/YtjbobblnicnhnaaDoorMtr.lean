/-
  ref16.Match: the document's table.
-/
import Derived.Laws.MakeOwn
import Derived.RegionTactic
import Derived.BigQuiet
import Derived.Test.YtjbobblnicnhnaaDoorRows
import Derived.Test.YtjbobblnicnhnaaDoorLow
import Derived.Test.YtjbobblnicnhnaaDoorGlb
namespace Go.Proofs.YtjbobblnicnhnaaDoor
open Go.RowKit
set_option maxRecDepth 100000
set_option linter.unusedVariables false
set_option linter.unusedSimpArgs false

theorem run_make_rowN {P : Program} (t e : TypeId) (i : TypeInfo) (z : Value) (ht : P.underlying t = some (.slice e)) (hi : P.info? e = some i) (hz : i.zero = some z)
    (kl kc : IntKind) (n c : Nat) (hnc : n ≤ c) (hbytes : i.bytes * c ≤ 281474976710656) (h63 : c ≤ 9223372036854775807) (w : World) :
    (Instr.makeSlice t (.int kl (n : Int)) (.int kc (c : Int))).run P w = .ok (.slice (some ⟨w.heap.size, 0, none⟩) n c) (w.alloc (.cells (madeCells z.cells (c * i.size)) e)) := by
  have hb : (i.bytes : Int) * (c : Int) ≤ 281474976710656 := by
    have h : ((i.bytes * c : Nat) : Int) ≤ 281474976710656 := by omega
    rwa [Int.natCast_mul] at h
  have hr := run_make (P := P) w t e i z ht hi hz kl kc n c (by omega) (by omega) hb (by omega)
  simp only [Int.toNat_natCast] at hr
  exact hr
theorem infoBool : (Tryd.prog.info? 4).map (fun i => (i.zero, i.size, i.bytes)) = some (some (.bool false), 1, 1) := by kernel_rfl
/-- A row of bools that may be written. -/
def RowF (W : World) (g n : Nat) (T : Nat → Bool) : Prop := ∀ j, j < n → W.cell? ⟨g, j, none⟩ = some (.bool (T j)) ∧ W.frozen? ⟨g, j, none⟩ = false
theorem RowF.ext {W C : World} {g n : Nat} {T : Nat → Bool} (h : RowF W g n T) (he : Ext W C) : RowF C g n T := fun j hj =>
  ⟨ext_cell he (h j hj).1, (he.frozen (p := ⟨g, j, none⟩) (World.block_lt_of_cell? W _ (h j hj).1)).trans (h j hj).2⟩
theorem RowF.other {W : World} {g g' n k : Nat} {T : Nat → Bool} {u : Value} (h : RowF W g n T) (hg : g ≠ g') : RowF (W.setCell ⟨g', k, none⟩ u) g n T := fun j hj =>
  ⟨by rw [World.cell?_setCell_other _ _ _ _ (fun e => by injection e with e1 _; exact hg e1.symm)]; exact (h j hj).1, by rw [World.frozen?_setCell]; exact (h j hj).2⟩
theorem RowF.set {W : World} {g n k : Nat} {T T' : Nat → Bool} (h : RowF W g n T) (hk : k < n) (hT : ∀ j, j ≠ k → T' j = T j) : RowF (W.setCell ⟨g, k, none⟩ (.bool (T' k))) g n T' := fun j hj => by
  refine ⟨?_, by rw [World.frozen?_setCell]; exact (h j hj).2⟩
  by_cases e : j = k
  · subst e; exact World.cell?_setCell_same _ _ _ (h j hj).1
  · rw [World.cell?_setCell_other _ _ _ _ (fun h2 => by injection h2 with _ h3; omega), hT j e]; exact (h j hj).1
theorem rowF_made (W : World) (n : Nat) (e : TypeId) : RowF (W.alloc (.cells (madeCells (Value.bool false).cells (n * 1)) e)) W.heap.size n fun _ => false := fun j hj => by
  have hb : (W.alloc (.cells (madeCells (Value.bool false).cells (n * 1)) e)).heap[W.heap.size]? = some (.cells (madeCells (Value.bool false).cells (n * 1)) e (0, 0)) := heap_alloc_new W _
  refine ⟨?_, by simp only [World.frozen?, hb]; simp⟩
  rw [cell_of_row _ _ j _ _ _ hb]
  simp [madeCells, Value.cells, Nat.mod_one, hj]

set_option maxHeartbeats 2000000 in
theorem matchR_any (p h : List UInt8) (hp : p.length ≤ 10000) (hh : h.length ≤ 10000) (w : World) :
    Calls Tryd.prog 12 #[Str p, Str h] w fun e w' => e = .returned (.bool (fit p (lowL h))) ∧ Ext w w' := by
  have HS := Lib.hid (fun W => low_any h (by omega) W)
  have hll : (lowL h).length ≤ 10000 := by rw [lowL_len]; exact hh
  generalize lowL h = t at *
  have hixp : ∀ i, i < p.length → ∀ W, (Instr.index 9 (Str p) (.int .i64 (i : Int))).run Tryd.prog W = .ok (Byt (bt p i)) W := fun i hi W => run_index_str Tryd.underlying9 p i _ rfl hi W
  have hixt : ∀ i, i < t.length → ∀ W, (Instr.index 9 (Str t) (.int .i64 (i : Int))).run Tryd.prog W = .ok (Byt (bt t i)) W := fun i hi W => run_index_str Tryd.underlying9 t i _ rfl hi W
  have HP := Lib.hid hixp; have HT := Lib.hid hixt; clear hixp hixt
  obtain ⟨i0, hi, hz0, hz1, hz2⟩ := info_parts infoBool
  have hmk : ∀ W, (Instr.makeSlice 71 (.int .i64 ((t.length : Int) + 1)) (.int .i64 ((t.length : Int) + 1))).run Tryd.prog W = .ok (.slice (some ⟨W.heap.size, 0, none⟩) (t.length + 1) (t.length + 1)) (W.alloc (.cells (madeCells (Value.bool false).cells ((t.length + 1) * 1)) 4)) := fun W => by
    have := run_make_rowN (P := Tryd.prog) 71 4 i0 _ Tryd.underlying71 hi hz0 .i64 .i64 (t.length + 1) (t.length + 1) (Nat.le_refl _) (by rw [hz2]; omega) (by omega) W
    rw [hz1] at this
    exact this
  clear hi hz0 hz1 hz2
  have hfull := Lib.hid (tab_full p t)
  go_enter Tryd.func12, Tryd.ntmps12
  go_wp2_with fail
  refine (HS.out _).mono ?_
  rintro e W0 ⟨he, m0, hw⟩
  subst he
  have HX0 := Lib.hid (show Ext w W0 by rw [hw]; exact ext_drewN (ext_refl w) m0)
  clear hw
  obtain ⟨W1, hW1⟩ : ∃ W1, W0.alloc (.cells (madeCells (Value.bool false).cells ((t.length + 1) * 1)) 4) = W1 := ⟨_, rfl⟩
  have hr1 := rowF_made W0 (t.length + 1) 4
  have hm0 := hmk W0
  rw [hW1] at hr1 hm0
  have hx1 : Ext W0 W1 := by rw [← hW1]; exact Below.alloc (Below.refl _ _) (Nat.le_refl _) _
  have hs1 : W1.heap.size = W0.heap.size + 1 := by rw [← hW1]; simp
  have HMK := Lib.hid hmk
  clear hW1 hmk
  have hc0 := hr1 0 (by omega)
  obtain ⟨hc0, hf0⟩ := hc0
  have hix : ∀ g, ∀ (W : World) (k : Nat), k < t.length + 1 → (Instr.indexAt 71 (.slice (some ⟨g, 0, none⟩) (t.length + 1) (t.length + 1)) (.int .i64 (k : Int))).run Tryd.prog W = .ok (.pointer (some ⟨g, k, none⟩)) W := fun g W k hk => by
    have := run_index_adr (P := Tryd.prog) Tryd.underlying71 Tryd.sizeOf4 (ao := some ⟨g, 0, none⟩) (n := t.length + 1) (cap := t.length + 1) (by simp) (Nat.le_refl _) W k hk
    simpa only [adr_some, Nat.zero_add] using this
  have HIX := Lib.hid hix; have HR1 := Lib.hid hr1; have HX1 := Lib.hid hx1
  have hix0 : ∀ W, (Instr.indexAt 71 (.slice (some ⟨W0.heap.size, 0, none⟩) (t.length + 1) (t.length + 1)) (.int .i64 0)).run Tryd.prog W = .ok (.pointer (some ⟨W0.heap.size, 0, none⟩)) W := fun W => hix _ W 0 (by omega)
  clear hix hr1 hx1
  generalize hn : t.length + 1 = n at *
  go_wp2
  have hrs : RowF (W1.setCell ⟨W0.heap.size, 0, none⟩ (.bool true)) W0.heap.size n (tabB p t 0) := by
    have h1 := HR1.out.set (k := 0) (T' := fun j => decide (j = 0)) (by omega) (fun j hj => by simp [hj])
    intro j hj
    have := h1 j hj
    rw [tab_zero p t j (by omega)]
    exact this
  have hxs : Ext W0 (W1.setCell ⟨W0.heap.size, 0, none⟩ (.bool true)) := HX1.out.setCell (Nat.le_refl _) _
  have hss : (W1.setCell ⟨W0.heap.size, 0, none⟩ (.bool true)).heap.size = W0.heap.size + 1 := by simp [hs1]
  have HRS := Lib.hid hrs; have HXS := Lib.hid hxs
  generalize W1.setCell ⟨W0.heap.size, 0, none⟩ (.bool true) = W2 at *
  clear hrs hxs hc0 hf0 hix0 hm0 HR1 HX1 hs1
  go_loopw [5, 6] (fun av i wr => ∃ k g : Nat, k ≤ p.length ∧ i = .int .i64 k ∧ av = .slice (some ⟨g, 0, none⟩) n n ∧ W0.heap.size ≤ g ∧ g < wr.heap.size ∧ RowF wr g n (tabB p t k) ∧ Ext W0 wr) (fun _ i _ => p.length - (intOf i).toNat)
  case atStart => exact ⟨0, _, by omega, rfl, rfl, Nat.le_refl _, by omega, HRS.out, HXS.out⟩
  case round =>
    obtain ⟨k, g, hk, rfl, rfl, hg, hgs, hrow, hext⟩ := hrel
    by_cases h3 : k < p.length
    · have hmk := HMK.out wr
      have hr2 := rowF_made wr n 4
      obtain ⟨W3, hW3⟩ : ∃ W3, wr.alloc (.cells (madeCells (Value.bool false).cells (n * 1)) 4) = W3 := ⟨_, rfl⟩
      rw [hW3] at hmk hr2
      have hx3 : Ext wr W3 := by rw [← hW3]; exact Below.alloc (Below.refl _ _) (Nat.le_refl _) _
      have hs3 : W3.heap.size = wr.heap.size + 1 := by rw [← hW3]; simp
      have HR2 := Lib.hid hr2; have HROW := Lib.hid (hrow.ext hx3); have HX3 := Lib.hid (ext_trans hext hx3)
      have HIP := Lib.hid (HP.out k h3)
      clear hW3 hr2 hx3 hrow hext
      go_wp2
      have HX0S := HX3.out.size
      obtain ⟨wo, hwo⟩ : ∃ wo : World, wo = wr := ⟨_, rfl⟩
      rw [← hwo] at hgs hs3 HR2 ⊢
      clear hwo hmk
      go_loopw [29] (fun j wr => ∃ q : Nat, q ≤ n ∧ j = .int .i64 q ∧ RowF wr g n (tabB p t k) ∧ RowF wr wo.heap.size n (fun x => decide (x < q) && tabB p t (k + 1) x) ∧ wo.heap.size < wr.heap.size ∧ Ext W0 wr) (fun j _ => n - (intOf j).toNat)
      case atStart => exact ⟨0, by omega, rfl, HROW.out, fun j hj => by simpa using HR2.out j hj, by omega, HX3.out⟩
      case round =>
        obtain ⟨q, hq, rfl, hro, hrn, hsz, hext⟩ := hrel
        by_cases h4 : q < n
        · have hc := HIP.out
          obtain ⟨hcg, hfg⟩ := hro q h4
          obtain ⟨hcn, hfn⟩ := hrn q h4
          replace hcn : wr.cell? ⟨wo.heap.size, q, none⟩ = some (.bool false) := by rw [hcn]; simp
          have hixg := HIX.out g; have hixn := HIX.out wo.heap.size
          have HRO := Lib.hid hro; have HRN := Lib.hid hrn; have HEX := Lib.hid hext
          have fin : ∀ b : Bool, b = tabB p t (k + 1) q → RowF (wr.setCell ⟨wo.heap.size, q, none⟩ (.bool b)) wo.heap.size n (fun x => decide (x < q + 1) && tabB p t (k + 1) x) ∧ RowF (wr.setCell ⟨wo.heap.size, q, none⟩ (.bool b)) g n (tabB p t k) ∧ Ext W0 (wr.setCell ⟨wo.heap.size, q, none⟩ (.bool b)) := fun b hb => by
            refine ⟨?_, HRO.out.other (by omega), HEX.out.setCell (by have := HX0S; simp; omega) _⟩
            have h1 := HRN.out.set (k := q) (T' := fun x => decide (x < q + 1) && tabB p t (k + 1) x) h4 (fun j hj => by
              have : decide (j < q + 1) = decide (j < q) := by rw [decide_eq_decide]; omega
              rw [this])
            have e1 : (decide (q < q + 1) && tabB p t (k + 1) q) = b := by rw [hb]; simp
            rw [e1] at h1
            exact h1
          have hts := fun hc => tab_star p t k h3 hc q (by omega)
          have htb := fun hc m (hm : q = m + 1) => tab_byte p t k h3 hc m (by omega)
          have ht0 := fun hc => tab_byte0 p t k h3 hc
          have hpk : p[k] = bt p k := (bt_get p k h3).symm
          rw [hpk] at hts htb ht0
          have FIN := Lib.hid fin; have HTS := Lib.hid hts; have HTB := Lib.hid htb; have HT0 := Lib.hid ht0
          clear fin hts htb ht0 hpk hro hrn hext
          by_cases hstar : bt p k = 42
          · have hts := HTS.out hstar
            have u1 : (((bt p k).toNat : Int) == 42) = true := by rw [hstar]; rfl
            have HTT := Lib.hid hts; clear hts hstar HTB HT0 HTS
            generalize bt p k = c at *
            obtain ⟨b1, hb1⟩ : ∃ b1, tabB p t k q = b1 := ⟨_, rfl⟩
            rw [hb1] at hcg HTT
            clear hb1
            cases b1 with
            | true =>
              obtain ⟨f1, f2, f3⟩ := FIN.out true (by rw [HTT.out]; rfl)
              have F1 := Lib.hid f1; have F2 := Lib.hid f2; have F3 := Lib.hid f3
              clear f1 f2 f3 FIN HTT
              go_wp2
              go_roundw
              case rel => exact ⟨q + 1, by omega, by go_num, F2.out, F1.out, by simpa using hsz, F3.out⟩
              case measure => simp [intOf]; omega
            | false =>
              cases q with
              | zero =>
                obtain ⟨f1, f2, f3⟩ := FIN.out false (by rw [HTT.out]; rfl)
                have F1 := Lib.hid f1; have F2 := Lib.hid f2; have F3 := Lib.hid f3
                clear f1 f2 f3 FIN HTT
                go_wp2
                go_roundw
                case rel => exact ⟨0 + 1, by omega, by go_num, F2.out, F1.out, by simpa using hsz, F3.out⟩
                case measure => simp [intOf]; omega
              | succ m =>
                obtain ⟨hcm, hfm⟩ := HRN.out m (by omega)
                replace hcm : wr.cell? ⟨wo.heap.size, m, none⟩ = some (.bool (tabB p t (k + 1) m)) := by rw [hcm]; simp
                have e1 : tabB p t (k + 1) (m + 1) = tabB p t (k + 1) m := by rw [HTT.out]; simp
                obtain ⟨f1, f2, f3⟩ := FIN.out _ e1.symm
                have F1 := Lib.hid f1; have F2 := Lib.hid f2; have F3 := Lib.hid f3
                clear f1 f2 f3 FIN HTT e1
                generalize tabB p t (k + 1) m = b2 at *
                go_wp2
                go_roundw
                case rel => exact ⟨m + 1 + 1, by omega, by go_num, F2.out, F1.out, by simpa using hsz, F3.out⟩
                case measure => simp [intOf]; omega
          · have u1 : (((bt p k).toNat : Int) == 42) = false := by
              have : (bt p k).toNat ≠ 42 := fun h => hstar (UInt8.toNat_inj.1 h)
              simp; omega
            cases q with
            | zero =>
              have e1 := HT0.out hstar
              have F : Hid (RowF wr wo.heap.size n (fun x => decide (x < 0 + 1) && tabB p t (k + 1) x)) := Lib.hid fun j hj => by
                have := HRN.out j hj
                refine ⟨?_, this.2⟩
                have h1 := this.1
                show _ = some (Value.bool (decide (j < 0 + 1) && tabB p t (k + 1) j))
                rw [show (decide (j < 0 + 1) && tabB p t (k + 1) j) = (decide (j < 0) && tabB p t (k + 1) j) by
                  by_cases e : j = 0
                  · subst e; rw [e1]; rfl
                  · rw [show decide (j < 0 + 1) = decide (j < 0) by rw [decide_eq_decide]; omega]]
                exact h1
              clear e1 hstar HTS HTB HT0 FIN
              generalize bt p k = c at *
              go_wp2
              go_roundw
              case rel => exact ⟨0 + 1, by omega, by go_num, HRO.out, F.out, hsz, HEX.out⟩
              case measure => simp [intOf]; omega
            | succ m =>
              have e1 := HTB.out hstar m rfl
              obtain ⟨hcm, hfm⟩ := HRO.out m (by omega)
              have htm := HT.out m (by omega)
              have hbt : t[m]'(by omega) = bt t m := (bt_get t m (by omega)).symm
              rw [hbt] at e1
              have hbq : ((bt t m == bt p k) : Bool) = (((bt t m).toNat : Int) == ((bt p k).toNat : Int)) := by
                by_cases e : bt t m = bt p k
                · rw [e]; simp
                · have : (bt t m).toNat ≠ (bt p k).toNat := fun h => e (UInt8.toNat_inj.1 h)
                  rw [show (bt t m == bt p k) = false by simpa using e]; symm; simp; omega
              rw [hbq] at e1
              obtain ⟨f1, f2, f3⟩ := FIN.out _ e1.symm
              have F1 := Lib.hid f1; have F2 := Lib.hid f2; have F3 := Lib.hid f3
              clear f1 f2 f3 FIN e1 hbt hbq hstar HTS HTB HT0
              generalize bt p k = c at *
              generalize bt t m = d at *
              generalize tabB p t k m = b1 at *
              cases b1
              all_goals
                go_wp2
                go_region
                go_wp2
                go_roundw
                case rel => exact ⟨m + 1 + 1, by omega, by go_num, F2.out, F1.out, by simpa using hsz, Below.drew F3.out⟩
                case measure => simp [intOf]; omega
        · have hqn : q = n := by omega
          subst hqn
          go_wp2
          go_roundw
          case rel => exact ⟨k + 1, wo.heap.size, by omega, by go_num, rfl, by have := HX0S; omega, hsz, fun j hj => by simpa [hj] using hrn j hj, hext⟩
          case measure => simp [intOf]; omega
    · have hkl : k = p.length := by omega
      subst hkl
      have hcf := hrow t.length (by omega)
      rw [hfull.out] at hcf
      obtain ⟨hc, hf⟩ := hcf
      have hix := HIX.out g
      have hix1 : ∀ W, (Instr.indexAt 71 (.slice (some ⟨g, 0, none⟩) n n) (.int .i64 (t.length : Int))).run Tryd.prog W = .ok (.pointer (some ⟨g, t.length, none⟩)) W := fun W => hix W _ (by omega)
      clear hix hrow
      go_wp2
      go_ret
      exact ⟨rfl, ext_trans HX0.out hext⟩
end Go.Proofs.YtjbobblnicnhnaaDoor
