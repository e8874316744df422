/-
  strings.Trim, bytes.Index as contracts; head.field, head.counted.
-/
import Derived.BigGuardPart
import Derived.Shelf.Strings.SlTrimAscii
import Derived.Test.YtmflnffjhfejhaaGreatDoorRows
import Derived.Test.YtmflnffjhfejhaaGreatDoorHch
import Derived.Test.YtmflnffjhfejhaaGreatDoorLbk
namespace Go.Proofs.YtmflnffjhfejhaaGreatDoor
open Go.RowKit
set_option maxRecDepth 100000
set_option linter.unusedVariables false
set_option linter.unusedSimpArgs false

theorem trim_any (l : List UInt8) (hl : l.length ≤ 100000) (w : World) :
    Calls Tryz.prog 65 #[Str l, Str [32, 9]] w fun e w' => e = .returned (Str (Lib.trimS l [32, 9])) ∧ Ext w w' :=
  Any.strings_Trim_ascii Tryz.lays160 (fun w => by kernel_rfl) (by kernel_rfl) ⟨l.toArray⟩ ⟨#[32, 9]⟩ w (by rw [size_list]; omega) (by simp [ByteArray.size]) (fun j b hb => by
    match j, hb with
    | 0, hb => simp at hb; subst hb; decide
    | 1, hb => simp at hb; subst hb; decide
    | n + 2, hb => simp at hb)
theorem trimS_len (l s : List UInt8) : (Lib.trimS l s).length ≤ l.length := by
  unfold Lib.trimS Lib.trimLeftS Lib.trimRightS
  refine Nat.le_trans (List.Sublist.length_le (List.dropWhile_sublist _)) ?_
  rw [List.length_reverse]
  refine Nat.le_trans (List.Sublist.length_le (List.dropWhile_sublist _)) ?_
  rw [List.length_reverse]; exact Nat.le_refl _
theorem bytesOf_map (l : List UInt8) : Lib.bytesOf (l.map fun c => (c.toNat : Int)) = l := by
  unfold Lib.bytesOf
  rw [List.map_map]
  conv => rhs; rw [← List.map_id l]
  exact List.map_congr_left fun c _ => by simp
theorem bindex_any (v1 v2 : Value) (l s : List UInt8) (hl : l.length ≤ 100000) (hs : s.length ≤ 1000) (w : World) (hL : Lb w) (h1 : SlB w v1 l) (h2 : SlB w v2 s) (hs0 : 0 < s.length) (hl0 : ∃ a n c, v1 = .slice (some a) n c) :
    Calls Tryz.prog 45 #[v1, v2] w fun e w' => e = .returned (.int .i64 (Lib.index l s)) ∧ Ext w w' := by
  obtain ⟨m, hm⟩ := hL.mx
  obtain ⟨ao1, c1, rfl, hc1, hm1, hn1, hcell1⟩ := h1
  obtain ⟨ao2, c2, rfl, hc2, hm2, hn2, hcell2⟩ := h2
  simp only [List.length_map] at hc1 hc2 hl0 ⊢
  obtain ⟨a, n, c, hv⟩ := hl0
  injection hv with e1 e2 e3
  subst e1
  cases ao2 with
  | none => have := hn2 rfl; omega
  | some a2 =>
    have hcc : ∀ (x : Addr) (l : List UInt8), (∀ j u, (l.map Byt)[j]? = some u → w.cell? (adr (some x) j) = some u) → ∀ i, i < l.length → w.cell? (x.add i) = some (.int .u8 ((l.map fun c => (c.toNat : Int)).getD i 0)) := fun x l hc i hi => by
      have := hc i (Byt (bt l i)) (byt_map l i hi)
      have e : (l.map fun c => (c.toNat : Int)).getD i 0 = ((bt l i).toNat : Int) := by simp [List.getD, hi, bt]
      rw [e]; exact this
    have h := Tryz.bytes_Index_at a a2 l.length c1 s.length c2 (l.map fun c => (c.toNat : Int)) (s.map fun c => (c.toNat : Int)) m w (by simp) (by simp) (fun x hx => by obtain ⟨c, _, rfl⟩ := List.mem_map.1 hx; have := c.toNat_lt; omega) (fun x hx => by obtain ⟨c, _, rfl⟩ := List.mem_map.1 hx; have := c.toNat_lt; omega) (hcc a l hcell1) (hcc a2 s hcell2) hc1 (by omega) (by omega) hm
    rw [bytesOf_map, bytesOf_map] at h
    exact h.mono fun e w' ⟨he, q, hw⟩ => ⟨he, by rw [hw]; exact ext_drewN (ext_refl w) q⟩

/-- A field: its name and its value. -/
structure Pr where
  n : List UInt8
  v : List UInt8
  deriving DecidableEq
@[reducible] def prC (p : Pr) : List Value := [Str p.n, Str p.v]
@[reducible] def prV (p : Pr) : Value := .agg #[Str p.n, Str p.v]
def prD : Pr := ⟨[], []⟩
theorem prC_len (p : Pr) : (prC p).length = 2 := rfl
theorem prC_one (p : Pr) : ∀ c ∈ prC p, c.oneCell' = true := by
  intro c hc
  simp only [prC, List.mem_cons, List.not_mem_nil, or_false] at hc
  rcases hc with rfl | rfl <;> rfl
theorem infoPair : (Tryz.prog.info? 53).map (fun i => (i.zero, i.size, i.bytes)) = some (some (.agg #[.string ⟨#[]⟩, .string ⟨#[]⟩]), 2, 32) := by kernel_rfl
def fldP (l : List UInt8) : Pr := ⟨(Lib.cut l [58]).1, Lib.trimS (Lib.cut l [58]).2.1 [32, 9]⟩
def fldB (l : List UInt8) : Bool := (Lib.cut l [58]).2.2 && (tokenB (Lib.cut l [58]).1 && textB (Lib.trimS (Lib.cut l [58]).2.1 [32, 9]))
theorem cells2 {W : World} {b : Nat} {v0 v1 : Value} {t : TypeId} (h : W.heap[b]? = some (.cells #[v0, v1] t (0, 0))) : W.cell? ⟨b, 0, none⟩ = some v0 ∧ W.cell? ⟨b, 1, none⟩ = some v1 := by
  refine ⟨?_, ?_⟩ <;> simp [World.cell?, h]
theorem frozen_row {W : World} {b : Nat} {cs : Array Value} {t : TypeId} (h : W.heap[b]? = some (.cells cs t (0, 0))) (o : Nat) : W.frozen? ⟨b, o, none⟩ = false := by simp [World.frozen?, h]
theorem setCell_row {W : World} {b : Nat} {cs : Array Value} {t : TypeId} {f : Nat × Nat} (h : W.heap[b]? = some (.cells cs t f)) (i : Nat) (v : Value) : (W.setCell ⟨b, i, none⟩ v).heap[b]? = some (.cells (cs.setIfInBounds i v) t f) := by
  simp [World.setCell, Array.getElem?_modify, h]
set_option maxHeartbeats 1000000 in
theorem field_any (l : List UInt8) (hl : l.length ≤ 10000) (w : World) (hL : Lb w) :
    Calls Tryz.prog 47 #[Str l] w fun e w' => e = .returned (.tuple #[prV (fldP l), .bool (fldB l)]) ∧ Ext w w' := by
  have hP : fldP l = ⟨(Lib.cut l [58]).1, Lib.trimS (Lib.cut l [58]).2.1 [32, 9]⟩ := rfl
  have hB : fldB l = ((Lib.cut l [58]).2.2 && (tokenB (Lib.cut l [58]).1 && textB (Lib.trimS (Lib.cut l [58]).2.1 [32, 9]))) := rfl
  have hC := fun W hW => scut_any l [58] (by omega) W hW
  have hlen : (Lib.cut l [58]).1.length ≤ 10000 ∧ (Lib.cut l [58]).2.1.length ≤ 10000 := by
    rcases cut_byte l 58 with ⟨p, q, hc, hl2, _⟩ | ⟨hc, _⟩
    · rw [hc]; subst hl2; simp at hl ⊢; omega
    · rw [hc]; simp; omega
  generalize Lib.cut l [58] = ct at *
  obtain ⟨a, r, ok⟩ := ct
  simp only at hP hB hC hlen
  obtain ⟨hl1, hl2⟩ := hlen
  have hT := fun W => trim_any r (by omega) W
  have htl := trimS_len r [32, 9]
  generalize Lib.trimS r [32, 9] = t at *
  have HK := Lib.hid (fun W => token_any a (by omega) W)
  have HX := Lib.hid (fun W => text_any t (by omega) W)
  have HC := Lib.hid hC; have HT := Lib.hid hT; have HP := Lib.hid hP; have HL := Lib.hid hL
  generalize tokenB a = tk at *
  generalize textB t = tb at *
  have HB := Lib.hid hB
  clear hC hT hP hL hB
  go_enter Tryz.func47, Tryz.ntmps47
  go_wp2_with fail
  obtain ⟨W1, hW1⟩ : ∃ W1, w.alloc (.cells #[Str [], Str []] 53) = W1 := ⟨_, rfl⟩
  have hx : Ext w W1 := by rw [← hW1]; exact Below.alloc (Below.refl _ _) (Nat.le_refl _) _
  have hc : W1.heap[w.heap.size]? = some (.cells #[Str [], Str []] 53 (0, 0)) := by rw [← hW1]; exact Array.getElem?_push_size
  rw [hW1]
  clear hW1
  refine (HC.out _ (HL.out.ext hx)).mono ?_
  rintro e W2 ⟨he, hx2⟩
  subst he
  go_wp2_with fail
  refine (HT.out _).mono ?_
  rintro e W3 ⟨he, hx3⟩
  subst he
  have hc3 := ext_at hx3 (ext_at hx2 hc)
  have HX3 := Lib.hid (ext_trans hx (ext_trans hx2 hx3))
  obtain ⟨c0, c1⟩ := cells2 hc3
  have hf := frozen_row hc3
  have hst : ((W3.setCell ⟨w.heap.size, 0, none⟩ (Str a)).setCell ⟨w.heap.size, 1, none⟩ (Str t)).heap[w.heap.size]? = some (.cells #[Str a, Str t] 53 (0, 0)) := setCell_row (setCell_row hc3 0 (Str a)) 1 (Str t)
  have hbel : Ext w ((W3.setCell ⟨w.heap.size, 0, none⟩ (Str a)).setCell ⟨w.heap.size, 1, none⟩ (Str t)) := (Below.setCell HX3.out (Nat.le_refl _) _).setCell (Nat.le_refl _) _
  simp only [Str] at hst hbel
  have HST := Lib.hid hst; have HBE := Lib.hid hbel
  clear hx hx2 hx3 hc hc3 hst hbel
  cases ok <;> cases tk <;> cases tb
  all_goals
    go_wp2_with (first | (go_at_call 32; refine (HK.out _).mono ?_; rintro e w' ⟨rfl, rfl⟩) | (go_at_call 40; refine (HX.out _).mono ?_; rintro e w' ⟨rfl, rfl⟩))
    have hst := HST.out; have hbel := HBE.out
    generalize (World.setCell (World.setCell _ _ _) _ _) = W5 at *
    obtain ⟨d0, d1⟩ := cells2 hst
    refine bodyPost_ret (v := .tuple #[prV ⟨a, t⟩, .bool _]) (by simp [results, Tryz.results47, go_sem, d0, d1]; rfl) rfl ?_
    exact ⟨by rw [HP.out, HB.out]; rfl, hbel⟩
theorem counted_any (e0 : Int) (right : Bool) (ao : Option Addr) (n cap : Nat) (he : e0 = 0 ∨ e0 = 2 ∨ e0 = 3 ∨ e0 = 4) (w : World) :
    Calls Tryz.prog 34 #[.int .i64 e0, .bool right, .slice ao n cap] w fun e w' => e = .returned (.int .i64 (if e0 = 0 then (if right then (if 24 < n then 3 else 0) else 4) else e0)) ∧ w' = w := by
  have hn : decide ((24 : Int) < (n : Int)) = decide (24 < n) := by
    apply Bool.eq_iff_iff.2; simp only [decide_eq_true_eq]; omega
  rcases he with rfl | rfl | rfl | rfl
  all_goals
    cases right
    all_goals
      by_cases h24 : 24 < n
      all_goals
        have hn2 : decide ((24 : Int) < (n : Int)) = decide (24 < n) := hn
        simp only [h24, decide_true, decide_false] at hn2
        go_enter Tryz.func34, Tryz.ntmps34
        go_wp2
        go_ret
        exact ⟨by simp [h24], rfl⟩
end Go.Proofs.YtmflnffjhfejhaaGreatDoor
