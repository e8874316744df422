/-
  What a head in front is; the law's parse.
-/
import Derived.BigGuardPart
import Derived.RegionTactic
import Derived.Deep.DrawnRows
import Derived.Test.YtmflnffjhfejhaaGreatDoorRows
import Derived.Test.YtmflnffjhfejhaaGreatDoorHpr
import Derived.Test.YtmflnffjhfejhaaGreatDoorHpa
namespace Go.Proofs.YtmflnffjhfejhaaGreatDoor
open Go.RowKit
set_option maxRecDepth 100000
attribute [local go_sem ↓] Go.wp_at_zero Go.wp_at_succ
set_option linter.unusedVariables false
set_option linter.unusedSimpArgs false

structure Hd where
  one : List UInt8
  two : List UInt8
  st : Int
  fs : List Pr
def firstB (asks : Bool) (f0 : List UInt8) : Bool := if asks then rightB f0 else rightA f0
def oneL (asks : Bool) (f0 : List UInt8) : List UInt8 := if asks then (match spb 32 f0 with | [a, _, _] => a | _ => []) else (ansP f0).2.2.1
def twoL (asks : Bool) (f0 : List UInt8) : List UInt8 := if asks then (match spb 32 f0 with | [_, b, _] => b | _ => []) else []
def stI (asks : Bool) (f0 : List UInt8) : Int := if asks then 0 else statO (ansP f0).2.1
/-- The head in front: the error, or the head and how many bytes it has. -/
def headC (asks : Bool) (L : List (List UInt8 × Bool)) : Int := cnt (if L.tail.all tkA then 0 else 4) (firstB asks (L.getD 0 ([], false)).1) (L.tail.map tkF).length
def headH (asks : Bool) (L : List (List UInt8 × Bool)) : Hd := ⟨oneL asks (L.getD 0 ([], false)).1, twoL asks (L.getD 0 ([], false)).1, stI asks (L.getD 0 ([], false)).1, L.tail.map tkF⟩
def headO (asks : Bool) (l : List UInt8) : Int ⊕ (Hd × Int) :=
  if tkN l = -1 then .inl (if l.length < 4096 then 2 else 3)
  else if headC asks (tkL l (tkN l).toNat) = 0 then .inr (headH asks (tkL l (tkN l).toNat), tkN l + 4) else .inl (headC asks (tkL l (tkN l).toNat))
def HeadV (o : Int ⊕ (Hd × Int)) (B : Nat) (w' : World) (e : Ending) : Prop := match o with
  | .inl c => e = .returned (.tuple #[.agg #[Str [], Str [], .int .i64 0, .slice none 0 0], .int .i64 0, .int .i64 c])
  | .inr (h, k) => ∃ v, w'.ownsRow B 53 2 v h.fs.length (h.fs.flatMap prC) ∧ e = .returned (.tuple #[.agg #[Str h.one, Str h.two, .int .i64 h.st, v], .int .i64 k, .int .i64 0])
/-- The same of ParseRequest, of ParseAnswer. -/
def ReqV (o : Int ⊕ (Hd × Int)) (B : Nat) (w' : World) (e : Ending) : Prop := match o with
  | .inl c => e = .returned (.tuple #[.agg #[Str [], Str [], .slice none 0 0], .int .i64 0, .int .i64 c])
  | .inr (h, k) => ∃ v, w'.ownsRow B 53 2 v h.fs.length (h.fs.flatMap prC) ∧ e = .returned (.tuple #[.agg #[Str h.one, Str h.two, v], .int .i64 k, .int .i64 0]) ∧ h.st = 0
def AnsV (o : Int ⊕ (Hd × Int)) (B : Nat) (w' : World) (e : Ending) : Prop := match o with
  | .inl c => e = .returned (.tuple #[.agg #[.int .i64 0, Str [], .slice none 0 0], .int .i64 0, .int .i64 c])
  | .inr (h, k) => ∃ v, w'.ownsRow B 53 2 v h.fs.length (h.fs.flatMap prC) ∧ e = .returned (.tuple #[.agg #[.int .i64 h.st, Str h.one, v], .int .i64 k, .int .i64 0]) ∧ h.two = []
theorem take_head {l : List UInt8} {W1 w2 : World} {f0 : List UInt8} {ao : Option Addr} {m cap : Nat} {k e0 : Int} (h : TakeR l W1 w2 (.returned (.tuple #[Str f0, .slice ao m cap, .int .i64 k, .int .i64 e0]))) :
    (tkN l = -1 ∧ e0 = (if l.length < 4096 then 2 else 3)) ∨ ∃ n : Nat, tkN l = n ∧ f0 = ((tkL l n).getD 0 ([], false)).1 ∧ k = (n : Int) + 4 ∧
      (((tkL l n).tail.all tkA = true ∧ m = ((tkL l n).tail.map tkF).length ∧ w2.ownsRow W1.heap.size 53 2 (.slice ao m cap) m (((tkL l n).tail.map tkF).flatMap prC) ∧ e0 = 0) ∨ ((tkL l n).tail.all tkA = false ∧ e0 = 4)) := by
  rcases h with ⟨hn1, he⟩ | ⟨n', hn', hn4, ao', m', cap', ht⟩
  · simp only [Ending.returned.injEq, Value.tuple.injEq, Array.mk.injEq, List.cons.injEq, Value.int.injEq, true_and, and_true] at he
    exact .inl ⟨hn1, he.2.2.2⟩
  · refine .inr ⟨n', hn', ?_⟩
    rcases ht with ⟨hal, hml, hrow, he⟩ | ⟨hal, he⟩ <;>
      (simp only [Ending.returned.injEq, Value.tuple.injEq, Array.mk.injEq, List.cons.injEq, Value.slice.injEq, Value.int.injEq, true_and, and_true, Str, Value.string.injEq, ByteArray.mk.injEq] at he
       obtain ⟨hf, ⟨rfl, rfl, rfl⟩, rfl, rfl⟩ := he
       have hf' : f0 = ((tkL l n').getD 0 ([], false)).1 := by simpa using hf)
    · exact ⟨hf', rfl, .inl ⟨hal, hml, hrow, rfl⟩⟩
    · exact ⟨hf', rfl, .inr ⟨hal, rfl⟩⟩
theorem cnt_none (l : List UInt8) (r : Bool) (m : Nat) : cnt (if l.length < 4096 then 2 else 3) r m = if l.length < 4096 then 2 else 3 := by unfold cnt; split <;> simp
theorem cnt_four (r : Bool) (m : Nat) : cnt 4 r m = 4 := by simp [cnt]
theorem cnt_zero {r : Bool} {m : Nat} (h : cnt 0 r m = 0) : r = true ∧ m ≤ 24 := by
  unfold cnt at h
  cases r <;> simp at h <;> (try omega)
  exact ⟨rfl, by omega⟩
theorem prq_head {l : List UInt8} {w w' : World} {e : Ending} (h : PrqR l w w' e) : ReqV (headO true l) w.heap.size w' e := by
  obtain ⟨W1, w2, f0, ao, m, cap, k, e0, hx1, hs1, ht0, hch, hq⟩ := h
  unfold headO
  have ht := take_head ht0
  clear ht0
  rcases ht with ⟨hn, rfl⟩ | ⟨n, hn, rfl, rfl, ht⟩
  · rw [if_pos hn]
    rcases hq with ⟨_, he⟩ | ⟨h0, _⟩
    · rw [cnt_none] at he; exact he
    · rw [cnt_none] at h0; split at h0 <;> omega
  · rw [if_neg (by omega), hn, Int.toNat_natCast]
    rcases ht with ⟨hal, rfl, hrow, rfl⟩ | ⟨hal, rfl⟩
    · have hC : headC true (tkL l n) = cnt 0 (rightB ((tkL l n).getD 0 ([], false)).1) ((tkL l n).tail.map tkF).length := by simp [headC, hal, firstB]
      unfold PrqQ at hq
      rw [← hC] at hq
      rcases hq with ⟨hne, he⟩ | ⟨h0, a, b, hs, he⟩
      · rw [if_neg hne]; exact he
      · rw [if_pos h0]
        refine ⟨_, ?_, by simp only [headH, oneL, twoL, if_pos]; rw [hs]; exact he, rfl⟩
        exact ownz_base (ownz_keep hrow fun g _ hg hk => hch.block g (kind_lt hk) (by show ¬ g = w.heap.size; omega)) (by omega)
    · have hC : headC true (tkL l n) = 4 := by simp [headC, hal, cnt_four]
      unfold PrqQ at hq
      rw [cnt_four] at hq
      rw [hC, if_neg (by omega)]
      rcases hq with ⟨hne, he⟩ | ⟨h0, _⟩
      · exact he
      · omega
theorem pan_head {l : List UInt8} {w w' : World} {e : Ending} (h : PanR l w w' e) : AnsV (headO false l) w.heap.size w' e := by
  obtain ⟨W1, w2, f0, ao, m, cap, k, e0, hx1, hs1, ht0, hch, hq⟩ := h
  unfold headO
  have ht := take_head ht0
  clear ht0
  rcases ht with ⟨hn, rfl⟩ | ⟨n, hn, rfl, rfl, ht⟩
  · rw [if_pos hn]
    rcases hq with ⟨_, he⟩ | ⟨h0, _⟩
    · rw [cnt_none] at he; exact he
    · rw [cnt_none] at h0; split at h0 <;> omega
  · rw [if_neg (by omega), hn, Int.toNat_natCast]
    rcases ht with ⟨hal, rfl, hrow, rfl⟩ | ⟨hal, rfl⟩
    · have hC : headC false (tkL l n) = cnt 0 (rightA ((tkL l n).getD 0 ([], false)).1) ((tkL l n).tail.map tkF).length := by simp [headC, hal, firstB]
      unfold PanQ at hq
      rw [← hC] at hq
      rcases hq with ⟨hne, he⟩ | ⟨h0, he⟩
      · rw [if_neg hne]; exact he
      · rw [if_pos h0]
        refine ⟨_, ?_, he, rfl⟩
        exact ownz_base (ownz_keep hrow fun g _ hg hk => hch.block g (kind_lt hk) (by show ¬ g = w.heap.size; omega)) (by omega)
    · have hC : headC false (tkL l n) = 4 := by simp [headC, hal, cnt_four]
      unfold PanQ at hq
      rw [cnt_four] at hq
      rw [hC, if_neg (by omega)]
      rcases hq with ⟨hne, he⟩ | ⟨h0, _⟩
      · exact he
      · omega
theorem cells4 {W : World} {b : Nat} {v0 v1 v2 v3 : Value} {t : TypeId} (h : W.heap[b]? = some (.cells #[v0, v1, v2, v3] t (0, 0))) : W.cell? ⟨b, 0, none⟩ = some v0 ∧ W.cell? ⟨b, 1, none⟩ = some v1 ∧ W.cell? ⟨b, 2, none⟩ = some v2 ∧ W.cell? ⟨b, 3, none⟩ = some v3 := by
  refine ⟨?_, ?_, ?_, ?_⟩ <;> simp [World.cell?, h]
theorem own_after {w W2 W9 W10 : World} {B1 e : Nat} {v : Value} {n : Nat} {xs : List Value} (hrow : W2.ownsRow B1 e 2 v n xs) (hB : w.heap.size < B1) (hch : Chg (fun q => q = w.heap.size) W2 W9) (hx : Ext W9 W10) : W10.ownsRow w.heap.size e 2 v n xs :=
  ownz_ext (ownz_base (ownz_keep hrow fun g _ hg hk => hch.block g (kind_lt hk) (by show ¬ g = w.heap.size; omega)) (by omega)) hx
theorem set4 {W : World} {b : Nat} {v0 v1 v2 v3 : Value} {t : TypeId} (h : W.heap[b]? = some (.cells #[v0, v1, v2, v3] t (0, 0))) (a0 a1 a2 a3 : Value) :
    ∃ W9, (((W.setCell ⟨b, 0, none⟩ a0).setCell ⟨b, 1, none⟩ a1).setCell ⟨b, 2, none⟩ a2).setCell ⟨b, 3, none⟩ a3 = W9 ∧ W9.heap[b]? = some (.cells #[a0, a1, a2, a3] t (0, 0)) ∧ Chg (fun q => q = b) W W9 := by
  refine ⟨_, rfl, ?_, ?_⟩
  · exact setCell_row (setCell_row (setCell_row (setCell_row h 0 a0) 1 a1) 2 a2) 3 a3
  · exact (((Chg.setCell W ⟨b, 0, none⟩ a0).trans (Chg.setCell _ ⟨b, 1, none⟩ a1)).trans (Chg.setCell _ ⟨b, 2, none⟩ a2)).trans (Chg.setCell _ ⟨b, 3, none⟩ a3)
set_option maxHeartbeats 2000000 in
theorem lparse_any (a : Addr) (cap : Nat) (l : List UInt8) (hl : l.length ≤ 10000) (asks : Bool) (w : World) (hL : Lb w) (hv : SlB w (.slice (some a) l.length cap) l) :
    Calls Tryz.prog 9 #[.slice (some a) l.length cap, .bool asks] w fun e w' => HeadV (headO asks l) w.heap.size w' e ∧ Ext w w' := by
  have HPQ := Lib.hid (fun W (hx : Ext w W) => (preq_any a cap l hl W (hL.ext hx) (hv.ext hx)).mono (fun e w' h => (⟨prq_head h.1, h.2⟩ : ReqV (headO true l) W.heap.size w' e ∧ Ext W w')))
  have HPA := Lib.hid (fun W (hx : Ext w W) => (pans_any a cap l hl W (hL.ext hx) (hv.ext hx)).mono (fun e w' h => (⟨pan_head h.1, h.2⟩ : AnsV (headO false l) W.heap.size w' e ∧ Ext W w')))
  clear hL hv
  cases asks with
  | true =>
    generalize headO true l = o at *
    go_enter Tryz.func9, Tryz.ntmps9
    go_wp2_with fail
    obtain ⟨W1, hW1⟩ : ∃ W1, w.alloc (.cells #[Str [], Str [], .int .i64 0, .slice none 0 0] 29) = W1 := ⟨_, rfl⟩
    have hx1 : Ext w W1 := by rw [← hW1]; exact Below.alloc (Below.refl _ _) (Nat.le_refl _) _
    have hc1 : W1.heap[w.heap.size]? = some (.cells #[Str [], Str [], .int .i64 0, .slice none 0 0] 29 (0, 0)) := by rw [← hW1]; exact Array.getElem?_push_size
    have hb1 := (Array.getElem?_eq_some_iff.1 hc1).1
    rw [hW1]
    clear hW1
    refine (HPQ.out W1 hx1).mono ?_
    rintro e W2 ⟨hq, hx2⟩
    have hc2 := ext_at hx2 hc1
    have HB1 := Lib.hid hb1
    have HX2 := Lib.hid (ext_trans hx1 hx2)
    clear hc1 hx1 hx2 HPQ hb1
    rcases o with c | ⟨h, k⟩
    · have he : e = _ := hq
      subst he
      clear hq
      have hf2 := frozen_row hc2
      have hb2 := (Array.getElem?_eq_some_iff.1 hc2).1
      have HC2 := Lib.hid hc2
      obtain ⟨c0, c1, c2, c3⟩ := cells4 hc2
      clear hc2
      go_wp2_with fail
      obtain ⟨W9, hW9, hst, hch⟩ := set4 HC2.out (.string ⟨#[]⟩) (.string ⟨#[]⟩) (.int .i64 0) (.slice none 0 0)
      rw [hW9]
      have hxa : Ext W9 (W9.alloc (.cells #[.string ⟨#[]⟩, .string ⟨#[]⟩, .slice none 0 0] 47)) := Below.alloc (Below.refl _ _) (Nat.le_refl _) _
      obtain ⟨e0', e1', e2', e3'⟩ := cells4 (ext_at hxa hst)
      refine bodyPost_ret (v := .tuple #[.agg #[Str [], Str [], .int .i64 0, .slice none 0 0], .int .i64 0, .int .i64 c]) (by simp [results, Tryz.results9, go_sem, e0', e1', e2', e3']) rfl ⟨rfl, ext_trans (below_chg HX2.out hch (fun k hk => by have hk' : k = w.heap.size := hk; omega) (Nat.le_refl _)) hxa⟩
    · obtain ⟨v, hrow, he, h0⟩ := hq
      subst he
      obtain ⟨hone, htwo, hst0, hfs⟩ := h
      simp only at h0 hrow
      subst h0
      obtain ⟨ao, cp, hv, _⟩ := ownz_shape hrow
      subst hv
      have HR := Lib.hid hrow
      have hf2 := frozen_row hc2
      have hb2 := (Array.getElem?_eq_some_iff.1 hc2).1
      have HC2 := Lib.hid hc2
      obtain ⟨c0, c1, c2, c3⟩ := cells4 hc2
      clear hc2 hrow
      obtain ⟨n, hn⟩ : ∃ n, hfs.length = n := ⟨_, rfl⟩
      rw [hn] at HR
      have HN := Lib.hid hn
      simp only [hn]
      clear hn
      go_wp2_with fail
      obtain ⟨W9, hW9, hst, hch⟩ := set4 HC2.out (Str hone) (Str htwo) (.int .i64 0) (.slice ao n cp)
      rw [hW9]
      have hxa : Ext W9 (W9.alloc (.cells #[Str hone, Str htwo, .slice ao n cp] 47)) := Below.alloc (Below.refl _ _) (Nat.le_refl _) _
      obtain ⟨e0', e1', e2', e3'⟩ := cells4 (ext_at hxa hst)
      refine bodyPost_ret (v := .tuple #[.agg #[Str hone, Str htwo, .int .i64 0, .slice ao n cp], .int .i64 k, .int .i64 0]) (by simp [results, Tryz.results9, go_sem, e0', e1', e2', e3']) rfl ⟨⟨_, (show World.ownsRow _ _ _ _ _ hfs.length (hfs.flatMap prC) from by rw [HN.out]; exact own_after HR.out HB1.out hch hxa), rfl⟩, ext_trans (below_chg HX2.out hch (fun k hk => by have hk' : k = w.heap.size := hk; omega) (Nat.le_refl _)) hxa⟩
  | false =>
    generalize headO false l = o at *
    go_enter Tryz.func9, Tryz.ntmps9
    go_wp2_with fail
    obtain ⟨W1, hW1⟩ : ∃ W1, w.alloc (.cells #[Str [], Str [], .int .i64 0, .slice none 0 0] 29) = W1 := ⟨_, rfl⟩
    have hx1 : Ext w W1 := by rw [← hW1]; exact Below.alloc (Below.refl _ _) (Nat.le_refl _) _
    have hc1 : W1.heap[w.heap.size]? = some (.cells #[Str [], Str [], .int .i64 0, .slice none 0 0] 29 (0, 0)) := by rw [← hW1]; exact Array.getElem?_push_size
    have hb1 := (Array.getElem?_eq_some_iff.1 hc1).1
    rw [hW1]
    clear hW1
    refine (HPA.out W1 hx1).mono ?_
    rintro e W2 ⟨hq, hx2⟩
    have hc2 := ext_at hx2 hc1
    have HB1 := Lib.hid hb1
    have HX2 := Lib.hid (ext_trans hx1 hx2)
    clear hc1 hx1 hx2 HPA hb1
    rcases o with c | ⟨h, k⟩
    · have he : e = _ := hq
      subst he
      clear hq
      have hf2 := frozen_row hc2
      have hb2 := (Array.getElem?_eq_some_iff.1 hc2).1
      have HC2 := Lib.hid hc2
      obtain ⟨c0, c1, c2, c3⟩ := cells4 hc2
      clear hc2
      go_wp2_with fail
      obtain ⟨W9, hW9, hst, hch⟩ := set4 HC2.out (.string ⟨#[]⟩) (.string ⟨#[]⟩) (.int .i64 0) (.slice none 0 0)
      rw [hW9]
      have hxa : Ext W9 (W9.alloc (.cells #[.int .i64 0, .string ⟨#[]⟩, .slice none 0 0] 55)) := Below.alloc (Below.refl _ _) (Nat.le_refl _) _
      obtain ⟨e0', e1', e2', e3'⟩ := cells4 (ext_at hxa hst)
      refine bodyPost_ret (v := .tuple #[.agg #[Str [], Str [], .int .i64 0, .slice none 0 0], .int .i64 0, .int .i64 c]) (by simp [results, Tryz.results9, go_sem, e0', e1', e2', e3']) rfl ⟨rfl, ext_trans (below_chg HX2.out hch (fun k hk => by have hk' : k = w.heap.size := hk; omega) (Nat.le_refl _)) hxa⟩
    · obtain ⟨v, hrow, he, h0⟩ := hq
      subst he
      obtain ⟨hone, htwo, hst0, hfs⟩ := h
      simp only at h0 hrow
      subst h0
      obtain ⟨ao, cp, hv, _⟩ := ownz_shape hrow
      subst hv
      have HR := Lib.hid hrow
      have hf2 := frozen_row hc2
      have hb2 := (Array.getElem?_eq_some_iff.1 hc2).1
      have HC2 := Lib.hid hc2
      obtain ⟨c0, c1, c2, c3⟩ := cells4 hc2
      clear hc2 hrow
      obtain ⟨n, hn⟩ : ∃ n, hfs.length = n := ⟨_, rfl⟩
      rw [hn] at HR
      have HN := Lib.hid hn
      simp only [hn]
      clear hn
      go_wp2_with fail
      obtain ⟨W9, hW9, hst, hch⟩ := set4 HC2.out (Str hone) (.string ⟨#[]⟩) (.int .i64 hst0) (.slice ao n cp)
      rw [hW9]
      have hxa : Ext W9 (W9.alloc (.cells #[.int .i64 hst0, Str hone, .slice ao n cp] 55)) := Below.alloc (Below.refl _ _) (Nat.le_refl _) _
      obtain ⟨e0', e1', e2', e3'⟩ := cells4 (ext_at hxa hst)
      refine bodyPost_ret (v := .tuple #[.agg #[Str hone, Str [], .int .i64 hst0, .slice ao n cp], .int .i64 k, .int .i64 0]) (by simp [results, Tryz.results9, go_sem, e0', e1', e2', e3']) rfl ⟨⟨_, (show World.ownsRow _ _ _ _ _ hfs.length (hfs.flatMap prC) from by rw [HN.out]; exact own_after HR.out HB1.out hch hxa), rfl⟩, ext_trans (below_chg HX2.out hch (fun k hk => by have hk' : k = w.heap.size := hk; omega) (Nat.le_refl _)) hxa⟩
end Go.Proofs.YtmflnffjhfejhaaGreatDoor
