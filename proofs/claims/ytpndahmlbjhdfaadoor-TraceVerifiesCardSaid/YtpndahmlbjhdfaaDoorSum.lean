/-
  sha.Sum of two parts.
-/
import Derived.Test.YtpndahmlbjhdfaaDoorRows
import Derived.Test.YtpndahmlbjhdfaaDoorBlk
import Derived.Test.YtpndahmlbjhdfaaDoorShf
import Derived.Lib.SlParts
import Derived.Lib.SlFresh
namespace Go.Proofs.YtpndahmlbjhdfaaDoor
open Go.RowKit
set_option maxRecDepth 100000
attribute [local go_sem] Oper.semAt_some
set_option linter.unusedVariables false
set_option linter.unusedSimpArgs false
def FirstAt (W : World) : Prop := ∃ fr, W.heap[0]? = some (.cells (cells8 shFirst) 103 fr)
theorem FirstAt.ext {w w' : World} (h : FirstAt w) (he : Ext w w') : FirstAt w' := by
  obtain ⟨fr, hf⟩ := h; exact ⟨fr, ext_at he hf⟩
theorem holds_sl {w : World} {v : Value} {l : List UInt8} (h : SlB w v l) : Lib.HoldsBytes w v l := by
  obtain ⟨ao, cap, rfl, h1, h2, h3, hc⟩ := h
  refine ⟨ao, cap, by rw [List.length_map], fun e => ?_, fun a ha i x hx => ?_⟩
  · have := h3 e; rw [List.length_map] at h1; exact List.eq_nil_of_length_eq_zero (by omega)
  · subst ha
    have := hc i (Byt x) (by rw [List.getElem?_map, hx]; rfl)
    exact this
theorem fresh_sl {B : Nat} {w : World} {v : Value} {l : List UInt8} (h : Lib.FreshBytes B w v l) : SlB w v l ∧ ∃ g cap, v = .slice (some ⟨g, 0, none⟩) l.length cap ∧ B ≤ g := by
  obtain ⟨g, cap, zs, rfl, hB, h1, h2, hz, hr, hb, hc, _⟩ := h
  refine ⟨⟨_, cap, by rw [List.length_map], by rw [List.length_map]; exact h1, h2, (fun h => by cases h), fun j u hu => ?_⟩, _, _, rfl, hB⟩
  have hj : j < l.length := by have := (List.getElem?_eq_some_iff.1 hu).1; simpa using this
  rw [adr_some, Nat.zero_add, hc j (by omega)]
  have h3 : l[j]? = some (UInt8.ofNat (zs.getD j 0).toNat) := by
    rw [← hb, Lib.bytesOf]
    simp [List.getElem?_take_of_lt hj, List.getD, List.getElem?_eq_getElem (show j < zs.length by omega)]
  rw [List.getElem?_map, h3] at hu
  have h4 := hr (zs.getD j 0) (by simp [List.getD, List.getElem?_eq_getElem (show j < zs.length by omega)])
  have h5 : ((UInt8.ofNat (zs.getD j 0).toNat).toNat : Int) = zs.getD j 0 := by rw [UInt8.toNat_ofNat']; omega
  simp only [Option.map_some, Byt, h5, Option.some.injEq] at hu
  rw [hu]
theorem join2_any (b c : Nat) (v1 v2 : Value) (l1 l2 : List UInt8) (w : World) (hb : w.heap[b]? = some (.cells #[v1, v2] 45 (0, 0))) (h1 : SlB w v1 l1) (h2 : SlB w v2 l2) (hc : 2 ≤ c) (hl : l1.length + l2.length ≤ 1000000) :
    Calls Tryd.prog 83 #[.slice (some ⟨b, 0, none⟩) 2 c, .slice none 0 0] w fun e w' => ∃ v', e = .returned v' ∧ SlB w' v' (l1 ++ l2) ∧ (∃ g cap, v' = .slice (some ⟨g, 0, none⟩) (l1 ++ l2).length cap ∧ w.heap.size ≤ g) ∧ Ext w w' := by
  refine (Tryd.bytes_Join_many b 0 2 c [v1, v2] [l1, l2] (.slice none 0 0) [] w rfl (Nat.le_refl _) ⟨rfl, fun i v hi => ?_, fun i v l hi hl => ?_⟩ hc (holds_sl (sl_nil w)) (by omega) (by simp [Lib.lens]; omega)).mono ?_
  · match i, hi with
    | 0, hi => simp at hi; subst hi; simp [World.cell?, hb, Addr.add]
    | 1, hi => simp at hi; subst hi; simp [World.cell?, hb, Addr.add]
  · match i, hi, hl with
    | 0, hi, hl => simp at hi hl; subst hi hl; exact holds_sl h1
    | 1, hi, hl => simp at hi hl; subst hi hl; exact holds_sl h2
  · rintro e w' ⟨v', he, hf, hx⟩
    have hj : Lib.join [l1, l2] [] = l1 ++ l2 := by simp [Lib.join_cons, Lib.joinTail]
    rw [hj] at hf
    exact ⟨v', he, (fresh_sl hf).1, (fresh_sl hf).2, hx⟩
theorem infoFirst : (Tryd.prog.info? 103).map (·.size) = some 8 := by kernel_rfl
set_option maxHeartbeats 1000000 in
theorem Sum_any (b c : Nat) (v1 v2 : Value) (l1 l2 : List UInt8) (w : World) (hb : w.heap[b]? = some (.cells #[v1, v2] 45 (0, 0))) (h1 : SlB w v1 l1) (h2 : SlB w v2 l2) (hc : 2 ≤ c) (hl : l1.length + l2.length ≤ 100000) (hF : FirstAt w) (hO : OddAt w) :
    Calls Tryd.prog 67 #[.slice (some ⟨b, 0, none⟩) 2 c] w fun e w' => ∃ v', e = .returned v' ∧ OwnB w.heap.size v' (shSum (l1 ++ l2)) w' ∧ Ext w w' := by
  obtain ⟨fr, hF⟩ := hF
  have Hb := Lib.hid hb; have H1 := Lib.hid h1; have H2 := Lib.hid h2; have HF := Lib.hid hF; have HO := Lib.hid hO
  clear hb h1 h2 hF hO
  have h8j := Lib.hid (show (8 : Nat) = (cells8 shFirst).size from rfl)
  have h8k := Lib.hid (show (cells8 shFirst).all Value.oneCell' = true by simp [cells8, Value.oneCell'])
  refine (callsIn_wide (n := 5)).1 (callsIn_of_wp_marks Tryd.func67 rfl trivial (wpIn_wide.2 ?_) rfl)
  simp only [Tryd.ntmps67, List.size_toArray, List.length_cons, List.length_nil, Nat.reduceAdd, Nat.reduceSub, Array.replicate_succ, Array.replicate_zero, List.push_toArray, List.append_toArray, List.nil_append, List.cons_append]
  go_wp2_with (first | refine wpList_load_row rfl 103 _ rfl 0 rfl 103 _ fr _ HF.out Tryd.underlying103 rfl infoFirst ?_ | refine wpList_store_row rfl 133 _ _ rfl w.heap.size _ rfl rfl 133 _ (heap_alloc_last w _) info8 h8j.out h8k.out ?_)
  obtain ⟨W1, hW1⟩ : ∃ W1, (w.alloc (Obj.cells #[Value.int .u32 0, Value.int .u32 0, Value.int .u32 0, Value.int .u32 0, Value.int .u32 0, Value.int .u32 0, Value.int .u32 0, Value.int .u32 0] 133)).setRow w.heap.size (cells8 shFirst) = W1 := ⟨_, rfl⟩
  rw [hW1]
  have hx1 : Ext w W1 := by
    rw [← hW1]; exact setRow_ext (Below.alloc (Below.refl _ w) (Nat.le_refl _) _) (Nat.le_refl _) _
  have hA1 : Arr W1 w.heap.size 133 (cells8 shFirst) := by
    rw [← hW1]; exact setRow_arr (heap_alloc_last w _) _
  have hs1 : W1.heap.size = w.heap.size + 1 := by rw [← hW1]; simp [World.setRow]
  clear hW1
  refine (join2_any b c v1 v2 l1 l2 W1 (ext_at hx1 Hb.out) (H1.out.ext hx1) (H2.out.ext hx1) hc (by omega)).mono ?_
  rintro e W2 ⟨v, rfl, hv, hsh, hx2⟩
  generalize hll : l1 ++ l2 = l at *
  have hll2 : l.length ≤ 100000 := by rw [← hll]; simpa using hl
  have Hll := Lib.hid hll; clear hll
  have HV := Lib.hid hv; clear hv h8j h8k
  obtain ⟨gj, capj, hvj, hgj⟩ := hsh
  have HSH := Lib.hid (show ∃ ao n cap, v = .slice ao n cap from ⟨_, _, _, hvj⟩)
  have HVJ := Lib.hid hvj; clear hvj
  go_wp2_with (go_at_call 82; refine (Blocks_any _ _ HSH.out).mono ?_; rintro e w' ⟨rfl, rfl⟩)
  obtain ⟨W3, hW3⟩ : ∃ W3, W2.alloc (.cells #[v] 45) = W3 := ⟨_, rfl⟩
  have hx3 : Ext W2 W3 := by rw [← hW3]; exact Below.alloc (Below.refl _ W2) (Nat.le_refl _) _
  have hb3 : W3.heap[W2.heap.size]? = some (.cells #[v] 45 (0, 0)) := by rw [← hW3]; exact heap_alloc_last W2 _
  have hs3 : W3.heap.size = W2.heap.size + 1 := by rw [← hW3]; simp
  rw [hW3]
  clear hW3
  have hit := blocks_iter v l hll2 W2.heap.size W3 hb3 (HV.out.ext hx3)
  have hx13 : Ext w W3 := ext_trans hx1 (ext_trans hx2 hx3)
  have hA3 : Arr W3 w.heap.size 133 (cells8 shFirst) := ((ext_trans hx2 hx3).block _ (by omega)).trans hA1
  have hsz3 := hx13.size
  have hsz2 := hx2.size
  have hsb : ∀ k, sblk v l.length k → k < W2.heap.size ∧ k ≠ w.heap.size := fun k hk => ⟨sblk_lt HV.out (by simpa using hk), by have := hk.2; rw [HVJ.out] at this; simp [Value.ownBlock] at this; omega⟩
  have hown0 : ∀ k, (k = W2.heap.size ∨ sblk v l.length k) → k < W3.heap.size := by
    rintro k (h | h)
    · omega
    · have := (hsb k h).1; omega
  refine wpIn_wide.1 (wpIn_range4 (n := 5) (P := Tryd.prog) rfl (enters_of Tryd.func103 (by kernel_rfl) rfl) hit hown0 (fun _ h => h.elim)
    (fun o i W => Arr W w.heap.size 133 (cells8 (shGo (shPad l) i)) ∧ Below w.heap.size w W ∧ W3.heap.size ≤ W.heap.size)
    (fun o c i W => False) ?_ (fun _ _ _ _ _ h _ => h.elim) ?_ ?_ ?_ (fun _ _ _ _ _ _ _ h _ => h.elim))
  · rintro o i A' C ⟨h0, hbel, hsz⟩ hm
    exact ⟨hm.keeps h0 (fun h => h) (by omega), hm.below hbel (fun k hk => hk.elim) (by omega) (Nat.le_refl _), Nat.le_trans hsz hm.size⟩
  · intro o W ho hx
    exact ⟨(hx.block _ (by omega)).trans hA3, ext_trans hx13 hx, hx.size⟩
  · rintro o m' lp i W args hi ho ⟨h0, hbel, hsz⟩ hasz ⟨vi, rfl, hvi⟩ hlp hrec
    gi_wp2
    refine ⟨Kp.refl _ _ _, fun W4 hm4 hrec4 => ?_⟩
    replace h0 := hm4.keeps h0 (fun h => h) (by omega)
    replace hbel := hm4.below hbel (fun k hk => hk.elim) (by omega) (Nat.le_refl _)
    replace hsz := Nat.le_trans hsz hm4.size
    have hvi4 := hm4.sl' hvi
    have hl64 : (((shPad l).drop (64 * i)).take 64).length = 64 := by
      have := shPad_len l
      rw [List.length_take, List.length_drop]; omega
    have HC := Lib.hid (step_any w.heap.size (shGo (shPad l) i) vi _ W4 h0 hvi4 hl64 (HO.out.ext hbel))
    have HB := Lib.hid hbel
    have HS4 := Lib.hid hm4.size
    clear hm4 hrec hrec4 h0 hvi hvi4 hl64 hbel
    gi_wp2
    refine ⟨trivial, fun h => by simp [Fence.wide] at h, (CallsIn.inRound lp (callsIn_wide.2 HC.out)).mono ?_⟩
    rintro e W5 ⟨rfl, hA5, hch5⟩
    have HB5 := Lib.hid (show Below w.heap.size w W5 from below_chg HB.out hch5 (fun k hk => by omega) (Nat.le_refl _))
    have hs5 := hch5.size
    have HA5 := Lib.hid hA5
    have HK := Lib.hid (show Kp W3.heap.size (fun k => o k ∨ False) W4 W5 from Kp.of_chg hch5 (fun k hk => by
      rcases hk with hk | hk
      · have := ho k hk; have := HS4.out; exact ⟨by omega, by omega⟩
      · exact hk.elim) (fun k hk hB _ => by omega))
    clear hA5 hch5
    gi_wp2
    exact ⟨HK.out, HA5.out, HB5.out, by omega⟩
  · rintro o D W hD ⟨h0, hbel, hsz⟩ hdef
    have hdef' := Lib.hid hdef
    have HB := Lib.hid (bytes_any w.heap.size _ W h0)
    clear h0 hdef
    go_wp2_with (go_at_call 85; refine (HB.out).mono ?_; rintro e w5 ⟨v5, rfl, ho5, hx5⟩)
    have hd5 := (hx5.block D (Array.getElem?_eq_some_iff.1 hdef'.out).1).trans hdef'.out
    refine marks_ret hd5 (results_tmp rfl _ _) ⟨_, rfl, ?_, ?_⟩
    · rw [Hll.out]
      have e32 : (shSum l).length = 32 := shSum_len l
      unfold OwnB
      rw [e32]
      refine own_base (own_keep ho5 fun k hk _ hkk => World.putObj_heap_other fun e => ?_) (Nat.le_trans hsz3 hsz)
      subst e; rw [kind_none hd5 rfl] at hkk; cases hkk
    · exact below_mark (hbel.trans (hx5.mono (Nat.le_trans hsz3 hsz))) (by omega) hd5
end Go.Proofs.YtpndahmlbjhdfaaDoor
