/-
  (*scram.message).rest and scram.denied at any attributes, by what scram.value answers of their texts.
-/
import Derived.Test.YtjkbigecejogdaaDoorRows
import Derived.Test.YtjkbigecejogdaaDoorMsg
import Derived.Test.YtjkbigecejogdaaDoorScb
namespace Go.Proofs.YtjkbigecejogdaaDoor
open Go.RowKit
set_option maxRecDepth 100000
attribute [local go_sem] Oper.semAt_some
set_option linter.unusedVariables false
set_option linter.unusedSimpArgs false
theorem infoPr : (Tryd.prog.info? 42).map (fun i => (i.zero, i.size, i.bytes)) = some (some (.agg #[.string ⟨#[]⟩, .string ⟨#[]⟩]), 2, 32) := by kernel_rfl
/-- An own row of pairs, as attributes have them. -/
def OwnP (B : Nat) (v : Value) (ps : List (List UInt8)) (W : World) : Prop := W.ownsRow B 42 2 v ps.length (attF ps)
theorem OwnP.ext {B : Nat} {v : Value} {ps : List (List UInt8)} {W C : World} (h : OwnP B v ps W) (he : Ext W C) : OwnP B v ps C := ownz_ext h he
theorem attF_snoc (ps : List (List UInt8)) (p : List UInt8) : attF (ps ++ [p]) = attF ps ++ attV p := by simp [attF, List.flatMap_append]
theorem ownP_snoc {B : Nat} {v : Value} {ps : List (List UInt8)} {p : List UInt8} {W : World} (h : W.ownsRow B 42 2 v (ps.length + 1) (attF ps ++ [Str (p.take 1), Str (p.drop 2)])) : OwnP B v (ps ++ [p]) W := by
  unfold OwnP
  rw [List.length_append, attF_snoc]
  exact h
def slLen : Value → Nat | .slice _ n _ => n | _ => 0
theorem own_slLen {B e z n : Nat} {v : Value} {xs : List Value} {W : World} (h : W.ownsRow B e z v n xs) : slLen v = n := by
  rcases h.2 with ⟨rfl, h0⟩ | ⟨g, cap, cur, rfl, _⟩
  · simp [slLen, h0]
  · rfl
theorem Row2.chM {bm M : Nat} {W C : World} {v : Value} {ps : List (List UInt8)} (h : Row2 bm M W v ps) (hk : ∀ k, k < M → k ≠ bm → k < W.heap.size → C.heap[k]? = W.heap[k]?) : Row2 bm M C v ps := by
  obtain ⟨ao, cap, hv, h1, h2, h3⟩ := h
  refine ⟨ao, cap, hv, h1, h2, fun hne => ?_⟩
  obtain ⟨g, o, ha, hg, hc⟩ := h3 hne
  refine ⟨g, o, ha, hg, fun j p hj => ?_⟩
  obtain ⟨a, b⟩ := hc j p hj
  exact ⟨(World.cell?_of_block (w := W) (hk g hg.2 hg.1 (World.block_lt_of_cell? W _ a))).trans a, (World.cell?_of_block (w := W) (hk g hg.2 hg.1 (World.block_lt_of_cell? W _ b))).trans b⟩
/-- What keeps bm and all ahead of M keeps the message. -/
theorem Msg.chM {bm M : Nat} {bad : Bool} {ps : List (List UInt8)} {W C : World} (h : Msg bm M bad ps W) (hb : C.heap[bm]? = W.heap[bm]?) (hk : ∀ k, k < M → k ≠ bm → k < W.heap.size → C.heap[k]? = W.heap[k]?) : Msg bm M bad ps C := by
  obtain ⟨v, hv, hr⟩ := h
  exact ⟨v, hb.trans hv, hr.chM hk⟩
theorem Msg.lt {bm M : Nat} {bad : Bool} {ps : List (List UInt8)} {W : World} (h : Msg bm M bad ps W) : bm < W.heap.size := by
  obtain ⟨v, hv, _⟩ := h
  exact (Array.getElem?_eq_some_iff.1 hv).1
/-- The first attribute: where it lies, and what m.l = m.l[1:] leaves. -/
theorem msg_pop {bm M : Nat} {bad : Bool} {p : List UInt8} {r : List (List UInt8)} {w : World} (h : Msg bm M bad (p :: r) w) :
    ∃ g o cap a2 c2, w.heap[bm]? = some (.cells #[.slice (some ⟨g, o, none⟩) (r.length + 1) cap, .bool bad] 81 (0, 0)) ∧ w.cell? ⟨g, o, none⟩ = some (Str (p.take 1)) ∧ w.cell? ⟨g, o + 1, none⟩ = some (Str (p.drop 2)) ∧
      (∀ W, (Instr.indexAt 79 (.slice (some ⟨g, o, none⟩) (r.length + 1) cap) (.int .i64 0)).run Tryd.prog W = .ok (.pointer (some ⟨g, o, none⟩)) W) ∧
      (∀ W, (Instr.slice 79 (.slice (some ⟨g, o, none⟩) (r.length + 1) cap) (some (.int .i64 1)) none none).run Tryd.prog W = .ok (.slice a2 r.length c2) W) ∧
      Msg bm M bad r (w.setCell ⟨bm, 0, none⟩ (.slice a2 r.length c2)) := by
  obtain ⟨v, hb, ao, cap, hv, hcap, hmax, hcc⟩ := h
  subst hv
  obtain ⟨g, o, ha, hg, hc⟩ := hcc (by simp)
  subst ha
  obtain ⟨d0, d1⟩ := hc 0 p rfl
  simp only [Nat.mul_zero, Nat.add_zero] at d0 d1
  have hrs := run_resl2 (g := g) (o := o) (n := r.length + 1) (cap := cap) (by simp)
  have hcp : r.length ≤ cap - 1 := by simp at hcap; omega
  refine ⟨g, o, cap, if cap = 1 then some (⟨g, o, none⟩ : Addr) else some ⟨g, o + 2, none⟩, cap - 1, hb, d0, d1, fun W => index_att g o (r.length + 1) cap (by omega) W, hrs, _, set_at (j := 0) (u := _) hb, ?_⟩
  refine ⟨_, cap - 1, rfl, hcp, by omega, fun hne => ?_⟩
  have hr0 : 0 < r.length := List.length_pos_iff.2 hne
  rw [if_neg (by omega)]
  refine ⟨g, o + 2, rfl, hg, fun j q hj => ?_⟩
  obtain ⟨x0, x1⟩ := hc (j + 1) q (by simpa using hj)
  have hk : ∀ (u : Value) k, k < w.heap.size → k ≠ bm → (w.setCell ⟨bm, 0, none⟩ u).heap[k]? = w.heap[k]? := fun u k hk hn => (Bz.set w bm 0 u).block k hk hn
  rw [show o + 2 + 2 * j = o + 2 * (j + 1) by omega]
  exact ⟨(World.cell?_of_block (w := w) (hk _ g (World.block_lt_of_cell? w _ x0) hg.1)).trans x0, (World.cell?_of_block (w := w) (hk _ g (World.block_lt_of_cell? w _ x1) hg.1)).trans x1⟩
def okA (vB : List UInt8 → Bool) (p : List UInt8) : Bool := letB (bt p 0) && vB p
theorem cells2m {Z : World} {s : Nat} {a0 a1 : Value} {t : TypeId} (h : Z.heap[s]? = some (.cells #[a0, a1] t (0, 0))) : Z.cell? ⟨s, 0, none⟩ = some a0 ∧ Z.cell? ⟨s, 1, none⟩ = some a1 ∧ ∀ j, Z.frozen? ⟨s, j, none⟩ = false := by
  refine ⟨by simp [World.cell?, h], by simp [World.cell?, h], fun j => by simp [World.frozen?, h]⟩
theorem own_ltz {W : World} {B e z n : Nat} {v : Value} {xs : List Value} (h : W.ownsRow B e z v n xs) {k : Nat} (hk : v.ownBlock = some k) : B ≤ k := (h.lt k hk).1
theorem bz_grown {b : Nat} {w W C : World} {row : Option Nat} (h0 : Bz b w W) (h : W.grownBy C row) (hr : ∀ j, row = some j → w.heap.size ≤ j) : Bz b w C :=
  ⟨h.os.trans h0.os, h.tape.trans h0.tape, h.output.trans h0.output, Nat.le_trans h0.size h.size, fun k hk hb => (h.block k (by have := h0.size; omega) (fun e => by have := hr k e.symm; omega)).trans (h0.block k hk hb)⟩
set_option maxHeartbeats 2000000 in
theorem rest_any (vB : List UInt8 → Bool) (bm M : Nat) (bad : Bool) (xs ks : List (List UInt8)) (hsm : xs.length + ks.length ≤ 100000) (w : World) (h : Msg bm M bad (xs ++ ks) w) (hM : M ≤ w.heap.size) (h2 : ∀ p ∈ xs, 1 ≤ p.length)
    (hF : FormsAt w) (hfb : 1 < M) (hfm : 1 ≠ bm) (hv : ∀ p ∈ xs, ∀ W, FormsAt W → Calls Tryd.prog 32 #[Str (p.drop 2)] W fun e w' => e = .returned (.bool (vB p)) ∧ Ext W w') :
    Calls Tryd.prog 35 #[.pointer (some ⟨bm, 0, none⟩), .int .i64 (ks.length : Int)] w fun e w' => ∃ v, e = .returned v ∧ OwnP w.heap.size v xs w' ∧ Msg bm M (bad || !(xs.all (okA vB))) ks w' ∧ Bz bm w w' := by
  have HV := Lib.hid hv; have H2 := Lib.hid h2; have HF := Lib.hid hF; have HM0 := Lib.hid h
  have hbw := h.lt
  clear hv h2 hF h
  go_enter Tryd.func35, Tryd.ntmps35
  go_wp2
  go_loopw [5] (fun v wr => ∃ k : Nat, k ≤ xs.length ∧ Hid (OwnP w.heap.size v (xs.take k) wr) ∧ Hid (Msg bm M (bad || !((xs.take k).all (okA vB))) (xs.drop k ++ ks) wr) ∧ Hid (FormsAt wr) ∧ Hid (Bz bm w wr)) (fun v _ => xs.length - slLen v)
  case atStart => exact ⟨0, by omega, Lib.hid (World.ownsRow_nil _ _ _ _), Lib.hid (by simpa using HM0.out), HF, Lib.hid (Bz.of_ext (ext_refl _))⟩
  case round =>
    obtain ⟨k, hk, HO, HM, HFr, HB⟩ := hrel
    have hszr := HB.out.size
    by_cases hlt : k < xs.length
    · obtain ⟨p, hp⟩ : ∃ p, xs.getD k [] = p := ⟨_, rfl⟩
      have hpx : xs[k] = p := by rw [← hp]; simp [List.getD, hlt]
      have hdr : xs.drop k ++ ks = p :: (xs.drop (k + 1) ++ ks) := by rw [List.drop_eq_getElem_cons hlt, hpx]; rfl
      have htk : xs.take (k + 1) = xs.take k ++ [p] := by rw [List.take_succ_eq_append_getElem hlt, hpx]
      have hmem : p ∈ xs := by rw [← hpx]; exact List.getElem_mem _
      have hm := HM.out
      rw [hdr] at hm
      obtain ⟨g, o, cap, a2, c2, hb, d0, d1, hix, hsl, -⟩ := msg_pop hm
      have hml : (xs.drop (k + 1) ++ ks).length + 1 > ks.length := by rw [List.length_append]; omega
      have hp1 : 0 < p.length := H2.out p hmem
      have hi0 : ∀ W, (Instr.index 9 (Str (p.take 1)) (.int .i64 0)).run Tryd.prog W = .ok (Byt (bt p 0)) W := fun W => by
        have := run_index_str (P := Tryd.prog) Tryd.underlying9 (p.take 1) 0 _ rfl (by rw [List.length_take]; omega) W
        refine this.trans ?_
        cases p with
        | nil => simp at hp1
        | cons a b => rfl
      obtain ⟨n1, hn1⟩ : ∃ n1, (xs.drop (k + 1) ++ ks).length = n1 := ⟨_, rfl⟩
      have hn1k : (ks.length : Int) < (n1 : Int) + 1 := by omega
      rw [hn1] at hb hix
      have HHM := Lib.hid hm; have HTK := Lib.hid htk
      have HVV := Lib.hid (HV.out p hmem)
      have HP := Lib.hid hp
      obtain ⟨c0, c1, cf⟩ := cells2m hb
      obtain ⟨Wb, hWb⟩ : ∃ Wb, wr.alloc (.cells #[Str (p.take 1), Str (p.drop 2)] 86) = Wb := ⟨_, rfl⟩
      have hxb : Ext wr Wb := by rw [← hWb]; exact Below.alloc (Below.refl _ _) (Nat.le_refl _) _
      have hbb : Wb.heap[wr.heap.size]? = some (.cells #[Str (p.take 1), Str (p.drop 2)] 86 (0, 0)) := by rw [← hWb]; exact Array.getElem?_push_size
      obtain ⟨q0, q1, qf⟩ := cells2m hbb
      have HMb := Lib.hid (hm.ext hxb)
      have HOb := Lib.hid (HO.out.ext hxb)
      have HFb := Lib.hid (HFr.out.ext hxb)
      have HBb := Lib.hid (HB.out.trans (Bz.of_ext hxb))
      have HBB := Lib.hid hbb
      have hszb : wr.heap.size < Wb.heap.size := (Array.getElem?_eq_some_iff.1 hbb).1
      have HFL := Lib.hid (show 1 < Wb.heap.size by omega)
      have hsln : slLen _ = (xs.take k).length := own_slLen HO.out
      rw [List.length_take, Nat.min_eq_left (by omega)] at hsln
      clear hxb hbb HO HM HFr HB hb hp hpx hdr htk hmem hm cf
      go_wp2_with fail
      refine (sletter_any (bt p 0) _).mono ?_
      rintro e W ⟨he, hw⟩
      subst W
      subst he
      obtain ⟨lb, hlb⟩ : ∃ lb, letB (bt p 0) = lb := ⟨_, rfl⟩
      rw [hlb]
      have HLB := Lib.hid hlb
      clear hlb
      cases lb with
      | false =>
        go_wp2_with fail
        refine (fine_any bm M _ false _ _ HMb.out).mono ?_
        rintro e W4 ⟨he, hm4, hz4⟩
        subst he
        have hm5 := hm4
        have hszz := hz4.size
        have hbe : (W4.heap[wr.heap.size]? = some (.cells #[Str (p.take 1), Str (p.drop 2)] 86 (0, 0))) := (hz4.block _ (Array.getElem?_eq_some_iff.1 HBB.out).1 (by omega)).trans HBB.out
        obtain ⟨e0, e1, ef⟩ := cells2m hbe
        have HO4 := Lib.hid (show OwnP w.heap.size _ (xs.take k) W4 from ownz_keep HOb.out fun g hg _ hkk => hz4.block g (kind_lt hkk) (by omega))
        have HF4 := Lib.hid (HFb.out.keep (hz4.block _ HFL.out (by omega)))
        have HB4 := Lib.hid (HBb.out.trans hz4)
        have HM4 := Lib.hid hm4
        have hsz4 := HB4.out.size
        have hkl : (xs.take k).length ≤ 100000 := by rw [List.length_take]; omega
        clear hm4 hm5 hz4 hbe
        go_wp2_with (at_builtin; refine wpList_pushz w.heap.size rfl _ _ 22 42 rfl Tryd.underlying22 infoPr rfl (by omega) (by omega) HO4.out [Str (p.take 1), Str (p.drop 2)] rfl (by simp [Str, Value.oneCell']) (by omega) hsz4 rfl rfl ?_; rintro _ w5 ⟨g5, cap5, rfl⟩ hown5 hgr5; have HO5 := Lib.hid (ownP_snoc hown5); have hrow : ∀ j, j < w.heap.size → W4.heap.size ≤ w5.heap.size ∧ (j < W4.heap.size → w5.heap[j]? = W4.heap[j]?) := fun j hj => ⟨hgr5.size, fun hj4 => hgr5.block j hj4 (fun e => by have := (own_ltz HO4.out e.symm); omega)⟩; have HM5 := Lib.hid (HM4.out.chM ((hrow bm hbw).2 (by omega)) (fun j hj _ hj4 => (hrow j (by omega)).2 hj4)); have HF5 := Lib.hid (HF4.out.keep ((hrow _ (by omega)).2 (by omega))); have HB5 := Lib.hid (bz_grown HB4.out hgr5 (fun j e => own_ltz HO4.out e)); obtain ⟨g', o', cap', a5, c5, hb5, -, -, -, hsl5, hm6⟩ := msg_pop HM5.out; rw [hn1] at hb5 hsl5 hm6; obtain ⟨f0, f1, ff⟩ := cells2m hb5; have HM6 := Lib.hid hm6; have f00 := ff 0; clear hown5 hgr5 hrow hb5 hm6)
        go_roundw
        case rel =>
          refine ⟨k + 1, by omega, Lib.hid ?_, Lib.hid ?_, Lib.hid ?_, Lib.hid ?_⟩
          · rw [HTK.out]
            have hO5 := HO5.out
            rw [show (xs.take k).length + 1 = k + 1 by rw [List.length_take]; omega] at hO5
            exact ownz_keep hO5 fun g hg _ hkk => (Bz.set w5 bm 0 _).block g (kind_lt hkk) (by omega)
          · rw [HTK.out, List.all_append]
            have := HM6.out
            simpa [okA, HLB.out, Bool.not_and, Bool.or_assoc] using this
          · exact HF5.out.keep ((Bz.set w5 bm 0 _).block _ (by have := HB5.out.size; omega) (by omega))
          · exact HB5.out.trans (Bz.set _ _ _ _)
        case measure => rw [hsln]; simp only [slLen]; omega
      | true =>
        go_wp2_with fail
        refine (HVV.out Wb HFb.out).mono ?_
        rintro e W3 ⟨rfl, hx3⟩
        have HM3 := Lib.hid (HMb.out.ext hx3)
        have HO3 := Lib.hid (HOb.out.ext hx3)
        have HF3 := Lib.hid (HFb.out.ext hx3)
        have HB3 := Lib.hid (HBb.out.trans (Bz.of_ext hx3))
        have HBB3 := Lib.hid (ext_at hx3 HBB.out)
        have HFL3 := Lib.hid (show 1 < W3.heap.size by have := hx3.size; have := HFL.out; omega)
        have hsz3 := hx3.size
        obtain ⟨vb, hvb⟩ : ∃ vb, vB p = vb := ⟨_, rfl⟩
        rw [hvb]
        have HVB := Lib.hid hvb
        clear hx3 hvb HMb HOb HFb HBb HBB HFL
        go_wp2_with fail
        refine (fine_any bm M _ vb _ _ HM3.out).mono ?_
        rintro e W4 ⟨he, hm4, hz4⟩
        subst he
        have hm5 := hm4
        have hszz := hz4.size
        have hbe : (W4.heap[wr.heap.size]? = some (.cells #[Str (p.take 1), Str (p.drop 2)] 86 (0, 0))) := (hz4.block _ (Array.getElem?_eq_some_iff.1 HBB3.out).1 (by omega)).trans HBB3.out
        obtain ⟨e0, e1, ef⟩ := cells2m hbe
        have HO4 := Lib.hid (show OwnP w.heap.size _ (xs.take k) W4 from ownz_keep HO3.out fun g hg _ hkk => hz4.block g (kind_lt hkk) (by omega))
        have HF4 := Lib.hid (HF3.out.keep (hz4.block _ HFL3.out (by omega)))
        have HB4 := Lib.hid (HB3.out.trans hz4)
        have HM4 := Lib.hid hm4
        have hsz4 := HB4.out.size
        have hkl : (xs.take k).length ≤ 100000 := by rw [List.length_take]; omega
        clear hm4 hm5 hz4 hbe
        go_wp2_with (at_builtin; refine wpList_pushz w.heap.size rfl _ _ 22 42 rfl Tryd.underlying22 infoPr rfl (by omega) (by omega) HO4.out [Str (p.take 1), Str (p.drop 2)] rfl (by simp [Str, Value.oneCell']) (by omega) hsz4 rfl rfl ?_; rintro _ w5 ⟨g5, cap5, rfl⟩ hown5 hgr5; have HO5 := Lib.hid (ownP_snoc hown5); have hrow : ∀ j, j < w.heap.size → W4.heap.size ≤ w5.heap.size ∧ (j < W4.heap.size → w5.heap[j]? = W4.heap[j]?) := fun j hj => ⟨hgr5.size, fun hj4 => hgr5.block j hj4 (fun e => by have := (own_ltz HO4.out e.symm); omega)⟩; have HM5 := Lib.hid (HM4.out.chM ((hrow bm hbw).2 (by omega)) (fun j hj _ hj4 => (hrow j (by omega)).2 hj4)); have HF5 := Lib.hid (HF4.out.keep ((hrow _ (by omega)).2 (by omega))); have HB5 := Lib.hid (bz_grown HB4.out hgr5 (fun j e => own_ltz HO4.out e)); obtain ⟨g', o', cap', a5, c5, hb5, -, -, -, hsl5, hm6⟩ := msg_pop HM5.out; rw [hn1] at hb5 hsl5 hm6; obtain ⟨f0, f1, ff⟩ := cells2m hb5; have HM6 := Lib.hid hm6; have f00 := ff 0; clear hown5 hgr5 hrow hb5 hm6)
        go_roundw
        case rel =>
          refine ⟨k + 1, by omega, Lib.hid ?_, Lib.hid ?_, Lib.hid ?_, Lib.hid ?_⟩
          · rw [HTK.out]
            have hO5 := HO5.out
            rw [show (xs.take k).length + 1 = k + 1 by rw [List.length_take]; omega] at hO5
            exact ownz_keep hO5 fun g hg _ hkk => (Bz.set w5 bm 0 _).block g (kind_lt hkk) (by omega)
          · rw [HTK.out, List.all_append]
            have := HM6.out
            simpa [okA, HLB.out, HVB.out, Bool.not_and, Bool.or_assoc] using this
          · exact HF5.out.keep ((Bz.set w5 bm 0 _).block _ (by have := HB5.out.size; omega) (by omega))
          · exact HB5.out.trans (Bz.set _ _ _ _)
        case measure => rw [hsln]; simp only [slLen]; omega
    · obtain rfl : k = xs.length := by omega
      have hO := HO.out; have hM2 := HM.out
      rw [List.take_length] at hO hM2
      rw [List.drop_length, List.nil_append] at hM2
      obtain ⟨v2, hb2, ao, cap, hv2, -⟩ := id hM2
      subst hv2
      obtain ⟨c0, c1, cf⟩ := cells2m hb2
      have HO2 := Lib.hid hO; have HM2 := Lib.hid hM2
      clear hO hM2 hb2 HO HM
      go_wp2
      go_ret
      exact ⟨_, rfl, HO2.out, HM2.out, HB.out⟩
end Go.Proofs.YtjkbigecejogdaaDoor
