/-
  ScramNonces, the walk.
-/
import Derived.Test.YtiellfhdfifbhaaDoorRows
import Derived.Test.YtiellfhdfifbhaaDoorSam
import Derived.Test.YtiellfhdfifbhaaDoorSpt
import Derived.Test.YtiellfhdfifbhaaDoorAwf
import Derived.Test.YtiellfhdfifbhaaDoorSml
namespace Go.Proofs.YtiellfhdfifbhaaDoor
open Go.RowKit
set_option maxRecDepth 100000
set_option linter.unusedVariables false
set_option linter.unusedSimpArgs false

theorem step_pushz {P : Program} {w : World} {ops : Array Oper} {o : Oper} {a : Act} {K : Act → World → Prop} {Q : Exit → Act → World → Prop} {E : Prop} (base : Nat) (hgd : o.guard = none) (s x : Operand) (t e : TypeId)
    (ho : o.op = .call { callee := .builtin .append, args := #[s, x], argTypes := #[t, t] }) (ht : P.underlying t = some (.slice e))
    {z : Value} {sz bytes : Nat} (hinfo : (P.info? e).map (fun i => (i.zero, i.size, i.bytes)) = some (some z, sz, bytes)) (hz : z.cells.size = sz) (hz0 : 0 < sz) (hb : bytes ≤ 1000)
    {v : Value} {n : Nat} {xs us : List Value} (hown : w.ownsRow base e sz v n xs) (hul : us.length = sz) (hu : ∀ u ∈ us, u.oneCell' = true) (hn : n + 1 ≤ 100000000) (hbase : base ≤ w.heap.size)
    (hs : a.eval s = v) (hx : a.eval x = .slice (some ⟨w.heap.size, 0, none⟩) 1 1)
    (h : ∀ v' w', (∃ g cap, v' = .slice (some ⟨g, 0, none⟩) (n + 1) cap) → w'.ownsRow base e sz v' (n + 1) (xs ++ us) → w.grownBy w' v.ownBlock → K (a.put o.dst v') w') :
    if Region.wanted o (yielded ops a.tmps) = true then Oper.wp P o a (w.alloc (.cells us.toArray e)) K Q else E := by
  have hw : Region.wanted o (yielded ops a.tmps) = true := by simp [Region.wanted, hgd]
  rw [if_pos hw]
  obtain ⟨i0, hi, hi0, hi1, hi2⟩ := info_parts hinfo
  obtain ⟨v', w', hrun, h1, h2, _⟩ := run_append_own (P := P) (w.alloc (.cells us.toArray e)) base t o.type e i0 z sz bytes ht hi hi0 hi1 hi2 hz hz0 v n xs (hown.alloc _) ⟨w.heap.size, 0, none⟩ 1 1 us (by omega)
    (fun j y hj => alloc_get j y hj) hu (by unfold maxLen; omega)
    (by have : (n + 1) * bytes ≤ 100000000 * 1000 := Nat.mul_le_mul hn hb
        omega) (by simp; omega)
  unfold Oper.wp
  simp [execOp, ho, resolve, invoke, builtin, hs, hx, hrun, Result.andThen]
  refine h v' w' ?_ h1 (grownBy_from h2)
  rcases h1.2 with ⟨_, h0⟩ | ⟨g, cap, cur, hv, _⟩
  · omega
  · exact ⟨g, cap, hv⟩
theorem ownz_lt {W : World} {B e z : Nat} {v : Value} {n : Nat} {xs : List Value} (h : W.ownsRow B e z v n xs) : ∀ k, v.ownBlock = some k → B ≤ k := fun k hk => by
  rcases h.2 with ⟨hn, _⟩ | ⟨g, cap, cur, hv, hbg, _⟩
  · rw [hn] at hk; simp [Value.ownBlock] at hk
  · rw [hv] at hk; simp [Value.ownBlock] at hk; omega
theorem rowP_all {W : World} {B : Nat} {v : Value} {A : List (List UInt8)} {k : Nat} (h : W.ownsRow B 28 2 v k (attF (A.take k))) (hk : A.length = k) : RowP W v A := by
  subst hk
  rw [List.take_length] at h
  exact rowP_of_own h
theorem wpAny_act {P : Program} {md : Region.Mode} {ops : Array Oper} {Q : Exit → Act → World → Prop} {fuel : Nat} {listed : Array Bool} {a a' : Act} {w : World} (H : wpAny P md ops Q fuel listed a' w) (h : a = a') : wpAny P md ops Q fuel listed a w := by rw [h]; exact H
theorem own_get {W : World} {B : Nat} {v : Value} {ps : List (List UInt8)} (h : W.ownsRow B 9 1 v ps.length (ps.map Str)) (hne : ps ≠ []) : ∃ g cap, v = .slice (some ⟨g, 0, none⟩) ps.length cap ∧ B ≤ g ∧ ps.length ≤ cap ∧ cap ≤ maxLen ∧ ∀ (j : Nat) p, ps[j]? = some p → W.cell? ⟨g, j, none⟩ = some (Str p) := by
  rcases h.2 with ⟨hn, h0⟩ | ⟨g, cap, cur, hv, hbg, hg, hn, hm, _, ht⟩
  · exact absurd (List.eq_nil_of_length_eq_zero h0) hne
  · refine ⟨g, cap, hv, hbg, hn, hm, fun j p hj => ?_⟩
    have hlt : j < ps.length := (List.getElem?_eq_some_iff.1 hj).1
    have a : (ps.map Str)[j]? = some (Str p) := by simp [hj]
    rw [← ht, List.getElem?_take, if_pos (by omega)] at a
    rw [cell_of_row W g _ cur 9 (0, 0) hg, ← Array.getElem?_toList]
    exact a

set_option maxHeartbeats 4000000 in
theorem nonces_any (l0 : List UInt8) (a1 : Int) (ha0 : 0 ≤ a1) (ha1 : a1 < 256) (w : World) (hM : MaxAt w) (hF : FormsAt w) :
    Calls Tryd.prog 3 #[Str l0, .int .u8 a1] w fun e w' => e = .returned (.bool true) ∧ Ext w w' := by
  have HM := Lib.hid hM; have HF := Lib.hid hF
  have HC := Lib.hid (fun W => cutText_any l0 200 W (by omega))
  have hll : (l0.take 200).length ≤ 200 := by simp; omega
  generalize l0.take 200 = l at HC hll
  clear hM hF
  go_enter Tryd.func3, Tryd.ntmps3
  go_wp2_with fail
  refine (awake_law w HM.out HF.out).mono ?_
  rintro e W0 ⟨he, hx0⟩
  subst he
  have HX0 := Lib.hid hx0; clear hx0
  obtain ⟨kq, hkq⟩ : ∃ kq : Nat, Hid (1 + a1 % 4 = (kq : Int)) := ⟨(1 + a1 % 4).toNat, Lib.hid (by omega)⟩
  have hk1 : 1 ≤ kq ∧ kq ≤ 4 := by have := hkq.out; omega
  go_wp2_with fail
  refine (HC.out W0).mono ?_
  rintro e W ⟨he, hw⟩
  subst he; subst hw
  go_wp2_with fail
  refine (Split_any l (by omega) W).mono ?_
  rintro e W1 ⟨sv, he, hown, hx1⟩
  subst he
  obtain ⟨g, gc, rfl, hbg, hgc, hgm, hcells⟩ := own_get hown (spl_ne l)
  have hn1 := spl_len l
  have hAs := tw_step isAt (spl l)
  have hAl := tw_le isAt (spl l)
  have hAD : attsP l = (spl l).takeWhile isAt := rfl
  have hpl := spl_part l
  have hcells2 : ∀ j, j < (spl l).length → W1.cell? ⟨g, j, none⟩ = some (Str ((spl l).getD j [])) := fun j hj => hcells j _ (by simp [List.getD, hj])
  have HX1 := Lib.hid (ext_trans HX0.out hx1)
  have hpos : 0 < (spl l).length := List.length_pos_iff.2 (spl_ne l)
  clear hown hx1 hcells hbg
  have hpg : ∀ k, k < (spl l).length → ((spl l).getD k []).length ≤ 200 := fun k h => by
    have := hpl ((spl l).getD k []) (by simp [List.getD, h])
    omega
  clear hpl
  generalize spl l = ps at *
  generalize ps.takeWhile isAt = A at *
  generalize hn : ps.length = n at *
  have HA := Lib.hid hAs; have HAL := Lib.hid hAl; have HAD := Lib.hid hAD; have HPG := Lib.hid hpg; have HCL := Lib.hid hcells2
  have hA200 : A.length ≤ 201 := by have := HAL.out; omega
  have HT1 := Lib.hid (fun W hW => attributes_law l 1000 (by omega) (by omega) W hW)
  have HTK := Lib.hid (fun W hW => attributes_law l kq (by omega) (by omega) W hW)
  rw [hAD] at HT1 HTK
  rw [List.take_of_length_le (show A.length ≤ 1000 by omega)] at HT1
  replace HT1 : Hid (∀ W, MaxAt W → Calls Tryd.prog 11 #[Str l, .int .i64 1000] W fun e w' => ∃ v, e = .returned v ∧ RowP w' v A ∧ Ext W w') := Lib.hid fun W hW => (HT1.out W hW).mono fun e w' ⟨v, he, ho, hx⟩ => ⟨v, he, rowP_of_own ho, hx⟩
  replace HTK : Hid (∀ W, MaxAt W → Calls Tryd.prog 11 #[Str l, .int .i64 (kq : Int)] W fun e w' => ∃ v, e = .returned v ∧ RowP w' v (A.take kq) ∧ Ext W w') := Lib.hid fun W hW => (HTK.out W hW).mono fun e w' ⟨v, he, ho, hx⟩ => ⟨v, he, rowP_of_own ho, hx⟩
  clear hAs hAl hAD hcells2 hpg hn
  go_wp2_with fail
  go_loopw [5, 16] (fun v i wr => ∃ k : Nat, k ≤ A.length ∧ k ≤ n ∧ i = .int .i64 k ∧ wr.ownsRow W1.heap.size 28 2 v k (attF (A.take k)) ∧ Ext W1 wr) (fun _ i _ => n - (intOf i).toNat)
  case atStart => exact ⟨0, by omega, by omega, rfl, World.ownsRow_nil _ _ _ _, Below.refl _ _⟩
  case round =>
    obtain ⟨k, hkA, hk, rfl, hown, hext⟩ := hrel
    by_cases h3 : k < n
    · have hc := ext_cell hext (HCL.out k h3)
      obtain ⟨hy, hn'⟩ := HA.out k hkA h3
      have hpp := HPG.out k h3
      have HY := Lib.hid hy; have HN' := Lib.hid hn'
      have HAT := Lib.hid (show isAt (ps.getD k []) = (decide (2 ≤ (ps.getD k []).length) && (bt (ps.getD k []) 1 == 61)) from rfl)
      clear hy hn'
      generalize ps.getD k [] = p at *
      by_cases h2 : 2 ≤ p.length
      · have t2 : decide ((p.length : Int) < 2) = false := by simp; omega
        have hix : ∀ W, (Instr.index 9 (Str p) (.int .i64 1)).run Tryd.prog W = .ok (Byt (bt p 1)) W := fun W => run_index_str Tryd.underlying9 p 1 _ rfl (by omega) W
        obtain ⟨c, hcb⟩ : ∃ c, bt p 1 = c := ⟨_, rfl⟩
        rw [hcb] at hix HAT
        clear hcb
        by_cases h61 : c = 61
        · subst h61
          have hat : isAt p = true := by rw [HAT.out]; simp [h2]
          obtain ⟨hlt, hg⟩ := HY.out hat
          have htk : A.take (k + 1) = A.take k ++ [p] := by rw [List.take_succ_eq_append_getElem hlt]; congr 2; rw [← hg]; simp [List.getD, hlt]
          have hFF : attF (A.take (k + 1)) = attF (A.take k) ++ [Str (p.take 1), Str (p.drop 2)] := by rw [htk]; simp [attF, attV]
          have HFF := Lib.hid hFF
          clear hFF htk hg hat
          have s1 : ∀ W, (Instr.slice 9 (Str p) none (some (.int .i64 1)) none).run Tryd.prog W = .ok (Str (p.take 1)) W := fun W => by
            have h := run_slice_string_h (P := Tryd.prog) (w := W) 9 ⟨p.toArray⟩ Tryd.underlying9 .i64 1 (by omega) (by rw [size_list]; omega)
            rw [h]; simp [extract_list, size_list]
          have s2 : ∀ W, (Instr.slice 9 (Str p) (some (.int .i64 2)) none none).run Tryd.prog W = .ok (Str (p.drop 2)) W := fun W => by
            have h := run_slice_string_l (P := Tryd.prog) (w := W) 9 ⟨p.toArray⟩ Tryd.underlying9 .i64 2 (by omega) (by rw [size_list]; omega)
            rw [h]; simp [extract_list, size_list]
          generalize p.take 1 = q1 at *
          generalize p.drop 2 = q2 at *
          generalize attF (A.take k) = fl at *
          have hix' : ∀ W, (Instr.index 9 (Str p) (.int .i64 1)).run Tryd.prog W = .ok (.int .u8 61) W := hix
          clear hix
          have Hown := Lib.hid hown
          clear hown
          go_wp2
          go_region_law (try rw [drew_alloc]; refine step_pushz W1.heap.size rfl _ _ 24 28 rfl Tryd.underlying24 infoPair rfl (by omega) (by omega) (us := [Str q1, Str q2]) (ownz_ext Hown.out (Below.drew (Below.refl _ _))) rfl (by simp [Str, Value.oneCell']) (by omega) hext.size rfl rfl ?_; rintro _ w1 ⟨g1, cap1, rfl⟩ hown1 hgr1; have Hown1 := Lib.hid hown1; have Hgr1 := Lib.hid hgr1; clear hown1 hgr1)
          go_simp
          go_wp2
          go_roundw
          case rel =>
            exact ⟨k + 1, by omega, by omega, by go_num, by rw [HFF.out]; exact Hown1.out, Below.grown hext ⟨Hgr1.out.os, Hgr1.out.tape, Hgr1.out.output, Hgr1.out.size, Hgr1.out.block⟩ hext.size (fun b hb => (ownz_lt Hown.out b hb))⟩
          case measure => simp [intOf] <;> omega
        · have hcn : ((c.toNat : Int) != 61) = true := by
            have : c.toNat ≠ 61 := fun h => h61 (UInt8.toNat_inj.1 h)
            simp; omega
          have hAk : A.length = k := HN'.out (by rw [HAT.out]; simp [h61])
          have hRP := rowP_all hown hAk
          obtain ⟨cp1, cp2, hcs, hRK, hsl⟩ := hRP.slice (k := min A.length kq) (Nat.min_le_left _ _)
          rw [show A.take (min A.length kq) = A.take kq by rw [List.take_eq_take_iff]; omega] at hRK
          subst hcs
          have hdr : Ext wr wr.drew := Below.drew (Below.refl _ _)
          have hm1 : MaxAt wr.drew := (HM.out.ext (ext_trans HX1.out hext)).ext hdr
          replace hRP := hRP.ext hdr; replace hRK := hRK.ext hdr
          have hmin := run_min_nat Tryd.prog A.length kq kq rfl
          have hrm : a1 % 4 < 4 := by omega
          have hrm0 : 0 ≤ a1 % 4 := by omega
          have HRP := Lib.hid hRP; have HRK := Lib.hid hRK; have HM1 := Lib.hid hm1; have HAK := Lib.hid hAk; have HXT := Lib.hid (ext_trans (ext_trans HX1.out hext) hdr)
          have hkq' : 1 + a1 % 4 = (kq : Int) := hkq.out
          clear hRP hRK hm1 hown hext hAk hdr
          generalize hnonF : nonF l = nf
          go_wp2
          refine wp_region_any (by kernel_rfl) ?_
          simp only [List.size_toArray, List.length_cons, List.length_nil, Nat.reduceAdd, Array.replicate_succ, Array.replicate_zero, List.push_toArray, List.nil_append, List.cons_append]
          refine wpAny_take (i := 0) (v := ?_) rfl (by kernel_rfl) (by kernel_rfl) (by kernel_rfl) (fun _ _ _ h => h) (Or.inl ⟨by rfl, ?_⟩) ?_
          rotate_left 1
          · (intro _; go_simp; (try go_bits); (try with_reducible rfl))
          refine wpAny_act ?_ (by go_simp; with_reducible rfl)
          refine wpAny_take (i := 2) (v := ?_) rfl (by kernel_rfl) (by kernel_rfl) (by kernel_rfl) (fun _ _ _ h => h) (Or.inl ⟨by rfl, ?_⟩) ?_
          rotate_left 1
          · (intro _; go_simp; (try go_bits); (try with_reducible rfl))
          refine wpAny_act ?_ (by go_simp; with_reducible rfl)
          refine wpAny_ready (rs := [1]) (by kernel_rfl) (by simp) ?_
          refine AllReady.cons rfl (fun K hK => ?_) AllReady.nil
          go_simp
          refine (nonce_scram l (by omega) _).mono ?_
          rintro e w' ⟨he, hw'⟩
          subst he; subst hw'
          go_simp
          refine hK _ _ ?_; clear hK K
          refine wpAny_ready (rs := [3]) (by kernel_rfl) (by simp) ?_
          refine AllReady.cons rfl (fun K hK => ?_) AllReady.nil
          go_simp
          refine (nonce_ref07 l (by omega) _).mono ?_
          rintro e w' ⟨he, hw'⟩
          subst he; subst hw'
          go_simp
          refine hK _ _ ?_; clear hK K
          refine wpAny_take (i := 4) (v := ?_) rfl (by kernel_rfl) (by kernel_rfl) (by kernel_rfl) (fun _ _ _ h => h) (Or.inl ⟨by rfl, ?_⟩) ?_
          rotate_left 1
          · (intro _; go_simp; (try go_bits); (try with_reducible rfl))
          refine wpAny_act ?_ (by go_simp; with_reducible rfl)
          refine wpAny_take (i := 5) (v := ?_) rfl (by kernel_rfl) (by kernel_rfl) (by kernel_rfl) (fun _ _ _ h => h) (Or.inl ⟨by rfl, ?_⟩) ?_
          rotate_left 1
          · (intro _; go_simp; (try go_bits); (try with_reducible rfl))
          refine wpAny_act ?_ (by go_simp; with_reducible rfl)
          refine wpAny_take (i := 6) (v := ?_) rfl (by kernel_rfl) (by kernel_rfl) (by kernel_rfl) (fun _ _ _ h => h) (Or.inl ⟨by rfl, ?_⟩) ?_
          rotate_left 1
          · (intro _; go_simp; (try go_bits); (try with_reducible rfl))
          refine wpAny_act ?_ (by go_simp; with_reducible rfl)
          refine wpAny_take (i := 8) (v := ?_) rfl (by kernel_rfl) (by kernel_rfl) (by kernel_rfl) (fun _ _ _ h => h) (Or.inl ⟨by rfl, ?_⟩) ?_
          rotate_left 1
          · (intro _; go_simp; (try go_bits); (try with_reducible rfl))
          refine wpAny_act ?_ (by go_simp; with_reducible rfl)
          refine wpAny_ready (rs := [7]) (by kernel_rfl) (by simp) ?_
          refine AllReady.cons rfl (fun K hK => ?_) AllReady.nil
          go_simp
          refine (HT1.out _ HM1.out).mono ?_
          rintro e X1 ⟨x1, he, hr1, he1⟩
          subst he
          go_simp
          refine hK _ _ ?_; clear hK K
          refine wpAny_ready (rs := [9]) (by kernel_rfl) (by simp) ?_
          refine AllReady.cons rfl (fun K hK => ?_) AllReady.nil
          go_simp
          refine (same_true x1 _ A (by omega) _ hr1 (HRP.out.ext he1)).mono ?_
          rintro e X2 ⟨he, he2⟩
          subst he
          go_simp
          refine hK _ _ ?_; clear hK K
          refine wpAny_take (i := 10) (v := ?_) rfl (by kernel_rfl) (by kernel_rfl) (by kernel_rfl) (fun _ _ _ h => h) (Or.inl ⟨by rfl, ?_⟩) ?_
          rotate_left 1
          · (intro _; go_simp; (try go_bits); (try with_reducible rfl))
          refine wpAny_act ?_ (by go_simp; with_reducible rfl)
          refine wpAny_take (i := 11) (v := ?_) rfl (by kernel_rfl) (by kernel_rfl) (by kernel_rfl) (fun _ _ _ h => h) (Or.inl ⟨by rfl, ?_⟩) ?_
          rotate_left 1
          · (intro _; go_simp; (try go_bits); (try with_reducible rfl))
          refine wpAny_act ?_ (by go_simp; with_reducible rfl)
          refine wpAny_take (i := 12) (v := ?_) rfl (by kernel_rfl) (by kernel_rfl) (by kernel_rfl) (fun _ _ _ h => h) (Or.inl ⟨by rfl, ?_⟩) ?_
          rotate_left 1
          · (intro _; go_simp; (try go_bits); (try with_reducible rfl))
          refine wpAny_act ?_ (by go_simp; with_reducible rfl)
          refine wpAny_take (i := 13) (v := ?_) rfl (by kernel_rfl) (by kernel_rfl) (by kernel_rfl) (fun _ _ _ h => h) (Or.inl ⟨by rfl, ?_⟩) ?_
          rotate_left 1
          · (intro _; go_simp; (try go_bits); (try with_reducible rfl))
          refine wpAny_act ?_ (by go_simp; with_reducible rfl)
          refine wpAny_take (i := 15) (v := ?_) rfl (by kernel_rfl) (by kernel_rfl) (by kernel_rfl) (fun _ _ _ h => h) (Or.inl ⟨by rfl, ?_⟩) ?_
          rotate_left 1
          · (intro _; go_simp; (try go_bits); (try with_reducible rfl))
          refine wpAny_act ?_ (by go_simp; with_reducible rfl)
          refine wpAny_take (i := 16) (v := ?_) rfl (by kernel_rfl) (by kernel_rfl) (by kernel_rfl) (fun _ _ _ h => h) (Or.inl ⟨by rfl, ?_⟩) ?_
          rotate_left 1
          · (intro _; go_simp; (try go_bits); (try with_reducible rfl))
          refine wpAny_act ?_ (by go_simp; with_reducible rfl)
          refine wpAny_take (i := 17) (v := ?_) rfl (by kernel_rfl) (by kernel_rfl) (by kernel_rfl) (fun _ _ _ h => h) (Or.inl ⟨by rfl, ?_⟩) ?_
          rotate_left 1
          · (intro _; go_simp; (try go_bits); (try with_reducible rfl))
          refine wpAny_act ?_ (by go_simp; with_reducible rfl)
          refine wpAny_take (i := 18) (v := ?_) rfl (by kernel_rfl) (by kernel_rfl) (by kernel_rfl) (fun _ _ _ h => h) (Or.inl ⟨by rfl, ?_⟩) ?_
          rotate_left 1
          · (intro _; go_simp; (try go_bits); (try with_reducible rfl))
          refine wpAny_act ?_ (by go_simp; with_reducible rfl)
          refine wpAny_take (i := 19) (v := ?_) rfl (by kernel_rfl) (by kernel_rfl) (by kernel_rfl) (fun _ _ _ h => h) (Or.inl ⟨by rfl, ?_⟩) ?_
          rotate_left 1
          · (intro _; go_simp; (try go_bits); (try with_reducible rfl))
          refine wpAny_act ?_ (by go_simp; with_reducible rfl)
          refine wpAny_take (i := 20) (v := ?_) rfl (by kernel_rfl) (by kernel_rfl) (by kernel_rfl) (fun _ _ _ h => h) (Or.inl ⟨by rfl, ?_⟩) ?_
          rotate_left 1
          · (intro _; go_simp; (try go_bits); (try with_reducible rfl))
          refine wpAny_act ?_ (by go_simp; with_reducible rfl)
          refine wpAny_ready (rs := [14]) (by kernel_rfl) (by simp) ?_
          refine AllReady.cons rfl (fun K hK => ?_) AllReady.nil
          go_simp
          refine (HTK.out _ (HM1.out.ext (ext_trans he1 he2))).mono ?_
          rintro e X3 ⟨x2, he, hr2, he3⟩
          subst he
          go_simp
          refine hK _ _ ?_; clear hK K
          refine wpAny_ready (rs := [21]) (by kernel_rfl) (by simp) ?_
          refine AllReady.cons rfl (fun K hK => ?_) AllReady.nil
          go_simp
          refine (same_true x2 _ (A.take kq) (by simp; omega) _ hr2 (HRK.out.ext (ext_trans he1 (ext_trans he2 he3)))).mono ?_
          rintro e X4 ⟨he, he4⟩
          subst he
          go_simp
          refine hK _ _ ?_; clear hK K
          refine wpAny_take (i := 22) (v := ?_) rfl (by kernel_rfl) (by kernel_rfl) (by kernel_rfl) (fun _ _ _ h => h) (Or.inl ⟨by rfl, ?_⟩) ?_
          rotate_left 1
          · (intro _; go_simp; (try go_bits); (try with_reducible rfl))
          refine wpAny_act ?_ (by go_simp; with_reducible rfl)
          refine wpAny_take (i := 23) (v := ?_) rfl (by kernel_rfl) (by kernel_rfl) (by kernel_rfl) (fun _ _ _ h => h) (Or.inl ⟨by rfl, ?_⟩) ?_
          rotate_left 1
          · (intro _; go_simp; (try go_bits); (try with_reducible rfl))
          refine wpAny_act ?_ (by go_simp; with_reducible rfl)
          refine wpAny_done (by kernel_rfl) ?_ _
          go_simp
          go_wp2
          go_ret
          exact ⟨rfl, ext_trans HXT.out (ext_trans he1 (ext_trans he2 (ext_trans he3 he4)))⟩
      · have t2 : decide ((p.length : Int) < 2) = true := by simp; omega
        have hAk : A.length = k := HN'.out (by rw [HAT.out]; simp [h2])
        have hRP := rowP_all hown hAk
        obtain ⟨cp1, cp2, hcs, hRK, hsl⟩ := hRP.slice (k := min A.length kq) (Nat.min_le_left _ _)
        rw [show A.take (min A.length kq) = A.take kq by rw [List.take_eq_take_iff]; omega] at hRK
        subst hcs
        have hdr : Ext wr wr.drew := Below.drew (Below.refl _ _)
        have hm1 : MaxAt wr.drew := (HM.out.ext (ext_trans HX1.out hext)).ext hdr
        replace hRP := hRP.ext hdr; replace hRK := hRK.ext hdr
        have hmin := run_min_nat Tryd.prog A.length kq kq rfl
        have hrm : a1 % 4 < 4 := by omega
        have hrm0 : 0 ≤ a1 % 4 := by omega
        have HRP := Lib.hid hRP; have HRK := Lib.hid hRK; have HM1 := Lib.hid hm1; have HAK := Lib.hid hAk; have HXT := Lib.hid (ext_trans (ext_trans HX1.out hext) hdr)
        have hkq' : 1 + a1 % 4 = (kq : Int) := hkq.out
        clear hRP hRK hm1 hown hext hAk hdr
        generalize hnonF : nonF l = nf
        go_wp2
        refine wp_region_any (by kernel_rfl) ?_
        simp only [List.size_toArray, List.length_cons, List.length_nil, Nat.reduceAdd, Array.replicate_succ, Array.replicate_zero, List.push_toArray, List.nil_append, List.cons_append]
        refine wpAny_take (i := 0) (v := ?_) rfl (by kernel_rfl) (by kernel_rfl) (by kernel_rfl) (fun _ _ _ h => h) (Or.inl ⟨by rfl, ?_⟩) ?_
        rotate_left 1
        · (intro _; go_simp; (try go_bits); (try with_reducible rfl))
        refine wpAny_act ?_ (by go_simp; with_reducible rfl)
        refine wpAny_take (i := 2) (v := ?_) rfl (by kernel_rfl) (by kernel_rfl) (by kernel_rfl) (fun _ _ _ h => h) (Or.inl ⟨by rfl, ?_⟩) ?_
        rotate_left 1
        · (intro _; go_simp; (try go_bits); (try with_reducible rfl))
        refine wpAny_act ?_ (by go_simp; with_reducible rfl)
        refine wpAny_ready (rs := [1]) (by kernel_rfl) (by simp) ?_
        refine AllReady.cons rfl (fun K hK => ?_) AllReady.nil
        go_simp
        refine (nonce_scram l (by omega) _).mono ?_
        rintro e w' ⟨he, hw'⟩
        subst he; subst hw'
        go_simp
        refine hK _ _ ?_; clear hK K
        refine wpAny_ready (rs := [3]) (by kernel_rfl) (by simp) ?_
        refine AllReady.cons rfl (fun K hK => ?_) AllReady.nil
        go_simp
        refine (nonce_ref07 l (by omega) _).mono ?_
        rintro e w' ⟨he, hw'⟩
        subst he; subst hw'
        go_simp
        refine hK _ _ ?_; clear hK K
        refine wpAny_take (i := 4) (v := ?_) rfl (by kernel_rfl) (by kernel_rfl) (by kernel_rfl) (fun _ _ _ h => h) (Or.inl ⟨by rfl, ?_⟩) ?_
        rotate_left 1
        · (intro _; go_simp; (try go_bits); (try with_reducible rfl))
        refine wpAny_act ?_ (by go_simp; with_reducible rfl)
        refine wpAny_take (i := 5) (v := ?_) rfl (by kernel_rfl) (by kernel_rfl) (by kernel_rfl) (fun _ _ _ h => h) (Or.inl ⟨by rfl, ?_⟩) ?_
        rotate_left 1
        · (intro _; go_simp; (try go_bits); (try with_reducible rfl))
        refine wpAny_act ?_ (by go_simp; with_reducible rfl)
        refine wpAny_take (i := 6) (v := ?_) rfl (by kernel_rfl) (by kernel_rfl) (by kernel_rfl) (fun _ _ _ h => h) (Or.inl ⟨by rfl, ?_⟩) ?_
        rotate_left 1
        · (intro _; go_simp; (try go_bits); (try with_reducible rfl))
        refine wpAny_act ?_ (by go_simp; with_reducible rfl)
        refine wpAny_take (i := 8) (v := ?_) rfl (by kernel_rfl) (by kernel_rfl) (by kernel_rfl) (fun _ _ _ h => h) (Or.inl ⟨by rfl, ?_⟩) ?_
        rotate_left 1
        · (intro _; go_simp; (try go_bits); (try with_reducible rfl))
        refine wpAny_act ?_ (by go_simp; with_reducible rfl)
        refine wpAny_ready (rs := [7]) (by kernel_rfl) (by simp) ?_
        refine AllReady.cons rfl (fun K hK => ?_) AllReady.nil
        go_simp
        refine (HT1.out _ HM1.out).mono ?_
        rintro e X1 ⟨x1, he, hr1, he1⟩
        subst he
        go_simp
        refine hK _ _ ?_; clear hK K
        refine wpAny_ready (rs := [9]) (by kernel_rfl) (by simp) ?_
        refine AllReady.cons rfl (fun K hK => ?_) AllReady.nil
        go_simp
        refine (same_true x1 _ A (by omega) _ hr1 (HRP.out.ext he1)).mono ?_
        rintro e X2 ⟨he, he2⟩
        subst he
        go_simp
        refine hK _ _ ?_; clear hK K
        refine wpAny_take (i := 10) (v := ?_) rfl (by kernel_rfl) (by kernel_rfl) (by kernel_rfl) (fun _ _ _ h => h) (Or.inl ⟨by rfl, ?_⟩) ?_
        rotate_left 1
        · (intro _; go_simp; (try go_bits); (try with_reducible rfl))
        refine wpAny_act ?_ (by go_simp; with_reducible rfl)
        refine wpAny_take (i := 11) (v := ?_) rfl (by kernel_rfl) (by kernel_rfl) (by kernel_rfl) (fun _ _ _ h => h) (Or.inl ⟨by rfl, ?_⟩) ?_
        rotate_left 1
        · (intro _; go_simp; (try go_bits); (try with_reducible rfl))
        refine wpAny_act ?_ (by go_simp; with_reducible rfl)
        refine wpAny_take (i := 12) (v := ?_) rfl (by kernel_rfl) (by kernel_rfl) (by kernel_rfl) (fun _ _ _ h => h) (Or.inl ⟨by rfl, ?_⟩) ?_
        rotate_left 1
        · (intro _; go_simp; (try go_bits); (try with_reducible rfl))
        refine wpAny_act ?_ (by go_simp; with_reducible rfl)
        refine wpAny_take (i := 13) (v := ?_) rfl (by kernel_rfl) (by kernel_rfl) (by kernel_rfl) (fun _ _ _ h => h) (Or.inl ⟨by rfl, ?_⟩) ?_
        rotate_left 1
        · (intro _; go_simp; (try go_bits); (try with_reducible rfl))
        refine wpAny_act ?_ (by go_simp; with_reducible rfl)
        refine wpAny_take (i := 15) (v := ?_) rfl (by kernel_rfl) (by kernel_rfl) (by kernel_rfl) (fun _ _ _ h => h) (Or.inl ⟨by rfl, ?_⟩) ?_
        rotate_left 1
        · (intro _; go_simp; (try go_bits); (try with_reducible rfl))
        refine wpAny_act ?_ (by go_simp; with_reducible rfl)
        refine wpAny_take (i := 16) (v := ?_) rfl (by kernel_rfl) (by kernel_rfl) (by kernel_rfl) (fun _ _ _ h => h) (Or.inl ⟨by rfl, ?_⟩) ?_
        rotate_left 1
        · (intro _; go_simp; (try go_bits); (try with_reducible rfl))
        refine wpAny_act ?_ (by go_simp; with_reducible rfl)
        refine wpAny_take (i := 17) (v := ?_) rfl (by kernel_rfl) (by kernel_rfl) (by kernel_rfl) (fun _ _ _ h => h) (Or.inl ⟨by rfl, ?_⟩) ?_
        rotate_left 1
        · (intro _; go_simp; (try go_bits); (try with_reducible rfl))
        refine wpAny_act ?_ (by go_simp; with_reducible rfl)
        refine wpAny_take (i := 18) (v := ?_) rfl (by kernel_rfl) (by kernel_rfl) (by kernel_rfl) (fun _ _ _ h => h) (Or.inl ⟨by rfl, ?_⟩) ?_
        rotate_left 1
        · (intro _; go_simp; (try go_bits); (try with_reducible rfl))
        refine wpAny_act ?_ (by go_simp; with_reducible rfl)
        refine wpAny_take (i := 19) (v := ?_) rfl (by kernel_rfl) (by kernel_rfl) (by kernel_rfl) (fun _ _ _ h => h) (Or.inl ⟨by rfl, ?_⟩) ?_
        rotate_left 1
        · (intro _; go_simp; (try go_bits); (try with_reducible rfl))
        refine wpAny_act ?_ (by go_simp; with_reducible rfl)
        refine wpAny_take (i := 20) (v := ?_) rfl (by kernel_rfl) (by kernel_rfl) (by kernel_rfl) (fun _ _ _ h => h) (Or.inl ⟨by rfl, ?_⟩) ?_
        rotate_left 1
        · (intro _; go_simp; (try go_bits); (try with_reducible rfl))
        refine wpAny_act ?_ (by go_simp; with_reducible rfl)
        refine wpAny_ready (rs := [14]) (by kernel_rfl) (by simp) ?_
        refine AllReady.cons rfl (fun K hK => ?_) AllReady.nil
        go_simp
        refine (HTK.out _ (HM1.out.ext (ext_trans he1 he2))).mono ?_
        rintro e X3 ⟨x2, he, hr2, he3⟩
        subst he
        go_simp
        refine hK _ _ ?_; clear hK K
        refine wpAny_ready (rs := [21]) (by kernel_rfl) (by simp) ?_
        refine AllReady.cons rfl (fun K hK => ?_) AllReady.nil
        go_simp
        refine (same_true x2 _ (A.take kq) (by simp; omega) _ hr2 (HRK.out.ext (ext_trans he1 (ext_trans he2 he3)))).mono ?_
        rintro e X4 ⟨he, he4⟩
        subst he
        go_simp
        refine hK _ _ ?_; clear hK K
        refine wpAny_take (i := 22) (v := ?_) rfl (by kernel_rfl) (by kernel_rfl) (by kernel_rfl) (fun _ _ _ h => h) (Or.inl ⟨by rfl, ?_⟩) ?_
        rotate_left 1
        · (intro _; go_simp; (try go_bits); (try with_reducible rfl))
        refine wpAny_act ?_ (by go_simp; with_reducible rfl)
        refine wpAny_take (i := 23) (v := ?_) rfl (by kernel_rfl) (by kernel_rfl) (by kernel_rfl) (fun _ _ _ h => h) (Or.inl ⟨by rfl, ?_⟩) ?_
        rotate_left 1
        · (intro _; go_simp; (try go_bits); (try with_reducible rfl))
        refine wpAny_act ?_ (by go_simp; with_reducible rfl)
        refine wpAny_done (by kernel_rfl) ?_ _
        go_simp
        go_wp2
        go_ret
        exact ⟨rfl, ext_trans HXT.out (ext_trans he1 (ext_trans he2 (ext_trans he3 he4)))⟩
    · have hAk : A.length = k := by have := HAL.out; omega
      have hRP := rowP_all hown hAk
      obtain ⟨cp1, cp2, hcs, hRK, hsl⟩ := hRP.slice (k := min A.length kq) (Nat.min_le_left _ _)
      rw [show A.take (min A.length kq) = A.take kq by rw [List.take_eq_take_iff]; omega] at hRK
      subst hcs
      have hdr : Ext wr wr.drew := Below.drew (Below.refl _ _)
      have hm1 : MaxAt wr.drew := (HM.out.ext (ext_trans HX1.out hext)).ext hdr
      replace hRP := hRP.ext hdr; replace hRK := hRK.ext hdr
      have hmin := run_min_nat Tryd.prog A.length kq kq rfl
      have hrm : a1 % 4 < 4 := by omega
      have hrm0 : 0 ≤ a1 % 4 := by omega
      have HRP := Lib.hid hRP; have HRK := Lib.hid hRK; have HM1 := Lib.hid hm1; have HAK := Lib.hid hAk; have HXT := Lib.hid (ext_trans (ext_trans HX1.out hext) hdr)
      have hkq' : 1 + a1 % 4 = (kq : Int) := hkq.out
      clear hRP hRK hm1 hown hext hAk hdr
      generalize hnonF : nonF l = nf
      go_wp2
      refine wp_region_any (by kernel_rfl) ?_
      simp only [List.size_toArray, List.length_cons, List.length_nil, Nat.reduceAdd, Array.replicate_succ, Array.replicate_zero, List.push_toArray, List.nil_append, List.cons_append]
      refine wpAny_take (i := 0) (v := ?_) rfl (by kernel_rfl) (by kernel_rfl) (by kernel_rfl) (fun _ _ _ h => h) (Or.inl ⟨by rfl, ?_⟩) ?_
      rotate_left 1
      · (intro _; go_simp; (try go_bits); (try with_reducible rfl))
      refine wpAny_act ?_ (by go_simp; with_reducible rfl)
      refine wpAny_take (i := 2) (v := ?_) rfl (by kernel_rfl) (by kernel_rfl) (by kernel_rfl) (fun _ _ _ h => h) (Or.inl ⟨by rfl, ?_⟩) ?_
      rotate_left 1
      · (intro _; go_simp; (try go_bits); (try with_reducible rfl))
      refine wpAny_act ?_ (by go_simp; with_reducible rfl)
      refine wpAny_ready (rs := [1]) (by kernel_rfl) (by simp) ?_
      refine AllReady.cons rfl (fun K hK => ?_) AllReady.nil
      go_simp
      refine (nonce_scram l (by omega) _).mono ?_
      rintro e w' ⟨he, hw'⟩
      subst he; subst hw'
      go_simp
      refine hK _ _ ?_; clear hK K
      refine wpAny_ready (rs := [3]) (by kernel_rfl) (by simp) ?_
      refine AllReady.cons rfl (fun K hK => ?_) AllReady.nil
      go_simp
      refine (nonce_ref07 l (by omega) _).mono ?_
      rintro e w' ⟨he, hw'⟩
      subst he; subst hw'
      go_simp
      refine hK _ _ ?_; clear hK K
      refine wpAny_take (i := 4) (v := ?_) rfl (by kernel_rfl) (by kernel_rfl) (by kernel_rfl) (fun _ _ _ h => h) (Or.inl ⟨by rfl, ?_⟩) ?_
      rotate_left 1
      · (intro _; go_simp; (try go_bits); (try with_reducible rfl))
      refine wpAny_act ?_ (by go_simp; with_reducible rfl)
      refine wpAny_take (i := 5) (v := ?_) rfl (by kernel_rfl) (by kernel_rfl) (by kernel_rfl) (fun _ _ _ h => h) (Or.inl ⟨by rfl, ?_⟩) ?_
      rotate_left 1
      · (intro _; go_simp; (try go_bits); (try with_reducible rfl))
      refine wpAny_act ?_ (by go_simp; with_reducible rfl)
      refine wpAny_take (i := 6) (v := ?_) rfl (by kernel_rfl) (by kernel_rfl) (by kernel_rfl) (fun _ _ _ h => h) (Or.inl ⟨by rfl, ?_⟩) ?_
      rotate_left 1
      · (intro _; go_simp; (try go_bits); (try with_reducible rfl))
      refine wpAny_act ?_ (by go_simp; with_reducible rfl)
      refine wpAny_take (i := 8) (v := ?_) rfl (by kernel_rfl) (by kernel_rfl) (by kernel_rfl) (fun _ _ _ h => h) (Or.inl ⟨by rfl, ?_⟩) ?_
      rotate_left 1
      · (intro _; go_simp; (try go_bits); (try with_reducible rfl))
      refine wpAny_act ?_ (by go_simp; with_reducible rfl)
      refine wpAny_ready (rs := [7]) (by kernel_rfl) (by simp) ?_
      refine AllReady.cons rfl (fun K hK => ?_) AllReady.nil
      go_simp
      refine (HT1.out _ HM1.out).mono ?_
      rintro e X1 ⟨x1, he, hr1, he1⟩
      subst he
      go_simp
      refine hK _ _ ?_; clear hK K
      refine wpAny_ready (rs := [9]) (by kernel_rfl) (by simp) ?_
      refine AllReady.cons rfl (fun K hK => ?_) AllReady.nil
      go_simp
      refine (same_true x1 _ A (by omega) _ hr1 (HRP.out.ext he1)).mono ?_
      rintro e X2 ⟨he, he2⟩
      subst he
      go_simp
      refine hK _ _ ?_; clear hK K
      refine wpAny_take (i := 10) (v := ?_) rfl (by kernel_rfl) (by kernel_rfl) (by kernel_rfl) (fun _ _ _ h => h) (Or.inl ⟨by rfl, ?_⟩) ?_
      rotate_left 1
      · (intro _; go_simp; (try go_bits); (try with_reducible rfl))
      refine wpAny_act ?_ (by go_simp; with_reducible rfl)
      refine wpAny_take (i := 11) (v := ?_) rfl (by kernel_rfl) (by kernel_rfl) (by kernel_rfl) (fun _ _ _ h => h) (Or.inl ⟨by rfl, ?_⟩) ?_
      rotate_left 1
      · (intro _; go_simp; (try go_bits); (try with_reducible rfl))
      refine wpAny_act ?_ (by go_simp; with_reducible rfl)
      refine wpAny_take (i := 12) (v := ?_) rfl (by kernel_rfl) (by kernel_rfl) (by kernel_rfl) (fun _ _ _ h => h) (Or.inl ⟨by rfl, ?_⟩) ?_
      rotate_left 1
      · (intro _; go_simp; (try go_bits); (try with_reducible rfl))
      refine wpAny_act ?_ (by go_simp; with_reducible rfl)
      refine wpAny_take (i := 13) (v := ?_) rfl (by kernel_rfl) (by kernel_rfl) (by kernel_rfl) (fun _ _ _ h => h) (Or.inl ⟨by rfl, ?_⟩) ?_
      rotate_left 1
      · (intro _; go_simp; (try go_bits); (try with_reducible rfl))
      refine wpAny_act ?_ (by go_simp; with_reducible rfl)
      refine wpAny_take (i := 15) (v := ?_) rfl (by kernel_rfl) (by kernel_rfl) (by kernel_rfl) (fun _ _ _ h => h) (Or.inl ⟨by rfl, ?_⟩) ?_
      rotate_left 1
      · (intro _; go_simp; (try go_bits); (try with_reducible rfl))
      refine wpAny_act ?_ (by go_simp; with_reducible rfl)
      refine wpAny_take (i := 16) (v := ?_) rfl (by kernel_rfl) (by kernel_rfl) (by kernel_rfl) (fun _ _ _ h => h) (Or.inl ⟨by rfl, ?_⟩) ?_
      rotate_left 1
      · (intro _; go_simp; (try go_bits); (try with_reducible rfl))
      refine wpAny_act ?_ (by go_simp; with_reducible rfl)
      refine wpAny_take (i := 17) (v := ?_) rfl (by kernel_rfl) (by kernel_rfl) (by kernel_rfl) (fun _ _ _ h => h) (Or.inl ⟨by rfl, ?_⟩) ?_
      rotate_left 1
      · (intro _; go_simp; (try go_bits); (try with_reducible rfl))
      refine wpAny_act ?_ (by go_simp; with_reducible rfl)
      refine wpAny_take (i := 18) (v := ?_) rfl (by kernel_rfl) (by kernel_rfl) (by kernel_rfl) (fun _ _ _ h => h) (Or.inl ⟨by rfl, ?_⟩) ?_
      rotate_left 1
      · (intro _; go_simp; (try go_bits); (try with_reducible rfl))
      refine wpAny_act ?_ (by go_simp; with_reducible rfl)
      refine wpAny_take (i := 19) (v := ?_) rfl (by kernel_rfl) (by kernel_rfl) (by kernel_rfl) (fun _ _ _ h => h) (Or.inl ⟨by rfl, ?_⟩) ?_
      rotate_left 1
      · (intro _; go_simp; (try go_bits); (try with_reducible rfl))
      refine wpAny_act ?_ (by go_simp; with_reducible rfl)
      refine wpAny_take (i := 20) (v := ?_) rfl (by kernel_rfl) (by kernel_rfl) (by kernel_rfl) (fun _ _ _ h => h) (Or.inl ⟨by rfl, ?_⟩) ?_
      rotate_left 1
      · (intro _; go_simp; (try go_bits); (try with_reducible rfl))
      refine wpAny_act ?_ (by go_simp; with_reducible rfl)
      refine wpAny_ready (rs := [14]) (by kernel_rfl) (by simp) ?_
      refine AllReady.cons rfl (fun K hK => ?_) AllReady.nil
      go_simp
      refine (HTK.out _ (HM1.out.ext (ext_trans he1 he2))).mono ?_
      rintro e X3 ⟨x2, he, hr2, he3⟩
      subst he
      go_simp
      refine hK _ _ ?_; clear hK K
      refine wpAny_ready (rs := [21]) (by kernel_rfl) (by simp) ?_
      refine AllReady.cons rfl (fun K hK => ?_) AllReady.nil
      go_simp
      refine (same_true x2 _ (A.take kq) (by simp; omega) _ hr2 (HRK.out.ext (ext_trans he1 (ext_trans he2 he3)))).mono ?_
      rintro e X4 ⟨he, he4⟩
      subst he
      go_simp
      refine hK _ _ ?_; clear hK K
      refine wpAny_take (i := 22) (v := ?_) rfl (by kernel_rfl) (by kernel_rfl) (by kernel_rfl) (fun _ _ _ h => h) (Or.inl ⟨by rfl, ?_⟩) ?_
      rotate_left 1
      · (intro _; go_simp; (try go_bits); (try with_reducible rfl))
      refine wpAny_act ?_ (by go_simp; with_reducible rfl)
      refine wpAny_take (i := 23) (v := ?_) rfl (by kernel_rfl) (by kernel_rfl) (by kernel_rfl) (fun _ _ _ h => h) (Or.inl ⟨by rfl, ?_⟩) ?_
      rotate_left 1
      · (intro _; go_simp; (try go_bits); (try with_reducible rfl))
      refine wpAny_act ?_ (by go_simp; with_reducible rfl)
      refine wpAny_done (by kernel_rfl) ?_ _
      go_simp
      go_wp2
      go_ret
      exact ⟨rfl, ext_trans HXT.out (ext_trans he1 (ext_trans he2 (ext_trans he3 he4)))⟩
end Go.Proofs.YtiellfhdfifbhaaDoor
