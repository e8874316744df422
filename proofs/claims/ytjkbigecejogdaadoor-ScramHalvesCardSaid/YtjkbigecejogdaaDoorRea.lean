/-
  scram.read: all attributes of a text.
-/
import Derived.Test.YtjkbigecejogdaaDoorRows
import Derived.Test.YtjkbigecejogdaaDoorAtr
import Derived.Test.YtjkbigecejogdaaDoorKit
namespace Go.Proofs.YtjkbigecejogdaaDoor
open Go.RowKit Go.Shelf
set_option maxRecDepth 100000
attribute [local go_sem] Oper.semAt_some
set_option linter.unusedVariables false
set_option linter.unusedSimpArgs false

theorem infoAtt : (Tryd.prog.info? 86).map (fun i => (i.zero, i.size, i.bytes)) = some (some (.agg #[.string ⟨#[]⟩, .string ⟨#[]⟩]), 2, 32) := by kernel_rfl
/-- An attribute's cells. -/
def attV (p : List UInt8) : List Value := [Str (p.take 1), Str (p.drop 2)]
def attF (ps : List (List UInt8)) : List Value := ps.flatMap attV

set_option maxHeartbeats 2000000 in
theorem read_any (l : List UInt8) (hl : l.length ≤ 10000) (w : World) (hM : MaxAt w) :
    Calls Tryd.prog 26 #[Str l] w fun e w' => ∃ bm v, e = .returned (.pointer (some ⟨bm, 0, none⟩)) ∧ w.heap.size ≤ bm ∧ w'.heap[bm]? = some (.cells #[v, .bool (decide ((attsP l).length < (spl l).length))] 81 (0, 0)) ∧
      w'.ownsRow (bm + 1) 86 2 v (attsP l).length (attF (attsP l)) ∧ Ext w w' := by
  refine (callsIn_wide (n := 5)).1 (callsIn_of_wp_marks Tryd.func26 rfl trivial (wpIn_wide.2 ?_) rfl)
  simp only [Tryd.ntmps26, List.size_toArray, List.length_cons, List.length_nil, Nat.reduceAdd, Nat.reduceSub, Array.replicate_succ, Array.replicate_zero, List.push_toArray, List.append_toArray, List.nil_append, List.cons_append]
  go_wp2_with (go_at_call 51; refine (attributes_any _ _).mono ?_; rintro e w' ⟨rfl, rfl⟩)
  obtain ⟨W0, hW0⟩ : ∃ W0, (((w.alloc (.cells #[.slice none 0 0, .bool false] 81)).alloc (.cells #[.pointer (some ⟨w.heap.size, 0, none⟩)] 54)).alloc (.cells #[.int .i64 0] 3)).alloc (.cells #[Str l] 9) = W0 := ⟨_, rfl⟩
  have hW0' : W0 = allocs w [.cells #[.slice none 0 0, .bool false] 81, .cells #[.pointer (some ⟨w.heap.size, 0, none⟩)] 54, .cells #[.int .i64 0] 3, .cells #[Str l] 9] := hW0.symm
  have b0 : W0.heap[w.heap.size]? = some (.cells #[.slice none 0 0, .bool false] 81 (0, 0)) := by rw [hW0']; exact allocs_at w _ 0 _ rfl
  have b1 : W0.heap[w.heap.size + 1]? = some (.cells #[.pointer (some ⟨w.heap.size, 0, none⟩)] 54 (0, 0)) := by rw [hW0']; exact allocs_at w _ 1 _ rfl
  have b2 : W0.heap[w.heap.size + 2]? = some (.cells #[.int .i64 0] 3 (0, 0)) := by rw [hW0']; exact allocs_at w _ 2 _ rfl
  have b3 : W0.heap[w.heap.size + 3]? = some (.cells #[Str l] 9 (0, 0)) := by rw [hW0']; exact allocs_at w _ 3 _ rfl
  have hext0 : Ext w W0 := by rw [hW0']; exact allocs_ext _ _
  have hsz0 : W0.heap.size = w.heap.size + 4 := by rw [hW0']; exact allocs_size _ _
  have hml := hM.lt
  simp only [Nat.add_assoc, Nat.reduceAdd]
  rw [hW0]
  clear hW0 hW0'
  have hit := attributes_iter l (by omega) (w.heap.size + 3) W0 b3 (hM.ext hext0)
  have hal : (attsP l).length ≤ 10001 := by have := tw_le isAt (spl l); have := spl_len l; unfold attsP; omega
  obtain ⟨A, hA⟩ : ∃ A, attsP l = A := ⟨_, rfl⟩
  rw [hA] at hit hal
  have HA := Lib.hid hA
  clear hA
  refine wpIn_wide.1 (wpIn_range2 (n := 5) (P := Tryd.prog) rfl (enters_of Tryd.func61 (by kernel_rfl) rfl) hit (fun k h => by omega) (fun k h => by omega) (fun k h => by omega) (fun _ => rfl)
    (fun i W => ∃ v, W.heap[w.heap.size]? = some (.cells #[v, .bool false] 81 (0, 0)) ∧ W.heap[w.heap.size + 1]? = some (.cells #[.pointer (some ⟨w.heap.size, 0, none⟩)] 54 (0, 0)) ∧ W.heap[w.heap.size + 2]? = some (.cells #[.int .i64 0] 3 (0, 0)) ∧
      W.ownsRow (w.heap.size + 10) 86 2 v i (attF (A.take i)) ∧ Below w.heap.size w W)
    (fun c i W => False) ?_ (fun _ _ _ _ h _ => h.elim)
    ⟨_, b0, b1, b2, World.ownsRow_nil _ _ _ _, hext0⟩ ?_ ?_ (fun _ _ _ _ _ _ h _ => h.elim))
  · rintro i A' C ⟨v, h0, h1, h2, hown, hbel⟩ hm
    exact ⟨v, hm.keeps h0 (by omega) (by omega), hm.keeps h1 (by omega) (by omega), hm.keeps h2 (by omega) (by omega), ownz_mv hown hm (fun k hk => by omega), hm.below hbel (fun k hk => by omega) (by omega) (Nat.le_refl _)⟩
  · rintro m lp i W hi ⟨v, h0, h1, h2, hown, hbel⟩ hs10 hlp hrec
    have htk : A.take (i + 1) = A.take i ++ [A.getD i []] := by rw [List.take_succ_eq_append_getElem hi]; simp [List.getD, hi]
    have hF : attF (A.take (i + 1)) = attF (A.take i) ++ [Str ((A.getD i []).take 1), Str ((A.getD i []).drop 2)] := by rw [htk]; simp [attF, attV]
    have hil : i ≤ 10001 := by omega
    clear htk
    generalize (A.getD i []).take 1 = q1 at *
    generalize (A.getD i []).drop 2 = q2 at *
    generalize attF (A.take i) = fl at *
    have HF := Lib.hid hF
    clear hF hi
    gi_wp2
    refine ⟨Kp.refl _ _ _, fun W2 hm2 hrec2 => ?_⟩
    replace h0 := hm2.keeps h0 (fun h => h) (by omega)
    replace h1 := hm2.keeps h1 (fun h => h) (by omega)
    replace h2 := hm2.keeps h2 (fun h => h) (by omega)
    replace hown := ownz_mv hown hm2 (fun k hk => hk.elim)
    replace hbel := hm2.below hbel (fun k hk => hk.elim) (by omega) (Nat.le_refl _)
    replace hs10 : w.heap.size + 10 ≤ W2.heap.size := by have := hm2.size; omega
    clear hm2 hrec hrec2
    have hmx : Tryd.prog.follows .mixedOrders = true := by kernel_rfl
    have hvb : ∀ k, v.ownBlock = some k → w.heap.size + 10 ≤ k := fun k hk => by
      rcases hown.2 with ⟨hn, _⟩ | ⟨g, cap, cur, hv, hbg, _⟩
      · rw [hn] at hk; simp [Value.ownBlock] at hk
      · rw [hv] at hk; simp [Value.ownBlock] at hk; omega
    have c0 : W2.cell? ⟨w.heap.size, 0, none⟩ = some v := by simp [World.cell?, h0]
    have cp : W2.cell? ⟨w.heap.size + 1, 0, none⟩ = some (.pointer (some ⟨w.heap.size, 0, none⟩)) := by simp [World.cell?, h1]
    have fin : ∀ (v' : Value) (w1 : World), w1.heap[w.heap.size]? = some (.cells #[v, .bool false] 81 (0, 0)) → w1.ownsRow (w.heap.size + 10) 86 2 v' (i + 1) (fl ++ [Str q1, Str q2]) → (W2.drew).grownBy w1 v.ownBlock →
        Kp W0.heap.size (fun k => k = w.heap.size + 3 ∨ k = 0 ∨ (W0.heap.size + 2 ≤ k ∧ k < W0.heap.size + 2 + 4)) W2 (w1.setCell ⟨w.heap.size, 0, none⟩ v') ∧
        ∃ v2, (w1.setCell ⟨w.heap.size, 0, none⟩ v').heap[w.heap.size]? = some (.cells #[v2, .bool false] 81 (0, 0)) ∧ (w1.setCell ⟨w.heap.size, 0, none⟩ v').heap[w.heap.size + 1]? = some (.cells #[.pointer (some ⟨w.heap.size, 0, none⟩)] 54 (0, 0)) ∧ (w1.setCell ⟨w.heap.size, 0, none⟩ v').heap[w.heap.size + 2]? = some (.cells #[.int .i64 0] 3 (0, 0)) ∧
          (w1.setCell ⟨w.heap.size, 0, none⟩ v').ownsRow (w.heap.size + 10) 86 2 v2 (i + 1) (attF (A.take (i + 1))) ∧ Below w.heap.size w (w1.setCell ⟨w.heap.size, 0, none⟩ v') := by
      intro v' w1 hm1 hown1 hg
      have hg' : W2.grownBy w1 v.ownBlock := ⟨hg.os, hg.tape, hg.output, hg.size, hg.block⟩
      have hgs := hg'.size
      have hlow : ∀ k, k < w.heap.size + 10 → w1.heap[k]? = W2.heap[k]? := fun k hk => hg'.block k (by omega) (fun e => by have := hvb k e.symm; omega)
      have hc := Chg.setCell w1 ⟨w.heap.size, 0, none⟩ v'
      refine ⟨?_, v', by rw [set_at hm1]; rfl, (hc.block _ (by omega) (by simp)).trans ((hlow _ (by omega)).trans h1), (hc.block _ (by omega) (by simp)).trans ((hlow _ (by omega)).trans h2), ?_, ?_⟩
      · refine (Kp.of_grown hg' (fun k hk => ⟨by omega, fun e => by have := hvb k e; omega⟩) (fun k hk => ?_)).trans (Kp.of_chg hc (fun k hk => by simp; omega) (fun k hk hB => by simp at hk; omega))
        rcases hown.2 with ⟨hn, _⟩ | ⟨g, cap, cur, hv, _, hgg, _⟩
        · rw [hn] at hk; simp [Value.ownBlock] at hk
        · rw [hv] at hk; simp [Value.ownBlock] at hk; subst hk; exact ⟨_, kind_of_cells hgg⟩
      · rw [HF.out]
        exact ownz_keep hown1 fun g hg2 hbg hk => hc.block g (kind_lt hk) (by simp; omega)
      · exact below_chg (hbel.grown hg' (by omega) (fun k hk => by have := hvb k hk; omega)) hc (by simp; try omega) (Nat.le_refl _)
    have HO : Hid (W2.drew.ownsRow (w.heap.size + 10) 86 2 v i fl) := Lib.hid (ownz_ext hown (Below.drew (Below.refl _ _)))
    have Fin := Lib.hid fin; have HB0 := Lib.hid h0; have HB1 := Lib.hid h1
    have hs10' : w.heap.size + 10 ≤ W2.drew.heap.size := hs10
    have ca0 : (W2.alloc (.cells #[Str q1, Str q2] 86)).cell? ⟨w.heap.size, 0, none⟩ = some v := (World.cell?_of_block (w := W2) (Below.heap_alloc W2 _ _ (by show w.heap.size < _; omega))).trans c0
    have cap : (W2.alloc (.cells #[Str q1, Str q2] 86)).cell? ⟨w.heap.size + 1, 0, none⟩ = some (.pointer (some ⟨w.heap.size, 0, none⟩)) := (World.cell?_of_block (w := W2) (Below.heap_alloc W2 _ _ (by show w.heap.size + 1 < _; omega))).trans cp
    clear fin h0 h1 h2 hown hbel
    gi_wp2
    refine wpIn_region_unround (r := some lp) hmx (by kernel_rfl) ?_
    refine wpAnyIn_take (i := 5) (v := ?_) rfl rfl (by kernel_rfl) (by kernel_rfl) (by kernel_rfl) (fun _ _ _ h => h) ⟨Or.inl ⟨by rfl, ?_⟩, fun _ => rfl⟩ ?_
    rotate_left 1
    · (intro _; go_simp; (try with_reducible rfl))
    refine wpAnyIn_take (i := 6) (v := ?_) rfl rfl (by kernel_rfl) (by kernel_rfl) (by kernel_rfl) (fun _ _ _ h => h) ⟨Or.inl ⟨by rfl, ?_⟩, fun _ => rfl⟩ ?_
    rotate_left 1
    · (intro _; go_simp; (try with_reducible rfl))
    refine wpAnyIn_take (i := 7) (v := ?_) rfl rfl (by kernel_rfl) (by kernel_rfl) (by kernel_rfl) (fun _ _ _ h => h) ⟨Or.inl ⟨by rfl, ?_⟩, fun _ => rfl⟩ ?_
    rotate_left 1
    · (intro _; go_simp; (try with_reducible rfl))
    refine wpAnyIn_ready (rs := [0, 1, 8]) (by kernel_rfl) (by simp) ?_
    refine AllReadyIn.cons rfl (fun K hK => ?_) ?_
    · skip
      go_simp
      refine hK _ _ ?_
      clear hK K
      refine wpAnyIn_ready (rs := [1, 8]) (by kernel_rfl) (by simp) ?_
      refine AllReadyIn.cons rfl (fun K hK => ?_) ?_
      · skip
        go_simp
        refine hK _ _ ?_
        clear hK K
        refine wpAnyIn_take (i := 2) (v := ?_) rfl rfl (by kernel_rfl) (by kernel_rfl) (by kernel_rfl) (fun _ _ _ h => h) ⟨Or.inl ⟨by rfl, ?_⟩, fun _ => rfl⟩ ?_
        rotate_left 1
        · (intro _; go_simp; (try with_reducible rfl))
        refine wpAnyIn_take (i := 3) (v := ?_) rfl rfl (by kernel_rfl) (by kernel_rfl) (by kernel_rfl) (fun _ _ _ h => h) ⟨Or.inl ⟨by rfl, ?_⟩, fun _ => rfl⟩ ?_
        rotate_left 1
        · (intro _; go_simp; (try with_reducible rfl))
        refine wpAnyIn_ready (rs := [4, 8]) (by kernel_rfl) (by simp) ?_
        refine AllReadyIn.cons rfl (fun K hK => ?_) ?_
        · skip
          go_simp
          refine hK _ _ ?_
          clear hK K
          refine wpAnyIn_ready (rs := [8]) (by kernel_rfl) (by simp) ?_
          refine AllReadyIn.cons rfl (fun K hK => ?_) AllReadyIn.nil
          go_simp
          refine hK _ _ ?_
          clear hK K
          refine wpAnyIn_ready (rs := [9]) (by kernel_rfl) (by simp) ?_
          refine AllReadyIn.cons rfl (fun K hK => ?_) AllReadyIn.nil
          (try rw [drew_alloc]; refine stepIn_push (w.heap.size + 10) rfl _ _ 79 86 rfl Tryd.underlying79 infoAtt rfl (by omega) (by omega) (us := [Str q1, Str q2]) HO.out rfl (by simp [Str, Value.oneCell']) (by omega) hs10 rfl rfl ?_; rintro _ w1 ⟨g1, cap1, rfl⟩ hown1 hgr1; have hm1 := (hgr1.block w.heap.size (by show _ < W2.heap.size; omega) (fun e => by have := hvb _ e.symm; omega)).trans HB0.out; have hp1 := (hgr1.block (w.heap.size + 1) (by show _ < W2.heap.size; omega) (fun e => by have := hvb _ e.symm; omega)).trans HB1.out; have c1 : w1.cell? ⟨w.heap.size, 0, none⟩ = some v := (by simp [World.cell?, hm1]); have f1 : w1.frozen? ⟨w.heap.size, 0, none⟩ = false := (by simp [World.frozen?, hm1]); have cp1 : w1.cell? ⟨w.heap.size + 1, 0, none⟩ = some (.pointer (some ⟨w.heap.size, 0, none⟩)) := (by simp [World.cell?, hp1]); have Hm1 := Lib.hid hm1; have Hown1 := Lib.hid hown1; have Hgr1 := Lib.hid hgr1; clear hm1 hp1 hown1 hgr1)
          try go_simp
          refine hK _ _ ?_
          clear hK K
          refine wpAnyIn_take (i := 10) (v := ?_) rfl rfl (by kernel_rfl) (by kernel_rfl) (by kernel_rfl) (fun _ _ _ h => h) ⟨Or.inl ⟨by rfl, ?_⟩, fun _ => rfl⟩ ?_
          rotate_left 1
          · (intro _; go_simp; (try with_reducible rfl))
          refine wpAnyIn_take (i := 11) (v := ?_) rfl rfl (by kernel_rfl) (by kernel_rfl) (by kernel_rfl) (fun _ _ _ h => h) ⟨Or.inl ⟨by rfl, ?_⟩, fun _ => rfl⟩ ?_
          rotate_left 1
          · (intro _; go_simp; (try with_reducible rfl))
          refine wpAnyIn_ready (rs := [12]) (by kernel_rfl) (by simp) ?_
          refine AllReadyIn.cons rfl (fun K hK => ?_) AllReadyIn.nil
          go_simp
          refine hK _ _ ?_
          clear hK K
          refine wpAnyIn_done (by kernel_rfl) ?_ _
          gi_wp2
          exact Fin.out _ _ Hm1.out Hown1.out Hgr1.out
        refine AllReadyIn.cons rfl (fun K hK => ?_) ?_
        · skip
          go_simp
          refine hK _ _ ?_
          clear hK K
          refine wpAnyIn_ready (rs := [4]) (by kernel_rfl) (by simp) ?_
          refine AllReadyIn.cons rfl (fun K hK => ?_) AllReadyIn.nil
          go_simp
          refine hK _ _ ?_
          clear hK K
          refine wpAnyIn_ready (rs := [9]) (by kernel_rfl) (by simp) ?_
          refine AllReadyIn.cons rfl (fun K hK => ?_) AllReadyIn.nil
          (try rw [drew_alloc]; refine stepIn_push (w.heap.size + 10) rfl _ _ 79 86 rfl Tryd.underlying79 infoAtt rfl (by omega) (by omega) (us := [Str q1, Str q2]) HO.out rfl (by simp [Str, Value.oneCell']) (by omega) hs10 rfl rfl ?_; rintro _ w1 ⟨g1, cap1, rfl⟩ hown1 hgr1; have hm1 := (hgr1.block w.heap.size (by show _ < W2.heap.size; omega) (fun e => by have := hvb _ e.symm; omega)).trans HB0.out; have hp1 := (hgr1.block (w.heap.size + 1) (by show _ < W2.heap.size; omega) (fun e => by have := hvb _ e.symm; omega)).trans HB1.out; have c1 : w1.cell? ⟨w.heap.size, 0, none⟩ = some v := (by simp [World.cell?, hm1]); have f1 : w1.frozen? ⟨w.heap.size, 0, none⟩ = false := (by simp [World.frozen?, hm1]); have cp1 : w1.cell? ⟨w.heap.size + 1, 0, none⟩ = some (.pointer (some ⟨w.heap.size, 0, none⟩)) := (by simp [World.cell?, hp1]); have Hm1 := Lib.hid hm1; have Hown1 := Lib.hid hown1; have Hgr1 := Lib.hid hgr1; clear hm1 hp1 hown1 hgr1)
          try go_simp
          refine hK _ _ ?_
          clear hK K
          refine wpAnyIn_take (i := 10) (v := ?_) rfl rfl (by kernel_rfl) (by kernel_rfl) (by kernel_rfl) (fun _ _ _ h => h) ⟨Or.inl ⟨by rfl, ?_⟩, fun _ => rfl⟩ ?_
          rotate_left 1
          · (intro _; go_simp; (try with_reducible rfl))
          refine wpAnyIn_take (i := 11) (v := ?_) rfl rfl (by kernel_rfl) (by kernel_rfl) (by kernel_rfl) (fun _ _ _ h => h) ⟨Or.inl ⟨by rfl, ?_⟩, fun _ => rfl⟩ ?_
          rotate_left 1
          · (intro _; go_simp; (try with_reducible rfl))
          refine wpAnyIn_ready (rs := [12]) (by kernel_rfl) (by simp) ?_
          refine AllReadyIn.cons rfl (fun K hK => ?_) AllReadyIn.nil
          go_simp
          refine hK _ _ ?_
          clear hK K
          refine wpAnyIn_done (by kernel_rfl) ?_ _
          gi_wp2
          exact Fin.out _ _ Hm1.out Hown1.out Hgr1.out
        exact AllReadyIn.nil
      refine AllReadyIn.cons rfl (fun K hK => ?_) ?_
      · skip
        go_simp
        refine hK _ _ ?_
        clear hK K
        refine wpAnyIn_ready (rs := [1]) (by kernel_rfl) (by simp) ?_
        refine AllReadyIn.cons rfl (fun K hK => ?_) AllReadyIn.nil
        go_simp
        refine hK _ _ ?_
        clear hK K
        refine wpAnyIn_take (i := 2) (v := ?_) rfl rfl (by kernel_rfl) (by kernel_rfl) (by kernel_rfl) (fun _ _ _ h => h) ⟨Or.inl ⟨by rfl, ?_⟩, fun _ => rfl⟩ ?_
        rotate_left 1
        · (intro _; go_simp; (try with_reducible rfl))
        refine wpAnyIn_take (i := 3) (v := ?_) rfl rfl (by kernel_rfl) (by kernel_rfl) (by kernel_rfl) (fun _ _ _ h => h) ⟨Or.inl ⟨by rfl, ?_⟩, fun _ => rfl⟩ ?_
        rotate_left 1
        · (intro _; go_simp; (try with_reducible rfl))
        refine wpAnyIn_ready (rs := [4]) (by kernel_rfl) (by simp) ?_
        refine AllReadyIn.cons rfl (fun K hK => ?_) AllReadyIn.nil
        go_simp
        refine hK _ _ ?_
        clear hK K
        refine wpAnyIn_ready (rs := [9]) (by kernel_rfl) (by simp) ?_
        refine AllReadyIn.cons rfl (fun K hK => ?_) AllReadyIn.nil
        (try rw [drew_alloc]; refine stepIn_push (w.heap.size + 10) rfl _ _ 79 86 rfl Tryd.underlying79 infoAtt rfl (by omega) (by omega) (us := [Str q1, Str q2]) HO.out rfl (by simp [Str, Value.oneCell']) (by omega) hs10 rfl rfl ?_; rintro _ w1 ⟨g1, cap1, rfl⟩ hown1 hgr1; have hm1 := (hgr1.block w.heap.size (by show _ < W2.heap.size; omega) (fun e => by have := hvb _ e.symm; omega)).trans HB0.out; have hp1 := (hgr1.block (w.heap.size + 1) (by show _ < W2.heap.size; omega) (fun e => by have := hvb _ e.symm; omega)).trans HB1.out; have c1 : w1.cell? ⟨w.heap.size, 0, none⟩ = some v := (by simp [World.cell?, hm1]); have f1 : w1.frozen? ⟨w.heap.size, 0, none⟩ = false := (by simp [World.frozen?, hm1]); have cp1 : w1.cell? ⟨w.heap.size + 1, 0, none⟩ = some (.pointer (some ⟨w.heap.size, 0, none⟩)) := (by simp [World.cell?, hp1]); have Hm1 := Lib.hid hm1; have Hown1 := Lib.hid hown1; have Hgr1 := Lib.hid hgr1; clear hm1 hp1 hown1 hgr1)
        try go_simp
        refine hK _ _ ?_
        clear hK K
        refine wpAnyIn_take (i := 10) (v := ?_) rfl rfl (by kernel_rfl) (by kernel_rfl) (by kernel_rfl) (fun _ _ _ h => h) ⟨Or.inl ⟨by rfl, ?_⟩, fun _ => rfl⟩ ?_
        rotate_left 1
        · (intro _; go_simp; (try with_reducible rfl))
        refine wpAnyIn_take (i := 11) (v := ?_) rfl rfl (by kernel_rfl) (by kernel_rfl) (by kernel_rfl) (fun _ _ _ h => h) ⟨Or.inl ⟨by rfl, ?_⟩, fun _ => rfl⟩ ?_
        rotate_left 1
        · (intro _; go_simp; (try with_reducible rfl))
        refine wpAnyIn_ready (rs := [12]) (by kernel_rfl) (by simp) ?_
        refine AllReadyIn.cons rfl (fun K hK => ?_) AllReadyIn.nil
        go_simp
        refine hK _ _ ?_
        clear hK K
        refine wpAnyIn_done (by kernel_rfl) ?_ _
        gi_wp2
        exact Fin.out _ _ Hm1.out Hown1.out Hgr1.out
      exact AllReadyIn.nil
    refine AllReadyIn.cons rfl (fun K hK => ?_) ?_
    · skip
      go_simp
      refine hK _ _ ?_
      clear hK K
      refine wpAnyIn_take (i := 2) (v := ?_) rfl rfl (by kernel_rfl) (by kernel_rfl) (by kernel_rfl) (fun _ _ _ h => h) ⟨Or.inl ⟨by rfl, ?_⟩, fun _ => rfl⟩ ?_
      rotate_left 1
      · (intro _; go_simp; (try with_reducible rfl))
      refine wpAnyIn_take (i := 3) (v := ?_) rfl rfl (by kernel_rfl) (by kernel_rfl) (by kernel_rfl) (fun _ _ _ h => h) ⟨Or.inl ⟨by rfl, ?_⟩, fun _ => rfl⟩ ?_
      rotate_left 1
      · (intro _; go_simp; (try with_reducible rfl))
      refine wpAnyIn_ready (rs := [0, 4, 8]) (by kernel_rfl) (by simp) ?_
      refine AllReadyIn.cons rfl (fun K hK => ?_) ?_
      · skip
        go_simp
        refine hK _ _ ?_
        clear hK K
        refine wpAnyIn_ready (rs := [4, 8]) (by kernel_rfl) (by simp) ?_
        refine AllReadyIn.cons rfl (fun K hK => ?_) ?_
        · skip
          go_simp
          refine hK _ _ ?_
          clear hK K
          refine wpAnyIn_ready (rs := [8]) (by kernel_rfl) (by simp) ?_
          refine AllReadyIn.cons rfl (fun K hK => ?_) AllReadyIn.nil
          go_simp
          refine hK _ _ ?_
          clear hK K
          refine wpAnyIn_ready (rs := [9]) (by kernel_rfl) (by simp) ?_
          refine AllReadyIn.cons rfl (fun K hK => ?_) AllReadyIn.nil
          (try rw [drew_alloc]; refine stepIn_push (w.heap.size + 10) rfl _ _ 79 86 rfl Tryd.underlying79 infoAtt rfl (by omega) (by omega) (us := [Str q1, Str q2]) HO.out rfl (by simp [Str, Value.oneCell']) (by omega) hs10 rfl rfl ?_; rintro _ w1 ⟨g1, cap1, rfl⟩ hown1 hgr1; have hm1 := (hgr1.block w.heap.size (by show _ < W2.heap.size; omega) (fun e => by have := hvb _ e.symm; omega)).trans HB0.out; have hp1 := (hgr1.block (w.heap.size + 1) (by show _ < W2.heap.size; omega) (fun e => by have := hvb _ e.symm; omega)).trans HB1.out; have c1 : w1.cell? ⟨w.heap.size, 0, none⟩ = some v := (by simp [World.cell?, hm1]); have f1 : w1.frozen? ⟨w.heap.size, 0, none⟩ = false := (by simp [World.frozen?, hm1]); have cp1 : w1.cell? ⟨w.heap.size + 1, 0, none⟩ = some (.pointer (some ⟨w.heap.size, 0, none⟩)) := (by simp [World.cell?, hp1]); have Hm1 := Lib.hid hm1; have Hown1 := Lib.hid hown1; have Hgr1 := Lib.hid hgr1; clear hm1 hp1 hown1 hgr1)
          try go_simp
          refine hK _ _ ?_
          clear hK K
          refine wpAnyIn_take (i := 10) (v := ?_) rfl rfl (by kernel_rfl) (by kernel_rfl) (by kernel_rfl) (fun _ _ _ h => h) ⟨Or.inl ⟨by rfl, ?_⟩, fun _ => rfl⟩ ?_
          rotate_left 1
          · (intro _; go_simp; (try with_reducible rfl))
          refine wpAnyIn_take (i := 11) (v := ?_) rfl rfl (by kernel_rfl) (by kernel_rfl) (by kernel_rfl) (fun _ _ _ h => h) ⟨Or.inl ⟨by rfl, ?_⟩, fun _ => rfl⟩ ?_
          rotate_left 1
          · (intro _; go_simp; (try with_reducible rfl))
          refine wpAnyIn_ready (rs := [12]) (by kernel_rfl) (by simp) ?_
          refine AllReadyIn.cons rfl (fun K hK => ?_) AllReadyIn.nil
          go_simp
          refine hK _ _ ?_
          clear hK K
          refine wpAnyIn_done (by kernel_rfl) ?_ _
          gi_wp2
          exact Fin.out _ _ Hm1.out Hown1.out Hgr1.out
        refine AllReadyIn.cons rfl (fun K hK => ?_) ?_
        · skip
          go_simp
          refine hK _ _ ?_
          clear hK K
          refine wpAnyIn_ready (rs := [4]) (by kernel_rfl) (by simp) ?_
          refine AllReadyIn.cons rfl (fun K hK => ?_) AllReadyIn.nil
          go_simp
          refine hK _ _ ?_
          clear hK K
          refine wpAnyIn_ready (rs := [9]) (by kernel_rfl) (by simp) ?_
          refine AllReadyIn.cons rfl (fun K hK => ?_) AllReadyIn.nil
          (try rw [drew_alloc]; refine stepIn_push (w.heap.size + 10) rfl _ _ 79 86 rfl Tryd.underlying79 infoAtt rfl (by omega) (by omega) (us := [Str q1, Str q2]) HO.out rfl (by simp [Str, Value.oneCell']) (by omega) hs10 rfl rfl ?_; rintro _ w1 ⟨g1, cap1, rfl⟩ hown1 hgr1; have hm1 := (hgr1.block w.heap.size (by show _ < W2.heap.size; omega) (fun e => by have := hvb _ e.symm; omega)).trans HB0.out; have hp1 := (hgr1.block (w.heap.size + 1) (by show _ < W2.heap.size; omega) (fun e => by have := hvb _ e.symm; omega)).trans HB1.out; have c1 : w1.cell? ⟨w.heap.size, 0, none⟩ = some v := (by simp [World.cell?, hm1]); have f1 : w1.frozen? ⟨w.heap.size, 0, none⟩ = false := (by simp [World.frozen?, hm1]); have cp1 : w1.cell? ⟨w.heap.size + 1, 0, none⟩ = some (.pointer (some ⟨w.heap.size, 0, none⟩)) := (by simp [World.cell?, hp1]); have Hm1 := Lib.hid hm1; have Hown1 := Lib.hid hown1; have Hgr1 := Lib.hid hgr1; clear hm1 hp1 hown1 hgr1)
          try go_simp
          refine hK _ _ ?_
          clear hK K
          refine wpAnyIn_take (i := 10) (v := ?_) rfl rfl (by kernel_rfl) (by kernel_rfl) (by kernel_rfl) (fun _ _ _ h => h) ⟨Or.inl ⟨by rfl, ?_⟩, fun _ => rfl⟩ ?_
          rotate_left 1
          · (intro _; go_simp; (try with_reducible rfl))
          refine wpAnyIn_take (i := 11) (v := ?_) rfl rfl (by kernel_rfl) (by kernel_rfl) (by kernel_rfl) (fun _ _ _ h => h) ⟨Or.inl ⟨by rfl, ?_⟩, fun _ => rfl⟩ ?_
          rotate_left 1
          · (intro _; go_simp; (try with_reducible rfl))
          refine wpAnyIn_ready (rs := [12]) (by kernel_rfl) (by simp) ?_
          refine AllReadyIn.cons rfl (fun K hK => ?_) AllReadyIn.nil
          go_simp
          refine hK _ _ ?_
          clear hK K
          refine wpAnyIn_done (by kernel_rfl) ?_ _
          gi_wp2
          exact Fin.out _ _ Hm1.out Hown1.out Hgr1.out
        exact AllReadyIn.nil
      refine AllReadyIn.cons rfl (fun K hK => ?_) ?_
      · skip
        go_simp
        refine hK _ _ ?_
        clear hK K
        refine wpAnyIn_ready (rs := [0, 8]) (by kernel_rfl) (by simp) ?_
        refine AllReadyIn.cons rfl (fun K hK => ?_) ?_
        · skip
          go_simp
          refine hK _ _ ?_
          clear hK K
          refine wpAnyIn_ready (rs := [8]) (by kernel_rfl) (by simp) ?_
          refine AllReadyIn.cons rfl (fun K hK => ?_) AllReadyIn.nil
          go_simp
          refine hK _ _ ?_
          clear hK K
          refine wpAnyIn_ready (rs := [9]) (by kernel_rfl) (by simp) ?_
          refine AllReadyIn.cons rfl (fun K hK => ?_) AllReadyIn.nil
          (try rw [drew_alloc]; refine stepIn_push (w.heap.size + 10) rfl _ _ 79 86 rfl Tryd.underlying79 infoAtt rfl (by omega) (by omega) (us := [Str q1, Str q2]) HO.out rfl (by simp [Str, Value.oneCell']) (by omega) hs10 rfl rfl ?_; rintro _ w1 ⟨g1, cap1, rfl⟩ hown1 hgr1; have hm1 := (hgr1.block w.heap.size (by show _ < W2.heap.size; omega) (fun e => by have := hvb _ e.symm; omega)).trans HB0.out; have hp1 := (hgr1.block (w.heap.size + 1) (by show _ < W2.heap.size; omega) (fun e => by have := hvb _ e.symm; omega)).trans HB1.out; have c1 : w1.cell? ⟨w.heap.size, 0, none⟩ = some v := (by simp [World.cell?, hm1]); have f1 : w1.frozen? ⟨w.heap.size, 0, none⟩ = false := (by simp [World.frozen?, hm1]); have cp1 : w1.cell? ⟨w.heap.size + 1, 0, none⟩ = some (.pointer (some ⟨w.heap.size, 0, none⟩)) := (by simp [World.cell?, hp1]); have Hm1 := Lib.hid hm1; have Hown1 := Lib.hid hown1; have Hgr1 := Lib.hid hgr1; clear hm1 hp1 hown1 hgr1)
          try go_simp
          refine hK _ _ ?_
          clear hK K
          refine wpAnyIn_take (i := 10) (v := ?_) rfl rfl (by kernel_rfl) (by kernel_rfl) (by kernel_rfl) (fun _ _ _ h => h) ⟨Or.inl ⟨by rfl, ?_⟩, fun _ => rfl⟩ ?_
          rotate_left 1
          · (intro _; go_simp; (try with_reducible rfl))
          refine wpAnyIn_take (i := 11) (v := ?_) rfl rfl (by kernel_rfl) (by kernel_rfl) (by kernel_rfl) (fun _ _ _ h => h) ⟨Or.inl ⟨by rfl, ?_⟩, fun _ => rfl⟩ ?_
          rotate_left 1
          · (intro _; go_simp; (try with_reducible rfl))
          refine wpAnyIn_ready (rs := [12]) (by kernel_rfl) (by simp) ?_
          refine AllReadyIn.cons rfl (fun K hK => ?_) AllReadyIn.nil
          go_simp
          refine hK _ _ ?_
          clear hK K
          refine wpAnyIn_done (by kernel_rfl) ?_ _
          gi_wp2
          exact Fin.out _ _ Hm1.out Hown1.out Hgr1.out
        refine AllReadyIn.cons rfl (fun K hK => ?_) ?_
        · skip
          go_simp
          refine hK _ _ ?_
          clear hK K
          refine wpAnyIn_ready (rs := [0, 9]) (by kernel_rfl) (by simp) ?_
          refine AllReadyIn.cons rfl (fun K hK => ?_) ?_
          · skip
            go_simp
            refine hK _ _ ?_
            clear hK K
            refine wpAnyIn_ready (rs := [9]) (by kernel_rfl) (by simp) ?_
            refine AllReadyIn.cons rfl (fun K hK => ?_) AllReadyIn.nil
            (try rw [drew_alloc]; refine stepIn_push (w.heap.size + 10) rfl _ _ 79 86 rfl Tryd.underlying79 infoAtt rfl (by omega) (by omega) (us := [Str q1, Str q2]) HO.out rfl (by simp [Str, Value.oneCell']) (by omega) hs10 rfl rfl ?_; rintro _ w1 ⟨g1, cap1, rfl⟩ hown1 hgr1; have hm1 := (hgr1.block w.heap.size (by show _ < W2.heap.size; omega) (fun e => by have := hvb _ e.symm; omega)).trans HB0.out; have hp1 := (hgr1.block (w.heap.size + 1) (by show _ < W2.heap.size; omega) (fun e => by have := hvb _ e.symm; omega)).trans HB1.out; have c1 : w1.cell? ⟨w.heap.size, 0, none⟩ = some v := (by simp [World.cell?, hm1]); have f1 : w1.frozen? ⟨w.heap.size, 0, none⟩ = false := (by simp [World.frozen?, hm1]); have cp1 : w1.cell? ⟨w.heap.size + 1, 0, none⟩ = some (.pointer (some ⟨w.heap.size, 0, none⟩)) := (by simp [World.cell?, hp1]); have Hm1 := Lib.hid hm1; have Hown1 := Lib.hid hown1; have Hgr1 := Lib.hid hgr1; clear hm1 hp1 hown1 hgr1)
            try go_simp
            refine hK _ _ ?_
            clear hK K
            refine wpAnyIn_take (i := 10) (v := ?_) rfl rfl (by kernel_rfl) (by kernel_rfl) (by kernel_rfl) (fun _ _ _ h => h) ⟨Or.inl ⟨by rfl, ?_⟩, fun _ => rfl⟩ ?_
            rotate_left 1
            · (intro _; go_simp; (try with_reducible rfl))
            refine wpAnyIn_take (i := 11) (v := ?_) rfl rfl (by kernel_rfl) (by kernel_rfl) (by kernel_rfl) (fun _ _ _ h => h) ⟨Or.inl ⟨by rfl, ?_⟩, fun _ => rfl⟩ ?_
            rotate_left 1
            · (intro _; go_simp; (try with_reducible rfl))
            refine wpAnyIn_ready (rs := [12]) (by kernel_rfl) (by simp) ?_
            refine AllReadyIn.cons rfl (fun K hK => ?_) AllReadyIn.nil
            go_simp
            refine hK _ _ ?_
            clear hK K
            refine wpAnyIn_done (by kernel_rfl) ?_ _
            gi_wp2
            exact Fin.out _ _ Hm1.out Hown1.out Hgr1.out
          refine AllReadyIn.cons rfl (fun K hK => ?_) ?_
          · skip
            (try rw [drew_alloc]; refine stepIn_push (w.heap.size + 10) rfl _ _ 79 86 rfl Tryd.underlying79 infoAtt rfl (by omega) (by omega) (us := [Str q1, Str q2]) HO.out rfl (by simp [Str, Value.oneCell']) (by omega) hs10 rfl rfl ?_; rintro _ w1 ⟨g1, cap1, rfl⟩ hown1 hgr1; have hm1 := (hgr1.block w.heap.size (by show _ < W2.heap.size; omega) (fun e => by have := hvb _ e.symm; omega)).trans HB0.out; have hp1 := (hgr1.block (w.heap.size + 1) (by show _ < W2.heap.size; omega) (fun e => by have := hvb _ e.symm; omega)).trans HB1.out; have c1 : w1.cell? ⟨w.heap.size, 0, none⟩ = some v := (by simp [World.cell?, hm1]); have f1 : w1.frozen? ⟨w.heap.size, 0, none⟩ = false := (by simp [World.frozen?, hm1]); have cp1 : w1.cell? ⟨w.heap.size + 1, 0, none⟩ = some (.pointer (some ⟨w.heap.size, 0, none⟩)) := (by simp [World.cell?, hp1]); have Hm1 := Lib.hid hm1; have Hown1 := Lib.hid hown1; have Hgr1 := Lib.hid hgr1; clear hm1 hp1 hown1 hgr1)
            try go_simp
            refine hK _ _ ?_
            clear hK K
            refine wpAnyIn_ready (rs := [0]) (by kernel_rfl) (by simp) ?_
            refine AllReadyIn.cons rfl (fun K hK => ?_) AllReadyIn.nil
            go_simp
            refine hK _ _ ?_
            clear hK K
            refine wpAnyIn_take (i := 10) (v := ?_) rfl rfl (by kernel_rfl) (by kernel_rfl) (by kernel_rfl) (fun _ _ _ h => h) ⟨Or.inl ⟨by rfl, ?_⟩, fun _ => rfl⟩ ?_
            rotate_left 1
            · (intro _; go_simp; (try with_reducible rfl))
            refine wpAnyIn_take (i := 11) (v := ?_) rfl rfl (by kernel_rfl) (by kernel_rfl) (by kernel_rfl) (fun _ _ _ h => h) ⟨Or.inl ⟨by rfl, ?_⟩, fun _ => rfl⟩ ?_
            rotate_left 1
            · (intro _; go_simp; (try with_reducible rfl))
            refine wpAnyIn_ready (rs := [12]) (by kernel_rfl) (by simp) ?_
            refine AllReadyIn.cons rfl (fun K hK => ?_) AllReadyIn.nil
            go_simp
            refine hK _ _ ?_
            clear hK K
            refine wpAnyIn_done (by kernel_rfl) ?_ _
            gi_wp2
            exact Fin.out _ _ Hm1.out Hown1.out Hgr1.out
          exact AllReadyIn.nil
        exact AllReadyIn.nil
      refine AllReadyIn.cons rfl (fun K hK => ?_) ?_
      · skip
        go_simp
        refine hK _ _ ?_
        clear hK K
        refine wpAnyIn_ready (rs := [0, 4]) (by kernel_rfl) (by simp) ?_
        refine AllReadyIn.cons rfl (fun K hK => ?_) ?_
        · skip
          go_simp
          refine hK _ _ ?_
          clear hK K
          refine wpAnyIn_ready (rs := [4]) (by kernel_rfl) (by simp) ?_
          refine AllReadyIn.cons rfl (fun K hK => ?_) AllReadyIn.nil
          go_simp
          refine hK _ _ ?_
          clear hK K
          refine wpAnyIn_ready (rs := [9]) (by kernel_rfl) (by simp) ?_
          refine AllReadyIn.cons rfl (fun K hK => ?_) AllReadyIn.nil
          (try rw [drew_alloc]; refine stepIn_push (w.heap.size + 10) rfl _ _ 79 86 rfl Tryd.underlying79 infoAtt rfl (by omega) (by omega) (us := [Str q1, Str q2]) HO.out rfl (by simp [Str, Value.oneCell']) (by omega) hs10 rfl rfl ?_; rintro _ w1 ⟨g1, cap1, rfl⟩ hown1 hgr1; have hm1 := (hgr1.block w.heap.size (by show _ < W2.heap.size; omega) (fun e => by have := hvb _ e.symm; omega)).trans HB0.out; have hp1 := (hgr1.block (w.heap.size + 1) (by show _ < W2.heap.size; omega) (fun e => by have := hvb _ e.symm; omega)).trans HB1.out; have c1 : w1.cell? ⟨w.heap.size, 0, none⟩ = some v := (by simp [World.cell?, hm1]); have f1 : w1.frozen? ⟨w.heap.size, 0, none⟩ = false := (by simp [World.frozen?, hm1]); have cp1 : w1.cell? ⟨w.heap.size + 1, 0, none⟩ = some (.pointer (some ⟨w.heap.size, 0, none⟩)) := (by simp [World.cell?, hp1]); have Hm1 := Lib.hid hm1; have Hown1 := Lib.hid hown1; have Hgr1 := Lib.hid hgr1; clear hm1 hp1 hown1 hgr1)
          try go_simp
          refine hK _ _ ?_
          clear hK K
          refine wpAnyIn_take (i := 10) (v := ?_) rfl rfl (by kernel_rfl) (by kernel_rfl) (by kernel_rfl) (fun _ _ _ h => h) ⟨Or.inl ⟨by rfl, ?_⟩, fun _ => rfl⟩ ?_
          rotate_left 1
          · (intro _; go_simp; (try with_reducible rfl))
          refine wpAnyIn_take (i := 11) (v := ?_) rfl rfl (by kernel_rfl) (by kernel_rfl) (by kernel_rfl) (fun _ _ _ h => h) ⟨Or.inl ⟨by rfl, ?_⟩, fun _ => rfl⟩ ?_
          rotate_left 1
          · (intro _; go_simp; (try with_reducible rfl))
          refine wpAnyIn_ready (rs := [12]) (by kernel_rfl) (by simp) ?_
          refine AllReadyIn.cons rfl (fun K hK => ?_) AllReadyIn.nil
          go_simp
          refine hK _ _ ?_
          clear hK K
          refine wpAnyIn_done (by kernel_rfl) ?_ _
          gi_wp2
          exact Fin.out _ _ Hm1.out Hown1.out Hgr1.out
        refine AllReadyIn.cons rfl (fun K hK => ?_) ?_
        · skip
          go_simp
          refine hK _ _ ?_
          clear hK K
          refine wpAnyIn_ready (rs := [0, 9]) (by kernel_rfl) (by simp) ?_
          refine AllReadyIn.cons rfl (fun K hK => ?_) ?_
          · skip
            go_simp
            refine hK _ _ ?_
            clear hK K
            refine wpAnyIn_ready (rs := [9]) (by kernel_rfl) (by simp) ?_
            refine AllReadyIn.cons rfl (fun K hK => ?_) AllReadyIn.nil
            (try rw [drew_alloc]; refine stepIn_push (w.heap.size + 10) rfl _ _ 79 86 rfl Tryd.underlying79 infoAtt rfl (by omega) (by omega) (us := [Str q1, Str q2]) HO.out rfl (by simp [Str, Value.oneCell']) (by omega) hs10 rfl rfl ?_; rintro _ w1 ⟨g1, cap1, rfl⟩ hown1 hgr1; have hm1 := (hgr1.block w.heap.size (by show _ < W2.heap.size; omega) (fun e => by have := hvb _ e.symm; omega)).trans HB0.out; have hp1 := (hgr1.block (w.heap.size + 1) (by show _ < W2.heap.size; omega) (fun e => by have := hvb _ e.symm; omega)).trans HB1.out; have c1 : w1.cell? ⟨w.heap.size, 0, none⟩ = some v := (by simp [World.cell?, hm1]); have f1 : w1.frozen? ⟨w.heap.size, 0, none⟩ = false := (by simp [World.frozen?, hm1]); have cp1 : w1.cell? ⟨w.heap.size + 1, 0, none⟩ = some (.pointer (some ⟨w.heap.size, 0, none⟩)) := (by simp [World.cell?, hp1]); have Hm1 := Lib.hid hm1; have Hown1 := Lib.hid hown1; have Hgr1 := Lib.hid hgr1; clear hm1 hp1 hown1 hgr1)
            try go_simp
            refine hK _ _ ?_
            clear hK K
            refine wpAnyIn_take (i := 10) (v := ?_) rfl rfl (by kernel_rfl) (by kernel_rfl) (by kernel_rfl) (fun _ _ _ h => h) ⟨Or.inl ⟨by rfl, ?_⟩, fun _ => rfl⟩ ?_
            rotate_left 1
            · (intro _; go_simp; (try with_reducible rfl))
            refine wpAnyIn_take (i := 11) (v := ?_) rfl rfl (by kernel_rfl) (by kernel_rfl) (by kernel_rfl) (fun _ _ _ h => h) ⟨Or.inl ⟨by rfl, ?_⟩, fun _ => rfl⟩ ?_
            rotate_left 1
            · (intro _; go_simp; (try with_reducible rfl))
            refine wpAnyIn_ready (rs := [12]) (by kernel_rfl) (by simp) ?_
            refine AllReadyIn.cons rfl (fun K hK => ?_) AllReadyIn.nil
            go_simp
            refine hK _ _ ?_
            clear hK K
            refine wpAnyIn_done (by kernel_rfl) ?_ _
            gi_wp2
            exact Fin.out _ _ Hm1.out Hown1.out Hgr1.out
          refine AllReadyIn.cons rfl (fun K hK => ?_) ?_
          · skip
            (try rw [drew_alloc]; refine stepIn_push (w.heap.size + 10) rfl _ _ 79 86 rfl Tryd.underlying79 infoAtt rfl (by omega) (by omega) (us := [Str q1, Str q2]) HO.out rfl (by simp [Str, Value.oneCell']) (by omega) hs10 rfl rfl ?_; rintro _ w1 ⟨g1, cap1, rfl⟩ hown1 hgr1; have hm1 := (hgr1.block w.heap.size (by show _ < W2.heap.size; omega) (fun e => by have := hvb _ e.symm; omega)).trans HB0.out; have hp1 := (hgr1.block (w.heap.size + 1) (by show _ < W2.heap.size; omega) (fun e => by have := hvb _ e.symm; omega)).trans HB1.out; have c1 : w1.cell? ⟨w.heap.size, 0, none⟩ = some v := (by simp [World.cell?, hm1]); have f1 : w1.frozen? ⟨w.heap.size, 0, none⟩ = false := (by simp [World.frozen?, hm1]); have cp1 : w1.cell? ⟨w.heap.size + 1, 0, none⟩ = some (.pointer (some ⟨w.heap.size, 0, none⟩)) := (by simp [World.cell?, hp1]); have Hm1 := Lib.hid hm1; have Hown1 := Lib.hid hown1; have Hgr1 := Lib.hid hgr1; clear hm1 hp1 hown1 hgr1)
            try go_simp
            refine hK _ _ ?_
            clear hK K
            refine wpAnyIn_ready (rs := [0]) (by kernel_rfl) (by simp) ?_
            refine AllReadyIn.cons rfl (fun K hK => ?_) AllReadyIn.nil
            go_simp
            refine hK _ _ ?_
            clear hK K
            refine wpAnyIn_take (i := 10) (v := ?_) rfl rfl (by kernel_rfl) (by kernel_rfl) (by kernel_rfl) (fun _ _ _ h => h) ⟨Or.inl ⟨by rfl, ?_⟩, fun _ => rfl⟩ ?_
            rotate_left 1
            · (intro _; go_simp; (try with_reducible rfl))
            refine wpAnyIn_take (i := 11) (v := ?_) rfl rfl (by kernel_rfl) (by kernel_rfl) (by kernel_rfl) (fun _ _ _ h => h) ⟨Or.inl ⟨by rfl, ?_⟩, fun _ => rfl⟩ ?_
            rotate_left 1
            · (intro _; go_simp; (try with_reducible rfl))
            refine wpAnyIn_ready (rs := [12]) (by kernel_rfl) (by simp) ?_
            refine AllReadyIn.cons rfl (fun K hK => ?_) AllReadyIn.nil
            go_simp
            refine hK _ _ ?_
            clear hK K
            refine wpAnyIn_done (by kernel_rfl) ?_ _
            gi_wp2
            exact Fin.out _ _ Hm1.out Hown1.out Hgr1.out
          exact AllReadyIn.nil
        exact AllReadyIn.nil
      exact AllReadyIn.nil
    refine AllReadyIn.cons rfl (fun K hK => ?_) ?_
    · skip
      go_simp
      refine hK _ _ ?_
      clear hK K
      refine wpAnyIn_ready (rs := [0, 1]) (by kernel_rfl) (by simp) ?_
      refine AllReadyIn.cons rfl (fun K hK => ?_) ?_
      · skip
        go_simp
        refine hK _ _ ?_
        clear hK K
        refine wpAnyIn_ready (rs := [1]) (by kernel_rfl) (by simp) ?_
        refine AllReadyIn.cons rfl (fun K hK => ?_) AllReadyIn.nil
        go_simp
        refine hK _ _ ?_
        clear hK K
        refine wpAnyIn_take (i := 2) (v := ?_) rfl rfl (by kernel_rfl) (by kernel_rfl) (by kernel_rfl) (fun _ _ _ h => h) ⟨Or.inl ⟨by rfl, ?_⟩, fun _ => rfl⟩ ?_
        rotate_left 1
        · (intro _; go_simp; (try with_reducible rfl))
        refine wpAnyIn_take (i := 3) (v := ?_) rfl rfl (by kernel_rfl) (by kernel_rfl) (by kernel_rfl) (fun _ _ _ h => h) ⟨Or.inl ⟨by rfl, ?_⟩, fun _ => rfl⟩ ?_
        rotate_left 1
        · (intro _; go_simp; (try with_reducible rfl))
        refine wpAnyIn_ready (rs := [4]) (by kernel_rfl) (by simp) ?_
        refine AllReadyIn.cons rfl (fun K hK => ?_) AllReadyIn.nil
        go_simp
        refine hK _ _ ?_
        clear hK K
        refine wpAnyIn_ready (rs := [9]) (by kernel_rfl) (by simp) ?_
        refine AllReadyIn.cons rfl (fun K hK => ?_) AllReadyIn.nil
        (try rw [drew_alloc]; refine stepIn_push (w.heap.size + 10) rfl _ _ 79 86 rfl Tryd.underlying79 infoAtt rfl (by omega) (by omega) (us := [Str q1, Str q2]) HO.out rfl (by simp [Str, Value.oneCell']) (by omega) hs10 rfl rfl ?_; rintro _ w1 ⟨g1, cap1, rfl⟩ hown1 hgr1; have hm1 := (hgr1.block w.heap.size (by show _ < W2.heap.size; omega) (fun e => by have := hvb _ e.symm; omega)).trans HB0.out; have hp1 := (hgr1.block (w.heap.size + 1) (by show _ < W2.heap.size; omega) (fun e => by have := hvb _ e.symm; omega)).trans HB1.out; have c1 : w1.cell? ⟨w.heap.size, 0, none⟩ = some v := (by simp [World.cell?, hm1]); have f1 : w1.frozen? ⟨w.heap.size, 0, none⟩ = false := (by simp [World.frozen?, hm1]); have cp1 : w1.cell? ⟨w.heap.size + 1, 0, none⟩ = some (.pointer (some ⟨w.heap.size, 0, none⟩)) := (by simp [World.cell?, hp1]); have Hm1 := Lib.hid hm1; have Hown1 := Lib.hid hown1; have Hgr1 := Lib.hid hgr1; clear hm1 hp1 hown1 hgr1)
        try go_simp
        refine hK _ _ ?_
        clear hK K
        refine wpAnyIn_take (i := 10) (v := ?_) rfl rfl (by kernel_rfl) (by kernel_rfl) (by kernel_rfl) (fun _ _ _ h => h) ⟨Or.inl ⟨by rfl, ?_⟩, fun _ => rfl⟩ ?_
        rotate_left 1
        · (intro _; go_simp; (try with_reducible rfl))
        refine wpAnyIn_take (i := 11) (v := ?_) rfl rfl (by kernel_rfl) (by kernel_rfl) (by kernel_rfl) (fun _ _ _ h => h) ⟨Or.inl ⟨by rfl, ?_⟩, fun _ => rfl⟩ ?_
        rotate_left 1
        · (intro _; go_simp; (try with_reducible rfl))
        refine wpAnyIn_ready (rs := [12]) (by kernel_rfl) (by simp) ?_
        refine AllReadyIn.cons rfl (fun K hK => ?_) AllReadyIn.nil
        go_simp
        refine hK _ _ ?_
        clear hK K
        refine wpAnyIn_done (by kernel_rfl) ?_ _
        gi_wp2
        exact Fin.out _ _ Hm1.out Hown1.out Hgr1.out
      refine AllReadyIn.cons rfl (fun K hK => ?_) ?_
      · skip
        go_simp
        refine hK _ _ ?_
        clear hK K
        refine wpAnyIn_take (i := 2) (v := ?_) rfl rfl (by kernel_rfl) (by kernel_rfl) (by kernel_rfl) (fun _ _ _ h => h) ⟨Or.inl ⟨by rfl, ?_⟩, fun _ => rfl⟩ ?_
        rotate_left 1
        · (intro _; go_simp; (try with_reducible rfl))
        refine wpAnyIn_take (i := 3) (v := ?_) rfl rfl (by kernel_rfl) (by kernel_rfl) (by kernel_rfl) (fun _ _ _ h => h) ⟨Or.inl ⟨by rfl, ?_⟩, fun _ => rfl⟩ ?_
        rotate_left 1
        · (intro _; go_simp; (try with_reducible rfl))
        refine wpAnyIn_ready (rs := [0, 4]) (by kernel_rfl) (by simp) ?_
        refine AllReadyIn.cons rfl (fun K hK => ?_) ?_
        · skip
          go_simp
          refine hK _ _ ?_
          clear hK K
          refine wpAnyIn_ready (rs := [4]) (by kernel_rfl) (by simp) ?_
          refine AllReadyIn.cons rfl (fun K hK => ?_) AllReadyIn.nil
          go_simp
          refine hK _ _ ?_
          clear hK K
          refine wpAnyIn_ready (rs := [9]) (by kernel_rfl) (by simp) ?_
          refine AllReadyIn.cons rfl (fun K hK => ?_) AllReadyIn.nil
          (try rw [drew_alloc]; refine stepIn_push (w.heap.size + 10) rfl _ _ 79 86 rfl Tryd.underlying79 infoAtt rfl (by omega) (by omega) (us := [Str q1, Str q2]) HO.out rfl (by simp [Str, Value.oneCell']) (by omega) hs10 rfl rfl ?_; rintro _ w1 ⟨g1, cap1, rfl⟩ hown1 hgr1; have hm1 := (hgr1.block w.heap.size (by show _ < W2.heap.size; omega) (fun e => by have := hvb _ e.symm; omega)).trans HB0.out; have hp1 := (hgr1.block (w.heap.size + 1) (by show _ < W2.heap.size; omega) (fun e => by have := hvb _ e.symm; omega)).trans HB1.out; have c1 : w1.cell? ⟨w.heap.size, 0, none⟩ = some v := (by simp [World.cell?, hm1]); have f1 : w1.frozen? ⟨w.heap.size, 0, none⟩ = false := (by simp [World.frozen?, hm1]); have cp1 : w1.cell? ⟨w.heap.size + 1, 0, none⟩ = some (.pointer (some ⟨w.heap.size, 0, none⟩)) := (by simp [World.cell?, hp1]); have Hm1 := Lib.hid hm1; have Hown1 := Lib.hid hown1; have Hgr1 := Lib.hid hgr1; clear hm1 hp1 hown1 hgr1)
          try go_simp
          refine hK _ _ ?_
          clear hK K
          refine wpAnyIn_take (i := 10) (v := ?_) rfl rfl (by kernel_rfl) (by kernel_rfl) (by kernel_rfl) (fun _ _ _ h => h) ⟨Or.inl ⟨by rfl, ?_⟩, fun _ => rfl⟩ ?_
          rotate_left 1
          · (intro _; go_simp; (try with_reducible rfl))
          refine wpAnyIn_take (i := 11) (v := ?_) rfl rfl (by kernel_rfl) (by kernel_rfl) (by kernel_rfl) (fun _ _ _ h => h) ⟨Or.inl ⟨by rfl, ?_⟩, fun _ => rfl⟩ ?_
          rotate_left 1
          · (intro _; go_simp; (try with_reducible rfl))
          refine wpAnyIn_ready (rs := [12]) (by kernel_rfl) (by simp) ?_
          refine AllReadyIn.cons rfl (fun K hK => ?_) AllReadyIn.nil
          go_simp
          refine hK _ _ ?_
          clear hK K
          refine wpAnyIn_done (by kernel_rfl) ?_ _
          gi_wp2
          exact Fin.out _ _ Hm1.out Hown1.out Hgr1.out
        refine AllReadyIn.cons rfl (fun K hK => ?_) ?_
        · skip
          go_simp
          refine hK _ _ ?_
          clear hK K
          refine wpAnyIn_ready (rs := [0, 9]) (by kernel_rfl) (by simp) ?_
          refine AllReadyIn.cons rfl (fun K hK => ?_) ?_
          · skip
            go_simp
            refine hK _ _ ?_
            clear hK K
            refine wpAnyIn_ready (rs := [9]) (by kernel_rfl) (by simp) ?_
            refine AllReadyIn.cons rfl (fun K hK => ?_) AllReadyIn.nil
            (try rw [drew_alloc]; refine stepIn_push (w.heap.size + 10) rfl _ _ 79 86 rfl Tryd.underlying79 infoAtt rfl (by omega) (by omega) (us := [Str q1, Str q2]) HO.out rfl (by simp [Str, Value.oneCell']) (by omega) hs10 rfl rfl ?_; rintro _ w1 ⟨g1, cap1, rfl⟩ hown1 hgr1; have hm1 := (hgr1.block w.heap.size (by show _ < W2.heap.size; omega) (fun e => by have := hvb _ e.symm; omega)).trans HB0.out; have hp1 := (hgr1.block (w.heap.size + 1) (by show _ < W2.heap.size; omega) (fun e => by have := hvb _ e.symm; omega)).trans HB1.out; have c1 : w1.cell? ⟨w.heap.size, 0, none⟩ = some v := (by simp [World.cell?, hm1]); have f1 : w1.frozen? ⟨w.heap.size, 0, none⟩ = false := (by simp [World.frozen?, hm1]); have cp1 : w1.cell? ⟨w.heap.size + 1, 0, none⟩ = some (.pointer (some ⟨w.heap.size, 0, none⟩)) := (by simp [World.cell?, hp1]); have Hm1 := Lib.hid hm1; have Hown1 := Lib.hid hown1; have Hgr1 := Lib.hid hgr1; clear hm1 hp1 hown1 hgr1)
            try go_simp
            refine hK _ _ ?_
            clear hK K
            refine wpAnyIn_take (i := 10) (v := ?_) rfl rfl (by kernel_rfl) (by kernel_rfl) (by kernel_rfl) (fun _ _ _ h => h) ⟨Or.inl ⟨by rfl, ?_⟩, fun _ => rfl⟩ ?_
            rotate_left 1
            · (intro _; go_simp; (try with_reducible rfl))
            refine wpAnyIn_take (i := 11) (v := ?_) rfl rfl (by kernel_rfl) (by kernel_rfl) (by kernel_rfl) (fun _ _ _ h => h) ⟨Or.inl ⟨by rfl, ?_⟩, fun _ => rfl⟩ ?_
            rotate_left 1
            · (intro _; go_simp; (try with_reducible rfl))
            refine wpAnyIn_ready (rs := [12]) (by kernel_rfl) (by simp) ?_
            refine AllReadyIn.cons rfl (fun K hK => ?_) AllReadyIn.nil
            go_simp
            refine hK _ _ ?_
            clear hK K
            refine wpAnyIn_done (by kernel_rfl) ?_ _
            gi_wp2
            exact Fin.out _ _ Hm1.out Hown1.out Hgr1.out
          refine AllReadyIn.cons rfl (fun K hK => ?_) ?_
          · skip
            (try rw [drew_alloc]; refine stepIn_push (w.heap.size + 10) rfl _ _ 79 86 rfl Tryd.underlying79 infoAtt rfl (by omega) (by omega) (us := [Str q1, Str q2]) HO.out rfl (by simp [Str, Value.oneCell']) (by omega) hs10 rfl rfl ?_; rintro _ w1 ⟨g1, cap1, rfl⟩ hown1 hgr1; have hm1 := (hgr1.block w.heap.size (by show _ < W2.heap.size; omega) (fun e => by have := hvb _ e.symm; omega)).trans HB0.out; have hp1 := (hgr1.block (w.heap.size + 1) (by show _ < W2.heap.size; omega) (fun e => by have := hvb _ e.symm; omega)).trans HB1.out; have c1 : w1.cell? ⟨w.heap.size, 0, none⟩ = some v := (by simp [World.cell?, hm1]); have f1 : w1.frozen? ⟨w.heap.size, 0, none⟩ = false := (by simp [World.frozen?, hm1]); have cp1 : w1.cell? ⟨w.heap.size + 1, 0, none⟩ = some (.pointer (some ⟨w.heap.size, 0, none⟩)) := (by simp [World.cell?, hp1]); have Hm1 := Lib.hid hm1; have Hown1 := Lib.hid hown1; have Hgr1 := Lib.hid hgr1; clear hm1 hp1 hown1 hgr1)
            try go_simp
            refine hK _ _ ?_
            clear hK K
            refine wpAnyIn_ready (rs := [0]) (by kernel_rfl) (by simp) ?_
            refine AllReadyIn.cons rfl (fun K hK => ?_) AllReadyIn.nil
            go_simp
            refine hK _ _ ?_
            clear hK K
            refine wpAnyIn_take (i := 10) (v := ?_) rfl rfl (by kernel_rfl) (by kernel_rfl) (by kernel_rfl) (fun _ _ _ h => h) ⟨Or.inl ⟨by rfl, ?_⟩, fun _ => rfl⟩ ?_
            rotate_left 1
            · (intro _; go_simp; (try with_reducible rfl))
            refine wpAnyIn_take (i := 11) (v := ?_) rfl rfl (by kernel_rfl) (by kernel_rfl) (by kernel_rfl) (fun _ _ _ h => h) ⟨Or.inl ⟨by rfl, ?_⟩, fun _ => rfl⟩ ?_
            rotate_left 1
            · (intro _; go_simp; (try with_reducible rfl))
            refine wpAnyIn_ready (rs := [12]) (by kernel_rfl) (by simp) ?_
            refine AllReadyIn.cons rfl (fun K hK => ?_) AllReadyIn.nil
            go_simp
            refine hK _ _ ?_
            clear hK K
            refine wpAnyIn_done (by kernel_rfl) ?_ _
            gi_wp2
            exact Fin.out _ _ Hm1.out Hown1.out Hgr1.out
          exact AllReadyIn.nil
        exact AllReadyIn.nil
      exact AllReadyIn.nil
    exact AllReadyIn.nil
  · rintro D W hD ⟨v, h0, h1, h2, hown, hbel⟩ hdef
    rw [List.take_length] at hown
    have hvb : ∀ k, v.ownBlock = some k → w.heap.size + 10 ≤ k ∧ k < W.heap.size := fun k hk => by
      rcases hown.2 with ⟨hn, _⟩ | ⟨g, cap, cur, hv, hbg, hg, _⟩
      · rw [hn] at hk; simp [Value.ownBlock] at hk
      · rw [hv] at hk; simp [Value.ownBlock] at hk; subst hk; exact ⟨hbg, (Array.getElem?_eq_some_iff.1 hg).1⟩
    have hDl := (Array.getElem?_eq_some_iff.1 hdef).1
    have hsl := (Array.getElem?_eq_some_iff.1 h2).1
    have hM2 : MaxAt W := hM.ext hbel
    have HOW := Lib.hid hown; have HDEF := Lib.hid hdef; have HVB := Lib.hid hvb; have HBEL := Lib.hid hbel; have HH0 := Lib.hid h0; have HH1 := Lib.hid h1; have HH2 := Lib.hid h2
    clear hown hdef hvb hbel h0 h1 h2 hit
    go_wp2_with (go_at_call 52; refine (pieces_any _ _).mono ?_; rintro e w' ⟨rfl, rfl⟩)
    obtain ⟨t, ht⟩ : ∃ t, t = W.heap.size := ⟨_, rfl⟩
    obtain ⟨X0, hX0⟩ : ∃ X0, W.alloc (.cells #[Str l] 9) = X0 := ⟨_, rfl⟩
    have bt0 : X0.heap[t]? = some (.cells #[Str l] 9 (0, 0)) := by rw [← hX0, ht]; exact heap_alloc_new _ _
    have hxx : Ext W X0 := by rw [← hX0]; exact (Below.refl _ _).alloc (Nat.le_refl _) _
    have hxs : X0.heap.size = t + 1 := by rw [← hX0, ht]; simp
    rw [← ht] at hDl hsl HVB
    rw [hX0, ← ht]
    have hxb : ∀ k, k < t → X0.heap[k]? = W.heap[k]? := fun k hk => hxx.block k (by omega)
    clear hX0 ht
    have hsp : (spl l).length ≤ 10001 := by have := spl_len l; omega
    have hit2 := pieces_iter l (by omega) t X0 bt0 (hM2.ext hxx) (by omega)
    obtain ⟨N, hN⟩ : ∃ N, (spl l).length = N := ⟨_, rfl⟩
    rw [hN] at hit2 hsp
    have HNN := Lib.hid hN
    clear hN
    have HXB := Lib.hid hxb; have HXX := Lib.hid hxx
    clear hxb hxx
    refine wpIn_wide.1 (wpIn_range (n := 5) (P := Tryd.prog) rfl (enters_of Tryd.func62 (by kernel_rfl) rfl) hit2 (fun k h => by omega) (fun k h => by omega) (fun _ => rfl)
      (fun i W' => W'.heap[w.heap.size]? = some (.cells #[v, .bool false] 81 (0, 0)) ∧ W'.heap[w.heap.size + 1]? = some (.cells #[.pointer (some ⟨w.heap.size, 0, none⟩)] 54 (0, 0)) ∧ W'.heap[w.heap.size + 2]? = some (.cells #[.int .i64 (i : Int)] 3 (0, 0)) ∧
        W'.ownsRow (w.heap.size + 10) 86 2 v A.length (attF A) ∧ Below w.heap.size w W' ∧ W'.heap[D]? = some (.deferred (some [])) ∧ t + 1 ≤ W'.heap.size)
      (fun c i W => False) ?_ (fun _ _ _ _ h _ => h.elim)
      ⟨(HXB.out _ (by omega)).trans HH0.out, (HXB.out _ (by omega)).trans HH1.out, (HXB.out _ (by omega)).trans HH2.out, ownz_ext HOW.out HXX.out, HBEL.out.trans (HXX.out.mono HBEL.out.size), (HXB.out _ (by omega)).trans HDEF.out, by omega⟩ ?_ ?_ (fun _ _ _ _ _ _ h _ => h.elim))
    · rintro i A' C ⟨h0, h1, h2, hown, hbel, hD2, hsz⟩ hm
      exact ⟨hm.keeps h0 (by omega) (by omega), hm.keeps h1 (by omega) (by omega), hm.keeps h2 (by omega) (by omega), ownz_keep hown fun g hg _ hk => hm.block g (kind_lt hk) (by have := HVB.out g hg; omega) (.inl (by have := HVB.out g hg; omega)), hm.below hbel (fun k hk => by omega) (by omega) (Nat.le_refl _), hm.keeps hD2 (by omega) (by omega), Nat.le_trans hsz hm.size⟩
    · rintro m' lp i W' hi ⟨h0, h1, h2, hown, hbel, hD2, hsz⟩ hlp hrec
      gi_wp2
      refine ⟨Kp.refl _ _ _, fun W2 hm2 hrec2 => ?_⟩
      replace h0 := hm2.keeps h0 (fun h => h) (by omega)
      replace h1 := hm2.keeps h1 (fun h => h) (by omega)
      replace h2 := hm2.keeps h2 (fun h => h) (by omega)
      replace hown := ownz_mv hown hm2 (fun k hk => hk.elim)
      replace hbel := hm2.below hbel (fun k hk => hk.elim) (by omega) (Nat.le_refl _)
      replace hD2 := hm2.keeps hD2 (fun h => h) (by omega)
      replace hsz := Nat.le_trans hsz hm2.size
      clear hm2 hrec hrec2
      have c2 := cell_of h2; have f2 := frozen_of h2
      have hin : i ≤ 10001 := by omega
      have hc := Chg.setCell W2 ⟨w.heap.size + 2, 0, none⟩ (.int .i64 ((i : Int) + 1))
      have hset := one_setCell (u := .int .i64 ((i : Int) + 1)) h2
      have FIN := Lib.hid (show Kp X0.heap.size (fun k => k = t ∨ k = 0) W2 (W2.setCell ⟨w.heap.size + 2, 0, none⟩ (.int .i64 ((i : Int) + 1))) ∧ _ ∧ _ ∧ _ ∧ _ ∧ _ ∧ _ ∧ _ from
        ⟨Kp.of_chg hc (fun k hk => by simp; omega) (fun k hk hB => by simp at hk; omega), (hc.block _ (by omega) (by simp)).trans h0, (hc.block _ (by omega) (by simp)).trans h1, hset, ownz_keep hown (fun g hg hbg hk => hc.block g (kind_lt hk) (by simp; omega)), below_chg hbel hc (by simp; try omega) (Nat.le_refl _), (hc.block _ (by omega) (by simp; omega)).trans hD2, Nat.le_trans hsz hc.size⟩)
      clear h0 h1 h2 hown hbel hD2 hc hset
      gi_wp2
      exact FIN.out
    · rintro D2 W' hD2' ⟨h0, h1, h2, hown, hbel, hDa, hsz⟩ hDb
      have c0 : W'.cell? ⟨w.heap.size, 0, none⟩ = some v := by simp [World.cell?, h0]
      have c1 := cell_of h1
      have c2 := cell_of h2
      have c3 : W'.cell? ⟨w.heap.size, 1, none⟩ = some (.bool false) := by simp [World.cell?, h0]
      have f3 : W'.frozen? ⟨w.heap.size, 1, none⟩ = false := by simp [World.frozen?, h0]
      have hvs : ∃ ao cap, v = .slice ao A.length cap := by
        rcases hown.2 with ⟨hn, h0'⟩ | ⟨g, cap, cur, hv, _⟩
        · exact ⟨none, 0, by rw [hn, h0']⟩
        · exact ⟨_, cap, hv⟩
      obtain ⟨ao, cp, hvv⟩ := hvs
      subst hvv
      have HB := Lib.hid (show _ ∧ _ ∧ _ ∧ _ ∧ _ from ⟨h0, hown, hbel, hDa, hDb⟩)
      clear h0 h1 h2 hown hbel hDa hDb HOW HVB HH0 HH1 HH2
      have hle : A.length ≤ N := by rw [← HNN.out, ← HA.out]; exact tw_le isAt (spl l)
      have hbb : ((N : Int) != (A.length : Int)) = decide (A.length < N) := by
        rw [Bool.eq_iff_iff]; simp; omega
      have HBB := Lib.hid hbb; clear hbb
      obtain ⟨W5, hW5⟩ : ∃ W5, W'.setCell ⟨w.heap.size, 1, none⟩ (.bool ((N : Int) != (A.length : Int))) = W5 := ⟨_, rfl⟩
      have hc5 := Chg.setCell W' ⟨w.heap.size, 1, none⟩ (.bool ((N : Int) != (A.length : Int)))
      have hs5 := set_at (j := 1) (u := .bool ((N : Int) != (A.length : Int))) HB.out.1
      rw [hW5] at hc5 hs5
      have c15 : W5.cell? ⟨w.heap.size + 1, 0, none⟩ = some (.pointer (some ⟨w.heap.size, 0, none⟩)) := (World.cell?_of_block (w := W') (hc5.block _ (World.block_lt_of_cell? W' _ c1) (by simp))).trans c1
      have HC5 := Lib.hid hc5; have HS5 := Lib.hid hs5
      clear hc5 hs5
      go_wp2
      go_region
      go_wp2
      obtain ⟨q0, q1, q2, q3, q4⟩ := HB.out
      have d2 : W5.drew.heap[D2]? = some (.deferred (some [])) := (HC5.out.block _ (Array.getElem?_eq_some_iff.1 q4).1 (fun h => by have h' : D2 = w.heap.size := h; omega)).trans q4
      have d1 : (W5.drew.putObj D2 (.deferred none)).heap[D]? = some (.deferred (some [])) := (World.putObj_heap_other (by omega)).trans ((HC5.out.block _ (Array.getElem?_eq_some_iff.1 q3).1 (fun h => by have h' : D = w.heap.size := h; omega)).trans q3)
      refine ⟨by simp, .inl ⟨_, _, rfl, run_takeDeferred d2, ⟨by simp, .inl ⟨_, _, rfl, run_takeDeferred d1, ⟨_, results_tmp rfl _ _ _, w.heap.size, .slice ao A.length cp, rfl, Nat.le_refl _, ?_, ?_, ?_⟩⟩⟩⟩⟩
      · rw [HA.out, HNN.out, ← HBB.out]
        refine (World.putObj_heap_other (by omega)).trans ((World.putObj_heap_other (by omega)).trans ?_)
        exact HS5.out
      · rw [HA.out]
        refine ownz_base (ownz_put (ownz_put ?_ d2) d1) (show w.heap.size + 1 ≤ w.heap.size + 10 by omega)
        exact ownz_keep q1 fun g hg hbg hk => HC5.out.block g (kind_lt hk) (fun h => by have h' : g = w.heap.size := h; omega)
      · exact below_mark (below_mark ((below_chg q2 HC5.out (fun k hk => by have h' : k = w.heap.size := hk; omega) (Nat.le_refl _)).drew) (by omega) d2) (by omega) d1
end Go.Proofs.YtjkbigecejogdaaDoor
