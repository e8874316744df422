/-
  The law's own attributes: a text's first ones.
-/
import Derived.Test.YtiellfhdfifbhaaDoorRows
import Derived.Test.YtiellfhdfifbhaaDoorRea
namespace Go.Proofs.YtiellfhdfifbhaaDoor
open Go.RowKit
set_option maxRecDepth 100000
attribute [local go_sem] Oper.semAt_some
set_option linter.unusedVariables false
set_option linter.unusedSimpArgs false

theorem infoPair : (Tryd.prog.info? 28).map (fun i => (i.zero, i.size, i.bytes)) = some (some (.agg #[.string ⟨#[]⟩, .string ⟨#[]⟩]), 2, 32) := by kernel_rfl
theorem alloc_get {W : World} {us : List Value} {e : TypeId} (j : Nat) (y : Value) (hj : us[j]? = some y) : (W.alloc (.cells us.toArray e)).cell? ((⟨W.heap.size, 0, none⟩ : Addr).add j) = some y := by
  have : ((⟨W.heap.size, 0, none⟩ : Addr).add j) = ⟨W.heap.size, j, none⟩ := by have := adr_some W.heap.size 0 j; rw [Nat.zero_add] at this; exact this
  rw [this]
  simp only [World.cell?]
  rw [show (W.alloc (.cells us.toArray e)).heap[W.heap.size]? = some (.cells us.toArray e) from heap_alloc_new W _]
  simpa using hj
theorem wpListIn_pushz {F : Fence} {fn : Nat} {P : Program} {w : World} {ops : Array Oper} {rest : List Oper} {o : Oper} {a : Act} {Q : Exit → Act → World → Prop} (base : Nat) (hgd : o.guard = none) (s x : Operand) (t e : TypeId)
    (ho : o.op = .call { callee := .builtin .append, args := #[s, x], argTypes := #[t, t] }) (ht : P.underlying t = some (.slice e))
    {z : Value} {sz bytes : Nat} (hinfo : (P.info? e).map (fun i => (i.zero, i.size, i.bytes)) = some (some z, sz, bytes)) (hz : z.cells.size = sz) (hz0 : 0 < sz) (hb : bytes ≤ 1000)
    {v : Value} {n : Nat} {xs us : List Value} (hown : w.ownsRow base e sz v n xs) (hul : us.length = sz) (hu : ∀ u ∈ us, u.oneCell' = true) (hn : n + 1 ≤ 100000000) (hbase : base ≤ w.heap.size)
    (hs : a.eval s = v) (hx : a.eval x = .slice (some ⟨w.heap.size, 0, none⟩) 1 1)
    (h : ∀ v' w', (∃ g cap, v' = .slice (some ⟨g, 0, none⟩) (n + 1) cap) → w'.ownsRow base e sz v' (n + 1) (xs ++ us) → w.grownBy w' v.ownBlock → wpListIn F fn P ops Q rest (a.put o.dst v') w') :
    wpListIn F fn P ops Q (o :: rest) a (w.alloc (.cells us.toArray e)) := by
  obtain ⟨i0, hi, hi0, hi1, hi2⟩ := info_parts hinfo
  refine wpListIn_append_own _ hgd s x t ho base e i0 z sz bytes ht hi hi0 hi1 hi2 hz hz0 v n xs hs (hown.alloc _) ⟨w.heap.size, 0, none⟩ 1 1 us hx (by omega) (fun j y hj => alloc_get j y hj) hu (by unfold maxLen; omega) ?_ (by simp; omega) ?_
  · have : (n + 1) * bytes ≤ 100000000 * 1000 := Nat.mul_le_mul hn hb
    omega
  · intro v' w' h1 h2 _
    refine h v' w' ?_ h1 (grownBy_from h2)
    rcases h1.2 with ⟨_, h0⟩ | ⟨g, cap, cur, hv, _⟩
    · omega
    · exact ⟨g, cap, hv⟩
theorem box_pushz {s B z : Nat} {e t : TypeId} {W w1 : World} {own : Nat → Prop} {v v' : Value} {n : Nat} {xs xs' : List Value} (hsB : s < B) (hBW : B ≤ W.heap.size)
    (hbox : W.heap[s]? = some (.cells #[v] t (0, 0))) (hrow0 : W.ownsRow B e z v n xs) (hrow : w1.ownsRow B e z v' (n + 1) xs') (hg : W.grownBy w1 v.ownBlock) (ho : ∀ k, own k → k < B ∧ k ≠ s) :
    w1.cell? ⟨s, 0, none⟩ = some v ∧ w1.frozen? ⟨s, 0, none⟩ = false ∧ (w1.setCell ⟨s, 0, none⟩ v').heap[s]? = some (.cells #[v'] t (0, 0)) ∧ (w1.setCell ⟨s, 0, none⟩ v').ownsRow B e z v' (n + 1) xs' ∧
      (∀ B0, B0 ≤ B → (∀ k, k = s → k < B0) → Kp B0 own W (w1.setCell ⟨s, 0, none⟩ v')) ∧ (w1.setCell ⟨s, 0, none⟩ v').os = W.os ∧ (w1.setCell ⟨s, 0, none⟩ v').tape = W.tape ∧ (w1.setCell ⟨s, 0, none⟩ v').output = W.output ∧
      W.heap.size ≤ (w1.setCell ⟨s, 0, none⟩ v').heap.size ∧ ∀ k, k < B → k ≠ s → (w1.setCell ⟨s, 0, none⟩ v').heap[k]? = W.heap[k]? := by
  have hvb : ∀ k, v.ownBlock = some k → B ≤ k := fun k hk => by
    rcases hrow0.2 with ⟨hn, _⟩ | ⟨g, cap, cur, hv, hbg, _⟩
    · rw [hn] at hk; simp [Value.ownBlock] at hk
    · rw [hv] at hk; simp [Value.ownBlock] at hk; omega
  have hlow : ∀ k, k < B → w1.heap[k]? = W.heap[k]? := fun k hk => hg.block k (by omega) (fun e => by have := hvb k e.symm; omega)
  have e1 := (hlow s (by omega)).trans hbox
  have hc := Chg.setCell w1 ⟨s, 0, none⟩ v'
  have hgs := hg.size
  refine ⟨cell_of e1, frozen_of e1, one_setCell e1, ownz_keep hrow fun g _ hg' hk => hc.block g (kind_lt hk) (by simp; omega), ?_, hc.os.trans hg.os, hc.tape.trans hg.tape, hc.output.trans hg.output, Nat.le_trans hg.size hc.size, fun k hk hks => (hc.block k (by omega) (by simp; omega)).trans (hlow k (by omega))⟩
  intro B0 hB0 hs0
  have hsB0 := hs0 s rfl
  refine (Kp.of_grown hg (fun k hk => ⟨by have := ho k hk; omega, fun e => by have := hvb k e; have := ho k hk; omega⟩) (fun k hk => ?_)).trans (Kp.of_chg hc (fun k hk => ?_) (fun k hk hB => ?_))
  · rcases hrow0.2 with ⟨hn, _⟩ | ⟨g, cap, cur, hv, _, hgg, _⟩
    · rw [hn] at hk; simp [Value.ownBlock] at hk
    · rw [hv] at hk; simp [Value.ownBlock] at hk; subst hk; exact ⟨_, kind_of_cells hgg⟩
  · have := ho k hk; simp; omega
  · simp at hk; omega

set_option maxHeartbeats 2000000 in
theorem attributes_law (l : List UInt8) (q : Nat) (hq : 0 < q) (hl : l.length ≤ 10000) (w : World) (hM : MaxAt w) :
    Calls Tryd.prog 11 #[Str l, .int .i64 (q : Int)] w fun e w' => ∃ v, e = .returned v ∧ w'.ownsRow w.heap.size 28 2 v ((attsP l).take q).length (attF ((attsP l).take q)) ∧ Ext w w' := by
  refine (callsIn_wide (n := 5)).1 (callsIn_of_wp_marks Tryd.func11 rfl trivial (wpIn_wide.2 ?_) rfl)
  simp only [Tryd.ntmps11, List.size_toArray, List.length_cons, List.length_nil, Nat.reduceAdd, Nat.reduceSub, Array.replicate_succ, Array.replicate_zero, List.push_toArray, List.append_toArray, List.nil_append, List.cons_append]
  go_wp2_with (go_at_call 20; refine (attributes_any _ _).mono ?_; rintro e w' ⟨rfl, rfl⟩)
  obtain ⟨W0, hW0⟩ : ∃ W0, ((w.alloc (.cells #[.int .i64 (q : Int)] 3)).alloc (.cells #[.slice none 0 0] 24)).alloc (.cells #[Str l] 9) = W0 := ⟨_, rfl⟩
  have hW0' : W0 = allocs w [.cells #[.int .i64 (q : Int)] 3, .cells #[.slice none 0 0] 24, .cells #[Str l] 9] := hW0.symm
  have b0 : W0.heap[w.heap.size]? = some (.cells #[.int .i64 (q : Int)] 3 (0, 0)) := by rw [hW0']; exact allocs_at w _ 0 _ rfl
  have b1 : W0.heap[w.heap.size + 1]? = some (.cells #[.slice none 0 0] 24 (0, 0)) := by rw [hW0']; exact allocs_at w _ 1 _ rfl
  have b2 : W0.heap[w.heap.size + 2]? = some (.cells #[Str l] 9 (0, 0)) := by rw [hW0']; exact allocs_at w _ 2 _ rfl
  have hext0 : Ext w W0 := by rw [hW0']; exact allocs_ext _ _
  have hsz0 : W0.heap.size = w.heap.size + 3 := by rw [hW0']; exact allocs_size _ _
  have hml := hM.lt
  simp only [Nat.add_assoc, Nat.reduceAdd]
  rw [hW0]
  clear hW0 hW0'
  have hit := attributes_iter l (by omega) (w.heap.size + 2) W0 b2 (hM.ext hext0)
  have hal : (attsP l).length ≤ 10001 := by have := tw_le isAt (spl l); have := spl_len l; unfold attsP; omega
  obtain ⟨A, hA⟩ : ∃ A, attsP l = A := ⟨_, rfl⟩
  rw [hA] at hit hal
  have HA := Lib.hid hA
  clear hA
  refine wpIn_wide.1 (wpIn_range2 (n := 5) (P := Tryd.prog) rfl (enters_of Tryd.func45 (by kernel_rfl) rfl) hit (fun k h => by omega) (fun k h => by omega) (fun k h => by omega) (fun _ => rfl)
    (fun i W => i < q ∧ W.heap[w.heap.size]? = some (.cells #[.int .i64 (q : Int)] 3 (0, 0)) ∧ ∃ v, W.heap[w.heap.size + 1]? = some (.cells #[v] 24 (0, 0)) ∧
      W.ownsRow (w.heap.size + 9) 28 2 v i (attF (A.take i)) ∧ Below w.heap.size w W)
    (fun c i W => c = .exit 0 ∧ i + 1 = q ∧ ∃ v, W.heap[w.heap.size + 1]? = some (.cells #[v] 24 (0, 0)) ∧
      W.ownsRow (w.heap.size + 9) 28 2 v (i + 1) (attF (A.take (i + 1))) ∧ Below w.heap.size w W) ?_ ?_
    ⟨hq, b0, _, b1, World.ownsRow_nil _ _ _ _, hext0⟩ ?_ ?_ ?_)
  · rintro i A' C ⟨hiq, h0, v, h1, hown, hbel⟩ hm
    exact ⟨hiq, hm.keeps h0 (by omega) (by omega), v, hm.keeps h1 (by omega) (by omega), ownz_mv hown hm (fun k hk => by omega), hm.below hbel (fun k hk => by omega) (by omega) (Nat.le_refl _)⟩
  · rintro c i A' C ⟨hc, hiq, v, h1, hown, hbel⟩ hm
    exact ⟨hc, hiq, v, hm.keeps h1 (by omega) (by omega), ownz_mv hown hm (fun k hk => by omega), hm.below hbel (fun k hk => by omega) (by omega) (Nat.le_refl _)⟩
  · rintro m lp i W hi ⟨hiq, h0, v, h1, hown, hbel⟩ hs9 hlp hrec
    have htk : A.take (i + 1) = A.take i ++ [A.getD i []] := by rw [List.take_succ_eq_append_getElem hi]; simp [List.getD, hi]
    have hF : attF (A.take (i + 1)) = attF (A.take i) ++ [Str ((A.getD i []).take 1), Str ((A.getD i []).drop 2)] := by rw [htk]; simp [attF, attV]
    have hil : i ≤ 10001 := by omega
    clear htk
    generalize (A.getD i []).take 1 = q1 at *
    generalize (A.getD i []).drop 2 = q2 at *
    generalize attF (A.take i) = fl at *
    have HF := Lib.hid hF
    clear hF hi
    gi_wp2
    refine ⟨Kp.refl _ _ _, fun W2 hm2 hrec2 => ?_⟩
    replace h0 := hm2.keeps h0 (fun h => h) (by omega)
    replace h1 := hm2.keeps h1 (fun h => h) (by omega)
    replace hown := ownz_mv hown hm2 (fun k hk => hk.elim)
    replace hbel := hm2.below hbel (fun k hk => hk.elim) (by omega) (Nat.le_refl _)
    replace hs9 : w.heap.size + 9 ≤ W2.heap.size := by have := hm2.size; omega
    clear hm2 hrec hrec2
    have hc1 := cell_of h1
    have H0 := Lib.hid h0; have H1 := Lib.hid h1; have HO := Lib.hid hown; clear h0 h1 hown
    have hkp : ∀ {C : World}, (∀ B0, B0 ≤ w.heap.size + 9 → (∀ k, k = w.heap.size + 1 → k < B0) → Kp B0 (fun k => k = w.heap.size + 2 ∨ k = 0 ∨ (W0.heap.size + 2 ≤ k ∧ k < W0.heap.size + 2 + 4)) W2 C) → Kp W0.heap.size (fun k => k = w.heap.size + 2 ∨ k = 0 ∨ (W0.heap.size + 2 ≤ k ∧ k < W0.heap.size + 2 + 4)) W2 C := fun h => h _ (by omega) (fun k hk => by omega)
    by_cases hlast : i + 1 = q
    · have hbq : ((i : Int) + 1 == (q : Int)) = true := by simp; omega
      have HL := Lib.hid hlast; clear hlast
      gi_wp2_with (gi_at_builtin; refine wpListIn_pushz (w.heap.size + 9) rfl _ _ 24 28 rfl Tryd.underlying24 infoPair rfl (by omega) (by omega) (us := [Str q1, Str q2]) HO.out rfl (by simp [Str, Value.oneCell']) (by omega) hs9 rfl rfl ?_; rintro _ w1 ⟨g1, cap1, rfl⟩ hown1 hgr1; obtain ⟨q1', q2', q3, q4, q5, q6⟩ := box_pushz (own := fun k => k = w.heap.size + 2 ∨ k = 0 ∨ (W0.heap.size + 2 ≤ k ∧ k < W0.heap.size + 2 + 4)) (by omega) hs9 H1.out HO.out hown1 hgr1 (fun k hk => by omega); clear hown1 hgr1; have Q3 := Lib.hid q3; have Q4 := Lib.hid q4; have Q5 := Lib.hid (hkp q5); have Q6 := Lib.hid q6; have hc2 := cell_of q3; have hc3 := cell_of ((q6.2.2.2.2 w.heap.size (by omega) (by omega)).trans H0.out); clear q3 q4 q5 q6)
      obtain ⟨q7, q8, q9, q10, q11⟩ := Q6.out
      have hown' : (w1.setCell ⟨w.heap.size + 1, 0, none⟩ (.slice (some ⟨g1, 0, none⟩) (i + 1) cap1)).ownsRow (w.heap.size + 9) 28 2 (.slice (some ⟨g1, 0, none⟩) (i + 1) cap1) (i + 1) (attF (A.take (i + 1))) := by rw [HF.out]; exact Q4.out
      have hbel' : Below w.heap.size w (w1.setCell ⟨w.heap.size + 1, 0, none⟩ (.slice (some ⟨g1, 0, none⟩) (i + 1) cap1)) := ⟨q7.trans hbel.os, q8.trans hbel.tape, q9.trans hbel.output, Nat.le_trans hbel.size q10, fun k hk => (q11 k (by omega) (by omega)).trans (hbel.block k hk)⟩
      first
        | exact ⟨Q5.out, rfl, HL.out, _, Q3.out, hown', hbel'⟩
        | exact ⟨Q5.out, (show i + 1 < q by have := HL.out; omega), (q11 w.heap.size (by omega) (by omega)).trans H0.out, _, Q3.out, hown', hbel'⟩
    · have hbq : ((i : Int) + 1 == (q : Int)) = false := by simp; omega
      have HL := Lib.hid hlast; clear hlast
      gi_wp2_with (gi_at_builtin; refine wpListIn_pushz (w.heap.size + 9) rfl _ _ 24 28 rfl Tryd.underlying24 infoPair rfl (by omega) (by omega) (us := [Str q1, Str q2]) HO.out rfl (by simp [Str, Value.oneCell']) (by omega) hs9 rfl rfl ?_; rintro _ w1 ⟨g1, cap1, rfl⟩ hown1 hgr1; obtain ⟨q1', q2', q3, q4, q5, q6⟩ := box_pushz (own := fun k => k = w.heap.size + 2 ∨ k = 0 ∨ (W0.heap.size + 2 ≤ k ∧ k < W0.heap.size + 2 + 4)) (by omega) hs9 H1.out HO.out hown1 hgr1 (fun k hk => by omega); clear hown1 hgr1; have Q3 := Lib.hid q3; have Q4 := Lib.hid q4; have Q5 := Lib.hid (hkp q5); have Q6 := Lib.hid q6; have hc2 := cell_of q3; have hc3 := cell_of ((q6.2.2.2.2 w.heap.size (by omega) (by omega)).trans H0.out); clear q3 q4 q5 q6)
      obtain ⟨q7, q8, q9, q10, q11⟩ := Q6.out
      have hown' : (w1.setCell ⟨w.heap.size + 1, 0, none⟩ (.slice (some ⟨g1, 0, none⟩) (i + 1) cap1)).ownsRow (w.heap.size + 9) 28 2 (.slice (some ⟨g1, 0, none⟩) (i + 1) cap1) (i + 1) (attF (A.take (i + 1))) := by rw [HF.out]; exact Q4.out
      have hbel' : Below w.heap.size w (w1.setCell ⟨w.heap.size + 1, 0, none⟩ (.slice (some ⟨g1, 0, none⟩) (i + 1) cap1)) := ⟨q7.trans hbel.os, q8.trans hbel.tape, q9.trans hbel.output, Nat.le_trans hbel.size q10, fun k hk => (q11 k (by omega) (by omega)).trans (hbel.block k hk)⟩
      first
        | exact ⟨Q5.out, rfl, HL.out, _, Q3.out, hown', hbel'⟩
        | exact ⟨Q5.out, (show i + 1 < q by have := HL.out; omega), (q11 w.heap.size (by omega) (by omega)).trans H0.out, _, Q3.out, hown', hbel'⟩
  · rintro D W hD ⟨hiq, h0, v, h1, hown, hbel⟩ hdef
    have hc1 := cell_of h1
    have HO := Lib.hid hown; clear hown
    go_wp2
    refine marks_ret hdef (results_tmp rfl _ _) ⟨v, rfl, ?_, below_mark hbel (by omega) hdef⟩
    rw [List.take_length] at HO
    rw [HA.out, List.take_of_length_le (by omega)]
    exact ownz_base (ownz_put HO.out hdef) (by omega)
  · rintro D c i W hD hi ⟨rfl, hiq, v, h1, hown, hbel⟩ hdef
    have hc1 := cell_of h1
    have HO := Lib.hid hown; clear hown
    refine wpIn_wide.2 ?_
    go_wp2
    refine marks_ret (D := D) hdef (results_tmp rfl _ _) ⟨v, rfl, ?_, below_mark hbel (by omega) hdef⟩
    rw [HA.out, ← hiq, List.length_take, Nat.min_eq_left (by omega)]
    exact ownz_base (ownz_put HO.out hdef) (by omega)
end Go.Proofs.YtiellfhdfifbhaaDoor
