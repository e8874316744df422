/-
  slices.Insert of one event ahead of others, at an own row of events.
-/
import Derived.BigGuardPart
import Derived.Deep.DrawnRows
import Derived.Test.YtpndahmlbjhdfaaDoorRows
import Derived.Test.YtpndahmlbjhdfaaDoorDli
namespace Go.Proofs.YtpndahmlbjhdfaaDoor
open Go.RowKit
set_option maxRecDepth 100000
attribute [local go_sem] Oper.semAt_some
set_option linter.unusedVariables false
set_option linter.unusedSimpArgs false
theorem infoEv5 : (Tryd.prog.info? 37).map (·.size) = some 5 := by
  obtain ⟨i, hi, hz0, hz1, hz2⟩ := info_parts infoEv
  rw [hi]; simp [hz1]
/-- Copying C's cells to the place of its row behind x elements. -/
theorem copy_into (W : World) (ty : TypeId) (g k dLen dCap : Nat) (a : Addr) (sLen sCap : Nat) (PR X R : List Value) (C : List Ev)
    (hW : W.heap[g]? = some (.cells (PR ++ (X ++ R)).toArray 37 (0, 0))) (hP : PR.length = k * 5) (hX : X.length = C.length * 5)
    (hm : Nat.min sLen dLen = C.length) (hsrc : ∀ j v, (C.flatMap evL)[j]? = some v → W.cell? (a.add j) = some v) :
    (Builtin.copy_ #[35, 35] ty #[.slice (some ⟨g, k * 5, none⟩) dLen dCap, .slice (some a) sLen sCap]).run Tryd.prog W = .ok (goInt C.length) (W.setRow g (PR ++ (C.flatMap evL ++ R)).toArray) := by
  have hFC := flatE_len C
  rw [run_copy_z (P := Tryd.prog) W 35 35 ty 37 g (k * 5) dLen dCap a sLen sCap _ 37 (C.flatMap evL) 5 C.length Tryd.underlying35 infoEv5 hW hm hFC hsrc
    (by simp only [List.size_toArray, List.length_append, hP, hX, hFC]; omega) (flatE_one C)]
  congr 3
  have e1 : (PR ++ (X ++ R)).drop (k * 5 + (C.flatMap evL).length) = R := by rw [← List.append_assoc]; exact List.drop_left' (by rw [List.length_append]; omega)
  rw [List.toList_toArray, List.take_append_of_le_length (by omega), List.take_of_length_le (by omega), e1, List.append_assoc]
theorem overlaps_no (w : World) (gv g o l1 c1 l2 c2 kA kB : Nat) (tA tB : TypeId) (hne : gv ≠ g) (hsa : w.shape? gv = some (tA, kA)) (hsb : w.shape? g = some (tB, kB)) (hkB : kB ≠ 0) (hfa : w.frozen? ⟨gv, 0, none⟩ = false) (hfe : w.frozen? ⟨gv, kA, none⟩ = false) :
    (callFunc 45 #[.slice (some ⟨gv, 0, none⟩) l1 c1, .slice (some ⟨g, o, none⟩) l2 c2]).run Tryd.prog w = .ok (.value (.bool false)) w := by
  rw [run_callFunc_extern Tryd.func45 (by kernel_rfl) (by kernel_rfl) (by kernel_rfl) (e := Extern.SlicesOverlaps.overlaps #[35, 35] #[4]) (by kernel_rfl),
    Lib.run_overlaps_apart w 35 4 37 Tryd.underlying35 5 Tryd.sizeOf37 ⟨gv, 0, none⟩ ⟨g, o, none⟩ l1 c1 l2 c2 hne tA tB kA kB hsa hsb hkB hfa hfe]
  rfl
set_option maxHeartbeats 2000000 in
theorem insert_any (B : Nat) (v : Value) (A : List Ev) (ev : Ev) (C : List Ev) (k : Nat) (hk : A.length = k) (hC : 0 < C.length) (hsm : (A ++ C).length ≤ 1000) (gv : Nat) (w : World) (hB : B ≤ w.heap.size) (h : OwnE B v (A ++ C) w)
    (hgv : w.heap[gv]? = some (.cells (evL ev).toArray 37 (0, 0))) (hne : v.ownBlock ≠ some gv) :
    Calls Tryd.prog 28 #[v, .int .i64 (k : Int), .slice (some ⟨gv, 0, none⟩) 1 1] w fun r w' => ∃ v', r = .returned v' ∧ OwnE B v' (A ++ ev :: C) w' ∧ Below B w w' := by
  obtain ⟨g, cap, tl, rfl, hBg, hg, hnc, hcm, htl⟩ := ownE_open h (by intro e; rw [List.append_eq_nil_iff] at e; rw [e.2] at hC; simp at hC)
  have hgg : gv ≠ g := fun e => hne (by rw [e]; rfl)
  obtain ⟨n, hn⟩ : ∃ n, (A ++ C).length = n := ⟨_, rfl⟩
  have hnn : n = k + C.length := by rw [← hn, List.length_append, hk]
  rw [hn] at hnc htl hsm ⊢
  have hcm' : cap ≤ 9223372036854775807 := by unfold maxLen at hcm; omega
  have hFA : (A.flatMap evL).length = k * 5 := by rw [flatE_len, hk]
  have hFC : (C.flatMap evL).length = C.length * 5 := flatE_len C
  rw [show (A ++ C).flatMap evL ++ tl = A.flatMap evL ++ (C.flatMap evL ++ tl) by simp] at hg
  obtain ⟨a1, ha1, h1⟩ := cut_lo Tryd.underlying35 Tryd.sizeOf37 g n cap k (by omega) (by omega)
  rw [ha1 (by omega), show n - k = C.length by omega] at h1
  have hkn : ¬ (k : Int) = (n : Int) := by omega
  have hk1n : (k : Int) + 1 ≤ (n : Int) := by omega
  have hn1000 : (n : Int) ≤ 1000 := by omega
  have hsrcC : ∀ (W : World), W.heap[g]? = w.heap[g]? → ∀ j u, (C.flatMap evL)[j]? = some u → W.cell? ((⟨g, k * 5, none⟩ : Addr).add j) = some u := fun W hW j u hj => by
    have hjl : j < (C.flatMap evL).length := (List.getElem?_eq_some_iff.1 hj).1
    rw [hg] at hW
    rw [add_z, cell_list hW, List.getElem?_append_right (by omega), List.getElem?_append_left (by omega), hFA, show k * 5 + j - k * 5 = j by omega]
    exact hj
  have hsrcV : ∀ (W : World), W.heap[gv]? = w.heap[gv]? → ∀ j u, ([ev].flatMap evL)[j]? = some u → W.cell? ((⟨gv, 0, none⟩ : Addr).add j) = some u := fun W hW j u hj => by
    rw [hgv] at hW
    rw [add_z, cell_list hW, Nat.zero_add]
    simpa using hj
  by_cases hroom : n + 1 ≤ cap
  · have h2 := cut_hi Tryd.underlying35 Tryd.sizeOf37 g n cap (n + 1) hroom hcm'
    obtain ⟨a3, ha3, h3⟩ := cut_lo Tryd.underlying35 Tryd.sizeOf37 g (n + 1) cap (k + 1) (by omega) (by omega)
    obtain ⟨a4, ha4, h4⟩ := cut_lo Tryd.underlying35 Tryd.sizeOf37 g (n + 1) cap k (by omega) (by omega)
    rw [ha3 (by omega), show n + 1 - (k + 1) = C.length by omega] at h3
    rw [ha4 (by omega), show n + 1 - k = C.length + 1 by omega] at h4
    rw [show ((k + 1 : Nat) : Int) = (k : Int) + 1 from rfl] at h3
    rw [show ((n + 1 : Nat) : Int) = (n : Int) + 1 from rfl] at h2
    have hnc2 : ¬ (cap : Int) < (n : Int) + 1 := by omega
    have hov : ∀ l2 c2, (callFunc 45 #[.slice (some ⟨gv, 0, none⟩) 1 1, .slice (some ⟨g, (k + 1) * 5, none⟩) l2 c2]).run Tryd.prog w = .ok (.value (.bool false)) w := fun l2 c2 =>
      overlaps_no w gv g _ 1 1 l2 c2 5 (A.flatMap evL ++ (C.flatMap evL ++ tl)).length 37 37 hgg (by simp [World.shape?, hgv, evL_len]) (by simp [World.shape?, hg]) (by rw [List.length_append, List.length_append, hFC]; omega) (by simp [World.frozen?, hgv]) (by simp [World.frozen?, hgv])
    obtain ⟨X, hX⟩ : ∃ X, (C.flatMap evL ++ tl).take 5 = X := ⟨_, rfl⟩
    obtain ⟨Y, hY⟩ : ∃ Y, ((C.flatMap evL ++ tl).drop 5).take (C.length * 5) = Y := ⟨_, rfl⟩
    obtain ⟨R, hR⟩ : ∃ R, ((C.flatMap evL ++ tl).drop 5).drop (C.length * 5) = R := ⟨_, rfl⟩
    have hXl : X.length = 5 := by rw [← hX, List.length_take, List.length_append, hFC]; omega
    have hYl : Y.length = C.length * 5 := by rw [← hY, List.length_take, List.length_drop, List.length_append, hFC]; omega
    have hRl : R.length + 5 = tl.length := by rw [← hR, List.length_drop, List.length_drop, List.length_append, hFC]; omega
    have hXYR : C.flatMap evL ++ tl = X ++ (Y ++ R) := by rw [← hX, ← hY, ← hR, List.take_append_drop, List.take_append_drop]
    have hc1 : ∀ (W : World) ty, W.heap[g]? = w.heap[g]? → (Builtin.copy_ #[35, 35] ty #[.slice (some ⟨g, (k + 1) * 5, none⟩) C.length (cap - (k + 1)), .slice (some ⟨g, k * 5, none⟩) (C.length + 1) (cap - k)]).run Tryd.prog W =
        .ok (goInt C.length) (W.setRow g (A.flatMap evL ++ (X ++ (C.flatMap evL ++ R))).toArray) := fun W ty hW => by
      have := copy_into W ty g (k + 1) C.length (cap - (k + 1)) ⟨g, k * 5, none⟩ (C.length + 1) (cap - k) (A.flatMap evL ++ X) Y R C (by rw [hW, hg, hXYR]; simp) (by rw [List.length_append, hFA, hXl]; omega) hYl (by simp [Nat.min_def]) (hsrcC W hW)
      rw [List.append_assoc] at this
      exact this
    have hc2 : ∀ (W : World) ty, W.heap[g]? = some (.cells (A.flatMap evL ++ (X ++ (C.flatMap evL ++ R))).toArray 37 (0, 0)) → W.heap[gv]? = w.heap[gv]? → (Builtin.copy_ #[35, 35] ty #[.slice (some ⟨g, k * 5, none⟩) (C.length + 1) (cap - k), .slice (some ⟨gv, 0, none⟩) 1 1]).run Tryd.prog W =
        .ok (goInt 1) (W.setRow g (A.flatMap evL ++ (evL ev ++ (C.flatMap evL ++ R))).toArray) := fun W ty hW hW2 => by
      have := copy_into W ty g k (C.length + 1) (cap - k) ⟨gv, 0, none⟩ 1 1 (A.flatMap evL) X (C.flatMap evL ++ R) [ev] hW hFA (by rw [hXl]; rfl) (by simp [Nat.min_def]) (hsrcV W hW2)
      simpa using this
    have HC1 := Lib.hid hc1; have HC2 := Lib.hid hc2; have HG := Lib.hid hg; have HGV := Lib.hid hgv
    have HF := Lib.hid (show _ ∧ _ ∧ _ ∧ _ ∧ _ ∧ _ from ⟨hRl, htl, hcm, hnn, hroom, hnc⟩)
    have mixed : Tryd.prog.follows Departure.mixedOrders = true := by rfl
    clear hc1 hc2 hg hgv hX hY hR hXl hYl hRl hXYR hsrcC hsrcV hFA hFC hn hnn htl hcm ha1 ha3 ha4 h hne
    go_enter Tryd.func28, Tryd.ntmps28
    go_wp2_with (simp only [hov])
    have hw1 : IntKind.i64.wrap ((k : Int) + 1) = (k : Int) + 1 := by rw [IntKind.wrap_i64]; omega
    go_region_law_o (refine step_copy_run rfl _ _ 35 35 rfl _ _ (by simp [Act.eval, Act.put]) (by simp [Act.eval, Act.put]) (HC1.out _ _ rfl) ?_)
    have hg1 : (World.setRow w.drew g (A.flatMap evL ++ (X ++ (C.flatMap evL ++ R))).toArray).heap[g]? = some (.cells (A.flatMap evL ++ (X ++ (C.flatMap evL ++ R))).toArray 37 (0, 0)) := setRow_heap w.drew g _ _ _ _ HG.out
    have hgv1 : (World.setRow w.drew g (A.flatMap evL ++ (X ++ (C.flatMap evL ++ R))).toArray).heap[gv]? = w.heap[gv]? := Go.setRow_other w.drew g gv _ hgg
    have HG1 := Lib.hid hg1; have HGV1 := Lib.hid hgv1
    clear hg1 hgv1
    go_wp2_with (refine wpList_copy_run _ rfl (.tmp 80) (.tmp 81) 35 35 rfl _ _ rfl rfl (HC2.out _ _ HG1.out HGV1.out) ?_)
    go_ret
    obtain ⟨hRl, htl, hcm, hnn, hroom, hnc⟩ := HF.out
    have hl : (A ++ ev :: C).length = n + 1 := by rw [List.length_append, List.length_cons, hk]; omega
    refine ⟨_, rfl, ?_, below_setRow (below_setRow (Below.drew (Below.refl _ _)) hBg _) hBg _⟩
    rw [← hl]
    exact ownE_close (tl := R) hBg (by rw [show (A ++ ev :: C).flatMap evL ++ R = A.flatMap evL ++ (evL ev ++ (C.flatMap evL ++ R)) by simp]; exact setRow_heap _ g _ _ _ _ HG1.out) (by omega) hcm (by omega)
  · have h2 := cut_hi Tryd.underlying35 Tryd.sizeOf37 g n cap k (by omega) hcm'
    obtain ⟨n2, hn2⟩ : ∃ n2, n + 1 = n2 := ⟨_, rfl⟩
    have hcap : (cap : Int) < (n : Int) + 1 := by omega
    obtain ⟨i, hi, hz0, hz1, hz2⟩ := info_parts infoEv
    obtain ⟨d, hd⟩ : ∃ d, C.length + 1 = d := ⟨_, rfl⟩
    have hdi : (n : Int) + 1 - (k : Int) = (d : Int) := by omega
    obtain ⟨gc, hgc⟩ : ∃ gc, grownCap w n2 cap 37 = gc := ⟨_, rfl⟩
    have hgc1 : n2 ≤ gc := by rw [← hgc]; exact grownCap_ge _ _ _ _
    have hgc2 : gc ≤ maxLen := by rw [← hgc]; exact grownCap_le_maxLen _ _ _ _ (by unfold maxLen; omega)
    have hgc3 : gc ≤ 9223372036854775807 := by unfold maxLen at hgc2; omega
    obtain ⟨Z, hZ⟩ : ∃ Z, ((Builtin.zeroCells (Value.agg #[.int .u64 0, .int .u64 0, .string ⟨#[]⟩, .int .i64 0, .string ⟨#[]⟩]).cells d).toList ++ (Builtin.zeroCells (Value.agg #[.int .u64 0, .int .u64 0, .string ⟨#[]⟩, .int .i64 0, .string ⟨#[]⟩]).cells (gc - n2)).toList) = Z := ⟨_, rfl⟩
    have hzz : (Value.agg #[.int .u64 0, .int .u64 0, .string ⟨#[]⟩, .int .i64 0, .string ⟨#[]⟩]).cells.size = 5 := by rfl
    have hZl : Z.length = (gc - k) * 5 := by
      rw [← hZ, List.length_append, Array.length_toList, Array.length_toList, size_zeroCells, size_zeroCells, hzz, ← Nat.add_mul]
      congr 1; omega
    have hap : ∀ ty, (Builtin.append_ #[35, 3] ty #[.slice (some ⟨g, 0, none⟩) k cap, .int .i64 (d : Int)]).run Tryd.prog w =
        .ok (.slice (some ⟨w.heap.size, 0, none⟩) n2 gc) (w.drew.alloc (.cells (A.flatMap evL ++ Z).toArray 37)) := fun ty => by
      have hold : (Builtin.firstCells i.size k (.slice (some ⟨g, 0, none⟩) k cap)).run Tryd.prog w.drew = .ok (A.flatMap evL).toArray w.drew := by
        rw [hz1]
        refine run_firstCells_some (P := Tryd.prog) w.drew 5 k ⟨g, 0, none⟩ k cap (A.flatMap evL) hFA (fun j u hj => ?_)
        have hjl : j < (A.flatMap evL).length := (List.getElem?_eq_some_iff.1 hj).1
        rw [add_z, Nat.zero_add, cell_list (W := w.drew) hg, List.getElem?_append_left hjl]
        exact hj
      have hr := Lib.run_append_grow_zeros (P := Tryd.prog) w 35 3 ty 37 i _ .i64 .i64 Tryd.underlying35 Tryd.underlying3 hi hz0 (some ⟨g, 0, none⟩) k cap (A.flatMap evL) hold d (by omega) (by omega) (by omega) (by omega) (by rw [hz2]; omega) (growslice_fits (by omega) (by rw [hz2]; omega))
      rw [hr, show k + d = n2 by omega, hgc, ← hZ]
      congr 3
      simp
    have hw1s : (w.drew.alloc (.cells (A.flatMap evL ++ Z).toArray 37)).heap[w.heap.size]? = some (.cells (A.flatMap evL ++ Z).toArray 37 (0, 0)) := heap_alloc_new w.drew _
    have hx1 : Below B w (w.drew.alloc (.cells (A.flatMap evL ++ Z).toArray 37)) := Below.alloc (Below.drew (Below.refl _ _)) hB _
    have hold1 : ∀ j, j < w.heap.size → (w.drew.alloc (.cells (A.flatMap evL ++ Z).toArray 37)).heap[j]? = w.heap[j]? := fun j hj => Below.heap_alloc w.drew _ _ hj
    obtain ⟨W1, hW1⟩ : ∃ W1, w.drew.alloc (.cells (A.flatMap evL ++ Z).toArray 37) = W1 := ⟨_, rfl⟩
    rw [hW1] at hap hw1s hx1 hold1
    obtain ⟨X, hX⟩ : ∃ X, Z.take 5 = X := ⟨_, rfl⟩
    obtain ⟨Y, hY⟩ : ∃ Y, (Z.drop 5).take (C.length * 5) = Y := ⟨_, rfl⟩
    obtain ⟨R, hR⟩ : ∃ R, (Z.drop 5).drop (C.length * 5) = R := ⟨_, rfl⟩
    have hXl : X.length = 5 := by rw [← hX, List.length_take, hZl]; omega
    have hYl : Y.length = C.length * 5 := by rw [← hY, List.length_take, List.length_drop, hZl]; omega
    have hRl : R.length = (gc - n2) * 5 := by rw [← hR, List.length_drop, List.length_drop, hZl]; omega
    have hXYR : Z = X ++ (Y ++ R) := by rw [← hX, ← hY, ← hR, List.take_append_drop, List.take_append_drop]
    rw [hXYR] at hw1s
    have hgl := (Array.getElem?_eq_some_iff.1 hg).1
    have hgvl := (Array.getElem?_eq_some_iff.1 hgv).1
    have hg2 : g ≠ w.heap.size := by omega
    have hgv2 : gv ≠ w.heap.size := by omega
    obtain ⟨a5, ha5, h5⟩ := cut_lo Tryd.underlying35 Tryd.sizeOf37 w.heap.size n2 gc k (by omega) (by omega)
    obtain ⟨a6, ha6, h6⟩ := cut_lo Tryd.underlying35 Tryd.sizeOf37 w.heap.size n2 gc (k + 1) (by omega) (by omega)
    rw [ha5 (by omega), show n2 - k = d by omega] at h5
    rw [ha6 (by omega), show n2 - (k + 1) = C.length by omega, show ((k + 1 : Nat) : Int) = (k : Int) + 1 from rfl] at h6
    have hc1 : ∀ ty, (Builtin.copy_ #[35, 35] ty #[.slice (some ⟨w.heap.size, k * 5, none⟩) d (gc - k), .slice (some ⟨gv, 0, none⟩) 1 1]).run Tryd.prog W1 =
        .ok (goInt 1) (W1.setRow w.heap.size (A.flatMap evL ++ (evL ev ++ (Y ++ R))).toArray) := fun ty => by
      have := copy_into W1 ty w.heap.size k d (gc - k) ⟨gv, 0, none⟩ 1 1 (A.flatMap evL) X (Y ++ R) [ev] hw1s hFA (by rw [hXl]; rfl) (by simp [Nat.min_def]; omega) (hsrcV W1 (hold1 gv hgvl))
      simpa using this
    have hW2s : (W1.setRow w.heap.size (A.flatMap evL ++ (evL ev ++ (Y ++ R))).toArray).heap[w.heap.size]? = some (.cells (A.flatMap evL ++ (evL ev ++ (Y ++ R))).toArray 37 (0, 0)) := setRow_heap W1 _ _ _ _ _ hw1s
    have hold2 : (W1.setRow w.heap.size (A.flatMap evL ++ (evL ev ++ (Y ++ R))).toArray).heap[g]? = w.heap[g]? := (Go.setRow_other W1 _ g _ hg2).trans (hold1 g hgl)
    have hx2 := below_setRow hx1 hB (A.flatMap evL ++ (evL ev ++ (Y ++ R))).toArray
    obtain ⟨W2, hW2⟩ : ∃ W2, W1.setRow w.heap.size (A.flatMap evL ++ (evL ev ++ (Y ++ R))).toArray = W2 := ⟨_, rfl⟩
    rw [hW2] at hc1 hW2s hold2 hx2
    have hc2 : ∀ ty, (Builtin.copy_ #[35, 35] ty #[.slice (some ⟨w.heap.size, (k + 1) * 5, none⟩) C.length (gc - (k + 1)), .slice (some ⟨g, k * 5, none⟩) C.length (cap - k)]).run Tryd.prog W2.drew =
        .ok (goInt C.length) (W2.drew.setRow w.heap.size (A.flatMap evL ++ (evL ev ++ (C.flatMap evL ++ R))).toArray) := fun ty => by
      have := copy_into W2.drew ty w.heap.size (k + 1) C.length (gc - (k + 1)) ⟨g, k * 5, none⟩ C.length (cap - k) (A.flatMap evL ++ evL ev) Y R C (by rw [show W2.drew.heap[w.heap.size]? = W2.heap[w.heap.size]? from rfl, hW2s]; simp) (by rw [List.length_append, hFA, evL_len]; omega) hYl (by simp [Nat.min_def]) (hsrcC W2.drew hold2)
      rw [List.append_assoc] at this
      exact this
    have HAP := Lib.hid hap; have HC1 := Lib.hid hc1; have HC2 := Lib.hid hc2
    have HF := Lib.hid (show _ ∧ _ ∧ _ ∧ _ ∧ _ ∧ _ ∧ _ from ⟨hRl, hgc1, hgc2, hnn, hn2, hW2s, hx2⟩)
    have mixed : Tryd.prog.follows Departure.mixedOrders = true := by rfl
    have hdd : (n : Int) + 1 = (n2 : Int) := by omega
    have hw0 : IntKind.i64.wrap ((k : Int) + 1) = (k : Int) + 1 := by rw [IntKind.wrap_i64]; omega
    have HW0 := Lib.hid hw0
    have hB0 := hB
    clear hw0 hap hc1 hc2 hg hgv hX hY hR hXl hYl hRl hXYR hsrcC hsrcV hFA hFC hn hnn htl hcm ha1 ha5 ha6 h hne hW1 hW2 hold1 hold2 hx1 hx2 hw1s hW2s hZ hZl hgc hi hz0 hz1 hz2 hzz hn2 hd hdd hgc2
    go_enter Tryd.func28, Tryd.ntmps28
    go_wp2_with (first | (at_builtin; refine wpList_append_run _ rfl (.tmp 34) (.tmp 39) 35 3 rfl _ _ rfl rfl (HAP.out _) ?_) | refine wpList_copy_run _ rfl (.tmp 43) (.tmp 44) 35 35 rfl _ _ rfl rfl (HC1.out _) ?_)
    have hw1 := HW0.out
    go_region_law_o (refine step_copy_run rfl _ _ 35 35 rfl _ _ (by simp [Act.eval, Act.put]) (by simp [Act.eval, Act.put]) (HC2.out _) ?_)
    go_wp2
    go_ret
    obtain ⟨hRl, hgc1, hgc2, hnn, hn2, hW2s, hx2⟩ := HF.out
    have hl : (A ++ ev :: C).length = n2 := by rw [List.length_append, List.length_cons, hk]; omega
    refine ⟨_, rfl, ?_, below_setRow (Below.drew hx2) hB0 _⟩
    rw [← hl]
    exact ownE_close (tl := R) hB0 (by rw [show (A ++ ev :: C).flatMap evL ++ R = A.flatMap evL ++ (evL ev ++ (C.flatMap evL ++ R)) by simp]; exact setRow_heap _ _ _ _ _ _ (show W2.drew.heap[w.heap.size]? = _ from hW2s)) (by omega) hgc2 (by omega)
end Go.Proofs.YtpndahmlbjhdfaaDoor
