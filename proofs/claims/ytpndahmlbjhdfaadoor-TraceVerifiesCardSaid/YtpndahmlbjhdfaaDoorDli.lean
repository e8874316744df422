/-
  slices.Delete and slices.Insert of one event, at an own row of events.
-/
import Derived.BigGuardPart
import Derived.Deep.DrawnRows
import Derived.Test.YtpndahmlbjhdfaaDoorRows
import Derived.Test.YtpndahmlbjhdfaaDoorCpz
import Derived.Test.YtpndahmlbjhdfaaDoorTra
namespace Go.Proofs.YtpndahmlbjhdfaaDoor
open Go.RowKit
set_option maxRecDepth 100000
attribute [local go_sem] Oper.semAt_some
set_option linter.unusedVariables false
set_option linter.unusedSimpArgs false
theorem flatE_len (l : List Ev) : (l.flatMap evL).length = l.length * 5 := flat_len 5 evL evL_len l
theorem flatE_one (l : List Ev) : ∀ v ∈ l.flatMap evL, v.oneCell' = true := by
  intro v hv
  obtain ⟨e, _, he⟩ := List.mem_flatMap.1 hv
  exact evL_one e v he
theorem ownE_open {B : Nat} {v : Value} {es : List Ev} {w : World} (h : OwnE B v es w) (hne : es ≠ []) : ∃ g cap tl, v = .slice (some ⟨g, 0, none⟩) es.length cap ∧ B ≤ g ∧
    w.heap[g]? = some (.cells (es.flatMap evL ++ tl).toArray 37 (0, 0)) ∧ es.length ≤ cap ∧ cap ≤ maxLen ∧ es.length * 5 + tl.length = cap * 5 := by
  rcases h.2 with ⟨_, h0⟩ | ⟨g, cap, cur, hv, hB, hg, hnc, hcm, hcs, ht⟩
  · exact absurd (List.eq_nil_of_length_eq_zero h0) hne
  · refine ⟨g, cap, cur.toList.drop (es.length * 5), hv, hB, ?_, hnc, hcm, ?_⟩
    · rw [← ht, List.take_append_drop, Array.toArray_toList]; exact hg
    · have hl : cur.toList.length = cur.size := rfl
      rw [List.length_drop, hl, hcs]; omega
theorem ownE_close {B g cap : Nat} {es : List Ev} {tl : List Value} {w : World} (hB : B ≤ g) (hg : w.heap[g]? = some (.cells (es.flatMap evL ++ tl).toArray 37 (0, 0))) (h1 : es.length ≤ cap) (h2 : cap ≤ maxLen) (h3 : es.length * 5 + tl.length = cap * 5) :
    OwnE B (.slice (some ⟨g, 0, none⟩) es.length cap) es w := by
  refine ⟨flatE_len es, .inr ⟨g, cap, _, rfl, hB, hg, h1, h2, ?_, ?_⟩⟩
  · simp only [List.size_toArray, List.length_append, flatE_len]; omega
  · rw [List.take_append_of_le_length (by rw [flatE_len]; omega), List.take_of_length_le (by rw [flatE_len]; omega)]
def zev : List Value := [.int .u64 0, .int .u64 0, .string ⟨#[]⟩, .int .i64 0, .string ⟨#[]⟩]
theorem zev_is : (Builtin.zeroCells (Value.agg #[.int .u64 0, .int .u64 0, .string ⟨#[]⟩, .int .i64 0, .string ⟨#[]⟩]).cells 1).toList = zev := by
  first | kernel_rfl | decide | (simp [Builtin.zeroCells, Value.cells, zev]; done) | (simp [Builtin.zeroCells, Value.cells, zev, Array.range, List.range, List.range.loop]; done)
theorem cell_list {W : World} {g : Nat} {L : List Value} {t : TypeId} (h : W.heap[g]? = some (.cells L.toArray t (0, 0))) (j : Nat) : W.cell? ⟨g, j, none⟩ = L[j]? := by
  simp [World.cell?, h]
set_option maxHeartbeats 2000000 in
theorem delete_any (B : Nat) (v : Value) (A : List Ev) (e : Ev) (C : List Ev) (k : Nat) (hk : A.length = k) (w : World) (h : OwnE B v (A ++ e :: C) w) :
    Calls Tryd.prog 27 #[v, .int .i64 (k : Int), .int .i64 ((k : Int) + 1)] w fun r w' => ∃ v', r = .returned v' ∧ OwnE B v' (A ++ C) w' ∧ Below B w w' := by
  obtain ⟨g, cap, tl, rfl, hBg, hg, hnc, hcm, htl⟩ := ownE_open h (by simp)
  obtain ⟨n, hn⟩ : ∃ n, (A ++ e :: C).length = n := ⟨_, rfl⟩
  obtain ⟨n1, hn1⟩ : ∃ n1, k + C.length = n1 := ⟨_, rfl⟩
  have hnn : n = n1 + 1 := by rw [← hn, ← hn1, List.length_append, List.length_cons, hk]; omega
  rw [hn] at hnc htl ⊢
  have hcm' : cap ≤ 9223372036854775807 := by unfold maxLen at hcm; omega
  have h3 := cut_three Tryd.underlying35 Tryd.sizeOf37 g n cap k (k + 1) n (by omega) (by omega) hnc (by omega) hcm'
  have h1 := cut_hi Tryd.underlying35 Tryd.sizeOf37 g n cap k (by omega) hcm'
  obtain ⟨a2, ha2, h2⟩ := cut_lo Tryd.underlying35 Tryd.sizeOf37 g n cap (k + 1) (by omega) (by omega)
  have h4 := cut_lohi Tryd.underlying35 Tryd.sizeOf37 g n1 cap n1 n (by omega) (by omega) (by omega) hcm'
  rw [show ((k + 1 : Nat) : Int) = (k : Int) + 1 from rfl] at h3 h2
  rw [show n - (k + 1) = C.length by omega] at h2
  rw [show n - n1 = 1 by omega] at h4
  obtain ⟨i, hi, hz0, hz1, hz2⟩ := info_parts infoEv
  have hFA : (A.flatMap evL).length = k * 5 := by rw [flatE_len, hk]
  have hFC : (C.flatMap evL).length = C.length * 5 := flatE_len C
  have hcur : (A ++ e :: C).flatMap evL ++ tl = A.flatMap evL ++ (evL e ++ (C.flatMap evL ++ tl)) := by simp
  rw [hcur] at hg
  obtain ⟨R, hR⟩ : ∃ R, (evL e ++ (C.flatMap evL ++ tl)).drop (C.length * 5) = R := ⟨_, rfl⟩
  have hRl : R.length = 5 + tl.length := by rw [← hR, List.length_drop, List.length_append, List.length_append, evL_len, hFC]; omega
  have hap : ∀ (W : World) ty, W.heap[g]? = w.heap[g]? → (Builtin.append_ #[35, 35] ty #[.slice (some ⟨g, 0, none⟩) k cap, .slice (some a2) C.length (cap - (k + 1))]).run Tryd.prog W =
      .ok (.slice (some ⟨g, 0, none⟩) n1 cap) (W.setRow g (A.flatMap evL ++ (C.flatMap evL ++ R)).toArray) := fun W ty hW => by
    rw [hg] at hW
    have hr := run_append_room (P := Tryd.prog) W 35 ty 37 i Tryd.underlying35 hi g k cap _ hW a2 C.length (cap - (k + 1)) (C.flatMap evL) (by rw [hz1, hFC]) (fun j u hj => ?_) (flatE_one C) (by omega) ?_
    · rw [hr, hn1]
      congr 3
      rw [hz1, List.toList_toArray, List.take_append_of_le_length (by omega), List.take_of_length_le (by omega), ← hFA, List.drop_append, hFC, ← hR]
      simp
    · have hjl : j < (C.flatMap evL).length := (List.getElem?_eq_some_iff.1 hj).1
      rw [ha2 (by rw [hFC] at hjl; omega), add_z, cell_list hW, List.getElem?_append_right (by omega), List.getElem?_append_right (by rw [evL_len]; omega), List.getElem?_append_left (by rw [evL_len]; omega), evL_len, hFA]
      rw [show (k + 1) * 5 + j - k * 5 - 5 = j by omega]
      exact hj
    · rw [hz1, hFC]; simp only [List.size_toArray, List.length_append, hFA, hFC, evL_len]; omega
  have hcl : ∀ (W : World) ty, W.heap[g]? = some (.cells (A.flatMap evL ++ (C.flatMap evL ++ R)).toArray 37 (0, 0)) → (Builtin.clear_ #[35] ty #[.slice (some ⟨g, n1 * 5, none⟩) 1 (cap - n1)]).run Tryd.prog W =
      .ok (.tuple #[]) (W.setRow g (A.flatMap evL ++ (C.flatMap evL ++ (zev ++ R.drop 5))).toArray) := fun W ty hW => by
    have hr := run_clear_z (P := Tryd.prog) W 35 ty 37 g (n1 * 5) 1 (cap - n1) _ _ i _ Tryd.underlying35 hi hz0 zev zev_is (by omega) hW ?_ (by simp [zev, Value.oneCell'])
    · rw [hr]
      congr 3
      have e1 : (A.flatMap evL ++ C.flatMap evL).length = n1 * 5 := by rw [List.length_append, hFA, hFC]; omega
      rw [List.toList_toArray, ← List.append_assoc, List.take_append_of_le_length (by omega), List.take_of_length_le (by omega), ← e1, List.drop_append]
      simp [zev]
    · simp only [List.size_toArray, List.length_append, hFA, hFC, hRl, zev, List.length_cons, List.length_nil]; omega
  have HG := Lib.hid hg; have HAP := Lib.hid hap; have HCL := Lib.hid hcl
  have HF := Lib.hid (show _ ∧ _ ∧ _ ∧ _ ∧ _ ∧ _ from ⟨hRl, htl, hcm, hnn, hn1, hnc⟩)
  have mixed : Tryd.prog.follows Departure.mixedOrders = true := by rfl
  clear hap hcl hRl hg h hR hcur hFA hFC hz0 hz1 hz2 hi htl ha2 hnn hn1 hn hcm
  go_enter Tryd.func27, Tryd.ntmps27
  go_wp2_with fail
  go_region_law_o (refine step_append_run rfl _ _ 35 35 rfl _ _ (by simp [Act.eval, Act.put]) (by simp [Act.eval, Act.put]) (HAP.out _ _ rfl) ?_)
  have hg1 : (World.setRow w.drew g (A.flatMap evL ++ (C.flatMap evL ++ R)).toArray).heap[g]? = some (.cells (A.flatMap evL ++ (C.flatMap evL ++ R)).toArray 37 (0, 0)) := setRow_heap w.drew g _ _ _ _ HG.out
  go_wp2_with (refine wpList_clear_run _ rfl (.tmp 31) 35 rfl _ rfl (HCL.out _ _ hg1) ?_)
  go_ret
  obtain ⟨hRl, htl, hcm, hnn, hn1, hnc⟩ := HF.out
  have hl : (A ++ C).length = n1 := by rw [List.length_append, hk, hn1]
  refine ⟨_, rfl, ?_, below_setRow (below_setRow (Below.drew (Below.refl _ _)) hBg _) hBg _⟩
  rw [← hl]
  exact ownE_close (tl := zev ++ R.drop 5) hBg (by rw [show (A ++ C).flatMap evL ++ (zev ++ R.drop 5) = A.flatMap evL ++ (C.flatMap evL ++ (zev ++ R.drop 5)) by simp]; exact setRow_heap _ g _ _ _ _ hg1) (by omega) hcm (by simp only [zev, List.length_append, List.length_cons, List.length_nil, List.length_drop]; omega)
end Go.Proofs.YtpndahmlbjhdfaaDoor
