/-
  Idle rules, in plain words: what is left of a policy without them says the same.
-/
import Derived.Test.YtjbobblnicnhnaaDoorRows
import Derived.Test.YtjbobblnicnhnaaDoorIdl
import Derived.Test.YtjbobblnicnhnaaDoorCvl
import Derived.Test.YtjbobblnicnhnaaDoorWhi
namespace Go.Proofs.YtjbobblnicnhnaaDoor
open Go.RowKit
set_option linter.unusedVariables false
set_option linter.unusedSimpArgs false

/-- Those among the first n that none ahead of them covers. -/
def busyL (rs : List Ru) (n : Nat) : List Ru := ((List.range n).filter fun i => !idleB rs i).map fun i => rs.getD i ruD
theorem busyL_succ (rs : List Ru) (n : Nat) : busyL rs (n + 1) = busyL rs n ++ if idleB rs n then [] else [rs.getD n ruD] := by
  unfold busyL
  rw [List.range_succ, List.filter_append, List.map_append]
  congr 1
  simp only [List.filter_cons, List.filter_nil]
  cases idleB rs n <;> simp
theorem busyL_len (rs : List Ru) (n : Nat) : (busyL rs n).length ≤ n := by
  unfold busyL
  rw [List.length_map]
  exact Nat.le_trans (List.length_filter_le _ _) (by simp)
theorem busyL_mem {rs : List Ru} {n : Nat} (hn : n ≤ rs.length) {r : Ru} (h : r ∈ busyL rs n) : ∃ i, i < n ∧ rs.getD i ruD = r := by
  unfold busyL at h
  obtain ⟨i, hi, rfl⟩ := List.mem_map.1 h
  have := (List.mem_filter.1 hi).1
  exact ⟨i, by simpa using this, rfl⟩
theorem idle_mem {rs : List Ru} {n i : Nat} (h : i < n) : i ∈ idleL rs n ↔ idleB rs i = true := by
  unfold idleL
  rw [List.mem_filter]
  simp [h]
theorem which_busy {rs : List Ru} {ro te ho : List UInt8} {p : Int} {i : Nat} (h : whichO rs ro te ho p = some i) : idleB rs i = false := by
  unfold whichO at h
  obtain ⟨hi, hh, hno⟩ := List.findIdx?_eq_some_iff_getElem.1 h
  cases hb : idleB rs i with
  | false => rfl
  | true =>
    unfold idleB at hb
    obtain ⟨o, ho1, hc⟩ := List.any_eq_true.1 hb
    obtain ⟨j, hj, rfl⟩ := List.mem_take_iff_getElem.1 ho1
    have hji : j < i := by omega
    have hjl : j < rs.length := by omega
    have hd : rs.getD i ruD = rs[i] := by simp [List.getD, hi]
    rw [hd] at hc
    have := cover_hold _ _ ro te ho p hc hh
    exact absurd this (hno j hji)
theorem may_busy (rs : List Ru) (ro te ho : List UInt8) (p : Int) : mayB (busyL rs rs.length) ro te ho p = mayB rs ro te ho p := by
  cases h : whichO rs ro te ho p with
  | none =>
    have h2 := h
    unfold whichO at h2
    rw [List.findIdx?_eq_none_iff] at h2
    have h3 : whichO (busyL rs rs.length) ro te ho p = none := by
      unfold whichO
      rw [List.findIdx?_eq_none_iff]
      intro r hr
      obtain ⟨i, hi, rfl⟩ := busyL_mem (Nat.le_refl _) hr
      have hd : rs.getD i ruD = rs[i] := by simp [List.getD, hi]
      rw [hd]
      exact h2 _ (List.getElem_mem hi)
    unfold mayB
    rw [h, h3]
  | some i =>
    have hb := which_busy h
    have h2 := h
    unfold whichO at h2
    obtain ⟨hi, hh, hno⟩ := List.findIdx?_eq_some_iff_getElem.1 h2
    have hd : rs.getD i ruD = rs[i] := by simp [List.getD, hi]
    obtain ⟨m, hm⟩ : ∃ m, rs.length = (i + 1) + m := ⟨rs.length - (i + 1), by omega⟩
    have e : ∃ B, busyL rs rs.length = busyL rs i ++ [rs.getD i ruD] ++ B := by
      have e1 : busyL rs (i + 1) = busyL rs i ++ [rs.getD i ruD] := by rw [busyL_succ, hb]; rfl
      rw [← e1]
      refine ⟨(((List.range m).map (i + 1 + ·)).filter fun i => !idleB rs i).map fun i => rs.getD i ruD, ?_⟩
      conv => lhs; rw [hm]
      unfold busyL
      rw [List.range_add, List.filter_append, List.map_append]
    obtain ⟨B, hB⟩ := e
    have h3 : whichO (busyL rs rs.length) ro te ho p = some (busyL rs i).length := by
      refine whichO_some (by rw [hB]; simp) (fun r hr => ?_) ?_
      · rw [hB, List.append_assoc, List.take_left] at hr
        obtain ⟨j, hj, rfl⟩ := busyL_mem (by omega) hr
        have hd2 : rs.getD j ruD = rs[j]'(by omega) := by simp [List.getD, show j < rs.length by omega]
        rw [hd2]
        simpa using hno j hj
      · rw [hB, hd]; simpa [List.getD] using hh
    unfold mayB
    rw [h, h3]
    simp only
    rw [hB]
    simp [List.getD]
end Go.Proofs.YtjbobblnicnhnaaDoor
