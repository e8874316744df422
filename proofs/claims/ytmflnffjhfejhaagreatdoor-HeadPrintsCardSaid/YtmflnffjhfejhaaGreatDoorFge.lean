/-
  Rows of fields; ref09.Get: the values of a name.
-/
import Derived.BigGuardPart
import Derived.Test.YtmflnffjhfejhaaGreatDoorRows
import Derived.Test.YtmflnffjhfejhaaGreatDoorFld
import Derived.Test.YtmflnffjhfejhaaGreatDoorHfl
import Derived.Test.YtmflnffjhfejhaaGreatDoorHtk
import Derived.Test.YtmflnffjhfejhaaGreatDoorKit
namespace Go.Proofs.YtmflnffjhfejhaaGreatDoor
open Go.RowKit
set_option maxRecDepth 100000
set_option linter.unusedVariables false
set_option linter.unusedSimpArgs false

theorem elemPair : Tryz.prog.elem 27 = 53 := by kernel_rfl
theorem index_pair (g o n cap j : Nat) (hn : j < n) (W : World) : (Instr.indexAt 27 (.slice (some ⟨g, o, none⟩) n cap) (.int .i64 (j : Int))).run Tryz.prog W = .ok (.pointer (some ⟨g, o + 2 * j, none⟩)) W := by
  rw [run_indexAt_slice (h := by rw [elemPair]; exact Tryz.underlying27), if_pos (by omega), elemPair]
  simp [Tryz.sizeOf53, Result.andThen, Addr.add, Nat.mul_comm]
theorem rowP_shape {w : World} {v : Value} {xs : List Pr} (hr : RowC 2 prC w v xs) : ∃ ao cap, v = .slice ao xs.length cap ∧ xs.length ≤ cap ∧ cap ≤ maxLen ∧ (xs = [] ∨ ∃ g o, ao = some ⟨g, o, none⟩ ∧ ∀ j, j < xs.length → w.cell? ⟨g, o + 2 * j, none⟩ = some (Str (xs.getD j prD).n) ∧ w.cell? ⟨g, o + 2 * j + 1, none⟩ = some (Str (xs.getD j prD).v)) := by
  obtain ⟨ao, cap, hv, h0, h1, h2, h3⟩ := hr
  refine ⟨ao, cap, hv, h1, h2, ?_⟩
  by_cases hne : xs = []
  · exact .inl hne
  · obtain ⟨g, o, ha, hc⟩ := h3 hne
    refine .inr ⟨g, o, ha, fun j hj => ?_⟩
    have hx : xs[j]? = some (xs.getD j prD) := by simp [List.getD, hj]
    exact ⟨hc j _ hx 0 _ rfl, hc j _ hx 1 _ rfl⟩
/-- No name and no value too long. -/
def PrB (fs : List Pr) : Prop := ∀ p ∈ fs, p.n.length ≤ 10000 ∧ p.v.length ≤ 10000
def getL (fs : List Pr) (nm : List UInt8) : List (List UInt8) := (fs.filter fun p => foldB p.n nm).map (·.v)
theorem getL_snoc (fs : List Pr) (nm : List UInt8) (k : Nat) (h : k < fs.length) : getL (fs.take (k + 1)) nm = if foldB (fs.getD k prD).n nm then getL (fs.take k) nm ++ [(fs.getD k prD).v] else getL (fs.take k) nm := by
  have e : fs.take (k + 1) = fs.take k ++ [fs.getD k prD] := by rw [List.take_succ_eq_append_getElem h]; simp [List.getD, h]
  rw [e]
  generalize fs.getD k prD = p
  unfold getL
  rw [List.filter_append, List.map_append]
  cases hb : foldB p.n nm <;> simp [hb]
theorem getL_len (fs : List Pr) (nm : List UInt8) : (getL fs nm).length ≤ fs.length := by
  unfold getL; rw [List.length_map]; exact List.length_filter_le _ _
theorem infoStr : (Tryz.prog.info? 9).map (fun i => (i.zero, i.size, i.bytes)) = some (some (.string ⟨#[]⟩), 1, 16) := by kernel_rfl
end Go.Proofs.YtmflnffjhfejhaaGreatDoor
