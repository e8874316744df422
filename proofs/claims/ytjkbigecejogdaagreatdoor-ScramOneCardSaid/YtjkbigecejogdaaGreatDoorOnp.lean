/-
  What is read of a text is told by just that text, of any kind (plain); a message that was read isn't too great.
-/
import Derived.Test.YtjkbigecejogdaaGreatDoorRows
import Derived.Test.YtjkbigecejogdaaGreatDoorPot
import Derived.Test.YtjkbigecejogdaaGreatDoorLtx
namespace Go.Proofs.YtjkbigecejogdaaGreatDoor
set_option linter.unusedVariables false
set_option linter.unusedSimpArgs false
theorem escF_ge : ∀ l : List UInt8, l.length ≤ (escF l).length
  | [] => Nat.le_refl _
  | c :: r => by
    have := escF_ge r
    show (c :: r).length ≤ (esc1 c ++ escF r).length
    have h1 : 1 ≤ (esc1 c).length := by unfold esc1; split <;> (try split) <;> simp
    simp only [List.length_append, List.length_cons]
    omega
theorem allL_ge (l : List UInt8) : l.length ≤ (allL plain true l).length := by
  rw [allL_true, List.length_append, List.length_replicate, refN_len]
  omega
theorem extL_ge : ∀ fs : List Pr, fs.length ≤ (extL fs).length ∧ ∀ p ∈ fs, p.n.length + p.v.length ≤ (extL fs).length
  | [] => ⟨Nat.le_refl _, fun p hp => absurd hp (by simp)⟩
  | q :: r => by
    obtain ⟨h1, h2⟩ := extL_ge r
    have e : (extL (q :: r)).length = q.n.length + q.v.length + 2 + (extL r).length := by
      unfold extL
      rw [List.flatMap_cons]
      simp
      omega
    rw [e]
    refine ⟨by simp; omega, fun p hp => ?_⟩
    rcases List.mem_cons.1 hp with rfl | hp
    · omega
    · have := h2 p hp; omega
theorem prOk_of (fs : List Pr) (n : Nat) (h : (extL fs).length ≤ n) (hn : n ≤ 5000) : PrOk fs := by
  obtain ⟨h1, h2⟩ := extL_ge fs
  exact ⟨by omega, fun p hp => by have := h2 p hp; omega⟩
theorem one_any {k : Int} {s : List UInt8} {m : Ms} (h : rRead k s = (m, 0)) : txtL m = s ∧ txtB m = true ∧ s.length ≤ 4096 := by
  unfold rRead at h
  unfold txtL txtB
  split at h
  · obtain ⟨h0, h1, h2, h3⟩ := one_first h
    rw [if_pos h0, if_pos h0]; exact ⟨h1, h2, h3⟩
  split at h
  · obtain ⟨h0, h1, h2, h3⟩ := one_chal h
    rw [if_neg (by rw [h0]; decide), if_pos h0, if_neg (by rw [h0]; decide), if_pos h0]; exact ⟨h1, h2, h3⟩
  split at h
  · obtain ⟨h0, h1, h2, h3⟩ := one_fin h
    rw [if_neg (by rw [h0]; decide), if_neg (by rw [h0]; decide), if_pos h0, if_neg (by rw [h0]; decide), if_neg (by rw [h0]; decide), if_pos h0]; exact ⟨h1, h2, h3⟩
  · obtain ⟨h0, h1, h2, h3⟩ := one_verd h
    rw [if_neg (by rw [h0]; decide), if_neg (by rw [h0]; decide), if_neg (by rw [h0]; decide), if_neg (by rw [h0]; decide), if_neg (by rw [h0]; decide), if_neg (by rw [h0]; decide)]; exact ⟨h1, h2, h3⟩
theorem one_txt {k : Int} {s : List UInt8} {m : Ms} (h : rRead k s = (m, 0)) : txtV m = (s, 0) := by
  obtain ⟨h1, h2, h3⟩ := one_any h
  unfold txtV sizedV
  rw [h1, h2, if_pos rfl, if_pos h3]
theorem msOk_of {s : List UInt8} {m : Ms} (h1 : txtL m = s) (h2 : txtB m = true) (h3 : s.length ≤ 3000) : MsOk m := by
  unfold txtL at h1
  unfold txtB at h2
  by_cases q1 : m.kind = 1
  · rw [if_pos q1] at h1 h2
    unfold fhdL fbaL at h1
    have e1 := escF_ge m.authz; have e2 := escF_ge m.user
    have hl := congrArg List.length h1
    have ha : m.authz.length ≤ 3000 := by
      by_cases q : m.authz = []
      · rw [q]; simp
      · rw [if_neg q] at hl; simp only [List.length_append, List.length_cons] at hl; omega
    simp only [List.length_append, List.length_cons] at hl
    exact ⟨fun _ => ⟨by omega, ha, by omega, by omega⟩, fun q => by omega, fun q => by omega, fun q => absurd q1 q, prOk_of _ 3000 (by omega) (by omega)⟩
  rw [if_neg q1] at h1 h2
  by_cases q2 : m.kind = 2
  · rw [if_pos q2] at h1 h2
    unfold chtL at h1
    have hl := congrArg List.length h1
    simp only [List.length_append, List.length_cons] at hl
    unfold chtB at h2
    simp only [Bool.and_eq_true, decide_eq_true_eq] at h2
    exact ⟨fun q => absurd q q1, fun _ => ⟨by omega, by omega, by omega, by omega⟩, fun q => by omega, fun _ q => absurd q2 q, prOk_of _ 3000 (by omega) (by omega)⟩
  rw [if_neg q2] at h1 h2
  by_cases q3 : m.kind = 3
  · rw [if_pos q3] at h1 h2
    unfold finL at h1
    have e1 := allL_ge m.head; have e2 := allL_ge m.proof
    have hl := congrArg List.length h1
    simp only [List.length_append, List.length_cons] at hl
    exact ⟨fun q => absurd q q1, fun q => absurd q q2, fun _ => ⟨by omega, by omega, by omega⟩, fun _ _ q => absurd q3 q, prOk_of _ 3000 (by omega) (by omega)⟩
  rw [if_neg q3] at h1 h2
  unfold vetL at h1
  unfold vetB at h2
  have e2 := allL_ge m.proof
  have hl := congrArg List.length h1
  simp only [List.length_append] at hl
  refine ⟨fun q => absurd q q1, fun q => absurd q q2, fun q => absurd q q3, fun _ _ _ => ?_, prOk_of _ 3000 (by omega) (by omega)⟩
  by_cases hb : vbadB m.proof m.code = true
  · rw [if_pos hb] at hl
    simp only [List.length_cons] at hl
    unfold vbadB at hb
    simp only [Bool.and_eq_true, decide_eq_true_eq] at hb
    exact ⟨by omega, by omega⟩
  · rw [Bool.not_eq_true] at hb
    rw [hb] at h2
    simp only [Bool.or_false, Bool.and_eq_true, decide_eq_true_eq] at h2
    exact ⟨by omega, by rw [h2.1.2]; simp⟩
end Go.Proofs.YtjkbigecejogdaaGreatDoor
