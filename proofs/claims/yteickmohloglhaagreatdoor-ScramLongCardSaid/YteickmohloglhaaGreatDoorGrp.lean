/-
  b64.Groups: the iterator's contract.
-/
import Derived.Test.YteickmohloglhaaGreatDoorRows
import Derived.Test.YteickmohloglhaaGreatDoorKit
namespace Go.Proofs.YteickmohloglhaaGreatDoor
open Go.RowKit
attribute [local go_sem] Oper.semAt_some

/-- How long the pieces are. -/
def gsz (z : Int) (n : Nat) : Nat := if 0 < z then z.toNat else max n 1
theorem gsz_pos (z : Int) (n : Nat) : 0 < gsz z n := by unfold gsz; split <;> omega
/-- How many pieces. -/
def gcnt (m n : Nat) : Nat := (n + m - 1) / m
theorem gcnt_lt {m n : Nat} (i : Nat) (hm : 0 < m) : i < gcnt m n ↔ m * i < n := by
  unfold gcnt
  rw [Nat.lt_iff_add_one_le, Nat.le_div_iff_mul_le hm, Nat.add_mul, Nat.one_mul, Nat.mul_comm i m]
  omega
def strLen (w : World) (b : Nat) : Nat := match w.cell? ⟨b, 0, none⟩ with | some (.string s) => s.size | _ => 0

set_option maxHeartbeats 400000 in
theorem groups_iter (l : List UInt8) (z : Int) (hl : l.length ≤ 1000000) (bs bz : Nat) (w0 : World) (hbs : w0.heap[bs]? = some (.cells #[Str l] 9 (0, 0))) (hbz : w0.heap[bz]? = some (.cells #[.int .i64 z] 3 (0, 0))) :
    Iter Tryz.prog 81 #[.pointer (some ⟨bs, 0, none⟩), .pointer (some ⟨bz, 0, none⟩)] (gcnt (gsz z l.length) l.length) (fun i => #[Str ((l.drop (gsz z l.length * i)).take (gsz z l.length))]) (fun k => k = bs ∨ k = bz) (fun k => k = bs) w0 := by
  intro n lp J Jx W hW hsz hJ hJx hY h0
  have hm := gsz_pos z l.length
  have hmz : 0 < z → gsz z l.length = z.toNat := fun h => by simp [gsz, h]
  have hmz' : ¬ 0 < z → gsz z l.length = max l.length 1 := fun h => by simp [gsz, h]
  generalize gsz z l.length = m at *
  have hcnt := @gcnt_lt m l.length
  generalize gcnt m l.length = N at *
  have hne : bz ≠ bs := by rintro rfl; rw [hbs] at hbz; cases hbz
  refine callsIn_of_wp Tryz.func81 rfl trivial ?_ rfl
  simp only [Tryz.ntmps81, List.size_toArray, List.length_cons, List.length_nil, Nat.reduceAdd, Nat.reduceSub, Array.replicate_succ, Array.replicate_zero, List.push_toArray, List.append_toArray, List.nil_append, List.cons_append]
  gi_wp2
  gi_loopw [4] (fun _ wr => ∃ i : Nat, i ≤ N ∧ wr.heap[bs]? = some (.cells #[Str (l.drop (m * i))] 9 (0, 0)) ∧ wr.heap[bz]? = some (.cells #[.int .i64 z] 3 (0, 0)) ∧ J i wr) (fun _ wr => strLen wr bs)
  case atStart => exact ⟨0, by omega, by simpa using (hW bs (.inl rfl)).trans hbs, (hW bz (.inr rfl)).trans hbz, h0⟩
  case round =>
    obtain ⟨i, hi, hb, hz, hJr⟩ := hrel
    have hlenp : strLen wr bs = l.length - m * i := by simp [strLen, World.cell?, hb, size_list]
    have c0 : wr.cell? ⟨bs, 0, none⟩ = some (Str (l.drop (m * i))) := by simp [World.cell?, hb]
    have f0 : wr.frozen? ⟨bs, 0, none⟩ = false := by simp [World.frozen?, hb]
    have cz : wr.cell? ⟨bz, 0, none⟩ = some (.int .i64 z) := by simp [World.cell?, hz]
    by_cases hlt : m * i < l.length
    · obtain ⟨fn, tmps, assign, body, hy, hR⟩ := hY (n - 1) i wr ((hcnt i hm).2 hlt) hJr
      obtain ⟨r, hr⟩ : ∃ r, l.drop (m * i) = r := ⟨_, rfl⟩
      have hrl : r.length = l.length - m * i := by rw [← hr]; simp
      rw [hr] at c0 hy hb
      have hnx : r.drop (min r.length m) = l.drop (m * (i + 1)) := by
        rw [← hr, List.drop_drop, List.length_drop]
        by_cases h : m ≤ l.length - m * i
        · rw [Nat.min_eq_right h, Nat.mul_add, Nat.mul_one]
        · rw [Nat.min_eq_left (by omega), List.drop_of_length_le (by omega), List.drop_of_length_le (by rw [Nat.mul_add]; omega)]
      have hpc : r.take (min r.length m) = r.take m := by
        by_cases h : m ≤ r.length
        · rw [Nat.min_eq_right h]
        · rw [Nat.min_eq_left (by omega), List.take_of_length_le (Nat.le_refl _), List.take_of_length_le (by omega)]
      have hrpos : 0 < r.length := by omega
      obtain ⟨kk, hkk⟩ : ∃ kk, min r.length m = kk := ⟨_, rfl⟩
      have hk1 : kk ≤ r.length := by omega
      have hk2 : 0 < kk := by omega
      have hrs : r.length ≤ 1000000 := by omega
      rw [hkk] at hnx hpc
      rw [← hpc] at hy
      have hmn : 0 < z → ∀ (ts : Array TypeId) (t : TypeId) (W : World), (Builtin.min_ ts t #[.int .i64 (r.length : Int), .int .i64 z]).run Tryz.prog W = .ok (.int .i64 (kk : Int)) W := fun h => by
        rw [← hkk]; exact run_min_nat Tryz.prog r.length m z (by have := hmz h; omega)
      have hkz : ¬ 0 < z → kk = r.length := fun h => by have := hmz' (by omega); have : i = 0 := by
                                                          rcases Nat.eq_zero_or_pos i with h0 | h0
                                                          · exact h0
                                                          · have : m ≤ m * i := Nat.le_mul_of_pos_right m h0
                                                            omega
                                                        subst this; omega
      have Hcnt := Lib.hid hcnt; clear hcnt
      have Hnx := Lib.hid hnx; have Hkk := Lib.hid hkk; have Hr := Lib.hid hr
      clear hnx hkk hpc hr hrl hmz hmz' hY
      have step : ∀ W3, J (i + 1) W3 → wr.heap.size ≤ W3.heap.size → (∀ k, k = bs ∨ k = bz → W3.heap[k]? = wr.heap[k]?) →
          W3.cell? ⟨bs, 0, none⟩ = some (Str r) ∧ W3.frozen? ⟨bs, 0, none⟩ = false ∧ (W3.setCell ⟨bs, 0, none⟩ (Str (r.drop kk))).heap[bs]? = some (.cells #[Str (l.drop (m * (i + 1)))] 9 (0, 0)) ∧
          (W3.setCell ⟨bs, 0, none⟩ (Str (r.drop kk))).heap[bz]? = some (.cells #[.int .i64 z] 3 (0, 0)) ∧ J (i + 1) (W3.setCell ⟨bs, 0, none⟩ (Str (r.drop kk))) ∧
          strLen (W3.setCell ⟨bs, 0, none⟩ (Str (r.drop kk))) bs < strLen wr bs := by
        intro W3 hJ3 hs3 hk3
        have hb3 := (hk3 bs (.inl rfl)).trans hb
        have hz3 := (hk3 bz (.inr rfl)).trans hz
        have hset := one_setCell (u := Str (r.drop kk)) hb3
        refine ⟨by simp [World.cell?, hb3], by simp [World.frozen?, hb3], by rw [hset, Hnx.out], by rw [Below.heap_setCell _ _ _ _ hne]; exact hz3, hJ _ _ _ hJ3 (Chg.setCell W3 ⟨bs, 0, none⟩ _), ?_⟩
        have e1 : strLen (W3.setCell ⟨bs, 0, none⟩ (Str (r.drop kk))) bs = r.length - kk := by simp [strLen, World.cell?, hset, size_list]
        have e2 : strLen wr bs = r.length := by simp [strLen, World.cell?, hb, size_list]
        rw [e1, e2]; omega
      have Step := Lib.hid step
      clear step hb hz hlenp
      by_cases hz0 : 0 < z
      · have hmn' := hmn hz0
        clear hmn hkz
        gi_wp2
        refine ⟨fun h => by simp [Fence.wide] at h, hR.mono ?_⟩
        rintro e W3 (⟨rfl, hJ3, hs3, hk3⟩ | ⟨rfl, hJ3⟩)
        · obtain ⟨c3, f3, E⟩ := Step.out W3 hJ3 hs3 hk3
          have HE := Lib.hid E
          clear c0 f0 cz E hk3 hs3
          gi_wp2
          go_roundw
          case rel => exact ⟨i + 1, by have := (Hcnt.out i hm).2 hlt; omega, HE.out.1, HE.out.2.1, HE.out.2.2.1⟩
          case measure => exact HE.out.2.2.2
        · gi_wp2
          refine bodyPost_ret (results_none rfl _ _ _) rfl ?_
          exact ⟨⟨_, rfl⟩, .inr ⟨i, (Hcnt.out i hm).2 hlt, hJ3⟩⟩
      · have hk := hkz hz0
        clear hmn hkz
        subst hk
        rw [List.take_of_length_le (Nat.le_refl _)] at hy
        have hdr : r.drop r.length = [] := List.drop_length
        rw [hdr] at Step
        gi_wp2
        refine ⟨fun h => by simp [Fence.wide] at h, hR.mono ?_⟩
        rintro e W3 (⟨rfl, hJ3, hs3, hk3⟩ | ⟨rfl, hJ3⟩)
        · obtain ⟨c3, f3, E⟩ := Step.out W3 hJ3 hs3 hk3
          have HE := Lib.hid E
          clear c0 f0 cz E hk3 hs3
          gi_wp2
          go_roundw
          case rel => exact ⟨i + 1, by have := (Hcnt.out i hm).2 hlt; omega, HE.out.1, HE.out.2.1, HE.out.2.2.1⟩
          case measure => exact HE.out.2.2.2
        · gi_wp2
          refine bodyPost_ret (results_none rfl _ _ _) rfl ?_
          exact ⟨⟨_, rfl⟩, .inr ⟨i, (Hcnt.out i hm).2 hlt, hJ3⟩⟩
    · gi_wp2
      refine bodyPost_end (results_none rfl _ _ _) rfl ?_
      have : i = N := by
        rcases Nat.lt_or_ge i N with h | h
        · exact absurd ((hcnt i hm).1 h) hlt
        · omega
      subst this
      exact ⟨⟨_, rfl⟩, .inl hJr⟩
end Go.Proofs.YteickmohloglhaaGreatDoor
