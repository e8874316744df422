/-
  scram.denied at any pairs; bytesOf, rounds, head at plain texts.
-/
import Derived.Test.YtjkbigecejogdaaDoorRows
import Derived.Test.YtjkbigecejogdaaDoorRes
import Derived.Test.YtjkbigecejogdaaDoorBka
import Derived.Test.YtjkbigecejogdaaDoorLpl
namespace Go.Proofs.YtjkbigecejogdaaDoor
open Go.RowKit
set_option maxRecDepth 100000
attribute [local go_sem] Oper.semAt_some
set_option linter.unusedVariables false
set_option linter.unusedSimpArgs false
def denB (ps : List (List UInt8)) : Bool := ps.any fun p => p.take 1 == [109]
theorem elemPr : Tryd.prog.elem 22 = 42 := by kernel_rfl
theorem index_pr (g n cap k : Nat) (hk : k < n) (W : World) : (Instr.indexAt 22 (.slice (some ⟨g, 0, none⟩) n cap) (.int .i64 (k : Int))).run Tryd.prog W = .ok (.pointer (some ⟨g, 2 * k, none⟩)) W := by
  have hadd : (⟨g, 0, none⟩ : Addr).add (k * 2) = ⟨g, 2 * k, none⟩ := by rw [Nat.mul_comm]; unfold Addr.add; split <;> simp_all
  rw [run_indexAt_slice (h := by rw [elemPr]; exact Tryd.underlying22), if_pos (by omega), elemPr]
  simp [Tryd.sizeOf42, Result.andThen, hadd]
theorem ownP_at {B : Nat} {v : Value} {ps : List (List UInt8)} {W : World} (h : OwnP B v ps W) (hne : ps ≠ []) : ∃ g cap, v = .slice (some ⟨g, 0, none⟩) ps.length cap ∧ g < W.heap.size ∧ ∀ j p, ps[j]? = some p → W.cell? ⟨g, 2 * j, none⟩ = some (Str (p.take 1)) ∧ W.cell? ⟨g, 2 * j + 1, none⟩ = some (Str (p.drop 2)) := by
  rcases h.2 with ⟨_, h0⟩ | ⟨g, cap, cur, hv, hbg, hg, hn, hm, _, ht⟩
  · exact absurd (List.eq_nil_of_length_eq_zero h0) hne
  · refine ⟨g, cap, hv, (Array.getElem?_eq_some_iff.1 hg).1, fun j p hj => ?_⟩
    have hlt : j < ps.length := (List.getElem?_eq_some_iff.1 hj).1
    obtain ⟨a, b⟩ := attF_get ps j p hj
    rw [← ht, List.getElem?_take, if_pos (by omega)] at a b
    refine ⟨?_, ?_⟩
    · simp only [World.cell?, hg]; simpa using a
    · simp only [World.cell?, hg]; simpa using b
set_option maxHeartbeats 1000000 in
theorem denied_any (B : Nat) (v : Value) (ps : List (List UInt8)) (hl : ps.length ≤ 100000) (w : World) (h : OwnP B v ps w) :
    Calls Tryd.prog 37 #[v] w fun e w' => e = .returned (.bool (denB ps)) ∧ Ext w w' := by
  by_cases h0 : ps = []
  · subst h0
    have hv : ∃ a c, v = .slice a 0 c := by
      rcases h.2 with ⟨hv, _⟩ | ⟨g, cap, _, hv, _⟩
      · exact ⟨_, _, hv⟩
      · exact ⟨_, _, hv⟩
    obtain ⟨a, c, rfl⟩ := hv
    clear h
    go_enter Tryd.func37, Tryd.ntmps37
    go_wp2
    go_loop [7] (fun i => i = .int .i64 0) (fun _ => 0)
    case atStart => rfl
    case round =>
      subst hrel
      go_wp2
      go_ret
      exact ⟨rfl, ext_refl _⟩
  · obtain ⟨g, cap, rfl, hgl, hc⟩ := ownP_at h h0
    have HC := Lib.hid hc
    clear hc h
    go_enter Tryd.func37, Tryd.ntmps37
    go_wp2
    go_loopw [7] (fun i wr => ∃ k : Nat, k ≤ ps.length ∧ i = .int .i64 k ∧ denB (ps.take k) = false ∧ Ext w wr) (fun i _ => ps.length - (intOf i).toNat)
    case atStart => exact ⟨0, by omega, rfl, rfl, ext_refl _⟩
    case round =>
      obtain ⟨k, hk, rfl, hd, hx⟩ := hrel
      by_cases hlt : k < ps.length
      · obtain ⟨p, hp⟩ : ∃ p, ps[k] = p := ⟨_, rfl⟩
        obtain ⟨d0, d1⟩ := HC.out k p (by rw [← hp]; exact List.getElem?_eq_getElem hlt)
        replace d0 := ext_cell hx d0; replace d1 := ext_cell hx d1
        have hix := index_pr g ps.length cap k hlt
        have htk : denB (ps.take (k + 1)) = (denB (ps.take k) || (p.take 1 == [109])) := by
          rw [List.take_succ_eq_append_getElem hlt, hp]
          simp [denB, List.any_append]
        rw [hd, Bool.false_or] at htk
        have hall : (p.take 1 == [109]) = true → denB ps = true := fun h => by
          unfold denB
          rw [List.any_eq_true]
          exact ⟨p, by rw [← hp]; exact List.getElem_mem _, h⟩
        have HTK := Lib.hid htk; have HALL := Lib.hid hall; have HX := Lib.hid hx
        have hA : ∀ o, Ext wr (wr.alloc o) := fun o => Below.alloc (Below.refl _ _) (Nat.le_refl _) _
        have HA := Lib.hid hA
        clear htk hall hp hx hd hA
        generalize p.take 1 = q1 at *
        generalize p.drop 2 = q2 at *
        cases hb : (q1 == [109]) with
        | true =>
          rw [hb] at HALL HTK
          go_wp2
          go_ret
          exact ⟨by rw [HALL.out trivial]; rfl, ext_trans HX.out (HA.out _)⟩
        | false =>
          rw [hb] at HALL HTK
          go_wp2
          go_roundw
          case rel => exact ⟨k + 1, by omega, by go_num, HTK.out, ext_trans HX.out (HA.out _)⟩
          case measure => simp [intOf]; omega
      · obtain rfl : k = ps.length := by omega
        rw [List.take_length] at hd
        have HD := Lib.hid hd; have HX := Lib.hid hx
        clear hd hx
        go_wp2
        go_ret
        exact ⟨by rw [HD.out]; rfl, HX.out⟩
/-! ### bytesOf -/
theorem decR_len (A l : List UInt8) : (decR A l).1.length ≤ 3 * ((l.length + 3) / 4) := by
  simp only [decR]
  split
  · split
    · exact decN_len _ _ _
    · simp
  · simp
theorem decF_len (l : List UInt8) : (decF l).1.length ≤ 3 * ((l.length + 3) / 4) := by
  have h1 := decR_len plain (trimN l 2)
  have h2 := trimN_len l 2
  unfold decF
  split
  · split
    · simp
    · omega
  · simp
def byB (l : List UInt8) (a b : Nat) : Bool := decide ((decF l).2 = 0) && (decide (a ≤ (decF l).1.length) && decide ((decF l).1.length ≤ b))
end Go.Proofs.YtjkbigecejogdaaDoor
