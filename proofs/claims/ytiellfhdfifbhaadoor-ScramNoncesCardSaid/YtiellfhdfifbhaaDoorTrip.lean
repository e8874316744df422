/-
  b64.triples: the iterator's contract.
-/
import Derived.Test.YtiellfhdfifbhaaDoorRows
import Derived.Test.YtiellfhdfifbhaaDoorRange
namespace Go.Proofs.YtiellfhdfifbhaaDoor
open Go.RowKit
attribute [local go_sem] Oper.semAt_some

theorem sblk_resl {v : Value} {n j k : Nat} (h : sblk (resl v j) (n - j) k) : sblk v n k := by
  obtain ⟨h1, h2⟩ := h
  refine ⟨by omega, ?_⟩
  cases v <;> simp only [resl] at h2 <;> try exact h2
  rename_i a n c
  split at h2
  · cases a with
    | none => simp [Value.ownBlock] at h2
    | some a => simpa [Value.ownBlock] using h2
  · cases a with
    | none => simp [Value.ownBlock] at h2
    | some a => simpa [Value.ownBlock, Addr.add, apply_ite Addr.block] using h2
/-- What is left in the iterator's variable behind i rounds. -/
def tripRest (v : Value) (l : List UInt8) : Nat → Value
  | 0 => v
  | i + 1 => resl (tripRest v l i) (min (l.length - 3 * i) 3)
theorem drop_trip (l : List UInt8) (i : Nat) : (l.drop (3 * i)).drop (min (l.length - 3 * i) 3) = l.drop (3 * (i + 1)) := by
  rw [List.drop_drop]
  by_cases h : 3 ≤ l.length - 3 * i
  · rw [show min (l.length - 3 * i) 3 = 3 by omega, show 3 * i + 3 = 3 * (i + 1) by omega]
  · rw [List.drop_of_length_le (by omega), List.drop_of_length_le (by omega)]
def boxLen (w : World) (b : Nat) : Nat := match w.cell? ⟨b, 0, none⟩ with | some (.slice _ n _) => n | _ => 0

set_option maxHeartbeats 400000 in
theorem triples_iter (v : Value) (l : List UInt8) (bx : Nat) (w0 : World) (hv : SlB w0 v l) (hbx : w0.heap[bx]? = some (.cells #[v] 33 (0, 0))) (hne : ¬ sblk v l.length bx) :
    ∃ vs : Nat → Value, (∀ i W, 3 * i < l.length → SlB W v l → SlB W (vs i) ((l.drop (3 * i)).take 3)) ∧
      Iter Tryd.prog 84 #[.pointer (some ⟨bx, 0, none⟩)] ((l.length + 2) / 3) (fun i => #[vs i]) (fun k => k = bx ∨ sblk v l.length k) (fun k => k = bx) w0 := by
  have hps : ∀ i w, SlB w v l → SlB w (tripRest v l i) (l.drop (3 * i)) ∧ ∀ k, sblk (tripRest v l i) (l.length - 3 * i) k → sblk v l.length k := by
    intro i w hvw
    induction i with
    | zero => simpa [tripRest] using hvw
    | succ i ih =>
      have h1 := ih.1.resl (k := min (l.length - 3 * i) 3) (by simp; omega)
      rw [← List.map_drop, drop_trip] at h1
      refine ⟨h1, fun k hk => ih.2 k ?_⟩
      refine sblk_resl (j := min (l.length - 3 * i) 3) ⟨?_, hk.2⟩
      have := hk.1; omega
  refine ⟨fun i => cutm (tripRest v l i) (min (l.length - 3 * i) 3), fun i W hi hvW => ?_, fun n lp J Jx W hW hsz hJ hJx hY h0 => ?_⟩
  · have h1 := (hps i W hvW).1.cutm (k := min (l.length - 3 * i) 3) (by simp; omega)
    have e : (l.drop (3 * i)).take (min (l.length - 3 * i) 3) = (l.drop (3 * i)).take 3 := by
      by_cases h : 3 ≤ l.length - 3 * i
      · rw [show min (l.length - 3 * i) 3 = 3 by omega]
      · rw [List.take_of_length_le (by simp; omega), List.take_of_length_le (by simp; omega)]
    rw [← List.map_take, e] at h1
    exact h1
  · refine callsIn_of_wp Tryd.func84 rfl trivial ?_ rfl
    simp only [Tryd.ntmps84, List.size_toArray, List.length_cons, List.length_nil, Nat.reduceAdd, Nat.reduceSub, Array.replicate_succ, Array.replicate_zero, List.push_toArray, List.append_toArray, List.nil_append, List.cons_append]
    gi_wp2
    gi_loopw [3] (fun _ wr => ∃ i : Nat, i ≤ (l.length + 2) / 3 ∧ wr.heap[bx]? = some (.cells #[tripRest v l i] 33 (0, 0)) ∧ SlB wr v l ∧ J i wr) (fun _ wr => boxLen wr bx)
    case atStart => exact ⟨0, by omega, (hW bx (.inl rfl)).trans hbx, hv.keep (fun k hk => hW k (.inr (by simpa using hk))), h0⟩
    case round =>
      obtain ⟨i, hi, hb, hvr, hJr⟩ := hrel
      obtain ⟨⟨ao, cap, hp, hcap, hmax, hnil, hcell⟩, _⟩ := hps i wr hvr
      simp only [List.length_map, List.length_drop] at hp hcap
      have hlenp : boxLen wr bx = l.length - 3 * i := by simp [boxLen, World.cell?, hb, hp]
      have hc0 : wr.cell? ⟨bx, 0, none⟩ = some (.slice ao (l.length - 3 * i) cap) := by simp [World.cell?, hb, hp]
      have hf0 : wr.frozen? ⟨bx, 0, none⟩ = false := by simp [World.frozen?, hb]
      unfold maxLen at hmax
      by_cases hlt : 3 * i < l.length
      · have hrs := run_resl (P := Tryd.prog) Tryd.underlying33 Tryd.sizeOf5 (ao := ao) (n := l.length - 3 * i) (cap := cap)
        have hct := run_cutm (P := Tryd.prog) Tryd.underlying33 Tryd.sizeOf5 (ao := ao) hcap
        obtain ⟨fn, tmps, assign, body, hy, hR⟩ := hY (n - 1) i wr (by omega) hJr

        rw [hp] at hy
        have hmn := run_min_nat Tryd.prog (l.length - 3 * i) 3 3 rfl
        obtain ⟨kk, hkk⟩ : ∃ kk, min (l.length - 3 * i) 3 = kk := ⟨_, rfl⟩
        have hk1 : kk ≤ l.length - 3 * i := by omega
        have hk2 : 0 < kk := by omega
        rw [hkk] at hmn hy
        rw [hp] at hb
        obtain ⟨ao', hao'⟩ : ∃ ao', resl (.slice ao (l.length - 3 * i) cap) kk = .slice ao' (l.length - 3 * i - kk) (cap - kk) := ⟨_, rfl⟩
        have hrk := fun W => hrs W kk hk1
        rw [hao'] at hrk
        clear hrs
        have hnext : tripRest v l (i + 1) = .slice ao' (l.length - 3 * i - kk) (cap - kk) := by rw [← hao', ← hp, ← hkk]; rfl
        have Hnext := Lib.hid hnext; clear hnext
        clear hao'
        have Hkk := Lib.hid hkk; clear hkk
        clear hcell
        gi_wp2
        refine ⟨fun h => by simp [Fence.wide] at h, hR.mono ?_⟩
        rintro e W3 (⟨rfl, hJ3, hs3, hk3⟩ | ⟨rfl, hJ3⟩)
        · have hb3 : W3.heap[bx]? = some (.cells #[.slice ao (l.length - 3 * i) cap] 33 (0, 0)) := (hk3 bx (.inl rfl)).trans hb
          have hc3 : W3.cell? ⟨bx, 0, none⟩ = some (.slice ao (l.length - 3 * i) cap) := by simp [World.cell?, hb3]
          have hf3 : W3.frozen? ⟨bx, 0, none⟩ = false := by simp [World.frozen?, hb3]
          have hv3 : SlB W3 v l := hvr.keep (fun k hk => hk3 k (.inr (by simpa using hk)))
          clear hc0 hf0
          gi_wp2
          go_roundw
          case rel =>
            have hc := Chg.setCell W3 ⟨bx, 0, none⟩ (.slice ao' (l.length - 3 * i - kk) (cap - kk))
            refine ⟨i + 1, by omega, ?_, hv3.keep (fun k hk => Below.heap_setCell _ _ _ _ (fun e => hne (by rw [← show k = bx from e]; simpa using hk))), hJ _ _ _ hJ3 hc⟩
            rw [Hnext.out]; exact one_setCell hb3
          case measure =>
            have e : boxLen (W3.setCell ⟨bx, 0, none⟩ (.slice ao' (l.length - 3 * i - kk) (cap - kk))) bx = l.length - 3 * i - kk := by
              have := one_setCell (u := .slice ao' (l.length - 3 * i - kk) (cap - kk)) hb3
              simp [boxLen, World.cell?, this]
            rw [e, hlenp]; omega
        · gi_wp2
          refine bodyPost_ret (results_none rfl _ _ _) rfl ?_
          exact ⟨⟨_, rfl⟩, .inr ⟨i, by omega, hJ3⟩⟩
      · gi_wp2
        refine bodyPost_end (results_none rfl _ _ _) rfl ?_
        have : i = (l.length + 2) / 3 := by omega
        subst this
        exact ⟨⟨_, rfl⟩, .inl hJr⟩
end Go.Proofs.YtiellfhdfifbhaaDoor
