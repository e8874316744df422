/-
  scram's message: attributes that are read one by one.
-/
import Derived.Test.YtjkbigecejogdaaDoorRows
import Derived.Test.YtjkbigecejogdaaDoorRea
import Derived.Test.YtjkbigecejogdaaDoorSca
namespace Go.Proofs.YtjkbigecejogdaaDoor
open Go.RowKit Go.Shelf
set_option maxRecDepth 100000
set_option linter.unusedVariables false
set_option linter.unusedSimpArgs false

theorem attF_get : ∀ (ps : List (List UInt8)) (j : Nat) (p : List UInt8), ps[j]? = some p → (attF ps)[2 * j]? = some (Str (p.take 1)) ∧ (attF ps)[2 * j + 1]? = some (Str (p.drop 2))
  | [], j, p, h => by simp at h
  | q :: ps, 0, p, h => by simp at h; subst h; simp [attF, attV]
  | q :: ps, j + 1, p, h => by
    have ih := attF_get ps j p (by simpa using h)
    simp only [attF, attV, List.flatMap_cons] at ih ⊢
    rw [show 2 * (j + 1) = 2 * j + 2 by omega]
    simpa using ih
/-- A row of attributes that does not lie in block bm. -/
def Row2 (bm M : Nat) (W : World) (v : Value) (ps : List (List UInt8)) : Prop :=
  ∃ ao cap, v = .slice ao ps.length cap ∧ ps.length ≤ cap ∧ cap ≤ maxLen ∧ (ps ≠ [] → ∃ g o, ao = some ⟨g, o, none⟩ ∧ (g ≠ bm ∧ g < M) ∧ ∀ (j : Nat) p, ps[j]? = some p → W.cell? ⟨g, o + 2 * j, none⟩ = some (Str (p.take 1)) ∧ W.cell? ⟨g, o + 2 * j + 1, none⟩ = some (Str (p.drop 2)))
theorem row2_of_own {W : World} {B bm M e : Nat} {v : Value} {ps : List (List UInt8)} (h : W.ownsRow B e 2 v ps.length (attF ps)) (hB : bm < B) (hM : W.heap.size ≤ M) : Row2 bm M W v ps := by
  rcases h.2 with ⟨hn, h0⟩ | ⟨g, cap, cur, hv, hbg, hg, hn, hm, _, ht⟩
  · exact ⟨none, 0, by rw [hn, h0], by omega, by simp [maxLen], fun h => absurd (List.eq_nil_of_length_eq_zero h0) h⟩
  · refine ⟨_, cap, hv, hn, hm, fun _ => ⟨g, 0, rfl, ⟨by omega, by have := (Array.getElem?_eq_some_iff.1 hg).1; omega⟩, fun j p hj => ?_⟩⟩
    have hlt : j < ps.length := (List.getElem?_eq_some_iff.1 hj).1
    obtain ⟨a, b⟩ := attF_get ps j p hj
    rw [← ht, List.getElem?_take, if_pos (by omega)] at a b
    refine ⟨?_, ?_⟩
    · rw [cell_of_row W g _ cur e (0, 0) hg, Nat.zero_add]; simpa using a
    · rw [cell_of_row W g _ cur e (0, 0) hg, Nat.zero_add]; simpa using b
theorem Row2.ch {bm M : Nat} {W C : World} {v : Value} {ps : List (List UInt8)} (h : Row2 bm M W v ps) (hk : ∀ k, k < W.heap.size → k ≠ bm → C.heap[k]? = W.heap[k]?) : Row2 bm M C v ps := by
  obtain ⟨ao, cap, hv, h1, h2, h3⟩ := h
  refine ⟨ao, cap, hv, h1, h2, fun hne => ?_⟩
  obtain ⟨g, o, ha, hg, hc⟩ := h3 hne
  refine ⟨g, o, ha, hg, fun j p hj => ?_⟩
  obtain ⟨a, b⟩ := hc j p hj
  exact ⟨(World.cell?_of_block (w := W) (hk g (World.block_lt_of_cell? W _ a) hg.1)).trans a, (World.cell?_of_block (w := W) (hk g (World.block_lt_of_cell? W _ b) hg.1)).trans b⟩
/-- The message at bm: whether it is bad; what is left. -/
def Msg (bm M : Nat) (bad : Bool) (ps : List (List UInt8)) (W : World) : Prop := ∃ v, W.heap[bm]? = some (.cells #[v, .bool bad] 81 (0, 0)) ∧ Row2 bm M W v ps
theorem Msg.ext {bm M : Nat} {bad : Bool} {ps : List (List UInt8)} {W C : World} (h : Msg bm M bad ps W) (he : Ext W C) : Msg bm M bad ps C := by
  obtain ⟨v, hb, hr⟩ := h
  exact ⟨v, (he.block _ (Array.getElem?_eq_some_iff.1 hb).1).trans hb, hr.ch fun k hk _ => he.block k hk⟩
/-- All that lay is as it was, but for block b. -/
structure Bz (b : Nat) (w w' : World) : Prop where
  os : w'.os = w.os
  tape : w'.tape = w.tape
  output : w'.output = w.output
  size : w.heap.size ≤ w'.heap.size
  block : ∀ k, k < w.heap.size → k ≠ b → w'.heap[k]? = w.heap[k]?
theorem Bz.set (W : World) (b j : Nat) (u : Value) : Bz b W (W.setCell ⟨b, j, none⟩ u) :=
  let h := Chg.setCell W ⟨b, j, none⟩ u
  ⟨h.os, h.tape, h.output, h.size, fun k hk hb => h.block k hk hb⟩
theorem Bz.of_ext {b : Nat} {w w' : World} (h : Ext w w') : Bz b w w' := ⟨h.os, h.tape, h.output, h.size, fun k hk _ => h.block k hk⟩
theorem Bz.trans {b : Nat} {A B C : World} (h : Bz b A B) (k : Bz b B C) : Bz b A C :=
  ⟨k.os.trans h.os, k.tape.trans h.tape, k.output.trans h.output, Nat.le_trans h.size k.size, fun i hi hb => (k.block i (Nat.lt_of_lt_of_le hi h.size) hb).trans (h.block i hi hb)⟩
theorem Bz.below {b B : Nat} {w0 w w' : World} (h0 : Below B w0 w) (h : Bz b w w') (hb : B ≤ b) (hB : B ≤ w0.heap.size) : Below B w0 w' :=
  ⟨h.os.trans h0.os, h.tape.trans h0.tape, h.output.trans h0.output, Nat.le_trans h0.size h.size, fun k hk => (h.block k (by have := h0.size; omega) (by omega)).trans (h0.block k hk)⟩

set_option maxHeartbeats 400000 in
theorem fine_any (bm M : Nat) (bad ok : Bool) (ps : List (List UInt8)) (w : World) (h : Msg bm M bad ps w) :
    Calls Tryd.prog 27 #[.pointer (some ⟨bm, 0, none⟩), .bool ok] w fun e w' => e = .returned (.tuple #[]) ∧ Msg bm M (bad || !ok) ps w' ∧ Bz bm w w' := by
  obtain ⟨v, hb, hr⟩ := h
  have c1 : w.cell? ⟨bm, 1, none⟩ = some (.bool bad) := by simp [World.cell?, hb]
  have f1 : w.frozen? ⟨bm, 1, none⟩ = false := by simp [World.frozen?, hb]
  have hs := set_at (j := 1) (u := .bool (bad || !ok)) hb
  have HM := Lib.hid (show Msg bm M (bad || !ok) ps (w.setCell ⟨bm, 1, none⟩ (.bool (bad || !ok))) from ⟨v, hs, hr.ch fun k hk hn => (Bz.set w bm 1 _).block k hk hn⟩)
  clear hs hb hr
  go_enter Tryd.func27, Tryd.ntmps27
  cases bad <;> cases ok <;>
    (go_wp2
     go_end0
     exact ⟨rfl, HM.out, Bz.set _ _ _ _⟩)

def hasF (nm : List UInt8) : List (List UInt8) → Bool
  | [] => false
  | p :: _ => p.take 1 == nm
theorem elemAtt : Tryd.prog.elem 79 = 86 := by kernel_rfl
theorem index_att (g o n cap : Nat) (hn : 0 < n) (W : World) : (Instr.indexAt 79 (.slice (some ⟨g, o, none⟩) n cap) (.int .i64 0)).run Tryd.prog W = .ok (.pointer (some ⟨g, o, none⟩)) W := by
  rw [run_indexAt_slice (h := by rw [elemAtt]; exact Tryd.underlying79), if_pos (by omega), elemAtt]
  simp [Tryd.sizeOf86, Result.andThen, Addr.add]
set_option maxHeartbeats 400000 in
theorem has_any (bm M : Nat) (bad : Bool) (ps : List (List UInt8)) (nm : List UInt8) (w : World) (h : Msg bm M bad ps w) :
    Calls Tryd.prog 31 #[.pointer (some ⟨bm, 0, none⟩), Str nm] w fun e w' => e = .returned (.bool (hasF nm ps)) ∧ w' = w := by
  obtain ⟨v, hb, ao, cap, hv, hcap, hmax, hcc⟩ := h
  have c0 : w.cell? ⟨bm, 0, none⟩ = some v := by simp [World.cell?, hb]
  subst hv
  cases ps with
  | nil =>
    go_enter Tryd.func31, Tryd.ntmps31
    go_wp2
    go_ret
    exact ⟨rfl, rfl⟩
  | cons p r =>
    obtain ⟨g, o, ha, hg, hc⟩ := hcc (by simp)
    subst ha
    obtain ⟨d0, d1⟩ := hc 0 p rfl
    simp only [Nat.mul_zero, Nat.add_zero] at d0 d1
    have hix := index_att g o (p :: r).length cap (by simp)
    have hlen : (0 : Int) < ((p :: r).length : Int) := by simp <;> omega
    have hres : hasF nm (p :: r) = (p.take 1 == nm) := rfl
    rw [hres]
    clear hc hcc hcap hmax hb hres
    generalize p.take 1 = q at *
    generalize (p :: r).length = n at *
    go_enter Tryd.func31, Tryd.ntmps31
    go_wp2
    go_ret
    exact ⟨rfl, rfl⟩

theorem run_resl2 {g o n cap : Nat} (hn : 1 ≤ n) : ∀ W, (Instr.slice 79 (.slice (some ⟨g, o, none⟩) n cap) (some (.int .i64 1)) none none).run Tryd.prog W = .ok (.slice (if cap = 1 then some ⟨g, o, none⟩ else some ⟨g, o + 2, none⟩) (n - 1) (cap - 1)) W := by
  intro W
  have hs := run_sliceBound (P := Tryd.prog) (w := W) .i64 (1 : Int) n .sliceB (by omega) (by omega)
  simp [Instr.slice, Instr.sliceBounds, run_underlying Tryd.underlying79, hs, Tryd.sizeOf86, Result.andThen, Addr.add]
set_option maxHeartbeats 1000000 in
theorem next_hit (bm M : Nat) (bad : Bool) (p : List UInt8) (r : List (List UInt8)) (w : World) (h : Msg bm M bad (p :: r) w) :
    Calls Tryd.prog 33 #[.pointer (some ⟨bm, 0, none⟩), Str (p.take 1)] w fun e w' => e = .returned (Str (p.drop 2)) ∧ Msg bm M bad r w' ∧ Bz bm w w' := by
  obtain ⟨v, hb, ao, cap, hv, hcap, hmax, hcc⟩ := h
  have c0 : w.cell? ⟨bm, 0, none⟩ = some v := by simp [World.cell?, hb]
  have f0 : w.frozen? ⟨bm, 0, none⟩ = false := by simp [World.frozen?, hb]
  subst hv
  obtain ⟨g, o, ha, hg, hc⟩ := hcc (by simp)
  subst ha
  obtain ⟨d0, d1⟩ := hc 0 p rfl
  simp only [Nat.mul_zero, Nat.add_zero] at d0 d1
  have hix := index_att g o (p :: r).length cap (by simp)
  have hrs := run_resl2 (g := g) (o := o) (n := (p :: r).length) (cap := cap) (by simp)
  have hlen : (0 : Int) < ((p :: r).length : Int) := by simp <;> omega
  have hlen2 : (((p :: r).length : Int) == 0) = false := by simp <;> omega
  have hrl : (p :: r).length - 1 = r.length := by simp
  have hcp : r.length ≤ cap - 1 := by simp at hcap; omega
  obtain ⟨v2, hv2⟩ : ∃ v2, Value.slice (if cap = 1 then some (⟨g, o, none⟩ : Addr) else some ⟨g, o + 2, none⟩) ((p :: r).length - 1) (cap - 1) = v2 := ⟨_, rfl⟩
  have hsh : ∃ a2 n2 c2, v2 = .slice a2 n2 c2 := ⟨_, _, _, hv2.symm⟩
  have hset := set_at (j := 0) (u := v2) hb
  have HM : Hid (Msg bm M bad r (w.setCell ⟨bm, 0, none⟩ v2)) := Lib.hid ⟨v2, hset, by
    rw [← hv2, hrl]
    refine ⟨_, cap - 1, rfl, hcp, by omega, fun hne => ?_⟩
    have hr0 : 0 < r.length := List.length_pos_iff.2 hne
    rw [if_neg (by omega)]
    refine ⟨g, o + 2, rfl, hg, fun j q hj => ?_⟩
    obtain ⟨x0, x1⟩ := hc (j + 1) q (by simpa using hj)
    have hk : ∀ (u : Value) k, k < w.heap.size → k ≠ bm → (w.setCell ⟨bm, 0, none⟩ u).heap[k]? = w.heap[k]? := fun u k hk hn => (Bz.set w bm 0 u).block k hk hn
    rw [show o + 2 + 2 * j = o + 2 * (j + 1) by omega]
    exact ⟨(World.cell?_of_block (w := w) (hk _ g (World.block_lt_of_cell? w _ x0) hg.1)).trans x0, (World.cell?_of_block (w := w) (hk _ g (World.block_lt_of_cell? w _ x1) hg.1)).trans x1⟩⟩
  rw [hv2] at hrs
  obtain ⟨a2, n2, cc2, hv3⟩ := hsh
  subst hv3
  clear hset hv2 hc hcc hcap hmax hb hrl hcp
  generalize p.take 1 = q at *
  generalize p.drop 2 = q2 at *
  generalize (p :: r).length = n at *
  go_enter Tryd.func33, Tryd.ntmps33
  go_wp2
  go_ret
  exact ⟨rfl, HM.out, Bz.set _ _ _ _⟩
set_option maxHeartbeats 400000 in
theorem nonceM_any (bm M : Nat) (bad : Bool) (ps : List (List UInt8)) (s : List UInt8) (ok : Bool) (w : World) (h : Msg bm M bad ps w) (hN : ∀ W, Calls Tryd.prog 40 #[Str s] W fun e w' => e = .returned (.bool ok) ∧ w' = W) :
    Calls Tryd.prog 34 #[.pointer (some ⟨bm, 0, none⟩), Str s] w fun e w' => e = .returned (Str s) ∧ Msg bm M (bad || !ok) ps w' ∧ Bz bm w w' := by
  have HN := Lib.hid hN; have HH := Lib.hid h
  clear hN h
  go_enter Tryd.func34, Tryd.ntmps34
  go_wp2_with fail
  refine (HN.out _).mono ?_
  rintro e W1 ⟨he, hw⟩
  subst he; subst hw
  go_wp2_with fail
  refine (fine_any bm M bad ok ps _ HH.out).mono ?_
  rintro e W2 ⟨he, hm, hz⟩
  subst he
  have HM := Lib.hid hm
  clear hm
  go_wp2_with fail
  go_ret
  exact ⟨rfl, HM.out, hz⟩
set_option maxHeartbeats 400000 in
theorem ended_any (bm M : Nat) (bad no : Bool) (w : World) (h : Msg bm M bad [] w) :
    Calls Tryd.prog 36 #[.pointer (some ⟨bm, 0, none⟩), .bool no] w fun e w' => e = .returned (.int .i64 (if bad then 4 else if no then 12 else 0)) ∧ w' = w := by
  obtain ⟨v, hb, ao, cap, hv, hcap, hmax, hcc⟩ := h
  have c0 : w.cell? ⟨bm, 0, none⟩ = some v := by simp [World.cell?, hb]
  have c1 : w.cell? ⟨bm, 1, none⟩ = some (.bool bad) := by simp [World.cell?, hb]
  subst hv
  clear hb hcc
  go_enter Tryd.func36, Tryd.ntmps36
  cases bad <;> cases no <;>
    (go_wp2
     go_ret
     exact ⟨rfl, rfl⟩)
set_option maxHeartbeats 400000 in
theorem rest_nil (bm M : Nat) (bad : Bool) (w : World) (h : Msg bm M bad [] w) :
    Calls Tryd.prog 35 #[.pointer (some ⟨bm, 0, none⟩), .int .i64 0] w fun e w' => e = .returned (.slice none 0 0) ∧ w' = w := by
  obtain ⟨v, hb, ao, cap, hv, hcap, hmax, hcc⟩ := h
  have c0 : w.cell? ⟨bm, 0, none⟩ = some v := by simp [World.cell?, hb]
  subst hv
  clear hb hcc
  go_enter Tryd.func35, Tryd.ntmps35
  go_wp2
  go_loop [5] (fun o => o = .slice none 0 0) (fun _ => 0)
  case atStart => rfl
  case round =>
    subst hrel
    go_wp2
    go_ret
    exact ⟨rfl, rfl⟩
set_option maxHeartbeats 400000 in
theorem denied_nil (w : World) :
    Calls Tryd.prog 37 #[.slice none 0 0] w fun e w' => e = .returned (.bool false) ∧ w' = w := by
  go_enter Tryd.func37, Tryd.ntmps37
  go_wp2
  go_loop [7] (fun i => i = .int .i64 0) (fun _ => 0)
  case atStart => rfl
  case round =>
    subst hrel
    go_wp2
    go_ret
    exact ⟨rfl, rfl⟩
end Go.Proofs.YtjkbigecejogdaaDoor
