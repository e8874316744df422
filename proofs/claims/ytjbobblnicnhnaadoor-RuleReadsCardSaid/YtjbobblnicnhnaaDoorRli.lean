/-
  (*rule.Policy).Rules' iterator; (Rule).Holds.
-/
import Derived.BigGuardPart
import Derived.Test.YtjbobblnicnhnaaDoorRows
import Derived.Test.YtjbobblnicnhnaaDoorPol
import Derived.Test.YtjbobblnicnhnaaDoorMat
import Derived.Test.YtjbobblnicnhnaaDoorKit
import Derived.Shelf.Abstract
namespace Go.Proofs.YtjbobblnicnhnaaDoor
open Go.RowKit Go.Shelf
set_option maxRecDepth 100000
attribute [local go_sem] Oper.semAt_some
set_option linter.unusedVariables false
set_option linter.unusedSimpArgs false

theorem elemRule : Tryd.prog.elem 35 = 28 := by kernel_rfl
theorem index_rule (g o n cap j : Nat) (hn : j < n) (W : World) : (Instr.indexAt 35 (.slice (some ⟨g, o, none⟩) n cap) (.int .i64 (j : Int))).run Tryd.prog W = .ok (.pointer (some ⟨g, o + 6 * j, none⟩)) W := by
  rw [run_indexAt_slice (h := by rw [elemRule]; exact Tryd.underlying35), if_pos (by omega), elemRule]
  simp [Tryd.sizeOf28, Result.andThen, Addr.add, Nat.mul_comm]
def ruD : Ru := ⟨false, [], [], [], 0, 0⟩
theorem rowU_cells {W : World} {v : Value} {rs : List Ru} (h : RowU W v rs) (hne : rs ≠ []) : ∃ g o cap, v = .slice (some ⟨g, o, none⟩) rs.length cap ∧ rs.length ≤ cap ∧ cap ≤ maxLen ∧
    ∀ j, j < rs.length → W.cell? ⟨g, o + 6 * j, none⟩ = some (.bool (rs.getD j ruD).al) ∧ W.cell? ⟨g, o + 6 * j + 1, none⟩ = some (Str (rs.getD j ruD).ro) ∧ W.cell? ⟨g, o + 6 * j + 2, none⟩ = some (Str (rs.getD j ruD).te) ∧ W.cell? ⟨g, o + 6 * j + 3, none⟩ = some (Str (rs.getD j ruD).ho) ∧
      W.cell? ⟨g, o + 6 * j + 4, none⟩ = some (.int .i64 (rs.getD j ruD).fr) ∧ W.cell? ⟨g, o + 6 * j + 5, none⟩ = some (.int .i64 (rs.getD j ruD).to) := by
  obtain ⟨ao, cap, hv, _, h1, h2, h3⟩ := h
  obtain ⟨g, o, ha, hc⟩ := h3 hne
  subst ha
  refine ⟨g, o, cap, hv, h1, h2, fun j hj => ?_⟩
  have hx : rs[j]? = some (rs.getD j ruD) := by simp [List.getD, hj]
  have hh := hc j _ hx
  refine ⟨?_, ?_, ?_, ?_, ?_, ?_⟩
  · have := hh 0 _ rfl; rwa [Nat.add_zero] at this
  · have := hh 1 _ rfl; rwa [← Nat.add_assoc] at this
  · have := hh 2 _ rfl; rwa [← Nat.add_assoc] at this
  · have := hh 3 _ rfl; rwa [← Nat.add_assoc] at this
  · have := hh 4 _ rfl; rwa [← Nat.add_assoc] at this
  · have := hh 5 _ rfl; rwa [← Nat.add_assoc] at this
theorem rules_any (po : Option Addr) (w : World) :
    Calls Tryd.prog 47 #[.pointer po] w fun e w' => e = .returned (.func (.func 67) #[] #[.pointer (some ⟨w.heap.size, 0, none⟩)]) ∧ w' = w.alloc (.cells #[.pointer po] 37) := by
  go_enter Tryd.func47, Tryd.ntmps47
  go_wp2
  go_ret
  exact ⟨rfl, rfl⟩
set_option maxHeartbeats 1000000 in
theorem rules_nil (bx : Nat) (w0 : World) (hbx : w0.heap[bx]? = some (.cells #[.pointer none] 37 (0, 0))) :
    Iter Tryd.prog 67 #[.pointer (some ⟨bx, 0, none⟩)] 0 (fun i => #[.int .i64 (i : Int), ruV ruD]) (fun k => k = bx) (fun k => False) w0 := by
  intro n lp J Jx W hW hsz hJ hJx hY h0
  have c0 := cell_of ((hW bx rfl).trans hbx)
  refine callsIn_of_wp Tryd.func67 rfl trivial ?_ rfl
  simp only [Tryd.ntmps67, List.size_toArray, List.length_cons, List.length_nil, Nat.reduceAdd, Nat.reduceSub, Array.replicate_succ, Array.replicate_zero, List.push_toArray, List.append_toArray, List.nil_append, List.cons_append]
  gi_wp2
  refine bodyPost_ret (results_none rfl _ _ _) rfl ?_
  exact ⟨⟨_, rfl⟩, by first | exact Or.inl h0 | exact h0⟩
set_option maxHeartbeats 2000000 in
theorem rules_iter (rs : List Ru) (hl : rs.length ≤ 100000) (b bx : Nat) (v : Value) (w0 : World) (hbx : w0.heap[bx]? = some (.cells #[.pointer (some ⟨b, 0, none⟩)] 37 (0, 0)))
    (hb : w0.heap[b]? = some (.cells #[v] 75 (0, 0))) (hr : RowU w0 v rs) :
    Iter Tryd.prog 67 #[.pointer (some ⟨bx, 0, none⟩)] rs.length (fun i => #[.int .i64 (i : Int), ruV (rs.getD i ruD)]) (fun k => k = bx ∨ k = b ∨ rblk v rs.length k) (fun k => False) w0 := by
  intro n lp J Jx W hW hsz hJ hJx hY h0
  have hbxW := (hW bx (.inl rfl)).trans hbx
  have hbW := (hW b (.inr (.inl rfl))).trans hb
  have hrW : RowU W v rs := hr.keep fun k hk => hW k (.inr (.inr hk))
  have cx := cell_of hbxW; have cb := cell_of hbW
  have HB := Lib.hid hbW; have HR := Lib.hid hrW
  clear hbx hb hr hbxW hbW hrW hW
  refine callsIn_of_wp Tryd.func67 rfl trivial ?_ rfl
  simp only [Tryd.ntmps67, List.size_toArray, List.length_cons, List.length_nil, Nat.reduceAdd, Nat.reduceSub, Array.replicate_succ, Array.replicate_zero, List.push_toArray, List.append_toArray, List.nil_append, List.cons_append]
  by_cases hne : rs = []
  · subst hne
    obtain ⟨ao, cap, hv, _⟩ := HR.out
    subst hv
    gi_wp2
    gi_loopw [12] (fun i wr => i = .int .i64 0 ∧ wr = W) (fun _ _ => 0)
    case atStart => exact ⟨rfl, rfl⟩
    case round =>
      obtain ⟨rfl, rfl⟩ := hrel
      gi_wp2
      refine bodyPost_end (results_none rfl _ _ _) rfl ?_
      exact ⟨⟨_, rfl⟩, by first | exact Or.inl h0 | exact h0⟩
  · obtain ⟨g, o, cap, hv, hcap, hmax, hcells⟩ := rowU_cells HR.out hne
    have hne2 := List.length_pos_iff.2 hne
    have HV := Lib.hid hv
    have hix := index_rule g o rs.length cap
    rw [hv] at cb
    clear hv hne
    gi_wp2
    gi_loopw [12] (fun iv wr => ∃ i : Nat, i ≤ rs.length ∧ iv = .int .i64 (i : Int) ∧ RowU wr v rs ∧ J i wr) (fun iv _ => rs.length - (intOf iv).toNat)
    case atStart => exact ⟨0, by omega, rfl, HR.out, h0⟩
    case round =>
      obtain ⟨i, hi, rfl, hro, hJr⟩ := hrel
      by_cases hlt : i < rs.length
      · obtain ⟨g', o', cap', hv', _, _, hcl⟩ := rowU_cells hro (List.length_pos_iff.1 hne2)
        have hgo : g' = g ∧ o' = o := by
          have := hv'.symm.trans HV.out
          injection this with e1 _ _
          injection e1 with e1
          injection e1 with e1 e2
          exact ⟨e1, e2⟩
        obtain ⟨rfl, rfl⟩ := hgo
        have hix1 := hix i hlt
        obtain ⟨k0, k1, k2, k3, k4, k5⟩ := hcl i hlt
        have hY' := fun W3 hJ3 => hY (n - 1) i W3 hlt hJ3
        generalize rs.getD i ruD = r at *
        generalize o' + 6 * i = q at *
        obtain ⟨W3, hW3⟩ : ∃ W3, wr.alloc (.cells #[.bool r.al, Str r.ro, Str r.te, Str r.ho, .int .i64 r.fr, .int .i64 r.to] 28) = W3 := ⟨_, rfl⟩
        have hx3 : Ext wr W3 := by rw [← hW3]; exact Below.alloc (Below.refl _ _) (Nat.le_refl _) _
        have hJ3 := hJ i wr _ hJr (Chg.of_ext _ hx3)
        have hro3 := hro.ext hx3
        obtain ⟨fn, tmps, assign, body, hy, hR⟩ := hY' _ hJ3
        rw [← hW3] at hy hR hro3
        have HRO := Lib.hid hro3
        clear hY' hro hro3 hv' hcl hix hW3 hx3
        gi_wp2
        refine ⟨fun h => by simp [Fence.wide] at h, hR.mono ?_⟩
        rintro e W4 (⟨rfl, hJ5, hs5, hk5⟩ | ⟨rfl, hJ5⟩)
        · have hro5 : RowU W4 v rs := HRO.out.keep fun k hk => hk5 k (.inr (.inr hk))
          have HR5 := Lib.hid hro5
          clear hk5 hro5 hR
          gi_wp2
          go_roundw
          case rel => exact ⟨i + 1, by omega, by go_num, HR5.out, hJ5⟩
          case measure => simp [intOf]; omega
        · gi_wp2
          refine bodyPost_ret (results_none rfl _ _ _) rfl ?_
          exact ⟨⟨_, rfl⟩, .inr ⟨i, hlt, hJ5⟩⟩
      · have : i = rs.length := by omega
        subst this
        gi_wp2
        refine bodyPost_end (results_none rfl _ _ _) rfl ?_
        exact ⟨⟨_, rfl⟩, .inl hJr⟩
theorem ruC_ne (r : Ru) : ruC r ≠ [] := by simp [ruC]
/-- A policy, or none. -/
def PolV (W : World) (po : Option Addr) (rs : List Ru) : Prop := (po = none ∧ rs = []) ∨ ∃ b, po = some ⟨b, 0, none⟩ ∧ PolAt W b rs
theorem PolV.ext {W C : World} {po : Option Addr} {rs : List Ru} (h : PolV W po rs) (he : Ext W C) : PolV C po rs := by
  rcases h with h | ⟨b, h1, h2⟩
  · exact .inl h
  · exact .inr ⟨b, h1, h2.ext he⟩
/-- The iterator, of a policy or of none. -/
theorem rulesV_iter (po : Option Addr) (rs : List Ru) (hl : rs.length ≤ 100000) (bx : Nat) (w w0 : World) (he : Ext w w0) (hp : PolV w po rs) (hbx : w0.heap[bx]? = some (.cells #[.pointer po] 37 (0, 0))) :
    ∃ own : Nat → Prop, (∀ k, own k → k = bx ∨ k < w.heap.size) ∧ Iter Tryd.prog 67 #[.pointer (some ⟨bx, 0, none⟩)] rs.length (fun i => #[.int .i64 (i : Int), ruV (rs.getD i ruD)]) own (fun k => False) w0 := by
  rcases hp with ⟨rfl, rfl⟩ | ⟨b, rfl, v, hb, hr⟩
  · exact ⟨_, fun k hk => .inl hk, rules_nil bx w0 hbx⟩
  · have hlt := (Array.getElem?_eq_some_iff.1 hb).1
    refine ⟨_, fun k hk => ?_, rules_iter rs hl b bx v w0 hbx ((he.block _ hlt).trans hb) (hr.ext he)⟩
    rcases hk with hk | hk | hk
    · exact .inl hk
    · exact .inr (by omega)
    · exact .inr (rowC_lt hr ruC_ne hk)
end Go.Proofs.YtjbobblnicnhnaaDoor
