/-
  scram.Attributes' iterator: the attributes of a text.
-/
import Derived.Shelf.RegionOpen
import Derived.Test.YtjkbigecejogdaaDoorRows
import Derived.Test.YtjkbigecejogdaaDoorSca
import Derived.Test.YtjkbigecejogdaaDoorKit
namespace Go.Proofs.YtjkbigecejogdaaDoor
open Go.RowKit Go.Shelf
set_option maxRecDepth 100000
attribute [local go_sem] Oper.semAt_some
set_option linter.unusedVariables false
set_option linter.unusedSimpArgs false

def isAt (p : List UInt8) : Bool := decide (2 ≤ p.length) && (bt p 1 == 61)
/-- The pieces that are attributes, up to the first that is none. -/
def attsP (l : List UInt8) : List (List UInt8) := (spl l).takeWhile isAt
theorem tw_le {α : Type} (f : α → Bool) : ∀ ps : List α, (ps.takeWhile f).length ≤ ps.length
  | [] => by simp
  | p :: ps => by have := tw_le f ps; simp [List.takeWhile]; split <;> simp <;> omega
theorem tw_step (f : List UInt8 → Bool) : ∀ (ps : List (List UInt8)) (i : Nat), i ≤ (ps.takeWhile f).length → i < ps.length →
    (f (ps.getD i []) = true → i < (ps.takeWhile f).length ∧ (ps.takeWhile f).getD i [] = ps.getD i []) ∧ (f (ps.getD i []) = false → (ps.takeWhile f).length = i)
  | [], i, _, h => by simp at h
  | p :: ps, 0, _, _ => by
    cases hp : f p <;> simp [List.takeWhile, hp]
  | p :: ps, i + 1, h1, h2 => by
    cases hp : f p with
    | false => simp [List.takeWhile, hp] at h1
    | true =>
      simp [List.takeWhile, hp] at h1
      obtain ⟨a, b⟩ := tw_step f ps i h1 (by simpa using h2)
      simp [List.takeWhile, hp] at a b ⊢
      exact ⟨a, b⟩

theorem pieces_any (l : List UInt8) (w : World) :
    Calls Tryd.prog 52 #[Str l] w fun e w' => e = .returned (.func (.func 62) #[] #[.pointer (some ⟨w.heap.size, 0, none⟩)]) ∧ w' = w.alloc (.cells #[Str l] 9) := by
  go_enter Tryd.func52, Tryd.ntmps52
  go_wp2
  go_ret
  exact ⟨rfl, rfl⟩
theorem attributes_any (l : List UInt8) (w : World) :
    Calls Tryd.prog 51 #[Str l] w fun e w' => e = .returned (.func (.func 61) #[] #[.pointer (some ⟨w.heap.size, 0, none⟩)]) ∧ w' = w.alloc (.cells #[Str l] 9) := by
  go_enter Tryd.func51, Tryd.ntmps51
  go_wp2
  go_ret
  exact ⟨rfl, rfl⟩

set_option maxHeartbeats 2000000 in
theorem attributes_iter (l : List UInt8) (hl : l.length ≤ 100000) (bs : Nat) (w0 : World) (hbs : w0.heap[bs]? = some (.cells #[Str l] 9 (0, 0))) (hM : MaxAt w0) :
    Iter2 Tryd.prog 61 #[.pointer (some ⟨bs, 0, none⟩)] (attsP l).length (fun i => #[Str (((attsP l).getD i []).take 1), Str (((attsP l).getD i []).drop 2)]) 4 (fun k => k = bs ∨ k = 0)
      (fun sz k => k = bs ∨ k = 0 ∨ (sz ≤ k ∧ k < sz + 4)) (fun sz k => sz ≤ k ∧ k < sz + 4) w0 := by
  intro n lp J Jx W hW hsz hJ hJx hY h0
  have hb := (hW bs (.inl rfl)).trans hbs
  have hM1 : MaxAt W := hM.keep (hW _ (.inr rfl))
  have hbsl := (Array.getElem?_eq_some_iff.1 hb).1
  have hMl := hM1.lt
  clear hW hbs hM
  refine callsIn_of_wp_marks Tryd.func61 rfl trivial ?_ rfl
  simp only [Tryd.ntmps61, List.size_toArray, List.length_cons, List.length_nil, Nat.reduceAdd, Nat.reduceSub, Array.replicate_succ, Array.replicate_zero, List.push_toArray, List.append_toArray, List.nil_append, List.cons_append]
  have c0 := cell_of hb
  gi_wp2
  refine ⟨trivial, fun h => by simp [Fence.wide] at h, (callsIn_wide.2 (pieces_any l _)).mono ?_⟩
  rintro e w' ⟨rfl, rfl⟩
  gi_wp2
  obtain ⟨W0, hW0⟩ : ∃ W0, (W.alloc (.cells #[.func (.yield lp) #[] #[]] 95)).alloc (.cells #[Str l] 9) = W0 := ⟨_, rfl⟩
  have hW0' : W0 = allocs W [.cells #[.func (.yield lp) #[] #[]] 95, .cells #[Str l] 9] := hW0.symm
  have b0 : W0.heap[W.heap.size]? = some (.cells #[.func (.yield lp) #[] #[]] 95 (0, 0)) := by rw [hW0']; exact allocs_at W _ 0 _ rfl
  have b1 : W0.heap[W.heap.size + 1]? = some (.cells #[Str l] 9 (0, 0)) := by rw [hW0']; exact allocs_at W _ 1 _ rfl
  have hext0 : Ext W W0 := by rw [hW0']; exact allocs_ext _ _
  have hsz0 : W0.heap.size = W.heap.size + 2 := by rw [hW0']; exact allocs_size _ _
  rw [hW0]
  clear hW0 hW0'
  have hit := pieces_iter l hl (W.heap.size + 1) W0 b1 (hM1.ext hext0) (by omega)
  have hTW := Lib.hid (fun i => tw_step isAt (spl l) i)
  have hTL := tw_le isAt (spl l)
  have hpl := Lib.hid (fun p hp => spl_part l p hp)
  rw [show (spl l).takeWhile isAt = attsP l from rfl] at hTW hTL
  generalize hA : attsP l = A at *
  generalize hS : spl l = S at *
  have HA := Lib.hid hA
  clear hA hS
  refine wpIn_range3 (P := Tryd.prog) rfl (enters_of Tryd.func62 (by kernel_rfl) rfl) hit (fun k h => by omega) (fun k h => by omega) (fun _ => rfl)
    (fun i W' => i ≤ A.length ∧ J i W' ∧ W'.heap[W.heap.size]? = some (.cells #[.func (.yield lp) #[] #[]] 95 (0, 0)))
    (fun c i W' => c = .ret ∧ ((i = A.length ∧ J A.length W') ∨ (i < A.length ∧ Jx i W'))) ?_ ?_
    ⟨by omega, hJ 0 W W0 h0 (Chg.of_ext _ hext0), b0⟩ ?_ ?_ ?_
  · rintro i A' C ⟨hi, hj, hx⟩ hc
    exact ⟨hi, hJ i A' C hj (hc.mono fun k h => by omega), (hc.block _ (Array.getElem?_eq_some_iff.1 hx).1 (by omega)).trans hx⟩
  · rintro c i A' C ⟨hc0, h⟩ hc
    refine ⟨hc0, ?_⟩
    rcases h with ⟨h1, h2⟩ | ⟨h1, h2⟩
    · exact .inl ⟨h1, hJ _ A' C h2 (hc.mono fun k h => by omega)⟩
    · exact .inr ⟨h1, hJx _ A' C h2 (hc.mono fun k h => by omega)⟩
  · rintro m i Wr hi ⟨hiA, hj, hbx⟩ hs4 hrec
    obtain ⟨t1, t2⟩ := hTW.out i hiA hi
    have hpm : S.getD i [] ∈ S := by rw [List.getD_eq_getElem?_getD, List.getElem?_eq_getElem hi]; exact List.getElem_mem _
    have hplen := hpl.out _ hpm
    have T1 := Lib.hid t1; have T2 := Lib.hid t2
    clear hpm t1 t2
    generalize S.getD i [] = p at *
    gi_wp2
    refine ⟨Kc.refl _ _ _, fun W2 hc2 hrec2 => ?_⟩
    replace hj := hJ i _ _ hj (hc2.mono fun k h => by omega)
    replace hbx := (hc2.block _ (Array.getElem?_eq_some_iff.1 hbx).1 (by omega)).trans hbx
    replace hs4 := Nat.le_trans hs4 hc2.size
    clear hc2 hrec hrec2
    have hY' := fun h => hY m i W2 h hj (by omega)
    have hcb := cell_of hbx
    have hmx : Tryd.prog.follows .mixedOrders = true := by kernel_rfl
    have hj1 := hJ i W2 W2.drew hj (Chg.drewN _ W2 1)
    have HY := Lib.hid (fun h => hY (m - 1) i W2.drew h hj1 (by show _ ≤ W2.heap.size; omega))
    clear hY'
    cases hat : isAt p with
    | false =>
      have HN := Lib.hid (T2.out hat)
      have HJ := Lib.hid hj1; have HX := Lib.hid hbx; have HHj := Lib.hid hj
      clear T1 T2 hj hj1 hbx HY
      by_cases hl2 : p.length < 2
      · have hq : decide ((p.length : Int) < 2) = true := by simp; omega
        clear hat
        gi_wp2
        refine wpIn_region_unround (r := some (W0.heap.size + 1)) hmx (by kernel_rfl) ?_
        refine wpAnyIn_ready (rs := [0]) (by kernel_rfl) (by simp) ?_
        refine AllReadyIn.cons rfl (fun K hK => ?_) AllReadyIn.nil
        go_simp
        first
          | (refine hK _ _ ?_; clear hK K)
          | (refine ⟨fun _ _ => trivial, hK _ _ ?_⟩; clear hK K)
        refine wpAnyIn_ready (rs := [1]) (by kernel_rfl) (by simp) ?_
        refine AllReadyIn.cons rfl (fun K hK => ?_) AllReadyIn.nil
        go_simp
        first
          | (refine hK _ _ ?_; clear hK K)
          | (refine ⟨fun _ _ => trivial, hK _ _ ?_⟩; clear hK K)
        refine wpAnyIn_ready (rs := [2]) (by kernel_rfl) (by simp) ?_
        refine AllReadyIn.cons rfl (fun K hK => ?_) AllReadyIn.nil
        go_simp
        first
          | (refine hK _ _ ?_; clear hK K)
          | (refine ⟨fun _ _ => trivial, hK _ _ ?_⟩; clear hK K)
        refine wpAnyIn_ready (rs := [3]) (by kernel_rfl) (by simp) ?_
        refine AllReadyIn.cons rfl (fun K hK => ?_) AllReadyIn.nil
        go_simp
        first
          | (refine hK _ _ ?_; clear hK K)
          | (refine ⟨fun _ _ => trivial, hK _ _ ?_⟩; clear hK K)
        refine wpAnyIn_ready (rs := [4]) (by kernel_rfl) (by simp) ?_
        refine AllReadyIn.cons rfl (fun K hK => ?_) AllReadyIn.nil
        go_simp
        first
          | (refine hK _ _ ?_; clear hK K)
          | (refine ⟨fun _ _ => trivial, hK _ _ ?_⟩; clear hK K)
        refine wpAnyIn_ready (rs := [5]) (by kernel_rfl) (by simp) ?_
        refine AllReadyIn.cons rfl (fun K hK => ?_) AllReadyIn.nil
        go_simp
        first
          | (refine hK _ _ ?_; clear hK K)
          | (refine ⟨fun _ _ => trivial, hK _ _ ?_⟩; clear hK K)
        refine wpAnyIn_ready (rs := [6]) (by kernel_rfl) (by simp) ?_
        refine AllReadyIn.cons rfl (fun K hK => ?_) AllReadyIn.nil
        go_simp
        first
          | (refine hK _ _ ?_; clear hK K)
          | (refine ⟨fun _ _ => trivial, hK _ _ ?_⟩; clear hK K)
        refine wpAnyIn_ready (rs := [7]) (by kernel_rfl) (by simp) ?_
        refine AllReadyIn.cons rfl (fun K hK => ?_) AllReadyIn.nil
        go_simp
        first
          | (refine hK _ _ ?_; clear hK K)
          | (refine ⟨fun _ _ => trivial, hK _ _ ?_⟩; clear hK K)
        refine wpAnyIn_ready (rs := [8]) (by kernel_rfl) (by simp) ?_
        refine AllReadyIn.cons rfl (fun K hK => ?_) AllReadyIn.nil
        go_simp
        first
          | (refine hK _ _ ?_; clear hK K)
          | (refine ⟨fun _ _ => trivial, hK _ _ ?_⟩; clear hK K)
        refine wpAnyIn_take (i := 9) (v := undef) rfl rfl (by kernel_rfl) (by kernel_rfl) (by kernel_rfl) (fun _ _ _ h => h) ⟨Or.inr ⟨by rfl, rfl⟩, fun _ => rfl⟩ ?_
        refine wpAnyIn_take (i := 10) (v := undef) rfl rfl (by kernel_rfl) (by kernel_rfl) (by kernel_rfl) (fun _ _ _ h => h) ⟨Or.inr ⟨by rfl, rfl⟩, fun _ => rfl⟩ ?_
        refine wpAnyIn_take (i := 11) (v := undef) rfl rfl (by kernel_rfl) (by kernel_rfl) (by kernel_rfl) (fun _ _ _ h => h) ⟨Or.inr ⟨by rfl, rfl⟩, fun _ => rfl⟩ ?_
        refine wpAnyIn_take (i := 12) (v := undef) rfl rfl (by kernel_rfl) (by kernel_rfl) (by kernel_rfl) (fun _ _ _ h => h) ⟨Or.inr ⟨by rfl, rfl⟩, fun _ => rfl⟩ ?_
        refine wpAnyIn_take (i := 13) (v := undef) rfl rfl (by kernel_rfl) (by kernel_rfl) (by kernel_rfl) (fun _ _ _ h => h) ⟨Or.inr ⟨by rfl, rfl⟩, fun _ => rfl⟩ ?_
        refine wpAnyIn_ready (rs := [14]) (by kernel_rfl) (by simp) ?_
        refine AllReadyIn.cons rfl (fun K hK => ?_) AllReadyIn.nil
        go_simp
        first
          | (refine hK _ _ ?_; clear hK K)
          | (refine ⟨fun _ _ => trivial, hK _ _ ?_⟩; clear hK K)
        refine wpAnyIn_ready (rs := [15]) (by kernel_rfl) (by simp) ?_
        refine AllReadyIn.cons rfl (fun K hK => ?_) AllReadyIn.nil
        go_simp
        first
          | (refine hK _ _ ?_; clear hK K)
          | (refine ⟨fun _ _ => trivial, hK _ _ ?_⟩; clear hK K)
        refine wpAnyIn_ready (rs := [16]) (by kernel_rfl) (by simp) ?_
        refine AllReadyIn.cons rfl (fun K hK => ?_) AllReadyIn.nil
        go_simp
        first
          | (refine hK _ _ ?_; clear hK K)
          | (refine ⟨fun _ _ => trivial, hK _ _ ?_⟩; clear hK K)
        refine wpAnyIn_done (by kernel_rfl) ?_ _
        gi_wp2
        exact ⟨⟨Nat.le_refl _, fun _ _ => rfl⟩, rfl, .inl ⟨HN.out.symm, by rw [HN.out]; exact HJ.out⟩⟩
      · have hq : decide ((p.length : Int) < 2) = false := by simp; omega
        have hix1 : ∀ W, (Instr.index 9 (Str p) (.int .i64 1)).run Tryd.prog W = .ok (Byt (bt p 1)) W := fun W => run_index_str Tryd.underlying9 p 1 _ rfl (by omega) W
        have hb : (bt p 1 == 61) = false := by rw [isAt, decide_eq_true (show 2 ≤ p.length by omega), Bool.true_and] at hat; exact hat
        have hne : bt p 1 ≠ 61 := by simpa using hb
        have hn : (((bt p 1).toNat : Int) != 61) = true := by
          rw [bne_iff_ne]; intro e; exact hne (UInt8.toNat_inj.1 (by rw [show (61 : UInt8).toNat = 61 from rfl]; omega))
        clear hat hb hne
        generalize bt p 1 = c at *
        gi_wp2
        refine wpIn_region_unround (r := some (W0.heap.size + 1)) hmx (by kernel_rfl) ?_
        refine wpAnyIn_ready (rs := [0]) (by kernel_rfl) (by simp) ?_
        refine AllReadyIn.cons rfl (fun K hK => ?_) AllReadyIn.nil
        go_simp
        first
          | (refine hK _ _ ?_; clear hK K)
          | (refine ⟨fun _ _ => trivial, hK _ _ ?_⟩; clear hK K)
        refine wpAnyIn_ready (rs := [1]) (by kernel_rfl) (by simp) ?_
        refine AllReadyIn.cons rfl (fun K hK => ?_) AllReadyIn.nil
        go_simp
        first
          | (refine hK _ _ ?_; clear hK K)
          | (refine ⟨fun _ _ => trivial, hK _ _ ?_⟩; clear hK K)
        refine wpAnyIn_ready (rs := [2]) (by kernel_rfl) (by simp) ?_
        refine AllReadyIn.cons rfl (fun K hK => ?_) AllReadyIn.nil
        go_simp
        first
          | (refine hK _ _ ?_; clear hK K)
          | (refine ⟨fun _ _ => trivial, hK _ _ ?_⟩; clear hK K)
        refine wpAnyIn_ready (rs := [3]) (by kernel_rfl) (by simp) ?_
        refine AllReadyIn.cons rfl (fun K hK => ?_) AllReadyIn.nil
        go_simp
        first
          | (refine hK _ _ ?_; clear hK K)
          | (refine ⟨fun _ _ => trivial, hK _ _ ?_⟩; clear hK K)
        refine wpAnyIn_ready (rs := [4]) (by kernel_rfl) (by simp) ?_
        refine AllReadyIn.cons rfl (fun K hK => ?_) AllReadyIn.nil
        go_simp
        first
          | (refine hK _ _ ?_; clear hK K)
          | (refine ⟨fun _ _ => trivial, hK _ _ ?_⟩; clear hK K)
        refine wpAnyIn_ready (rs := [5]) (by kernel_rfl) (by simp) ?_
        refine AllReadyIn.cons rfl (fun K hK => ?_) AllReadyIn.nil
        go_simp
        first
          | (refine hK _ _ ?_; clear hK K)
          | (refine ⟨fun _ _ => trivial, hK _ _ ?_⟩; clear hK K)
        refine wpAnyIn_ready (rs := [6]) (by kernel_rfl) (by simp) ?_
        refine AllReadyIn.cons rfl (fun K hK => ?_) AllReadyIn.nil
        go_simp
        first
          | (refine hK _ _ ?_; clear hK K)
          | (refine ⟨fun _ _ => trivial, hK _ _ ?_⟩; clear hK K)
        refine wpAnyIn_ready (rs := [7]) (by kernel_rfl) (by simp) ?_
        refine AllReadyIn.cons rfl (fun K hK => ?_) AllReadyIn.nil
        go_simp
        first
          | (refine hK _ _ ?_; clear hK K)
          | (refine ⟨fun _ _ => trivial, hK _ _ ?_⟩; clear hK K)
        refine wpAnyIn_ready (rs := [8]) (by kernel_rfl) (by simp) ?_
        refine AllReadyIn.cons rfl (fun K hK => ?_) AllReadyIn.nil
        go_simp
        first
          | (refine hK _ _ ?_; clear hK K)
          | (refine ⟨fun _ _ => trivial, hK _ _ ?_⟩; clear hK K)
        refine wpAnyIn_take (i := 9) (v := undef) rfl rfl (by kernel_rfl) (by kernel_rfl) (by kernel_rfl) (fun _ _ _ h => h) ⟨Or.inr ⟨by rfl, rfl⟩, fun _ => rfl⟩ ?_
        refine wpAnyIn_take (i := 10) (v := undef) rfl rfl (by kernel_rfl) (by kernel_rfl) (by kernel_rfl) (fun _ _ _ h => h) ⟨Or.inr ⟨by rfl, rfl⟩, fun _ => rfl⟩ ?_
        refine wpAnyIn_take (i := 11) (v := undef) rfl rfl (by kernel_rfl) (by kernel_rfl) (by kernel_rfl) (fun _ _ _ h => h) ⟨Or.inr ⟨by rfl, rfl⟩, fun _ => rfl⟩ ?_
        refine wpAnyIn_take (i := 12) (v := undef) rfl rfl (by kernel_rfl) (by kernel_rfl) (by kernel_rfl) (fun _ _ _ h => h) ⟨Or.inr ⟨by rfl, rfl⟩, fun _ => rfl⟩ ?_
        refine wpAnyIn_take (i := 13) (v := undef) rfl rfl (by kernel_rfl) (by kernel_rfl) (by kernel_rfl) (fun _ _ _ h => h) ⟨Or.inr ⟨by rfl, rfl⟩, fun _ => rfl⟩ ?_
        refine wpAnyIn_ready (rs := [14]) (by kernel_rfl) (by simp) ?_
        refine AllReadyIn.cons rfl (fun K hK => ?_) AllReadyIn.nil
        go_simp
        first
          | (refine hK _ _ ?_; clear hK K)
          | (refine ⟨fun _ _ => trivial, hK _ _ ?_⟩; clear hK K)
        refine wpAnyIn_ready (rs := [15]) (by kernel_rfl) (by simp) ?_
        refine AllReadyIn.cons rfl (fun K hK => ?_) AllReadyIn.nil
        go_simp
        first
          | (refine hK _ _ ?_; clear hK K)
          | (refine ⟨fun _ _ => trivial, hK _ _ ?_⟩; clear hK K)
        refine wpAnyIn_ready (rs := [16]) (by kernel_rfl) (by simp) ?_
        refine AllReadyIn.cons rfl (fun K hK => ?_) AllReadyIn.nil
        go_simp
        first
          | (refine hK _ _ ?_; clear hK K)
          | (refine ⟨fun _ _ => trivial, hK _ _ ?_⟩; clear hK K)
        refine wpAnyIn_done (by kernel_rfl) ?_ _
        gi_wp2
        exact ⟨⟨Nat.le_refl _, fun _ _ => rfl⟩, rfl, .inl ⟨HN.out.symm, by rw [HN.out]; exact HJ.out⟩⟩
    | true =>
      obtain ⟨hlt, hget⟩ := T1.out hat
      have hl2 : 2 ≤ p.length ∧ (bt p 1 == 61) = true := by simpa [isAt] using hat
      have hq : decide ((p.length : Int) < 2) = false := by simp; omega
      have hix1 : ∀ W, (Instr.index 9 (Str p) (.int .i64 1)).run Tryd.prog W = .ok (Byt (bt p 1)) W := fun W => run_index_str Tryd.underlying9 p 1 _ rfl (by omega) W
      have h61 : bt p 1 = 61 := by simpa using hl2.2
      rw [h61] at hix1
      have hle1 : 1 ≤ p.length := by omega
      have hi1 : (1 : Int) ≤ (p.length : Int) := by omega
      have hi2 : (2 : Int) ≤ (p.length : Int) := by omega
      have hle2 : 2 ≤ p.length := hl2.1
      obtain ⟨fn, tmps, assign, body, hy, hR⟩ := HY.out hlt
      rw [hget] at hy
      have HX := Lib.hid hbx
      clear T1 T2 hj hj1 HY hat hl2 h61 hget hbx
      gi_wp2
      refine wpIn_region_unround (r := some (W0.heap.size + 1)) hmx (by kernel_rfl) ?_
      refine wpAnyIn_ready (rs := [0]) (by kernel_rfl) (by simp) ?_
      refine AllReadyIn.cons rfl (fun K hK => ?_) AllReadyIn.nil
      go_simp
      first
        | (refine hK _ _ ?_; clear hK K)
        | (refine ⟨fun _ _ => trivial, hK _ _ ?_⟩; clear hK K)
      refine wpAnyIn_ready (rs := [1]) (by kernel_rfl) (by simp) ?_
      refine AllReadyIn.cons rfl (fun K hK => ?_) AllReadyIn.nil
      go_simp
      first
        | (refine hK _ _ ?_; clear hK K)
        | (refine ⟨fun _ _ => trivial, hK _ _ ?_⟩; clear hK K)
      refine wpAnyIn_ready (rs := [2]) (by kernel_rfl) (by simp) ?_
      refine AllReadyIn.cons rfl (fun K hK => ?_) AllReadyIn.nil
      go_simp
      first
        | (refine hK _ _ ?_; clear hK K)
        | (refine ⟨fun _ _ => trivial, hK _ _ ?_⟩; clear hK K)
      refine wpAnyIn_ready (rs := [3]) (by kernel_rfl) (by simp) ?_
      refine AllReadyIn.cons rfl (fun K hK => ?_) AllReadyIn.nil
      go_simp
      first
        | (refine hK _ _ ?_; clear hK K)
        | (refine ⟨fun _ _ => trivial, hK _ _ ?_⟩; clear hK K)
      refine wpAnyIn_ready (rs := [4]) (by kernel_rfl) (by simp) ?_
      refine AllReadyIn.cons rfl (fun K hK => ?_) AllReadyIn.nil
      go_simp
      first
        | (refine hK _ _ ?_; clear hK K)
        | (refine ⟨fun _ _ => trivial, hK _ _ ?_⟩; clear hK K)
      refine wpAnyIn_ready (rs := [5]) (by kernel_rfl) (by simp) ?_
      refine AllReadyIn.cons rfl (fun K hK => ?_) AllReadyIn.nil
      go_simp
      first
        | (refine hK _ _ ?_; clear hK K)
        | (refine ⟨fun _ _ => trivial, hK _ _ ?_⟩; clear hK K)
      refine wpAnyIn_ready (rs := [6]) (by kernel_rfl) (by simp) ?_
      refine AllReadyIn.cons rfl (fun K hK => ?_) AllReadyIn.nil
      go_simp
      first
        | (refine hK _ _ ?_; clear hK K)
        | (refine ⟨fun _ _ => trivial, hK _ _ ?_⟩; clear hK K)
      refine wpAnyIn_ready (rs := [7]) (by kernel_rfl) (by simp) ?_
      refine AllReadyIn.cons rfl (fun K hK => ?_) AllReadyIn.nil
      go_simp
      first
        | (refine hK _ _ ?_; clear hK K)
        | (refine ⟨fun _ _ => trivial, hK _ _ ?_⟩; clear hK K)
      refine wpAnyIn_ready (rs := [8]) (by kernel_rfl) (by simp) ?_
      refine AllReadyIn.cons rfl (fun K hK => ?_) AllReadyIn.nil
      go_simp
      first
        | (refine hK _ _ ?_; clear hK K)
        | (refine ⟨fun _ _ => trivial, hK _ _ ?_⟩; clear hK K)
      refine wpAnyIn_take (i := 10) (v := ?_) rfl rfl (by kernel_rfl) (by kernel_rfl) (by kernel_rfl) (fun _ _ _ h => h) ⟨Or.inl ⟨by rfl, ?_⟩, fun _ => rfl⟩ ?_
      rotate_left 1
      · (intro _; go_simp; (try with_reducible rfl))
      refine wpAnyIn_take (i := 11) (v := ?_) rfl rfl (by kernel_rfl) (by kernel_rfl) (by kernel_rfl) (fun _ _ _ h => h) ⟨Or.inl ⟨by rfl, ?_⟩, fun _ => rfl⟩ ?_
      rotate_left 1
      · (intro _; go_simp; (try with_reducible rfl))
      refine wpAnyIn_take (i := 12) (v := ?_) rfl rfl (by kernel_rfl) (by kernel_rfl) (by kernel_rfl) (fun _ _ _ h => h) ⟨Or.inl ⟨by rfl, ?_⟩, fun _ => rfl⟩ ?_
      rotate_left 1
      · (intro _; go_simp; (try with_reducible rfl))
      refine wpAnyIn_take (i := 13) (v := ?_) rfl rfl (by kernel_rfl) (by kernel_rfl) (by kernel_rfl) (fun _ _ _ h => h) ⟨Or.inl ⟨by rfl, ?_⟩, fun _ => rfl⟩ ?_
      rotate_left 1
      · (intro _; go_simp; (try with_reducible rfl))
      refine wpAnyIn_ready (rs := [9]) (by kernel_rfl) (by simp) ?_
      refine AllReadyIn.cons rfl (fun K hK => ?_) AllReadyIn.nil
      go_simp
      first
        | (refine hK _ _ ?_; clear hK K)
        | (refine ⟨fun _ _ => trivial, hK _ _ ?_⟩; clear hK K)
      refine wpAnyIn_ready (rs := [14]) (by kernel_rfl) (by simp) ?_
      refine AllReadyIn.cons rfl (fun K hK => ?_) AllReadyIn.nil
      go_simp
      refine ⟨fun h => by simp [Fence.wide] at h, hR.mono ?_⟩
      rintro e W3 (⟨rfl, hJ3, hs3, hk3⟩ | ⟨rfl, hJ3, hs3, hk3⟩)
      · refine hK _ _ ?_
        clear hK K
        have HK3 := Lib.hid hk3; have HS3 := Lib.hid hs3
        clear hk3 hs3 hR hy
        refine wpAnyIn_ready (rs := [15]) (by kernel_rfl) (by simp) ?_
        refine AllReadyIn.cons rfl (fun K hK => ?_) AllReadyIn.nil
        go_simp
        first
          | (refine hK _ _ ?_; clear hK K)
          | (refine ⟨fun _ _ => trivial, hK _ _ ?_⟩; clear hK K)
        refine wpAnyIn_ready (rs := [16]) (by kernel_rfl) (by simp) ?_
        refine AllReadyIn.cons rfl (fun K hK => ?_) AllReadyIn.nil
        go_simp
        first
          | (refine hK _ _ ?_; clear hK K)
          | (refine ⟨fun _ _ => trivial, hK _ _ ?_⟩; clear hK K)
        refine wpAnyIn_done (by kernel_rfl) ?_ _
        gi_wp2
        exact ⟨⟨HS3.out, fun k hk => HK3.out k (by omega)⟩, hlt, hJ3, (HK3.out _ (by omega)).trans HX.out⟩
      · refine hK _ _ ?_
        clear hK K
        have HK3 := Lib.hid hk3; have HS3 := Lib.hid hs3
        clear hk3 hs3 hR hy
        refine wpAnyIn_ready (rs := [15]) (by kernel_rfl) (by simp) ?_
        refine AllReadyIn.cons rfl (fun K hK => ?_) AllReadyIn.nil
        go_simp
        first
          | (refine hK _ _ ?_; clear hK K)
          | (refine ⟨fun _ _ => trivial, hK _ _ ?_⟩; clear hK K)
        refine wpAnyIn_ready (rs := [16]) (by kernel_rfl) (by simp) ?_
        refine AllReadyIn.cons rfl (fun K hK => ?_) AllReadyIn.nil
        go_simp
        first
          | (refine hK _ _ ?_; clear hK K)
          | (refine ⟨fun _ _ => trivial, hK _ _ ?_⟩; clear hK K)
        refine wpAnyIn_done (by kernel_rfl) ?_ _
        gi_wp2
        exact ⟨⟨HS3.out, fun k hk => HK3.out k (by omega)⟩, rfl, .inr ⟨hlt, hJ3⟩⟩
  · rintro D W' hD ⟨hi, hj, hbx⟩ hdef
    have hN : A.length = S.length := by omega
    have hj2 := hJ _ _ _ hj ((Chg.putObj (.deferred none) hdef rfl rfl).mono fun k h => by omega)
    gi_wp2
    refine ⟨by simp, .inl ⟨_, _, rfl, run_takeDeferred hdef, ?_⟩⟩
    refine ⟨_, results_none rfl _ _ _, ⟨_, rfl⟩, .inl ?_⟩
    rw [HA.out, hN]
    exact hj2
  · rintro D c i W' hD hi ⟨rfl, h⟩ hdef
    have hch := (Chg.putObj (.deferred none) hdef rfl rfl).mono (T := fun k => W.heap.size ≤ k ∧ k < W.heap.size + 4) fun k h => by omega
    gi_wp2
    refine ⟨by simp, .inl ⟨_, _, rfl, run_takeDeferred hdef, ?_⟩⟩
    refine ⟨_, results_none rfl _ _ _, ⟨_, rfl⟩, ?_⟩
    rw [HA.out]
    rcases h with ⟨h1, h2⟩ | ⟨h1, h2⟩
    · exact .inl (hJ _ _ _ h2 hch)
    · exact .inr ⟨i, h1, hJx _ _ _ h2 hch⟩
end Go.Proofs.YtjkbigecejogdaaDoor
