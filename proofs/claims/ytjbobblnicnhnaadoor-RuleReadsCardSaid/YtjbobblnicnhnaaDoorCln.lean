/-
  slices.Clone at a slice of rules; rule.New; (*Policy).Len, Idle of nil.
-/
import Derived.WalkSpells
import Derived.Test.YtjbobblnicnhnaaDoorRows
import Derived.Test.YtjbobblnicnhnaaDoorRli
import Derived.Test.YtjbobblnicnhnaaDoorPar
import Derived.Test.YtjbobblnicnhnaaDoorRul
import Derived.Test.YtjbobblnicnhnaaDoorKit
namespace Go.Proofs.YtjbobblnicnhnaaDoor
open Go.RowKit
set_option maxRecDepth 100000
set_option linter.unusedVariables false
set_option linter.unusedSimpArgs false

theorem ruC_one (r : Ru) : ∀ c ∈ ruC r, c.oneCell' = true := by
  intro c hc
  simp only [ruC, List.mem_cons, List.not_mem_nil, or_false] at hc
  rcases hc with rfl | rfl | rfl | rfl | rfl | rfl <;> rfl
theorem own_empty_z (w : World) (b e z : Nat) (hb : b ≤ w.heap.size) : (w.alloc (.cells #[] e)).ownsRow b e z (.slice (some ⟨w.heap.size, 0, none⟩) 0 0) 0 [] :=
  ⟨by simp, .inr ⟨w.heap.size, 0, #[], rfl, hb, heap_alloc_new w _, by omega, by simp [maxLen], by simp, by simp⟩⟩
set_option maxHeartbeats 1000000 in
theorem clone_any (v : Value) (rs : List Ru) (w : World) (hr : RowU w v rs) (hn : rs.length ≤ 1000000) :
    Calls Tryd.prog 46 #[v] w fun e w' => ∃ v', e = .returned v' ∧ w'.ownsRow w.heap.size 28 6 v' rs.length (rs.flatMap ruC) ∧ Ext w w' := by
  have hv1 := hr.ext ((Below.refl _ w).alloc (Nat.le_refl _) (.cells #[] 28))
  have ho := own_empty_z w w.heap.size 28 6 (Nat.le_refl _)
  have hne := fun (W : World) (ao : Option Addr) n c => Lib.run_eql_slice_nil (P := Tryd.prog) W 35 28 ao n c 0 0 Tryd.underlying35
  obtain ⟨ao, cap, hv, hcase, h1, h2, h3⟩ := hr
  have Hv := Lib.hid hv1; have Ho := Lib.hid ho; clear hv1 ho h3
  rcases hcase with ⟨rfl, rfl⟩ | ⟨ad, rfl⟩
  · have hrs : rs = [] := List.eq_nil_of_length_eq_zero (by omega)
    subst hrs hv
    have Hne := Lib.hid (fun W => hne W none 0 0)
    go_enter Tryd.func46, Tryd.ntmps46
    go_wp2
    go_ret
    exact ⟨_, rfl, World.ownsRow_nil _ _ _ _, ext_refl w⟩
  · subst hv
    go_enter Tryd.func46, Tryd.ntmps46
    go_wp2_with (at_builtin; refine wpList_moreC w.heap.size rfl _ _ 35 28 rfl Tryd.underlying35 infoRule rfl (by omega) (by omega) Ho.out ruC_len Hv.out ruC_one (by omega) (by simp) rfl rfl ?_; rintro v' w1 hown1 hgr1)
    go_ret
    rw [Nat.zero_add, List.nil_append] at hown1
    exact ⟨_, rfl, hown1, ((Below.refl _ w).alloc (Nat.le_refl _) _).grown hgr1 (by simp) (by simp [Value.ownBlock])⟩
/-- A policy of the call's own. -/
def PolOwn (B : Nat) (W : World) (b : Nat) (rs : List Ru) : Prop := ∃ v, B ≤ b ∧ W.heap[b]? = some (.cells #[v] 75 (0, 0)) ∧ W.ownsRow B 28 6 v rs.length (rs.flatMap ruC)
theorem PolOwn.at {B : Nat} {W : World} {b : Nat} {rs : List Ru} (h : PolOwn B W b rs) : PolAt W b rs := by
  obtain ⟨v, _, h1, h2⟩ := h
  exact ⟨v, h1, rowC_of_own ruC_len h2⟩
/-- What New answers. -/
def NewR (rs : List Ru) (w w' : World) (e : Ending) : Prop :=
  (rs.all ruOk = false ∧ e = .returned (.tuple #[.pointer none, .int .i64 4])) ∨
  (rs.all ruOk = true ∧ 32 < rs.length ∧ e = .returned (.tuple #[.pointer none, .int .i64 8])) ∨
  (rs.all ruOk = true ∧ rs.length ≤ 32 ∧ ∃ b, e = .returned (.tuple #[.pointer (some ⟨b, 0, none⟩), .int .i64 0]) ∧ PolOwn w.heap.size w' b rs)
set_option maxHeartbeats 2000000 in
theorem new_any (v : Value) (rs : List Ru) (hl : rs.length ≤ 100000) (hrb : ∀ r ∈ rs, RuB r) (w : World) (hr : RowU w v rs) :
    Calls Tryd.prog 18 #[v] w fun e w' => NewR rs w w' e ∧ Ext w w' := by
  have HC := Lib.hid (fun W hr => clone_any v rs W hr (by omega))
  have HRW := Lib.hid hr
  have hshape : ∃ ao cap, v = .slice ao rs.length cap ∧ rs.length ≤ cap ∧ (rs = [] ∨ ∃ g o, ao = some ⟨g, o, none⟩ ∧ ∀ j, j < rs.length → w.cell? ⟨g, o + 6 * j, none⟩ = some (.bool (rs.getD j ruD).al) ∧ w.cell? ⟨g, o + 6 * j + 1, none⟩ = some (Str (rs.getD j ruD).ro) ∧ w.cell? ⟨g, o + 6 * j + 2, none⟩ = some (Str (rs.getD j ruD).te) ∧ w.cell? ⟨g, o + 6 * j + 3, none⟩ = some (Str (rs.getD j ruD).ho) ∧
      w.cell? ⟨g, o + 6 * j + 4, none⟩ = some (.int .i64 (rs.getD j ruD).fr) ∧ w.cell? ⟨g, o + 6 * j + 5, none⟩ = some (.int .i64 (rs.getD j ruD).to)) := by
    by_cases hne : rs = []
    · obtain ⟨ao, cap, hv, _, h1, _⟩ := hr
      exact ⟨ao, cap, hv, h1, .inl hne⟩
    · obtain ⟨g, o, cap, hv, h1, _, hcl⟩ := rowU_cells hr hne
      exact ⟨_, cap, hv, h1, .inr ⟨g, o, rfl, hcl⟩⟩
  obtain ⟨ao, cap, hv, hcap, hcl⟩ := hshape
  have HCL := Lib.hid hcl
  have HRB := Lib.hid hrb
  have HRT := Lib.hid (fun (r : Ru) (hb : RuB r) W => right_any r hb W)
  have HALL : Hid (∀ k (h : k < rs.length), (rs.take k).all ruOk = true → (ruOk (rs.getD k ruD) = true → (rs.take (k + 1)).all ruOk = true) ∧ (ruOk (rs.getD k ruD) = false → rs.all ruOk = false)) := Lib.hid (fun k h ha => by
    have hd : rs.getD k ruD = rs[k] := by simp [List.getD, h]
    rw [hd]
    refine ⟨fun h1 => by rw [List.take_succ_eq_append_getElem h, List.all_append, ha]; simp [h1], fun h1 => ?_⟩
    cases hg : rs.all ruOk with
    | false => rfl
    | true => rw [List.all_eq_true] at hg; rw [hg _ (List.getElem_mem h)] at h1; cases h1)
  clear hcl hrb hr
  subst hv
  go_enter Tryd.func18, Tryd.ntmps18
  go_wp2
  go_loopw [5, 8] (fun _ i wr => ∃ k : Nat, k ≤ rs.length ∧ i = .int .i64 k ∧ (rs.take k).all ruOk = true ∧ Ext w wr) (fun _ i _ => rs.length - (intOf i).toNat)
  case atStart => exact ⟨0, by omega, rfl, by simp, ext_refl w⟩
  case round =>
    obtain ⟨k, hk, rfl, hno, hxr⟩ := hrel
    by_cases hlt : k < rs.length
    · have HA := Lib.hid (HALL.out k hlt hno)
      have HRBX := Lib.hid (HRB.out (rs.getD k ruD) (by simp [List.getD, hlt]))
      obtain ⟨g, o, hao, hcl⟩ : ∃ g o, ao = some ⟨g, o, none⟩ ∧ ∀ j, j < rs.length → w.cell? ⟨g, o + 6 * j, none⟩ = some (.bool (rs.getD j ruD).al) ∧ w.cell? ⟨g, o + 6 * j + 1, none⟩ = some (Str (rs.getD j ruD).ro) ∧ w.cell? ⟨g, o + 6 * j + 2, none⟩ = some (Str (rs.getD j ruD).te) ∧ w.cell? ⟨g, o + 6 * j + 3, none⟩ = some (Str (rs.getD j ruD).ho) ∧
          w.cell? ⟨g, o + 6 * j + 4, none⟩ = some (.int .i64 (rs.getD j ruD).fr) ∧ w.cell? ⟨g, o + 6 * j + 5, none⟩ = some (.int .i64 (rs.getD j ruD).to) := by
        rcases HCL.out with h | h
        · subst h; simp at hlt
        · exact h
      subst hao
      have hix1 := index_rule g o rs.length cap k hlt
      obtain ⟨a0, a1, a2, a3, a4, a5⟩ := hcl k hlt
      have k0 := ext_cell hxr a0; have k1 := ext_cell hxr a1; have k2 := ext_cell hxr a2; have k3 := ext_cell hxr a3; have k4 := ext_cell hxr a4; have k5 := ext_cell hxr a5
      have HXR := Lib.hid hxr
      clear a0 a1 a2 a3 a4 a5 hno hxr hcl
      generalize rs.getD k ruD = r at *
      generalize o + 6 * k = q at *
      have HX := Lib.hid (HRT.out r HRBX.out)
      obtain ⟨al, xo, xe, xh, fr, to⟩ := r
      simp only at k0 k1 k2 k3 k4 k5
      go_wp2_with fail
      obtain ⟨W1, hW1⟩ : ∃ W1, wr.alloc (.cells #[.bool al, Str xo, Str xe, Str xh, .int .i64 fr, .int .i64 to] 28) = W1 := ⟨_, rfl⟩
      have hx : Ext wr W1 := by rw [← hW1]; exact Below.alloc (Below.refl _ _) (Nat.le_refl _) _
      try rw [hW1]
      refine (HX.out _).mono ?_
      rintro e W2 ⟨he, hx2⟩
      subst he
      have HX2 := Lib.hid (ext_trans HXR.out (ext_trans hx hx2))
      clear hx hx2 hW1 k0 k1 k2 k3 k4 k5 hix1 HX
      obtain ⟨hd, hhd⟩ : ∃ hd, ruOk ⟨al, xo, xe, xh, fr, to⟩ = hd := ⟨_, rfl⟩
      rw [hhd] at HA ⊢
      cases hd with
      | false =>
        have HI := Lib.hid (HA.out.2 rfl)
        clear HA hhd
        go_wp2
        go_ret2
        exact ⟨.inl ⟨HI.out, rfl⟩, HX2.out⟩
      | true =>
        have HI := Lib.hid (HA.out.1 rfl)
        clear HA hhd
        go_wp2
        go_roundw
        case rel => exact ⟨k + 1, by omega, by go_num, HI.out, HX2.out⟩
        case measure => simp [intOf] <;> omega
    · have : k = rs.length := by omega
      subst this
      rw [List.take_length] at hno
      have HI := Lib.hid hno
      have HXR := Lib.hid hxr
      clear hno hxr hlt HALL
      by_cases h32 : 32 < rs.length
      · go_wp2
        go_ret2
        exact ⟨.inr (.inl ⟨HI.out, h32, rfl⟩), HXR.out⟩
      · have HR2 := Lib.hid (HRW.out.ext HXR.out)
        go_wp2_with fail
        refine (HC.out _ HR2.out).mono ?_
        rintro e W2 ⟨v', he, hown, hx2⟩
        subst he
        have hsz := HXR.out.size
        have hown2 := ownz_base (B' := w.heap.size) hown (by omega)
        obtain ⟨ao', cap', hv', _⟩ := ownz_shape hown2
        subst hv'
        have HO := Lib.hid hown2
        have HX2 := Lib.hid (ext_trans HXR.out hx2)
        clear hown hown2 hx2 hsz
        go_wp2
        go_ret2
        refine ⟨.inr (.inr ⟨HI.out, by omega, W2.heap.size, rfl, _, HX2.out.size, Array.getElem?_push_size, ownz_ext HO.out (Below.alloc (Below.refl _ _) (Nat.le_refl _) _)⟩), Below.alloc HX2.out HX2.out.size _⟩
end Go.Proofs.YtjbobblnicnhnaaDoor
