/-
  sha.Blocks: its iterator.
-/
import Derived.Test.YtpndahmlbjhdfaaDoorRows
import Derived.Test.YtpndahmlbjhdfaaDoorSkt
import Derived.Test.YtpndahmlbjhdfaaDoorRfr
namespace Go.Proofs.YtpndahmlbjhdfaaDoor
open Go.RowKit
set_option maxRecDepth 100000
attribute [local go_sem] Oper.semAt_some
set_option linter.unusedVariables false
set_option linter.unusedSimpArgs false
theorem clone_any (v : Value) (l : List UInt8) (w : World) (hv : SlB w v l) (hn : l.length ≤ 100000) :
    Calls Tryd.prog 37 #[v] w fun e w' => ∃ v', e = .returned v' ∧ w'.ownsRow w.heap.size 5 1 v' l.length (l.map Byt) ∧ Ext w w' := by
  have hv1 := hv.ext ((Below.refl _ w).alloc (Nat.le_refl _) (.cells #[] 5))
  have ho := own_empty w w.heap.size 5 (Nat.le_refl _)
  obtain ⟨ao, cap, rfl, hcap, hmax, hnil, hcell⟩ := hv
  cases ao with
  | none =>
    obtain rfl := hnil rfl
    have h0 : l = [] := List.eq_nil_of_length_eq_zero (by rw [List.length_map] at hcap; omega)
    subst h0
    clear hv1 ho hcell
    have hq : ∀ W, (binOp .eql 45 (.slice none 0 0) (.slice none 0 0)).run Tryd.prog W = .ok (.bool true) W := fun W => rfl
    go_enter Tryd.func37, Tryd.ntmps37
    go_wp2
    go_ret
    exact ⟨.slice none 0 0, rfl, World.ownsRow_nil _ _ _ _, Below.refl _ _⟩
  | some ad =>
    rw [List.length_map] at hv1
    have Hv := Lib.hid hv1; have Ho := Lib.hid ho; clear hv1 ho hcell hnil
    have hq : ∀ W, (binOp .eql 45 (.slice (some ad) (l.map Byt).length cap) (.slice none 0 0)).run Tryd.prog W = .ok (.bool false) W := fun W => rfl
    rw [List.length_map] at hq ⊢
    go_enter Tryd.func37, Tryd.ntmps37
    go_wp2_with (at_builtin; refine wpList_more w.heap.size rfl _ _ 45 5 rfl Tryd.underlying45 infoByte rfl (by omega) Ho.out Hv.out (byt_one l) (by simp; omega) (by simp) rfl rfl ?_; rintro v' w1 hown1 hgr1)
    go_ret
    rw [List.length_map, Nat.zero_add, List.nil_append] at hown1
    exact ⟨_, rfl, hown1, ((Below.refl _ w).alloc (Nat.le_refl _) _).grown hgr1 (by simp) (by simp [Value.ownBlock])⟩
/-- A row of bytes of one's own. -/
def OwnB (B : Nat) (v : Value) (l : List UInt8) (w : World) : Prop := w.ownsRow B 5 1 v l.length (l.map Byt)
theorem OwnB.ext {B : Nat} {v : Value} {l : List UInt8} {w w' : World} (h : OwnB B v l w) (he : Ext w w') : OwnB B v l w' := own_ext h he
theorem OwnB.sl {B : Nat} {v : Value} {l : List UInt8} {w : World} (h : OwnB B v l w) : SlB w v l := sl_of_own h
theorem step_moreB {w : World} {ops : Array Oper} {o : Oper} {a : Act} {K : Act → World → Prop} {Q : Exit → Act → World → Prop} {E : Prop} {T : Array Value} (B : Nat) (hgd : o.guard = none) (s x : Operand)
    (ho : o.op = .call { callee := .builtin .append, args := #[s, x], argTypes := #[45, 45] }) {v1 v2 : Value} {l1 l2 : List UInt8} {B2 : Nat} (h1 : OwnB B v1 l1 w) (h2 : OwnB B2 v2 l2 w) (hn : 0 < l2.length ∧ l1.length + l2.length ≤ 100000000) (hbase : B ≤ w.heap.size)
    (hs : a.eval s = v1) (hx : a.eval x = v2) (h : ∀ v' w', OwnB B v' (l1 ++ l2) w' → w.grownBy w' v1.ownBlock → K (a.put o.dst v') w') :
    if Region.wanted o (yielded ops T) = true then Oper.wp Tryd.prog o a w K Q else E := by
  have hw : Region.wanted o (yielded ops T) = true := by simp [Region.wanted, hgd]
  rw [if_pos hw]
  obtain ⟨i0, hi, hz0, hz1, hz2⟩ := info_parts infoByte
  obtain ⟨g, cap, hv2, _⟩ := own_shape h2 hn.1
  obtain ⟨ao, c', hao, _, _, _, hc'⟩ := h2.sl
  rw [hv2] at hao
  simp only [List.length_map, Value.slice.injEq] at hao
  obtain ⟨rfl, -, rfl⟩ := hao
  refine wp_append_own w s x 45 ho B 5 i0 (.int .u8 0) 1 1 Tryd.underlying45 hi hz0 hz1 hz2 rfl (by decide) v1 l1.length (l1.map Byt) hs h1 ⟨g, 0, none⟩ l2.length cap (l2.map Byt) (hx.trans hv2) (by simp) (fun j y hj => hc' j y hj) (byt_one l2) (by unfold maxLen; omega) (by omega) hbase (fun v' w' q1 q2 _ => h v' w' ?_ q2)
  unfold OwnB
  rw [List.length_append, List.map_append]
  exact q1
def slLen : Value → Nat
  | .slice _ n _ => n
  | _ => 0
def blkItem (p : List UInt8) (i : Nat) (args : Array Value) (W : World) : Prop := ∃ v, args = #[v] ∧ SlB W v ((p.drop (64 * i)).take 64)
theorem shPad_len (l : List UInt8) : (shPad l).length = 64 * ((shPad l).length / 64) := by
  simp only [shPad, List.length_append, shTail_len]; omega
set_option maxHeartbeats 1000000 in
theorem blocks_iter (v : Value) (l : List UInt8) (hl : l.length ≤ 100000) (bx : Nat) (w0 : World) (hbx : w0.heap[bx]? = some (.cells #[v] 45 (0, 0))) (hv : SlB w0 v l) :
    Iter4 Tryd.prog 103 #[.pointer (some ⟨bx, 0, none⟩)] ((shPad l).length / 64) 1 (blkItem (shPad l)) (fun k => k = bx ∨ sblk v l.length k) (fun _ => False) w0 := by
  intro n lp J Jx W hW hsz hJ hJx hY h0
  have hbW := (hW bx (.inl rfl)).trans hbx
  have hvW : SlB W v l := hv.keep fun k hk => hW k (.inr (by simpa using hk))
  have HvW := Lib.hid hvW
  have cb := cell_of hbW
  have HN := Lib.hid (shPad_len l)
  have HP := Lib.hid (show shPad l = l ++ shTail l.length from rfl)
  have hpos := shTail_len l.length
  obtain ⟨ao, cap, rfl, hcap, hmax, hnil, hcell⟩ := hvW
  clear hcell hnil
  simp only [List.length_map] at HvW cb hbW ⊢
  refine callsIn_of_wp Tryd.func103 rfl trivial ?_ rfl
  simp only [Tryd.ntmps103, List.size_toArray, List.length_cons, List.length_nil, Nat.reduceAdd, Nat.reduceSub, Array.replicate_succ, Array.replicate_zero, List.push_toArray, List.append_toArray, List.nil_append, List.cons_append]
  gi_wp2
  refine wpIn_wide.2 ?_
  have HC := Lib.hid (show ∀ w1, Ext W w1 → Calls Tryd.prog 37 #[.slice ao l.length cap] w1 fun e w2 => ∃ v', e = .returned v' ∧ OwnB W.heap.size v' l w2 ∧ Ext w1 w2 from fun w1 e => (clone_any (.slice ao l.length cap) l w1 (HvW.out.ext e) hl).mono fun _ _ ⟨v', he, ho, hx⟩ => ⟨v', he, own_base ho e.size, hx⟩)
  have HE := Lib.hid (show ∀ w1, Ext W w1 → Calls Tryd.prog 104 #[.int .u64 (l.length : Int)] w1 fun e w2 => ∃ v', e = .returned v' ∧ OwnB W.heap.size v' (shTail l.length) w2 ∧ Ext w1 w2 from fun w1 e => (ends_any l.length w1 (by omega)).mono fun _ _ ⟨v', he, ho, hx⟩ => ⟨v', he, own_base ho e.size, hx⟩)
  have HTL := Lib.hid (shTail_len l.length)
  refine wp_region_any (by kernel_rfl) ?_; change wpAny _ _ _ _ _ _ _ (World.drew _)
  -- inv {'in': 1, 'B': 'W.heap.size', 'W': [('E0', "Ext W w'", 'Below.drewN (Below.refl _ W) 1')], 'ops': [('ld', 4, 1, '.pointer (some ⟨bx, 0, none⟩)', '.slice ao l.length cap', 'have d0 := ext_cell E0 cb'), ('callx', 5, [0], "HC.out w' E0", "OwnB W.heap.size (u 5) l w'", 6), ('ld', 6, 1, '.pointer (some ⟨bx, 0, none⟩)', '.slice ao l.length cap', 'have d0 := ext_cell E0 cb'), ('op', 7, [2], '.int .i64 (l.length : Int)'), ('op', 8, [3], '.int .u64 (l.length : Int)'), ('callx', 9, [4], "HE.out w' E0", "OwnB W.heap.size (u 9) (shTail l.length) w'", 6), ('more', 10, 1, 5, 'l', 'shTail l.length'), ('mwx', 3, 6, "OwnB W.heap.size (u 3) (l ++ shTail l.length) w'")]}
  refine wpAny_inv (n := 8) [4, 5, 6, 7, 8, 9, 10, 3] (fun u L w' =>
      (L 0 = true → u 4 = .slice ao l.length cap) ∧
      (L 1 = true → L 6 = false → OwnB W.heap.size (u 5) l w') ∧
      (L 2 = true → u 6 = .slice ao l.length cap) ∧
      (L 3 = true → u 7 = .int .i64 (l.length : Int)) ∧
      (L 4 = true → u 8 = .int .u64 (l.length : Int)) ∧
      (L 5 = true → L 6 = false → OwnB W.heap.size (u 9) (shTail l.length) w') ∧
      (L 6 = true → OwnB (W.heap.size) (u 10) (l ++ shTail l.length) w') ∧
      (L 7 = true → OwnB W.heap.size (u 3) (l ++ shTail l.length) w') ∧
      (Ext W w'))
    (by rfl) (by kernel_rfl) (by kernel_rfl) (by rfl) ?_ ?_ ?_
  · exact ⟨(fun h => by cases h), (fun h => by cases h), (fun h => by cases h), (fun h => by cases h), (fun h => by cases h), (fun h => by cases h), (fun h => by cases h), (fun h => by cases h), Below.drewN (Below.refl _ W) 1⟩
  · refine ⟨⟨⟨⟨⟨⟨⟨⟨trivial, ?_⟩, ?_⟩, ?_⟩, ?_⟩, ?_⟩, ?_⟩, ?_⟩, ?_⟩
    · refine stepOk_some (i := 0) (by rfl) (by rfl) ?_
      rintro u L T w' hT hu hL hp hcl ⟨C0, C1, C2, C3, C4, C5, C6, C7, E0⟩ K hK
      have e1 : u 1 = .pointer (some ⟨bx, 0, none⟩) := hu 1 (by decide)
      have d0 := ext_cell E0 cb
      go_simp
      refine hK _ _ ?_
      exact ⟨fun _ => rfl, fun h h2 => C1 (by simpa using h) (by simpa using h2), fun h => C2 (by simpa using h), fun h => C3 (by simpa using h), fun h => C4 (by simpa using h), fun h h2 => C5 (by simpa using h) (by simpa using h2), fun h => C6 (by simpa using h), fun h => C7 (by simpa using h), E0⟩
    · refine stepOk_some (i := 1) (by rfl) (by rfl) ?_
      rintro u L T w' hT hu hL hp hcl ⟨C0, C1, C2, C3, C4, C5, C6, C7, E0⟩ K hK
      have e0 := C0 (hp.of 0 (by kernel_rfl))
      go_simp
      refine Calls.mono (HC.out w' E0) ?_
      rintro e w1 ⟨v1, he, hr1, hx1⟩
      subst he
      refine hK _ _ ?_
      exact ⟨fun h => C0 (by simpa using h), fun _ _ => hr1, fun h => C2 (by simpa using h), fun h => C3 (by simpa using h), fun h => C4 (by simpa using h), fun h h2 => (C5 (by simpa using h) (by simpa using h2)).ext hx1, fun h => (C6 (by simpa using h)).ext hx1, fun h => (C7 (by simpa using h)).ext hx1, ext_trans (E0) hx1⟩
    · refine stepOk_some (i := 2) (by rfl) (by rfl) ?_
      rintro u L T w' hT hu hL hp hcl ⟨C0, C1, C2, C3, C4, C5, C6, C7, E0⟩ K hK
      have e1 : u 1 = .pointer (some ⟨bx, 0, none⟩) := hu 1 (by decide)
      have d0 := ext_cell E0 cb
      go_simp
      refine hK _ _ ?_
      exact ⟨fun h => C0 (by simpa using h), fun h h2 => C1 (by simpa using h) (by simpa using h2), fun _ => rfl, fun h => C3 (by simpa using h), fun h => C4 (by simpa using h), fun h h2 => C5 (by simpa using h) (by simpa using h2), fun h => C6 (by simpa using h), fun h => C7 (by simpa using h), E0⟩
    · refine stepOk_some (i := 3) (by rfl) (by rfl) ?_
      rintro u L T w' hT hu hL hp hcl ⟨C0, C1, C2, C3, C4, C5, C6, C7, E0⟩ K hK
      have e2 := C2 (hp.of 2 (by kernel_rfl))
      go_simp
      try go_bits
      try (rw [if_neg (by omega)]; go_simp)
      try (rw [if_pos (by omega)]; go_simp)
      refine hK _ _ ?_
      exact ⟨fun h => C0 (by simpa using h), fun h h2 => C1 (by simpa using h) (by simpa using h2), fun h => C2 (by simpa using h), fun _ => rfl, fun h => C4 (by simpa using h), fun h h2 => C5 (by simpa using h) (by simpa using h2), fun h => C6 (by simpa using h), fun h => C7 (by simpa using h), E0⟩
    · refine stepOk_some (i := 4) (by rfl) (by rfl) ?_
      rintro u L T w' hT hu hL hp hcl ⟨C0, C1, C2, C3, C4, C5, C6, C7, E0⟩ K hK
      have e3 := C3 (hp.of 3 (by kernel_rfl))
      go_simp
      try go_bits
      try (rw [if_neg (by omega)]; go_simp)
      try (rw [if_pos (by omega)]; go_simp)
      refine hK _ _ ?_
      exact ⟨fun h => C0 (by simpa using h), fun h h2 => C1 (by simpa using h) (by simpa using h2), fun h => C2 (by simpa using h), fun h => C3 (by simpa using h), fun _ => rfl, fun h h2 => C5 (by simpa using h) (by simpa using h2), fun h => C6 (by simpa using h), fun h => C7 (by simpa using h), E0⟩
    · refine stepOk_some (i := 5) (by rfl) (by rfl) ?_
      rintro u L T w' hT hu hL hp hcl ⟨C0, C1, C2, C3, C4, C5, C6, C7, E0⟩ K hK
      have e4 := C4 (hp.of 4 (by kernel_rfl))
      go_simp
      refine Calls.mono (HE.out w' E0) ?_
      rintro e w1 ⟨v1, he, hr1, hx1⟩
      subst he
      refine hK _ _ ?_
      exact ⟨fun h => C0 (by simpa using h), fun h h2 => (C1 (by simpa using h) (by simpa using h2)).ext hx1, fun h => C2 (by simpa using h), fun h => C3 (by simpa using h), fun h => C4 (by simpa using h), fun _ _ => hr1, fun h => (C6 (by simpa using h)).ext hx1, fun h => (C7 (by simpa using h)).ext hx1, ext_trans (E0) hx1⟩
    · refine stepOk_some (i := 6) (by rfl) (by rfl) ?_
      rintro u L T w' hT hu hL hp hcl ⟨C0, C1, C2, C3, C4, C5, C6, C7, E0⟩ K hK
      have h1 := C1 (hp.of 1 (by kernel_rfl)) hL
      have h2 := C5 (hp.of 5 (by kernel_rfl)) hL
      refine step_moreB (W.heap.size) rfl _ _ (by rfl) h1 h2 (by have := HTL.out; omega) E0.size (by exact (hT _)) (by exact (hT _)) ?_
      rintro v' w1 hr1 hgr1
      have hx1 := ext_push E0 h1 hgr1
      refine hK _ _ ?_
      exact ⟨fun h => C0 (by simpa using h), fun h h2 => absurd h2 (by simp), fun h => C2 (by simpa using h), fun h => C3 (by simpa using h), fun h => C4 (by simpa using h), fun h h2 => absurd h2 (by simp), fun _ => hr1, fun h => absurd h (by simp [hcl.not 7 (by kernel_rfl) hL]), hx1⟩
    · refine stepOk_some (i := 7) (by rfl) (by rfl) ?_
      rintro u L T w' hT hu hL hp hcl ⟨C0, C1, C2, C3, C4, C5, C6, C7, E0⟩ K hK
      have hr1 := C6 (hp.of 6 (by kernel_rfl))
      have e6 := hT 10
      go_simp
      refine hK _ _ ?_
      exact ⟨fun h => C0 (by simpa using h), fun h h2 => C1 (by simpa using h) (by simpa using h2), fun h => C2 (by simpa using h), fun h => C3 (by simpa using h), fun h => C4 (by simpa using h), fun h h2 => C5 (by simpa using h) (by simpa using h2), fun h => C6 (by simpa using h), fun _ => hr1, E0⟩
  · rintro u L w' hall hu ⟨C0, C1, C2, C3, C4, C5, C6, C7, E0⟩
    replace C0 := C0 (hall 0 (by omega))
    replace C2 := C2 (hall 2 (by omega))
    replace C3 := C3 (hall 3 (by omega))
    replace C4 := C4 (hall 4 (by omega))
    replace C6 := C6 (hall 6 (by omega))
    replace C7 := C7 (hall 7 (by omega))
    simp only [fill, List.setIfInBounds_toArray, List.set_cons_succ, List.set_cons_zero, C0, C2, C3, C4]
    generalize u 5 = s0 at *
    generalize u 9 = s1 at *
    generalize u 10 = s2 at *
    generalize u 3 = s3 at *
    clear C0 C1 C2 C3 C4 C5 hu hall
  -- end inv
    have hB := C7
    rw [← HP.out] at hB
    have hlen : 64 ≤ (shPad l).length := by rw [HN.out]; have : 0 < (shPad l).length := by rw [HP.out, List.length_append]; omega
                                            have := HN.out; omega
    obtain ⟨g, hg⟩ : ∃ g, s3.ownBlock = some g := by
      obtain ⟨g, cap', h1, _⟩ := own_shape hB (by omega); exact ⟨g, by rw [h1]; rfl⟩
    have hgl := hB.lt g hg
    have hJ0 := h0 (fun k => k = g) w' (fun k hk => by subst hk; exact hgl) E0
    have hY' := Lib.hid (hY (fun k => k = g))
    have hJ' := Lib.hid (hJ (fun k => k = g))
    have hS := hB.sl
    have hsb : ∀ k, sblk s3 (shPad l).length k → k = g := fun k hk => Option.some.inj (hk.2.symm.trans hg)
    have hgs := hgl.1
    have HGG := Lib.hid hgl
    clear hY hJ hJx h0 hB C7 hW hbW cb hbx hv HC HE HTL HvW hg hgl
    generalize hp : shPad l = p at *
    generalize hNN : p.length / 64 = N at *
    have HQ := Lib.hid (show (shPad l).length / 64 = N by rw [hp, hNN])
    clear hp hNN
    have HS := Lib.hid hS; have HSB := Lib.hid hsb
    clear hS hsb
    gi_wp2
    gi_loopw [3] (fun rv wr => ∃ i : Nat, i ≤ N ∧ SlB wr rv (p.drop (64 * i)) ∧ (∀ k, sblk rv (p.drop (64 * i)).length k → k = g) ∧ w'.heap.size ≤ wr.heap.size ∧ J (fun k => k = g) i wr) (fun rv _ => slLen rv)
    case atStart => exact ⟨0, by omega, by simpa using HS.out, by simpa using HSB.out, Nat.le_refl _, hJ0⟩
    case round =>
      obtain ⟨i, hi, hsl, hsb, hsz4, hJr⟩ := hrel
      have hrl : (p.drop (64 * i)).length = 64 * N - 64 * i := by rw [List.length_drop, HN.out]
      by_cases hlt : i < N
      · have hn64 : 64 ≤ (p.drop (64 * i)).length := by omega
        have hitem := hsl.cutm (k := 64) (by rw [List.length_map]; exact hn64)
        have hre := hsl.resl (k := 64) (by rw [List.length_map]; exact hn64)
        rw [← List.map_take] at hitem
        rw [← List.map_drop, List.drop_drop, show 64 * i + 64 = 64 * (i + 1) by omega] at hre
        have hsb2 : ∀ k, sblk (resl u3 64) (p.drop (64 * (i + 1))).length k → k = g := fun k hk => hsb k (sblk_resl (j := 64) (by rw [show (p.drop (64 * i)).length - 64 = (p.drop (64 * (i + 1))).length by simp; omega]; exact hk))
        obtain ⟨fn, tmps, assign, body, hy, hR⟩ := hY'.out (n - 1) i wr #[cutm u3 64] hlt (fun k hk => by subst hk; exact ⟨HGG.out.1, by have := HGG.out.2; omega⟩) hJr rfl ⟨_, rfl, hitem⟩
        obtain ⟨ao2, cap2, rfl, hcap2, hmax2, hnil2, hcell2⟩ := hsl
        clear hcell2
        simp only [List.length_map] at hcap2 hsb2 hre hy hR ⊢
        have hcut := run_cutm (P := Tryd.prog) Tryd.underlying45 Tryd.sizeOf5 (ao := ao2) hcap2
        have hcut64 : ∀ W, (Instr.slice 45 (.slice ao2 (p.drop (64 * i)).length cap2) none (some (.int .i64 64)) (some (.int .i64 64))).run Tryd.prog W = .ok (cutm (.slice ao2 (p.drop (64 * i)).length cap2) 64) W := fun W => hcut W 64 hn64
        have hres := run_resl (P := Tryd.prog) Tryd.underlying45 Tryd.sizeOf5 (ao := ao2) (n := (p.drop (64 * i)).length) (cap := cap2)
        have hres64 : ∀ W, (Instr.slice 45 (.slice ao2 (p.drop (64 * i)).length cap2) (some (.int .i64 64)) none none).run Tryd.prog W = .ok (resl (.slice ao2 (p.drop (64 * i)).length cap2) 64) W := fun W => hres W 64 hn64
        have hsll : slLen (resl (.slice ao2 (p.drop (64 * i)).length cap2) 64) < (p.drop (64 * i)).length := by simp only [slLen, resl]; omega
        have HRE := Lib.hid hre; have HSB2 := Lib.hid hsb2; have HRR := Lib.hid hR; have HSL := Lib.hid hsll
        have hpos2 : 0 < (p.drop (64 * i)).length := by omega
        clear hcut hres hre hsb2 hsb hitem hrl hR hsll
        generalize resl (.slice ao2 (p.drop (64 * i)).length cap2) 64 = rv2 at *
        generalize cutm (.slice ao2 (p.drop (64 * i)).length cap2) 64 = cv2 at *
        generalize (p.drop (64 * i)).length = nn at *
        gi_wp2
        refine ⟨fun h => by simp [Fence.wide] at h, HRR.out.mono ?_⟩
        rintro e W4 (⟨rfl, hJ5, hs5, hk5⟩ | ⟨rfl, hJ5⟩)
        · have HS5 : Hid (SlB W4 rv2 (p.drop (64 * (i + 1)))) := Lib.hid (HRE.out.keep (fun k hk => hk5 k (.inl (HSB2.out k (by simpa using hk)))))
          clear hk5
          gi_wp2
          go_roundw
          case rel => exact ⟨i + 1, by omega, HS5.out, HSB2.out, by omega, hJ5⟩
          case measure => exact HSL.out
        · gi_wp2
          refine bodyPost_ret (results_none rfl _ _ _) rfl ?_
          exact ⟨⟨_, rfl⟩, (fun k => k = g), fun k hk => by subst hk; exact HGG.out.1, .inr ⟨i, by rw [HQ.out]; exact hlt, hJ5⟩⟩
      · obtain rfl : i = N := by omega
        obtain ⟨ao2, cap2, rfl, hcap2, hmax2, hnil2, hcell2⟩ := hsl
        have h0l : (List.map Byt (p.drop (64 * i))).length = 0 := by rw [List.length_map]; omega
        clear hcell2 hsb
        rw [h0l]
        gi_wp2
        refine bodyPost_end (results_none rfl _ _ _) rfl ?_
        exact ⟨⟨_, rfl⟩, (fun k => k = g), fun k hk => by subst hk; exact HGG.out.1, .inl (by rw [HQ.out]; exact hJr)⟩
theorem Blocks_any (v : Value) (w : World) (hv : ∃ ao n cap, v = .slice ao n cap) :
    Calls Tryd.prog 82 #[v] w fun e w' => e = .returned (.func (.func 103) #[] #[.pointer (some ⟨w.heap.size, 0, none⟩)]) ∧ w' = w.alloc (.cells #[v] 45) := by
  obtain ⟨ao, n, cap, rfl⟩ := hv
  go_enter Tryd.func82, Tryd.ntmps82
  go_wp2
  go_ret
  exact ⟨rfl, rfl⟩
end Go.Proofs.YtpndahmlbjhdfaaDoor
