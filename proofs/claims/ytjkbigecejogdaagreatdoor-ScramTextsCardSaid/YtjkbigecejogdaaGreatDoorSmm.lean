/-
 ref07.pairs and ref07.Same at every two messages.
-/
import Derived.BigGuardPart
import Derived.BigQuiet
import Derived.RegionTactic
import Derived.Deep.DrawnRows
import Derived.Laws.StructEq
import Derived.Test.YtjkbigecejogdaaGreatDoorRows
import Derived.Test.YtjkbigecejogdaaGreatDoorRrd
import Derived.Test.YtjkbigecejogdaaGreatDoorExd
namespace Go.Proofs.YtjkbigecejogdaaGreatDoor
open Go.RowKit
set_option maxRecDepth 100000
attribute [local go_sem] Oper.semAt_some
set_option linter.unusedVariables false
set_option linter.unusedSimpArgs false
theorem neq_pair2 (a b c d : List UInt8) (W : World) : (binOp .neq 64 (.agg #[Str a, Str b]) (.agg #[Str c, Str d])).run Tryz.prog W = .ok (.bool (!((a == c) && (b == d)))) W := by
 have hu : Tryz.prog.underlying 64 = some (.struct (Tryz.prog.fieldsOf 64)) := by kernel_rfl
 have hp : Tryz.prog.stoodInHeld 64 = false := by kernel_rfl
 have hB : (match (Tryz.prog.fieldsOf 64).toList with | [f0, f1] => f0.type == 9 && f1.type == 9 && f0.offset == 0 && f1.offset == 1 && f0.name != "_" && f1.name != "_" | _ => false) = true := by kernel_rfl
 obtain ⟨f0, f1, hf⟩ : ∃ f0 f1, (Tryz.prog.fieldsOf 64).toList = [f0, f1] := by
  revert hB
  generalize (Tryz.prog.fieldsOf 64).toList = L
  intro hB
  match L, hB with
  | [a, b], _ => exact ⟨a, b, rfl⟩
 rw [hf] at hB
 simp only [Bool.and_eq_true, beq_iff_eq, bne_iff_ne, ne_eq] at hB
 obtain ⟨⟨⟨⟨⟨h0, h1⟩, o0⟩, o1⟩, n0⟩, n1⟩ := hB
 rw [run_neq_struct, show (10000 : Nat) = 9999 + 1 from rfl, run_equalIn_agg _ _ _ _ _ hu hp, hf]
 simp only [Op.eqFields, Sem.run_bind, h0, h1, o0, o1, n0, n1]
 by_cases h : a = c
 ·by_cases h2 : b = d
  ·simp [part, Tryz.isAgg9, Result.andThen, Sem.run_bind, run_equalIn_string (P := Tryz.prog) (w := W) 9998 9 _ _ Tryz.underlying9, h, h2]
  ·have h3 : (b == d) = false := by simp [h2]
   simp [part, Tryz.isAgg9, Result.andThen, Sem.run_bind, run_equalIn_string (P := Tryz.prog) (w := W) 9998 9 _ _ Tryz.underlying9, h, h2, h3, n0, n1]
 ·have h4 : (a == c) = false := by simp [h]
  simp [part, Tryz.isAgg9, Result.andThen, Sem.run_bind, run_equalIn_string (P := Tryz.prog) (w := W) 9998 9 _ _ Tryz.underlying9, h, h4, n0, n1]
theorem eqGuard_pair (x y : Operand) (a b : List UInt8) (c d : List UInt8) (W : World) : (eqGuard .neq 64 x y (.agg #[Str a, Str b]) (.agg #[Str c, Str d])).run Tryz.prog W = .ok () W :=
 run_eqGuard_agg W .neq 64 x y _ _ (by kernel_rfl)
theorem take_snoc_eq {α : Type} (l : List α) (k : Nat) (x : α) (hx : l[k]? = some x) : l.take (k + 1) = l.take k ++ [x] := by
 have hk := (List.getElem?_eq_some_iff.1 hx).1
 rw [List.take_succ_eq_append_getElem hk, (List.getElem?_eq_some_iff.1 hx).2]
set_option maxHeartbeats 2000000 in
theorem pairs_any (v1 v2 : Value) (l1 l2 : List Pr) (w : World) (h1 : RowC 2 prC w v1 l1) (h2 : RowC 2 prC w v2 l2) :
    Calls Tryz.prog 24 #[v1, v2] w fun e w' => e = .returned (.bool (decide (l1 = l2))) ∧ Ext w w' := by
 obtain ⟨a1, c1, hv1, hc1, hm1, hr1⟩ := rowP_shape h1
 obtain ⟨a2, c2, hv2, hc2, hm2, hr2⟩ := rowP_shape h2
 subst hv1 hv2
 have HR1 := Lib.hid hr1; have HR2 := Lib.hid hr2
 unfold maxLen at hm1 hm2
 clear hr1 hr2 h1 h2
 by_cases hn : l1.length = l2.length
 ·obtain ⟨r, hr⟩ : ∃ r, decide (l1 = l2) = r := ⟨_, rfl⟩
  have HR := Lib.hid hr
  rw [hr]
  clear hr
  obtain ⟨n, hnn⟩ : ∃ n, l1.length = n := ⟨_, rfl⟩
  have H1 := Lib.hid hnn
  have H2 := Lib.hid (show l2.length = n by omega)
  rw [hnn] at hc1 ⊢
  rw [H2.out] at hc2 ⊢
  clear hn hnn
  go_enter Tryz.func24, Tryz.ntmps24
  go_wp2
  go_loopw [13] (fun i wr => ∃ k : Nat, k ≤ n ∧ i = .int .i64 k ∧ Hid (l1.take k = l2.take k) ∧ ∃ m, wr = w.drewN m) (fun i _ => n - (intOf i).toNat)
  case atStart => exact ⟨0, by omega, rfl, Lib.hid rfl, 0, rfl⟩
  case round =>
   obtain ⟨k, hk, rfl, HT, m, rfl⟩ := hrel
   by_cases h3 : k < n
   ·have hk1 : k < l1.length := by rw [H1.out]; exact h3
    have hk2 : k < l2.length := by rw [H2.out]; exact h3
    rcases HR1.out with h | ⟨g1, o1, rfl, hcc1⟩
    ·subst h; simp at hk1
    rcases HR2.out with h | ⟨g2, o2, rfl, hcc2⟩
    ·subst h; simp at hk2
    obtain ⟨d0, d1⟩ := hcc1 k hk1
    obtain ⟨d2, d3⟩ := hcc2 k hk2
    have hg1 : l1[k]? = some (l1.getD k prD) := by simp [List.getD, hk1]
    have hg2 : l2[k]? = some (l2.getD k prD) := by simp [List.getD, hk2]
    have HG1 := Lib.hid hg1; have HG2 := Lib.hid hg2
    have i1 := index_pair g1 o1 n c1 k h3
    have i2 := index_pair g2 o2 n c2 k h3
    clear hcc1 hcc2 hg1 hg2 hk1 hk2
    generalize l1.getD k prD = p at *
    generalize l2.getD k prD = q at *
    generalize o1 + 2 * k = u1 at *
    generalize o2 + 2 * k = u2 at *
    obtain ⟨pa, pb⟩ := p
    obtain ⟨qa, qb⟩ := q
    simp only at d0 d1 d2 d3
    have hq := neq_pair2 pa pb qa qb
    have hg := fun a b => eqGuard_pair a b pa pb qa qb
    cases heq : ((pa == qa) && (pb == qb)) with
    | true =>
      rw [heq] at hq
      have he : pa = qa ∧ pb = qb := by simpa using heq
      have HTN := Lib.hid (show l1.take (k + 1) = l2.take (k + 1) by rw [take_snoc_eq _ _ _ HG1.out, take_snoc_eq _ _ _ HG2.out, HT.out, he.1, he.2])
      clear heq he
      go_wp2
      refine wp_region_quiet_lit (by kernel_rfl) (by kernel_rfl) ?_
      repeat (first
       | go_big_quiet_skip
       | (go_big_quiet_want; go_big_quiet_op; (try go_bits); first | go_big_quiet_on | go_big_quiet_call (fail)))
      refine wpQuiet_nil ?_
      intro _ hw'
      obtain ⟨nq, hw''⟩ := hw'
      subst hw''
      rw [World.drewN_drewN]
      go_wp2
      go_roundw
      case rel => exact ⟨k + 1, by omega, by go_num, HTN, _, rfl⟩
      case measure => simp [intOf] <;> omega
    | false =>
      rw [heq] at hq
      have hd : r = false := by
       rw [← HR.out]
       refine decide_eq_false fun e => ?_
       have := HG1.out.symm.trans ((congrArg (fun l : List Pr => l[k]?) e).trans HG2.out)
       simp only [Option.some.injEq, Pr.mk.injEq] at this
       rw [this.1, this.2] at heq; simp at heq
      subst hd
      clear heq
      go_wp2
      refine wp_region_quiet_lit (by kernel_rfl) (by kernel_rfl) ?_
      repeat (first
       | go_big_quiet_skip
       | (go_big_quiet_want; go_big_quiet_op; (try go_bits); first | go_big_quiet_on | go_big_quiet_call (fail)))
      refine wpQuiet_nil ?_
      intro _ hw'
      obtain ⟨nq, hw''⟩ := hw'
      subst hw''
      rw [World.drewN_drewN]
      go_wp2
      go_ret
      exact ⟨rfl, ext_drewN (ext_refl _) _⟩
   ·obtain rfl : k = n := by omega
    have hd : r = true := by
     rw [← HR.out]
     refine decide_eq_true ?_
     have := HT.out
     rwa [List.take_of_length_le (by rw [H1.out]; omega), List.take_of_length_le (by rw [H2.out]; omega)] at this
    subst hd
    go_wp2
    go_ret
    exact ⟨rfl, ext_drewN (ext_refl _) _⟩
 ·have hd : decide (l1 = l2) = false := decide_eq_false fun e => hn (by rw [e])
  have e1 : ((l1.length : Int) == (l2.length : Int)) = false := by simp; omega
  have e2 : ((l1.length : Int) != (l2.length : Int)) = true := by simp; omega
  have HD := Lib.hid hd
  clear hd
  generalize l1.length = n1 at *
  generalize l2.length = n2 at *
  go_enter Tryz.func24, Tryz.ntmps24
  go_wp2
  all_goals (go_ret; exact ⟨by rw [HD.out]; rfl, ext_refl _⟩)
theorem ms_eq (a b : Ms) : decide (a = b) = (decide (a.kind = b.kind) && (decide (a.flag = b.flag) && (decide (a.authz = b.authz) && (decide (a.user = b.user) && (decide (a.nonce = b.nonce) && (decide (a.ext = b.ext) && (decide (a.salt = b.salt) && (decide (a.iter = b.iter) && (decide (a.head = b.head) && (decide (a.proof = b.proof) && decide (a.code = b.code))))))))))) := by
 obtain ⟨a0, a1, a2, a3, a4, a5, a6, a7, a8, a9, a10⟩ := a
 obtain ⟨b0, b1, b2, b3, b4, b5, b6, b7, b8, b9, b10⟩ := b
 rw [Bool.eq_iff_iff]
 simp only [Bool.and_eq_true, decide_eq_true_eq, Ms.mk.injEq]
set_option maxHeartbeats 8000000 in
theorem sameM_any (B1 B2 : Nat) (v1 v2 : Value) (a b : Ms) (w : World) (h1 : MsIs B1 w v1 a) (h2 : MsIs B2 w v2 b) :
    Calls Tryz.prog 10 #[v1, v2] w fun e w' => e = .returned (.bool (decide (a = b))) ∧ Ext w w' := by
 obtain ⟨e1, s1, p1, rfl, m1⟩ := h1
 obtain ⟨e2, s2, p2, rfl, m2⟩ := h2
 obtain ⟨xa, xn, xk, ya, yn, yk, za, zn, zk, rfl, rfl, rfl⟩ := m1.shape
 obtain ⟨ta, tn, tk, ua, un, uk, va, vn, vk, rfl, rfl, rfl⟩ := m2.shape
 have HP := Lib.hid (fun W (hx : Ext w W) => pairs_any _ _ a.ext b.ext W (m1.ext.ext hx) (m2.ext.ext hx))
 have HS := Lib.hid (fun W (hx : Ext w W) => same_any _ _ a.salt b.salt W (m1.salt.ext hx) (m2.salt.ext hx))
 have HQ := Lib.hid (fun W (hx : Ext w W) => same_any _ _ a.proof b.proof W (m1.proof.ext hx) (m2.proof.ext hx))
 have HE := Lib.hid (ms_eq a b)
 obtain ⟨r, hr⟩ : ∃ r, decide (a = b) = r := ⟨_, rfl⟩
 rw [hr] at HE ⊢
 clear hr m1 m2
 obtain ⟨a0, a1, a2, a3, a4, a5, a6, a7, a8, a9, a10⟩ := a
 obtain ⟨b0, b1, b2, b3, b4, b5, b6, b7, b8, b9, b10⟩ := b
 simp only at HP HS HQ HE ⊢
 unfold msA
 simp only
 obtain ⟨W1, hW1⟩ : ∃ W1, w.alloc (.cells #[.int .i64 a0, Str a1, Str a2, Str a3, Str a4, .slice xa xn xk, .slice ya yn yk, .int .i64 a7, Str a8, .slice za zn zk, Str a10] 27) = W1 := ⟨_, rfl⟩
 have x1 : Ext w W1 := by rw [← hW1]; exact Below.alloc (Below.refl _ _) (Nat.le_refl _) _
 have k1 : W1.heap[w.heap.size]? = some (.cells #[.int .i64 a0, Str a1, Str a2, Str a3, Str a4, .slice xa xn xk, .slice ya yn yk, .int .i64 a7, Str a8, .slice za zn zk, Str a10] 27 (0, 0)) := by rw [← hW1]; exact Array.getElem?_push_size
 obtain ⟨W2, hW2⟩ : ∃ W2, W1.alloc (.cells #[.int .i64 b0, Str b1, Str b2, Str b3, Str b4, .slice ta tn tk, .slice ua un uk, .int .i64 b7, Str b8, .slice va vn vk, Str b10] 27) = W2 := ⟨_, rfl⟩
 have x2 : Ext W1 W2 := by rw [← hW2]; exact Below.alloc (Below.refl _ _) (Nat.le_refl _) _
 have k2 : W2.heap[W1.heap.size]? = some (.cells #[.int .i64 b0, Str b1, Str b2, Str b3, Str b4, .slice ta tn tk, .slice ua un uk, .int .i64 b7, Str b8, .slice va vn vk, Str b10] 27 (0, 0)) := by rw [← hW2]; exact Array.getElem?_push_size
 have HK1 := Lib.hid (ext_at x2 k1); have HK2 := Lib.hid k2; have HX := Lib.hid (ext_trans x1 x2)
 clear x1 x2 k1 k2
 obtain ⟨c0, c1, c2, c3, c4, c5, c6, c7, c8, c9, c10⟩ := cells11 HK1.out
 obtain ⟨d0, d1, d2, d3, d4, d5, d6, d7, d8, d9, d10⟩ := cells11 HK2.out
 have ne5 : Hid (∀ {x y : List UInt8}, x ≠ y → (x == y) = false) := Lib.hid (fun h => by simp [h])
 by_cases q0 : a0 = b0
 case neg =>
  clear c1 d1 c2 d2 c3 d3 c4 d4 c5 d5 c6 d6 c7 d7 c8 d8 c9 d9 c10 d10
  have hd : r = false := by rw [HE.out]; simp [q0]
  subst hd
  have e0 : (a0 == b0) = false := by simp [q0]
  clear HE q0
  go_enter Tryz.func10, Tryz.ntmps10
  go_wp2
  try rw [hW1]
  try rw [hW2]
  go_ret
  exact ⟨rfl, HX.out⟩
 by_cases q1 : a1 = b1
 case neg =>
  subst q0
  clear c2 d2 c3 d3 c4 d4 c5 d5 c6 d6 c7 d7 c8 d8 c9 d9 c10 d10
  have hd : r = false := by rw [HE.out]; simp [q1]
  subst hd
  have e0 : (a1 == b1) = false := ne5.out q1
  clear HE q1
  go_enter Tryz.func10, Tryz.ntmps10
  go_wp2
  try rw [hW1]
  try rw [hW2]
  go_ret
  exact ⟨rfl, HX.out⟩
 by_cases q2 : a2 = b2
 case neg =>
  subst q0 q1
  clear c3 d3 c4 d4 c5 d5 c6 d6 c7 d7 c8 d8 c9 d9 c10 d10
  have hd : r = false := by rw [HE.out]; simp [q2]
  subst hd
  have e0 : (a2 == b2) = false := ne5.out q2
  clear HE q2
  go_enter Tryz.func10, Tryz.ntmps10
  go_wp2
  try rw [hW1]
  try rw [hW2]
  go_ret
  exact ⟨rfl, HX.out⟩
 by_cases q3 : a3 = b3
 case neg =>
  subst q0 q1 q2
  clear c4 d4 c5 d5 c6 d6 c7 d7 c8 d8 c9 d9 c10 d10
  have hd : r = false := by rw [HE.out]; simp [q3]
  subst hd
  have e0 : (a3 == b3) = false := ne5.out q3
  clear HE q3
  go_enter Tryz.func10, Tryz.ntmps10
  go_wp2
  try rw [hW1]
  try rw [hW2]
  go_ret
  exact ⟨rfl, HX.out⟩
 by_cases q4 : a4 = b4
 case neg =>
  subst q0 q1 q2 q3
  clear c5 d5 c6 d6 c7 d7 c8 d8 c9 d9 c10 d10
  have hd : r = false := by rw [HE.out]; simp [q4]
  subst hd
  have e0 : (a4 == b4) = false := ne5.out q4
  clear HE q4
  go_enter Tryz.func10, Tryz.ntmps10
  go_wp2
  try rw [hW1]
  try rw [hW2]
  go_ret
  exact ⟨rfl, HX.out⟩
 subst q0 q1 q2 q3 q4
 go_enter Tryz.func10, Tryz.ntmps10
 go_wp2_with fail
 try rw [hW1]
 try rw [hW2]
 clear hW1 hW2
 refine (HP.out _ HX.out).mono ?_
 rintro e W3 ⟨rfl, hx⟩
 have HX3 := Lib.hid (ext_trans HX.out hx)
 replace c6 := ext_cell hx c6; replace c7 := ext_cell hx c7; replace c8 := ext_cell hx c8; replace c9 := ext_cell hx c9; replace c10 := ext_cell hx c10
 replace d6 := ext_cell hx d6; replace d7 := ext_cell hx d7; replace d8 := ext_cell hx d8; replace d9 := ext_cell hx d9; replace d10 := ext_cell hx d10
 clear hx c0 c1 c2 c3 c4 c5 d0 d1 d2 d3 d4 d5
 by_cases q5 : a5 = b5
 case neg =>
  have hd : r = false := by rw [HE.out]; simp [q5]
  subst hd
  have e0 : decide (a5 = b5) = false := decide_eq_false q5
  rw [e0]
  clear HE q5 e0
  go_wp2
  go_ret
  exact ⟨rfl, HX3.out⟩
 have e5 : decide (a5 = b5) = true := decide_eq_true q5
 rw [e5]
 clear e5
 go_wp2_with fail
 refine (HS.out _ HX3.out).mono ?_
 rintro e V ⟨rfl, hw⟩
 subst V
 by_cases q6 : a6 = b6
 case neg =>
  have hd : r = false := by rw [HE.out]; simp [q6]
  subst hd
  have e0 : (a6 == b6) = false := ne5.out q6
  rw [e0]
  clear HE q6 e0 q5
  go_wp2
  go_ret
  exact ⟨rfl, HX3.out⟩
 have e6 : (a6 == b6) = true := by simp [q6]
 rw [e6]
 clear e6
 by_cases q7 : a7 = b7
 case neg =>
  have hd : r = false := by rw [HE.out]; simp [q7]
  subst hd
  have e0 : (a7 == b7) = false := by simp [q7]
  clear HE q7 q5 q6
  go_wp2
  go_ret
  exact ⟨rfl, HX3.out⟩
 by_cases q8 : a8 = b8
 case neg =>
  have hd : r = false := by rw [HE.out]; simp [q8]
  subst hd
  subst q7
  have e0 : (a8 == b8) = false := ne5.out q8
  clear HE q8 q5 q6
  go_wp2
  go_ret
  exact ⟨rfl, HX3.out⟩
 subst q7 q8
 have HE2 := Lib.hid (show r = (decide (a9 = b9) && decide (a10 = b10)) by rw [HE.out]; simp [q5, q6])
 clear HE q5 q6
 go_wp2_with fail
 refine (HQ.out _ HX3.out).mono ?_
 rintro e V ⟨rfl, hw⟩
 subst V
 by_cases q9 : a9 = b9
 case neg =>
  have hd : r = false := by rw [HE2.out]; simp [q9]
  subst hd
  have e0 : (a9 == b9) = false := ne5.out q9
  rw [e0]
  clear HE2 q9 e0
  go_wp2
  go_ret
  exact ⟨rfl, HX3.out⟩
 have e9 : (a9 == b9) = true := by simp [q9]
 rw [e9]
 clear e9
 by_cases q10 : a10 = b10
 case neg =>
  have hd : r = false := by rw [HE2.out]; simp [q10]
  subst hd
  have e0 : (a10 == b10) = false := ne5.out q10
  clear HE2 q10 q9
  go_wp2
  go_ret
  exact ⟨rfl, HX3.out⟩
 have hd : r = true := by rw [HE2.out]; simp [q9, q10]
 subst hd q10
 clear HE2 q9
 go_wp2
 go_ret
 exact ⟨rfl, HX3.out⟩
end Go.Proofs.YtjkbigecejogdaaGreatDoor
