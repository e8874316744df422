/-
  trace.Read: of a line.
-/
import Derived.Test.YtpndahmlbjhdfaaDoorRows
import Derived.Test.YtpndahmlbjhdfaaDoorRt5
import Derived.Test.YtpndahmlbjhdfaaDoorEvl
import Derived.Test.YtpndahmlbjhdfaaDoorHxp
namespace Go.Proofs.YtpndahmlbjhdfaaDoor
open Go.RowKit
set_option maxRecDepth 100000
attribute [local go_sem] Oper.semAt_some
set_option linter.unusedVariables false
set_option linter.unusedSimpArgs false
theorem ext_setR {w W : World} {b i : Nat} {v : Value} (h : Ext w W) (hb : w.heap.size ≤ b) : Ext w (W.setCell ⟨b, i, none⟩ v) :=
  below_chg h (Chg.setCell W ⟨b, i, none⟩ v) (fun k hk => by have hk' : k = b := hk; omega) (Nat.le_refl _)
theorem run_min_u64 (P : Program) (a b : Nat) (b' : Int) (hb : b' = (b : Int)) : ∀ (ts : Array TypeId) (t : TypeId) (W : World), (Builtin.min_ ts t #[.int .u64 (a : Int), .int .u64 b']).run P W = .ok (.int .u64 ((min a b : Nat) : Int)) W := by
  intro ts t W
  subst hb
  simp only [Builtin.min_, List.foldlM, Builtin.min2, Sem.run_bind, Sem.run_pure, Result.andThen]
  by_cases h : b < a
  · rw [if_pos (by omega)]; simp [Nat.min_eq_right (Nat.le_of_lt h)]
  · rw [if_neg (by omega)]; simp [Nat.min_eq_left (Nat.le_of_not_lt h)]
theorem unhR_le (t : List UInt8) : (unhR t).1.length ≤ t.length := by
  by_cases h : (unhR t).2 = 0
  · have h1 := unhR_canon t h
    have h2 := hexL_len (unhR t).1
    rw [h1] at h2
    omega
  · unfold unhR at h ⊢
    split
    · rename_i h1
      rw [if_pos h1] at h
      split
      · rename_i h2
        rw [if_pos h2] at h
        exact absurd rfl h
      · simp
    · simp
set_option maxHeartbeats 1000000 in
theorem cread_any (s : List UInt8) (hl : s.length ≤ 600) (w : World) (hL : Lb w) :
    Calls Tryd.prog 31 #[Str s] w fun e w' => e = .returned (rdV s) ∧ Ext w w' := by
  have HLb := Lib.hid hL
  clear hL
  go_enter Tryd.func31, Tryd.ntmps31
  go_wp2_with fail
  obtain ⟨W0, hW0⟩ : ∃ W0, w.alloc (.cells #[.int .u64 0, .int .u64 0, .string ⟨#[]⟩, .int .i64 0, .string ⟨#[]⟩] 37) = W0 := ⟨_, rfl⟩
  have hx0 : Ext w W0 := by rw [← hW0]; exact Below.alloc (Below.refl _ _) (Nat.le_refl _) _
  have hb0 : W0.heap[w.heap.size]? = some (.cells #[.int .u64 0, .int .u64 0, .string ⟨#[]⟩, .int .i64 0, .string ⟨#[]⟩] 37 (0, 0)) := by rw [← hW0]; exact Array.getElem?_push_size
  rw [hW0]
  clear hW0
  refine (show Calls Tryd.prog 55 #[Str s, Str [32]] W0 _ from split_any s 32 (by omega) W0 (HLb.out.ext hx0)).mono ?_
  rintro e W1 ⟨rfl, hw1⟩
  have hx1 : Ext W0 W1 := by rw [hw1]; exact Below.alloc (Below.refl _ _) (Nat.le_refl _) _
  have hg1 : W1.heap[W0.heap.size]? = some (.cells ((spb 32 s).map Str).toArray 9 (0, 0)) := by rw [hw1]; exact Array.getElem?_push_size
  have HX := Lib.hid (ext_trans hx0 hx1)
  have hb1 := ext_at hx1 hb0
  clear hx0 hb0 hw1 hx1
  generalize W0.heap.size = g at *
  by_cases h5 : (spb 32 s).length = 5
  · obtain ⟨a, b, c, d, t, hs⟩ := five _ h5
    have hpl : ∀ p ∈ [a, b, c, d, t], p.length ≤ 600 := fun p hp => Nat.le_trans (spb_part 32 s p (by rw [hs]; exact hp)) hl
    rw [hs] at hg1
    have HGR := Lib.hid (show W1.heap[g]? = some (.cells #[Str a, Str b, Str c, Str d, Str t] 9 (0, 0)) from hg1)
    have la := hpl a (by simp); have lb := hpl b (by simp); have lc := hpl c (by simp); have ld := hpl d (by simp); have lt := hpl t (by simp)
    have HB := Lib.hid hb1
    have HNa := Lib.hid (fun W hx => number_any a (by omega) W (HLb.out.ext hx)); have HNb := Lib.hid (fun W hx => number_any b (by omega) W (HLb.out.ext hx)); have HNd := Lib.hid (fun W hx => number_any d (by omega) W (HLb.out.ext hx))
    obtain ⟨q0, q1, q2, q3, q4⟩ := cells5 hg1
    rw [hs]
    clear hpl hb1 hg1 h5
    go_wp2_with fail
    refine (HNa.out _ HX.out).mono ?_
    rintro e W2 ⟨⟨na, rfl, ma, va⟩, hx2⟩
    have HX2 := Lib.hid (ext_trans HX.out hx2)
    have HG2 := Lib.hid (ext_at hx2 HGR.out)
    have HB2 := Lib.hid (ext_at hx2 HB.out)
    clear hx2 HGR HB q0 q1 q2 q3 q4
    obtain ⟨q0, q1, q2, q3, q4⟩ := cells5 HG2.out
    go_wp2_with fail
    refine (HNb.out _ HX2.out).mono ?_
    rintro e W3 ⟨⟨nb, rfl, mb, vb⟩, hx3⟩
    have HX3 := Lib.hid (ext_trans HX2.out hx3)
    have HG3 := Lib.hid (ext_at hx3 HG2.out)
    have HB3 := Lib.hid (ext_at hx3 HB2.out)
    clear hx3 HG2 HB2 q0 q1 q2 q3 q4
    obtain ⟨q0, q1, q2, q3, q4⟩ := cells5 HG3.out
    go_wp2_with fail
    refine (HNd.out _ HX3.out).mono ?_
    rintro e W4 ⟨⟨nd, rfl, md, vd⟩, hx4⟩
    have HX4 := Lib.hid (ext_trans HX3.out hx4)
    have HG4 := Lib.hid (ext_at hx4 HG3.out)
    have HB4 := Lib.hid (ext_at hx4 HB3.out)
    clear hx4 HG3 HB3 q0 q1 q2 q3 q4 HNa HNb HNd
    obtain ⟨q0, q1, q2, q3, q4⟩ := cells5 HG4.out
    have HR := Lib.hid (code_read s a b c d t hs na nb nd va vb vd)
    clear va vb vd
    have hmin := run_min_u64 Tryd.prog nd 9007199254740992 9007199254740992 rfl
    have hmn : min nd 9007199254740992 ≤ 9007199254740992 := Nat.min_le_right _ _
    by_cases h45 : t = [45]
    · have hrd := HR.out [] true (fun _ => ⟨rfl, rfl⟩) (fun h => absurd h45 h)
      subst h45
      have HCV := Lib.hid (show ∀ W, Ext W4 W → (convert 45 9 (.slice none 0 0)).run Tryd.prog W = .ok (Str []) W from fun W _ => str_of_sl (sl_nil W))
      clear HR
      have hok : (Ev.mk na nb c ((min nd 9007199254740992 : Nat) : Int) []).ok := ⟨ma, mb, by show (-9223372036854775808 : Int) ≤ ((min nd 9007199254740992 : Nat) : Int); omega, by show ((min nd 9007199254740992 : Nat) : Int) ≤ 9223372036854775807; omega, by show c.length ≤ 1000; omega, by show [].length ≤ 1000; first | omega | (simp; done)⟩
      have HLN := Lib.hid (Line_any (Ev.mk na nb c ((min nd 9007199254740992 : Nat) : Int) []) hok)
      clear hok
      have HRD := Lib.hid hrd
      clear hrd
      generalize (Ev.mk na nb c ((min nd 9007199254740992 : Nat) : Int) []).line = ln at *
      generalize hR : (Ev.mk na nb c ((min nd 9007199254740992 : Nat) : Int) []).right = R at *
      simp only [evC] at HLN
      generalize min nd 9007199254740992 = kd at *
      obtain ⟨gs, hgs⟩ : ∃ gs, W4.heap.size = gs := ⟨_, rfl⟩
      have HGS := Lib.hid hgs
      have HK2 := Lib.hid q2
      clear hgs
      go_wp2_with fail
      clear q0 q1 q2 q3 q4
      -- inv {'ops': [('mv', 54, 5, '.int .u64 (na : Int)'), ('mv', 55, 7, '.int .u64 (nb : Int)'), ('mv', 56, 4, '.slice (some ⟨g, 0, none⟩) 5 5'), ('op', 57, [2], '.pointer (some ⟨g, 2, none⟩)'), ('lf', 58, 3, 'Str c', 'have d0 := ext_cell E0 HK2.out'), ('mv', 59, 9, '.int .u64 (nd : Int)'), ('op', 60, [5], '.int .u64 (kd : Int)'), ('op', 61, [6], '.int .i64 (kd : Int)'), ('mv', 62, 11, '.slice none 0 0'), ('lf', 63, 8, 'Str []', "have d0 := HCV.out w' E0"), ('op', 64, [0, 1, 4, 7, 9], '.agg #[.int .u64 (na : Int), .int .u64 (nb : Int), Str c, .int .i64 (kd : Int), Str []]'), ('al', 13, 'gs', ['.int .u64 0', '.int .u64 0', '.string ⟨#[]⟩', '.int .i64 0', '.string ⟨#[]⟩'], '37'), ('st', None, [10, 11], 'have hc9 := X1 (hp.of 11 (by kernel_rfl)) hL; have hf9 := frozen_row hc9; have hb9 := (Array.getElem?_eq_some_iff.1 hc9).1; obtain ⟨z0, z1, z2, z3, z4⟩ := cells5 hc9')], 'W': [('E0', "Ext W4 w'", 'Below.drew (Below.refl _ _)'), ('V0', "L 11 = false → w'.heap.size = gs", 'fun _ => HGS.out'), ('X1', "L 11 = true → L 12 = false → w'.heap[gs]? = some (.cells #[.int .u64 0, .int .u64 0, .string ⟨#[]⟩, .int .i64 0, .string ⟨#[]⟩] 37 (0, 0))", '(fun h => by cases h)'), ('Y2', "L 12 = true → w'.heap[gs]? = some (.cells #[.int .u64 (na : Int), .int .u64 (nb : Int), Str c, .int .i64 (kd : Int), Str []] 37 (0, 0))", '(fun h => by cases h)')], 'over': {11: {'X1': 'fun _ _ => by rw [← hsz]; exact Array.getElem?_push_size', 'Y2': 'fun h => absurd h (by simp [hcl.not 12 (by kernel_rfl) hL])'}, 12: {'E0': 'ext_setR (ext_setR (ext_setR (ext_setR (ext_setR (E0) (by have := HGS.out; omega)) (by have := HGS.out; omega)) (by have := HGS.out; omega)) (by have := HGS.out; omega)) (by have := HGS.out; omega)', 'V0': 'fun h => absurd (hp.of 11 (by kernel_rfl)) (by simp at h; simp [h])', 'X1': 'fun h h2 => absurd h2 (by simp)', 'Y2': 'fun _ => (by obtain ⟨_, rfl, h, _⟩ := set5 hc9 (.int .u64 (na : Int)) (.int .u64 (nb : Int)) (Str c) (.int .i64 (kd : Int)) (Str []); exact h)'}}, 'fin': [('Y2', 12)]}
      refine wp_region_any (by kernel_rfl) ?_
      change wpAny _ _ _ _ _ _ _ (World.drew _)
      refine wpAny_inv (n := 13) [54, 55, 56, 57, 58, 59, 60, 61, 62, 63, 64, 13] (fun u L w' =>
          (L 0 = true → u 54 = .int .u64 (na : Int)) ∧
          (L 1 = true → u 55 = .int .u64 (nb : Int)) ∧
          (L 2 = true → u 56 = .slice (some ⟨g, 0, none⟩) 5 5) ∧
          (L 3 = true → u 57 = .pointer (some ⟨g, 2, none⟩)) ∧
          (L 4 = true → u 58 = Str c) ∧
          (L 5 = true → u 59 = .int .u64 (nd : Int)) ∧
          (L 6 = true → u 60 = .int .u64 (kd : Int)) ∧
          (L 7 = true → u 61 = .int .i64 (kd : Int)) ∧
          (L 8 = true → u 62 = .slice none 0 0) ∧
          (L 9 = true → u 63 = Str []) ∧
          (L 10 = true → u 64 = .agg #[.int .u64 (na : Int), .int .u64 (nb : Int), Str c, .int .i64 (kd : Int), Str []]) ∧
          (L 11 = true → u 13 = .pointer (some ⟨gs, 0, none⟩)) ∧
          (Ext W4 w') ∧
          (L 11 = false → w'.heap.size = gs) ∧
          (L 11 = true → L 12 = false → w'.heap[gs]? = some (.cells #[.int .u64 0, .int .u64 0, .string ⟨#[]⟩, .int .i64 0, .string ⟨#[]⟩] 37 (0, 0))) ∧
          (L 12 = true → w'.heap[gs]? = some (.cells #[.int .u64 (na : Int), .int .u64 (nb : Int), Str c, .int .i64 (kd : Int), Str []] 37 (0, 0))))
        (by rfl) (by kernel_rfl) (by kernel_rfl) (by rfl) ?_ ?_ ?_
      · exact ⟨(fun h => by cases h), (fun h => by cases h), (fun h => by cases h), (fun h => by cases h), (fun h => by cases h), (fun h => by cases h), (fun h => by cases h), (fun h => by cases h), (fun h => by cases h), (fun h => by cases h), (fun h => by cases h), (fun h => by cases h), Below.drew (Below.refl _ _), fun _ => HGS.out, (fun h => by cases h), (fun h => by cases h)⟩
      · refine ⟨⟨⟨⟨⟨⟨⟨⟨⟨⟨⟨⟨⟨trivial, ?_⟩, ?_⟩, ?_⟩, ?_⟩, ?_⟩, ?_⟩, ?_⟩, ?_⟩, ?_⟩, ?_⟩, ?_⟩, ?_⟩, ?_⟩
        · refine stepOk_some (i := 0) (by rfl) (by rfl) ?_
          rintro u L T w' hT hu hL hp hcl ⟨C0, C1, C2, C3, C4, C5, C6, C7, C8, C9, C10, C11, E0, V0, X1, Y2⟩ K hK
          have e1 : u 5 = .int .u64 (na : Int) := hu 5 (by decide)
          go_simp
          refine hK _ _ ?_
          exact ⟨fun _ => rfl, fun h => C1 (by simpa using h), fun h => C2 (by simpa using h), fun h => C3 (by simpa using h), fun h => C4 (by simpa using h), fun h => C5 (by simpa using h), fun h => C6 (by simpa using h), fun h => C7 (by simpa using h), fun h => C8 (by simpa using h), fun h => C9 (by simpa using h), fun h => C10 (by simpa using h), fun h => C11 (by simpa using h), E0, fun h => V0 (by simpa using h), fun h h2 => X1 (by simpa using h) (by simpa using h2), fun h => Y2 (by simpa using h)⟩
        · refine stepOk_some (i := 1) (by rfl) (by rfl) ?_
          rintro u L T w' hT hu hL hp hcl ⟨C0, C1, C2, C3, C4, C5, C6, C7, C8, C9, C10, C11, E0, V0, X1, Y2⟩ K hK
          have e1 : u 7 = .int .u64 (nb : Int) := hu 7 (by decide)
          go_simp
          refine hK _ _ ?_
          exact ⟨fun h => C0 (by simpa using h), fun _ => rfl, fun h => C2 (by simpa using h), fun h => C3 (by simpa using h), fun h => C4 (by simpa using h), fun h => C5 (by simpa using h), fun h => C6 (by simpa using h), fun h => C7 (by simpa using h), fun h => C8 (by simpa using h), fun h => C9 (by simpa using h), fun h => C10 (by simpa using h), fun h => C11 (by simpa using h), E0, fun h => V0 (by simpa using h), fun h h2 => X1 (by simpa using h) (by simpa using h2), fun h => Y2 (by simpa using h)⟩
        · refine stepOk_some (i := 2) (by rfl) (by rfl) ?_
          rintro u L T w' hT hu hL hp hcl ⟨C0, C1, C2, C3, C4, C5, C6, C7, C8, C9, C10, C11, E0, V0, X1, Y2⟩ K hK
          have e1 : u 4 = .slice (some ⟨g, 0, none⟩) 5 5 := hu 4 (by decide)
          go_simp
          refine hK _ _ ?_
          exact ⟨fun h => C0 (by simpa using h), fun h => C1 (by simpa using h), fun _ => rfl, fun h => C3 (by simpa using h), fun h => C4 (by simpa using h), fun h => C5 (by simpa using h), fun h => C6 (by simpa using h), fun h => C7 (by simpa using h), fun h => C8 (by simpa using h), fun h => C9 (by simpa using h), fun h => C10 (by simpa using h), fun h => C11 (by simpa using h), E0, fun h => V0 (by simpa using h), fun h h2 => X1 (by simpa using h) (by simpa using h2), fun h => Y2 (by simpa using h)⟩
        · refine stepOk_some (i := 3) (by rfl) (by rfl) ?_
          rintro u L T w' hT hu hL hp hcl ⟨C0, C1, C2, C3, C4, C5, C6, C7, C8, C9, C10, C11, E0, V0, X1, Y2⟩ K hK
          have e2 := C2 (hp.of 2 (by kernel_rfl))
          go_simp
          try go_bits
          try (rw [if_neg (by omega)]; go_simp)
          try (rw [if_pos (by omega)]; go_simp)
          refine hK _ _ ?_
          exact ⟨fun h => C0 (by simpa using h), fun h => C1 (by simpa using h), fun h => C2 (by simpa using h), fun _ => rfl, fun h => C4 (by simpa using h), fun h => C5 (by simpa using h), fun h => C6 (by simpa using h), fun h => C7 (by simpa using h), fun h => C8 (by simpa using h), fun h => C9 (by simpa using h), fun h => C10 (by simpa using h), fun h => C11 (by simpa using h), E0, fun h => V0 (by simpa using h), fun h h2 => X1 (by simpa using h) (by simpa using h2), fun h => Y2 (by simpa using h)⟩
        · refine stepOk_some (i := 4) (by rfl) (by rfl) ?_
          rintro u L T w' hT hu hL hp hcl ⟨C0, C1, C2, C3, C4, C5, C6, C7, C8, C9, C10, C11, E0, V0, X1, Y2⟩ K hK
          have e3 := C3 (hp.of 3 (by kernel_rfl))
          have d0 := ext_cell E0 HK2.out
          go_simp
          refine hK _ _ ?_
          exact ⟨fun h => C0 (by simpa using h), fun h => C1 (by simpa using h), fun h => C2 (by simpa using h), fun h => C3 (by simpa using h), fun _ => rfl, fun h => C5 (by simpa using h), fun h => C6 (by simpa using h), fun h => C7 (by simpa using h), fun h => C8 (by simpa using h), fun h => C9 (by simpa using h), fun h => C10 (by simpa using h), fun h => C11 (by simpa using h), E0, fun h => V0 (by simpa using h), fun h h2 => X1 (by simpa using h) (by simpa using h2), fun h => Y2 (by simpa using h)⟩
        · refine stepOk_some (i := 5) (by rfl) (by rfl) ?_
          rintro u L T w' hT hu hL hp hcl ⟨C0, C1, C2, C3, C4, C5, C6, C7, C8, C9, C10, C11, E0, V0, X1, Y2⟩ K hK
          have e1 : u 9 = .int .u64 (nd : Int) := hu 9 (by decide)
          go_simp
          refine hK _ _ ?_
          exact ⟨fun h => C0 (by simpa using h), fun h => C1 (by simpa using h), fun h => C2 (by simpa using h), fun h => C3 (by simpa using h), fun h => C4 (by simpa using h), fun _ => rfl, fun h => C6 (by simpa using h), fun h => C7 (by simpa using h), fun h => C8 (by simpa using h), fun h => C9 (by simpa using h), fun h => C10 (by simpa using h), fun h => C11 (by simpa using h), E0, fun h => V0 (by simpa using h), fun h h2 => X1 (by simpa using h) (by simpa using h2), fun h => Y2 (by simpa using h)⟩
        · refine stepOk_some (i := 6) (by rfl) (by rfl) ?_
          rintro u L T w' hT hu hL hp hcl ⟨C0, C1, C2, C3, C4, C5, C6, C7, C8, C9, C10, C11, E0, V0, X1, Y2⟩ K hK
          have e5 := C5 (hp.of 5 (by kernel_rfl))
          go_simp
          try go_bits
          try (rw [if_neg (by omega)]; go_simp)
          try (rw [if_pos (by omega)]; go_simp)
          refine hK _ _ ?_
          exact ⟨fun h => C0 (by simpa using h), fun h => C1 (by simpa using h), fun h => C2 (by simpa using h), fun h => C3 (by simpa using h), fun h => C4 (by simpa using h), fun h => C5 (by simpa using h), fun _ => rfl, fun h => C7 (by simpa using h), fun h => C8 (by simpa using h), fun h => C9 (by simpa using h), fun h => C10 (by simpa using h), fun h => C11 (by simpa using h), E0, fun h => V0 (by simpa using h), fun h h2 => X1 (by simpa using h) (by simpa using h2), fun h => Y2 (by simpa using h)⟩
        · refine stepOk_some (i := 7) (by rfl) (by rfl) ?_
          rintro u L T w' hT hu hL hp hcl ⟨C0, C1, C2, C3, C4, C5, C6, C7, C8, C9, C10, C11, E0, V0, X1, Y2⟩ K hK
          have e6 := C6 (hp.of 6 (by kernel_rfl))
          go_simp
          try go_bits
          try (rw [if_neg (by omega)]; go_simp)
          try (rw [if_pos (by omega)]; go_simp)
          refine hK _ _ ?_
          exact ⟨fun h => C0 (by simpa using h), fun h => C1 (by simpa using h), fun h => C2 (by simpa using h), fun h => C3 (by simpa using h), fun h => C4 (by simpa using h), fun h => C5 (by simpa using h), fun h => C6 (by simpa using h), fun _ => rfl, fun h => C8 (by simpa using h), fun h => C9 (by simpa using h), fun h => C10 (by simpa using h), fun h => C11 (by simpa using h), E0, fun h => V0 (by simpa using h), fun h h2 => X1 (by simpa using h) (by simpa using h2), fun h => Y2 (by simpa using h)⟩
        · refine stepOk_some (i := 8) (by rfl) (by rfl) ?_
          rintro u L T w' hT hu hL hp hcl ⟨C0, C1, C2, C3, C4, C5, C6, C7, C8, C9, C10, C11, E0, V0, X1, Y2⟩ K hK
          have e1 : u 11 = .slice none 0 0 := hu 11 (by decide)
          go_simp
          refine hK _ _ ?_
          exact ⟨fun h => C0 (by simpa using h), fun h => C1 (by simpa using h), fun h => C2 (by simpa using h), fun h => C3 (by simpa using h), fun h => C4 (by simpa using h), fun h => C5 (by simpa using h), fun h => C6 (by simpa using h), fun h => C7 (by simpa using h), fun _ => rfl, fun h => C9 (by simpa using h), fun h => C10 (by simpa using h), fun h => C11 (by simpa using h), E0, fun h => V0 (by simpa using h), fun h h2 => X1 (by simpa using h) (by simpa using h2), fun h => Y2 (by simpa using h)⟩
        · refine stepOk_some (i := 9) (by rfl) (by rfl) ?_
          rintro u L T w' hT hu hL hp hcl ⟨C0, C1, C2, C3, C4, C5, C6, C7, C8, C9, C10, C11, E0, V0, X1, Y2⟩ K hK
          have e8 := C8 (hp.of 8 (by kernel_rfl))
          have d0 := HCV.out w' E0
          go_simp
          refine hK _ _ ?_
          exact ⟨fun h => C0 (by simpa using h), fun h => C1 (by simpa using h), fun h => C2 (by simpa using h), fun h => C3 (by simpa using h), fun h => C4 (by simpa using h), fun h => C5 (by simpa using h), fun h => C6 (by simpa using h), fun h => C7 (by simpa using h), fun h => C8 (by simpa using h), fun _ => rfl, fun h => C10 (by simpa using h), fun h => C11 (by simpa using h), E0, fun h => V0 (by simpa using h), fun h h2 => X1 (by simpa using h) (by simpa using h2), fun h => Y2 (by simpa using h)⟩
        · refine stepOk_some (i := 10) (by rfl) (by rfl) ?_
          rintro u L T w' hT hu hL hp hcl ⟨C0, C1, C2, C3, C4, C5, C6, C7, C8, C9, C10, C11, E0, V0, X1, Y2⟩ K hK
          have e0 := C0 (hp.of 0 (by kernel_rfl))
          have e1 := C1 (hp.of 1 (by kernel_rfl))
          have e4 := C4 (hp.of 4 (by kernel_rfl))
          have e7 := C7 (hp.of 7 (by kernel_rfl))
          have e9 := C9 (hp.of 9 (by kernel_rfl))
          go_simp
          try go_bits
          try (rw [if_neg (by omega)]; go_simp)
          try (rw [if_pos (by omega)]; go_simp)
          refine hK _ _ ?_
          exact ⟨fun h => C0 (by simpa using h), fun h => C1 (by simpa using h), fun h => C2 (by simpa using h), fun h => C3 (by simpa using h), fun h => C4 (by simpa using h), fun h => C5 (by simpa using h), fun h => C6 (by simpa using h), fun h => C7 (by simpa using h), fun h => C8 (by simpa using h), fun h => C9 (by simpa using h), fun _ => rfl, fun h => C11 (by simpa using h), E0, fun h => V0 (by simpa using h), fun h h2 => X1 (by simpa using h) (by simpa using h2), fun h => Y2 (by simpa using h)⟩
        · refine stepOk_some (i := 11) (by rfl) (by rfl) ?_
          rintro u L T w' hT hu hL hp hcl ⟨C0, C1, C2, C3, C4, C5, C6, C7, C8, C9, C10, C11, E0, V0, X1, Y2⟩ K hK
          have hsz := V0 hL
          go_simp
          have hx1 : Ext w' (w'.alloc (.cells #[.int .u64 0, .int .u64 0, .string ⟨#[]⟩, .int .i64 0, .string ⟨#[]⟩] 37)) := Below.alloc (Below.refl _ _) (Nat.le_refl _) _
          refine hK _ _ ?_
          exact ⟨fun h => C0 (by simpa using h), fun h => C1 (by simpa using h), fun h => C2 (by simpa using h), fun h => C3 (by simpa using h), fun h => C4 (by simpa using h), fun h => C5 (by simpa using h), fun h => C6 (by simpa using h), fun h => C7 (by simpa using h), fun h => C8 (by simpa using h), fun h => C9 (by simpa using h), fun h => C10 (by simpa using h), fun _ => by rw [← hsz]; rfl, ext_trans (E0) hx1, fun h => absurd h (by simp), fun _ _ => by rw [← hsz]; exact Array.getElem?_push_size, fun h => absurd h (by simp [hcl.not 12 (by kernel_rfl) hL])⟩
        · refine stepOk_none (i := 12) (by rfl) (by rfl) ?_
          rintro u L T w' hT hu hL hp hcl ⟨C0, C1, C2, C3, C4, C5, C6, C7, C8, C9, C10, C11, E0, V0, X1, Y2⟩ K hK
          have e10 := C10 (hp.of 10 (by kernel_rfl))
          have e11 := C11 (hp.of 11 (by kernel_rfl))
          have hc9 := X1 (hp.of 11 (by kernel_rfl)) hL; have hf9 := frozen_row hc9; have hb9 := (Array.getElem?_eq_some_iff.1 hc9).1; obtain ⟨z0, z1, z2, z3, z4⟩ := cells5 hc9
          go_simp
          refine hK _ ?_
          exact ⟨fun h => C0 (by simpa using h), fun h => C1 (by simpa using h), fun h => C2 (by simpa using h), fun h => C3 (by simpa using h), fun h => C4 (by simpa using h), fun h => C5 (by simpa using h), fun h => C6 (by simpa using h), fun h => C7 (by simpa using h), fun h => C8 (by simpa using h), fun h => C9 (by simpa using h), fun h => C10 (by simpa using h), fun h => C11 (by simpa using h), ext_setR (ext_setR (ext_setR (ext_setR (ext_setR (E0) (by have := HGS.out; omega)) (by have := HGS.out; omega)) (by have := HGS.out; omega)) (by have := HGS.out; omega)) (by have := HGS.out; omega), fun h => absurd (hp.of 11 (by kernel_rfl)) (by simp at h; simp [h]), fun h h2 => absurd h2 (by simp), fun _ => (by obtain ⟨_, rfl, h, _⟩ := set5 hc9 (.int .u64 (na : Int)) (.int .u64 (nb : Int)) (Str c) (.int .i64 (kd : Int)) (Str []); exact h)⟩
      · rintro u L w' hall hu ⟨C0, C1, C2, C3, C4, C5, C6, C7, C8, C9, C10, C11, E0, V0, X1, Y2⟩
        replace Y2 := Y2 (hall 12 (by omega))
        replace C0 := C0 (hall 0 (by omega))
        replace C1 := C1 (hall 1 (by omega))
        replace C2 := C2 (hall 2 (by omega))
        replace C3 := C3 (hall 3 (by omega))
        replace C4 := C4 (hall 4 (by omega))
        replace C5 := C5 (hall 5 (by omega))
        replace C6 := C6 (hall 6 (by omega))
        replace C7 := C7 (hall 7 (by omega))
        replace C8 := C8 (hall 8 (by omega))
        replace C9 := C9 (hall 9 (by omega))
        replace C10 := C10 (hall 10 (by omega))
        replace C11 := C11 (hall 11 (by omega))
        simp only [fill, List.setIfInBounds_toArray, List.set_cons_succ, List.set_cons_zero, C0, C1, C2, C3, C4, C5, C6, C7, C8, C9, C10, C11]
        clear C0 C1 C2 C3 C4 C5 C6 C7 C8 C9 C10 C11 hu hall
      -- end inv
        have HY := Lib.hid (Y2)
        have HB9 := Lib.hid (ext_at E0 HB4.out)
        have HX9 := Lib.hid (ext_trans HX4.out E0)
        clear Y2 E0 V0 X1 HCV HK2
        obtain ⟨z0, z1, z2, z3, z4⟩ := cells5 HY.out
        go_wp2_with fail
        refine (HLN.out _ ((HLb.out.ext HX9.out).lt')).mono ?_
        rintro e W5 ⟨rfl, hx5⟩
        have HX5 := Lib.hid (ext_trans HX9.out hx5)
        have hb5 := ext_at hx5 HY.out
        have hb6 := ext_at hx5 HB9.out
        clear z0 z1 z2 z3 z4 HY hx5 HB9 HX9 HLN
        obtain ⟨u0, u1, u2, u3, u4⟩ := cells5 hb5
        obtain ⟨d0, d1, d2, d3, d4⟩ := cells5 hb6
        have hf := frozen_row hb6
        have HB6 := Lib.hid hb6
        clear hb5 hb6
        by_cases hG : numB a = true ∧ numB b = true ∧ numB d = true ∧ R = true ∧ ln = s
        · obtain ⟨g1, g2, g3, rfl, g6⟩ := hG
          have hz : rdE s = some (Ev.mk na nb c (kd : Int) []) := by
            rw [← HRD.out, if_pos ⟨g1, g2, g3, by first | trivial | rfl, by first | trivial | rfl, g6⟩]
          have t9 : (ln == s) = true := by rw [g6]; simp
          rw [g1, g2, g3]
          simp only [if_true]
          clear hR g6
          go_wp2_with fail
          obtain ⟨W9, hW9, hst, hch⟩ := set5 HB6.out (.int .u64 (na : Int)) (.int .u64 (nb : Int)) (Str c) (.int .i64 (kd : Int)) (Str [])
          rw [hW9]
          obtain ⟨e0', e1', e2', e3', e4'⟩ := cells5 hst
          have hv : rdV s = .tuple #[.agg #[.int .u64 (na : Int), .int .u64 (nb : Int), Str c, .int .i64 (kd : Int), Str []], .int .i64 0] := by
            rw [rdV, hz]
            rfl
          refine bodyPost_ret (v := rdV s) (by rw [hv]; simp [results, Tryd.results31, go_sem, e0', e1', e2', e3', e4']) rfl ⟨rfl, below_chg HX5.out hch (fun k hk => by have hk' : k = w.heap.size := hk; omega) (Nat.le_refl _)⟩
        · have hz : rdE s = none := by rw [← HRD.out, if_neg (fun h => hG ⟨h.1, h.2.1, h.2.2.1, h.2.2.2.2.1, h.2.2.2.2.2⟩)]
          have HG := Lib.hid (show ¬ (numB a = true ∧ numB b = true ∧ numB d = true ∧ R = true ∧ (ln == s) = true) from fun h => hG ⟨h.1, h.2.1, h.2.2.1, h.2.2.2.1, by simpa using h.2.2.2.2⟩)
          clear hG hR HRD
          obtain ⟨q, hq⟩ : ∃ q, (ln == s) = q := ⟨_, rfl⟩
          rw [hq] at HG
          generalize numB a = A at *
          generalize numB b = B at *
          generalize numB d = D at *
          cases q <;> cases R <;>
          (simp only [if_true, if_false, Bool.false_eq_true]
           go_wp2_with fail
           all_goals first
             | exact absurd ⟨by assumption, by assumption, by assumption, by first | trivial | rfl, by first | trivial | rfl⟩ HG.out
             | (obtain ⟨W9, hW9, hst, hch⟩ := set5 HB6.out (.int .u64 0) (.int .u64 0) (.string ⟨#[]⟩) (.int .i64 0) (.string ⟨#[]⟩)
                rw [hW9]
                obtain ⟨e0', e1', e2', e3', e4'⟩ := cells5 hst
                refine bodyPost_ret (v := rdV s) (by simp [results, Tryd.results31, go_sem, e0', e1', e2', e3', e4', rdV, hz, evC, evZ]) rfl ⟨rfl, below_chg HX5.out hch (fun k hk => by have hk' : k = w.heap.size := hk; omega) (Nat.le_refl _)⟩))
    · have t1 : (t == [45]) = false := by simpa using h45
      go_wp2_with fail
      refine (unhex_any t _ (by omega)).mono ?_
      rintro e W6 ⟨v6, rfl, ho6, hx6⟩
      have hsl6 := sl_of_own ho6
      have hle := unhR_le t
      have HCV := Lib.hid (show ∀ W, Ext W6 W → (convert 45 9 v6).run Tryd.prog W = .ok (Str (unhR t).1) W from fun W h => str_of_sl (hsl6.ext h))
      have HX6 := Lib.hid (ext_trans HX4.out hx6)
      have HB6 := Lib.hid (ext_at hx6 HB4.out)
      obtain ⟨q0', q1', q2', q3', q4'⟩ := cells5 (ext_at hx6 HG4.out)
      have hrd := HR.out (unhR t).1 (decide ((unhR t).2 = 0)) (fun h => absurd h h45) (fun _ => ⟨rfl, rfl⟩)
      clear q0 q1 q2 q3 q4 HX4 HB4 HG4 hx6 ho6 hsl6 HR
      have q0 := q0'; have q1 := q1'; have q2 := q2'; have q3 := q3'; have q4 := q4'
      clear q0' q1' q2' q3' q4'
      generalize unhR t = un at *
      obtain ⟨px, code⟩ := un
      simp only at HCV hrd hle ⊢
      by_cases hc0 : code = 0
      · subst hc0
        rw [decide_eq_true rfl] at hrd
        have hok : (Ev.mk na nb c ((min nd 9007199254740992 : Nat) : Int) px).ok := ⟨ma, mb, by show (-9223372036854775808 : Int) ≤ ((min nd 9007199254740992 : Nat) : Int); omega, by show ((min nd 9007199254740992 : Nat) : Int) ≤ 9223372036854775807; omega, by show c.length ≤ 1000; omega, by show px.length ≤ 1000; first | omega | (simp; done)⟩
        have HLN := Lib.hid (Line_any (Ev.mk na nb c ((min nd 9007199254740992 : Nat) : Int) px) hok)
        clear hok
        have HRD := Lib.hid hrd
        clear hrd
        generalize (Ev.mk na nb c ((min nd 9007199254740992 : Nat) : Int) px).line = ln at *
        generalize hR : (Ev.mk na nb c ((min nd 9007199254740992 : Nat) : Int) px).right = R at *
        simp only [evC] at HLN
        generalize min nd 9007199254740992 = kd at *
        obtain ⟨gs, hgs⟩ : ∃ gs, W6.heap.size = gs := ⟨_, rfl⟩
        have HGS := Lib.hid hgs
        have HK2 := Lib.hid q2
        clear hgs
        go_wp2_with fail
        clear q0 q1 q2 q3 q4
        -- inv {'ops': [('mv', 54, 5, '.int .u64 (na : Int)'), ('mv', 55, 7, '.int .u64 (nb : Int)'), ('mv', 56, 4, '.slice (some ⟨g, 0, none⟩) 5 5'), ('op', 57, [2], '.pointer (some ⟨g, 2, none⟩)'), ('lf', 58, 3, 'Str c', 'have d0 := ext_cell E0 HK2.out'), ('mv', 59, 9, '.int .u64 (nd : Int)'), ('op', 60, [5], '.int .u64 (kd : Int)'), ('op', 61, [6], '.int .i64 (kd : Int)'), ('mv', 62, 11, 'v6'), ('lf', 63, 8, 'Str px', "have d0 := HCV.out w' E0"), ('op', 64, [0, 1, 4, 7, 9], '.agg #[.int .u64 (na : Int), .int .u64 (nb : Int), Str c, .int .i64 (kd : Int), Str px]'), ('al', 13, 'gs', ['.int .u64 0', '.int .u64 0', '.string ⟨#[]⟩', '.int .i64 0', '.string ⟨#[]⟩'], '37'), ('st', None, [10, 11], 'have hc9 := X1 (hp.of 11 (by kernel_rfl)) hL; have hf9 := frozen_row hc9; have hb9 := (Array.getElem?_eq_some_iff.1 hc9).1; obtain ⟨z0, z1, z2, z3, z4⟩ := cells5 hc9')], 'W': [('E0', "Ext W6 w'", 'Below.drew (Below.refl _ _)'), ('V0', "L 11 = false → w'.heap.size = gs", 'fun _ => HGS.out'), ('X1', "L 11 = true → L 12 = false → w'.heap[gs]? = some (.cells #[.int .u64 0, .int .u64 0, .string ⟨#[]⟩, .int .i64 0, .string ⟨#[]⟩] 37 (0, 0))", '(fun h => by cases h)'), ('Y2', "L 12 = true → w'.heap[gs]? = some (.cells #[.int .u64 (na : Int), .int .u64 (nb : Int), Str c, .int .i64 (kd : Int), Str px] 37 (0, 0))", '(fun h => by cases h)')], 'over': {11: {'X1': 'fun _ _ => by rw [← hsz]; exact Array.getElem?_push_size', 'Y2': 'fun h => absurd h (by simp [hcl.not 12 (by kernel_rfl) hL])'}, 12: {'E0': 'ext_setR (ext_setR (ext_setR (ext_setR (ext_setR (E0) (by have := HGS.out; omega)) (by have := HGS.out; omega)) (by have := HGS.out; omega)) (by have := HGS.out; omega)) (by have := HGS.out; omega)', 'V0': 'fun h => absurd (hp.of 11 (by kernel_rfl)) (by simp at h; simp [h])', 'X1': 'fun h h2 => absurd h2 (by simp)', 'Y2': 'fun _ => (by obtain ⟨_, rfl, h, _⟩ := set5 hc9 (.int .u64 (na : Int)) (.int .u64 (nb : Int)) (Str c) (.int .i64 (kd : Int)) (Str px); exact h)'}}, 'fin': [('Y2', 12)]}
        refine wp_region_any (by kernel_rfl) ?_
        change wpAny _ _ _ _ _ _ _ (World.drew _)
        refine wpAny_inv (n := 13) [54, 55, 56, 57, 58, 59, 60, 61, 62, 63, 64, 13] (fun u L w' =>
            (L 0 = true → u 54 = .int .u64 (na : Int)) ∧
            (L 1 = true → u 55 = .int .u64 (nb : Int)) ∧
            (L 2 = true → u 56 = .slice (some ⟨g, 0, none⟩) 5 5) ∧
            (L 3 = true → u 57 = .pointer (some ⟨g, 2, none⟩)) ∧
            (L 4 = true → u 58 = Str c) ∧
            (L 5 = true → u 59 = .int .u64 (nd : Int)) ∧
            (L 6 = true → u 60 = .int .u64 (kd : Int)) ∧
            (L 7 = true → u 61 = .int .i64 (kd : Int)) ∧
            (L 8 = true → u 62 = v6) ∧
            (L 9 = true → u 63 = Str px) ∧
            (L 10 = true → u 64 = .agg #[.int .u64 (na : Int), .int .u64 (nb : Int), Str c, .int .i64 (kd : Int), Str px]) ∧
            (L 11 = true → u 13 = .pointer (some ⟨gs, 0, none⟩)) ∧
            (Ext W6 w') ∧
            (L 11 = false → w'.heap.size = gs) ∧
            (L 11 = true → L 12 = false → w'.heap[gs]? = some (.cells #[.int .u64 0, .int .u64 0, .string ⟨#[]⟩, .int .i64 0, .string ⟨#[]⟩] 37 (0, 0))) ∧
            (L 12 = true → w'.heap[gs]? = some (.cells #[.int .u64 (na : Int), .int .u64 (nb : Int), Str c, .int .i64 (kd : Int), Str px] 37 (0, 0))))
          (by rfl) (by kernel_rfl) (by kernel_rfl) (by rfl) ?_ ?_ ?_
        · exact ⟨(fun h => by cases h), (fun h => by cases h), (fun h => by cases h), (fun h => by cases h), (fun h => by cases h), (fun h => by cases h), (fun h => by cases h), (fun h => by cases h), (fun h => by cases h), (fun h => by cases h), (fun h => by cases h), (fun h => by cases h), Below.drew (Below.refl _ _), fun _ => HGS.out, (fun h => by cases h), (fun h => by cases h)⟩
        · refine ⟨⟨⟨⟨⟨⟨⟨⟨⟨⟨⟨⟨⟨trivial, ?_⟩, ?_⟩, ?_⟩, ?_⟩, ?_⟩, ?_⟩, ?_⟩, ?_⟩, ?_⟩, ?_⟩, ?_⟩, ?_⟩, ?_⟩
          · refine stepOk_some (i := 0) (by rfl) (by rfl) ?_
            rintro u L T w' hT hu hL hp hcl ⟨C0, C1, C2, C3, C4, C5, C6, C7, C8, C9, C10, C11, E0, V0, X1, Y2⟩ K hK
            have e1 : u 5 = .int .u64 (na : Int) := hu 5 (by decide)
            go_simp
            refine hK _ _ ?_
            exact ⟨fun _ => rfl, fun h => C1 (by simpa using h), fun h => C2 (by simpa using h), fun h => C3 (by simpa using h), fun h => C4 (by simpa using h), fun h => C5 (by simpa using h), fun h => C6 (by simpa using h), fun h => C7 (by simpa using h), fun h => C8 (by simpa using h), fun h => C9 (by simpa using h), fun h => C10 (by simpa using h), fun h => C11 (by simpa using h), E0, fun h => V0 (by simpa using h), fun h h2 => X1 (by simpa using h) (by simpa using h2), fun h => Y2 (by simpa using h)⟩
          · refine stepOk_some (i := 1) (by rfl) (by rfl) ?_
            rintro u L T w' hT hu hL hp hcl ⟨C0, C1, C2, C3, C4, C5, C6, C7, C8, C9, C10, C11, E0, V0, X1, Y2⟩ K hK
            have e1 : u 7 = .int .u64 (nb : Int) := hu 7 (by decide)
            go_simp
            refine hK _ _ ?_
            exact ⟨fun h => C0 (by simpa using h), fun _ => rfl, fun h => C2 (by simpa using h), fun h => C3 (by simpa using h), fun h => C4 (by simpa using h), fun h => C5 (by simpa using h), fun h => C6 (by simpa using h), fun h => C7 (by simpa using h), fun h => C8 (by simpa using h), fun h => C9 (by simpa using h), fun h => C10 (by simpa using h), fun h => C11 (by simpa using h), E0, fun h => V0 (by simpa using h), fun h h2 => X1 (by simpa using h) (by simpa using h2), fun h => Y2 (by simpa using h)⟩
          · refine stepOk_some (i := 2) (by rfl) (by rfl) ?_
            rintro u L T w' hT hu hL hp hcl ⟨C0, C1, C2, C3, C4, C5, C6, C7, C8, C9, C10, C11, E0, V0, X1, Y2⟩ K hK
            have e1 : u 4 = .slice (some ⟨g, 0, none⟩) 5 5 := hu 4 (by decide)
            go_simp
            refine hK _ _ ?_
            exact ⟨fun h => C0 (by simpa using h), fun h => C1 (by simpa using h), fun _ => rfl, fun h => C3 (by simpa using h), fun h => C4 (by simpa using h), fun h => C5 (by simpa using h), fun h => C6 (by simpa using h), fun h => C7 (by simpa using h), fun h => C8 (by simpa using h), fun h => C9 (by simpa using h), fun h => C10 (by simpa using h), fun h => C11 (by simpa using h), E0, fun h => V0 (by simpa using h), fun h h2 => X1 (by simpa using h) (by simpa using h2), fun h => Y2 (by simpa using h)⟩
          · refine stepOk_some (i := 3) (by rfl) (by rfl) ?_
            rintro u L T w' hT hu hL hp hcl ⟨C0, C1, C2, C3, C4, C5, C6, C7, C8, C9, C10, C11, E0, V0, X1, Y2⟩ K hK
            have e2 := C2 (hp.of 2 (by kernel_rfl))
            go_simp
            try go_bits
            try (rw [if_neg (by omega)]; go_simp)
            try (rw [if_pos (by omega)]; go_simp)
            refine hK _ _ ?_
            exact ⟨fun h => C0 (by simpa using h), fun h => C1 (by simpa using h), fun h => C2 (by simpa using h), fun _ => rfl, fun h => C4 (by simpa using h), fun h => C5 (by simpa using h), fun h => C6 (by simpa using h), fun h => C7 (by simpa using h), fun h => C8 (by simpa using h), fun h => C9 (by simpa using h), fun h => C10 (by simpa using h), fun h => C11 (by simpa using h), E0, fun h => V0 (by simpa using h), fun h h2 => X1 (by simpa using h) (by simpa using h2), fun h => Y2 (by simpa using h)⟩
          · refine stepOk_some (i := 4) (by rfl) (by rfl) ?_
            rintro u L T w' hT hu hL hp hcl ⟨C0, C1, C2, C3, C4, C5, C6, C7, C8, C9, C10, C11, E0, V0, X1, Y2⟩ K hK
            have e3 := C3 (hp.of 3 (by kernel_rfl))
            have d0 := ext_cell E0 HK2.out
            go_simp
            refine hK _ _ ?_
            exact ⟨fun h => C0 (by simpa using h), fun h => C1 (by simpa using h), fun h => C2 (by simpa using h), fun h => C3 (by simpa using h), fun _ => rfl, fun h => C5 (by simpa using h), fun h => C6 (by simpa using h), fun h => C7 (by simpa using h), fun h => C8 (by simpa using h), fun h => C9 (by simpa using h), fun h => C10 (by simpa using h), fun h => C11 (by simpa using h), E0, fun h => V0 (by simpa using h), fun h h2 => X1 (by simpa using h) (by simpa using h2), fun h => Y2 (by simpa using h)⟩
          · refine stepOk_some (i := 5) (by rfl) (by rfl) ?_
            rintro u L T w' hT hu hL hp hcl ⟨C0, C1, C2, C3, C4, C5, C6, C7, C8, C9, C10, C11, E0, V0, X1, Y2⟩ K hK
            have e1 : u 9 = .int .u64 (nd : Int) := hu 9 (by decide)
            go_simp
            refine hK _ _ ?_
            exact ⟨fun h => C0 (by simpa using h), fun h => C1 (by simpa using h), fun h => C2 (by simpa using h), fun h => C3 (by simpa using h), fun h => C4 (by simpa using h), fun _ => rfl, fun h => C6 (by simpa using h), fun h => C7 (by simpa using h), fun h => C8 (by simpa using h), fun h => C9 (by simpa using h), fun h => C10 (by simpa using h), fun h => C11 (by simpa using h), E0, fun h => V0 (by simpa using h), fun h h2 => X1 (by simpa using h) (by simpa using h2), fun h => Y2 (by simpa using h)⟩
          · refine stepOk_some (i := 6) (by rfl) (by rfl) ?_
            rintro u L T w' hT hu hL hp hcl ⟨C0, C1, C2, C3, C4, C5, C6, C7, C8, C9, C10, C11, E0, V0, X1, Y2⟩ K hK
            have e5 := C5 (hp.of 5 (by kernel_rfl))
            go_simp
            try go_bits
            try (rw [if_neg (by omega)]; go_simp)
            try (rw [if_pos (by omega)]; go_simp)
            refine hK _ _ ?_
            exact ⟨fun h => C0 (by simpa using h), fun h => C1 (by simpa using h), fun h => C2 (by simpa using h), fun h => C3 (by simpa using h), fun h => C4 (by simpa using h), fun h => C5 (by simpa using h), fun _ => rfl, fun h => C7 (by simpa using h), fun h => C8 (by simpa using h), fun h => C9 (by simpa using h), fun h => C10 (by simpa using h), fun h => C11 (by simpa using h), E0, fun h => V0 (by simpa using h), fun h h2 => X1 (by simpa using h) (by simpa using h2), fun h => Y2 (by simpa using h)⟩
          · refine stepOk_some (i := 7) (by rfl) (by rfl) ?_
            rintro u L T w' hT hu hL hp hcl ⟨C0, C1, C2, C3, C4, C5, C6, C7, C8, C9, C10, C11, E0, V0, X1, Y2⟩ K hK
            have e6 := C6 (hp.of 6 (by kernel_rfl))
            go_simp
            try go_bits
            try (rw [if_neg (by omega)]; go_simp)
            try (rw [if_pos (by omega)]; go_simp)
            refine hK _ _ ?_
            exact ⟨fun h => C0 (by simpa using h), fun h => C1 (by simpa using h), fun h => C2 (by simpa using h), fun h => C3 (by simpa using h), fun h => C4 (by simpa using h), fun h => C5 (by simpa using h), fun h => C6 (by simpa using h), fun _ => rfl, fun h => C8 (by simpa using h), fun h => C9 (by simpa using h), fun h => C10 (by simpa using h), fun h => C11 (by simpa using h), E0, fun h => V0 (by simpa using h), fun h h2 => X1 (by simpa using h) (by simpa using h2), fun h => Y2 (by simpa using h)⟩
          · refine stepOk_some (i := 8) (by rfl) (by rfl) ?_
            rintro u L T w' hT hu hL hp hcl ⟨C0, C1, C2, C3, C4, C5, C6, C7, C8, C9, C10, C11, E0, V0, X1, Y2⟩ K hK
            have e1 : u 11 = v6 := hu 11 (by decide)
            go_simp
            refine hK _ _ ?_
            exact ⟨fun h => C0 (by simpa using h), fun h => C1 (by simpa using h), fun h => C2 (by simpa using h), fun h => C3 (by simpa using h), fun h => C4 (by simpa using h), fun h => C5 (by simpa using h), fun h => C6 (by simpa using h), fun h => C7 (by simpa using h), fun _ => rfl, fun h => C9 (by simpa using h), fun h => C10 (by simpa using h), fun h => C11 (by simpa using h), E0, fun h => V0 (by simpa using h), fun h h2 => X1 (by simpa using h) (by simpa using h2), fun h => Y2 (by simpa using h)⟩
          · refine stepOk_some (i := 9) (by rfl) (by rfl) ?_
            rintro u L T w' hT hu hL hp hcl ⟨C0, C1, C2, C3, C4, C5, C6, C7, C8, C9, C10, C11, E0, V0, X1, Y2⟩ K hK
            have e8 := C8 (hp.of 8 (by kernel_rfl))
            have d0 := HCV.out w' E0
            go_simp
            refine hK _ _ ?_
            exact ⟨fun h => C0 (by simpa using h), fun h => C1 (by simpa using h), fun h => C2 (by simpa using h), fun h => C3 (by simpa using h), fun h => C4 (by simpa using h), fun h => C5 (by simpa using h), fun h => C6 (by simpa using h), fun h => C7 (by simpa using h), fun h => C8 (by simpa using h), fun _ => rfl, fun h => C10 (by simpa using h), fun h => C11 (by simpa using h), E0, fun h => V0 (by simpa using h), fun h h2 => X1 (by simpa using h) (by simpa using h2), fun h => Y2 (by simpa using h)⟩
          · refine stepOk_some (i := 10) (by rfl) (by rfl) ?_
            rintro u L T w' hT hu hL hp hcl ⟨C0, C1, C2, C3, C4, C5, C6, C7, C8, C9, C10, C11, E0, V0, X1, Y2⟩ K hK
            have e0 := C0 (hp.of 0 (by kernel_rfl))
            have e1 := C1 (hp.of 1 (by kernel_rfl))
            have e4 := C4 (hp.of 4 (by kernel_rfl))
            have e7 := C7 (hp.of 7 (by kernel_rfl))
            have e9 := C9 (hp.of 9 (by kernel_rfl))
            go_simp
            try go_bits
            try (rw [if_neg (by omega)]; go_simp)
            try (rw [if_pos (by omega)]; go_simp)
            refine hK _ _ ?_
            exact ⟨fun h => C0 (by simpa using h), fun h => C1 (by simpa using h), fun h => C2 (by simpa using h), fun h => C3 (by simpa using h), fun h => C4 (by simpa using h), fun h => C5 (by simpa using h), fun h => C6 (by simpa using h), fun h => C7 (by simpa using h), fun h => C8 (by simpa using h), fun h => C9 (by simpa using h), fun _ => rfl, fun h => C11 (by simpa using h), E0, fun h => V0 (by simpa using h), fun h h2 => X1 (by simpa using h) (by simpa using h2), fun h => Y2 (by simpa using h)⟩
          · refine stepOk_some (i := 11) (by rfl) (by rfl) ?_
            rintro u L T w' hT hu hL hp hcl ⟨C0, C1, C2, C3, C4, C5, C6, C7, C8, C9, C10, C11, E0, V0, X1, Y2⟩ K hK
            have hsz := V0 hL
            go_simp
            have hx1 : Ext w' (w'.alloc (.cells #[.int .u64 0, .int .u64 0, .string ⟨#[]⟩, .int .i64 0, .string ⟨#[]⟩] 37)) := Below.alloc (Below.refl _ _) (Nat.le_refl _) _
            refine hK _ _ ?_
            exact ⟨fun h => C0 (by simpa using h), fun h => C1 (by simpa using h), fun h => C2 (by simpa using h), fun h => C3 (by simpa using h), fun h => C4 (by simpa using h), fun h => C5 (by simpa using h), fun h => C6 (by simpa using h), fun h => C7 (by simpa using h), fun h => C8 (by simpa using h), fun h => C9 (by simpa using h), fun h => C10 (by simpa using h), fun _ => by rw [← hsz]; rfl, ext_trans (E0) hx1, fun h => absurd h (by simp), fun _ _ => by rw [← hsz]; exact Array.getElem?_push_size, fun h => absurd h (by simp [hcl.not 12 (by kernel_rfl) hL])⟩
          · refine stepOk_none (i := 12) (by rfl) (by rfl) ?_
            rintro u L T w' hT hu hL hp hcl ⟨C0, C1, C2, C3, C4, C5, C6, C7, C8, C9, C10, C11, E0, V0, X1, Y2⟩ K hK
            have e10 := C10 (hp.of 10 (by kernel_rfl))
            have e11 := C11 (hp.of 11 (by kernel_rfl))
            have hc9 := X1 (hp.of 11 (by kernel_rfl)) hL; have hf9 := frozen_row hc9; have hb9 := (Array.getElem?_eq_some_iff.1 hc9).1; obtain ⟨z0, z1, z2, z3, z4⟩ := cells5 hc9
            go_simp
            refine hK _ ?_
            exact ⟨fun h => C0 (by simpa using h), fun h => C1 (by simpa using h), fun h => C2 (by simpa using h), fun h => C3 (by simpa using h), fun h => C4 (by simpa using h), fun h => C5 (by simpa using h), fun h => C6 (by simpa using h), fun h => C7 (by simpa using h), fun h => C8 (by simpa using h), fun h => C9 (by simpa using h), fun h => C10 (by simpa using h), fun h => C11 (by simpa using h), ext_setR (ext_setR (ext_setR (ext_setR (ext_setR (E0) (by have := HGS.out; omega)) (by have := HGS.out; omega)) (by have := HGS.out; omega)) (by have := HGS.out; omega)) (by have := HGS.out; omega), fun h => absurd (hp.of 11 (by kernel_rfl)) (by simp at h; simp [h]), fun h h2 => absurd h2 (by simp), fun _ => (by obtain ⟨_, rfl, h, _⟩ := set5 hc9 (.int .u64 (na : Int)) (.int .u64 (nb : Int)) (Str c) (.int .i64 (kd : Int)) (Str px); exact h)⟩
        · rintro u L w' hall hu ⟨C0, C1, C2, C3, C4, C5, C6, C7, C8, C9, C10, C11, E0, V0, X1, Y2⟩
          replace Y2 := Y2 (hall 12 (by omega))
          replace C0 := C0 (hall 0 (by omega))
          replace C1 := C1 (hall 1 (by omega))
          replace C2 := C2 (hall 2 (by omega))
          replace C3 := C3 (hall 3 (by omega))
          replace C4 := C4 (hall 4 (by omega))
          replace C5 := C5 (hall 5 (by omega))
          replace C6 := C6 (hall 6 (by omega))
          replace C7 := C7 (hall 7 (by omega))
          replace C8 := C8 (hall 8 (by omega))
          replace C9 := C9 (hall 9 (by omega))
          replace C10 := C10 (hall 10 (by omega))
          replace C11 := C11 (hall 11 (by omega))
          simp only [fill, List.setIfInBounds_toArray, List.set_cons_succ, List.set_cons_zero, C0, C1, C2, C3, C4, C5, C6, C7, C8, C9, C10, C11]
          clear C0 C1 C2 C3 C4 C5 C6 C7 C8 C9 C10 C11 hu hall
        -- end inv
          have HY := Lib.hid (Y2)
          have HB9 := Lib.hid (ext_at E0 HB6.out)
          have HX9 := Lib.hid (ext_trans HX6.out E0)
          clear Y2 E0 V0 X1 HCV HK2
          obtain ⟨z0, z1, z2, z3, z4⟩ := cells5 HY.out
          go_wp2_with fail
          refine (HLN.out _ ((HLb.out.ext HX9.out).lt')).mono ?_
          rintro e W5 ⟨rfl, hx5⟩
          have HX5 := Lib.hid (ext_trans HX9.out hx5)
          have hb5 := ext_at hx5 HY.out
          have hb6 := ext_at hx5 HB9.out
          clear z0 z1 z2 z3 z4 HY hx5 HB9 HX9 HLN
          obtain ⟨u0, u1, u2, u3, u4⟩ := cells5 hb5
          obtain ⟨d0, d1, d2, d3, d4⟩ := cells5 hb6
          have hf := frozen_row hb6
          have HB6 := Lib.hid hb6
          clear hb5 hb6
          by_cases hG : numB a = true ∧ numB b = true ∧ numB d = true ∧ R = true ∧ ln = s
          · obtain ⟨g1, g2, g3, rfl, g6⟩ := hG
            have hz : rdE s = some (Ev.mk na nb c (kd : Int) px) := by
              rw [← HRD.out, if_pos ⟨g1, g2, g3, by first | trivial | rfl, by first | trivial | rfl, g6⟩]
            have t9 : (ln == s) = true := by rw [g6]; simp
            rw [g1, g2, g3]
            simp only [if_true]
            clear hR g6
            go_wp2_with fail
            obtain ⟨W9, hW9, hst, hch⟩ := set5 HB6.out (.int .u64 (na : Int)) (.int .u64 (nb : Int)) (Str c) (.int .i64 (kd : Int)) (Str px)
            rw [hW9]
            obtain ⟨e0', e1', e2', e3', e4'⟩ := cells5 hst
            have hv : rdV s = .tuple #[.agg #[.int .u64 (na : Int), .int .u64 (nb : Int), Str c, .int .i64 (kd : Int), Str px], .int .i64 0] := by
              rw [rdV, hz]
              rfl
            refine bodyPost_ret (v := rdV s) (by rw [hv]; simp [results, Tryd.results31, go_sem, e0', e1', e2', e3', e4']) rfl ⟨rfl, below_chg HX5.out hch (fun k hk => by have hk' : k = w.heap.size := hk; omega) (Nat.le_refl _)⟩
          · have hz : rdE s = none := by rw [← HRD.out, if_neg (fun h => hG ⟨h.1, h.2.1, h.2.2.1, h.2.2.2.2.1, h.2.2.2.2.2⟩)]
            have HG := Lib.hid (show ¬ (numB a = true ∧ numB b = true ∧ numB d = true ∧ R = true ∧ (ln == s) = true) from fun h => hG ⟨h.1, h.2.1, h.2.2.1, h.2.2.2.1, by simpa using h.2.2.2.2⟩)
            clear hG hR HRD
            obtain ⟨q, hq⟩ : ∃ q, (ln == s) = q := ⟨_, rfl⟩
            rw [hq] at HG
            generalize numB a = A at *
            generalize numB b = B at *
            generalize numB d = D at *
            cases q <;> cases R <;>
            (simp only [if_true, if_false, Bool.false_eq_true]
             go_wp2_with fail
             all_goals first
               | exact absurd ⟨by assumption, by assumption, by assumption, by first | trivial | rfl, by first | trivial | rfl⟩ HG.out
               | (obtain ⟨W9, hW9, hst, hch⟩ := set5 HB6.out (.int .u64 0) (.int .u64 0) (.string ⟨#[]⟩) (.int .i64 0) (.string ⟨#[]⟩)
                  rw [hW9]
                  obtain ⟨e0', e1', e2', e3', e4'⟩ := cells5 hst
                  refine bodyPost_ret (v := rdV s) (by simp [results, Tryd.results31, go_sem, e0', e1', e2', e3', e4', rdV, hz, evC, evZ]) rfl ⟨rfl, below_chg HX5.out hch (fun k hk => by have hk' : k = w.heap.size := hk; omega) (Nat.le_refl _)⟩))
      · have t5 : (((code : Nat) : Int) == 0) = false := by rw [beq_eq_false_iff_ne]; omega
        rw [decide_eq_false hc0] at hrd
        have hok : (Ev.mk na nb c ((min nd 9007199254740992 : Nat) : Int) px).ok := ⟨ma, mb, by show (-9223372036854775808 : Int) ≤ ((min nd 9007199254740992 : Nat) : Int); omega, by show ((min nd 9007199254740992 : Nat) : Int) ≤ 9223372036854775807; omega, by show c.length ≤ 1000; omega, by show px.length ≤ 1000; first | omega | (simp; done)⟩
        have HLN := Lib.hid (Line_any (Ev.mk na nb c ((min nd 9007199254740992 : Nat) : Int) px) hok)
        clear hok
        have HRD := Lib.hid hrd
        clear hrd
        generalize (Ev.mk na nb c ((min nd 9007199254740992 : Nat) : Int) px).line = ln at *
        generalize hR : (Ev.mk na nb c ((min nd 9007199254740992 : Nat) : Int) px).right = R at *
        simp only [evC] at HLN
        generalize min nd 9007199254740992 = kd at *
        obtain ⟨gs, hgs⟩ : ∃ gs, W6.heap.size = gs := ⟨_, rfl⟩
        have HGS := Lib.hid hgs
        have HK2 := Lib.hid q2
        clear hgs
        go_wp2_with fail
        clear q0 q1 q2 q3 q4
        -- inv {'ops': [('mv', 54, 5, '.int .u64 (na : Int)'), ('mv', 55, 7, '.int .u64 (nb : Int)'), ('mv', 56, 4, '.slice (some ⟨g, 0, none⟩) 5 5'), ('op', 57, [2], '.pointer (some ⟨g, 2, none⟩)'), ('lf', 58, 3, 'Str c', 'have d0 := ext_cell E0 HK2.out'), ('mv', 59, 9, '.int .u64 (nd : Int)'), ('op', 60, [5], '.int .u64 (kd : Int)'), ('op', 61, [6], '.int .i64 (kd : Int)'), ('mv', 62, 11, 'v6'), ('lf', 63, 8, 'Str px', "have d0 := HCV.out w' E0"), ('op', 64, [0, 1, 4, 7, 9], '.agg #[.int .u64 (na : Int), .int .u64 (nb : Int), Str c, .int .i64 (kd : Int), Str px]'), ('al', 13, 'gs', ['.int .u64 0', '.int .u64 0', '.string ⟨#[]⟩', '.int .i64 0', '.string ⟨#[]⟩'], '37'), ('st', None, [10, 11], 'have hc9 := X1 (hp.of 11 (by kernel_rfl)) hL; have hf9 := frozen_row hc9; have hb9 := (Array.getElem?_eq_some_iff.1 hc9).1; obtain ⟨z0, z1, z2, z3, z4⟩ := cells5 hc9')], 'W': [('E0', "Ext W6 w'", 'Below.drew (Below.refl _ _)'), ('V0', "L 11 = false → w'.heap.size = gs", 'fun _ => HGS.out'), ('X1', "L 11 = true → L 12 = false → w'.heap[gs]? = some (.cells #[.int .u64 0, .int .u64 0, .string ⟨#[]⟩, .int .i64 0, .string ⟨#[]⟩] 37 (0, 0))", '(fun h => by cases h)'), ('Y2', "L 12 = true → w'.heap[gs]? = some (.cells #[.int .u64 (na : Int), .int .u64 (nb : Int), Str c, .int .i64 (kd : Int), Str px] 37 (0, 0))", '(fun h => by cases h)')], 'over': {11: {'X1': 'fun _ _ => by rw [← hsz]; exact Array.getElem?_push_size', 'Y2': 'fun h => absurd h (by simp [hcl.not 12 (by kernel_rfl) hL])'}, 12: {'E0': 'ext_setR (ext_setR (ext_setR (ext_setR (ext_setR (E0) (by have := HGS.out; omega)) (by have := HGS.out; omega)) (by have := HGS.out; omega)) (by have := HGS.out; omega)) (by have := HGS.out; omega)', 'V0': 'fun h => absurd (hp.of 11 (by kernel_rfl)) (by simp at h; simp [h])', 'X1': 'fun h h2 => absurd h2 (by simp)', 'Y2': 'fun _ => (by obtain ⟨_, rfl, h, _⟩ := set5 hc9 (.int .u64 (na : Int)) (.int .u64 (nb : Int)) (Str c) (.int .i64 (kd : Int)) (Str px); exact h)'}}, 'fin': [('Y2', 12)]}
        refine wp_region_any (by kernel_rfl) ?_
        change wpAny _ _ _ _ _ _ _ (World.drew _)
        refine wpAny_inv (n := 13) [54, 55, 56, 57, 58, 59, 60, 61, 62, 63, 64, 13] (fun u L w' =>
            (L 0 = true → u 54 = .int .u64 (na : Int)) ∧
            (L 1 = true → u 55 = .int .u64 (nb : Int)) ∧
            (L 2 = true → u 56 = .slice (some ⟨g, 0, none⟩) 5 5) ∧
            (L 3 = true → u 57 = .pointer (some ⟨g, 2, none⟩)) ∧
            (L 4 = true → u 58 = Str c) ∧
            (L 5 = true → u 59 = .int .u64 (nd : Int)) ∧
            (L 6 = true → u 60 = .int .u64 (kd : Int)) ∧
            (L 7 = true → u 61 = .int .i64 (kd : Int)) ∧
            (L 8 = true → u 62 = v6) ∧
            (L 9 = true → u 63 = Str px) ∧
            (L 10 = true → u 64 = .agg #[.int .u64 (na : Int), .int .u64 (nb : Int), Str c, .int .i64 (kd : Int), Str px]) ∧
            (L 11 = true → u 13 = .pointer (some ⟨gs, 0, none⟩)) ∧
            (Ext W6 w') ∧
            (L 11 = false → w'.heap.size = gs) ∧
            (L 11 = true → L 12 = false → w'.heap[gs]? = some (.cells #[.int .u64 0, .int .u64 0, .string ⟨#[]⟩, .int .i64 0, .string ⟨#[]⟩] 37 (0, 0))) ∧
            (L 12 = true → w'.heap[gs]? = some (.cells #[.int .u64 (na : Int), .int .u64 (nb : Int), Str c, .int .i64 (kd : Int), Str px] 37 (0, 0))))
          (by rfl) (by kernel_rfl) (by kernel_rfl) (by rfl) ?_ ?_ ?_
        · exact ⟨(fun h => by cases h), (fun h => by cases h), (fun h => by cases h), (fun h => by cases h), (fun h => by cases h), (fun h => by cases h), (fun h => by cases h), (fun h => by cases h), (fun h => by cases h), (fun h => by cases h), (fun h => by cases h), (fun h => by cases h), Below.drew (Below.refl _ _), fun _ => HGS.out, (fun h => by cases h), (fun h => by cases h)⟩
        · refine ⟨⟨⟨⟨⟨⟨⟨⟨⟨⟨⟨⟨⟨trivial, ?_⟩, ?_⟩, ?_⟩, ?_⟩, ?_⟩, ?_⟩, ?_⟩, ?_⟩, ?_⟩, ?_⟩, ?_⟩, ?_⟩, ?_⟩
          · refine stepOk_some (i := 0) (by rfl) (by rfl) ?_
            rintro u L T w' hT hu hL hp hcl ⟨C0, C1, C2, C3, C4, C5, C6, C7, C8, C9, C10, C11, E0, V0, X1, Y2⟩ K hK
            have e1 : u 5 = .int .u64 (na : Int) := hu 5 (by decide)
            go_simp
            refine hK _ _ ?_
            exact ⟨fun _ => rfl, fun h => C1 (by simpa using h), fun h => C2 (by simpa using h), fun h => C3 (by simpa using h), fun h => C4 (by simpa using h), fun h => C5 (by simpa using h), fun h => C6 (by simpa using h), fun h => C7 (by simpa using h), fun h => C8 (by simpa using h), fun h => C9 (by simpa using h), fun h => C10 (by simpa using h), fun h => C11 (by simpa using h), E0, fun h => V0 (by simpa using h), fun h h2 => X1 (by simpa using h) (by simpa using h2), fun h => Y2 (by simpa using h)⟩
          · refine stepOk_some (i := 1) (by rfl) (by rfl) ?_
            rintro u L T w' hT hu hL hp hcl ⟨C0, C1, C2, C3, C4, C5, C6, C7, C8, C9, C10, C11, E0, V0, X1, Y2⟩ K hK
            have e1 : u 7 = .int .u64 (nb : Int) := hu 7 (by decide)
            go_simp
            refine hK _ _ ?_
            exact ⟨fun h => C0 (by simpa using h), fun _ => rfl, fun h => C2 (by simpa using h), fun h => C3 (by simpa using h), fun h => C4 (by simpa using h), fun h => C5 (by simpa using h), fun h => C6 (by simpa using h), fun h => C7 (by simpa using h), fun h => C8 (by simpa using h), fun h => C9 (by simpa using h), fun h => C10 (by simpa using h), fun h => C11 (by simpa using h), E0, fun h => V0 (by simpa using h), fun h h2 => X1 (by simpa using h) (by simpa using h2), fun h => Y2 (by simpa using h)⟩
          · refine stepOk_some (i := 2) (by rfl) (by rfl) ?_
            rintro u L T w' hT hu hL hp hcl ⟨C0, C1, C2, C3, C4, C5, C6, C7, C8, C9, C10, C11, E0, V0, X1, Y2⟩ K hK
            have e1 : u 4 = .slice (some ⟨g, 0, none⟩) 5 5 := hu 4 (by decide)
            go_simp
            refine hK _ _ ?_
            exact ⟨fun h => C0 (by simpa using h), fun h => C1 (by simpa using h), fun _ => rfl, fun h => C3 (by simpa using h), fun h => C4 (by simpa using h), fun h => C5 (by simpa using h), fun h => C6 (by simpa using h), fun h => C7 (by simpa using h), fun h => C8 (by simpa using h), fun h => C9 (by simpa using h), fun h => C10 (by simpa using h), fun h => C11 (by simpa using h), E0, fun h => V0 (by simpa using h), fun h h2 => X1 (by simpa using h) (by simpa using h2), fun h => Y2 (by simpa using h)⟩
          · refine stepOk_some (i := 3) (by rfl) (by rfl) ?_
            rintro u L T w' hT hu hL hp hcl ⟨C0, C1, C2, C3, C4, C5, C6, C7, C8, C9, C10, C11, E0, V0, X1, Y2⟩ K hK
            have e2 := C2 (hp.of 2 (by kernel_rfl))
            go_simp
            try go_bits
            try (rw [if_neg (by omega)]; go_simp)
            try (rw [if_pos (by omega)]; go_simp)
            refine hK _ _ ?_
            exact ⟨fun h => C0 (by simpa using h), fun h => C1 (by simpa using h), fun h => C2 (by simpa using h), fun _ => rfl, fun h => C4 (by simpa using h), fun h => C5 (by simpa using h), fun h => C6 (by simpa using h), fun h => C7 (by simpa using h), fun h => C8 (by simpa using h), fun h => C9 (by simpa using h), fun h => C10 (by simpa using h), fun h => C11 (by simpa using h), E0, fun h => V0 (by simpa using h), fun h h2 => X1 (by simpa using h) (by simpa using h2), fun h => Y2 (by simpa using h)⟩
          · refine stepOk_some (i := 4) (by rfl) (by rfl) ?_
            rintro u L T w' hT hu hL hp hcl ⟨C0, C1, C2, C3, C4, C5, C6, C7, C8, C9, C10, C11, E0, V0, X1, Y2⟩ K hK
            have e3 := C3 (hp.of 3 (by kernel_rfl))
            have d0 := ext_cell E0 HK2.out
            go_simp
            refine hK _ _ ?_
            exact ⟨fun h => C0 (by simpa using h), fun h => C1 (by simpa using h), fun h => C2 (by simpa using h), fun h => C3 (by simpa using h), fun _ => rfl, fun h => C5 (by simpa using h), fun h => C6 (by simpa using h), fun h => C7 (by simpa using h), fun h => C8 (by simpa using h), fun h => C9 (by simpa using h), fun h => C10 (by simpa using h), fun h => C11 (by simpa using h), E0, fun h => V0 (by simpa using h), fun h h2 => X1 (by simpa using h) (by simpa using h2), fun h => Y2 (by simpa using h)⟩
          · refine stepOk_some (i := 5) (by rfl) (by rfl) ?_
            rintro u L T w' hT hu hL hp hcl ⟨C0, C1, C2, C3, C4, C5, C6, C7, C8, C9, C10, C11, E0, V0, X1, Y2⟩ K hK
            have e1 : u 9 = .int .u64 (nd : Int) := hu 9 (by decide)
            go_simp
            refine hK _ _ ?_
            exact ⟨fun h => C0 (by simpa using h), fun h => C1 (by simpa using h), fun h => C2 (by simpa using h), fun h => C3 (by simpa using h), fun h => C4 (by simpa using h), fun _ => rfl, fun h => C6 (by simpa using h), fun h => C7 (by simpa using h), fun h => C8 (by simpa using h), fun h => C9 (by simpa using h), fun h => C10 (by simpa using h), fun h => C11 (by simpa using h), E0, fun h => V0 (by simpa using h), fun h h2 => X1 (by simpa using h) (by simpa using h2), fun h => Y2 (by simpa using h)⟩
          · refine stepOk_some (i := 6) (by rfl) (by rfl) ?_
            rintro u L T w' hT hu hL hp hcl ⟨C0, C1, C2, C3, C4, C5, C6, C7, C8, C9, C10, C11, E0, V0, X1, Y2⟩ K hK
            have e5 := C5 (hp.of 5 (by kernel_rfl))
            go_simp
            try go_bits
            try (rw [if_neg (by omega)]; go_simp)
            try (rw [if_pos (by omega)]; go_simp)
            refine hK _ _ ?_
            exact ⟨fun h => C0 (by simpa using h), fun h => C1 (by simpa using h), fun h => C2 (by simpa using h), fun h => C3 (by simpa using h), fun h => C4 (by simpa using h), fun h => C5 (by simpa using h), fun _ => rfl, fun h => C7 (by simpa using h), fun h => C8 (by simpa using h), fun h => C9 (by simpa using h), fun h => C10 (by simpa using h), fun h => C11 (by simpa using h), E0, fun h => V0 (by simpa using h), fun h h2 => X1 (by simpa using h) (by simpa using h2), fun h => Y2 (by simpa using h)⟩
          · refine stepOk_some (i := 7) (by rfl) (by rfl) ?_
            rintro u L T w' hT hu hL hp hcl ⟨C0, C1, C2, C3, C4, C5, C6, C7, C8, C9, C10, C11, E0, V0, X1, Y2⟩ K hK
            have e6 := C6 (hp.of 6 (by kernel_rfl))
            go_simp
            try go_bits
            try (rw [if_neg (by omega)]; go_simp)
            try (rw [if_pos (by omega)]; go_simp)
            refine hK _ _ ?_
            exact ⟨fun h => C0 (by simpa using h), fun h => C1 (by simpa using h), fun h => C2 (by simpa using h), fun h => C3 (by simpa using h), fun h => C4 (by simpa using h), fun h => C5 (by simpa using h), fun h => C6 (by simpa using h), fun _ => rfl, fun h => C8 (by simpa using h), fun h => C9 (by simpa using h), fun h => C10 (by simpa using h), fun h => C11 (by simpa using h), E0, fun h => V0 (by simpa using h), fun h h2 => X1 (by simpa using h) (by simpa using h2), fun h => Y2 (by simpa using h)⟩
          · refine stepOk_some (i := 8) (by rfl) (by rfl) ?_
            rintro u L T w' hT hu hL hp hcl ⟨C0, C1, C2, C3, C4, C5, C6, C7, C8, C9, C10, C11, E0, V0, X1, Y2⟩ K hK
            have e1 : u 11 = v6 := hu 11 (by decide)
            go_simp
            refine hK _ _ ?_
            exact ⟨fun h => C0 (by simpa using h), fun h => C1 (by simpa using h), fun h => C2 (by simpa using h), fun h => C3 (by simpa using h), fun h => C4 (by simpa using h), fun h => C5 (by simpa using h), fun h => C6 (by simpa using h), fun h => C7 (by simpa using h), fun _ => rfl, fun h => C9 (by simpa using h), fun h => C10 (by simpa using h), fun h => C11 (by simpa using h), E0, fun h => V0 (by simpa using h), fun h h2 => X1 (by simpa using h) (by simpa using h2), fun h => Y2 (by simpa using h)⟩
          · refine stepOk_some (i := 9) (by rfl) (by rfl) ?_
            rintro u L T w' hT hu hL hp hcl ⟨C0, C1, C2, C3, C4, C5, C6, C7, C8, C9, C10, C11, E0, V0, X1, Y2⟩ K hK
            have e8 := C8 (hp.of 8 (by kernel_rfl))
            have d0 := HCV.out w' E0
            go_simp
            refine hK _ _ ?_
            exact ⟨fun h => C0 (by simpa using h), fun h => C1 (by simpa using h), fun h => C2 (by simpa using h), fun h => C3 (by simpa using h), fun h => C4 (by simpa using h), fun h => C5 (by simpa using h), fun h => C6 (by simpa using h), fun h => C7 (by simpa using h), fun h => C8 (by simpa using h), fun _ => rfl, fun h => C10 (by simpa using h), fun h => C11 (by simpa using h), E0, fun h => V0 (by simpa using h), fun h h2 => X1 (by simpa using h) (by simpa using h2), fun h => Y2 (by simpa using h)⟩
          · refine stepOk_some (i := 10) (by rfl) (by rfl) ?_
            rintro u L T w' hT hu hL hp hcl ⟨C0, C1, C2, C3, C4, C5, C6, C7, C8, C9, C10, C11, E0, V0, X1, Y2⟩ K hK
            have e0 := C0 (hp.of 0 (by kernel_rfl))
            have e1 := C1 (hp.of 1 (by kernel_rfl))
            have e4 := C4 (hp.of 4 (by kernel_rfl))
            have e7 := C7 (hp.of 7 (by kernel_rfl))
            have e9 := C9 (hp.of 9 (by kernel_rfl))
            go_simp
            try go_bits
            try (rw [if_neg (by omega)]; go_simp)
            try (rw [if_pos (by omega)]; go_simp)
            refine hK _ _ ?_
            exact ⟨fun h => C0 (by simpa using h), fun h => C1 (by simpa using h), fun h => C2 (by simpa using h), fun h => C3 (by simpa using h), fun h => C4 (by simpa using h), fun h => C5 (by simpa using h), fun h => C6 (by simpa using h), fun h => C7 (by simpa using h), fun h => C8 (by simpa using h), fun h => C9 (by simpa using h), fun _ => rfl, fun h => C11 (by simpa using h), E0, fun h => V0 (by simpa using h), fun h h2 => X1 (by simpa using h) (by simpa using h2), fun h => Y2 (by simpa using h)⟩
          · refine stepOk_some (i := 11) (by rfl) (by rfl) ?_
            rintro u L T w' hT hu hL hp hcl ⟨C0, C1, C2, C3, C4, C5, C6, C7, C8, C9, C10, C11, E0, V0, X1, Y2⟩ K hK
            have hsz := V0 hL
            go_simp
            have hx1 : Ext w' (w'.alloc (.cells #[.int .u64 0, .int .u64 0, .string ⟨#[]⟩, .int .i64 0, .string ⟨#[]⟩] 37)) := Below.alloc (Below.refl _ _) (Nat.le_refl _) _
            refine hK _ _ ?_
            exact ⟨fun h => C0 (by simpa using h), fun h => C1 (by simpa using h), fun h => C2 (by simpa using h), fun h => C3 (by simpa using h), fun h => C4 (by simpa using h), fun h => C5 (by simpa using h), fun h => C6 (by simpa using h), fun h => C7 (by simpa using h), fun h => C8 (by simpa using h), fun h => C9 (by simpa using h), fun h => C10 (by simpa using h), fun _ => by rw [← hsz]; rfl, ext_trans (E0) hx1, fun h => absurd h (by simp), fun _ _ => by rw [← hsz]; exact Array.getElem?_push_size, fun h => absurd h (by simp [hcl.not 12 (by kernel_rfl) hL])⟩
          · refine stepOk_none (i := 12) (by rfl) (by rfl) ?_
            rintro u L T w' hT hu hL hp hcl ⟨C0, C1, C2, C3, C4, C5, C6, C7, C8, C9, C10, C11, E0, V0, X1, Y2⟩ K hK
            have e10 := C10 (hp.of 10 (by kernel_rfl))
            have e11 := C11 (hp.of 11 (by kernel_rfl))
            have hc9 := X1 (hp.of 11 (by kernel_rfl)) hL; have hf9 := frozen_row hc9; have hb9 := (Array.getElem?_eq_some_iff.1 hc9).1; obtain ⟨z0, z1, z2, z3, z4⟩ := cells5 hc9
            go_simp
            refine hK _ ?_
            exact ⟨fun h => C0 (by simpa using h), fun h => C1 (by simpa using h), fun h => C2 (by simpa using h), fun h => C3 (by simpa using h), fun h => C4 (by simpa using h), fun h => C5 (by simpa using h), fun h => C6 (by simpa using h), fun h => C7 (by simpa using h), fun h => C8 (by simpa using h), fun h => C9 (by simpa using h), fun h => C10 (by simpa using h), fun h => C11 (by simpa using h), ext_setR (ext_setR (ext_setR (ext_setR (ext_setR (E0) (by have := HGS.out; omega)) (by have := HGS.out; omega)) (by have := HGS.out; omega)) (by have := HGS.out; omega)) (by have := HGS.out; omega), fun h => absurd (hp.of 11 (by kernel_rfl)) (by simp at h; simp [h]), fun h h2 => absurd h2 (by simp), fun _ => (by obtain ⟨_, rfl, h, _⟩ := set5 hc9 (.int .u64 (na : Int)) (.int .u64 (nb : Int)) (Str c) (.int .i64 (kd : Int)) (Str px); exact h)⟩
        · rintro u L w' hall hu ⟨C0, C1, C2, C3, C4, C5, C6, C7, C8, C9, C10, C11, E0, V0, X1, Y2⟩
          replace Y2 := Y2 (hall 12 (by omega))
          replace C0 := C0 (hall 0 (by omega))
          replace C1 := C1 (hall 1 (by omega))
          replace C2 := C2 (hall 2 (by omega))
          replace C3 := C3 (hall 3 (by omega))
          replace C4 := C4 (hall 4 (by omega))
          replace C5 := C5 (hall 5 (by omega))
          replace C6 := C6 (hall 6 (by omega))
          replace C7 := C7 (hall 7 (by omega))
          replace C8 := C8 (hall 8 (by omega))
          replace C9 := C9 (hall 9 (by omega))
          replace C10 := C10 (hall 10 (by omega))
          replace C11 := C11 (hall 11 (by omega))
          simp only [fill, List.setIfInBounds_toArray, List.set_cons_succ, List.set_cons_zero, C0, C1, C2, C3, C4, C5, C6, C7, C8, C9, C10, C11]
          clear C0 C1 C2 C3 C4 C5 C6 C7 C8 C9 C10 C11 hu hall
        -- end inv
          have HY := Lib.hid (Y2)
          have HB9 := Lib.hid (ext_at E0 HB6.out)
          have HX9 := Lib.hid (ext_trans HX6.out E0)
          clear Y2 E0 V0 X1 HCV HK2
          obtain ⟨z0, z1, z2, z3, z4⟩ := cells5 HY.out
          go_wp2_with fail
          refine (HLN.out _ ((HLb.out.ext HX9.out).lt')).mono ?_
          rintro e W5 ⟨rfl, hx5⟩
          have HX5 := Lib.hid (ext_trans HX9.out hx5)
          have hb5 := ext_at hx5 HY.out
          have hb6 := ext_at hx5 HB9.out
          clear z0 z1 z2 z3 z4 HY hx5 HB9 HX9 HLN
          obtain ⟨u0, u1, u2, u3, u4⟩ := cells5 hb5
          obtain ⟨d0, d1, d2, d3, d4⟩ := cells5 hb6
          have hf := frozen_row hb6
          have HB6 := Lib.hid hb6
          clear hb5 hb6
          have hz : rdE s = none := by rw [← HRD.out, if_neg (fun h => by have := h.2.2.2.1; cases this)]
          clear hR HRD
          generalize numB a = A at *
          generalize numB b = B at *
          generalize numB d = D at *
          cases R <;>
          (simp only [if_true, if_false, Bool.false_eq_true]
           go_wp2_with fail
           all_goals first
             | (exfalso; omega)
             | (obtain ⟨W9, hW9, hst, hch⟩ := set5 HB6.out (.int .u64 0) (.int .u64 0) (.string ⟨#[]⟩) (.int .i64 0) (.string ⟨#[]⟩)
                rw [hW9]
                obtain ⟨e0', e1', e2', e3', e4'⟩ := cells5 hst
                refine bodyPost_ret (v := rdV s) (by simp [results, Tryd.results31, go_sem, e0', e1', e2', e3', e4', rdV, hz, evC, evZ]) rfl ⟨rfl, below_chg HX5.out hch (fun k hk => by have hk' : k = w.heap.size := hk; omega) (Nat.le_refl _)⟩))
  · have hz := rdE_len s h5
    have t1 : (((((spb 32 s)).length : Nat) : Int) == 5) = false := by rw [beq_eq_false_iff_ne]; omega
    obtain ⟨d0, d1, d2, d3, d4⟩ := cells5 hb1
    have hf := frozen_row hb1
    have HB := Lib.hid hb1
    clear hb1 h5
    go_wp2_with fail
    obtain ⟨W9, hW9, hst, hch⟩ := set5 HB.out (.int .u64 0) (.int .u64 0) (.string ⟨#[]⟩) (.int .i64 0) (.string ⟨#[]⟩)
    rw [hW9]
    obtain ⟨e0', e1', e2', e3', e4'⟩ := cells5 hst
    refine bodyPost_ret (v := rdV s) (by simp [results, Tryd.results31, go_sem, e0', e1', e2', e3', e4', rdV, hz, evC, evZ]) rfl ⟨rfl, below_chg HX.out hch (fun k hk => by have hk' : k = w.heap.size := hk; omega) (Nat.le_refl _)⟩
end Go.Proofs.YtpndahmlbjhdfaaDoor
