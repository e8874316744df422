/-
  ref23.Read: of a line.
-/
import Derived.Test.YtpndahmlbjhdfaaDoorRows
import Derived.Test.YtpndahmlbjhdfaaDoorRt5
import Derived.Test.YtpndahmlbjhdfaaDoorRel
import Derived.Test.YtpndahmlbjhdfaaDoorRnu
import Derived.Test.YtpndahmlbjhdfaaDoorRsp
import Derived.Test.YtpndahmlbjhdfaaDoorRuh
import Derived.Test.YtpndahmlbjhdfaaDoorHxp
namespace Go.Proofs.YtpndahmlbjhdfaaDoor
open Go.RowKit
set_option maxRecDepth 100000
attribute [local go_sem] Oper.semAt_some
set_option linter.unusedVariables false
set_option linter.unusedSimpArgs false
set_option maxHeartbeats 1000000 in
theorem rread_any (s : List UInt8) (hl : s.length ≤ 600) (w : World) :
    Calls Tryd.prog 32 #[Str s] w fun e w' => e = .returned (rdV s) ∧ Ext w w' := by
  go_enter Tryd.func32, Tryd.ntmps32
  go_wp2_with fail
  obtain ⟨W0, hW0⟩ : ∃ W0, w.alloc (.cells #[.int .u64 0, .int .u64 0, .string ⟨#[]⟩, .int .i64 0, .string ⟨#[]⟩] 32) = W0 := ⟨_, rfl⟩
  have hx0 : Ext w W0 := by rw [← hW0]; exact Below.alloc (Below.refl _ _) (Nat.le_refl _) _
  have hb0 : W0.heap[w.heap.size]? = some (.cells #[.int .u64 0, .int .u64 0, .string ⟨#[]⟩, .int .i64 0, .string ⟨#[]⟩] 32 (0, 0)) := by rw [← hW0]; exact Array.getElem?_push_size
  rw [hW0]
  have hsz : W0.heap.size = w.heap.size + 1 := by rw [← hW0]; simp
  clear hW0
  refine (show Calls Tryd.prog 58 #[Str s, .int .u8 32] W0 _ from split15_any s 32 (by omega) W0).mono ?_
  rintro e W1 ⟨v, rfl, ho, hx⟩
  have HX := Lib.hid (ext_trans hx0 hx)
  have hb1 := ext_at hx hb0
  clear hx hx0 hb0
  by_cases h5 : (spb 32 s).length = 5
  · obtain ⟨a, b, c, d, t, hs⟩ := five _ h5
    have hpl : ∀ p ∈ [a, b, c, d, t], p.length ≤ 600 := fun p hp => Nat.le_trans (spb_part 32 s p (by rw [hs]; exact hp)) hl
    rw [hs] at ho
    obtain ⟨g, cap, rfl, hg, hc1, hc2, hcell⟩ := own_get ho (by simp)
    have H := Lib.hid (And.intro hc1 (And.intro hc2 hg))
    have q0 := hcell 0 a rfl; have q1 := hcell 1 b rfl; have q2 := hcell 2 c rfl; have q3 := hcell 3 d rfl; have q4 := hcell 4 t rfl
    have HB := Lib.hid hb1
    have HQ := Lib.hid (And.intro q0 (And.intro q1 (And.intro q2 (And.intro q3 q4))))
    have la := hpl a (by simp); have lb := hpl b (by simp); have lc := hpl c (by simp); have ld := hpl d (by simp); have lt := hpl t (by simp)
    have HNa := Lib.hid (rnum_any a (by omega)); have HNb := Lib.hid (rnum_any b (by omega)); have HNd := Lib.hid (rnum_any d (by omega))
    clear hcell ho hb1 h5 hpl hg hc1 hc2
    go_wp2_with fail
    refine (HNa.out _).mono ?_
    rintro e W2 ⟨na, rfl, ma, va, rfl⟩
    go_wp2_with fail
    refine (HNb.out _).mono ?_
    rintro e W2 ⟨nb, rfl, mb, vb, rfl⟩
    go_wp2_with fail
    refine (HNd.out _).mono ?_
    rintro e W2 ⟨nd, rfl, md, vd, rfl⟩
    -- TAILS
    have HR := Lib.hid (fun (h : txB t = true) => ref_read s a b c d t hs na nb nd va vb vd)
    clear va vb vd H HNa HNb HNd
    obtain ⟨q0, q1, q2, q3, q4⟩ := HQ.out
    by_cases h45 : t = [45]
    · have hrd : (if num16 a = true ∧ num16 b = true ∧ num16 d = true ∧ nd ≤ 2147483647 ∧ (Ev.mk na nb c ((nd % 1099511627776 : Nat) : Int) []).right = true then some (Ev.mk na nb c ((nd % 1099511627776 : Nat) : Int) []) else none) = rdE s := by
        have h1 : txB t = true := by rw [h45]; rfl
        have h2 : txV t = [] := by rw [h45]; rfl
        rw [← HR.out h1, h1, h2]
        simp
      subst h45
      clear HR HQ
      have hok : (Ev.mk na nb c ((nd % 1099511627776 : Nat) : Int) []).ok := ⟨ma, mb, by show (-9223372036854775808 : Int) ≤ ((nd % 1099511627776 : Nat) : Int); omega, by show ((nd % 1099511627776 : Nat) : Int) ≤ 9223372036854775807; omega, by show c.length ≤ 1000; omega, by show [].length ≤ 1000; first | omega | (simp; done)⟩
      have HLN := Lib.hid (show ∀ W, Calls Tryd.prog 29 #[.agg #[.int .u64 (na : Int), .int .u64 (nb : Int), Str c, .int .i64 ((nd : Int) % 1099511627776), Str []]] W _ from fun W => by
        have h := rline_any (Ev.mk na nb c ((nd % 1099511627776 : Nat) : Int) []) hok W
        rw [show ((nd % 1099511627776 : Nat) : Int) = (nd : Int) % 1099511627776 by omega] at h
        exact h)
      have HXV := Lib.hid (show ∀ y : Int, (nd : Int) % 1099511627776 = y → y = ((nd % 1099511627776 : Nat) : Int) by intro y h; omega)
      clear hok
      go_wp2_with fail
      obtain ⟨W4, hW4⟩ : ∃ W4, W2.alloc (.cells #[.int .u64 (na : Int), .int .u64 (nb : Int), Str c, .int .i64 ((nd : Int) % 1099511627776), Str []] 32) = W4 := ⟨_, rfl⟩
      have hx4 : Ext W2 W4 := by rw [← hW4]; exact Below.alloc (Below.refl _ _) (Nat.le_refl _) _
      have hb4 : W4.heap[W2.heap.size]? = some (.cells #[.int .u64 (na : Int), .int .u64 (nb : Int), Str c, .int .i64 ((nd : Int) % 1099511627776), Str []] 32 (0, 0)) := by rw [← hW4]; exact Array.getElem?_push_size
      rw [show (W2.alloc (.cells #[.int .u64 (na : Int), .int .u64 (nb : Int), .string ⟨c.toArray⟩, .int .i64 ((nd : Int) % 1099511627776), .string ⟨[].toArray⟩] 32)) = W4 from hW4]
      refine (HLN.out W4).mono ?_
      rintro e W5 ⟨he, hx5⟩
      have hb5 := ext_at hx5 hb4
      have hb6 := ext_at (ext_trans hx4 hx5) HB.out
      have HX5 := Lib.hid (ext_trans HX.out (ext_trans hx4 hx5))
      clear hx4 hx5 hb4 hW4
      have he' : e = .returned (if (Ev.mk na nb c ((nd % 1099511627776 : Nat) : Int) []).right = true then .tuple #[Str (Ev.mk na nb c ((nd % 1099511627776 : Nat) : Int) []).line, .int .i64 0] else .tuple #[Str [], .int .i64 4]) := by
        rw [← show (nd : Int) % 1099511627776 = ((nd % 1099511627776 : Nat) : Int) by omega]; exact he
      subst he'
      clear he
      obtain ⟨u0, u1, u2, u3, u4⟩ := cells5 hb5
      obtain ⟨d0, d1, d2, d3, d4⟩ := cells5 hb6
      have hf := frozen_row hb6
      have HB6 := Lib.hid hb6
      clear hb5 hb6 HLN
      have HRD := Lib.hid (hrd)
      clear hrd
      generalize (Ev.mk na nb c ((nd % 1099511627776 : Nat) : Int) []).line = ln at *
      generalize hR : (Ev.mk na nb c ((nd % 1099511627776 : Nat) : Int) []).right = R at *
      by_cases hG : num16 a = true ∧ num16 b = true ∧ num16 d = true ∧ nd ≤ 2147483647 ∧ R = true
      · obtain ⟨g1, g2, g3, g4, rfl⟩ := hG
        have hz : rdE s = some (Ev.mk na nb c ((nd % 1099511627776 : Nat) : Int) []) := by
          rw [← HRD.out, if_pos ⟨g1, g2, g3, g4, rfl⟩]
        rw [g1, g2, g3]
        simp only [if_true]
        clear hR
        go_wp2_with fail
        obtain ⟨W9, hW9, hst, hch⟩ := set5 HB6.out (.int .u64 (na : Int)) (.int .u64 (nb : Int)) (Str c) (.int .i64 ((nd : Int) % 1099511627776)) (Str [])
        rw [hW9]
        obtain ⟨e0', e1', e2', e3', e4'⟩ := cells5 hst
        have hv : rdV s = .tuple #[.agg #[.int .u64 (na : Int), .int .u64 (nb : Int), Str c, .int .i64 ((nd : Int) % 1099511627776), Str []], .int .i64 0] := by
          rw [rdV, hz]
          show (Value.tuple #[.agg #[.int .u64 (na : Int), .int .u64 (nb : Int), Str c, .int .i64 ((nd % 1099511627776 : Nat) : Int), Str []], .int .i64 0] : Value) = _
          rw [show ((nd % 1099511627776 : Nat) : Int) = (nd : Int) % 1099511627776 by omega]
        refine bodyPost_ret (v := rdV s) (by rw [hv]; simp [results, Tryd.results32, go_sem, e0', e1', e2', e3', e4']) rfl ⟨rfl, below_chg HX5.out hch (fun k hk => by have hk' : k = w.heap.size := hk; omega) (Nat.le_refl _)⟩
      · have hz : rdE s = none := by rw [← HRD.out, if_neg hG]
        have HG := Lib.hid hG
        clear hG hR
        generalize num16 a = A at *
        generalize num16 b = B at *
        generalize num16 d = D at *
        cases R <;>
        (simp only [if_true, if_false, Bool.false_eq_true]
         go_wp2_with fail
         all_goals first
           | exact absurd ⟨by assumption, by assumption, by assumption, by omega, by first | trivial | rfl⟩ HG.out
           | (obtain ⟨W9, hW9, hst, hch⟩ := set5 HB6.out (.int .u64 0) (.int .u64 0) (.string ⟨#[]⟩) (.int .i64 0) (.string ⟨#[]⟩)
              rw [hW9]
              obtain ⟨e0', e1', e2', e3', e4'⟩ := cells5 hst
              refine bodyPost_ret (v := rdV s) (by simp [results, Tryd.results32, go_sem, e0', e1', e2', e3', e4', rdV, hz, evC, evZ]) rfl ⟨rfl, below_chg HX5.out hch (fun k hk => by have hk' : k = w.heap.size := hk; omega) (Nat.le_refl _)⟩))
    · have t1 : (t == [45]) = false := by simpa using h45
      go_wp2_with fail
      refine (refUnhex_any t _ (by omega)).mono ?_
      rintro e W3 ⟨v3, rfl, ho3, hx3⟩
      have hb3 := ext_at hx3 HB.out
      have w2 := ext_cell hx3 q2
      have hsl3 := sl_of_own ho3
      have hcv := str_of_sl hsl3
      obtain ⟨ao3, cap3, rfl, -⟩ := hsl3
      have HX3 := Lib.hid (ext_trans HX.out hx3)
      clear ho3
      rw [List.length_map] at hcv ⊢
      have hUL : (unhR t).2 = 0 → 2 * (unhR t).1.length = t.length := fun h => by have := unhR_canon t h; rw [← hexL_len, this]
      have hTB : txB t = (decide ((unhR t).1 ≠ []) && decide ((unhR t).2 = 0)) := by
        unfold txB
        rw [decide_eq_false h45, Bool.false_or]
        by_cases hc : (unhR t).2 = 0
        · have h6 := hUL hc
          have h7 : (t ≠ []) ↔ ((unhR t).1 ≠ []) := by
            rw [← List.length_pos_iff, ← List.length_pos_iff]; omega
          rw [decide_eq_decide.2 h7]
        · rw [decide_eq_false hc, Bool.and_false, Bool.and_false]
      have hTV : txV t = (unhR t).1 := by unfold txV; rw [if_neg h45]
      by_cases hgd : (unhR t).2 = 0 ∧ (unhR t).1 ≠ []
      · have hlp := hUL hgd.1
        have h1 : txB t = true := by rw [hTB]; simp [hgd]
        have hrd := HR.out h1
        rw [hTV] at hrd
        simp only [h1, true_and] at hrd
        have hb3' := Lib.hid hb3
        obtain ⟨hg1, hg2⟩ := hgd
        rw [hg1]
        clear HR hTB hTV hUL h1 hb3 hx3 HB HX HQ q0 q1 q2 q3 q4 hg1
        have hln : 0 < (unhR t).1.length := List.length_pos_iff.2 hg2
        clear hg2
        generalize (unhR t).1 = px at *
        have t2 : (((px.length : Nat) : Int) == 0) = false := by rw [beq_eq_false_iff_ne]; omega
        have hok : (Ev.mk na nb c ((nd % 1099511627776 : Nat) : Int) px).ok := ⟨ma, mb, by show (-9223372036854775808 : Int) ≤ ((nd % 1099511627776 : Nat) : Int); omega, by show ((nd % 1099511627776 : Nat) : Int) ≤ 9223372036854775807; omega, by show c.length ≤ 1000; omega, by show px.length ≤ 1000; first | omega | (simp; done)⟩
        have HLN := Lib.hid (show ∀ W, Calls Tryd.prog 29 #[.agg #[.int .u64 (na : Int), .int .u64 (nb : Int), Str c, .int .i64 ((nd : Int) % 1099511627776), Str px]] W _ from fun W => by
          have h := rline_any (Ev.mk na nb c ((nd % 1099511627776 : Nat) : Int) px) hok W
          rw [show ((nd % 1099511627776 : Nat) : Int) = (nd : Int) % 1099511627776 by omega] at h
          exact h)
        have HXV := Lib.hid (show ∀ y : Int, (nd : Int) % 1099511627776 = y → y = ((nd % 1099511627776 : Nat) : Int) by intro y h; omega)
        clear hok
        go_wp2_with fail
        obtain ⟨W4, hW4⟩ : ∃ W4, W3.alloc (.cells #[.int .u64 (na : Int), .int .u64 (nb : Int), Str c, .int .i64 ((nd : Int) % 1099511627776), Str px] 32) = W4 := ⟨_, rfl⟩
        have hx4 : Ext W3 W4 := by rw [← hW4]; exact Below.alloc (Below.refl _ _) (Nat.le_refl _) _
        have hb4 : W4.heap[W3.heap.size]? = some (.cells #[.int .u64 (na : Int), .int .u64 (nb : Int), Str c, .int .i64 ((nd : Int) % 1099511627776), Str px] 32 (0, 0)) := by rw [← hW4]; exact Array.getElem?_push_size
        rw [show (W3.alloc (.cells #[.int .u64 (na : Int), .int .u64 (nb : Int), .string ⟨c.toArray⟩, .int .i64 ((nd : Int) % 1099511627776), .string ⟨px.toArray⟩] 32)) = W4 from hW4]
        refine (HLN.out W4).mono ?_
        rintro e W5 ⟨he, hx5⟩
        have hb5 := ext_at hx5 hb4
        have hb6 := ext_at (ext_trans hx4 hx5) hb3'.out
        have HX5 := Lib.hid (ext_trans HX3.out (ext_trans hx4 hx5))
        clear hx4 hx5 hb4 hW4
        have he' : e = .returned (if (Ev.mk na nb c ((nd % 1099511627776 : Nat) : Int) px).right = true then .tuple #[Str (Ev.mk na nb c ((nd % 1099511627776 : Nat) : Int) px).line, .int .i64 0] else .tuple #[Str [], .int .i64 4]) := by
          rw [← show (nd : Int) % 1099511627776 = ((nd % 1099511627776 : Nat) : Int) by omega]; exact he
        subst he'
        clear he
        obtain ⟨u0, u1, u2, u3, u4⟩ := cells5 hb5
        obtain ⟨d0, d1, d2, d3, d4⟩ := cells5 hb6
        have hf := frozen_row hb6
        have HB6 := Lib.hid hb6
        clear hb5 hb6 HLN
        have HRD := Lib.hid (hrd)
        clear hrd
        generalize (Ev.mk na nb c ((nd % 1099511627776 : Nat) : Int) px).line = ln at *
        generalize hR : (Ev.mk na nb c ((nd % 1099511627776 : Nat) : Int) px).right = R at *
        by_cases hG : num16 a = true ∧ num16 b = true ∧ num16 d = true ∧ nd ≤ 2147483647 ∧ R = true
        · obtain ⟨g1, g2, g3, g4, rfl⟩ := hG
          have hz : rdE s = some (Ev.mk na nb c ((nd % 1099511627776 : Nat) : Int) px) := by
            rw [← HRD.out, if_pos ⟨g1, g2, g3, g4, rfl⟩]
          rw [g1, g2, g3]
          simp only [if_true]
          clear hR
          go_wp2_with fail
          obtain ⟨W9, hW9, hst, hch⟩ := set5 HB6.out (.int .u64 (na : Int)) (.int .u64 (nb : Int)) (Str c) (.int .i64 ((nd : Int) % 1099511627776)) (Str px)
          rw [hW9]
          obtain ⟨e0', e1', e2', e3', e4'⟩ := cells5 hst
          have hv : rdV s = .tuple #[.agg #[.int .u64 (na : Int), .int .u64 (nb : Int), Str c, .int .i64 ((nd : Int) % 1099511627776), Str px], .int .i64 0] := by
            rw [rdV, hz]
            show (Value.tuple #[.agg #[.int .u64 (na : Int), .int .u64 (nb : Int), Str c, .int .i64 ((nd % 1099511627776 : Nat) : Int), Str px], .int .i64 0] : Value) = _
            rw [show ((nd % 1099511627776 : Nat) : Int) = (nd : Int) % 1099511627776 by omega]
          refine bodyPost_ret (v := rdV s) (by rw [hv]; simp [results, Tryd.results32, go_sem, e0', e1', e2', e3', e4']) rfl ⟨rfl, below_chg HX5.out hch (fun k hk => by have hk' : k = w.heap.size := hk; omega) (Nat.le_refl _)⟩
        · have hz : rdE s = none := by rw [← HRD.out, if_neg hG]
          have HG := Lib.hid hG
          clear hG hR
          generalize num16 a = A at *
          generalize num16 b = B at *
          generalize num16 d = D at *
          cases R <;>
          (simp only [if_true, if_false, Bool.false_eq_true]
           go_wp2_with fail
           all_goals first
             | exact absurd ⟨by assumption, by assumption, by assumption, by omega, by first | trivial | rfl⟩ HG.out
             | (obtain ⟨W9, hW9, hst, hch⟩ := set5 HB6.out (.int .u64 0) (.int .u64 0) (.string ⟨#[]⟩) (.int .i64 0) (.string ⟨#[]⟩)
                rw [hW9]
                obtain ⟨e0', e1', e2', e3', e4'⟩ := cells5 hst
                refine bodyPost_ret (v := rdV s) (by simp [results, Tryd.results32, go_sem, e0', e1', e2', e3', e4', rdV, hz, evC, evZ]) rfl ⟨rfl, below_chg HX5.out hch (fun k hk => by have hk' : k = w.heap.size := hk; omega) (Nat.le_refl _)⟩))
      · have hz : rdE s = none := by
          have h1 : ¬ (txB t = true) := by rw [hTB]; simp; intro h2 h3; exact hgd ⟨h3, h2⟩
          rw [← ref_read s a b c d t hs (valD 0 a) (valD 0 b) (valD 0 d) (fun _ => rfl) (fun _ => rfl) (fun _ => rfl), if_neg (fun h => h1 h.1)]
        have HG := Lib.hid (show ¬ (((unhR t).2 : Int) = 0 ∧ (unhR t).1.length ≠ 0) from fun h => hgd ⟨by omega, fun h2 => h.2 (by rw [h2]; rfl)⟩)
        obtain ⟨d0, d1, d2, d3, d4⟩ := cells5 hb3
        have hf := frozen_row hb3
        have HB3 := Lib.hid hb3
        clear HR hTB hTV hUL hgd hb3 hx3 HB HX HQ q0 q1 q2 q3 q4 w2
        generalize unhR t = un at *
        obtain ⟨px, code⟩ := un
        simp only at hcv HG
        by_cases hc0 : code = 0
        · subst hc0
          have hp0 : px.length = 0 := by have h := HG.out; omega
          have t6 : (((px.length : Nat) : Int) == 0) = true := by rw [beq_iff_eq]; omega
          go_wp2_with fail
          obtain ⟨W9, hW9, hst, hch⟩ := set5 HB3.out (.int .u64 0) (.int .u64 0) (.string ⟨#[]⟩) (.int .i64 0) (.string ⟨#[]⟩)
          rw [hW9]
          obtain ⟨e0', e1', e2', e3', e4'⟩ := cells5 hst
          refine bodyPost_ret (v := rdV s) (by simp [results, Tryd.results32, go_sem, e0', e1', e2', e3', e4', rdV, hz, evC, evZ]) rfl ⟨rfl, below_chg HX3.out hch (fun k hk => by have hk' : k = w.heap.size := hk; omega) (Nat.le_refl _)⟩
        · have t5 : (((code : Nat) : Int) == 0) = false := by rw [beq_eq_false_iff_ne]; omega
          go_wp2_with fail
          obtain ⟨W9, hW9, hst, hch⟩ := set5 HB3.out (.int .u64 0) (.int .u64 0) (.string ⟨#[]⟩) (.int .i64 0) (.string ⟨#[]⟩)
          rw [hW9]
          obtain ⟨e0', e1', e2', e3', e4'⟩ := cells5 hst
          refine bodyPost_ret (v := rdV s) (by simp [results, Tryd.results32, go_sem, e0', e1', e2', e3', e4', rdV, hz, evC, evZ]) rfl ⟨rfl, below_chg HX3.out hch (fun k hk => by have hk' : k = w.heap.size := hk; omega) (Nat.le_refl _)⟩
  · have hz := rdE_len s h5
    obtain ⟨ao, cap, rfl, -⟩ := sl_of_own ho
    have t1 : (((((spb 32 s).map Str).length : Nat) : Int) == 5) = false := by simp; omega
    rw [List.length_map] at t1 ⊢
    obtain ⟨d0, d1, d2, d3, d4⟩ := cells5 hb1
    have hf := frozen_row hb1
    have HB := Lib.hid hb1
    clear hb1 h5
    go_wp2_with fail
    obtain ⟨W9, hW9, hst, hch⟩ := set5 HB.out (.int .u64 0) (.int .u64 0) (.string ⟨#[]⟩) (.int .i64 0) (.string ⟨#[]⟩)
    rw [hW9]
    obtain ⟨e0', e1', e2', e3', e4'⟩ := cells5 hst
    refine bodyPost_ret (v := rdV s) (by simp [results, Tryd.results32, go_sem, e0', e1', e2', e3', e4', rdV, hz, evC, evZ]) rfl ⟨rfl, below_chg HX.out hch (fun k hk => by have hk' : k = w.heap.size := hk; omega) (Nat.le_refl _)⟩
end Go.Proofs.YtpndahmlbjhdfaaDoor
