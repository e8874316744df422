/-
  ref09.request, ref09.answer, ref09.trim.
-/
import Derived.BigGuardPart
import Derived.RegionTactic
import Derived.Deep.DrawnRows
import Derived.Test.YtmflnffjhfejhaaGreatDoorRows
import Derived.Test.YtmflnffjhfejhaaGreatDoorHsr
import Derived.Test.YtmflnffjhfejhaaGreatDoorHhd
import Derived.Test.YtmflnffjhfejhaaGreatDoorKit
namespace Go.Proofs.YtmflnffjhfejhaaGreatDoor
open Go.RowKit
set_option maxRecDepth 100000
attribute [local go_sem ↓] Go.wp_at_zero Go.wp_at_succ
set_option linter.unusedVariables false
set_option linter.unusedSimpArgs false

theorem req_none (f : List UInt8) (h : (32 : UInt8) ∉ f) : rightB f = false := by
  unfold rightB; rw [spb_plain 32 f h]
theorem req_one (p q : List UInt8) (hp : (32 : UInt8) ∉ p) (hq : (32 : UInt8) ∉ q) : rightB (p ++ 32 :: q) = false := by
  unfold rightB; rw [spb_cons 32 p q hp, spb_plain 32 q hq]
theorem req_two (p p2 q2 : List UInt8) (hp : (32 : UInt8) ∉ p) (hp2 : (32 : UInt8) ∉ p2) : rightB (p ++ 32 :: (p2 ++ 32 :: q2)) = (tokenB p && (targetB p2 && (q2 == verL))) ∧
    (q2 = verL → oneL true (p ++ 32 :: (p2 ++ 32 :: q2)) = p ∧ twoL true (p ++ 32 :: (p2 ++ 32 :: q2)) = p2) := by
  have hsp : spb 32 (p ++ 32 :: (p2 ++ 32 :: q2)) = p :: p2 :: spb 32 q2 := by rw [spb_cons 32 p _ hp, spb_cons 32 p2 q2 hp2]
  have hv : (32 : UInt8) ∉ verL := by decide
  refine ⟨?_, fun h => ?_⟩
  · unfold rightB
    rw [hsp]
    by_cases h : q2 = verL
    · subst h; rw [spb_plain 32 verL hv]
    · have h2 : (q2 == verL) = false := by simpa using h
      rw [h2, Bool.and_false, Bool.and_false]
      obtain ⟨a, t, ht⟩ := spb_split 32 q2
      rw [ht]
      cases t with
      | cons b t => rfl
      | nil =>
        have hj := spb_join 32 q2
        rw [ht] at hj
        have hq : q2 = a := by simpa [List.intercalate] using hj.symm
        subst hq
        show (tokenB p && (targetB p2 && (q2 == verL))) = false
        rw [h2, Bool.and_false, Bool.and_false]
  · subst h
    unfold oneL twoL
    rw [hsp, spb_plain 32 verL hv]
    exact ⟨rfl, rfl⟩
def ReqR (f : List UInt8) (e : Ending) : Prop := ∃ a b, e = .returned (.tuple #[.agg #[Str a, Str b, .int .i64 0, .slice none 0 0], .bool (rightB f)]) ∧ (rightB f = true → a = oneL true f ∧ b = twoL true f)
set_option maxHeartbeats 2000000 in
theorem request_any (f : List UInt8) (hl : f.length ≤ 10000) (w : World) :
    Calls Tryz.prog 20 #[Str f] w fun e w' => ReqR f e ∧ Ext w w' := by
  have hA := Lib.hid (at_any f 32 (by omega))
  have hW1 : ∃ W1, w.alloc (.cells #[Str [], Str [], .int .i64 0, .slice none 0 0] 29) = W1 := ⟨_, rfl⟩
  obtain ⟨W1, hW1⟩ := hW1
  have hx1 : Ext w W1 := by rw [← hW1]; exact Below.alloc (Below.refl _ _) (Nat.le_refl _) _
  have hc1 : W1.heap[w.heap.size]? = some (.cells #[Str [], Str [], .int .i64 0, .slice none 0 0] 29 (0, 0)) := by rw [← hW1]; exact Array.getElem?_push_size
  have hb1 := (Array.getElem?_eq_some_iff.1 hc1).1
  have hf1 := frozen_row hc1
  obtain ⟨d0, d1, d2, d3⟩ := cells4 hc1
  have HC1 := Lib.hid hc1; have HX1 := Lib.hid hx1; have HW1 := Lib.hid hW1
  clear hc1 hx1 hW1
  rcases cut_byte f 32 with ⟨p, q, hc, hfq, hp⟩ | ⟨hc, hno⟩
  · have hat : atI f 32 = (p.length : Int) := by rw [hfq]; exact at_split p q 32 hp
    have hA2 := Lib.hid (at_any q 32 (by rw [hfq] at hl; simp at hl; omega))
    have e1 : f.take p.length = p := by rw [hfq]; simp
    have e2 : f.drop (p.length + 1) = q := by rw [hfq]; simp
    have hll : f.length = p.length + 1 + q.length := by rw [hfq]; simp; omega
    have hb5 : p.length + 1 ≤ f.length := by omega
    have hb6 : p.length ≤ f.length := by omega
    have hql : q.length ≤ 10000 := by omega
    have e5 : f.take f.length = f := List.take_length
    rw [hat] at hA
    clear hll
    rcases cut_byte q 32 with ⟨p2, q2, hc2, hqq, hp2⟩ | ⟨hc2, hno2⟩
    · have hat2 : atI q 32 = (p2.length : Int) := by rw [hqq]; exact at_split p2 q2 32 hp2
      have e3 : q.take p2.length = p2 := by rw [hqq]; simp
      have e4 : q.drop (p2.length + 1) = q2 := by rw [hqq]; simp
      have hll2 : q.length = p2.length + 1 + q2.length := by rw [hqq]; simp; omega
      have hb7 : p2.length + 1 ≤ q.length := by omega
      have hb8 : p2.length ≤ q.length := by omega
      have hb9 : q2.length ≤ 10000 := by omega
      clear hll2
      rw [hat2] at hA2
      obtain ⟨hr, hh⟩ := req_two p p2 q2 hp hp2
      rw [← hqq, ← hfq] at hr hh
      have hTK := Lib.hid (tokenR_any p (by omega))
      have hTG := Lib.hid (targetR_any p2 (by omega))
      by_cases hv : q2 = verL
      · subst hv
        have hv1 : (verL == [72, 84, 84, 80, 47, 49, 46, 49]) = true := rfl
        have hrb : rightB f = (tokenB p && targetB p2) := by rw [hr]; simp
        obtain ⟨hh1, hh2⟩ := hh rfl
        have HH := Lib.hid (And.intro hh1 hh2)
        have HRB := Lib.hid hrb
        clear hr hh hh1 hh2 hrb hc hc2 hfq hqq hp hp2 hat hat2
        go_enter Tryz.func20, Tryz.ntmps20
        go_wp2_with fail
        rw [HW1.out]
        refine (hA.out _).mono ?_
        rintro e w' ⟨rfl, hw⟩; subst w'
        go_wp2_with fail
        refine (hA2.out _).mono ?_
        rintro e w' ⟨rfl, hw⟩; subst w'
        go_wp2_with fail
        generalize targetB p2 = b2 at *
        cases hb1 : tokenB p with
        | false =>
          rw [hb1] at hTK
          rw [hb1] at HRB
          -- inv {'ops': [('mv', 28, 0, 'Str f'), ('mv', 29, 4, '.int .i64 (p.length : Int)'), ('op', 30, [0, 1], 'Str p'), ('mv', 31, 5, 'Str q'), ('mv', 32, 6, '.int .i64 (p2.length : Int)'), ('op', 33, [3, 4], 'Str p2'), ('op', 34, [2, 5], '.agg #[Str p, Str p2, .int .i64 0, .slice none 0 0]'), ('mv', 35, 0, 'Str f'), ('mv', 36, 4, '.int .i64 (p.length : Int)'), ('op', 37, [7, 8], 'Str p'), ('callq', 38, [9], "hTK.out w'", '.bool false'), ('mw', 39, 10, '.bool false'), ('sk', 40), ('sk', 41), ('sk', 42), ('sk', 43), ('op', 44, [11], '.bool false'), ('st', None, [6], 'have e2 : u 2 = .pointer (some ⟨w.heap.size, 0, none⟩) := hu 2 (by decide); have hc9 : W1.drew.heap[w.heap.size]? = _ := HC1.out; have hf9 := frozen_row hc9; have hb9 := (Array.getElem?_eq_some_iff.1 hc9).1; obtain ⟨k0, k1, k2, k3⟩ := cells4 hc9'), ('mw', 3, 16, '.bool false')], 'G': {12: (11, 'false'), 13: (11, 'false'), 14: (11, 'false'), 15: (11, 'false')}, 'W': [('S0', "L 17 = false → w' = W1.drew", 'fun _ => rfl'), ('T0', "L 17 = true → w' = (((W1.drew.setCell ⟨w.heap.size, 0, none⟩ (Str p)).setCell ⟨w.heap.size, 1, none⟩ (Str p2)).setCell ⟨w.heap.size, 2, none⟩ (.int .i64 0)).setCell ⟨w.heap.size, 3, none⟩ (.slice none 0 0)", 'fun h => by cases h')]}
          refine wp_region_any (by kernel_rfl) ?_
          change wpAny _ _ _ _ _ _ _ (World.drew _)
          refine wpAny_inv (n := 19) [28, 29, 30, 31, 32, 33, 34, 35, 36, 37, 38, 39, 40, 41, 42, 43, 44, 3] (fun u L w' =>
              (L 0 = true → u 28 = Str f) ∧
              (L 1 = true → u 29 = .int .i64 (p.length : Int)) ∧
              (L 2 = true → u 30 = Str p) ∧
              (L 3 = true → u 31 = Str q) ∧
              (L 4 = true → u 32 = .int .i64 (p2.length : Int)) ∧
              (L 5 = true → u 33 = Str p2) ∧
              (L 6 = true → u 34 = .agg #[Str p, Str p2, .int .i64 0, .slice none 0 0]) ∧
              (L 7 = true → u 35 = Str f) ∧
              (L 8 = true → u 36 = .int .i64 (p.length : Int)) ∧
              (L 9 = true → u 37 = Str p) ∧
              (L 10 = true → u 38 = .bool false) ∧
              (L 11 = true → u 39 = .bool false) ∧
              (L 12 = true → True) ∧
              (L 13 = true → True) ∧
              (L 14 = true → True) ∧
              (L 15 = true → True) ∧
              (L 16 = true → u 44 = .bool false) ∧
              (L 18 = true → u 3 = .bool false) ∧
              (L 17 = false → w' = W1.drew) ∧
              (L 17 = true → w' = (((W1.drew.setCell ⟨w.heap.size, 0, none⟩ (Str p)).setCell ⟨w.heap.size, 1, none⟩ (Str p2)).setCell ⟨w.heap.size, 2, none⟩ (.int .i64 0)).setCell ⟨w.heap.size, 3, none⟩ (.slice none 0 0)))
            (by rfl) (by kernel_rfl) (by kernel_rfl) (by rfl) ?_ ?_ ?_
          · exact ⟨(fun h => by cases h), (fun h => by cases h), (fun h => by cases h), (fun h => by cases h), (fun h => by cases h), (fun h => by cases h), (fun h => by cases h), (fun h => by cases h), (fun h => by cases h), (fun h => by cases h), (fun h => by cases h), (fun h => by cases h), (fun h => by cases h), (fun h => by cases h), (fun h => by cases h), (fun h => by cases h), (fun h => by cases h), (fun h => by cases h), fun _ => rfl, fun h => by cases h⟩
          · refine ⟨⟨⟨⟨⟨⟨⟨⟨⟨⟨⟨⟨⟨⟨⟨⟨⟨⟨⟨trivial, ?_⟩, ?_⟩, ?_⟩, ?_⟩, ?_⟩, ?_⟩, ?_⟩, ?_⟩, ?_⟩, ?_⟩, ?_⟩, ?_⟩, ?_⟩, ?_⟩, ?_⟩, ?_⟩, ?_⟩, ?_⟩, ?_⟩
            · refine stepOk_some (i := 0) (by rfl) (by rfl) ?_
              rintro u L T w' hT hu hL hp hcl ⟨C0, C1, C2, C3, C4, C5, C6, C7, C8, C9, C10, C11, C12, C13, C14, C15, C16, C18, S0, T0⟩ K hK
              have e1 : u 0 = Str f := hu 0 (by decide)
              go_simp
              refine hK _ _ ?_
              exact ⟨fun _ => rfl, fun h => C1 (by simpa using h), fun h => C2 (by simpa using h), fun h => C3 (by simpa using h), fun h => C4 (by simpa using h), fun h => C5 (by simpa using h), fun h => C6 (by simpa using h), fun h => C7 (by simpa using h), fun h => C8 (by simpa using h), fun h => C9 (by simpa using h), fun h => C10 (by simpa using h), fun h => C11 (by simpa using h), fun h => C12 (by simpa using h), fun h => C13 (by simpa using h), fun h => C14 (by simpa using h), fun h => C15 (by simpa using h), fun h => C16 (by simpa using h), fun h => C18 (by simpa using h), fun h => S0 (by simpa using h), fun h => T0 (by simpa using h)⟩
            · refine stepOk_some (i := 1) (by rfl) (by rfl) ?_
              rintro u L T w' hT hu hL hp hcl ⟨C0, C1, C2, C3, C4, C5, C6, C7, C8, C9, C10, C11, C12, C13, C14, C15, C16, C18, S0, T0⟩ K hK
              have e1 : u 4 = .int .i64 (p.length : Int) := hu 4 (by decide)
              go_simp
              refine hK _ _ ?_
              exact ⟨fun h => C0 (by simpa using h), fun _ => rfl, fun h => C2 (by simpa using h), fun h => C3 (by simpa using h), fun h => C4 (by simpa using h), fun h => C5 (by simpa using h), fun h => C6 (by simpa using h), fun h => C7 (by simpa using h), fun h => C8 (by simpa using h), fun h => C9 (by simpa using h), fun h => C10 (by simpa using h), fun h => C11 (by simpa using h), fun h => C12 (by simpa using h), fun h => C13 (by simpa using h), fun h => C14 (by simpa using h), fun h => C15 (by simpa using h), fun h => C16 (by simpa using h), fun h => C18 (by simpa using h), fun h => S0 (by simpa using h), fun h => T0 (by simpa using h)⟩
            · refine stepOk_some (i := 2) (by rfl) (by rfl) ?_
              rintro u L T w' hT hu hL hp hcl ⟨C0, C1, C2, C3, C4, C5, C6, C7, C8, C9, C10, C11, C12, C13, C14, C15, C16, C18, S0, T0⟩ K hK
              have e0 := C0 (hp.of 0 (by kernel_rfl))
              have e1 := C1 (hp.of 1 (by kernel_rfl))
              go_simp
              try go_bits
              try (rw [if_neg (by omega)]; go_simp)
              refine hK _ _ ?_
              exact ⟨fun h => C0 (by simpa using h), fun h => C1 (by simpa using h), fun _ => rfl, fun h => C3 (by simpa using h), fun h => C4 (by simpa using h), fun h => C5 (by simpa using h), fun h => C6 (by simpa using h), fun h => C7 (by simpa using h), fun h => C8 (by simpa using h), fun h => C9 (by simpa using h), fun h => C10 (by simpa using h), fun h => C11 (by simpa using h), fun h => C12 (by simpa using h), fun h => C13 (by simpa using h), fun h => C14 (by simpa using h), fun h => C15 (by simpa using h), fun h => C16 (by simpa using h), fun h => C18 (by simpa using h), fun h => S0 (by simpa using h), fun h => T0 (by simpa using h)⟩
            · refine stepOk_some (i := 3) (by rfl) (by rfl) ?_
              rintro u L T w' hT hu hL hp hcl ⟨C0, C1, C2, C3, C4, C5, C6, C7, C8, C9, C10, C11, C12, C13, C14, C15, C16, C18, S0, T0⟩ K hK
              have e1 : u 5 = Str q := hu 5 (by decide)
              go_simp
              refine hK _ _ ?_
              exact ⟨fun h => C0 (by simpa using h), fun h => C1 (by simpa using h), fun h => C2 (by simpa using h), fun _ => rfl, fun h => C4 (by simpa using h), fun h => C5 (by simpa using h), fun h => C6 (by simpa using h), fun h => C7 (by simpa using h), fun h => C8 (by simpa using h), fun h => C9 (by simpa using h), fun h => C10 (by simpa using h), fun h => C11 (by simpa using h), fun h => C12 (by simpa using h), fun h => C13 (by simpa using h), fun h => C14 (by simpa using h), fun h => C15 (by simpa using h), fun h => C16 (by simpa using h), fun h => C18 (by simpa using h), fun h => S0 (by simpa using h), fun h => T0 (by simpa using h)⟩
            · refine stepOk_some (i := 4) (by rfl) (by rfl) ?_
              rintro u L T w' hT hu hL hp hcl ⟨C0, C1, C2, C3, C4, C5, C6, C7, C8, C9, C10, C11, C12, C13, C14, C15, C16, C18, S0, T0⟩ K hK
              have e1 : u 6 = .int .i64 (p2.length : Int) := hu 6 (by decide)
              go_simp
              refine hK _ _ ?_
              exact ⟨fun h => C0 (by simpa using h), fun h => C1 (by simpa using h), fun h => C2 (by simpa using h), fun h => C3 (by simpa using h), fun _ => rfl, fun h => C5 (by simpa using h), fun h => C6 (by simpa using h), fun h => C7 (by simpa using h), fun h => C8 (by simpa using h), fun h => C9 (by simpa using h), fun h => C10 (by simpa using h), fun h => C11 (by simpa using h), fun h => C12 (by simpa using h), fun h => C13 (by simpa using h), fun h => C14 (by simpa using h), fun h => C15 (by simpa using h), fun h => C16 (by simpa using h), fun h => C18 (by simpa using h), fun h => S0 (by simpa using h), fun h => T0 (by simpa using h)⟩
            · refine stepOk_some (i := 5) (by rfl) (by rfl) ?_
              rintro u L T w' hT hu hL hp hcl ⟨C0, C1, C2, C3, C4, C5, C6, C7, C8, C9, C10, C11, C12, C13, C14, C15, C16, C18, S0, T0⟩ K hK
              have e3 := C3 (hp.of 3 (by kernel_rfl))
              have e4 := C4 (hp.of 4 (by kernel_rfl))
              go_simp
              try go_bits
              try (rw [if_neg (by omega)]; go_simp)
              refine hK _ _ ?_
              exact ⟨fun h => C0 (by simpa using h), fun h => C1 (by simpa using h), fun h => C2 (by simpa using h), fun h => C3 (by simpa using h), fun h => C4 (by simpa using h), fun _ => rfl, fun h => C6 (by simpa using h), fun h => C7 (by simpa using h), fun h => C8 (by simpa using h), fun h => C9 (by simpa using h), fun h => C10 (by simpa using h), fun h => C11 (by simpa using h), fun h => C12 (by simpa using h), fun h => C13 (by simpa using h), fun h => C14 (by simpa using h), fun h => C15 (by simpa using h), fun h => C16 (by simpa using h), fun h => C18 (by simpa using h), fun h => S0 (by simpa using h), fun h => T0 (by simpa using h)⟩
            · refine stepOk_some (i := 6) (by rfl) (by rfl) ?_
              rintro u L T w' hT hu hL hp hcl ⟨C0, C1, C2, C3, C4, C5, C6, C7, C8, C9, C10, C11, C12, C13, C14, C15, C16, C18, S0, T0⟩ K hK
              have e2 := C2 (hp.of 2 (by kernel_rfl))
              have e5 := C5 (hp.of 5 (by kernel_rfl))
              go_simp
              try go_bits
              try (rw [if_neg (by omega)]; go_simp)
              refine hK _ _ ?_
              exact ⟨fun h => C0 (by simpa using h), fun h => C1 (by simpa using h), fun h => C2 (by simpa using h), fun h => C3 (by simpa using h), fun h => C4 (by simpa using h), fun h => C5 (by simpa using h), fun _ => rfl, fun h => C7 (by simpa using h), fun h => C8 (by simpa using h), fun h => C9 (by simpa using h), fun h => C10 (by simpa using h), fun h => C11 (by simpa using h), fun h => C12 (by simpa using h), fun h => C13 (by simpa using h), fun h => C14 (by simpa using h), fun h => C15 (by simpa using h), fun h => C16 (by simpa using h), fun h => C18 (by simpa using h), fun h => S0 (by simpa using h), fun h => T0 (by simpa using h)⟩
            · refine stepOk_some (i := 7) (by rfl) (by rfl) ?_
              rintro u L T w' hT hu hL hp hcl ⟨C0, C1, C2, C3, C4, C5, C6, C7, C8, C9, C10, C11, C12, C13, C14, C15, C16, C18, S0, T0⟩ K hK
              have e1 : u 0 = Str f := hu 0 (by decide)
              go_simp
              refine hK _ _ ?_
              exact ⟨fun h => C0 (by simpa using h), fun h => C1 (by simpa using h), fun h => C2 (by simpa using h), fun h => C3 (by simpa using h), fun h => C4 (by simpa using h), fun h => C5 (by simpa using h), fun h => C6 (by simpa using h), fun _ => rfl, fun h => C8 (by simpa using h), fun h => C9 (by simpa using h), fun h => C10 (by simpa using h), fun h => C11 (by simpa using h), fun h => C12 (by simpa using h), fun h => C13 (by simpa using h), fun h => C14 (by simpa using h), fun h => C15 (by simpa using h), fun h => C16 (by simpa using h), fun h => C18 (by simpa using h), fun h => S0 (by simpa using h), fun h => T0 (by simpa using h)⟩
            · refine stepOk_some (i := 8) (by rfl) (by rfl) ?_
              rintro u L T w' hT hu hL hp hcl ⟨C0, C1, C2, C3, C4, C5, C6, C7, C8, C9, C10, C11, C12, C13, C14, C15, C16, C18, S0, T0⟩ K hK
              have e1 : u 4 = .int .i64 (p.length : Int) := hu 4 (by decide)
              go_simp
              refine hK _ _ ?_
              exact ⟨fun h => C0 (by simpa using h), fun h => C1 (by simpa using h), fun h => C2 (by simpa using h), fun h => C3 (by simpa using h), fun h => C4 (by simpa using h), fun h => C5 (by simpa using h), fun h => C6 (by simpa using h), fun h => C7 (by simpa using h), fun _ => rfl, fun h => C9 (by simpa using h), fun h => C10 (by simpa using h), fun h => C11 (by simpa using h), fun h => C12 (by simpa using h), fun h => C13 (by simpa using h), fun h => C14 (by simpa using h), fun h => C15 (by simpa using h), fun h => C16 (by simpa using h), fun h => C18 (by simpa using h), fun h => S0 (by simpa using h), fun h => T0 (by simpa using h)⟩
            · refine stepOk_some (i := 9) (by rfl) (by rfl) ?_
              rintro u L T w' hT hu hL hp hcl ⟨C0, C1, C2, C3, C4, C5, C6, C7, C8, C9, C10, C11, C12, C13, C14, C15, C16, C18, S0, T0⟩ K hK
              have e7 := C7 (hp.of 7 (by kernel_rfl))
              have e8 := C8 (hp.of 8 (by kernel_rfl))
              go_simp
              try go_bits
              try (rw [if_neg (by omega)]; go_simp)
              refine hK _ _ ?_
              exact ⟨fun h => C0 (by simpa using h), fun h => C1 (by simpa using h), fun h => C2 (by simpa using h), fun h => C3 (by simpa using h), fun h => C4 (by simpa using h), fun h => C5 (by simpa using h), fun h => C6 (by simpa using h), fun h => C7 (by simpa using h), fun h => C8 (by simpa using h), fun _ => rfl, fun h => C10 (by simpa using h), fun h => C11 (by simpa using h), fun h => C12 (by simpa using h), fun h => C13 (by simpa using h), fun h => C14 (by simpa using h), fun h => C15 (by simpa using h), fun h => C16 (by simpa using h), fun h => C18 (by simpa using h), fun h => S0 (by simpa using h), fun h => T0 (by simpa using h)⟩
            · refine stepOk_some (i := 10) (by rfl) (by rfl) ?_
              rintro u L T w' hT hu hL hp hcl ⟨C0, C1, C2, C3, C4, C5, C6, C7, C8, C9, C10, C11, C12, C13, C14, C15, C16, C18, S0, T0⟩ K hK
              have e9 := C9 (hp.of 9 (by kernel_rfl))
              go_simp
              refine (hTK.out w').mono ?_
              rintro e w1 ⟨he, hx1⟩
              subst w1
              subst he
              refine hK _ _ ?_
              exact ⟨fun h => C0 (by simpa using h), fun h => C1 (by simpa using h), fun h => C2 (by simpa using h), fun h => C3 (by simpa using h), fun h => C4 (by simpa using h), fun h => C5 (by simpa using h), fun h => C6 (by simpa using h), fun h => C7 (by simpa using h), fun h => C8 (by simpa using h), fun h => C9 (by simpa using h), fun _ => rfl, fun h => C11 (by simpa using h), fun h => C12 (by simpa using h), fun h => C13 (by simpa using h), fun h => C14 (by simpa using h), fun h => C15 (by simpa using h), fun h => C16 (by simpa using h), fun h => C18 (by simpa using h), fun h => S0 (by simpa using h), fun h => T0 (by simpa using h)⟩
            · refine stepOk_some (i := 11) (by rfl) (by rfl) ?_
              rintro u L T w' hT hu hL hp hcl ⟨C0, C1, C2, C3, C4, C5, C6, C7, C8, C9, C10, C11, C12, C13, C14, C15, C16, C18, S0, T0⟩ K hK
              have e10 := C10 (hp.of 10 (by kernel_rfl))
              go_simp
              refine hK _ _ ?_
              exact ⟨fun h => C0 (by simpa using h), fun h => C1 (by simpa using h), fun h => C2 (by simpa using h), fun h => C3 (by simpa using h), fun h => C4 (by simpa using h), fun h => C5 (by simpa using h), fun h => C6 (by simpa using h), fun h => C7 (by simpa using h), fun h => C8 (by simpa using h), fun h => C9 (by simpa using h), fun h => C10 (by simpa using h), fun _ => rfl, fun h => C12 (by simpa using h), fun h => C13 (by simpa using h), fun h => C14 (by simpa using h), fun h => C15 (by simpa using h), fun h => C16 (by simpa using h), fun h => C18 (by simpa using h), fun h => S0 (by simpa using h), fun h => T0 (by simpa using h)⟩
            · refine stepOk_some (i := 12) (by rfl) (by rfl) ?_
              rintro u L T w' hT hu hL hp hcl ⟨C0, C1, C2, C3, C4, C5, C6, C7, C8, C9, C10, C11, C12, C13, C14, C15, C16, C18, S0, T0⟩ K hK
              have hg := getD_bool ((hT 39).trans (C11 (hp.of 11 (by kernel_rfl))))
              go_simp
              refine hK _ _ ?_
              exact ⟨fun h => C0 (by simpa using h), fun h => C1 (by simpa using h), fun h => C2 (by simpa using h), fun h => C3 (by simpa using h), fun h => C4 (by simpa using h), fun h => C5 (by simpa using h), fun h => C6 (by simpa using h), fun h => C7 (by simpa using h), fun h => C8 (by simpa using h), fun h => C9 (by simpa using h), fun h => C10 (by simpa using h), fun h => C11 (by simpa using h), fun _ => trivial, fun h => C13 (by simpa using h), fun h => C14 (by simpa using h), fun h => C15 (by simpa using h), fun h => C16 (by simpa using h), fun h => C18 (by simpa using h), fun h => S0 (by simpa using h), fun h => T0 (by simpa using h)⟩
            · refine stepOk_some (i := 13) (by rfl) (by rfl) ?_
              rintro u L T w' hT hu hL hp hcl ⟨C0, C1, C2, C3, C4, C5, C6, C7, C8, C9, C10, C11, C12, C13, C14, C15, C16, C18, S0, T0⟩ K hK
              have hg := getD_bool ((hT 39).trans (C11 (hp.of 11 (by kernel_rfl))))
              go_simp
              refine hK _ _ ?_
              exact ⟨fun h => C0 (by simpa using h), fun h => C1 (by simpa using h), fun h => C2 (by simpa using h), fun h => C3 (by simpa using h), fun h => C4 (by simpa using h), fun h => C5 (by simpa using h), fun h => C6 (by simpa using h), fun h => C7 (by simpa using h), fun h => C8 (by simpa using h), fun h => C9 (by simpa using h), fun h => C10 (by simpa using h), fun h => C11 (by simpa using h), fun h => C12 (by simpa using h), fun _ => trivial, fun h => C14 (by simpa using h), fun h => C15 (by simpa using h), fun h => C16 (by simpa using h), fun h => C18 (by simpa using h), fun h => S0 (by simpa using h), fun h => T0 (by simpa using h)⟩
            · refine stepOk_some (i := 14) (by rfl) (by rfl) ?_
              rintro u L T w' hT hu hL hp hcl ⟨C0, C1, C2, C3, C4, C5, C6, C7, C8, C9, C10, C11, C12, C13, C14, C15, C16, C18, S0, T0⟩ K hK
              have hg := getD_bool ((hT 39).trans (C11 (hp.of 11 (by kernel_rfl))))
              go_simp
              refine hK _ _ ?_
              exact ⟨fun h => C0 (by simpa using h), fun h => C1 (by simpa using h), fun h => C2 (by simpa using h), fun h => C3 (by simpa using h), fun h => C4 (by simpa using h), fun h => C5 (by simpa using h), fun h => C6 (by simpa using h), fun h => C7 (by simpa using h), fun h => C8 (by simpa using h), fun h => C9 (by simpa using h), fun h => C10 (by simpa using h), fun h => C11 (by simpa using h), fun h => C12 (by simpa using h), fun h => C13 (by simpa using h), fun _ => trivial, fun h => C15 (by simpa using h), fun h => C16 (by simpa using h), fun h => C18 (by simpa using h), fun h => S0 (by simpa using h), fun h => T0 (by simpa using h)⟩
            · refine stepOk_some (i := 15) (by rfl) (by rfl) ?_
              rintro u L T w' hT hu hL hp hcl ⟨C0, C1, C2, C3, C4, C5, C6, C7, C8, C9, C10, C11, C12, C13, C14, C15, C16, C18, S0, T0⟩ K hK
              have hg := getD_bool ((hT 39).trans (C11 (hp.of 11 (by kernel_rfl))))
              go_simp
              refine hK _ _ ?_
              exact ⟨fun h => C0 (by simpa using h), fun h => C1 (by simpa using h), fun h => C2 (by simpa using h), fun h => C3 (by simpa using h), fun h => C4 (by simpa using h), fun h => C5 (by simpa using h), fun h => C6 (by simpa using h), fun h => C7 (by simpa using h), fun h => C8 (by simpa using h), fun h => C9 (by simpa using h), fun h => C10 (by simpa using h), fun h => C11 (by simpa using h), fun h => C12 (by simpa using h), fun h => C13 (by simpa using h), fun h => C14 (by simpa using h), fun _ => trivial, fun h => C16 (by simpa using h), fun h => C18 (by simpa using h), fun h => S0 (by simpa using h), fun h => T0 (by simpa using h)⟩
            · refine stepOk_some (i := 16) (by rfl) (by rfl) ?_
              rintro u L T w' hT hu hL hp hcl ⟨C0, C1, C2, C3, C4, C5, C6, C7, C8, C9, C10, C11, C12, C13, C14, C15, C16, C18, S0, T0⟩ K hK
              have e11 := C11 (hp.of 11 (by kernel_rfl))
              go_simp
              try go_bits
              try (rw [if_neg (by omega)]; go_simp)
              refine hK _ _ ?_
              exact ⟨fun h => C0 (by simpa using h), fun h => C1 (by simpa using h), fun h => C2 (by simpa using h), fun h => C3 (by simpa using h), fun h => C4 (by simpa using h), fun h => C5 (by simpa using h), fun h => C6 (by simpa using h), fun h => C7 (by simpa using h), fun h => C8 (by simpa using h), fun h => C9 (by simpa using h), fun h => C10 (by simpa using h), fun h => C11 (by simpa using h), fun h => C12 (by simpa using h), fun h => C13 (by simpa using h), fun h => C14 (by simpa using h), fun h => C15 (by simpa using h), fun _ => rfl, fun h => C18 (by simpa using h), fun h => S0 (by simpa using h), fun h => T0 (by simpa using h)⟩
            · refine stepOk_none (i := 17) (by rfl) (by rfl) ?_
              rintro u L T w' hT hu hL hp hcl ⟨C0, C1, C2, C3, C4, C5, C6, C7, C8, C9, C10, C11, C12, C13, C14, C15, C16, C18, S0, T0⟩ K hK
              have e6 := C6 (hp.of 6 (by kernel_rfl))
              obtain rfl := S0 hL
              have e2 : u 2 = .pointer (some ⟨w.heap.size, 0, none⟩) := hu 2 (by decide); have hc9 : W1.drew.heap[w.heap.size]? = _ := HC1.out; have hf9 := frozen_row hc9; have hb9 := (Array.getElem?_eq_some_iff.1 hc9).1; obtain ⟨k0, k1, k2, k3⟩ := cells4 hc9
              go_simp
              refine hK _ ?_
              exact ⟨fun h => C0 (by simpa using h), fun h => C1 (by simpa using h), fun h => C2 (by simpa using h), fun h => C3 (by simpa using h), fun h => C4 (by simpa using h), fun h => C5 (by simpa using h), fun h => C6 (by simpa using h), fun h => C7 (by simpa using h), fun h => C8 (by simpa using h), fun h => C9 (by simpa using h), fun h => C10 (by simpa using h), fun h => C11 (by simpa using h), fun h => C12 (by simpa using h), fun h => C13 (by simpa using h), fun h => C14 (by simpa using h), fun h => C15 (by simpa using h), fun h => C16 (by simpa using h), fun h => C18 (by simpa using h), fun h => absurd h (by simp), fun _ => rfl⟩
            · refine stepOk_some (i := 18) (by rfl) (by rfl) ?_
              rintro u L T w' hT hu hL hp hcl ⟨C0, C1, C2, C3, C4, C5, C6, C7, C8, C9, C10, C11, C12, C13, C14, C15, C16, C18, S0, T0⟩ K hK
              have e16 := C16 (hp.of 16 (by kernel_rfl))
              go_simp
              refine hK _ _ ?_
              exact ⟨fun h => C0 (by simpa using h), fun h => C1 (by simpa using h), fun h => C2 (by simpa using h), fun h => C3 (by simpa using h), fun h => C4 (by simpa using h), fun h => C5 (by simpa using h), fun h => C6 (by simpa using h), fun h => C7 (by simpa using h), fun h => C8 (by simpa using h), fun h => C9 (by simpa using h), fun h => C10 (by simpa using h), fun h => C11 (by simpa using h), fun h => C12 (by simpa using h), fun h => C13 (by simpa using h), fun h => C14 (by simpa using h), fun h => C15 (by simpa using h), fun h => C16 (by simpa using h), fun _ => rfl, fun h => S0 (by simpa using h), fun h => T0 (by simpa using h)⟩
          · rintro u L w' hall hu ⟨C0, C1, C2, C3, C4, C5, C6, C7, C8, C9, C10, C11, C12, C13, C14, C15, C16, C18, S0, T0⟩
            replace T0 := T0 (hall 17 (by omega))
            replace C0 := C0 (hall 0 (by omega))
            replace C1 := C1 (hall 1 (by omega))
            replace C2 := C2 (hall 2 (by omega))
            replace C3 := C3 (hall 3 (by omega))
            replace C4 := C4 (hall 4 (by omega))
            replace C5 := C5 (hall 5 (by omega))
            replace C6 := C6 (hall 6 (by omega))
            replace C7 := C7 (hall 7 (by omega))
            replace C8 := C8 (hall 8 (by omega))
            replace C9 := C9 (hall 9 (by omega))
            replace C10 := C10 (hall 10 (by omega))
            replace C11 := C11 (hall 11 (by omega))
            replace C12 := C12 (hall 12 (by omega))
            replace C13 := C13 (hall 13 (by omega))
            replace C14 := C14 (hall 14 (by omega))
            replace C15 := C15 (hall 15 (by omega))
            replace C16 := C16 (hall 16 (by omega))
            replace C18 := C18 (hall 18 (by omega))
            simp only [fill, List.setIfInBounds_toArray, List.set_cons_succ, List.set_cons_zero, C0, C1, C2, C3, C4, C5, C6, C7, C8, C9, C10, C11, C16, C18]
            generalize u 40 = s0 at *
            generalize u 41 = s1 at *
            generalize u 42 = s2 at *
            generalize u 43 = s3 at *
            clear C0 C1 C2 C3 C4 C5 C6 C7 C8 C9 C10 C11 C12 C13 C14 C15 C16 C18 hu hall
          -- end inv
            subst w'
            go_wp2_with fail
            obtain ⟨W9, hW9, hst, hch⟩ := set4 (show W1.drew.heap[w.heap.size]? = _ from HC1.out) (Str p) (Str p2) (.int .i64 0) (.slice none 0 0)
            rw [hW9]
            obtain ⟨e0', e1', e2', e3'⟩ := cells4 hst
            refine bodyPost_ret (v := .tuple #[.agg #[Str p, Str p2, .int .i64 0, .slice none 0 0], .bool false]) (by simp [results, Tryz.results20, go_sem, e0', e1', e2', e3']) rfl ⟨⟨p, p2, by rw [HRB.out]; rfl, fun _ => ⟨HH.out.1.symm, HH.out.2.symm⟩⟩, below_chg (Below.drew HX1.out) hch (fun k hk => by have hk' : k = w.heap.size := hk; omega) (Nat.le_refl _)⟩
        | true =>
          rw [hb1] at hTK
          rw [hb1] at HRB
          -- inv {'ops': [('mv', 28, 0, 'Str f'), ('mv', 29, 4, '.int .i64 (p.length : Int)'), ('op', 30, [0, 1], 'Str p'), ('mv', 31, 5, 'Str q'), ('mv', 32, 6, '.int .i64 (p2.length : Int)'), ('op', 33, [3, 4], 'Str p2'), ('op', 34, [2, 5], '.agg #[Str p, Str p2, .int .i64 0, .slice none 0 0]'), ('mv', 35, 0, 'Str f'), ('mv', 36, 4, '.int .i64 (p.length : Int)'), ('op', 37, [7, 8], 'Str p'), ('callq', 38, [9], "hTK.out w'", '.bool true'), ('mw', 39, 10, '.bool true'), ('mv', 40, 5, 'Str q'), ('mv', 41, 6, '.int .i64 (p2.length : Int)'), ('op', 42, [12, 13], 'Str p2'), ('callq', 43, [14], "hTG.out w'", '.bool b2'), ('op', 44, [11, 15], '.bool b2'), ('st', None, [6], 'have e2 : u 2 = .pointer (some ⟨w.heap.size, 0, none⟩) := hu 2 (by decide); have hc9 : W1.drew.heap[w.heap.size]? = _ := HC1.out; have hf9 := frozen_row hc9; have hb9 := (Array.getElem?_eq_some_iff.1 hc9).1; obtain ⟨k0, k1, k2, k3⟩ := cells4 hc9'), ('mw', 3, 16, '.bool b2')], 'G': {12: (11, 'true'), 13: (11, 'true'), 14: (11, 'true'), 15: (11, 'true')}, 'W': [('S0', "L 17 = false → w' = W1.drew", 'fun _ => rfl'), ('T0', "L 17 = true → w' = (((W1.drew.setCell ⟨w.heap.size, 0, none⟩ (Str p)).setCell ⟨w.heap.size, 1, none⟩ (Str p2)).setCell ⟨w.heap.size, 2, none⟩ (.int .i64 0)).setCell ⟨w.heap.size, 3, none⟩ (.slice none 0 0)", 'fun h => by cases h')]}
          refine wp_region_any (by kernel_rfl) ?_
          change wpAny _ _ _ _ _ _ _ (World.drew _)
          refine wpAny_inv (n := 19) [28, 29, 30, 31, 32, 33, 34, 35, 36, 37, 38, 39, 40, 41, 42, 43, 44, 3] (fun u L w' =>
              (L 0 = true → u 28 = Str f) ∧
              (L 1 = true → u 29 = .int .i64 (p.length : Int)) ∧
              (L 2 = true → u 30 = Str p) ∧
              (L 3 = true → u 31 = Str q) ∧
              (L 4 = true → u 32 = .int .i64 (p2.length : Int)) ∧
              (L 5 = true → u 33 = Str p2) ∧
              (L 6 = true → u 34 = .agg #[Str p, Str p2, .int .i64 0, .slice none 0 0]) ∧
              (L 7 = true → u 35 = Str f) ∧
              (L 8 = true → u 36 = .int .i64 (p.length : Int)) ∧
              (L 9 = true → u 37 = Str p) ∧
              (L 10 = true → u 38 = .bool true) ∧
              (L 11 = true → u 39 = .bool true) ∧
              (L 12 = true → u 40 = Str q) ∧
              (L 13 = true → u 41 = .int .i64 (p2.length : Int)) ∧
              (L 14 = true → u 42 = Str p2) ∧
              (L 15 = true → u 43 = .bool b2) ∧
              (L 16 = true → u 44 = .bool b2) ∧
              (L 18 = true → u 3 = .bool b2) ∧
              (L 17 = false → w' = W1.drew) ∧
              (L 17 = true → w' = (((W1.drew.setCell ⟨w.heap.size, 0, none⟩ (Str p)).setCell ⟨w.heap.size, 1, none⟩ (Str p2)).setCell ⟨w.heap.size, 2, none⟩ (.int .i64 0)).setCell ⟨w.heap.size, 3, none⟩ (.slice none 0 0)))
            (by rfl) (by kernel_rfl) (by kernel_rfl) (by rfl) ?_ ?_ ?_
          · exact ⟨(fun h => by cases h), (fun h => by cases h), (fun h => by cases h), (fun h => by cases h), (fun h => by cases h), (fun h => by cases h), (fun h => by cases h), (fun h => by cases h), (fun h => by cases h), (fun h => by cases h), (fun h => by cases h), (fun h => by cases h), (fun h => by cases h), (fun h => by cases h), (fun h => by cases h), (fun h => by cases h), (fun h => by cases h), (fun h => by cases h), fun _ => rfl, fun h => by cases h⟩
          · refine ⟨⟨⟨⟨⟨⟨⟨⟨⟨⟨⟨⟨⟨⟨⟨⟨⟨⟨⟨trivial, ?_⟩, ?_⟩, ?_⟩, ?_⟩, ?_⟩, ?_⟩, ?_⟩, ?_⟩, ?_⟩, ?_⟩, ?_⟩, ?_⟩, ?_⟩, ?_⟩, ?_⟩, ?_⟩, ?_⟩, ?_⟩, ?_⟩
            · refine stepOk_some (i := 0) (by rfl) (by rfl) ?_
              rintro u L T w' hT hu hL hp hcl ⟨C0, C1, C2, C3, C4, C5, C6, C7, C8, C9, C10, C11, C12, C13, C14, C15, C16, C18, S0, T0⟩ K hK
              have e1 : u 0 = Str f := hu 0 (by decide)
              go_simp
              refine hK _ _ ?_
              exact ⟨fun _ => rfl, fun h => C1 (by simpa using h), fun h => C2 (by simpa using h), fun h => C3 (by simpa using h), fun h => C4 (by simpa using h), fun h => C5 (by simpa using h), fun h => C6 (by simpa using h), fun h => C7 (by simpa using h), fun h => C8 (by simpa using h), fun h => C9 (by simpa using h), fun h => C10 (by simpa using h), fun h => C11 (by simpa using h), fun h => C12 (by simpa using h), fun h => C13 (by simpa using h), fun h => C14 (by simpa using h), fun h => C15 (by simpa using h), fun h => C16 (by simpa using h), fun h => C18 (by simpa using h), fun h => S0 (by simpa using h), fun h => T0 (by simpa using h)⟩
            · refine stepOk_some (i := 1) (by rfl) (by rfl) ?_
              rintro u L T w' hT hu hL hp hcl ⟨C0, C1, C2, C3, C4, C5, C6, C7, C8, C9, C10, C11, C12, C13, C14, C15, C16, C18, S0, T0⟩ K hK
              have e1 : u 4 = .int .i64 (p.length : Int) := hu 4 (by decide)
              go_simp
              refine hK _ _ ?_
              exact ⟨fun h => C0 (by simpa using h), fun _ => rfl, fun h => C2 (by simpa using h), fun h => C3 (by simpa using h), fun h => C4 (by simpa using h), fun h => C5 (by simpa using h), fun h => C6 (by simpa using h), fun h => C7 (by simpa using h), fun h => C8 (by simpa using h), fun h => C9 (by simpa using h), fun h => C10 (by simpa using h), fun h => C11 (by simpa using h), fun h => C12 (by simpa using h), fun h => C13 (by simpa using h), fun h => C14 (by simpa using h), fun h => C15 (by simpa using h), fun h => C16 (by simpa using h), fun h => C18 (by simpa using h), fun h => S0 (by simpa using h), fun h => T0 (by simpa using h)⟩
            · refine stepOk_some (i := 2) (by rfl) (by rfl) ?_
              rintro u L T w' hT hu hL hp hcl ⟨C0, C1, C2, C3, C4, C5, C6, C7, C8, C9, C10, C11, C12, C13, C14, C15, C16, C18, S0, T0⟩ K hK
              have e0 := C0 (hp.of 0 (by kernel_rfl))
              have e1 := C1 (hp.of 1 (by kernel_rfl))
              go_simp
              try go_bits
              try (rw [if_neg (by omega)]; go_simp)
              refine hK _ _ ?_
              exact ⟨fun h => C0 (by simpa using h), fun h => C1 (by simpa using h), fun _ => rfl, fun h => C3 (by simpa using h), fun h => C4 (by simpa using h), fun h => C5 (by simpa using h), fun h => C6 (by simpa using h), fun h => C7 (by simpa using h), fun h => C8 (by simpa using h), fun h => C9 (by simpa using h), fun h => C10 (by simpa using h), fun h => C11 (by simpa using h), fun h => C12 (by simpa using h), fun h => C13 (by simpa using h), fun h => C14 (by simpa using h), fun h => C15 (by simpa using h), fun h => C16 (by simpa using h), fun h => C18 (by simpa using h), fun h => S0 (by simpa using h), fun h => T0 (by simpa using h)⟩
            · refine stepOk_some (i := 3) (by rfl) (by rfl) ?_
              rintro u L T w' hT hu hL hp hcl ⟨C0, C1, C2, C3, C4, C5, C6, C7, C8, C9, C10, C11, C12, C13, C14, C15, C16, C18, S0, T0⟩ K hK
              have e1 : u 5 = Str q := hu 5 (by decide)
              go_simp
              refine hK _ _ ?_
              exact ⟨fun h => C0 (by simpa using h), fun h => C1 (by simpa using h), fun h => C2 (by simpa using h), fun _ => rfl, fun h => C4 (by simpa using h), fun h => C5 (by simpa using h), fun h => C6 (by simpa using h), fun h => C7 (by simpa using h), fun h => C8 (by simpa using h), fun h => C9 (by simpa using h), fun h => C10 (by simpa using h), fun h => C11 (by simpa using h), fun h => C12 (by simpa using h), fun h => C13 (by simpa using h), fun h => C14 (by simpa using h), fun h => C15 (by simpa using h), fun h => C16 (by simpa using h), fun h => C18 (by simpa using h), fun h => S0 (by simpa using h), fun h => T0 (by simpa using h)⟩
            · refine stepOk_some (i := 4) (by rfl) (by rfl) ?_
              rintro u L T w' hT hu hL hp hcl ⟨C0, C1, C2, C3, C4, C5, C6, C7, C8, C9, C10, C11, C12, C13, C14, C15, C16, C18, S0, T0⟩ K hK
              have e1 : u 6 = .int .i64 (p2.length : Int) := hu 6 (by decide)
              go_simp
              refine hK _ _ ?_
              exact ⟨fun h => C0 (by simpa using h), fun h => C1 (by simpa using h), fun h => C2 (by simpa using h), fun h => C3 (by simpa using h), fun _ => rfl, fun h => C5 (by simpa using h), fun h => C6 (by simpa using h), fun h => C7 (by simpa using h), fun h => C8 (by simpa using h), fun h => C9 (by simpa using h), fun h => C10 (by simpa using h), fun h => C11 (by simpa using h), fun h => C12 (by simpa using h), fun h => C13 (by simpa using h), fun h => C14 (by simpa using h), fun h => C15 (by simpa using h), fun h => C16 (by simpa using h), fun h => C18 (by simpa using h), fun h => S0 (by simpa using h), fun h => T0 (by simpa using h)⟩
            · refine stepOk_some (i := 5) (by rfl) (by rfl) ?_
              rintro u L T w' hT hu hL hp hcl ⟨C0, C1, C2, C3, C4, C5, C6, C7, C8, C9, C10, C11, C12, C13, C14, C15, C16, C18, S0, T0⟩ K hK
              have e3 := C3 (hp.of 3 (by kernel_rfl))
              have e4 := C4 (hp.of 4 (by kernel_rfl))
              go_simp
              try go_bits
              try (rw [if_neg (by omega)]; go_simp)
              refine hK _ _ ?_
              exact ⟨fun h => C0 (by simpa using h), fun h => C1 (by simpa using h), fun h => C2 (by simpa using h), fun h => C3 (by simpa using h), fun h => C4 (by simpa using h), fun _ => rfl, fun h => C6 (by simpa using h), fun h => C7 (by simpa using h), fun h => C8 (by simpa using h), fun h => C9 (by simpa using h), fun h => C10 (by simpa using h), fun h => C11 (by simpa using h), fun h => C12 (by simpa using h), fun h => C13 (by simpa using h), fun h => C14 (by simpa using h), fun h => C15 (by simpa using h), fun h => C16 (by simpa using h), fun h => C18 (by simpa using h), fun h => S0 (by simpa using h), fun h => T0 (by simpa using h)⟩
            · refine stepOk_some (i := 6) (by rfl) (by rfl) ?_
              rintro u L T w' hT hu hL hp hcl ⟨C0, C1, C2, C3, C4, C5, C6, C7, C8, C9, C10, C11, C12, C13, C14, C15, C16, C18, S0, T0⟩ K hK
              have e2 := C2 (hp.of 2 (by kernel_rfl))
              have e5 := C5 (hp.of 5 (by kernel_rfl))
              go_simp
              try go_bits
              try (rw [if_neg (by omega)]; go_simp)
              refine hK _ _ ?_
              exact ⟨fun h => C0 (by simpa using h), fun h => C1 (by simpa using h), fun h => C2 (by simpa using h), fun h => C3 (by simpa using h), fun h => C4 (by simpa using h), fun h => C5 (by simpa using h), fun _ => rfl, fun h => C7 (by simpa using h), fun h => C8 (by simpa using h), fun h => C9 (by simpa using h), fun h => C10 (by simpa using h), fun h => C11 (by simpa using h), fun h => C12 (by simpa using h), fun h => C13 (by simpa using h), fun h => C14 (by simpa using h), fun h => C15 (by simpa using h), fun h => C16 (by simpa using h), fun h => C18 (by simpa using h), fun h => S0 (by simpa using h), fun h => T0 (by simpa using h)⟩
            · refine stepOk_some (i := 7) (by rfl) (by rfl) ?_
              rintro u L T w' hT hu hL hp hcl ⟨C0, C1, C2, C3, C4, C5, C6, C7, C8, C9, C10, C11, C12, C13, C14, C15, C16, C18, S0, T0⟩ K hK
              have e1 : u 0 = Str f := hu 0 (by decide)
              go_simp
              refine hK _ _ ?_
              exact ⟨fun h => C0 (by simpa using h), fun h => C1 (by simpa using h), fun h => C2 (by simpa using h), fun h => C3 (by simpa using h), fun h => C4 (by simpa using h), fun h => C5 (by simpa using h), fun h => C6 (by simpa using h), fun _ => rfl, fun h => C8 (by simpa using h), fun h => C9 (by simpa using h), fun h => C10 (by simpa using h), fun h => C11 (by simpa using h), fun h => C12 (by simpa using h), fun h => C13 (by simpa using h), fun h => C14 (by simpa using h), fun h => C15 (by simpa using h), fun h => C16 (by simpa using h), fun h => C18 (by simpa using h), fun h => S0 (by simpa using h), fun h => T0 (by simpa using h)⟩
            · refine stepOk_some (i := 8) (by rfl) (by rfl) ?_
              rintro u L T w' hT hu hL hp hcl ⟨C0, C1, C2, C3, C4, C5, C6, C7, C8, C9, C10, C11, C12, C13, C14, C15, C16, C18, S0, T0⟩ K hK
              have e1 : u 4 = .int .i64 (p.length : Int) := hu 4 (by decide)
              go_simp
              refine hK _ _ ?_
              exact ⟨fun h => C0 (by simpa using h), fun h => C1 (by simpa using h), fun h => C2 (by simpa using h), fun h => C3 (by simpa using h), fun h => C4 (by simpa using h), fun h => C5 (by simpa using h), fun h => C6 (by simpa using h), fun h => C7 (by simpa using h), fun _ => rfl, fun h => C9 (by simpa using h), fun h => C10 (by simpa using h), fun h => C11 (by simpa using h), fun h => C12 (by simpa using h), fun h => C13 (by simpa using h), fun h => C14 (by simpa using h), fun h => C15 (by simpa using h), fun h => C16 (by simpa using h), fun h => C18 (by simpa using h), fun h => S0 (by simpa using h), fun h => T0 (by simpa using h)⟩
            · refine stepOk_some (i := 9) (by rfl) (by rfl) ?_
              rintro u L T w' hT hu hL hp hcl ⟨C0, C1, C2, C3, C4, C5, C6, C7, C8, C9, C10, C11, C12, C13, C14, C15, C16, C18, S0, T0⟩ K hK
              have e7 := C7 (hp.of 7 (by kernel_rfl))
              have e8 := C8 (hp.of 8 (by kernel_rfl))
              go_simp
              try go_bits
              try (rw [if_neg (by omega)]; go_simp)
              refine hK _ _ ?_
              exact ⟨fun h => C0 (by simpa using h), fun h => C1 (by simpa using h), fun h => C2 (by simpa using h), fun h => C3 (by simpa using h), fun h => C4 (by simpa using h), fun h => C5 (by simpa using h), fun h => C6 (by simpa using h), fun h => C7 (by simpa using h), fun h => C8 (by simpa using h), fun _ => rfl, fun h => C10 (by simpa using h), fun h => C11 (by simpa using h), fun h => C12 (by simpa using h), fun h => C13 (by simpa using h), fun h => C14 (by simpa using h), fun h => C15 (by simpa using h), fun h => C16 (by simpa using h), fun h => C18 (by simpa using h), fun h => S0 (by simpa using h), fun h => T0 (by simpa using h)⟩
            · refine stepOk_some (i := 10) (by rfl) (by rfl) ?_
              rintro u L T w' hT hu hL hp hcl ⟨C0, C1, C2, C3, C4, C5, C6, C7, C8, C9, C10, C11, C12, C13, C14, C15, C16, C18, S0, T0⟩ K hK
              have e9 := C9 (hp.of 9 (by kernel_rfl))
              go_simp
              refine (hTK.out w').mono ?_
              rintro e w1 ⟨he, hx1⟩
              subst w1
              subst he
              refine hK _ _ ?_
              exact ⟨fun h => C0 (by simpa using h), fun h => C1 (by simpa using h), fun h => C2 (by simpa using h), fun h => C3 (by simpa using h), fun h => C4 (by simpa using h), fun h => C5 (by simpa using h), fun h => C6 (by simpa using h), fun h => C7 (by simpa using h), fun h => C8 (by simpa using h), fun h => C9 (by simpa using h), fun _ => rfl, fun h => C11 (by simpa using h), fun h => C12 (by simpa using h), fun h => C13 (by simpa using h), fun h => C14 (by simpa using h), fun h => C15 (by simpa using h), fun h => C16 (by simpa using h), fun h => C18 (by simpa using h), fun h => S0 (by simpa using h), fun h => T0 (by simpa using h)⟩
            · refine stepOk_some (i := 11) (by rfl) (by rfl) ?_
              rintro u L T w' hT hu hL hp hcl ⟨C0, C1, C2, C3, C4, C5, C6, C7, C8, C9, C10, C11, C12, C13, C14, C15, C16, C18, S0, T0⟩ K hK
              have e10 := C10 (hp.of 10 (by kernel_rfl))
              go_simp
              refine hK _ _ ?_
              exact ⟨fun h => C0 (by simpa using h), fun h => C1 (by simpa using h), fun h => C2 (by simpa using h), fun h => C3 (by simpa using h), fun h => C4 (by simpa using h), fun h => C5 (by simpa using h), fun h => C6 (by simpa using h), fun h => C7 (by simpa using h), fun h => C8 (by simpa using h), fun h => C9 (by simpa using h), fun h => C10 (by simpa using h), fun _ => rfl, fun h => C12 (by simpa using h), fun h => C13 (by simpa using h), fun h => C14 (by simpa using h), fun h => C15 (by simpa using h), fun h => C16 (by simpa using h), fun h => C18 (by simpa using h), fun h => S0 (by simpa using h), fun h => T0 (by simpa using h)⟩
            · refine stepOk_some (i := 12) (by rfl) (by rfl) ?_
              rintro u L T w' hT hu hL hp hcl ⟨C0, C1, C2, C3, C4, C5, C6, C7, C8, C9, C10, C11, C12, C13, C14, C15, C16, C18, S0, T0⟩ K hK
              have hg := getD_bool ((hT 39).trans (C11 (hp.of 11 (by kernel_rfl))))
              have e1 : u 5 = Str q := hu 5 (by decide)
              go_simp
              refine hK _ _ ?_
              exact ⟨fun h => C0 (by simpa using h), fun h => C1 (by simpa using h), fun h => C2 (by simpa using h), fun h => C3 (by simpa using h), fun h => C4 (by simpa using h), fun h => C5 (by simpa using h), fun h => C6 (by simpa using h), fun h => C7 (by simpa using h), fun h => C8 (by simpa using h), fun h => C9 (by simpa using h), fun h => C10 (by simpa using h), fun h => C11 (by simpa using h), fun _ => rfl, fun h => C13 (by simpa using h), fun h => C14 (by simpa using h), fun h => C15 (by simpa using h), fun h => C16 (by simpa using h), fun h => C18 (by simpa using h), fun h => S0 (by simpa using h), fun h => T0 (by simpa using h)⟩
            · refine stepOk_some (i := 13) (by rfl) (by rfl) ?_
              rintro u L T w' hT hu hL hp hcl ⟨C0, C1, C2, C3, C4, C5, C6, C7, C8, C9, C10, C11, C12, C13, C14, C15, C16, C18, S0, T0⟩ K hK
              have hg := getD_bool ((hT 39).trans (C11 (hp.of 11 (by kernel_rfl))))
              have e1 : u 6 = .int .i64 (p2.length : Int) := hu 6 (by decide)
              go_simp
              refine hK _ _ ?_
              exact ⟨fun h => C0 (by simpa using h), fun h => C1 (by simpa using h), fun h => C2 (by simpa using h), fun h => C3 (by simpa using h), fun h => C4 (by simpa using h), fun h => C5 (by simpa using h), fun h => C6 (by simpa using h), fun h => C7 (by simpa using h), fun h => C8 (by simpa using h), fun h => C9 (by simpa using h), fun h => C10 (by simpa using h), fun h => C11 (by simpa using h), fun h => C12 (by simpa using h), fun _ => rfl, fun h => C14 (by simpa using h), fun h => C15 (by simpa using h), fun h => C16 (by simpa using h), fun h => C18 (by simpa using h), fun h => S0 (by simpa using h), fun h => T0 (by simpa using h)⟩
            · refine stepOk_some (i := 14) (by rfl) (by rfl) ?_
              rintro u L T w' hT hu hL hp hcl ⟨C0, C1, C2, C3, C4, C5, C6, C7, C8, C9, C10, C11, C12, C13, C14, C15, C16, C18, S0, T0⟩ K hK
              have hg := getD_bool ((hT 39).trans (C11 (hp.of 11 (by kernel_rfl))))
              have e12 := C12 (hp.of 12 (by kernel_rfl))
              have e13 := C13 (hp.of 13 (by kernel_rfl))
              go_simp
              try go_bits
              try (rw [if_neg (by omega)]; go_simp)
              refine hK _ _ ?_
              exact ⟨fun h => C0 (by simpa using h), fun h => C1 (by simpa using h), fun h => C2 (by simpa using h), fun h => C3 (by simpa using h), fun h => C4 (by simpa using h), fun h => C5 (by simpa using h), fun h => C6 (by simpa using h), fun h => C7 (by simpa using h), fun h => C8 (by simpa using h), fun h => C9 (by simpa using h), fun h => C10 (by simpa using h), fun h => C11 (by simpa using h), fun h => C12 (by simpa using h), fun h => C13 (by simpa using h), fun _ => rfl, fun h => C15 (by simpa using h), fun h => C16 (by simpa using h), fun h => C18 (by simpa using h), fun h => S0 (by simpa using h), fun h => T0 (by simpa using h)⟩
            · refine stepOk_some (i := 15) (by rfl) (by rfl) ?_
              rintro u L T w' hT hu hL hp hcl ⟨C0, C1, C2, C3, C4, C5, C6, C7, C8, C9, C10, C11, C12, C13, C14, C15, C16, C18, S0, T0⟩ K hK
              have hg := getD_bool ((hT 39).trans (C11 (hp.of 11 (by kernel_rfl))))
              have e14 := C14 (hp.of 14 (by kernel_rfl))
              go_simp
              refine (hTG.out w').mono ?_
              rintro e w1 ⟨he, hx1⟩
              subst w1
              subst he
              refine hK _ _ ?_
              exact ⟨fun h => C0 (by simpa using h), fun h => C1 (by simpa using h), fun h => C2 (by simpa using h), fun h => C3 (by simpa using h), fun h => C4 (by simpa using h), fun h => C5 (by simpa using h), fun h => C6 (by simpa using h), fun h => C7 (by simpa using h), fun h => C8 (by simpa using h), fun h => C9 (by simpa using h), fun h => C10 (by simpa using h), fun h => C11 (by simpa using h), fun h => C12 (by simpa using h), fun h => C13 (by simpa using h), fun h => C14 (by simpa using h), fun _ => rfl, fun h => C16 (by simpa using h), fun h => C18 (by simpa using h), fun h => S0 (by simpa using h), fun h => T0 (by simpa using h)⟩
            · refine stepOk_some (i := 16) (by rfl) (by rfl) ?_
              rintro u L T w' hT hu hL hp hcl ⟨C0, C1, C2, C3, C4, C5, C6, C7, C8, C9, C10, C11, C12, C13, C14, C15, C16, C18, S0, T0⟩ K hK
              have e11 := C11 (hp.of 11 (by kernel_rfl))
              have e15 := C15 (hp.of 15 (by kernel_rfl))
              go_simp
              try go_bits
              try (rw [if_neg (by omega)]; go_simp)
              refine hK _ _ ?_
              exact ⟨fun h => C0 (by simpa using h), fun h => C1 (by simpa using h), fun h => C2 (by simpa using h), fun h => C3 (by simpa using h), fun h => C4 (by simpa using h), fun h => C5 (by simpa using h), fun h => C6 (by simpa using h), fun h => C7 (by simpa using h), fun h => C8 (by simpa using h), fun h => C9 (by simpa using h), fun h => C10 (by simpa using h), fun h => C11 (by simpa using h), fun h => C12 (by simpa using h), fun h => C13 (by simpa using h), fun h => C14 (by simpa using h), fun h => C15 (by simpa using h), fun _ => rfl, fun h => C18 (by simpa using h), fun h => S0 (by simpa using h), fun h => T0 (by simpa using h)⟩
            · refine stepOk_none (i := 17) (by rfl) (by rfl) ?_
              rintro u L T w' hT hu hL hp hcl ⟨C0, C1, C2, C3, C4, C5, C6, C7, C8, C9, C10, C11, C12, C13, C14, C15, C16, C18, S0, T0⟩ K hK
              have e6 := C6 (hp.of 6 (by kernel_rfl))
              obtain rfl := S0 hL
              have e2 : u 2 = .pointer (some ⟨w.heap.size, 0, none⟩) := hu 2 (by decide); have hc9 : W1.drew.heap[w.heap.size]? = _ := HC1.out; have hf9 := frozen_row hc9; have hb9 := (Array.getElem?_eq_some_iff.1 hc9).1; obtain ⟨k0, k1, k2, k3⟩ := cells4 hc9
              go_simp
              refine hK _ ?_
              exact ⟨fun h => C0 (by simpa using h), fun h => C1 (by simpa using h), fun h => C2 (by simpa using h), fun h => C3 (by simpa using h), fun h => C4 (by simpa using h), fun h => C5 (by simpa using h), fun h => C6 (by simpa using h), fun h => C7 (by simpa using h), fun h => C8 (by simpa using h), fun h => C9 (by simpa using h), fun h => C10 (by simpa using h), fun h => C11 (by simpa using h), fun h => C12 (by simpa using h), fun h => C13 (by simpa using h), fun h => C14 (by simpa using h), fun h => C15 (by simpa using h), fun h => C16 (by simpa using h), fun h => C18 (by simpa using h), fun h => absurd h (by simp), fun _ => rfl⟩
            · refine stepOk_some (i := 18) (by rfl) (by rfl) ?_
              rintro u L T w' hT hu hL hp hcl ⟨C0, C1, C2, C3, C4, C5, C6, C7, C8, C9, C10, C11, C12, C13, C14, C15, C16, C18, S0, T0⟩ K hK
              have e16 := C16 (hp.of 16 (by kernel_rfl))
              go_simp
              refine hK _ _ ?_
              exact ⟨fun h => C0 (by simpa using h), fun h => C1 (by simpa using h), fun h => C2 (by simpa using h), fun h => C3 (by simpa using h), fun h => C4 (by simpa using h), fun h => C5 (by simpa using h), fun h => C6 (by simpa using h), fun h => C7 (by simpa using h), fun h => C8 (by simpa using h), fun h => C9 (by simpa using h), fun h => C10 (by simpa using h), fun h => C11 (by simpa using h), fun h => C12 (by simpa using h), fun h => C13 (by simpa using h), fun h => C14 (by simpa using h), fun h => C15 (by simpa using h), fun h => C16 (by simpa using h), fun _ => rfl, fun h => S0 (by simpa using h), fun h => T0 (by simpa using h)⟩
          · rintro u L w' hall hu ⟨C0, C1, C2, C3, C4, C5, C6, C7, C8, C9, C10, C11, C12, C13, C14, C15, C16, C18, S0, T0⟩
            replace T0 := T0 (hall 17 (by omega))
            replace C0 := C0 (hall 0 (by omega))
            replace C1 := C1 (hall 1 (by omega))
            replace C2 := C2 (hall 2 (by omega))
            replace C3 := C3 (hall 3 (by omega))
            replace C4 := C4 (hall 4 (by omega))
            replace C5 := C5 (hall 5 (by omega))
            replace C6 := C6 (hall 6 (by omega))
            replace C7 := C7 (hall 7 (by omega))
            replace C8 := C8 (hall 8 (by omega))
            replace C9 := C9 (hall 9 (by omega))
            replace C10 := C10 (hall 10 (by omega))
            replace C11 := C11 (hall 11 (by omega))
            replace C12 := C12 (hall 12 (by omega))
            replace C13 := C13 (hall 13 (by omega))
            replace C14 := C14 (hall 14 (by omega))
            replace C15 := C15 (hall 15 (by omega))
            replace C16 := C16 (hall 16 (by omega))
            replace C18 := C18 (hall 18 (by omega))
            simp only [fill, List.setIfInBounds_toArray, List.set_cons_succ, List.set_cons_zero, C0, C1, C2, C3, C4, C5, C6, C7, C8, C9, C10, C11, C12, C13, C14, C15, C16, C18]
            clear C0 C1 C2 C3 C4 C5 C6 C7 C8 C9 C10 C11 C12 C13 C14 C15 C16 C18 hu hall
          -- end inv
            subst w'
            go_wp2_with fail
            obtain ⟨W9, hW9, hst, hch⟩ := set4 (show W1.drew.heap[w.heap.size]? = _ from HC1.out) (Str p) (Str p2) (.int .i64 0) (.slice none 0 0)
            rw [hW9]
            obtain ⟨e0', e1', e2', e3'⟩ := cells4 hst
            refine bodyPost_ret (v := .tuple #[.agg #[Str p, Str p2, .int .i64 0, .slice none 0 0], .bool b2]) (by simp [results, Tryz.results20, go_sem, e0', e1', e2', e3']) rfl ⟨⟨p, p2, by rw [HRB.out]; rfl, fun _ => ⟨HH.out.1.symm, HH.out.2.symm⟩⟩, below_chg (Below.drew HX1.out) hch (fun k hk => by have hk' : k = w.heap.size := hk; omega) (Nat.le_refl _)⟩
      · have HRF : Hid (rightB f = false) := Lib.hid (by rw [hr, show (q2 == verL) = false by simpa using hv]; simp)
        have hv1 : (q2 == [72, 84, 84, 80, 47, 49, 46, 49]) = false := by have : (q2 == verL) = false := by simpa using hv
                                                                          exact this
        clear hr hh hv hc hc2 hfq hqq hp hp2 hat hat2
        go_enter Tryz.func20, Tryz.ntmps20
        go_wp2_with fail
        rw [HW1.out]
        refine (hA.out _).mono ?_
        rintro e w' ⟨rfl, hw⟩; subst w'
        go_wp2_with fail
        refine (hA2.out _).mono ?_
        rintro e w' ⟨rfl, hw⟩; subst w'
        go_wp2
        obtain ⟨W9, hW9, hst, hch⟩ := set4 HC1.out (.string ⟨#[]⟩) (.string ⟨#[]⟩) (.int .i64 0) (.slice none 0 0)
        rw [hW9]
        obtain ⟨e0', e1', e2', e3'⟩ := cells4 hst
        refine bodyPost_ret (v := .tuple #[.agg #[Str [], Str [], .int .i64 0, .slice none 0 0], .bool false]) (by simp [results, Tryz.results20, go_sem, e0', e1', e2', e3']) rfl ⟨⟨[], [], by rw [HRF.out], fun h => by rw [HRF.out] at h; cases h⟩, below_chg HX1.out hch (fun k hk => by have hk' : k = w.heap.size := hk; omega) (Nat.le_refl _)⟩
    · rw [at_none q 32 hno2] at hA2
      have HRF := Lib.hid (show rightB f = false by rw [hfq]; exact req_one p q hp hno2)
      clear hc hc2 hfq hp hat hno2
      go_enter Tryz.func20, Tryz.ntmps20
      go_wp2_with fail
      rw [HW1.out]
      refine (hA.out _).mono ?_
      rintro e w' ⟨rfl, hw⟩; subst w'
      go_wp2_with fail
      refine (hA2.out _).mono ?_
      rintro e w' ⟨rfl, hw⟩; subst w'
      go_wp2
      obtain ⟨W9, hW9, hst, hch⟩ := set4 HC1.out (.string ⟨#[]⟩) (.string ⟨#[]⟩) (.int .i64 0) (.slice none 0 0)
      rw [hW9]
      obtain ⟨e0', e1', e2', e3'⟩ := cells4 hst
      refine bodyPost_ret (v := .tuple #[.agg #[Str [], Str [], .int .i64 0, .slice none 0 0], .bool false]) (by simp [results, Tryz.results20, go_sem, e0', e1', e2', e3']) rfl ⟨⟨[], [], by rw [HRF.out], fun h => by rw [HRF.out] at h; cases h⟩, below_chg HX1.out hch (fun k hk => by have hk' : k = w.heap.size := hk; omega) (Nat.le_refl _)⟩
  · rw [at_none f 32 hno] at hA
    have HRF := Lib.hid (req_none f hno)
    clear hc hno
    go_enter Tryz.func20, Tryz.ntmps20
    go_wp2_with fail
    rw [HW1.out]
    refine (hA.out _).mono ?_
    rintro e w' ⟨rfl, hw⟩; subst w'
    go_wp2
    obtain ⟨W9, hW9, hst, hch⟩ := set4 HC1.out (.string ⟨#[]⟩) (.string ⟨#[]⟩) (.int .i64 0) (.slice none 0 0)
    rw [hW9]
    obtain ⟨e0', e1', e2', e3'⟩ := cells4 hst
    refine bodyPost_ret (v := .tuple #[.agg #[Str [], Str [], .int .i64 0, .slice none 0 0], .bool false]) (by simp [results, Tryz.results20, go_sem, e0', e1', e2', e3']) rfl ⟨⟨[], [], by rw [HRF.out], fun h => by rw [HRF.out] at h; cases h⟩, below_chg HX1.out hch (fun k hk => by have hk' : k = w.heap.size := hk; omega) (Nat.le_refl _)⟩
end Go.Proofs.YtmflnffjhfejhaaGreatDoor
