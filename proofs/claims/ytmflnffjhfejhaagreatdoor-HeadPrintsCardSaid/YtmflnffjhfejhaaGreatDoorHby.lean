/-
  The bytes of a request's head, of an answer's.
-/
import Derived.BigGuardPart
import Derived.RegionTactic
import Derived.Deep.DrawnRows
import Derived.Test.YtmflnffjhfejhaaGreatDoorRows
import Derived.Test.YtmflnffjhfejhaaGreatDoorHpt
import Derived.Test.YtmflnffjhfejhaaGreatDoorHpa
import Derived.Test.YtmflnffjhfejhaaGreatDoorKit
namespace Go.Proofs.YtmflnffjhfejhaaGreatDoor
open Go.RowKit
set_option maxRecDepth 100000
attribute [local go_sem ↓] Go.wp_at_zero Go.wp_at_succ
set_option linter.unusedVariables false
set_option linter.unusedSimpArgs false

/-- Bytes that were printed. -/
def PrintV (w : World) (u : Value) (l : List UInt8) : Prop := ∃ a cap, u = .slice (some a) l.length cap ∧ SlB w (.slice (some a) l.length cap) l
theorem PrintV.ext {w w' : World} {u : Value} {l : List UInt8} (h : PrintV w u l) (hx : Ext w w') : PrintV w' u l := by
  obtain ⟨a, cap, hu, hs⟩ := h
  exact ⟨a, cap, hu, hs.ext hx⟩
theorem sized_out (asks : Bool) (one two : List UInt8) (st : Int) (fs : List Pr) (f : List UInt8) (rb : Bool) (hrb : rightHd asks one two st = rb) (hf : rb = true → f = firstL asks one two st) :
    (∃ c, (∀ x, sizedE rb (bytesL f fs).length x fs = .tuple #[.slice none 0 0, .int .i64 c]) ∧ bytesO asks one two st fs = .inl c) ∨
      ((∀ x, sizedE rb (bytesL f fs).length x fs = .tuple #[x, .int .i64 0]) ∧ bytesO asks one two st fs = .inr (bytesL f fs)) := by
  unfold sizedE bytesO
  rw [hrb]
  cases hb : (rb && fs.all rightF) with
  | false => exact .inl ⟨4, fun _ => rfl, rfl⟩
  | true =>
    have hr : rb = true := by cases rb; cases hb; rfl
    rw [← hf hr]
    by_cases h : 4096 < (bytesL f fs).length ∨ 24 < fs.length
    · left
      refine ⟨3, fun _ => ?_, ?_⟩
      · rw [if_pos rfl, if_pos h]
      · rw [if_pos rfl, if_pos h]
    · right
      refine ⟨fun _ => ?_, ?_⟩
      · rw [if_pos rfl, if_neg h]
      · rw [if_pos rfl, if_neg h]
theorem itoa_len (n : Int) (h1 : -9223372036854775808 ≤ n) (h2 : n ≤ 9223372036854775807) : (Lib.itoa n).length ≤ 1000 := by
  have key : ∀ (k u : Nat), u < 10 ^ k → 0 < k → (Lib.decDigits u).length ≤ k := by
    intro k
    induction k with
    | zero => intro u _ h0; omega
    | succ k ih =>
      intro u h _
      rw [Lib.decDigits]
      split
      · simp
      · rename_i hge
        have h2 : u / 10 < 10 ^ k := by rw [Nat.pow_succ] at h; omega
        have h3 : 0 < k := by
          rcases Nat.eq_zero_or_pos k with h4 | h4
          · subst h4; simp at h2; omega
          · exact h4
        have := ih _ h2 h3
        simp; omega
  unfold Lib.itoa
  split
  · have := key 20 n.natAbs (by omega) (by omega)
    simp; omega
  · have := key 20 n.toNat (by omega) (by omega)
    omega
set_option maxHeartbeats 8000000 in
theorem reqBytes_any (one two : List UInt8) (st : Int) (v : Value) (fs : List Pr) (h1 : one.length ≤ 5000) (h2 : two.length ≤ 5000) (hl : fs.length ≤ 100) (hb : ∀ p ∈ fs, p.n.length ≤ 5000 ∧ p.v.length ≤ 5000) (w : World) (hr : RowC 2 prC w v fs) :
    Calls Tryz.prog 28 #[.agg #[Str one, Str two, v]] w fun e w' => BytesV (bytesO true one two st fs) w' e ∧ Ext w w' := by
  obtain ⟨ao, cap, hv, hcap, hmax, _⟩ := rowP_shape hr
  unfold maxLen at hmax
  subst hv
  obtain ⟨W1, hW1⟩ : ∃ W1, w.alloc (.cells #[Str one, Str two, .slice ao fs.length cap] 47) = W1 := ⟨_, rfl⟩
  have hx1 : Ext w W1 := by rw [← hW1]; exact Below.alloc (Below.refl _ _) (Nat.le_refl _) _
  have hc1 : W1.heap[w.heap.size]? = some (.cells #[Str one, Str two, .slice ao fs.length cap] 47 (0, 0)) := by rw [← hW1]; exact Array.getElem?_push_size
  have HX1 := Lib.hid hx1; have HC1 := Lib.hid hc1
  have hrx := hr.ext hx1
  have HRX := Lib.hid hrx; have HB := Lib.hid hb
  have HTK := Lib.hid (token_any one (by omega)); have HTG := Lib.hid (target_any two (by omega))
  obtain ⟨bl, hbl⟩ : ∃ bl, bytesL (one ++ 32 :: (two ++ [32, 72, 84, 84, 80, 47, 49, 46, 49])) fs = bl := ⟨_, rfl⟩
  have hbll : bl.length ≤ 100000000 := by
    have := bodyL_len fs hb
    rw [← hbl, bytesL_body]; simp; omega
  have HPR : Hid (∀ W, Ext W1 W → Calls Tryz.prog 44 #[Str (one ++ 32 :: (two ++ [32, 72, 84, 84, 80, 47, 49, 46, 49])), .slice ao fs.length cap] W fun e w' => ∃ v', e = .returned v' ∧ PrintV w' v' bl ∧ Ext W w') := Lib.hid (fun W hx => by
    refine (print_any (one ++ 32 :: (two ++ [32, 72, 84, 84, 80, 47, 49, 46, 49])) _ fs (by simp; omega) hl hb W (HRX.out.ext hx)).mono ?_
    rw [hbl]
    rintro e w' ⟨⟨a, cp, he, hs⟩, hx'⟩
    exact ⟨_, he, ⟨a, cp, rfl, hs⟩, hx'⟩)
  have hrt : rightHd true one two st = (tokenB one && targetB two) := rfl
  have hout := fun rb h => sized_out true one two st fs (one ++ 32 :: (two ++ [32, 72, 84, 84, 80, 47, 49, 46, 49])) rb h (fun _ => rfl)
  rw [hbl] at hout
  have hsz : ∀ rb W u, Ext W1 W → PrintV W u bl → Calls Tryz.prog 43 #[u, .bool rb, .slice ao fs.length cap] W fun e w' => e = .returned (sizedE rb bl.length u fs) ∧ Ext W w' := fun rb W u hx hu => by
    obtain ⟨a, cp, rfl, hs⟩ := hu
    exact sized_any (some a) bl.length cp rb _ fs hbll hb W (HRX.out.ext hx)
  clear hx1 hc1 hr hrx hb hbl hbll
  cases htk : tokenB one with
  | false =>
    rw [htk] at HTK
    obtain ⟨c, hE, hO⟩ : ∃ c, (∀ x, sizedE false bl.length x fs = .tuple #[.slice none 0 0, .int .i64 c]) ∧ bytesO true one two st fs = .inl c := by
      rcases hout false (by rw [hrt, htk]; rfl) with h | ⟨h, _⟩
      · exact h
      · have := h .nilIface; simp [sizedE] at this
    have HO := Lib.hid hO
    have HSZ : Hid (∀ W u, Ext W1 W → PrintV W u bl → Calls Tryz.prog 43 #[u, .bool false, .slice ao fs.length cap] W fun e w' => e = .returned (.tuple #[.slice none 0 0, .int .i64 c]) ∧ Ext W w') := Lib.hid (fun W u hx hu => by have := hsz false W u hx hu; rwa [hE] at this)
    clear hE hO hout hsz hrt
    go_enter Tryz.func28, Tryz.ntmps28
    go_wp2_with fail
    clear hW1
    generalize w.heap.size = g0 at *
    -- inv {'ops': [('fa', 4, 1, '.pointer (some ⟨g0, 0, none⟩)', '.pointer (some ⟨g0, 0, none⟩)'), ('lf', 5, 0, 'Str one', 'obtain ⟨d0, d1, d2⟩ := cells3 H0'), ('op', 6, [1], 'Str (one ++ [32])'), ('fa', 7, 1, '.pointer (some ⟨g0, 0, none⟩)', '.pointer (some ⟨g0, 1, none⟩)'), ('lf', 8, 3, 'Str two', 'obtain ⟨d0, d1, d2⟩ := cells3 H0'), ('op', 9, [2, 4], 'Str (one ++ 32 :: two)'), ('op', 10, [5], 'Str (one ++ 32 :: (two ++ [32]))'), ('op', 11, [6], 'Str (one ++ 32 :: (two ++ [32, 72, 84, 84, 80, 47, 49, 46, 49]))'), ('fa', 12, 1, '.pointer (some ⟨g0, 0, none⟩)', '.pointer (some ⟨g0, 2, none⟩)'), ('lf', 13, 8, '.slice ao fs.length cap', 'obtain ⟨d0, d1, d2⟩ := cells3 H0'), ('callx', 14, [7, 9], "HPR.out w' E1", "PrintV w' (u 14) bl"), ('fa', 15, 1, '.pointer (some ⟨g0, 0, none⟩)', '.pointer (some ⟨g0, 0, none⟩)'), ('lf', 16, 11, 'Str one', 'obtain ⟨d0, d1, d2⟩ := cells3 H0'), ('callq', 17, [12], "HTK.out w'", '.bool false'), ('mw', 18, 13, '.bool false'), ('sk', 19), ('sk', 20), ('sk', 21), ('op', 22, [14], '.bool false'), ('fa', 23, 1, '.pointer (some ⟨g0, 0, none⟩)', '.pointer (some ⟨g0, 2, none⟩)'), ('lf', 24, 19, '.slice ao fs.length cap', 'obtain ⟨d0, d1, d2⟩ := cells3 H0'), ('call', 25, [10, 18, 20], "HSZ.out w' _ E1 e10", '.tuple #[.slice none 0 0, .int .i64 c]'), ('op', 26, [21], '.slice none 0 0'), ('op', 27, [21], '.int .i64 c'), ('mw', 2, 22, '.slice none 0 0'), ('mw', 3, 23, '.int .i64 c')], 'G': {15: (14, 'false'), 16: (14, 'false'), 17: (14, 'false')}, 'W': [('E0', "Ext w w'", 'Below.drew HX1.out'), ('E1', "Ext W1 w'", 'Below.drew (Below.refl _ _)'), ('H0', "w'.heap[g0]? = some (.cells #[Str one, Str two, .slice ao fs.length cap] 47 (0, 0))", 'HC1.out')]}
    refine wp_region_any (by kernel_rfl) ?_
    change wpAny _ _ _ _ _ _ _ (World.drew _)
    refine wpAny_inv (n := 26) [4, 5, 6, 7, 8, 9, 10, 11, 12, 13, 14, 15, 16, 17, 18, 19, 20, 21, 22, 23, 24, 25, 26, 27, 2, 3] (fun u L w' =>
        (L 0 = true → u 4 = .pointer (some ⟨g0, 0, none⟩)) ∧
        (L 1 = true → u 5 = Str one) ∧
        (L 2 = true → u 6 = Str (one ++ [32])) ∧
        (L 3 = true → u 7 = .pointer (some ⟨g0, 1, none⟩)) ∧
        (L 4 = true → u 8 = Str two) ∧
        (L 5 = true → u 9 = Str (one ++ 32 :: two)) ∧
        (L 6 = true → u 10 = Str (one ++ 32 :: (two ++ [32]))) ∧
        (L 7 = true → u 11 = Str (one ++ 32 :: (two ++ [32, 72, 84, 84, 80, 47, 49, 46, 49]))) ∧
        (L 8 = true → u 12 = .pointer (some ⟨g0, 2, none⟩)) ∧
        (L 9 = true → u 13 = .slice ao fs.length cap) ∧
        (L 10 = true → PrintV w' (u 14) bl) ∧
        (L 11 = true → u 15 = .pointer (some ⟨g0, 0, none⟩)) ∧
        (L 12 = true → u 16 = Str one) ∧
        (L 13 = true → u 17 = .bool false) ∧
        (L 14 = true → u 18 = .bool false) ∧
        (L 15 = true → True) ∧
        (L 16 = true → True) ∧
        (L 17 = true → True) ∧
        (L 18 = true → u 22 = .bool false) ∧
        (L 19 = true → u 23 = .pointer (some ⟨g0, 2, none⟩)) ∧
        (L 20 = true → u 24 = .slice ao fs.length cap) ∧
        (L 21 = true → u 25 = .tuple #[.slice none 0 0, .int .i64 c]) ∧
        (L 22 = true → u 26 = .slice none 0 0) ∧
        (L 23 = true → u 27 = .int .i64 c) ∧
        (L 24 = true → u 2 = .slice none 0 0) ∧
        (L 25 = true → u 3 = .int .i64 c) ∧
        (Ext w w') ∧
        (Ext W1 w') ∧
        (w'.heap[g0]? = some (.cells #[Str one, Str two, .slice ao fs.length cap] 47 (0, 0))))
      (by rfl) (by kernel_rfl) (by kernel_rfl) (by rfl) ?_ ?_ ?_
    · exact ⟨(fun h => by cases h), (fun h => by cases h), (fun h => by cases h), (fun h => by cases h), (fun h => by cases h), (fun h => by cases h), (fun h => by cases h), (fun h => by cases h), (fun h => by cases h), (fun h => by cases h), (fun h => by cases h), (fun h => by cases h), (fun h => by cases h), (fun h => by cases h), (fun h => by cases h), (fun h => by cases h), (fun h => by cases h), (fun h => by cases h), (fun h => by cases h), (fun h => by cases h), (fun h => by cases h), (fun h => by cases h), (fun h => by cases h), (fun h => by cases h), (fun h => by cases h), (fun h => by cases h), Below.drew HX1.out, Below.drew (Below.refl _ _), HC1.out⟩
    · refine ⟨⟨⟨⟨⟨⟨⟨⟨⟨⟨⟨⟨⟨⟨⟨⟨⟨⟨⟨⟨⟨⟨⟨⟨⟨⟨trivial, ?_⟩, ?_⟩, ?_⟩, ?_⟩, ?_⟩, ?_⟩, ?_⟩, ?_⟩, ?_⟩, ?_⟩, ?_⟩, ?_⟩, ?_⟩, ?_⟩, ?_⟩, ?_⟩, ?_⟩, ?_⟩, ?_⟩, ?_⟩, ?_⟩, ?_⟩, ?_⟩, ?_⟩, ?_⟩, ?_⟩
      · refine stepOk_some (i := 0) (by rfl) (by rfl) ?_
        rintro u L T w' hT hu hL hp hcl ⟨C0, C1, C2, C3, C4, C5, C6, C7, C8, C9, C10, C11, C12, C13, C14, C15, C16, C17, C18, C19, C20, C21, C22, C23, C24, C25, E0, E1, H0⟩ K hK
        have e1 : u 1 = .pointer (some ⟨g0, 0, none⟩) := hu 1 (by decide)
        go_simp
        refine hK _ _ ?_
        exact ⟨fun _ => rfl, fun h => C1 (by simpa using h), fun h => C2 (by simpa using h), fun h => C3 (by simpa using h), fun h => C4 (by simpa using h), fun h => C5 (by simpa using h), fun h => C6 (by simpa using h), fun h => C7 (by simpa using h), fun h => C8 (by simpa using h), fun h => C9 (by simpa using h), fun h => C10 (by simpa using h), fun h => C11 (by simpa using h), fun h => C12 (by simpa using h), fun h => C13 (by simpa using h), fun h => C14 (by simpa using h), fun h => C15 (by simpa using h), fun h => C16 (by simpa using h), fun h => C17 (by simpa using h), fun h => C18 (by simpa using h), fun h => C19 (by simpa using h), fun h => C20 (by simpa using h), fun h => C21 (by simpa using h), fun h => C22 (by simpa using h), fun h => C23 (by simpa using h), fun h => C24 (by simpa using h), fun h => C25 (by simpa using h), E0, E1, H0⟩
      · refine stepOk_some (i := 1) (by rfl) (by rfl) ?_
        rintro u L T w' hT hu hL hp hcl ⟨C0, C1, C2, C3, C4, C5, C6, C7, C8, C9, C10, C11, C12, C13, C14, C15, C16, C17, C18, C19, C20, C21, C22, C23, C24, C25, E0, E1, H0⟩ K hK
        have e0 := C0 (hp.of 0 (by kernel_rfl))
        obtain ⟨d0, d1, d2⟩ := cells3 H0
        go_simp
        refine hK _ _ ?_
        exact ⟨fun h => C0 (by simpa using h), fun _ => rfl, fun h => C2 (by simpa using h), fun h => C3 (by simpa using h), fun h => C4 (by simpa using h), fun h => C5 (by simpa using h), fun h => C6 (by simpa using h), fun h => C7 (by simpa using h), fun h => C8 (by simpa using h), fun h => C9 (by simpa using h), fun h => C10 (by simpa using h), fun h => C11 (by simpa using h), fun h => C12 (by simpa using h), fun h => C13 (by simpa using h), fun h => C14 (by simpa using h), fun h => C15 (by simpa using h), fun h => C16 (by simpa using h), fun h => C17 (by simpa using h), fun h => C18 (by simpa using h), fun h => C19 (by simpa using h), fun h => C20 (by simpa using h), fun h => C21 (by simpa using h), fun h => C22 (by simpa using h), fun h => C23 (by simpa using h), fun h => C24 (by simpa using h), fun h => C25 (by simpa using h), E0, E1, H0⟩
      · refine stepOk_some (i := 2) (by rfl) (by rfl) ?_
        rintro u L T w' hT hu hL hp hcl ⟨C0, C1, C2, C3, C4, C5, C6, C7, C8, C9, C10, C11, C12, C13, C14, C15, C16, C17, C18, C19, C20, C21, C22, C23, C24, C25, E0, E1, H0⟩ K hK
        have e1 := C1 (hp.of 1 (by kernel_rfl))
        go_simp
        try go_bits
        try (rw [if_neg (by omega)]; go_simp)
        try (rw [if_pos (by omega)]; go_simp)
        refine hK _ _ ?_
        exact ⟨fun h => C0 (by simpa using h), fun h => C1 (by simpa using h), fun _ => rfl, fun h => C3 (by simpa using h), fun h => C4 (by simpa using h), fun h => C5 (by simpa using h), fun h => C6 (by simpa using h), fun h => C7 (by simpa using h), fun h => C8 (by simpa using h), fun h => C9 (by simpa using h), fun h => C10 (by simpa using h), fun h => C11 (by simpa using h), fun h => C12 (by simpa using h), fun h => C13 (by simpa using h), fun h => C14 (by simpa using h), fun h => C15 (by simpa using h), fun h => C16 (by simpa using h), fun h => C17 (by simpa using h), fun h => C18 (by simpa using h), fun h => C19 (by simpa using h), fun h => C20 (by simpa using h), fun h => C21 (by simpa using h), fun h => C22 (by simpa using h), fun h => C23 (by simpa using h), fun h => C24 (by simpa using h), fun h => C25 (by simpa using h), E0, E1, H0⟩
      · refine stepOk_some (i := 3) (by rfl) (by rfl) ?_
        rintro u L T w' hT hu hL hp hcl ⟨C0, C1, C2, C3, C4, C5, C6, C7, C8, C9, C10, C11, C12, C13, C14, C15, C16, C17, C18, C19, C20, C21, C22, C23, C24, C25, E0, E1, H0⟩ K hK
        have e1 : u 1 = .pointer (some ⟨g0, 0, none⟩) := hu 1 (by decide)
        go_simp
        refine hK _ _ ?_
        exact ⟨fun h => C0 (by simpa using h), fun h => C1 (by simpa using h), fun h => C2 (by simpa using h), fun _ => rfl, fun h => C4 (by simpa using h), fun h => C5 (by simpa using h), fun h => C6 (by simpa using h), fun h => C7 (by simpa using h), fun h => C8 (by simpa using h), fun h => C9 (by simpa using h), fun h => C10 (by simpa using h), fun h => C11 (by simpa using h), fun h => C12 (by simpa using h), fun h => C13 (by simpa using h), fun h => C14 (by simpa using h), fun h => C15 (by simpa using h), fun h => C16 (by simpa using h), fun h => C17 (by simpa using h), fun h => C18 (by simpa using h), fun h => C19 (by simpa using h), fun h => C20 (by simpa using h), fun h => C21 (by simpa using h), fun h => C22 (by simpa using h), fun h => C23 (by simpa using h), fun h => C24 (by simpa using h), fun h => C25 (by simpa using h), E0, E1, H0⟩
      · refine stepOk_some (i := 4) (by rfl) (by rfl) ?_
        rintro u L T w' hT hu hL hp hcl ⟨C0, C1, C2, C3, C4, C5, C6, C7, C8, C9, C10, C11, C12, C13, C14, C15, C16, C17, C18, C19, C20, C21, C22, C23, C24, C25, E0, E1, H0⟩ K hK
        have e3 := C3 (hp.of 3 (by kernel_rfl))
        obtain ⟨d0, d1, d2⟩ := cells3 H0
        go_simp
        refine hK _ _ ?_
        exact ⟨fun h => C0 (by simpa using h), fun h => C1 (by simpa using h), fun h => C2 (by simpa using h), fun h => C3 (by simpa using h), fun _ => rfl, fun h => C5 (by simpa using h), fun h => C6 (by simpa using h), fun h => C7 (by simpa using h), fun h => C8 (by simpa using h), fun h => C9 (by simpa using h), fun h => C10 (by simpa using h), fun h => C11 (by simpa using h), fun h => C12 (by simpa using h), fun h => C13 (by simpa using h), fun h => C14 (by simpa using h), fun h => C15 (by simpa using h), fun h => C16 (by simpa using h), fun h => C17 (by simpa using h), fun h => C18 (by simpa using h), fun h => C19 (by simpa using h), fun h => C20 (by simpa using h), fun h => C21 (by simpa using h), fun h => C22 (by simpa using h), fun h => C23 (by simpa using h), fun h => C24 (by simpa using h), fun h => C25 (by simpa using h), E0, E1, H0⟩
      · refine stepOk_some (i := 5) (by rfl) (by rfl) ?_
        rintro u L T w' hT hu hL hp hcl ⟨C0, C1, C2, C3, C4, C5, C6, C7, C8, C9, C10, C11, C12, C13, C14, C15, C16, C17, C18, C19, C20, C21, C22, C23, C24, C25, E0, E1, H0⟩ K hK
        have e2 := C2 (hp.of 2 (by kernel_rfl))
        have e4 := C4 (hp.of 4 (by kernel_rfl))
        go_simp
        try go_bits
        try (rw [if_neg (by omega)]; go_simp)
        try (rw [if_pos (by omega)]; go_simp)
        refine hK _ _ ?_
        exact ⟨fun h => C0 (by simpa using h), fun h => C1 (by simpa using h), fun h => C2 (by simpa using h), fun h => C3 (by simpa using h), fun h => C4 (by simpa using h), fun _ => rfl, fun h => C6 (by simpa using h), fun h => C7 (by simpa using h), fun h => C8 (by simpa using h), fun h => C9 (by simpa using h), fun h => C10 (by simpa using h), fun h => C11 (by simpa using h), fun h => C12 (by simpa using h), fun h => C13 (by simpa using h), fun h => C14 (by simpa using h), fun h => C15 (by simpa using h), fun h => C16 (by simpa using h), fun h => C17 (by simpa using h), fun h => C18 (by simpa using h), fun h => C19 (by simpa using h), fun h => C20 (by simpa using h), fun h => C21 (by simpa using h), fun h => C22 (by simpa using h), fun h => C23 (by simpa using h), fun h => C24 (by simpa using h), fun h => C25 (by simpa using h), E0, E1, H0⟩
      · refine stepOk_some (i := 6) (by rfl) (by rfl) ?_
        rintro u L T w' hT hu hL hp hcl ⟨C0, C1, C2, C3, C4, C5, C6, C7, C8, C9, C10, C11, C12, C13, C14, C15, C16, C17, C18, C19, C20, C21, C22, C23, C24, C25, E0, E1, H0⟩ K hK
        have e5 := C5 (hp.of 5 (by kernel_rfl))
        go_simp
        try go_bits
        try (rw [if_neg (by omega)]; go_simp)
        try (rw [if_pos (by omega)]; go_simp)
        refine hK _ _ ?_
        exact ⟨fun h => C0 (by simpa using h), fun h => C1 (by simpa using h), fun h => C2 (by simpa using h), fun h => C3 (by simpa using h), fun h => C4 (by simpa using h), fun h => C5 (by simpa using h), fun _ => rfl, fun h => C7 (by simpa using h), fun h => C8 (by simpa using h), fun h => C9 (by simpa using h), fun h => C10 (by simpa using h), fun h => C11 (by simpa using h), fun h => C12 (by simpa using h), fun h => C13 (by simpa using h), fun h => C14 (by simpa using h), fun h => C15 (by simpa using h), fun h => C16 (by simpa using h), fun h => C17 (by simpa using h), fun h => C18 (by simpa using h), fun h => C19 (by simpa using h), fun h => C20 (by simpa using h), fun h => C21 (by simpa using h), fun h => C22 (by simpa using h), fun h => C23 (by simpa using h), fun h => C24 (by simpa using h), fun h => C25 (by simpa using h), E0, E1, H0⟩
      · refine stepOk_some (i := 7) (by rfl) (by rfl) ?_
        rintro u L T w' hT hu hL hp hcl ⟨C0, C1, C2, C3, C4, C5, C6, C7, C8, C9, C10, C11, C12, C13, C14, C15, C16, C17, C18, C19, C20, C21, C22, C23, C24, C25, E0, E1, H0⟩ K hK
        have e6 := C6 (hp.of 6 (by kernel_rfl))
        go_simp
        try go_bits
        try (rw [if_neg (by omega)]; go_simp)
        try (rw [if_pos (by omega)]; go_simp)
        refine hK _ _ ?_
        exact ⟨fun h => C0 (by simpa using h), fun h => C1 (by simpa using h), fun h => C2 (by simpa using h), fun h => C3 (by simpa using h), fun h => C4 (by simpa using h), fun h => C5 (by simpa using h), fun h => C6 (by simpa using h), fun _ => rfl, fun h => C8 (by simpa using h), fun h => C9 (by simpa using h), fun h => C10 (by simpa using h), fun h => C11 (by simpa using h), fun h => C12 (by simpa using h), fun h => C13 (by simpa using h), fun h => C14 (by simpa using h), fun h => C15 (by simpa using h), fun h => C16 (by simpa using h), fun h => C17 (by simpa using h), fun h => C18 (by simpa using h), fun h => C19 (by simpa using h), fun h => C20 (by simpa using h), fun h => C21 (by simpa using h), fun h => C22 (by simpa using h), fun h => C23 (by simpa using h), fun h => C24 (by simpa using h), fun h => C25 (by simpa using h), E0, E1, H0⟩
      · refine stepOk_some (i := 8) (by rfl) (by rfl) ?_
        rintro u L T w' hT hu hL hp hcl ⟨C0, C1, C2, C3, C4, C5, C6, C7, C8, C9, C10, C11, C12, C13, C14, C15, C16, C17, C18, C19, C20, C21, C22, C23, C24, C25, E0, E1, H0⟩ K hK
        have e1 : u 1 = .pointer (some ⟨g0, 0, none⟩) := hu 1 (by decide)
        go_simp
        refine hK _ _ ?_
        exact ⟨fun h => C0 (by simpa using h), fun h => C1 (by simpa using h), fun h => C2 (by simpa using h), fun h => C3 (by simpa using h), fun h => C4 (by simpa using h), fun h => C5 (by simpa using h), fun h => C6 (by simpa using h), fun h => C7 (by simpa using h), fun _ => rfl, fun h => C9 (by simpa using h), fun h => C10 (by simpa using h), fun h => C11 (by simpa using h), fun h => C12 (by simpa using h), fun h => C13 (by simpa using h), fun h => C14 (by simpa using h), fun h => C15 (by simpa using h), fun h => C16 (by simpa using h), fun h => C17 (by simpa using h), fun h => C18 (by simpa using h), fun h => C19 (by simpa using h), fun h => C20 (by simpa using h), fun h => C21 (by simpa using h), fun h => C22 (by simpa using h), fun h => C23 (by simpa using h), fun h => C24 (by simpa using h), fun h => C25 (by simpa using h), E0, E1, H0⟩
      · refine stepOk_some (i := 9) (by rfl) (by rfl) ?_
        rintro u L T w' hT hu hL hp hcl ⟨C0, C1, C2, C3, C4, C5, C6, C7, C8, C9, C10, C11, C12, C13, C14, C15, C16, C17, C18, C19, C20, C21, C22, C23, C24, C25, E0, E1, H0⟩ K hK
        have e8 := C8 (hp.of 8 (by kernel_rfl))
        obtain ⟨d0, d1, d2⟩ := cells3 H0
        go_simp
        refine hK _ _ ?_
        exact ⟨fun h => C0 (by simpa using h), fun h => C1 (by simpa using h), fun h => C2 (by simpa using h), fun h => C3 (by simpa using h), fun h => C4 (by simpa using h), fun h => C5 (by simpa using h), fun h => C6 (by simpa using h), fun h => C7 (by simpa using h), fun h => C8 (by simpa using h), fun _ => rfl, fun h => C10 (by simpa using h), fun h => C11 (by simpa using h), fun h => C12 (by simpa using h), fun h => C13 (by simpa using h), fun h => C14 (by simpa using h), fun h => C15 (by simpa using h), fun h => C16 (by simpa using h), fun h => C17 (by simpa using h), fun h => C18 (by simpa using h), fun h => C19 (by simpa using h), fun h => C20 (by simpa using h), fun h => C21 (by simpa using h), fun h => C22 (by simpa using h), fun h => C23 (by simpa using h), fun h => C24 (by simpa using h), fun h => C25 (by simpa using h), E0, E1, H0⟩
      · refine stepOk_some (i := 10) (by rfl) (by rfl) ?_
        rintro u L T w' hT hu hL hp hcl ⟨C0, C1, C2, C3, C4, C5, C6, C7, C8, C9, C10, C11, C12, C13, C14, C15, C16, C17, C18, C19, C20, C21, C22, C23, C24, C25, E0, E1, H0⟩ K hK
        have e7 := C7 (hp.of 7 (by kernel_rfl))
        have e9 := C9 (hp.of 9 (by kernel_rfl))
        go_simp
        refine Calls.mono (HPR.out w' E1) ?_
        rintro e w1 ⟨v1, he, hr1, hx1⟩
        subst he
        refine hK _ _ ?_
        exact ⟨fun h => C0 (by simpa using h), fun h => C1 (by simpa using h), fun h => C2 (by simpa using h), fun h => C3 (by simpa using h), fun h => C4 (by simpa using h), fun h => C5 (by simpa using h), fun h => C6 (by simpa using h), fun h => C7 (by simpa using h), fun h => C8 (by simpa using h), fun h => C9 (by simpa using h), fun _ => hr1, fun h => C11 (by simpa using h), fun h => C12 (by simpa using h), fun h => C13 (by simpa using h), fun h => C14 (by simpa using h), fun h => C15 (by simpa using h), fun h => C16 (by simpa using h), fun h => C17 (by simpa using h), fun h => C18 (by simpa using h), fun h => C19 (by simpa using h), fun h => C20 (by simpa using h), fun h => C21 (by simpa using h), fun h => C22 (by simpa using h), fun h => C23 (by simpa using h), fun h => C24 (by simpa using h), fun h => C25 (by simpa using h), ext_trans (E0) hx1, ext_trans (E1) hx1, ext_at hx1 (H0)⟩
      · refine stepOk_some (i := 11) (by rfl) (by rfl) ?_
        rintro u L T w' hT hu hL hp hcl ⟨C0, C1, C2, C3, C4, C5, C6, C7, C8, C9, C10, C11, C12, C13, C14, C15, C16, C17, C18, C19, C20, C21, C22, C23, C24, C25, E0, E1, H0⟩ K hK
        have e1 : u 1 = .pointer (some ⟨g0, 0, none⟩) := hu 1 (by decide)
        go_simp
        refine hK _ _ ?_
        exact ⟨fun h => C0 (by simpa using h), fun h => C1 (by simpa using h), fun h => C2 (by simpa using h), fun h => C3 (by simpa using h), fun h => C4 (by simpa using h), fun h => C5 (by simpa using h), fun h => C6 (by simpa using h), fun h => C7 (by simpa using h), fun h => C8 (by simpa using h), fun h => C9 (by simpa using h), fun h => C10 (by simpa using h), fun _ => rfl, fun h => C12 (by simpa using h), fun h => C13 (by simpa using h), fun h => C14 (by simpa using h), fun h => C15 (by simpa using h), fun h => C16 (by simpa using h), fun h => C17 (by simpa using h), fun h => C18 (by simpa using h), fun h => C19 (by simpa using h), fun h => C20 (by simpa using h), fun h => C21 (by simpa using h), fun h => C22 (by simpa using h), fun h => C23 (by simpa using h), fun h => C24 (by simpa using h), fun h => C25 (by simpa using h), E0, E1, H0⟩
      · refine stepOk_some (i := 12) (by rfl) (by rfl) ?_
        rintro u L T w' hT hu hL hp hcl ⟨C0, C1, C2, C3, C4, C5, C6, C7, C8, C9, C10, C11, C12, C13, C14, C15, C16, C17, C18, C19, C20, C21, C22, C23, C24, C25, E0, E1, H0⟩ K hK
        have e11 := C11 (hp.of 11 (by kernel_rfl))
        obtain ⟨d0, d1, d2⟩ := cells3 H0
        go_simp
        refine hK _ _ ?_
        exact ⟨fun h => C0 (by simpa using h), fun h => C1 (by simpa using h), fun h => C2 (by simpa using h), fun h => C3 (by simpa using h), fun h => C4 (by simpa using h), fun h => C5 (by simpa using h), fun h => C6 (by simpa using h), fun h => C7 (by simpa using h), fun h => C8 (by simpa using h), fun h => C9 (by simpa using h), fun h => C10 (by simpa using h), fun h => C11 (by simpa using h), fun _ => rfl, fun h => C13 (by simpa using h), fun h => C14 (by simpa using h), fun h => C15 (by simpa using h), fun h => C16 (by simpa using h), fun h => C17 (by simpa using h), fun h => C18 (by simpa using h), fun h => C19 (by simpa using h), fun h => C20 (by simpa using h), fun h => C21 (by simpa using h), fun h => C22 (by simpa using h), fun h => C23 (by simpa using h), fun h => C24 (by simpa using h), fun h => C25 (by simpa using h), E0, E1, H0⟩
      · refine stepOk_some (i := 13) (by rfl) (by rfl) ?_
        rintro u L T w' hT hu hL hp hcl ⟨C0, C1, C2, C3, C4, C5, C6, C7, C8, C9, C10, C11, C12, C13, C14, C15, C16, C17, C18, C19, C20, C21, C22, C23, C24, C25, E0, E1, H0⟩ K hK
        have e12 := C12 (hp.of 12 (by kernel_rfl))
        go_simp
        refine (HTK.out w').mono ?_
        rintro e w1 ⟨he, hx1⟩
        subst w1
        subst he
        refine hK _ _ ?_
        exact ⟨fun h => C0 (by simpa using h), fun h => C1 (by simpa using h), fun h => C2 (by simpa using h), fun h => C3 (by simpa using h), fun h => C4 (by simpa using h), fun h => C5 (by simpa using h), fun h => C6 (by simpa using h), fun h => C7 (by simpa using h), fun h => C8 (by simpa using h), fun h => C9 (by simpa using h), fun h => C10 (by simpa using h), fun h => C11 (by simpa using h), fun h => C12 (by simpa using h), fun _ => rfl, fun h => C14 (by simpa using h), fun h => C15 (by simpa using h), fun h => C16 (by simpa using h), fun h => C17 (by simpa using h), fun h => C18 (by simpa using h), fun h => C19 (by simpa using h), fun h => C20 (by simpa using h), fun h => C21 (by simpa using h), fun h => C22 (by simpa using h), fun h => C23 (by simpa using h), fun h => C24 (by simpa using h), fun h => C25 (by simpa using h), E0, E1, H0⟩
      · refine stepOk_some (i := 14) (by rfl) (by rfl) ?_
        rintro u L T w' hT hu hL hp hcl ⟨C0, C1, C2, C3, C4, C5, C6, C7, C8, C9, C10, C11, C12, C13, C14, C15, C16, C17, C18, C19, C20, C21, C22, C23, C24, C25, E0, E1, H0⟩ K hK
        have e13 := C13 (hp.of 13 (by kernel_rfl))
        go_simp
        refine hK _ _ ?_
        exact ⟨fun h => C0 (by simpa using h), fun h => C1 (by simpa using h), fun h => C2 (by simpa using h), fun h => C3 (by simpa using h), fun h => C4 (by simpa using h), fun h => C5 (by simpa using h), fun h => C6 (by simpa using h), fun h => C7 (by simpa using h), fun h => C8 (by simpa using h), fun h => C9 (by simpa using h), fun h => C10 (by simpa using h), fun h => C11 (by simpa using h), fun h => C12 (by simpa using h), fun h => C13 (by simpa using h), fun _ => rfl, fun h => C15 (by simpa using h), fun h => C16 (by simpa using h), fun h => C17 (by simpa using h), fun h => C18 (by simpa using h), fun h => C19 (by simpa using h), fun h => C20 (by simpa using h), fun h => C21 (by simpa using h), fun h => C22 (by simpa using h), fun h => C23 (by simpa using h), fun h => C24 (by simpa using h), fun h => C25 (by simpa using h), E0, E1, H0⟩
      · refine stepOk_some (i := 15) (by rfl) (by rfl) ?_
        rintro u L T w' hT hu hL hp hcl ⟨C0, C1, C2, C3, C4, C5, C6, C7, C8, C9, C10, C11, C12, C13, C14, C15, C16, C17, C18, C19, C20, C21, C22, C23, C24, C25, E0, E1, H0⟩ K hK
        have hg := getD_bool ((hT 18).trans (C14 (hp.of 14 (by kernel_rfl))))
        go_simp
        refine hK _ _ ?_
        exact ⟨fun h => C0 (by simpa using h), fun h => C1 (by simpa using h), fun h => C2 (by simpa using h), fun h => C3 (by simpa using h), fun h => C4 (by simpa using h), fun h => C5 (by simpa using h), fun h => C6 (by simpa using h), fun h => C7 (by simpa using h), fun h => C8 (by simpa using h), fun h => C9 (by simpa using h), fun h => C10 (by simpa using h), fun h => C11 (by simpa using h), fun h => C12 (by simpa using h), fun h => C13 (by simpa using h), fun h => C14 (by simpa using h), fun _ => trivial, fun h => C16 (by simpa using h), fun h => C17 (by simpa using h), fun h => C18 (by simpa using h), fun h => C19 (by simpa using h), fun h => C20 (by simpa using h), fun h => C21 (by simpa using h), fun h => C22 (by simpa using h), fun h => C23 (by simpa using h), fun h => C24 (by simpa using h), fun h => C25 (by simpa using h), E0, E1, H0⟩
      · refine stepOk_some (i := 16) (by rfl) (by rfl) ?_
        rintro u L T w' hT hu hL hp hcl ⟨C0, C1, C2, C3, C4, C5, C6, C7, C8, C9, C10, C11, C12, C13, C14, C15, C16, C17, C18, C19, C20, C21, C22, C23, C24, C25, E0, E1, H0⟩ K hK
        have hg := getD_bool ((hT 18).trans (C14 (hp.of 14 (by kernel_rfl))))
        go_simp
        refine hK _ _ ?_
        exact ⟨fun h => C0 (by simpa using h), fun h => C1 (by simpa using h), fun h => C2 (by simpa using h), fun h => C3 (by simpa using h), fun h => C4 (by simpa using h), fun h => C5 (by simpa using h), fun h => C6 (by simpa using h), fun h => C7 (by simpa using h), fun h => C8 (by simpa using h), fun h => C9 (by simpa using h), fun h => C10 (by simpa using h), fun h => C11 (by simpa using h), fun h => C12 (by simpa using h), fun h => C13 (by simpa using h), fun h => C14 (by simpa using h), fun h => C15 (by simpa using h), fun _ => trivial, fun h => C17 (by simpa using h), fun h => C18 (by simpa using h), fun h => C19 (by simpa using h), fun h => C20 (by simpa using h), fun h => C21 (by simpa using h), fun h => C22 (by simpa using h), fun h => C23 (by simpa using h), fun h => C24 (by simpa using h), fun h => C25 (by simpa using h), E0, E1, H0⟩
      · refine stepOk_some (i := 17) (by rfl) (by rfl) ?_
        rintro u L T w' hT hu hL hp hcl ⟨C0, C1, C2, C3, C4, C5, C6, C7, C8, C9, C10, C11, C12, C13, C14, C15, C16, C17, C18, C19, C20, C21, C22, C23, C24, C25, E0, E1, H0⟩ K hK
        have hg := getD_bool ((hT 18).trans (C14 (hp.of 14 (by kernel_rfl))))
        go_simp
        refine hK _ _ ?_
        exact ⟨fun h => C0 (by simpa using h), fun h => C1 (by simpa using h), fun h => C2 (by simpa using h), fun h => C3 (by simpa using h), fun h => C4 (by simpa using h), fun h => C5 (by simpa using h), fun h => C6 (by simpa using h), fun h => C7 (by simpa using h), fun h => C8 (by simpa using h), fun h => C9 (by simpa using h), fun h => C10 (by simpa using h), fun h => C11 (by simpa using h), fun h => C12 (by simpa using h), fun h => C13 (by simpa using h), fun h => C14 (by simpa using h), fun h => C15 (by simpa using h), fun h => C16 (by simpa using h), fun _ => trivial, fun h => C18 (by simpa using h), fun h => C19 (by simpa using h), fun h => C20 (by simpa using h), fun h => C21 (by simpa using h), fun h => C22 (by simpa using h), fun h => C23 (by simpa using h), fun h => C24 (by simpa using h), fun h => C25 (by simpa using h), E0, E1, H0⟩
      · refine stepOk_some (i := 18) (by rfl) (by rfl) ?_
        rintro u L T w' hT hu hL hp hcl ⟨C0, C1, C2, C3, C4, C5, C6, C7, C8, C9, C10, C11, C12, C13, C14, C15, C16, C17, C18, C19, C20, C21, C22, C23, C24, C25, E0, E1, H0⟩ K hK
        have e14 := C14 (hp.of 14 (by kernel_rfl))
        go_simp
        try go_bits
        try (rw [if_neg (by omega)]; go_simp)
        try (rw [if_pos (by omega)]; go_simp)
        refine hK _ _ ?_
        exact ⟨fun h => C0 (by simpa using h), fun h => C1 (by simpa using h), fun h => C2 (by simpa using h), fun h => C3 (by simpa using h), fun h => C4 (by simpa using h), fun h => C5 (by simpa using h), fun h => C6 (by simpa using h), fun h => C7 (by simpa using h), fun h => C8 (by simpa using h), fun h => C9 (by simpa using h), fun h => C10 (by simpa using h), fun h => C11 (by simpa using h), fun h => C12 (by simpa using h), fun h => C13 (by simpa using h), fun h => C14 (by simpa using h), fun h => C15 (by simpa using h), fun h => C16 (by simpa using h), fun h => C17 (by simpa using h), fun _ => rfl, fun h => C19 (by simpa using h), fun h => C20 (by simpa using h), fun h => C21 (by simpa using h), fun h => C22 (by simpa using h), fun h => C23 (by simpa using h), fun h => C24 (by simpa using h), fun h => C25 (by simpa using h), E0, E1, H0⟩
      · refine stepOk_some (i := 19) (by rfl) (by rfl) ?_
        rintro u L T w' hT hu hL hp hcl ⟨C0, C1, C2, C3, C4, C5, C6, C7, C8, C9, C10, C11, C12, C13, C14, C15, C16, C17, C18, C19, C20, C21, C22, C23, C24, C25, E0, E1, H0⟩ K hK
        have e1 : u 1 = .pointer (some ⟨g0, 0, none⟩) := hu 1 (by decide)
        go_simp
        refine hK _ _ ?_
        exact ⟨fun h => C0 (by simpa using h), fun h => C1 (by simpa using h), fun h => C2 (by simpa using h), fun h => C3 (by simpa using h), fun h => C4 (by simpa using h), fun h => C5 (by simpa using h), fun h => C6 (by simpa using h), fun h => C7 (by simpa using h), fun h => C8 (by simpa using h), fun h => C9 (by simpa using h), fun h => C10 (by simpa using h), fun h => C11 (by simpa using h), fun h => C12 (by simpa using h), fun h => C13 (by simpa using h), fun h => C14 (by simpa using h), fun h => C15 (by simpa using h), fun h => C16 (by simpa using h), fun h => C17 (by simpa using h), fun h => C18 (by simpa using h), fun _ => rfl, fun h => C20 (by simpa using h), fun h => C21 (by simpa using h), fun h => C22 (by simpa using h), fun h => C23 (by simpa using h), fun h => C24 (by simpa using h), fun h => C25 (by simpa using h), E0, E1, H0⟩
      · refine stepOk_some (i := 20) (by rfl) (by rfl) ?_
        rintro u L T w' hT hu hL hp hcl ⟨C0, C1, C2, C3, C4, C5, C6, C7, C8, C9, C10, C11, C12, C13, C14, C15, C16, C17, C18, C19, C20, C21, C22, C23, C24, C25, E0, E1, H0⟩ K hK
        have e19 := C19 (hp.of 19 (by kernel_rfl))
        obtain ⟨d0, d1, d2⟩ := cells3 H0
        go_simp
        refine hK _ _ ?_
        exact ⟨fun h => C0 (by simpa using h), fun h => C1 (by simpa using h), fun h => C2 (by simpa using h), fun h => C3 (by simpa using h), fun h => C4 (by simpa using h), fun h => C5 (by simpa using h), fun h => C6 (by simpa using h), fun h => C7 (by simpa using h), fun h => C8 (by simpa using h), fun h => C9 (by simpa using h), fun h => C10 (by simpa using h), fun h => C11 (by simpa using h), fun h => C12 (by simpa using h), fun h => C13 (by simpa using h), fun h => C14 (by simpa using h), fun h => C15 (by simpa using h), fun h => C16 (by simpa using h), fun h => C17 (by simpa using h), fun h => C18 (by simpa using h), fun h => C19 (by simpa using h), fun _ => rfl, fun h => C21 (by simpa using h), fun h => C22 (by simpa using h), fun h => C23 (by simpa using h), fun h => C24 (by simpa using h), fun h => C25 (by simpa using h), E0, E1, H0⟩
      · refine stepOk_some (i := 21) (by rfl) (by rfl) ?_
        rintro u L T w' hT hu hL hp hcl ⟨C0, C1, C2, C3, C4, C5, C6, C7, C8, C9, C10, C11, C12, C13, C14, C15, C16, C17, C18, C19, C20, C21, C22, C23, C24, C25, E0, E1, H0⟩ K hK
        have e10 := C10 (hp.of 10 (by kernel_rfl))
        have e18 := C18 (hp.of 18 (by kernel_rfl))
        have e20 := C20 (hp.of 20 (by kernel_rfl))
        go_simp
        refine (HSZ.out w' _ E1 e10).mono ?_
        rintro e w1 ⟨he, hx1⟩
        subst he
        refine hK _ _ ?_
        exact ⟨fun h => C0 (by simpa using h), fun h => C1 (by simpa using h), fun h => C2 (by simpa using h), fun h => C3 (by simpa using h), fun h => C4 (by simpa using h), fun h => C5 (by simpa using h), fun h => C6 (by simpa using h), fun h => C7 (by simpa using h), fun h => C8 (by simpa using h), fun h => C9 (by simpa using h), fun h => (C10 (by simpa using h)).ext hx1, fun h => C11 (by simpa using h), fun h => C12 (by simpa using h), fun h => C13 (by simpa using h), fun h => C14 (by simpa using h), fun h => C15 (by simpa using h), fun h => C16 (by simpa using h), fun h => C17 (by simpa using h), fun h => C18 (by simpa using h), fun h => C19 (by simpa using h), fun h => C20 (by simpa using h), fun _ => rfl, fun h => C22 (by simpa using h), fun h => C23 (by simpa using h), fun h => C24 (by simpa using h), fun h => C25 (by simpa using h), ext_trans (E0) hx1, ext_trans (E1) hx1, ext_at hx1 (H0)⟩
      · refine stepOk_some (i := 22) (by rfl) (by rfl) ?_
        rintro u L T w' hT hu hL hp hcl ⟨C0, C1, C2, C3, C4, C5, C6, C7, C8, C9, C10, C11, C12, C13, C14, C15, C16, C17, C18, C19, C20, C21, C22, C23, C24, C25, E0, E1, H0⟩ K hK
        have e21 := C21 (hp.of 21 (by kernel_rfl))
        go_simp
        try go_bits
        try (rw [if_neg (by omega)]; go_simp)
        try (rw [if_pos (by omega)]; go_simp)
        refine hK _ _ ?_
        exact ⟨fun h => C0 (by simpa using h), fun h => C1 (by simpa using h), fun h => C2 (by simpa using h), fun h => C3 (by simpa using h), fun h => C4 (by simpa using h), fun h => C5 (by simpa using h), fun h => C6 (by simpa using h), fun h => C7 (by simpa using h), fun h => C8 (by simpa using h), fun h => C9 (by simpa using h), fun h => C10 (by simpa using h), fun h => C11 (by simpa using h), fun h => C12 (by simpa using h), fun h => C13 (by simpa using h), fun h => C14 (by simpa using h), fun h => C15 (by simpa using h), fun h => C16 (by simpa using h), fun h => C17 (by simpa using h), fun h => C18 (by simpa using h), fun h => C19 (by simpa using h), fun h => C20 (by simpa using h), fun h => C21 (by simpa using h), fun _ => rfl, fun h => C23 (by simpa using h), fun h => C24 (by simpa using h), fun h => C25 (by simpa using h), E0, E1, H0⟩
      · refine stepOk_some (i := 23) (by rfl) (by rfl) ?_
        rintro u L T w' hT hu hL hp hcl ⟨C0, C1, C2, C3, C4, C5, C6, C7, C8, C9, C10, C11, C12, C13, C14, C15, C16, C17, C18, C19, C20, C21, C22, C23, C24, C25, E0, E1, H0⟩ K hK
        have e21 := C21 (hp.of 21 (by kernel_rfl))
        go_simp
        try go_bits
        try (rw [if_neg (by omega)]; go_simp)
        try (rw [if_pos (by omega)]; go_simp)
        refine hK _ _ ?_
        exact ⟨fun h => C0 (by simpa using h), fun h => C1 (by simpa using h), fun h => C2 (by simpa using h), fun h => C3 (by simpa using h), fun h => C4 (by simpa using h), fun h => C5 (by simpa using h), fun h => C6 (by simpa using h), fun h => C7 (by simpa using h), fun h => C8 (by simpa using h), fun h => C9 (by simpa using h), fun h => C10 (by simpa using h), fun h => C11 (by simpa using h), fun h => C12 (by simpa using h), fun h => C13 (by simpa using h), fun h => C14 (by simpa using h), fun h => C15 (by simpa using h), fun h => C16 (by simpa using h), fun h => C17 (by simpa using h), fun h => C18 (by simpa using h), fun h => C19 (by simpa using h), fun h => C20 (by simpa using h), fun h => C21 (by simpa using h), fun h => C22 (by simpa using h), fun _ => rfl, fun h => C24 (by simpa using h), fun h => C25 (by simpa using h), E0, E1, H0⟩
      · refine stepOk_some (i := 24) (by rfl) (by rfl) ?_
        rintro u L T w' hT hu hL hp hcl ⟨C0, C1, C2, C3, C4, C5, C6, C7, C8, C9, C10, C11, C12, C13, C14, C15, C16, C17, C18, C19, C20, C21, C22, C23, C24, C25, E0, E1, H0⟩ K hK
        have e22 := C22 (hp.of 22 (by kernel_rfl))
        go_simp
        refine hK _ _ ?_
        exact ⟨fun h => C0 (by simpa using h), fun h => C1 (by simpa using h), fun h => C2 (by simpa using h), fun h => C3 (by simpa using h), fun h => C4 (by simpa using h), fun h => C5 (by simpa using h), fun h => C6 (by simpa using h), fun h => C7 (by simpa using h), fun h => C8 (by simpa using h), fun h => C9 (by simpa using h), fun h => C10 (by simpa using h), fun h => C11 (by simpa using h), fun h => C12 (by simpa using h), fun h => C13 (by simpa using h), fun h => C14 (by simpa using h), fun h => C15 (by simpa using h), fun h => C16 (by simpa using h), fun h => C17 (by simpa using h), fun h => C18 (by simpa using h), fun h => C19 (by simpa using h), fun h => C20 (by simpa using h), fun h => C21 (by simpa using h), fun h => C22 (by simpa using h), fun h => C23 (by simpa using h), fun _ => rfl, fun h => C25 (by simpa using h), E0, E1, H0⟩
      · refine stepOk_some (i := 25) (by rfl) (by rfl) ?_
        rintro u L T w' hT hu hL hp hcl ⟨C0, C1, C2, C3, C4, C5, C6, C7, C8, C9, C10, C11, C12, C13, C14, C15, C16, C17, C18, C19, C20, C21, C22, C23, C24, C25, E0, E1, H0⟩ K hK
        have e23 := C23 (hp.of 23 (by kernel_rfl))
        go_simp
        refine hK _ _ ?_
        exact ⟨fun h => C0 (by simpa using h), fun h => C1 (by simpa using h), fun h => C2 (by simpa using h), fun h => C3 (by simpa using h), fun h => C4 (by simpa using h), fun h => C5 (by simpa using h), fun h => C6 (by simpa using h), fun h => C7 (by simpa using h), fun h => C8 (by simpa using h), fun h => C9 (by simpa using h), fun h => C10 (by simpa using h), fun h => C11 (by simpa using h), fun h => C12 (by simpa using h), fun h => C13 (by simpa using h), fun h => C14 (by simpa using h), fun h => C15 (by simpa using h), fun h => C16 (by simpa using h), fun h => C17 (by simpa using h), fun h => C18 (by simpa using h), fun h => C19 (by simpa using h), fun h => C20 (by simpa using h), fun h => C21 (by simpa using h), fun h => C22 (by simpa using h), fun h => C23 (by simpa using h), fun h => C24 (by simpa using h), fun _ => rfl, E0, E1, H0⟩
    · rintro u L w' hall hu ⟨C0, C1, C2, C3, C4, C5, C6, C7, C8, C9, C10, C11, C12, C13, C14, C15, C16, C17, C18, C19, C20, C21, C22, C23, C24, C25, E0, E1, H0⟩
      replace C0 := C0 (hall 0 (by omega))
      replace C1 := C1 (hall 1 (by omega))
      replace C2 := C2 (hall 2 (by omega))
      replace C3 := C3 (hall 3 (by omega))
      replace C4 := C4 (hall 4 (by omega))
      replace C5 := C5 (hall 5 (by omega))
      replace C6 := C6 (hall 6 (by omega))
      replace C7 := C7 (hall 7 (by omega))
      replace C8 := C8 (hall 8 (by omega))
      replace C9 := C9 (hall 9 (by omega))
      replace C10 := C10 (hall 10 (by omega))
      replace C11 := C11 (hall 11 (by omega))
      replace C12 := C12 (hall 12 (by omega))
      replace C13 := C13 (hall 13 (by omega))
      replace C14 := C14 (hall 14 (by omega))
      replace C15 := C15 (hall 15 (by omega))
      replace C16 := C16 (hall 16 (by omega))
      replace C17 := C17 (hall 17 (by omega))
      replace C18 := C18 (hall 18 (by omega))
      replace C19 := C19 (hall 19 (by omega))
      replace C20 := C20 (hall 20 (by omega))
      replace C21 := C21 (hall 21 (by omega))
      replace C22 := C22 (hall 22 (by omega))
      replace C23 := C23 (hall 23 (by omega))
      replace C24 := C24 (hall 24 (by omega))
      replace C25 := C25 (hall 25 (by omega))
      simp only [fill, List.setIfInBounds_toArray, List.set_cons_succ, List.set_cons_zero, C0, C1, C2, C3, C4, C5, C6, C7, C8, C9, C11, C12, C13, C14, C18, C19, C20, C21, C22, C23, C24, C25]
      generalize u 14 = s0 at *
      generalize u 19 = s1 at *
      generalize u 20 = s2 at *
      generalize u 21 = s3 at *
      clear C0 C1 C2 C3 C4 C5 C6 C7 C8 C9 C10 C11 C12 C13 C14 C15 C16 C17 C18 C19 C20 C21 C22 C23 C24 C25 hu hall
    -- end inv
      go_wp2_with fail
      go_ret2
      exact ⟨by rw [HO.out]; rfl, E0⟩
  | true =>
    rw [htk] at HTK
    obtain ⟨gb, hgb⟩ : ∃ b, targetB two = b := ⟨_, rfl⟩
    rw [hgb] at HTG
    rcases hout gb (by rw [hrt, htk, hgb]; rfl) with ⟨c, hE, hO⟩ | ⟨hE, hO⟩
    · have HO := Lib.hid hO
      have HSZ : Hid (∀ W u, Ext W1 W → PrintV W u bl → Calls Tryz.prog 43 #[u, .bool gb, .slice ao fs.length cap] W fun e w' => e = .returned (.tuple #[.slice none 0 0, .int .i64 c]) ∧ Ext W w') := Lib.hid (fun W u hx hu => by have := hsz gb W u hx hu; rwa [hE] at this)
      clear hE hO hout hsz hrt hgb
      go_enter Tryz.func28, Tryz.ntmps28
      go_wp2_with fail
      clear hW1
      generalize w.heap.size = g0 at *
      -- inv {'ops': [('fa', 4, 1, '.pointer (some ⟨g0, 0, none⟩)', '.pointer (some ⟨g0, 0, none⟩)'), ('lf', 5, 0, 'Str one', 'obtain ⟨d0, d1, d2⟩ := cells3 H0'), ('op', 6, [1], 'Str (one ++ [32])'), ('fa', 7, 1, '.pointer (some ⟨g0, 0, none⟩)', '.pointer (some ⟨g0, 1, none⟩)'), ('lf', 8, 3, 'Str two', 'obtain ⟨d0, d1, d2⟩ := cells3 H0'), ('op', 9, [2, 4], 'Str (one ++ 32 :: two)'), ('op', 10, [5], 'Str (one ++ 32 :: (two ++ [32]))'), ('op', 11, [6], 'Str (one ++ 32 :: (two ++ [32, 72, 84, 84, 80, 47, 49, 46, 49]))'), ('fa', 12, 1, '.pointer (some ⟨g0, 0, none⟩)', '.pointer (some ⟨g0, 2, none⟩)'), ('lf', 13, 8, '.slice ao fs.length cap', 'obtain ⟨d0, d1, d2⟩ := cells3 H0'), ('callx', 14, [7, 9], "HPR.out w' E1", "PrintV w' (u 14) bl"), ('fa', 15, 1, '.pointer (some ⟨g0, 0, none⟩)', '.pointer (some ⟨g0, 0, none⟩)'), ('lf', 16, 11, 'Str one', 'obtain ⟨d0, d1, d2⟩ := cells3 H0'), ('callq', 17, [12], "HTK.out w'", '.bool true'), ('mw', 18, 13, '.bool true'), ('fa', 19, 1, '.pointer (some ⟨g0, 0, none⟩)', '.pointer (some ⟨g0, 1, none⟩)'), ('lf', 20, 15, 'Str two', 'obtain ⟨d0, d1, d2⟩ := cells3 H0'), ('callq', 21, [16], "HTG.out w'", '.bool gb'), ('op', 22, [14, 17], '.bool gb'), ('fa', 23, 1, '.pointer (some ⟨g0, 0, none⟩)', '.pointer (some ⟨g0, 2, none⟩)'), ('lf', 24, 19, '.slice ao fs.length cap', 'obtain ⟨d0, d1, d2⟩ := cells3 H0'), ('call', 25, [10, 18, 20], "HSZ.out w' _ E1 e10", '.tuple #[.slice none 0 0, .int .i64 c]'), ('op', 26, [21], '.slice none 0 0'), ('op', 27, [21], '.int .i64 c'), ('mw', 2, 22, '.slice none 0 0'), ('mw', 3, 23, '.int .i64 c')], 'G': {15: (14, 'true'), 16: (14, 'true'), 17: (14, 'true')}, 'W': [('E0', "Ext w w'", 'Below.drew HX1.out'), ('E1', "Ext W1 w'", 'Below.drew (Below.refl _ _)'), ('H0', "w'.heap[g0]? = some (.cells #[Str one, Str two, .slice ao fs.length cap] 47 (0, 0))", 'HC1.out')]}
      refine wp_region_any (by kernel_rfl) ?_
      change wpAny _ _ _ _ _ _ _ (World.drew _)
      refine wpAny_inv (n := 26) [4, 5, 6, 7, 8, 9, 10, 11, 12, 13, 14, 15, 16, 17, 18, 19, 20, 21, 22, 23, 24, 25, 26, 27, 2, 3] (fun u L w' =>
          (L 0 = true → u 4 = .pointer (some ⟨g0, 0, none⟩)) ∧
          (L 1 = true → u 5 = Str one) ∧
          (L 2 = true → u 6 = Str (one ++ [32])) ∧
          (L 3 = true → u 7 = .pointer (some ⟨g0, 1, none⟩)) ∧
          (L 4 = true → u 8 = Str two) ∧
          (L 5 = true → u 9 = Str (one ++ 32 :: two)) ∧
          (L 6 = true → u 10 = Str (one ++ 32 :: (two ++ [32]))) ∧
          (L 7 = true → u 11 = Str (one ++ 32 :: (two ++ [32, 72, 84, 84, 80, 47, 49, 46, 49]))) ∧
          (L 8 = true → u 12 = .pointer (some ⟨g0, 2, none⟩)) ∧
          (L 9 = true → u 13 = .slice ao fs.length cap) ∧
          (L 10 = true → PrintV w' (u 14) bl) ∧
          (L 11 = true → u 15 = .pointer (some ⟨g0, 0, none⟩)) ∧
          (L 12 = true → u 16 = Str one) ∧
          (L 13 = true → u 17 = .bool true) ∧
          (L 14 = true → u 18 = .bool true) ∧
          (L 15 = true → u 19 = .pointer (some ⟨g0, 1, none⟩)) ∧
          (L 16 = true → u 20 = Str two) ∧
          (L 17 = true → u 21 = .bool gb) ∧
          (L 18 = true → u 22 = .bool gb) ∧
          (L 19 = true → u 23 = .pointer (some ⟨g0, 2, none⟩)) ∧
          (L 20 = true → u 24 = .slice ao fs.length cap) ∧
          (L 21 = true → u 25 = .tuple #[.slice none 0 0, .int .i64 c]) ∧
          (L 22 = true → u 26 = .slice none 0 0) ∧
          (L 23 = true → u 27 = .int .i64 c) ∧
          (L 24 = true → u 2 = .slice none 0 0) ∧
          (L 25 = true → u 3 = .int .i64 c) ∧
          (Ext w w') ∧
          (Ext W1 w') ∧
          (w'.heap[g0]? = some (.cells #[Str one, Str two, .slice ao fs.length cap] 47 (0, 0))))
        (by rfl) (by kernel_rfl) (by kernel_rfl) (by rfl) ?_ ?_ ?_
      · exact ⟨(fun h => by cases h), (fun h => by cases h), (fun h => by cases h), (fun h => by cases h), (fun h => by cases h), (fun h => by cases h), (fun h => by cases h), (fun h => by cases h), (fun h => by cases h), (fun h => by cases h), (fun h => by cases h), (fun h => by cases h), (fun h => by cases h), (fun h => by cases h), (fun h => by cases h), (fun h => by cases h), (fun h => by cases h), (fun h => by cases h), (fun h => by cases h), (fun h => by cases h), (fun h => by cases h), (fun h => by cases h), (fun h => by cases h), (fun h => by cases h), (fun h => by cases h), (fun h => by cases h), Below.drew HX1.out, Below.drew (Below.refl _ _), HC1.out⟩
      · refine ⟨⟨⟨⟨⟨⟨⟨⟨⟨⟨⟨⟨⟨⟨⟨⟨⟨⟨⟨⟨⟨⟨⟨⟨⟨⟨trivial, ?_⟩, ?_⟩, ?_⟩, ?_⟩, ?_⟩, ?_⟩, ?_⟩, ?_⟩, ?_⟩, ?_⟩, ?_⟩, ?_⟩, ?_⟩, ?_⟩, ?_⟩, ?_⟩, ?_⟩, ?_⟩, ?_⟩, ?_⟩, ?_⟩, ?_⟩, ?_⟩, ?_⟩, ?_⟩, ?_⟩
        · refine stepOk_some (i := 0) (by rfl) (by rfl) ?_
          rintro u L T w' hT hu hL hp hcl ⟨C0, C1, C2, C3, C4, C5, C6, C7, C8, C9, C10, C11, C12, C13, C14, C15, C16, C17, C18, C19, C20, C21, C22, C23, C24, C25, E0, E1, H0⟩ K hK
          have e1 : u 1 = .pointer (some ⟨g0, 0, none⟩) := hu 1 (by decide)
          go_simp
          refine hK _ _ ?_
          exact ⟨fun _ => rfl, fun h => C1 (by simpa using h), fun h => C2 (by simpa using h), fun h => C3 (by simpa using h), fun h => C4 (by simpa using h), fun h => C5 (by simpa using h), fun h => C6 (by simpa using h), fun h => C7 (by simpa using h), fun h => C8 (by simpa using h), fun h => C9 (by simpa using h), fun h => C10 (by simpa using h), fun h => C11 (by simpa using h), fun h => C12 (by simpa using h), fun h => C13 (by simpa using h), fun h => C14 (by simpa using h), fun h => C15 (by simpa using h), fun h => C16 (by simpa using h), fun h => C17 (by simpa using h), fun h => C18 (by simpa using h), fun h => C19 (by simpa using h), fun h => C20 (by simpa using h), fun h => C21 (by simpa using h), fun h => C22 (by simpa using h), fun h => C23 (by simpa using h), fun h => C24 (by simpa using h), fun h => C25 (by simpa using h), E0, E1, H0⟩
        · refine stepOk_some (i := 1) (by rfl) (by rfl) ?_
          rintro u L T w' hT hu hL hp hcl ⟨C0, C1, C2, C3, C4, C5, C6, C7, C8, C9, C10, C11, C12, C13, C14, C15, C16, C17, C18, C19, C20, C21, C22, C23, C24, C25, E0, E1, H0⟩ K hK
          have e0 := C0 (hp.of 0 (by kernel_rfl))
          obtain ⟨d0, d1, d2⟩ := cells3 H0
          go_simp
          refine hK _ _ ?_
          exact ⟨fun h => C0 (by simpa using h), fun _ => rfl, fun h => C2 (by simpa using h), fun h => C3 (by simpa using h), fun h => C4 (by simpa using h), fun h => C5 (by simpa using h), fun h => C6 (by simpa using h), fun h => C7 (by simpa using h), fun h => C8 (by simpa using h), fun h => C9 (by simpa using h), fun h => C10 (by simpa using h), fun h => C11 (by simpa using h), fun h => C12 (by simpa using h), fun h => C13 (by simpa using h), fun h => C14 (by simpa using h), fun h => C15 (by simpa using h), fun h => C16 (by simpa using h), fun h => C17 (by simpa using h), fun h => C18 (by simpa using h), fun h => C19 (by simpa using h), fun h => C20 (by simpa using h), fun h => C21 (by simpa using h), fun h => C22 (by simpa using h), fun h => C23 (by simpa using h), fun h => C24 (by simpa using h), fun h => C25 (by simpa using h), E0, E1, H0⟩
        · refine stepOk_some (i := 2) (by rfl) (by rfl) ?_
          rintro u L T w' hT hu hL hp hcl ⟨C0, C1, C2, C3, C4, C5, C6, C7, C8, C9, C10, C11, C12, C13, C14, C15, C16, C17, C18, C19, C20, C21, C22, C23, C24, C25, E0, E1, H0⟩ K hK
          have e1 := C1 (hp.of 1 (by kernel_rfl))
          go_simp
          try go_bits
          try (rw [if_neg (by omega)]; go_simp)
          try (rw [if_pos (by omega)]; go_simp)
          refine hK _ _ ?_
          exact ⟨fun h => C0 (by simpa using h), fun h => C1 (by simpa using h), fun _ => rfl, fun h => C3 (by simpa using h), fun h => C4 (by simpa using h), fun h => C5 (by simpa using h), fun h => C6 (by simpa using h), fun h => C7 (by simpa using h), fun h => C8 (by simpa using h), fun h => C9 (by simpa using h), fun h => C10 (by simpa using h), fun h => C11 (by simpa using h), fun h => C12 (by simpa using h), fun h => C13 (by simpa using h), fun h => C14 (by simpa using h), fun h => C15 (by simpa using h), fun h => C16 (by simpa using h), fun h => C17 (by simpa using h), fun h => C18 (by simpa using h), fun h => C19 (by simpa using h), fun h => C20 (by simpa using h), fun h => C21 (by simpa using h), fun h => C22 (by simpa using h), fun h => C23 (by simpa using h), fun h => C24 (by simpa using h), fun h => C25 (by simpa using h), E0, E1, H0⟩
        · refine stepOk_some (i := 3) (by rfl) (by rfl) ?_
          rintro u L T w' hT hu hL hp hcl ⟨C0, C1, C2, C3, C4, C5, C6, C7, C8, C9, C10, C11, C12, C13, C14, C15, C16, C17, C18, C19, C20, C21, C22, C23, C24, C25, E0, E1, H0⟩ K hK
          have e1 : u 1 = .pointer (some ⟨g0, 0, none⟩) := hu 1 (by decide)
          go_simp
          refine hK _ _ ?_
          exact ⟨fun h => C0 (by simpa using h), fun h => C1 (by simpa using h), fun h => C2 (by simpa using h), fun _ => rfl, fun h => C4 (by simpa using h), fun h => C5 (by simpa using h), fun h => C6 (by simpa using h), fun h => C7 (by simpa using h), fun h => C8 (by simpa using h), fun h => C9 (by simpa using h), fun h => C10 (by simpa using h), fun h => C11 (by simpa using h), fun h => C12 (by simpa using h), fun h => C13 (by simpa using h), fun h => C14 (by simpa using h), fun h => C15 (by simpa using h), fun h => C16 (by simpa using h), fun h => C17 (by simpa using h), fun h => C18 (by simpa using h), fun h => C19 (by simpa using h), fun h => C20 (by simpa using h), fun h => C21 (by simpa using h), fun h => C22 (by simpa using h), fun h => C23 (by simpa using h), fun h => C24 (by simpa using h), fun h => C25 (by simpa using h), E0, E1, H0⟩
        · refine stepOk_some (i := 4) (by rfl) (by rfl) ?_
          rintro u L T w' hT hu hL hp hcl ⟨C0, C1, C2, C3, C4, C5, C6, C7, C8, C9, C10, C11, C12, C13, C14, C15, C16, C17, C18, C19, C20, C21, C22, C23, C24, C25, E0, E1, H0⟩ K hK
          have e3 := C3 (hp.of 3 (by kernel_rfl))
          obtain ⟨d0, d1, d2⟩ := cells3 H0
          go_simp
          refine hK _ _ ?_
          exact ⟨fun h => C0 (by simpa using h), fun h => C1 (by simpa using h), fun h => C2 (by simpa using h), fun h => C3 (by simpa using h), fun _ => rfl, fun h => C5 (by simpa using h), fun h => C6 (by simpa using h), fun h => C7 (by simpa using h), fun h => C8 (by simpa using h), fun h => C9 (by simpa using h), fun h => C10 (by simpa using h), fun h => C11 (by simpa using h), fun h => C12 (by simpa using h), fun h => C13 (by simpa using h), fun h => C14 (by simpa using h), fun h => C15 (by simpa using h), fun h => C16 (by simpa using h), fun h => C17 (by simpa using h), fun h => C18 (by simpa using h), fun h => C19 (by simpa using h), fun h => C20 (by simpa using h), fun h => C21 (by simpa using h), fun h => C22 (by simpa using h), fun h => C23 (by simpa using h), fun h => C24 (by simpa using h), fun h => C25 (by simpa using h), E0, E1, H0⟩
        · refine stepOk_some (i := 5) (by rfl) (by rfl) ?_
          rintro u L T w' hT hu hL hp hcl ⟨C0, C1, C2, C3, C4, C5, C6, C7, C8, C9, C10, C11, C12, C13, C14, C15, C16, C17, C18, C19, C20, C21, C22, C23, C24, C25, E0, E1, H0⟩ K hK
          have e2 := C2 (hp.of 2 (by kernel_rfl))
          have e4 := C4 (hp.of 4 (by kernel_rfl))
          go_simp
          try go_bits
          try (rw [if_neg (by omega)]; go_simp)
          try (rw [if_pos (by omega)]; go_simp)
          refine hK _ _ ?_
          exact ⟨fun h => C0 (by simpa using h), fun h => C1 (by simpa using h), fun h => C2 (by simpa using h), fun h => C3 (by simpa using h), fun h => C4 (by simpa using h), fun _ => rfl, fun h => C6 (by simpa using h), fun h => C7 (by simpa using h), fun h => C8 (by simpa using h), fun h => C9 (by simpa using h), fun h => C10 (by simpa using h), fun h => C11 (by simpa using h), fun h => C12 (by simpa using h), fun h => C13 (by simpa using h), fun h => C14 (by simpa using h), fun h => C15 (by simpa using h), fun h => C16 (by simpa using h), fun h => C17 (by simpa using h), fun h => C18 (by simpa using h), fun h => C19 (by simpa using h), fun h => C20 (by simpa using h), fun h => C21 (by simpa using h), fun h => C22 (by simpa using h), fun h => C23 (by simpa using h), fun h => C24 (by simpa using h), fun h => C25 (by simpa using h), E0, E1, H0⟩
        · refine stepOk_some (i := 6) (by rfl) (by rfl) ?_
          rintro u L T w' hT hu hL hp hcl ⟨C0, C1, C2, C3, C4, C5, C6, C7, C8, C9, C10, C11, C12, C13, C14, C15, C16, C17, C18, C19, C20, C21, C22, C23, C24, C25, E0, E1, H0⟩ K hK
          have e5 := C5 (hp.of 5 (by kernel_rfl))
          go_simp
          try go_bits
          try (rw [if_neg (by omega)]; go_simp)
          try (rw [if_pos (by omega)]; go_simp)
          refine hK _ _ ?_
          exact ⟨fun h => C0 (by simpa using h), fun h => C1 (by simpa using h), fun h => C2 (by simpa using h), fun h => C3 (by simpa using h), fun h => C4 (by simpa using h), fun h => C5 (by simpa using h), fun _ => rfl, fun h => C7 (by simpa using h), fun h => C8 (by simpa using h), fun h => C9 (by simpa using h), fun h => C10 (by simpa using h), fun h => C11 (by simpa using h), fun h => C12 (by simpa using h), fun h => C13 (by simpa using h), fun h => C14 (by simpa using h), fun h => C15 (by simpa using h), fun h => C16 (by simpa using h), fun h => C17 (by simpa using h), fun h => C18 (by simpa using h), fun h => C19 (by simpa using h), fun h => C20 (by simpa using h), fun h => C21 (by simpa using h), fun h => C22 (by simpa using h), fun h => C23 (by simpa using h), fun h => C24 (by simpa using h), fun h => C25 (by simpa using h), E0, E1, H0⟩
        · refine stepOk_some (i := 7) (by rfl) (by rfl) ?_
          rintro u L T w' hT hu hL hp hcl ⟨C0, C1, C2, C3, C4, C5, C6, C7, C8, C9, C10, C11, C12, C13, C14, C15, C16, C17, C18, C19, C20, C21, C22, C23, C24, C25, E0, E1, H0⟩ K hK
          have e6 := C6 (hp.of 6 (by kernel_rfl))
          go_simp
          try go_bits
          try (rw [if_neg (by omega)]; go_simp)
          try (rw [if_pos (by omega)]; go_simp)
          refine hK _ _ ?_
          exact ⟨fun h => C0 (by simpa using h), fun h => C1 (by simpa using h), fun h => C2 (by simpa using h), fun h => C3 (by simpa using h), fun h => C4 (by simpa using h), fun h => C5 (by simpa using h), fun h => C6 (by simpa using h), fun _ => rfl, fun h => C8 (by simpa using h), fun h => C9 (by simpa using h), fun h => C10 (by simpa using h), fun h => C11 (by simpa using h), fun h => C12 (by simpa using h), fun h => C13 (by simpa using h), fun h => C14 (by simpa using h), fun h => C15 (by simpa using h), fun h => C16 (by simpa using h), fun h => C17 (by simpa using h), fun h => C18 (by simpa using h), fun h => C19 (by simpa using h), fun h => C20 (by simpa using h), fun h => C21 (by simpa using h), fun h => C22 (by simpa using h), fun h => C23 (by simpa using h), fun h => C24 (by simpa using h), fun h => C25 (by simpa using h), E0, E1, H0⟩
        · refine stepOk_some (i := 8) (by rfl) (by rfl) ?_
          rintro u L T w' hT hu hL hp hcl ⟨C0, C1, C2, C3, C4, C5, C6, C7, C8, C9, C10, C11, C12, C13, C14, C15, C16, C17, C18, C19, C20, C21, C22, C23, C24, C25, E0, E1, H0⟩ K hK
          have e1 : u 1 = .pointer (some ⟨g0, 0, none⟩) := hu 1 (by decide)
          go_simp
          refine hK _ _ ?_
          exact ⟨fun h => C0 (by simpa using h), fun h => C1 (by simpa using h), fun h => C2 (by simpa using h), fun h => C3 (by simpa using h), fun h => C4 (by simpa using h), fun h => C5 (by simpa using h), fun h => C6 (by simpa using h), fun h => C7 (by simpa using h), fun _ => rfl, fun h => C9 (by simpa using h), fun h => C10 (by simpa using h), fun h => C11 (by simpa using h), fun h => C12 (by simpa using h), fun h => C13 (by simpa using h), fun h => C14 (by simpa using h), fun h => C15 (by simpa using h), fun h => C16 (by simpa using h), fun h => C17 (by simpa using h), fun h => C18 (by simpa using h), fun h => C19 (by simpa using h), fun h => C20 (by simpa using h), fun h => C21 (by simpa using h), fun h => C22 (by simpa using h), fun h => C23 (by simpa using h), fun h => C24 (by simpa using h), fun h => C25 (by simpa using h), E0, E1, H0⟩
        · refine stepOk_some (i := 9) (by rfl) (by rfl) ?_
          rintro u L T w' hT hu hL hp hcl ⟨C0, C1, C2, C3, C4, C5, C6, C7, C8, C9, C10, C11, C12, C13, C14, C15, C16, C17, C18, C19, C20, C21, C22, C23, C24, C25, E0, E1, H0⟩ K hK
          have e8 := C8 (hp.of 8 (by kernel_rfl))
          obtain ⟨d0, d1, d2⟩ := cells3 H0
          go_simp
          refine hK _ _ ?_
          exact ⟨fun h => C0 (by simpa using h), fun h => C1 (by simpa using h), fun h => C2 (by simpa using h), fun h => C3 (by simpa using h), fun h => C4 (by simpa using h), fun h => C5 (by simpa using h), fun h => C6 (by simpa using h), fun h => C7 (by simpa using h), fun h => C8 (by simpa using h), fun _ => rfl, fun h => C10 (by simpa using h), fun h => C11 (by simpa using h), fun h => C12 (by simpa using h), fun h => C13 (by simpa using h), fun h => C14 (by simpa using h), fun h => C15 (by simpa using h), fun h => C16 (by simpa using h), fun h => C17 (by simpa using h), fun h => C18 (by simpa using h), fun h => C19 (by simpa using h), fun h => C20 (by simpa using h), fun h => C21 (by simpa using h), fun h => C22 (by simpa using h), fun h => C23 (by simpa using h), fun h => C24 (by simpa using h), fun h => C25 (by simpa using h), E0, E1, H0⟩
        · refine stepOk_some (i := 10) (by rfl) (by rfl) ?_
          rintro u L T w' hT hu hL hp hcl ⟨C0, C1, C2, C3, C4, C5, C6, C7, C8, C9, C10, C11, C12, C13, C14, C15, C16, C17, C18, C19, C20, C21, C22, C23, C24, C25, E0, E1, H0⟩ K hK
          have e7 := C7 (hp.of 7 (by kernel_rfl))
          have e9 := C9 (hp.of 9 (by kernel_rfl))
          go_simp
          refine Calls.mono (HPR.out w' E1) ?_
          rintro e w1 ⟨v1, he, hr1, hx1⟩
          subst he
          refine hK _ _ ?_
          exact ⟨fun h => C0 (by simpa using h), fun h => C1 (by simpa using h), fun h => C2 (by simpa using h), fun h => C3 (by simpa using h), fun h => C4 (by simpa using h), fun h => C5 (by simpa using h), fun h => C6 (by simpa using h), fun h => C7 (by simpa using h), fun h => C8 (by simpa using h), fun h => C9 (by simpa using h), fun _ => hr1, fun h => C11 (by simpa using h), fun h => C12 (by simpa using h), fun h => C13 (by simpa using h), fun h => C14 (by simpa using h), fun h => C15 (by simpa using h), fun h => C16 (by simpa using h), fun h => C17 (by simpa using h), fun h => C18 (by simpa using h), fun h => C19 (by simpa using h), fun h => C20 (by simpa using h), fun h => C21 (by simpa using h), fun h => C22 (by simpa using h), fun h => C23 (by simpa using h), fun h => C24 (by simpa using h), fun h => C25 (by simpa using h), ext_trans (E0) hx1, ext_trans (E1) hx1, ext_at hx1 (H0)⟩
        · refine stepOk_some (i := 11) (by rfl) (by rfl) ?_
          rintro u L T w' hT hu hL hp hcl ⟨C0, C1, C2, C3, C4, C5, C6, C7, C8, C9, C10, C11, C12, C13, C14, C15, C16, C17, C18, C19, C20, C21, C22, C23, C24, C25, E0, E1, H0⟩ K hK
          have e1 : u 1 = .pointer (some ⟨g0, 0, none⟩) := hu 1 (by decide)
          go_simp
          refine hK _ _ ?_
          exact ⟨fun h => C0 (by simpa using h), fun h => C1 (by simpa using h), fun h => C2 (by simpa using h), fun h => C3 (by simpa using h), fun h => C4 (by simpa using h), fun h => C5 (by simpa using h), fun h => C6 (by simpa using h), fun h => C7 (by simpa using h), fun h => C8 (by simpa using h), fun h => C9 (by simpa using h), fun h => C10 (by simpa using h), fun _ => rfl, fun h => C12 (by simpa using h), fun h => C13 (by simpa using h), fun h => C14 (by simpa using h), fun h => C15 (by simpa using h), fun h => C16 (by simpa using h), fun h => C17 (by simpa using h), fun h => C18 (by simpa using h), fun h => C19 (by simpa using h), fun h => C20 (by simpa using h), fun h => C21 (by simpa using h), fun h => C22 (by simpa using h), fun h => C23 (by simpa using h), fun h => C24 (by simpa using h), fun h => C25 (by simpa using h), E0, E1, H0⟩
        · refine stepOk_some (i := 12) (by rfl) (by rfl) ?_
          rintro u L T w' hT hu hL hp hcl ⟨C0, C1, C2, C3, C4, C5, C6, C7, C8, C9, C10, C11, C12, C13, C14, C15, C16, C17, C18, C19, C20, C21, C22, C23, C24, C25, E0, E1, H0⟩ K hK
          have e11 := C11 (hp.of 11 (by kernel_rfl))
          obtain ⟨d0, d1, d2⟩ := cells3 H0
          go_simp
          refine hK _ _ ?_
          exact ⟨fun h => C0 (by simpa using h), fun h => C1 (by simpa using h), fun h => C2 (by simpa using h), fun h => C3 (by simpa using h), fun h => C4 (by simpa using h), fun h => C5 (by simpa using h), fun h => C6 (by simpa using h), fun h => C7 (by simpa using h), fun h => C8 (by simpa using h), fun h => C9 (by simpa using h), fun h => C10 (by simpa using h), fun h => C11 (by simpa using h), fun _ => rfl, fun h => C13 (by simpa using h), fun h => C14 (by simpa using h), fun h => C15 (by simpa using h), fun h => C16 (by simpa using h), fun h => C17 (by simpa using h), fun h => C18 (by simpa using h), fun h => C19 (by simpa using h), fun h => C20 (by simpa using h), fun h => C21 (by simpa using h), fun h => C22 (by simpa using h), fun h => C23 (by simpa using h), fun h => C24 (by simpa using h), fun h => C25 (by simpa using h), E0, E1, H0⟩
        · refine stepOk_some (i := 13) (by rfl) (by rfl) ?_
          rintro u L T w' hT hu hL hp hcl ⟨C0, C1, C2, C3, C4, C5, C6, C7, C8, C9, C10, C11, C12, C13, C14, C15, C16, C17, C18, C19, C20, C21, C22, C23, C24, C25, E0, E1, H0⟩ K hK
          have e12 := C12 (hp.of 12 (by kernel_rfl))
          go_simp
          refine (HTK.out w').mono ?_
          rintro e w1 ⟨he, hx1⟩
          subst w1
          subst he
          refine hK _ _ ?_
          exact ⟨fun h => C0 (by simpa using h), fun h => C1 (by simpa using h), fun h => C2 (by simpa using h), fun h => C3 (by simpa using h), fun h => C4 (by simpa using h), fun h => C5 (by simpa using h), fun h => C6 (by simpa using h), fun h => C7 (by simpa using h), fun h => C8 (by simpa using h), fun h => C9 (by simpa using h), fun h => C10 (by simpa using h), fun h => C11 (by simpa using h), fun h => C12 (by simpa using h), fun _ => rfl, fun h => C14 (by simpa using h), fun h => C15 (by simpa using h), fun h => C16 (by simpa using h), fun h => C17 (by simpa using h), fun h => C18 (by simpa using h), fun h => C19 (by simpa using h), fun h => C20 (by simpa using h), fun h => C21 (by simpa using h), fun h => C22 (by simpa using h), fun h => C23 (by simpa using h), fun h => C24 (by simpa using h), fun h => C25 (by simpa using h), E0, E1, H0⟩
        · refine stepOk_some (i := 14) (by rfl) (by rfl) ?_
          rintro u L T w' hT hu hL hp hcl ⟨C0, C1, C2, C3, C4, C5, C6, C7, C8, C9, C10, C11, C12, C13, C14, C15, C16, C17, C18, C19, C20, C21, C22, C23, C24, C25, E0, E1, H0⟩ K hK
          have e13 := C13 (hp.of 13 (by kernel_rfl))
          go_simp
          refine hK _ _ ?_
          exact ⟨fun h => C0 (by simpa using h), fun h => C1 (by simpa using h), fun h => C2 (by simpa using h), fun h => C3 (by simpa using h), fun h => C4 (by simpa using h), fun h => C5 (by simpa using h), fun h => C6 (by simpa using h), fun h => C7 (by simpa using h), fun h => C8 (by simpa using h), fun h => C9 (by simpa using h), fun h => C10 (by simpa using h), fun h => C11 (by simpa using h), fun h => C12 (by simpa using h), fun h => C13 (by simpa using h), fun _ => rfl, fun h => C15 (by simpa using h), fun h => C16 (by simpa using h), fun h => C17 (by simpa using h), fun h => C18 (by simpa using h), fun h => C19 (by simpa using h), fun h => C20 (by simpa using h), fun h => C21 (by simpa using h), fun h => C22 (by simpa using h), fun h => C23 (by simpa using h), fun h => C24 (by simpa using h), fun h => C25 (by simpa using h), E0, E1, H0⟩
        · refine stepOk_some (i := 15) (by rfl) (by rfl) ?_
          rintro u L T w' hT hu hL hp hcl ⟨C0, C1, C2, C3, C4, C5, C6, C7, C8, C9, C10, C11, C12, C13, C14, C15, C16, C17, C18, C19, C20, C21, C22, C23, C24, C25, E0, E1, H0⟩ K hK
          have hg := getD_bool ((hT 18).trans (C14 (hp.of 14 (by kernel_rfl))))
          have e1 : u 1 = .pointer (some ⟨g0, 0, none⟩) := hu 1 (by decide)
          go_simp
          refine hK _ _ ?_
          exact ⟨fun h => C0 (by simpa using h), fun h => C1 (by simpa using h), fun h => C2 (by simpa using h), fun h => C3 (by simpa using h), fun h => C4 (by simpa using h), fun h => C5 (by simpa using h), fun h => C6 (by simpa using h), fun h => C7 (by simpa using h), fun h => C8 (by simpa using h), fun h => C9 (by simpa using h), fun h => C10 (by simpa using h), fun h => C11 (by simpa using h), fun h => C12 (by simpa using h), fun h => C13 (by simpa using h), fun h => C14 (by simpa using h), fun _ => rfl, fun h => C16 (by simpa using h), fun h => C17 (by simpa using h), fun h => C18 (by simpa using h), fun h => C19 (by simpa using h), fun h => C20 (by simpa using h), fun h => C21 (by simpa using h), fun h => C22 (by simpa using h), fun h => C23 (by simpa using h), fun h => C24 (by simpa using h), fun h => C25 (by simpa using h), E0, E1, H0⟩
        · refine stepOk_some (i := 16) (by rfl) (by rfl) ?_
          rintro u L T w' hT hu hL hp hcl ⟨C0, C1, C2, C3, C4, C5, C6, C7, C8, C9, C10, C11, C12, C13, C14, C15, C16, C17, C18, C19, C20, C21, C22, C23, C24, C25, E0, E1, H0⟩ K hK
          have hg := getD_bool ((hT 18).trans (C14 (hp.of 14 (by kernel_rfl))))
          have e15 := C15 (hp.of 15 (by kernel_rfl))
          obtain ⟨d0, d1, d2⟩ := cells3 H0
          go_simp
          refine hK _ _ ?_
          exact ⟨fun h => C0 (by simpa using h), fun h => C1 (by simpa using h), fun h => C2 (by simpa using h), fun h => C3 (by simpa using h), fun h => C4 (by simpa using h), fun h => C5 (by simpa using h), fun h => C6 (by simpa using h), fun h => C7 (by simpa using h), fun h => C8 (by simpa using h), fun h => C9 (by simpa using h), fun h => C10 (by simpa using h), fun h => C11 (by simpa using h), fun h => C12 (by simpa using h), fun h => C13 (by simpa using h), fun h => C14 (by simpa using h), fun h => C15 (by simpa using h), fun _ => rfl, fun h => C17 (by simpa using h), fun h => C18 (by simpa using h), fun h => C19 (by simpa using h), fun h => C20 (by simpa using h), fun h => C21 (by simpa using h), fun h => C22 (by simpa using h), fun h => C23 (by simpa using h), fun h => C24 (by simpa using h), fun h => C25 (by simpa using h), E0, E1, H0⟩
        · refine stepOk_some (i := 17) (by rfl) (by rfl) ?_
          rintro u L T w' hT hu hL hp hcl ⟨C0, C1, C2, C3, C4, C5, C6, C7, C8, C9, C10, C11, C12, C13, C14, C15, C16, C17, C18, C19, C20, C21, C22, C23, C24, C25, E0, E1, H0⟩ K hK
          have hg := getD_bool ((hT 18).trans (C14 (hp.of 14 (by kernel_rfl))))
          have e16 := C16 (hp.of 16 (by kernel_rfl))
          go_simp
          refine (HTG.out w').mono ?_
          rintro e w1 ⟨he, hx1⟩
          subst w1
          subst he
          refine hK _ _ ?_
          exact ⟨fun h => C0 (by simpa using h), fun h => C1 (by simpa using h), fun h => C2 (by simpa using h), fun h => C3 (by simpa using h), fun h => C4 (by simpa using h), fun h => C5 (by simpa using h), fun h => C6 (by simpa using h), fun h => C7 (by simpa using h), fun h => C8 (by simpa using h), fun h => C9 (by simpa using h), fun h => C10 (by simpa using h), fun h => C11 (by simpa using h), fun h => C12 (by simpa using h), fun h => C13 (by simpa using h), fun h => C14 (by simpa using h), fun h => C15 (by simpa using h), fun h => C16 (by simpa using h), fun _ => rfl, fun h => C18 (by simpa using h), fun h => C19 (by simpa using h), fun h => C20 (by simpa using h), fun h => C21 (by simpa using h), fun h => C22 (by simpa using h), fun h => C23 (by simpa using h), fun h => C24 (by simpa using h), fun h => C25 (by simpa using h), E0, E1, H0⟩
        · refine stepOk_some (i := 18) (by rfl) (by rfl) ?_
          rintro u L T w' hT hu hL hp hcl ⟨C0, C1, C2, C3, C4, C5, C6, C7, C8, C9, C10, C11, C12, C13, C14, C15, C16, C17, C18, C19, C20, C21, C22, C23, C24, C25, E0, E1, H0⟩ K hK
          have e14 := C14 (hp.of 14 (by kernel_rfl))
          have e17 := C17 (hp.of 17 (by kernel_rfl))
          go_simp
          try go_bits
          try (rw [if_neg (by omega)]; go_simp)
          try (rw [if_pos (by omega)]; go_simp)
          refine hK _ _ ?_
          exact ⟨fun h => C0 (by simpa using h), fun h => C1 (by simpa using h), fun h => C2 (by simpa using h), fun h => C3 (by simpa using h), fun h => C4 (by simpa using h), fun h => C5 (by simpa using h), fun h => C6 (by simpa using h), fun h => C7 (by simpa using h), fun h => C8 (by simpa using h), fun h => C9 (by simpa using h), fun h => C10 (by simpa using h), fun h => C11 (by simpa using h), fun h => C12 (by simpa using h), fun h => C13 (by simpa using h), fun h => C14 (by simpa using h), fun h => C15 (by simpa using h), fun h => C16 (by simpa using h), fun h => C17 (by simpa using h), fun _ => rfl, fun h => C19 (by simpa using h), fun h => C20 (by simpa using h), fun h => C21 (by simpa using h), fun h => C22 (by simpa using h), fun h => C23 (by simpa using h), fun h => C24 (by simpa using h), fun h => C25 (by simpa using h), E0, E1, H0⟩
        · refine stepOk_some (i := 19) (by rfl) (by rfl) ?_
          rintro u L T w' hT hu hL hp hcl ⟨C0, C1, C2, C3, C4, C5, C6, C7, C8, C9, C10, C11, C12, C13, C14, C15, C16, C17, C18, C19, C20, C21, C22, C23, C24, C25, E0, E1, H0⟩ K hK
          have e1 : u 1 = .pointer (some ⟨g0, 0, none⟩) := hu 1 (by decide)
          go_simp
          refine hK _ _ ?_
          exact ⟨fun h => C0 (by simpa using h), fun h => C1 (by simpa using h), fun h => C2 (by simpa using h), fun h => C3 (by simpa using h), fun h => C4 (by simpa using h), fun h => C5 (by simpa using h), fun h => C6 (by simpa using h), fun h => C7 (by simpa using h), fun h => C8 (by simpa using h), fun h => C9 (by simpa using h), fun h => C10 (by simpa using h), fun h => C11 (by simpa using h), fun h => C12 (by simpa using h), fun h => C13 (by simpa using h), fun h => C14 (by simpa using h), fun h => C15 (by simpa using h), fun h => C16 (by simpa using h), fun h => C17 (by simpa using h), fun h => C18 (by simpa using h), fun _ => rfl, fun h => C20 (by simpa using h), fun h => C21 (by simpa using h), fun h => C22 (by simpa using h), fun h => C23 (by simpa using h), fun h => C24 (by simpa using h), fun h => C25 (by simpa using h), E0, E1, H0⟩
        · refine stepOk_some (i := 20) (by rfl) (by rfl) ?_
          rintro u L T w' hT hu hL hp hcl ⟨C0, C1, C2, C3, C4, C5, C6, C7, C8, C9, C10, C11, C12, C13, C14, C15, C16, C17, C18, C19, C20, C21, C22, C23, C24, C25, E0, E1, H0⟩ K hK
          have e19 := C19 (hp.of 19 (by kernel_rfl))
          obtain ⟨d0, d1, d2⟩ := cells3 H0
          go_simp
          refine hK _ _ ?_
          exact ⟨fun h => C0 (by simpa using h), fun h => C1 (by simpa using h), fun h => C2 (by simpa using h), fun h => C3 (by simpa using h), fun h => C4 (by simpa using h), fun h => C5 (by simpa using h), fun h => C6 (by simpa using h), fun h => C7 (by simpa using h), fun h => C8 (by simpa using h), fun h => C9 (by simpa using h), fun h => C10 (by simpa using h), fun h => C11 (by simpa using h), fun h => C12 (by simpa using h), fun h => C13 (by simpa using h), fun h => C14 (by simpa using h), fun h => C15 (by simpa using h), fun h => C16 (by simpa using h), fun h => C17 (by simpa using h), fun h => C18 (by simpa using h), fun h => C19 (by simpa using h), fun _ => rfl, fun h => C21 (by simpa using h), fun h => C22 (by simpa using h), fun h => C23 (by simpa using h), fun h => C24 (by simpa using h), fun h => C25 (by simpa using h), E0, E1, H0⟩
        · refine stepOk_some (i := 21) (by rfl) (by rfl) ?_
          rintro u L T w' hT hu hL hp hcl ⟨C0, C1, C2, C3, C4, C5, C6, C7, C8, C9, C10, C11, C12, C13, C14, C15, C16, C17, C18, C19, C20, C21, C22, C23, C24, C25, E0, E1, H0⟩ K hK
          have e10 := C10 (hp.of 10 (by kernel_rfl))
          have e18 := C18 (hp.of 18 (by kernel_rfl))
          have e20 := C20 (hp.of 20 (by kernel_rfl))
          go_simp
          refine (HSZ.out w' _ E1 e10).mono ?_
          rintro e w1 ⟨he, hx1⟩
          subst he
          refine hK _ _ ?_
          exact ⟨fun h => C0 (by simpa using h), fun h => C1 (by simpa using h), fun h => C2 (by simpa using h), fun h => C3 (by simpa using h), fun h => C4 (by simpa using h), fun h => C5 (by simpa using h), fun h => C6 (by simpa using h), fun h => C7 (by simpa using h), fun h => C8 (by simpa using h), fun h => C9 (by simpa using h), fun h => (C10 (by simpa using h)).ext hx1, fun h => C11 (by simpa using h), fun h => C12 (by simpa using h), fun h => C13 (by simpa using h), fun h => C14 (by simpa using h), fun h => C15 (by simpa using h), fun h => C16 (by simpa using h), fun h => C17 (by simpa using h), fun h => C18 (by simpa using h), fun h => C19 (by simpa using h), fun h => C20 (by simpa using h), fun _ => rfl, fun h => C22 (by simpa using h), fun h => C23 (by simpa using h), fun h => C24 (by simpa using h), fun h => C25 (by simpa using h), ext_trans (E0) hx1, ext_trans (E1) hx1, ext_at hx1 (H0)⟩
        · refine stepOk_some (i := 22) (by rfl) (by rfl) ?_
          rintro u L T w' hT hu hL hp hcl ⟨C0, C1, C2, C3, C4, C5, C6, C7, C8, C9, C10, C11, C12, C13, C14, C15, C16, C17, C18, C19, C20, C21, C22, C23, C24, C25, E0, E1, H0⟩ K hK
          have e21 := C21 (hp.of 21 (by kernel_rfl))
          go_simp
          try go_bits
          try (rw [if_neg (by omega)]; go_simp)
          try (rw [if_pos (by omega)]; go_simp)
          refine hK _ _ ?_
          exact ⟨fun h => C0 (by simpa using h), fun h => C1 (by simpa using h), fun h => C2 (by simpa using h), fun h => C3 (by simpa using h), fun h => C4 (by simpa using h), fun h => C5 (by simpa using h), fun h => C6 (by simpa using h), fun h => C7 (by simpa using h), fun h => C8 (by simpa using h), fun h => C9 (by simpa using h), fun h => C10 (by simpa using h), fun h => C11 (by simpa using h), fun h => C12 (by simpa using h), fun h => C13 (by simpa using h), fun h => C14 (by simpa using h), fun h => C15 (by simpa using h), fun h => C16 (by simpa using h), fun h => C17 (by simpa using h), fun h => C18 (by simpa using h), fun h => C19 (by simpa using h), fun h => C20 (by simpa using h), fun h => C21 (by simpa using h), fun _ => rfl, fun h => C23 (by simpa using h), fun h => C24 (by simpa using h), fun h => C25 (by simpa using h), E0, E1, H0⟩
        · refine stepOk_some (i := 23) (by rfl) (by rfl) ?_
          rintro u L T w' hT hu hL hp hcl ⟨C0, C1, C2, C3, C4, C5, C6, C7, C8, C9, C10, C11, C12, C13, C14, C15, C16, C17, C18, C19, C20, C21, C22, C23, C24, C25, E0, E1, H0⟩ K hK
          have e21 := C21 (hp.of 21 (by kernel_rfl))
          go_simp
          try go_bits
          try (rw [if_neg (by omega)]; go_simp)
          try (rw [if_pos (by omega)]; go_simp)
          refine hK _ _ ?_
          exact ⟨fun h => C0 (by simpa using h), fun h => C1 (by simpa using h), fun h => C2 (by simpa using h), fun h => C3 (by simpa using h), fun h => C4 (by simpa using h), fun h => C5 (by simpa using h), fun h => C6 (by simpa using h), fun h => C7 (by simpa using h), fun h => C8 (by simpa using h), fun h => C9 (by simpa using h), fun h => C10 (by simpa using h), fun h => C11 (by simpa using h), fun h => C12 (by simpa using h), fun h => C13 (by simpa using h), fun h => C14 (by simpa using h), fun h => C15 (by simpa using h), fun h => C16 (by simpa using h), fun h => C17 (by simpa using h), fun h => C18 (by simpa using h), fun h => C19 (by simpa using h), fun h => C20 (by simpa using h), fun h => C21 (by simpa using h), fun h => C22 (by simpa using h), fun _ => rfl, fun h => C24 (by simpa using h), fun h => C25 (by simpa using h), E0, E1, H0⟩
        · refine stepOk_some (i := 24) (by rfl) (by rfl) ?_
          rintro u L T w' hT hu hL hp hcl ⟨C0, C1, C2, C3, C4, C5, C6, C7, C8, C9, C10, C11, C12, C13, C14, C15, C16, C17, C18, C19, C20, C21, C22, C23, C24, C25, E0, E1, H0⟩ K hK
          have e22 := C22 (hp.of 22 (by kernel_rfl))
          go_simp
          refine hK _ _ ?_
          exact ⟨fun h => C0 (by simpa using h), fun h => C1 (by simpa using h), fun h => C2 (by simpa using h), fun h => C3 (by simpa using h), fun h => C4 (by simpa using h), fun h => C5 (by simpa using h), fun h => C6 (by simpa using h), fun h => C7 (by simpa using h), fun h => C8 (by simpa using h), fun h => C9 (by simpa using h), fun h => C10 (by simpa using h), fun h => C11 (by simpa using h), fun h => C12 (by simpa using h), fun h => C13 (by simpa using h), fun h => C14 (by simpa using h), fun h => C15 (by simpa using h), fun h => C16 (by simpa using h), fun h => C17 (by simpa using h), fun h => C18 (by simpa using h), fun h => C19 (by simpa using h), fun h => C20 (by simpa using h), fun h => C21 (by simpa using h), fun h => C22 (by simpa using h), fun h => C23 (by simpa using h), fun _ => rfl, fun h => C25 (by simpa using h), E0, E1, H0⟩
        · refine stepOk_some (i := 25) (by rfl) (by rfl) ?_
          rintro u L T w' hT hu hL hp hcl ⟨C0, C1, C2, C3, C4, C5, C6, C7, C8, C9, C10, C11, C12, C13, C14, C15, C16, C17, C18, C19, C20, C21, C22, C23, C24, C25, E0, E1, H0⟩ K hK
          have e23 := C23 (hp.of 23 (by kernel_rfl))
          go_simp
          refine hK _ _ ?_
          exact ⟨fun h => C0 (by simpa using h), fun h => C1 (by simpa using h), fun h => C2 (by simpa using h), fun h => C3 (by simpa using h), fun h => C4 (by simpa using h), fun h => C5 (by simpa using h), fun h => C6 (by simpa using h), fun h => C7 (by simpa using h), fun h => C8 (by simpa using h), fun h => C9 (by simpa using h), fun h => C10 (by simpa using h), fun h => C11 (by simpa using h), fun h => C12 (by simpa using h), fun h => C13 (by simpa using h), fun h => C14 (by simpa using h), fun h => C15 (by simpa using h), fun h => C16 (by simpa using h), fun h => C17 (by simpa using h), fun h => C18 (by simpa using h), fun h => C19 (by simpa using h), fun h => C20 (by simpa using h), fun h => C21 (by simpa using h), fun h => C22 (by simpa using h), fun h => C23 (by simpa using h), fun h => C24 (by simpa using h), fun _ => rfl, E0, E1, H0⟩
      · rintro u L w' hall hu ⟨C0, C1, C2, C3, C4, C5, C6, C7, C8, C9, C10, C11, C12, C13, C14, C15, C16, C17, C18, C19, C20, C21, C22, C23, C24, C25, E0, E1, H0⟩
        replace C0 := C0 (hall 0 (by omega))
        replace C1 := C1 (hall 1 (by omega))
        replace C2 := C2 (hall 2 (by omega))
        replace C3 := C3 (hall 3 (by omega))
        replace C4 := C4 (hall 4 (by omega))
        replace C5 := C5 (hall 5 (by omega))
        replace C6 := C6 (hall 6 (by omega))
        replace C7 := C7 (hall 7 (by omega))
        replace C8 := C8 (hall 8 (by omega))
        replace C9 := C9 (hall 9 (by omega))
        replace C10 := C10 (hall 10 (by omega))
        replace C11 := C11 (hall 11 (by omega))
        replace C12 := C12 (hall 12 (by omega))
        replace C13 := C13 (hall 13 (by omega))
        replace C14 := C14 (hall 14 (by omega))
        replace C15 := C15 (hall 15 (by omega))
        replace C16 := C16 (hall 16 (by omega))
        replace C17 := C17 (hall 17 (by omega))
        replace C18 := C18 (hall 18 (by omega))
        replace C19 := C19 (hall 19 (by omega))
        replace C20 := C20 (hall 20 (by omega))
        replace C21 := C21 (hall 21 (by omega))
        replace C22 := C22 (hall 22 (by omega))
        replace C23 := C23 (hall 23 (by omega))
        replace C24 := C24 (hall 24 (by omega))
        replace C25 := C25 (hall 25 (by omega))
        simp only [fill, List.setIfInBounds_toArray, List.set_cons_succ, List.set_cons_zero, C0, C1, C2, C3, C4, C5, C6, C7, C8, C9, C11, C12, C13, C14, C15, C16, C17, C18, C19, C20, C21, C22, C23, C24, C25]
        generalize u 14 = s0 at *
        clear C0 C1 C2 C3 C4 C5 C6 C7 C8 C9 C10 C11 C12 C13 C14 C15 C16 C17 C18 C19 C20 C21 C22 C23 C24 C25 hu hall
      -- end inv
        go_wp2_with fail
        go_ret2
        exact ⟨by rw [HO.out]; rfl, E0⟩
    · have HO := Lib.hid hO
      have HSZ : Hid (∀ W u, Ext W1 W → PrintV W u bl → Calls Tryz.prog 43 #[u, .bool gb, .slice ao fs.length cap] W fun e w' => e = .returned (.tuple #[u, .int .i64 0]) ∧ Ext W w') := Lib.hid (fun W u hx hu => by have := hsz gb W u hx hu; rwa [hE] at this)
      clear hE hO hout hsz hrt hgb
      go_enter Tryz.func28, Tryz.ntmps28
      go_wp2_with fail
      clear hW1
      generalize w.heap.size = g0 at *
      -- inv {'ops': [('fa', 4, 1, '.pointer (some ⟨g0, 0, none⟩)', '.pointer (some ⟨g0, 0, none⟩)'), ('lf', 5, 0, 'Str one', 'obtain ⟨d0, d1, d2⟩ := cells3 H0'), ('op', 6, [1], 'Str (one ++ [32])'), ('fa', 7, 1, '.pointer (some ⟨g0, 0, none⟩)', '.pointer (some ⟨g0, 1, none⟩)'), ('lf', 8, 3, 'Str two', 'obtain ⟨d0, d1, d2⟩ := cells3 H0'), ('op', 9, [2, 4], 'Str (one ++ 32 :: two)'), ('op', 10, [5], 'Str (one ++ 32 :: (two ++ [32]))'), ('op', 11, [6], 'Str (one ++ 32 :: (two ++ [32, 72, 84, 84, 80, 47, 49, 46, 49]))'), ('fa', 12, 1, '.pointer (some ⟨g0, 0, none⟩)', '.pointer (some ⟨g0, 2, none⟩)'), ('lf', 13, 8, '.slice ao fs.length cap', 'obtain ⟨d0, d1, d2⟩ := cells3 H0'), ('callx', 14, [7, 9], "HPR.out w' E1", "PrintV w' (u 14) bl"), ('fa', 15, 1, '.pointer (some ⟨g0, 0, none⟩)', '.pointer (some ⟨g0, 0, none⟩)'), ('lf', 16, 11, 'Str one', 'obtain ⟨d0, d1, d2⟩ := cells3 H0'), ('callq', 17, [12], "HTK.out w'", '.bool true'), ('mw', 18, 13, '.bool true'), ('fa', 19, 1, '.pointer (some ⟨g0, 0, none⟩)', '.pointer (some ⟨g0, 1, none⟩)'), ('lf', 20, 15, 'Str two', 'obtain ⟨d0, d1, d2⟩ := cells3 H0'), ('callq', 21, [16], "HTG.out w'", '.bool gb'), ('op', 22, [14, 17], '.bool gb'), ('fa', 23, 1, '.pointer (some ⟨g0, 0, none⟩)', '.pointer (some ⟨g0, 2, none⟩)'), ('lf', 24, 19, '.slice ao fs.length cap', 'obtain ⟨d0, d1, d2⟩ := cells3 H0'), ('call', 25, [10, 18, 20], "HSZ.out w' _ E1 e10", '.tuple #[u 14, .int .i64 0]'), ('op', 26, [21], 'u 14'), ('op', 27, [21], '.int .i64 0'), ('mw', 2, 22, 'u 14'), ('mw', 3, 23, '.int .i64 0')], 'G': {15: (14, 'true'), 16: (14, 'true'), 17: (14, 'true')}, 'W': [('E0', "Ext w w'", 'Below.drew HX1.out'), ('E1', "Ext W1 w'", 'Below.drew (Below.refl _ _)'), ('H0', "w'.heap[g0]? = some (.cells #[Str one, Str two, .slice ao fs.length cap] 47 (0, 0))", 'HC1.out')], 'over': {10: {'C21': 'fun h => absurd h (by simp [(hcl.not 21 (by kernel_rfl) hL)])', 'C22': 'fun h => absurd h (by simp [(hcl.not 22 (by kernel_rfl) (hcl.not 21 (by kernel_rfl) hL))])', 'C24': 'fun h => absurd h (by simp [(hcl.not 24 (by kernel_rfl) (hcl.not 22 (by kernel_rfl) (hcl.not 21 (by kernel_rfl) hL)))])'}}, 'keep': ['C10']}
      refine wp_region_any (by kernel_rfl) ?_
      change wpAny _ _ _ _ _ _ _ (World.drew _)
      refine wpAny_inv (n := 26) [4, 5, 6, 7, 8, 9, 10, 11, 12, 13, 14, 15, 16, 17, 18, 19, 20, 21, 22, 23, 24, 25, 26, 27, 2, 3] (fun u L w' =>
          (L 0 = true → u 4 = .pointer (some ⟨g0, 0, none⟩)) ∧
          (L 1 = true → u 5 = Str one) ∧
          (L 2 = true → u 6 = Str (one ++ [32])) ∧
          (L 3 = true → u 7 = .pointer (some ⟨g0, 1, none⟩)) ∧
          (L 4 = true → u 8 = Str two) ∧
          (L 5 = true → u 9 = Str (one ++ 32 :: two)) ∧
          (L 6 = true → u 10 = Str (one ++ 32 :: (two ++ [32]))) ∧
          (L 7 = true → u 11 = Str (one ++ 32 :: (two ++ [32, 72, 84, 84, 80, 47, 49, 46, 49]))) ∧
          (L 8 = true → u 12 = .pointer (some ⟨g0, 2, none⟩)) ∧
          (L 9 = true → u 13 = .slice ao fs.length cap) ∧
          (L 10 = true → PrintV w' (u 14) bl) ∧
          (L 11 = true → u 15 = .pointer (some ⟨g0, 0, none⟩)) ∧
          (L 12 = true → u 16 = Str one) ∧
          (L 13 = true → u 17 = .bool true) ∧
          (L 14 = true → u 18 = .bool true) ∧
          (L 15 = true → u 19 = .pointer (some ⟨g0, 1, none⟩)) ∧
          (L 16 = true → u 20 = Str two) ∧
          (L 17 = true → u 21 = .bool gb) ∧
          (L 18 = true → u 22 = .bool gb) ∧
          (L 19 = true → u 23 = .pointer (some ⟨g0, 2, none⟩)) ∧
          (L 20 = true → u 24 = .slice ao fs.length cap) ∧
          (L 21 = true → u 25 = .tuple #[u 14, .int .i64 0]) ∧
          (L 22 = true → u 26 = u 14) ∧
          (L 23 = true → u 27 = .int .i64 0) ∧
          (L 24 = true → u 2 = u 14) ∧
          (L 25 = true → u 3 = .int .i64 0) ∧
          (Ext w w') ∧
          (Ext W1 w') ∧
          (w'.heap[g0]? = some (.cells #[Str one, Str two, .slice ao fs.length cap] 47 (0, 0))))
        (by rfl) (by kernel_rfl) (by kernel_rfl) (by rfl) ?_ ?_ ?_
      · exact ⟨(fun h => by cases h), (fun h => by cases h), (fun h => by cases h), (fun h => by cases h), (fun h => by cases h), (fun h => by cases h), (fun h => by cases h), (fun h => by cases h), (fun h => by cases h), (fun h => by cases h), (fun h => by cases h), (fun h => by cases h), (fun h => by cases h), (fun h => by cases h), (fun h => by cases h), (fun h => by cases h), (fun h => by cases h), (fun h => by cases h), (fun h => by cases h), (fun h => by cases h), (fun h => by cases h), (fun h => by cases h), (fun h => by cases h), (fun h => by cases h), (fun h => by cases h), (fun h => by cases h), Below.drew HX1.out, Below.drew (Below.refl _ _), HC1.out⟩
      · refine ⟨⟨⟨⟨⟨⟨⟨⟨⟨⟨⟨⟨⟨⟨⟨⟨⟨⟨⟨⟨⟨⟨⟨⟨⟨⟨trivial, ?_⟩, ?_⟩, ?_⟩, ?_⟩, ?_⟩, ?_⟩, ?_⟩, ?_⟩, ?_⟩, ?_⟩, ?_⟩, ?_⟩, ?_⟩, ?_⟩, ?_⟩, ?_⟩, ?_⟩, ?_⟩, ?_⟩, ?_⟩, ?_⟩, ?_⟩, ?_⟩, ?_⟩, ?_⟩, ?_⟩
        · refine stepOk_some (i := 0) (by rfl) (by rfl) ?_
          rintro u L T w' hT hu hL hp hcl ⟨C0, C1, C2, C3, C4, C5, C6, C7, C8, C9, C10, C11, C12, C13, C14, C15, C16, C17, C18, C19, C20, C21, C22, C23, C24, C25, E0, E1, H0⟩ K hK
          have e1 : u 1 = .pointer (some ⟨g0, 0, none⟩) := hu 1 (by decide)
          go_simp
          refine hK _ _ ?_
          exact ⟨fun _ => rfl, fun h => C1 (by simpa using h), fun h => C2 (by simpa using h), fun h => C3 (by simpa using h), fun h => C4 (by simpa using h), fun h => C5 (by simpa using h), fun h => C6 (by simpa using h), fun h => C7 (by simpa using h), fun h => C8 (by simpa using h), fun h => C9 (by simpa using h), fun h => C10 (by simpa using h), fun h => C11 (by simpa using h), fun h => C12 (by simpa using h), fun h => C13 (by simpa using h), fun h => C14 (by simpa using h), fun h => C15 (by simpa using h), fun h => C16 (by simpa using h), fun h => C17 (by simpa using h), fun h => C18 (by simpa using h), fun h => C19 (by simpa using h), fun h => C20 (by simpa using h), fun h => C21 (by simpa using h), fun h => C22 (by simpa using h), fun h => C23 (by simpa using h), fun h => C24 (by simpa using h), fun h => C25 (by simpa using h), E0, E1, H0⟩
        · refine stepOk_some (i := 1) (by rfl) (by rfl) ?_
          rintro u L T w' hT hu hL hp hcl ⟨C0, C1, C2, C3, C4, C5, C6, C7, C8, C9, C10, C11, C12, C13, C14, C15, C16, C17, C18, C19, C20, C21, C22, C23, C24, C25, E0, E1, H0⟩ K hK
          have e0 := C0 (hp.of 0 (by kernel_rfl))
          obtain ⟨d0, d1, d2⟩ := cells3 H0
          go_simp
          refine hK _ _ ?_
          exact ⟨fun h => C0 (by simpa using h), fun _ => rfl, fun h => C2 (by simpa using h), fun h => C3 (by simpa using h), fun h => C4 (by simpa using h), fun h => C5 (by simpa using h), fun h => C6 (by simpa using h), fun h => C7 (by simpa using h), fun h => C8 (by simpa using h), fun h => C9 (by simpa using h), fun h => C10 (by simpa using h), fun h => C11 (by simpa using h), fun h => C12 (by simpa using h), fun h => C13 (by simpa using h), fun h => C14 (by simpa using h), fun h => C15 (by simpa using h), fun h => C16 (by simpa using h), fun h => C17 (by simpa using h), fun h => C18 (by simpa using h), fun h => C19 (by simpa using h), fun h => C20 (by simpa using h), fun h => C21 (by simpa using h), fun h => C22 (by simpa using h), fun h => C23 (by simpa using h), fun h => C24 (by simpa using h), fun h => C25 (by simpa using h), E0, E1, H0⟩
        · refine stepOk_some (i := 2) (by rfl) (by rfl) ?_
          rintro u L T w' hT hu hL hp hcl ⟨C0, C1, C2, C3, C4, C5, C6, C7, C8, C9, C10, C11, C12, C13, C14, C15, C16, C17, C18, C19, C20, C21, C22, C23, C24, C25, E0, E1, H0⟩ K hK
          have e1 := C1 (hp.of 1 (by kernel_rfl))
          go_simp
          try go_bits
          try (rw [if_neg (by omega)]; go_simp)
          try (rw [if_pos (by omega)]; go_simp)
          refine hK _ _ ?_
          exact ⟨fun h => C0 (by simpa using h), fun h => C1 (by simpa using h), fun _ => rfl, fun h => C3 (by simpa using h), fun h => C4 (by simpa using h), fun h => C5 (by simpa using h), fun h => C6 (by simpa using h), fun h => C7 (by simpa using h), fun h => C8 (by simpa using h), fun h => C9 (by simpa using h), fun h => C10 (by simpa using h), fun h => C11 (by simpa using h), fun h => C12 (by simpa using h), fun h => C13 (by simpa using h), fun h => C14 (by simpa using h), fun h => C15 (by simpa using h), fun h => C16 (by simpa using h), fun h => C17 (by simpa using h), fun h => C18 (by simpa using h), fun h => C19 (by simpa using h), fun h => C20 (by simpa using h), fun h => C21 (by simpa using h), fun h => C22 (by simpa using h), fun h => C23 (by simpa using h), fun h => C24 (by simpa using h), fun h => C25 (by simpa using h), E0, E1, H0⟩
        · refine stepOk_some (i := 3) (by rfl) (by rfl) ?_
          rintro u L T w' hT hu hL hp hcl ⟨C0, C1, C2, C3, C4, C5, C6, C7, C8, C9, C10, C11, C12, C13, C14, C15, C16, C17, C18, C19, C20, C21, C22, C23, C24, C25, E0, E1, H0⟩ K hK
          have e1 : u 1 = .pointer (some ⟨g0, 0, none⟩) := hu 1 (by decide)
          go_simp
          refine hK _ _ ?_
          exact ⟨fun h => C0 (by simpa using h), fun h => C1 (by simpa using h), fun h => C2 (by simpa using h), fun _ => rfl, fun h => C4 (by simpa using h), fun h => C5 (by simpa using h), fun h => C6 (by simpa using h), fun h => C7 (by simpa using h), fun h => C8 (by simpa using h), fun h => C9 (by simpa using h), fun h => C10 (by simpa using h), fun h => C11 (by simpa using h), fun h => C12 (by simpa using h), fun h => C13 (by simpa using h), fun h => C14 (by simpa using h), fun h => C15 (by simpa using h), fun h => C16 (by simpa using h), fun h => C17 (by simpa using h), fun h => C18 (by simpa using h), fun h => C19 (by simpa using h), fun h => C20 (by simpa using h), fun h => C21 (by simpa using h), fun h => C22 (by simpa using h), fun h => C23 (by simpa using h), fun h => C24 (by simpa using h), fun h => C25 (by simpa using h), E0, E1, H0⟩
        · refine stepOk_some (i := 4) (by rfl) (by rfl) ?_
          rintro u L T w' hT hu hL hp hcl ⟨C0, C1, C2, C3, C4, C5, C6, C7, C8, C9, C10, C11, C12, C13, C14, C15, C16, C17, C18, C19, C20, C21, C22, C23, C24, C25, E0, E1, H0⟩ K hK
          have e3 := C3 (hp.of 3 (by kernel_rfl))
          obtain ⟨d0, d1, d2⟩ := cells3 H0
          go_simp
          refine hK _ _ ?_
          exact ⟨fun h => C0 (by simpa using h), fun h => C1 (by simpa using h), fun h => C2 (by simpa using h), fun h => C3 (by simpa using h), fun _ => rfl, fun h => C5 (by simpa using h), fun h => C6 (by simpa using h), fun h => C7 (by simpa using h), fun h => C8 (by simpa using h), fun h => C9 (by simpa using h), fun h => C10 (by simpa using h), fun h => C11 (by simpa using h), fun h => C12 (by simpa using h), fun h => C13 (by simpa using h), fun h => C14 (by simpa using h), fun h => C15 (by simpa using h), fun h => C16 (by simpa using h), fun h => C17 (by simpa using h), fun h => C18 (by simpa using h), fun h => C19 (by simpa using h), fun h => C20 (by simpa using h), fun h => C21 (by simpa using h), fun h => C22 (by simpa using h), fun h => C23 (by simpa using h), fun h => C24 (by simpa using h), fun h => C25 (by simpa using h), E0, E1, H0⟩
        · refine stepOk_some (i := 5) (by rfl) (by rfl) ?_
          rintro u L T w' hT hu hL hp hcl ⟨C0, C1, C2, C3, C4, C5, C6, C7, C8, C9, C10, C11, C12, C13, C14, C15, C16, C17, C18, C19, C20, C21, C22, C23, C24, C25, E0, E1, H0⟩ K hK
          have e2 := C2 (hp.of 2 (by kernel_rfl))
          have e4 := C4 (hp.of 4 (by kernel_rfl))
          go_simp
          try go_bits
          try (rw [if_neg (by omega)]; go_simp)
          try (rw [if_pos (by omega)]; go_simp)
          refine hK _ _ ?_
          exact ⟨fun h => C0 (by simpa using h), fun h => C1 (by simpa using h), fun h => C2 (by simpa using h), fun h => C3 (by simpa using h), fun h => C4 (by simpa using h), fun _ => rfl, fun h => C6 (by simpa using h), fun h => C7 (by simpa using h), fun h => C8 (by simpa using h), fun h => C9 (by simpa using h), fun h => C10 (by simpa using h), fun h => C11 (by simpa using h), fun h => C12 (by simpa using h), fun h => C13 (by simpa using h), fun h => C14 (by simpa using h), fun h => C15 (by simpa using h), fun h => C16 (by simpa using h), fun h => C17 (by simpa using h), fun h => C18 (by simpa using h), fun h => C19 (by simpa using h), fun h => C20 (by simpa using h), fun h => C21 (by simpa using h), fun h => C22 (by simpa using h), fun h => C23 (by simpa using h), fun h => C24 (by simpa using h), fun h => C25 (by simpa using h), E0, E1, H0⟩
        · refine stepOk_some (i := 6) (by rfl) (by rfl) ?_
          rintro u L T w' hT hu hL hp hcl ⟨C0, C1, C2, C3, C4, C5, C6, C7, C8, C9, C10, C11, C12, C13, C14, C15, C16, C17, C18, C19, C20, C21, C22, C23, C24, C25, E0, E1, H0⟩ K hK
          have e5 := C5 (hp.of 5 (by kernel_rfl))
          go_simp
          try go_bits
          try (rw [if_neg (by omega)]; go_simp)
          try (rw [if_pos (by omega)]; go_simp)
          refine hK _ _ ?_
          exact ⟨fun h => C0 (by simpa using h), fun h => C1 (by simpa using h), fun h => C2 (by simpa using h), fun h => C3 (by simpa using h), fun h => C4 (by simpa using h), fun h => C5 (by simpa using h), fun _ => rfl, fun h => C7 (by simpa using h), fun h => C8 (by simpa using h), fun h => C9 (by simpa using h), fun h => C10 (by simpa using h), fun h => C11 (by simpa using h), fun h => C12 (by simpa using h), fun h => C13 (by simpa using h), fun h => C14 (by simpa using h), fun h => C15 (by simpa using h), fun h => C16 (by simpa using h), fun h => C17 (by simpa using h), fun h => C18 (by simpa using h), fun h => C19 (by simpa using h), fun h => C20 (by simpa using h), fun h => C21 (by simpa using h), fun h => C22 (by simpa using h), fun h => C23 (by simpa using h), fun h => C24 (by simpa using h), fun h => C25 (by simpa using h), E0, E1, H0⟩
        · refine stepOk_some (i := 7) (by rfl) (by rfl) ?_
          rintro u L T w' hT hu hL hp hcl ⟨C0, C1, C2, C3, C4, C5, C6, C7, C8, C9, C10, C11, C12, C13, C14, C15, C16, C17, C18, C19, C20, C21, C22, C23, C24, C25, E0, E1, H0⟩ K hK
          have e6 := C6 (hp.of 6 (by kernel_rfl))
          go_simp
          try go_bits
          try (rw [if_neg (by omega)]; go_simp)
          try (rw [if_pos (by omega)]; go_simp)
          refine hK _ _ ?_
          exact ⟨fun h => C0 (by simpa using h), fun h => C1 (by simpa using h), fun h => C2 (by simpa using h), fun h => C3 (by simpa using h), fun h => C4 (by simpa using h), fun h => C5 (by simpa using h), fun h => C6 (by simpa using h), fun _ => rfl, fun h => C8 (by simpa using h), fun h => C9 (by simpa using h), fun h => C10 (by simpa using h), fun h => C11 (by simpa using h), fun h => C12 (by simpa using h), fun h => C13 (by simpa using h), fun h => C14 (by simpa using h), fun h => C15 (by simpa using h), fun h => C16 (by simpa using h), fun h => C17 (by simpa using h), fun h => C18 (by simpa using h), fun h => C19 (by simpa using h), fun h => C20 (by simpa using h), fun h => C21 (by simpa using h), fun h => C22 (by simpa using h), fun h => C23 (by simpa using h), fun h => C24 (by simpa using h), fun h => C25 (by simpa using h), E0, E1, H0⟩
        · refine stepOk_some (i := 8) (by rfl) (by rfl) ?_
          rintro u L T w' hT hu hL hp hcl ⟨C0, C1, C2, C3, C4, C5, C6, C7, C8, C9, C10, C11, C12, C13, C14, C15, C16, C17, C18, C19, C20, C21, C22, C23, C24, C25, E0, E1, H0⟩ K hK
          have e1 : u 1 = .pointer (some ⟨g0, 0, none⟩) := hu 1 (by decide)
          go_simp
          refine hK _ _ ?_
          exact ⟨fun h => C0 (by simpa using h), fun h => C1 (by simpa using h), fun h => C2 (by simpa using h), fun h => C3 (by simpa using h), fun h => C4 (by simpa using h), fun h => C5 (by simpa using h), fun h => C6 (by simpa using h), fun h => C7 (by simpa using h), fun _ => rfl, fun h => C9 (by simpa using h), fun h => C10 (by simpa using h), fun h => C11 (by simpa using h), fun h => C12 (by simpa using h), fun h => C13 (by simpa using h), fun h => C14 (by simpa using h), fun h => C15 (by simpa using h), fun h => C16 (by simpa using h), fun h => C17 (by simpa using h), fun h => C18 (by simpa using h), fun h => C19 (by simpa using h), fun h => C20 (by simpa using h), fun h => C21 (by simpa using h), fun h => C22 (by simpa using h), fun h => C23 (by simpa using h), fun h => C24 (by simpa using h), fun h => C25 (by simpa using h), E0, E1, H0⟩
        · refine stepOk_some (i := 9) (by rfl) (by rfl) ?_
          rintro u L T w' hT hu hL hp hcl ⟨C0, C1, C2, C3, C4, C5, C6, C7, C8, C9, C10, C11, C12, C13, C14, C15, C16, C17, C18, C19, C20, C21, C22, C23, C24, C25, E0, E1, H0⟩ K hK
          have e8 := C8 (hp.of 8 (by kernel_rfl))
          obtain ⟨d0, d1, d2⟩ := cells3 H0
          go_simp
          refine hK _ _ ?_
          exact ⟨fun h => C0 (by simpa using h), fun h => C1 (by simpa using h), fun h => C2 (by simpa using h), fun h => C3 (by simpa using h), fun h => C4 (by simpa using h), fun h => C5 (by simpa using h), fun h => C6 (by simpa using h), fun h => C7 (by simpa using h), fun h => C8 (by simpa using h), fun _ => rfl, fun h => C10 (by simpa using h), fun h => C11 (by simpa using h), fun h => C12 (by simpa using h), fun h => C13 (by simpa using h), fun h => C14 (by simpa using h), fun h => C15 (by simpa using h), fun h => C16 (by simpa using h), fun h => C17 (by simpa using h), fun h => C18 (by simpa using h), fun h => C19 (by simpa using h), fun h => C20 (by simpa using h), fun h => C21 (by simpa using h), fun h => C22 (by simpa using h), fun h => C23 (by simpa using h), fun h => C24 (by simpa using h), fun h => C25 (by simpa using h), E0, E1, H0⟩
        · refine stepOk_some (i := 10) (by rfl) (by rfl) ?_
          rintro u L T w' hT hu hL hp hcl ⟨C0, C1, C2, C3, C4, C5, C6, C7, C8, C9, C10, C11, C12, C13, C14, C15, C16, C17, C18, C19, C20, C21, C22, C23, C24, C25, E0, E1, H0⟩ K hK
          have e7 := C7 (hp.of 7 (by kernel_rfl))
          have e9 := C9 (hp.of 9 (by kernel_rfl))
          go_simp
          refine Calls.mono (HPR.out w' E1) ?_
          rintro e w1 ⟨v1, he, hr1, hx1⟩
          subst he
          refine hK _ _ ?_
          exact ⟨fun h => C0 (by simpa using h), fun h => C1 (by simpa using h), fun h => C2 (by simpa using h), fun h => C3 (by simpa using h), fun h => C4 (by simpa using h), fun h => C5 (by simpa using h), fun h => C6 (by simpa using h), fun h => C7 (by simpa using h), fun h => C8 (by simpa using h), fun h => C9 (by simpa using h), fun _ => hr1, fun h => C11 (by simpa using h), fun h => C12 (by simpa using h), fun h => C13 (by simpa using h), fun h => C14 (by simpa using h), fun h => C15 (by simpa using h), fun h => C16 (by simpa using h), fun h => C17 (by simpa using h), fun h => C18 (by simpa using h), fun h => C19 (by simpa using h), fun h => C20 (by simpa using h), fun h => absurd h (by simp [(hcl.not 21 (by kernel_rfl) hL)]), fun h => absurd h (by simp [(hcl.not 22 (by kernel_rfl) (hcl.not 21 (by kernel_rfl) hL))]), fun h => C23 (by simpa using h), fun h => absurd h (by simp [(hcl.not 24 (by kernel_rfl) (hcl.not 22 (by kernel_rfl) (hcl.not 21 (by kernel_rfl) hL)))]), fun h => C25 (by simpa using h), ext_trans (E0) hx1, ext_trans (E1) hx1, ext_at hx1 (H0)⟩
        · refine stepOk_some (i := 11) (by rfl) (by rfl) ?_
          rintro u L T w' hT hu hL hp hcl ⟨C0, C1, C2, C3, C4, C5, C6, C7, C8, C9, C10, C11, C12, C13, C14, C15, C16, C17, C18, C19, C20, C21, C22, C23, C24, C25, E0, E1, H0⟩ K hK
          have e1 : u 1 = .pointer (some ⟨g0, 0, none⟩) := hu 1 (by decide)
          go_simp
          refine hK _ _ ?_
          exact ⟨fun h => C0 (by simpa using h), fun h => C1 (by simpa using h), fun h => C2 (by simpa using h), fun h => C3 (by simpa using h), fun h => C4 (by simpa using h), fun h => C5 (by simpa using h), fun h => C6 (by simpa using h), fun h => C7 (by simpa using h), fun h => C8 (by simpa using h), fun h => C9 (by simpa using h), fun h => C10 (by simpa using h), fun _ => rfl, fun h => C12 (by simpa using h), fun h => C13 (by simpa using h), fun h => C14 (by simpa using h), fun h => C15 (by simpa using h), fun h => C16 (by simpa using h), fun h => C17 (by simpa using h), fun h => C18 (by simpa using h), fun h => C19 (by simpa using h), fun h => C20 (by simpa using h), fun h => C21 (by simpa using h), fun h => C22 (by simpa using h), fun h => C23 (by simpa using h), fun h => C24 (by simpa using h), fun h => C25 (by simpa using h), E0, E1, H0⟩
        · refine stepOk_some (i := 12) (by rfl) (by rfl) ?_
          rintro u L T w' hT hu hL hp hcl ⟨C0, C1, C2, C3, C4, C5, C6, C7, C8, C9, C10, C11, C12, C13, C14, C15, C16, C17, C18, C19, C20, C21, C22, C23, C24, C25, E0, E1, H0⟩ K hK
          have e11 := C11 (hp.of 11 (by kernel_rfl))
          obtain ⟨d0, d1, d2⟩ := cells3 H0
          go_simp
          refine hK _ _ ?_
          exact ⟨fun h => C0 (by simpa using h), fun h => C1 (by simpa using h), fun h => C2 (by simpa using h), fun h => C3 (by simpa using h), fun h => C4 (by simpa using h), fun h => C5 (by simpa using h), fun h => C6 (by simpa using h), fun h => C7 (by simpa using h), fun h => C8 (by simpa using h), fun h => C9 (by simpa using h), fun h => C10 (by simpa using h), fun h => C11 (by simpa using h), fun _ => rfl, fun h => C13 (by simpa using h), fun h => C14 (by simpa using h), fun h => C15 (by simpa using h), fun h => C16 (by simpa using h), fun h => C17 (by simpa using h), fun h => C18 (by simpa using h), fun h => C19 (by simpa using h), fun h => C20 (by simpa using h), fun h => C21 (by simpa using h), fun h => C22 (by simpa using h), fun h => C23 (by simpa using h), fun h => C24 (by simpa using h), fun h => C25 (by simpa using h), E0, E1, H0⟩
        · refine stepOk_some (i := 13) (by rfl) (by rfl) ?_
          rintro u L T w' hT hu hL hp hcl ⟨C0, C1, C2, C3, C4, C5, C6, C7, C8, C9, C10, C11, C12, C13, C14, C15, C16, C17, C18, C19, C20, C21, C22, C23, C24, C25, E0, E1, H0⟩ K hK
          have e12 := C12 (hp.of 12 (by kernel_rfl))
          go_simp
          refine (HTK.out w').mono ?_
          rintro e w1 ⟨he, hx1⟩
          subst w1
          subst he
          refine hK _ _ ?_
          exact ⟨fun h => C0 (by simpa using h), fun h => C1 (by simpa using h), fun h => C2 (by simpa using h), fun h => C3 (by simpa using h), fun h => C4 (by simpa using h), fun h => C5 (by simpa using h), fun h => C6 (by simpa using h), fun h => C7 (by simpa using h), fun h => C8 (by simpa using h), fun h => C9 (by simpa using h), fun h => C10 (by simpa using h), fun h => C11 (by simpa using h), fun h => C12 (by simpa using h), fun _ => rfl, fun h => C14 (by simpa using h), fun h => C15 (by simpa using h), fun h => C16 (by simpa using h), fun h => C17 (by simpa using h), fun h => C18 (by simpa using h), fun h => C19 (by simpa using h), fun h => C20 (by simpa using h), fun h => C21 (by simpa using h), fun h => C22 (by simpa using h), fun h => C23 (by simpa using h), fun h => C24 (by simpa using h), fun h => C25 (by simpa using h), E0, E1, H0⟩
        · refine stepOk_some (i := 14) (by rfl) (by rfl) ?_
          rintro u L T w' hT hu hL hp hcl ⟨C0, C1, C2, C3, C4, C5, C6, C7, C8, C9, C10, C11, C12, C13, C14, C15, C16, C17, C18, C19, C20, C21, C22, C23, C24, C25, E0, E1, H0⟩ K hK
          have e13 := C13 (hp.of 13 (by kernel_rfl))
          go_simp
          refine hK _ _ ?_
          exact ⟨fun h => C0 (by simpa using h), fun h => C1 (by simpa using h), fun h => C2 (by simpa using h), fun h => C3 (by simpa using h), fun h => C4 (by simpa using h), fun h => C5 (by simpa using h), fun h => C6 (by simpa using h), fun h => C7 (by simpa using h), fun h => C8 (by simpa using h), fun h => C9 (by simpa using h), fun h => C10 (by simpa using h), fun h => C11 (by simpa using h), fun h => C12 (by simpa using h), fun h => C13 (by simpa using h), fun _ => rfl, fun h => C15 (by simpa using h), fun h => C16 (by simpa using h), fun h => C17 (by simpa using h), fun h => C18 (by simpa using h), fun h => C19 (by simpa using h), fun h => C20 (by simpa using h), fun h => C21 (by simpa using h), fun h => C22 (by simpa using h), fun h => C23 (by simpa using h), fun h => C24 (by simpa using h), fun h => C25 (by simpa using h), E0, E1, H0⟩
        · refine stepOk_some (i := 15) (by rfl) (by rfl) ?_
          rintro u L T w' hT hu hL hp hcl ⟨C0, C1, C2, C3, C4, C5, C6, C7, C8, C9, C10, C11, C12, C13, C14, C15, C16, C17, C18, C19, C20, C21, C22, C23, C24, C25, E0, E1, H0⟩ K hK
          have hg := getD_bool ((hT 18).trans (C14 (hp.of 14 (by kernel_rfl))))
          have e1 : u 1 = .pointer (some ⟨g0, 0, none⟩) := hu 1 (by decide)
          go_simp
          refine hK _ _ ?_
          exact ⟨fun h => C0 (by simpa using h), fun h => C1 (by simpa using h), fun h => C2 (by simpa using h), fun h => C3 (by simpa using h), fun h => C4 (by simpa using h), fun h => C5 (by simpa using h), fun h => C6 (by simpa using h), fun h => C7 (by simpa using h), fun h => C8 (by simpa using h), fun h => C9 (by simpa using h), fun h => C10 (by simpa using h), fun h => C11 (by simpa using h), fun h => C12 (by simpa using h), fun h => C13 (by simpa using h), fun h => C14 (by simpa using h), fun _ => rfl, fun h => C16 (by simpa using h), fun h => C17 (by simpa using h), fun h => C18 (by simpa using h), fun h => C19 (by simpa using h), fun h => C20 (by simpa using h), fun h => C21 (by simpa using h), fun h => C22 (by simpa using h), fun h => C23 (by simpa using h), fun h => C24 (by simpa using h), fun h => C25 (by simpa using h), E0, E1, H0⟩
        · refine stepOk_some (i := 16) (by rfl) (by rfl) ?_
          rintro u L T w' hT hu hL hp hcl ⟨C0, C1, C2, C3, C4, C5, C6, C7, C8, C9, C10, C11, C12, C13, C14, C15, C16, C17, C18, C19, C20, C21, C22, C23, C24, C25, E0, E1, H0⟩ K hK
          have hg := getD_bool ((hT 18).trans (C14 (hp.of 14 (by kernel_rfl))))
          have e15 := C15 (hp.of 15 (by kernel_rfl))
          obtain ⟨d0, d1, d2⟩ := cells3 H0
          go_simp
          refine hK _ _ ?_
          exact ⟨fun h => C0 (by simpa using h), fun h => C1 (by simpa using h), fun h => C2 (by simpa using h), fun h => C3 (by simpa using h), fun h => C4 (by simpa using h), fun h => C5 (by simpa using h), fun h => C6 (by simpa using h), fun h => C7 (by simpa using h), fun h => C8 (by simpa using h), fun h => C9 (by simpa using h), fun h => C10 (by simpa using h), fun h => C11 (by simpa using h), fun h => C12 (by simpa using h), fun h => C13 (by simpa using h), fun h => C14 (by simpa using h), fun h => C15 (by simpa using h), fun _ => rfl, fun h => C17 (by simpa using h), fun h => C18 (by simpa using h), fun h => C19 (by simpa using h), fun h => C20 (by simpa using h), fun h => C21 (by simpa using h), fun h => C22 (by simpa using h), fun h => C23 (by simpa using h), fun h => C24 (by simpa using h), fun h => C25 (by simpa using h), E0, E1, H0⟩
        · refine stepOk_some (i := 17) (by rfl) (by rfl) ?_
          rintro u L T w' hT hu hL hp hcl ⟨C0, C1, C2, C3, C4, C5, C6, C7, C8, C9, C10, C11, C12, C13, C14, C15, C16, C17, C18, C19, C20, C21, C22, C23, C24, C25, E0, E1, H0⟩ K hK
          have hg := getD_bool ((hT 18).trans (C14 (hp.of 14 (by kernel_rfl))))
          have e16 := C16 (hp.of 16 (by kernel_rfl))
          go_simp
          refine (HTG.out w').mono ?_
          rintro e w1 ⟨he, hx1⟩
          subst w1
          subst he
          refine hK _ _ ?_
          exact ⟨fun h => C0 (by simpa using h), fun h => C1 (by simpa using h), fun h => C2 (by simpa using h), fun h => C3 (by simpa using h), fun h => C4 (by simpa using h), fun h => C5 (by simpa using h), fun h => C6 (by simpa using h), fun h => C7 (by simpa using h), fun h => C8 (by simpa using h), fun h => C9 (by simpa using h), fun h => C10 (by simpa using h), fun h => C11 (by simpa using h), fun h => C12 (by simpa using h), fun h => C13 (by simpa using h), fun h => C14 (by simpa using h), fun h => C15 (by simpa using h), fun h => C16 (by simpa using h), fun _ => rfl, fun h => C18 (by simpa using h), fun h => C19 (by simpa using h), fun h => C20 (by simpa using h), fun h => C21 (by simpa using h), fun h => C22 (by simpa using h), fun h => C23 (by simpa using h), fun h => C24 (by simpa using h), fun h => C25 (by simpa using h), E0, E1, H0⟩
        · refine stepOk_some (i := 18) (by rfl) (by rfl) ?_
          rintro u L T w' hT hu hL hp hcl ⟨C0, C1, C2, C3, C4, C5, C6, C7, C8, C9, C10, C11, C12, C13, C14, C15, C16, C17, C18, C19, C20, C21, C22, C23, C24, C25, E0, E1, H0⟩ K hK
          have e14 := C14 (hp.of 14 (by kernel_rfl))
          have e17 := C17 (hp.of 17 (by kernel_rfl))
          go_simp
          try go_bits
          try (rw [if_neg (by omega)]; go_simp)
          try (rw [if_pos (by omega)]; go_simp)
          refine hK _ _ ?_
          exact ⟨fun h => C0 (by simpa using h), fun h => C1 (by simpa using h), fun h => C2 (by simpa using h), fun h => C3 (by simpa using h), fun h => C4 (by simpa using h), fun h => C5 (by simpa using h), fun h => C6 (by simpa using h), fun h => C7 (by simpa using h), fun h => C8 (by simpa using h), fun h => C9 (by simpa using h), fun h => C10 (by simpa using h), fun h => C11 (by simpa using h), fun h => C12 (by simpa using h), fun h => C13 (by simpa using h), fun h => C14 (by simpa using h), fun h => C15 (by simpa using h), fun h => C16 (by simpa using h), fun h => C17 (by simpa using h), fun _ => rfl, fun h => C19 (by simpa using h), fun h => C20 (by simpa using h), fun h => C21 (by simpa using h), fun h => C22 (by simpa using h), fun h => C23 (by simpa using h), fun h => C24 (by simpa using h), fun h => C25 (by simpa using h), E0, E1, H0⟩
        · refine stepOk_some (i := 19) (by rfl) (by rfl) ?_
          rintro u L T w' hT hu hL hp hcl ⟨C0, C1, C2, C3, C4, C5, C6, C7, C8, C9, C10, C11, C12, C13, C14, C15, C16, C17, C18, C19, C20, C21, C22, C23, C24, C25, E0, E1, H0⟩ K hK
          have e1 : u 1 = .pointer (some ⟨g0, 0, none⟩) := hu 1 (by decide)
          go_simp
          refine hK _ _ ?_
          exact ⟨fun h => C0 (by simpa using h), fun h => C1 (by simpa using h), fun h => C2 (by simpa using h), fun h => C3 (by simpa using h), fun h => C4 (by simpa using h), fun h => C5 (by simpa using h), fun h => C6 (by simpa using h), fun h => C7 (by simpa using h), fun h => C8 (by simpa using h), fun h => C9 (by simpa using h), fun h => C10 (by simpa using h), fun h => C11 (by simpa using h), fun h => C12 (by simpa using h), fun h => C13 (by simpa using h), fun h => C14 (by simpa using h), fun h => C15 (by simpa using h), fun h => C16 (by simpa using h), fun h => C17 (by simpa using h), fun h => C18 (by simpa using h), fun _ => rfl, fun h => C20 (by simpa using h), fun h => C21 (by simpa using h), fun h => C22 (by simpa using h), fun h => C23 (by simpa using h), fun h => C24 (by simpa using h), fun h => C25 (by simpa using h), E0, E1, H0⟩
        · refine stepOk_some (i := 20) (by rfl) (by rfl) ?_
          rintro u L T w' hT hu hL hp hcl ⟨C0, C1, C2, C3, C4, C5, C6, C7, C8, C9, C10, C11, C12, C13, C14, C15, C16, C17, C18, C19, C20, C21, C22, C23, C24, C25, E0, E1, H0⟩ K hK
          have e19 := C19 (hp.of 19 (by kernel_rfl))
          obtain ⟨d0, d1, d2⟩ := cells3 H0
          go_simp
          refine hK _ _ ?_
          exact ⟨fun h => C0 (by simpa using h), fun h => C1 (by simpa using h), fun h => C2 (by simpa using h), fun h => C3 (by simpa using h), fun h => C4 (by simpa using h), fun h => C5 (by simpa using h), fun h => C6 (by simpa using h), fun h => C7 (by simpa using h), fun h => C8 (by simpa using h), fun h => C9 (by simpa using h), fun h => C10 (by simpa using h), fun h => C11 (by simpa using h), fun h => C12 (by simpa using h), fun h => C13 (by simpa using h), fun h => C14 (by simpa using h), fun h => C15 (by simpa using h), fun h => C16 (by simpa using h), fun h => C17 (by simpa using h), fun h => C18 (by simpa using h), fun h => C19 (by simpa using h), fun _ => rfl, fun h => C21 (by simpa using h), fun h => C22 (by simpa using h), fun h => C23 (by simpa using h), fun h => C24 (by simpa using h), fun h => C25 (by simpa using h), E0, E1, H0⟩
        · refine stepOk_some (i := 21) (by rfl) (by rfl) ?_
          rintro u L T w' hT hu hL hp hcl ⟨C0, C1, C2, C3, C4, C5, C6, C7, C8, C9, C10, C11, C12, C13, C14, C15, C16, C17, C18, C19, C20, C21, C22, C23, C24, C25, E0, E1, H0⟩ K hK
          have e10 := C10 (hp.of 10 (by kernel_rfl))
          have e18 := C18 (hp.of 18 (by kernel_rfl))
          have e20 := C20 (hp.of 20 (by kernel_rfl))
          go_simp
          refine (HSZ.out w' _ E1 e10).mono ?_
          rintro e w1 ⟨he, hx1⟩
          subst he
          refine hK _ _ ?_
          exact ⟨fun h => C0 (by simpa using h), fun h => C1 (by simpa using h), fun h => C2 (by simpa using h), fun h => C3 (by simpa using h), fun h => C4 (by simpa using h), fun h => C5 (by simpa using h), fun h => C6 (by simpa using h), fun h => C7 (by simpa using h), fun h => C8 (by simpa using h), fun h => C9 (by simpa using h), fun h => (C10 (by simpa using h)).ext hx1, fun h => C11 (by simpa using h), fun h => C12 (by simpa using h), fun h => C13 (by simpa using h), fun h => C14 (by simpa using h), fun h => C15 (by simpa using h), fun h => C16 (by simpa using h), fun h => C17 (by simpa using h), fun h => C18 (by simpa using h), fun h => C19 (by simpa using h), fun h => C20 (by simpa using h), fun _ => rfl, fun h => C22 (by simpa using h), fun h => C23 (by simpa using h), fun h => C24 (by simpa using h), fun h => C25 (by simpa using h), ext_trans (E0) hx1, ext_trans (E1) hx1, ext_at hx1 (H0)⟩
        · refine stepOk_some (i := 22) (by rfl) (by rfl) ?_
          rintro u L T w' hT hu hL hp hcl ⟨C0, C1, C2, C3, C4, C5, C6, C7, C8, C9, C10, C11, C12, C13, C14, C15, C16, C17, C18, C19, C20, C21, C22, C23, C24, C25, E0, E1, H0⟩ K hK
          have e21 := C21 (hp.of 21 (by kernel_rfl))
          go_simp
          try go_bits
          try (rw [if_neg (by omega)]; go_simp)
          try (rw [if_pos (by omega)]; go_simp)
          refine hK _ _ ?_
          exact ⟨fun h => C0 (by simpa using h), fun h => C1 (by simpa using h), fun h => C2 (by simpa using h), fun h => C3 (by simpa using h), fun h => C4 (by simpa using h), fun h => C5 (by simpa using h), fun h => C6 (by simpa using h), fun h => C7 (by simpa using h), fun h => C8 (by simpa using h), fun h => C9 (by simpa using h), fun h => C10 (by simpa using h), fun h => C11 (by simpa using h), fun h => C12 (by simpa using h), fun h => C13 (by simpa using h), fun h => C14 (by simpa using h), fun h => C15 (by simpa using h), fun h => C16 (by simpa using h), fun h => C17 (by simpa using h), fun h => C18 (by simpa using h), fun h => C19 (by simpa using h), fun h => C20 (by simpa using h), fun h => C21 (by simpa using h), fun _ => rfl, fun h => C23 (by simpa using h), fun h => C24 (by simpa using h), fun h => C25 (by simpa using h), E0, E1, H0⟩
        · refine stepOk_some (i := 23) (by rfl) (by rfl) ?_
          rintro u L T w' hT hu hL hp hcl ⟨C0, C1, C2, C3, C4, C5, C6, C7, C8, C9, C10, C11, C12, C13, C14, C15, C16, C17, C18, C19, C20, C21, C22, C23, C24, C25, E0, E1, H0⟩ K hK
          have e21 := C21 (hp.of 21 (by kernel_rfl))
          go_simp
          try go_bits
          try (rw [if_neg (by omega)]; go_simp)
          try (rw [if_pos (by omega)]; go_simp)
          refine hK _ _ ?_
          exact ⟨fun h => C0 (by simpa using h), fun h => C1 (by simpa using h), fun h => C2 (by simpa using h), fun h => C3 (by simpa using h), fun h => C4 (by simpa using h), fun h => C5 (by simpa using h), fun h => C6 (by simpa using h), fun h => C7 (by simpa using h), fun h => C8 (by simpa using h), fun h => C9 (by simpa using h), fun h => C10 (by simpa using h), fun h => C11 (by simpa using h), fun h => C12 (by simpa using h), fun h => C13 (by simpa using h), fun h => C14 (by simpa using h), fun h => C15 (by simpa using h), fun h => C16 (by simpa using h), fun h => C17 (by simpa using h), fun h => C18 (by simpa using h), fun h => C19 (by simpa using h), fun h => C20 (by simpa using h), fun h => C21 (by simpa using h), fun h => C22 (by simpa using h), fun _ => rfl, fun h => C24 (by simpa using h), fun h => C25 (by simpa using h), E0, E1, H0⟩
        · refine stepOk_some (i := 24) (by rfl) (by rfl) ?_
          rintro u L T w' hT hu hL hp hcl ⟨C0, C1, C2, C3, C4, C5, C6, C7, C8, C9, C10, C11, C12, C13, C14, C15, C16, C17, C18, C19, C20, C21, C22, C23, C24, C25, E0, E1, H0⟩ K hK
          have e22 := C22 (hp.of 22 (by kernel_rfl))
          go_simp
          refine hK _ _ ?_
          exact ⟨fun h => C0 (by simpa using h), fun h => C1 (by simpa using h), fun h => C2 (by simpa using h), fun h => C3 (by simpa using h), fun h => C4 (by simpa using h), fun h => C5 (by simpa using h), fun h => C6 (by simpa using h), fun h => C7 (by simpa using h), fun h => C8 (by simpa using h), fun h => C9 (by simpa using h), fun h => C10 (by simpa using h), fun h => C11 (by simpa using h), fun h => C12 (by simpa using h), fun h => C13 (by simpa using h), fun h => C14 (by simpa using h), fun h => C15 (by simpa using h), fun h => C16 (by simpa using h), fun h => C17 (by simpa using h), fun h => C18 (by simpa using h), fun h => C19 (by simpa using h), fun h => C20 (by simpa using h), fun h => C21 (by simpa using h), fun h => C22 (by simpa using h), fun h => C23 (by simpa using h), fun _ => rfl, fun h => C25 (by simpa using h), E0, E1, H0⟩
        · refine stepOk_some (i := 25) (by rfl) (by rfl) ?_
          rintro u L T w' hT hu hL hp hcl ⟨C0, C1, C2, C3, C4, C5, C6, C7, C8, C9, C10, C11, C12, C13, C14, C15, C16, C17, C18, C19, C20, C21, C22, C23, C24, C25, E0, E1, H0⟩ K hK
          have e23 := C23 (hp.of 23 (by kernel_rfl))
          go_simp
          refine hK _ _ ?_
          exact ⟨fun h => C0 (by simpa using h), fun h => C1 (by simpa using h), fun h => C2 (by simpa using h), fun h => C3 (by simpa using h), fun h => C4 (by simpa using h), fun h => C5 (by simpa using h), fun h => C6 (by simpa using h), fun h => C7 (by simpa using h), fun h => C8 (by simpa using h), fun h => C9 (by simpa using h), fun h => C10 (by simpa using h), fun h => C11 (by simpa using h), fun h => C12 (by simpa using h), fun h => C13 (by simpa using h), fun h => C14 (by simpa using h), fun h => C15 (by simpa using h), fun h => C16 (by simpa using h), fun h => C17 (by simpa using h), fun h => C18 (by simpa using h), fun h => C19 (by simpa using h), fun h => C20 (by simpa using h), fun h => C21 (by simpa using h), fun h => C22 (by simpa using h), fun h => C23 (by simpa using h), fun h => C24 (by simpa using h), fun _ => rfl, E0, E1, H0⟩
      · rintro u L w' hall hu ⟨C0, C1, C2, C3, C4, C5, C6, C7, C8, C9, C10, C11, C12, C13, C14, C15, C16, C17, C18, C19, C20, C21, C22, C23, C24, C25, E0, E1, H0⟩
        replace C0 := C0 (hall 0 (by omega))
        replace C1 := C1 (hall 1 (by omega))
        replace C2 := C2 (hall 2 (by omega))
        replace C3 := C3 (hall 3 (by omega))
        replace C4 := C4 (hall 4 (by omega))
        replace C5 := C5 (hall 5 (by omega))
        replace C6 := C6 (hall 6 (by omega))
        replace C7 := C7 (hall 7 (by omega))
        replace C8 := C8 (hall 8 (by omega))
        replace C9 := C9 (hall 9 (by omega))
        replace C10 := C10 (hall 10 (by omega))
        replace C11 := C11 (hall 11 (by omega))
        replace C12 := C12 (hall 12 (by omega))
        replace C13 := C13 (hall 13 (by omega))
        replace C14 := C14 (hall 14 (by omega))
        replace C15 := C15 (hall 15 (by omega))
        replace C16 := C16 (hall 16 (by omega))
        replace C17 := C17 (hall 17 (by omega))
        replace C18 := C18 (hall 18 (by omega))
        replace C19 := C19 (hall 19 (by omega))
        replace C20 := C20 (hall 20 (by omega))
        replace C21 := C21 (hall 21 (by omega))
        replace C22 := C22 (hall 22 (by omega))
        replace C23 := C23 (hall 23 (by omega))
        replace C24 := C24 (hall 24 (by omega))
        replace C25 := C25 (hall 25 (by omega))
        simp only [fill, List.setIfInBounds_toArray, List.set_cons_succ, List.set_cons_zero, C0, C1, C2, C3, C4, C5, C6, C7, C8, C9, C11, C12, C13, C14, C15, C16, C17, C18, C19, C20, C21, C22, C23, C24, C25]
        generalize u 14 = s0 at *
        clear C0 C1 C2 C3 C4 C5 C6 C7 C8 C9 C11 C12 C13 C14 C15 C16 C17 C18 C19 C20 C21 C22 C23 C24 C25 hu hall
      -- end inv
        go_wp2_with fail
        obtain ⟨pa, pcp, hpu, hps⟩ := C10
        subst hpu
        go_ret2
        exact ⟨by rw [HO.out]; exact ⟨_, _, rfl, hps⟩, E0⟩
end Go.Proofs.YtmflnffjhfejhaaGreatDoor
