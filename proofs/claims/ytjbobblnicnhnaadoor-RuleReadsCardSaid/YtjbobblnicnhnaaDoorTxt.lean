/-
  A rule's line: rule.ports, (Rule).Text; ref15.Dec, ref16.Text.
-/
import Derived.BigGuardPart
import Derived.RegionTactic
import Derived.Deep.DrawnRows
import Derived.Lib.Join
import Derived.Test.YtjbobblnicnhnaaDoorRows
import Derived.Test.YtjbobblnicnhnaaDoorRul
import Derived.Test.YtjbobblnicnhnaaDoorLbk
import Derived.Test.YtjbobblnicnhnaaDoorDcm
import Derived.Test.YtjbobblnicnhnaaDoorFew
import Derived.Test.YtjbobblnicnhnaaDoorKit
namespace Go.Proofs.YtjbobblnicnhnaaDoor
open Go.RowKit
set_option maxRecDepth 100000
attribute [local go_sem ↓] Go.wp_at_zero Go.wp_at_succ
set_option linter.unusedVariables false
set_option linter.unusedSimpArgs false

/-! ### Numerals -/
def digs : List UInt8 := [48, 49, 50, 51, 52, 53, 54, 55, 56, 57]
theorem digs_lit : (⟨#[48, 49, 50, 51, 52, 53, 54, 55, 56, 57]⟩ : ByteArray) = ⟨digs.toArray⟩ := rfl
theorem digs_len : digs.length = 10 := rfl
theorem bt_digs (r : Nat) (h : r < 10) : bt digs r = UInt8.ofNat (48 + r) := by
  have : ∀ r, r < 10 → bt digs r = UInt8.ofNat (48 + r) := by decide +kernel
  exact this r h
theorem dec_step (u : Nat) : Lib.decDigits u = (if u / 10 = 0 then [] else Lib.decDigits (u / 10)) ++ [UInt8.ofNat (48 + u % 10)] := by
  rw [Lib.decDigits]
  split
  · rename_i h
    rw [if_pos (by omega), Nat.mod_eq_of_lt h]; rfl
  · rename_i h
    rw [if_neg (by omega)]
theorem dec_len : ∀ (k u : Nat), u < 10 ^ k → 0 < k → (Lib.decDigits u).length ≤ k
  | 0, u, h, h0 => by omega
  | k + 1, u, h, _ => by
    rw [dec_step, List.length_append, List.length_singleton]
    split
    · simp
    · have h2 : u / 10 < 10 ^ k := by rw [Nat.pow_succ] at h; omega
      have h3 : 0 < k := by
        rcases Nat.eq_zero_or_pos k with h4 | h4
        · subst h4; simp at h2; omega
        · exact h4
      have := dec_len k _ h2 h3
      omega
theorem itoa_len (n : Int) (h1 : -9223372036854775808 ≤ n) (h2 : n ≤ 9223372036854775807) : (Lib.itoa n).length ≤ 1000 := by
  unfold Lib.itoa
  split
  · have := dec_len 20 n.natAbs (by omega) (by omega)
    simp; omega
  · have := dec_len 20 n.toNat (by omega) (by omega)
    omega
set_option maxHeartbeats 400000 in
theorem dec15_any (n : Nat) (hn : n ≤ 10000000000000000) (w : World) :
    Calls Tryd.prog 58 #[.int .u64 (n : Int)] w fun e w' => e = .returned (Str (Lib.decDigits n)) ∧ w' = w := by
  have hl := digs_lit; have hll := digs_len
  go_enter Tryd.func58, Tryd.ntmps58
  go_wp2
  go_loop [0, 3] (fun t s => ∃ (u : Nat) (x : List UInt8), u ≤ n ∧ t = .int .u64 u ∧ s = Str x ∧ Hid (Lib.decDigits n = Lib.decDigits u ++ x)) (fun t _ => (intOf t).toNat)
  case atStart => exact ⟨n, [], Nat.le_refl _, rfl, rfl, Lib.hid (by simp)⟩
  case round =>
    obtain ⟨u, x, hu, rfl, rfl, hd⟩ := hrel
    have hxl : x.length ≤ 17 := by have h1 := dec_len 17 n (by omega) (by omega); rw [hd.out, List.length_append] at h1; omega
    have HD := Lib.hid (dec_step u)
    obtain ⟨q, hq⟩ : ∃ q, u / 10 = q := ⟨_, rfl⟩
    obtain ⟨r, hr⟩ : ∃ r, u % 10 = r := ⟨_, rfl⟩
    rw [hq, hr] at HD
    have hr10 : r < 10 := by omega
    have e1 : (u : Int) % 10 = (r : Int) := by omega
    have e2 : (u : Int) / 10 = (q : Int) := by omega
    have hqu : q ≤ u := by omega
    have HB := Lib.hid (bt_digs r hr10)
    have hq3 : 0 < q → q < u := by omega
    have HQ3 := Lib.hid hq3
    clear hq hr hq3
    by_cases hq0 : q = 0
    · subst hq0
      have FIN := Lib.hid (show Lib.decDigits n = [UInt8.ofNat (48 + r)] ++ x by rw [hd.out, HD.out, if_pos rfl]; rfl)
      go_wp2
      go_ret
      exact ⟨by rw [FIN.out, cut_one _ _ (by omega), HB.out]; rfl, rfl⟩
    · have t1 : ((q : Int) == 0) = false := by simp; omega
      have FIN := Lib.hid (show Lib.decDigits n = Lib.decDigits q ++ (UInt8.ofNat (48 + r) :: x) by rw [hd.out, HD.out, if_neg hq0]; simp)
      go_wp2
      go_round
      case rel => exact ⟨q, UInt8.ofNat (48 + r) :: x, by omega, rfl, by rw [cut_one _ _ (by omega), HB.out]; rfl, FIN⟩
      case measure => have := HQ3.out (by omega); simp [intOf] <;> omega

/-! ### Lines -/
def portsL (r : Ru) : List UInt8 := if r.fr = 1 ∧ r.to = 65535 then [42] else if r.fr = r.to then Lib.itoa r.fr else Lib.itoa r.fr ++ [45] ++ Lib.itoa r.to
def verbL (b : Bool) : List UInt8 := if b then [97, 108, 108, 111, 119] else [100, 101, 110, 121]
def textR (r : Ru) : List UInt8 := verbL r.al ++ [32] ++ r.ro ++ [32] ++ r.te ++ [32] ++ r.ho ++ [32] ++ portsL r
theorem textR_join (r : Ru) : Lib.join [verbL r.al, r.ro, r.te, r.ho, portsL r] [32] = textR r := by
  simp [Lib.join, textR, List.intercalate, List.intersperse]
set_option maxHeartbeats 2000000 in
theorem ports_any (r : Ru) (h1 : I64 r.fr) (h2 : I64 r.to) (w : World) (hL : Lb w) :
    Calls Tryd.prog 57 #[ruV r] w fun e w' => e = .returned (Str (portsL r)) ∧ Ext w w' := by
  have HP := Lib.hid (show portsL r = if r.fr = 1 ∧ r.to = 65535 then [42] else if r.fr = r.to then Lib.itoa r.fr else Lib.itoa r.fr ++ [45] ++ Lib.itoa r.to from rfl)
  have HI1 := Lib.hid (fun W hW => itoa_any r.fr h1.1 h1.2 W hW)
  have HI2 := Lib.hid (fun W hW => itoa_any r.to h2.1 h2.2 W hW)
  obtain ⟨al, ro, te, ho, fr, to⟩ := r
  simp only at HP HI1 HI2 h1 h2 ⊢
  have hA := itoa_len fr h1.1 h1.2
  have hBl := itoa_len to h2.1 h2.2
  generalize Lib.itoa fr = A at *
  generalize Lib.itoa to = B at *
  have hb1 := h1.1; have hb2 := h1.2; have hb3 := h2.1; have hb4 := h2.2
  by_cases hs : fr = 1 ∧ to = 65535
  · have t1 : (fr == 1) = true := by simp [hs.1]
    have t2 : (to == 65535) = true := by simp [hs.2]
    rw [if_pos hs] at HP
    clear hs
    go_enter Tryd.func57, Tryd.ntmps57
    go_wp2_with fail
    obtain ⟨W1, hW1⟩ : ∃ W1, w.alloc (.cells #[.bool al, Str ro, Str te, Str ho, .int .i64 fr, .int .i64 to] 28) = W1 := ⟨_, rfl⟩
    have hx : Ext w W1 := by rw [← hW1]; exact Below.alloc (Below.refl _ _) (Nat.le_refl _) _
    rw [hW1]
    go_ret
    exact ⟨by rw [HP.out]; rfl, hx⟩
  · have hcase : (fr == 1) = false ∨ ((fr == 1) = true ∧ (to == 65535) = false) := by
      by_cases h : fr = 1
      · right; exact ⟨by simp [h], by simp; exact fun h2 => hs ⟨h, h2⟩⟩
      · left; simp [h]
    rw [if_neg hs] at HP
    clear hs
    by_cases h3 : fr = to
    · have t3 : (fr == to) = true := by simp [h3]
      rw [if_pos h3] at HP
      clear h3
      rcases hcase with t1 | ⟨t1, t2⟩
      all_goals
        go_enter Tryd.func57, Tryd.ntmps57
        go_wp2_with fail
        obtain ⟨W1, hW1⟩ : ∃ W1, w.alloc (.cells #[.bool al, Str ro, Str te, Str ho, .int .i64 fr, .int .i64 to] 28) = W1 := ⟨_, rfl⟩
        have hx : Ext w W1 := by rw [← hW1]; exact Below.alloc (Below.refl _ _) (Nat.le_refl _) _
        rw [hW1]
        refine (HI1.out _ (hL.ext hx)).mono ?_
        rintro e W2 ⟨he, hx2⟩
        subst he
        go_wp2
        go_ret
        exact ⟨by rw [HP.out]; rfl, ext_trans hx hx2⟩
    · have t3 : (fr == to) = false := by simp [h3]
      rw [if_neg h3] at HP
      clear h3
      rcases hcase with t1 | ⟨t1, t2⟩
      all_goals
        go_enter Tryd.func57, Tryd.ntmps57
        go_wp2_with fail
        obtain ⟨W1, hW1⟩ : ∃ W1, w.alloc (.cells #[.bool al, Str ro, Str te, Str ho, .int .i64 fr, .int .i64 to] 28) = W1 := ⟨_, rfl⟩
        have hx : Ext w W1 := by rw [← hW1]; exact Below.alloc (Below.refl _ _) (Nat.le_refl _) _
        have hc : W1.heap[w.heap.size]? = some (.cells #[.bool al, Str ro, Str te, Str ho, .int .i64 fr, .int .i64 to] 28 (0, 0)) := by rw [← hW1]; exact Array.getElem?_push_size
        rw [hW1]
        clear hW1
        -- inv {'ops':[('fa',21,1,'.pointer (some ⟨w.heap.size, 0, none⟩)','.pointer (some ⟨w.heap.size, 4, none⟩)'),('lf',22,0,'.int .i64 fr','obtain ⟨c0, c1, c2, c3, c4, c5⟩ := cells6 H1'),('call',23,[1],'HI1.out _ L1','Str A'),('op',24,[2],'Str (A ++ [45])'),('fa',25,1,'.pointer (some ⟨w.heap.size, 0, none⟩)','.pointer (some ⟨w.heap.size, 5, none⟩)'),('lf',26,4,'.int .i64 to','obtain ⟨c0, c1, c2, c3, c4, c5⟩ := cells6 H1'),('call',27,[5],'HI2.out _ L1','Str B'),('op',28,[3,6],'Str (A ++ 45 :: B)'),('op',2,[7],'Str (A ++ 45 :: B)')],'W':[('H1',"w'.heap[w.heap.size]? = some (.cells #[.bool al, Str ro, Str te, Str ho, .int .i64 fr, .int .i64 to] 28 (0, 0))",'hc'),('E1',"Ext w w'",'Below.drew hx'),('L1',"Lb w'",'hL.ext (Below.drew hx)')]}
        refine wp_region_any (by kernel_rfl) ?_
        change wpAny _ _ _ _ _ _ _ (World.drew _)
        refine wpAny_inv (n := 9) [21, 22, 23, 24, 25, 26, 27, 28, 2] (fun u L w' =>
            (L 0 = true → u 21 = .pointer (some ⟨w.heap.size, 4, none⟩)) ∧
            (L 1 = true → u 22 = .int .i64 fr) ∧
            (L 2 = true → u 23 = Str A) ∧
            (L 3 = true → u 24 = Str (A ++ [45])) ∧
            (L 4 = true → u 25 = .pointer (some ⟨w.heap.size, 5, none⟩)) ∧
            (L 5 = true → u 26 = .int .i64 to) ∧
            (L 6 = true → u 27 = Str B) ∧
            (L 7 = true → u 28 = Str (A ++ 45 :: B)) ∧
            (L 8 = true → u 2 = Str (A ++ 45 :: B)) ∧
            (w'.heap[w.heap.size]? = some (.cells #[.bool al, Str ro, Str te, Str ho, .int .i64 fr, .int .i64 to] 28 (0, 0))) ∧
            (Ext w w') ∧
            (Lb w'))
          (by rfl) (by kernel_rfl) (by kernel_rfl) (by rfl) ?_ ?_ ?_
        · exact ⟨(fun h => by cases h), (fun h => by cases h), (fun h => by cases h), (fun h => by cases h), (fun h => by cases h), (fun h => by cases h), (fun h => by cases h), (fun h => by cases h), (fun h => by cases h), hc, Below.drew hx, hL.ext (Below.drew hx)⟩
        · refine ⟨⟨⟨⟨⟨⟨⟨⟨⟨trivial, ?_⟩, ?_⟩, ?_⟩, ?_⟩, ?_⟩, ?_⟩, ?_⟩, ?_⟩, ?_⟩
          · refine stepOk_some (i := 0) (by rfl) (by rfl) ?_
            rintro u L T w' hT hu hL hp hcl ⟨C0, C1, C2, C3, C4, C5, C6, C7, C8, H1, E1, L1⟩ K hK
            have e1 : u 1 = .pointer (some ⟨w.heap.size, 0, none⟩) := hu 1 (by decide)
            go_simp
            refine hK _ _ ?_
            exact ⟨fun _ => rfl, fun h => C1 (by simpa using h), fun h => C2 (by simpa using h), fun h => C3 (by simpa using h), fun h => C4 (by simpa using h), fun h => C5 (by simpa using h), fun h => C6 (by simpa using h), fun h => C7 (by simpa using h), fun h => C8 (by simpa using h), H1, E1, L1⟩
          · refine stepOk_some (i := 1) (by rfl) (by rfl) ?_
            rintro u L T w' hT hu hL hp hcl ⟨C0, C1, C2, C3, C4, C5, C6, C7, C8, H1, E1, L1⟩ K hK
            have e0 := C0 (hp.of 0 (by kernel_rfl))
            obtain ⟨c0, c1, c2, c3, c4, c5⟩ := cells6 H1
            go_simp
            refine hK _ _ ?_
            exact ⟨fun h => C0 (by simpa using h), fun _ => rfl, fun h => C2 (by simpa using h), fun h => C3 (by simpa using h), fun h => C4 (by simpa using h), fun h => C5 (by simpa using h), fun h => C6 (by simpa using h), fun h => C7 (by simpa using h), fun h => C8 (by simpa using h), H1, E1, L1⟩
          · refine stepOk_some (i := 2) (by rfl) (by rfl) ?_
            rintro u L T w' hT hu hL hp hcl ⟨C0, C1, C2, C3, C4, C5, C6, C7, C8, H1, E1, L1⟩ K hK
            have e1 := C1 (hp.of 1 (by kernel_rfl))
            go_simp
            refine (HI1.out _ L1).mono ?_
            rintro e w1 ⟨he, hx1⟩
            subst he
            refine hK _ _ ?_
            exact ⟨fun h => C0 (by simpa using h), fun h => C1 (by simpa using h), fun _ => rfl, fun h => C3 (by simpa using h), fun h => C4 (by simpa using h), fun h => C5 (by simpa using h), fun h => C6 (by simpa using h), fun h => C7 (by simpa using h), fun h => C8 (by simpa using h), ext_at hx1 (H1), ext_trans (E1) hx1, (L1).ext hx1⟩
          · refine stepOk_some (i := 3) (by rfl) (by rfl) ?_
            rintro u L T w' hT hu hL hp hcl ⟨C0, C1, C2, C3, C4, C5, C6, C7, C8, H1, E1, L1⟩ K hK
            have e2 := C2 (hp.of 2 (by kernel_rfl))
            go_simp
            try go_bits
            try (rw [if_neg (by omega)]; go_simp)
            refine hK _ _ ?_
            exact ⟨fun h => C0 (by simpa using h), fun h => C1 (by simpa using h), fun h => C2 (by simpa using h), fun _ => rfl, fun h => C4 (by simpa using h), fun h => C5 (by simpa using h), fun h => C6 (by simpa using h), fun h => C7 (by simpa using h), fun h => C8 (by simpa using h), H1, E1, L1⟩
          · refine stepOk_some (i := 4) (by rfl) (by rfl) ?_
            rintro u L T w' hT hu hL hp hcl ⟨C0, C1, C2, C3, C4, C5, C6, C7, C8, H1, E1, L1⟩ K hK
            have e1 : u 1 = .pointer (some ⟨w.heap.size, 0, none⟩) := hu 1 (by decide)
            go_simp
            refine hK _ _ ?_
            exact ⟨fun h => C0 (by simpa using h), fun h => C1 (by simpa using h), fun h => C2 (by simpa using h), fun h => C3 (by simpa using h), fun _ => rfl, fun h => C5 (by simpa using h), fun h => C6 (by simpa using h), fun h => C7 (by simpa using h), fun h => C8 (by simpa using h), H1, E1, L1⟩
          · refine stepOk_some (i := 5) (by rfl) (by rfl) ?_
            rintro u L T w' hT hu hL hp hcl ⟨C0, C1, C2, C3, C4, C5, C6, C7, C8, H1, E1, L1⟩ K hK
            have e4 := C4 (hp.of 4 (by kernel_rfl))
            obtain ⟨c0, c1, c2, c3, c4, c5⟩ := cells6 H1
            go_simp
            refine hK _ _ ?_
            exact ⟨fun h => C0 (by simpa using h), fun h => C1 (by simpa using h), fun h => C2 (by simpa using h), fun h => C3 (by simpa using h), fun h => C4 (by simpa using h), fun _ => rfl, fun h => C6 (by simpa using h), fun h => C7 (by simpa using h), fun h => C8 (by simpa using h), H1, E1, L1⟩
          · refine stepOk_some (i := 6) (by rfl) (by rfl) ?_
            rintro u L T w' hT hu hL hp hcl ⟨C0, C1, C2, C3, C4, C5, C6, C7, C8, H1, E1, L1⟩ K hK
            have e5 := C5 (hp.of 5 (by kernel_rfl))
            go_simp
            refine (HI2.out _ L1).mono ?_
            rintro e w1 ⟨he, hx1⟩
            subst he
            refine hK _ _ ?_
            exact ⟨fun h => C0 (by simpa using h), fun h => C1 (by simpa using h), fun h => C2 (by simpa using h), fun h => C3 (by simpa using h), fun h => C4 (by simpa using h), fun h => C5 (by simpa using h), fun _ => rfl, fun h => C7 (by simpa using h), fun h => C8 (by simpa using h), ext_at hx1 (H1), ext_trans (E1) hx1, (L1).ext hx1⟩
          · refine stepOk_some (i := 7) (by rfl) (by rfl) ?_
            rintro u L T w' hT hu hL hp hcl ⟨C0, C1, C2, C3, C4, C5, C6, C7, C8, H1, E1, L1⟩ K hK
            have e3 := C3 (hp.of 3 (by kernel_rfl))
            have e6 := C6 (hp.of 6 (by kernel_rfl))
            go_simp
            try go_bits
            try (rw [if_neg (by omega)]; go_simp)
            refine hK _ _ ?_
            exact ⟨fun h => C0 (by simpa using h), fun h => C1 (by simpa using h), fun h => C2 (by simpa using h), fun h => C3 (by simpa using h), fun h => C4 (by simpa using h), fun h => C5 (by simpa using h), fun h => C6 (by simpa using h), fun _ => rfl, fun h => C8 (by simpa using h), H1, E1, L1⟩
          · refine stepOk_some (i := 8) (by rfl) (by rfl) ?_
            rintro u L T w' hT hu hL hp hcl ⟨C0, C1, C2, C3, C4, C5, C6, C7, C8, H1, E1, L1⟩ K hK
            have e7 := C7 (hp.of 7 (by kernel_rfl))
            go_simp
            try go_bits
            try (rw [if_neg (by omega)]; go_simp)
            refine hK _ _ ?_
            exact ⟨fun h => C0 (by simpa using h), fun h => C1 (by simpa using h), fun h => C2 (by simpa using h), fun h => C3 (by simpa using h), fun h => C4 (by simpa using h), fun h => C5 (by simpa using h), fun h => C6 (by simpa using h), fun h => C7 (by simpa using h), fun _ => rfl, H1, E1, L1⟩
        · rintro u L w' hall hu ⟨C0, C1, C2, C3, C4, C5, C6, C7, C8, H1, E1, L1⟩
          replace C0 := C0 (hall 0 (by omega))
          replace C1 := C1 (hall 1 (by omega))
          replace C2 := C2 (hall 2 (by omega))
          replace C3 := C3 (hall 3 (by omega))
          replace C4 := C4 (hall 4 (by omega))
          replace C5 := C5 (hall 5 (by omega))
          replace C6 := C6 (hall 6 (by omega))
          replace C7 := C7 (hall 7 (by omega))
          replace C8 := C8 (hall 8 (by omega))
          simp only [fill, List.setIfInBounds_toArray, List.set_cons_succ, List.set_cons_zero, C0, C1, C2, C3, C4, C5, C6, C7, C8]
          clear C0 C1 C2 C3 C4 C5 C6 C7 C8 hu hall
        -- end inv
          go_wp2
          go_ret
          exact ⟨by rw [HP.out]; simp [Str], E1⟩
theorem ruOk_b {r : Ru} (h : ruOk r = true) : 1 ≤ r.fr ∧ r.fr ≤ r.to ∧ r.to ≤ 65535 := by
  unfold ruOk at h
  simp only [Bool.and_eq_true, decide_eq_true_eq] at h
  exact h.2.2.2
theorem portsL_len (r : Ru) (h1 : I64 r.fr) (h2 : I64 r.to) : (portsL r).length ≤ 2001 := by
  have h3 := itoa_len r.fr h1.1 h1.2; have h4 := itoa_len r.to h2.1 h2.2
  unfold portsL
  split
  · simp
  · split
    · omega
    · simp; omega
theorem join5 (a b c d f tx : List UInt8) (hj : Lib.join [a, b, c, d, f] [32] = tx) (hl : tx.length ≤ 100000) (W : World) (g : Nat) (hg : W.heap[g]? = some (.cells #[Str a, Str b, Str c, Str d, Str f] 9 (0, 0))) :
    Calls Tryd.prog 56 #[.slice (some ⟨g, 0, none⟩) 5 5, Str [32]] W fun e w' => e = .returned (Str tx) ∧ Ext W w' := by
  have h := Tryd.strings_Join g 0 5 [⟨a.toArray⟩, ⟨b.toArray⟩, ⟨c.toArray⟩, ⟨d.toArray⟩, ⟨f.toArray⟩] ⟨#[32]⟩ W (fun j x hx => ?_) (Array.getElem?_eq_some_iff.1 hg).1 (by simp) (by simp) ?_
  · have e : Lib.join ([(⟨a.toArray⟩ : ByteArray), ⟨b.toArray⟩, ⟨c.toArray⟩, ⟨d.toArray⟩, ⟨f.toArray⟩].map (·.data.toList)) (⟨#[32]⟩ : ByteArray).data.toList = tx := hj
    rw [e] at h
    exact h
  · match j, hx with
    | 0, hx => simp at hx; subst hx; simp [World.cell?, hg]
    | 1, hx => simp at hx; subst hx; simp [World.cell?, hg]
    | 2, hx => simp at hx; subst hx; simp [World.cell?, hg]
    | 3, hx => simp at hx; subst hx; simp [World.cell?, hg]
    | 4, hx => simp at hx; subst hx; simp [World.cell?, hg]
    | n + 5, hx => simp at hx
  · have e : Lib.join ([(⟨a.toArray⟩ : ByteArray), ⟨b.toArray⟩, ⟨c.toArray⟩, ⟨d.toArray⟩, ⟨f.toArray⟩].map (·.data.toList)) (⟨#[32]⟩ : ByteArray).data.toList = tx := hj
    rw [e]; omega
set_option maxHeartbeats 2000000 in
theorem text_any (r : Ru) (hb : RuB r) (w : World) (hL : Lb w) :
    Calls Tryd.prog 33 #[ruV r] w fun e w' => (e = .returned (if ruOk r then .tuple #[Str (textR r), .int .i64 0] else .tuple #[Str [], .int .i64 4])) ∧ Ext w w' := by
  have HR := Lib.hid (fun W => right_any r hb W)
  have HPT := Lib.hid (fun W hW => ports_any r ⟨hb.f0, hb.f1⟩ ⟨hb.t0, hb.t1⟩ W hW)
  have HJ := Lib.hid (textR_join r)
  have hpl := portsL_len r ⟨hb.f0, hb.f1⟩ ⟨hb.t0, hb.t1⟩
  have h1 := hb.ro; have h2 := hb.te; have h3 := hb.ho
  have HTL : Hid ((textR r).length ≤ 100000) := Lib.hid (by unfold textR verbL; simp; split <;> simp <;> omega)
  obtain ⟨al, ro, te, ho, fr, to⟩ := r
  simp only at h1 h2 h3 HJ
  generalize portsL ⟨al, ro, te, ho, fr, to⟩ = pl at *
  generalize textR ⟨al, ro, te, ho, fr, to⟩ = tx at *
  generalize ruOk ⟨al, ro, te, ho, fr, to⟩ = ok at *
  go_enter Tryd.func33, Tryd.ntmps33
  go_wp2_with fail
  obtain ⟨W1, hW1⟩ : ∃ W1, w.alloc (.cells #[.bool al, Str ro, Str te, Str ho, .int .i64 fr, .int .i64 to] 28) = W1 := ⟨_, rfl⟩
  have hx : Ext w W1 := by rw [← hW1]; exact Below.alloc (Below.refl _ _) (Nat.le_refl _) _
  have hc : W1.heap[w.heap.size]? = some (.cells #[.bool al, Str ro, Str te, Str ho, .int .i64 fr, .int .i64 to] 28 (0, 0)) := by rw [← hW1]; exact Array.getElem?_push_size
  rw [hW1]
  refine (HR.out _).mono ?_
  rintro e W2 ⟨he, hx2⟩
  subst he
  have HX := Lib.hid (ext_trans hx hx2)
  have hc2 := (hx2.block _ (Array.getElem?_eq_some_iff.1 hc).1).trans hc
  have HC := Lib.hid hc2
  clear hc hx hx2 hW1 hc2
  cases ok with
  | false =>
    go_wp2
    go_ret2
    exact ⟨rfl, HX.out⟩
  | true =>
    obtain ⟨c0, c1, c2, c3, c4, c5⟩ := cells6 HC.out
    cases al
    · go_wp2_with fail
      clear c0 c1 c2 c3 c4 c5
      -- inv {'ops':[('mv',10,4,'Str (verbL false)'),('fa',11,1,'.pointer (some ⟨w.heap.size, 0, none⟩)','.pointer (some ⟨w.heap.size, 1, none⟩)'),('lf',12,1,'Str ro','obtain ⟨c0, c1, c2, c3, c4, c5⟩ := cells6 H1'),('fa',13,1,'.pointer (some ⟨w.heap.size, 0, none⟩)','.pointer (some ⟨w.heap.size, 2, none⟩)'),('lf',14,3,'Str te','obtain ⟨c0, c1, c2, c3, c4, c5⟩ := cells6 H1'),('fa',15,1,'.pointer (some ⟨w.heap.size, 0, none⟩)','.pointer (some ⟨w.heap.size, 3, none⟩)'),('lf',16,5,'Str ho','obtain ⟨c0, c1, c2, c3, c4, c5⟩ := cells6 H1'),('ld',17,1,'.pointer (some ⟨w.heap.size, 0, none⟩)','ruV ⟨false, ro, te, ho, fr, to⟩','obtain ⟨c0, c1, c2, c3, c4, c5⟩ := cells6 H1'),('call',18,[7],'HPT.out _ L1','Str pl'),('bs',19,[0,2,4,6,8],['Str (verbL false)','Str ro','Str te','Str ho','Str pl'],'9',10),('callb',20,9,[],"join5 (verbL false) ro te ho pl tx HJ.out HTL.out _ _ hg'",'Str tx'),('op',2,[10],'Str tx'),('cs',3,'.int .i64 0')],'W':[('H1',"w'.heap[w.heap.size]? = some (.cells #[.bool false, Str ro, Str te, Str ho, .int .i64 fr, .int .i64 to] 28 (0, 0))",'HC.out'),('E1',"Ext w w'",'Below.drew HX.out'),('L1',"Lb w'",'hL.ext (Below.drew HX.out)')]}
      refine wp_region_any (by kernel_rfl) ?_
      change wpAny _ _ _ _ _ _ _ (World.drew _)
      refine wpAny_inv (n := 13) [10, 11, 12, 13, 14, 15, 16, 17, 18, 19, 20, 2, 3] (fun u L w' =>
          (L 0 = true → u 10 = Str (verbL false)) ∧
          (L 1 = true → u 11 = .pointer (some ⟨w.heap.size, 1, none⟩)) ∧
          (L 2 = true → u 12 = Str ro) ∧
          (L 3 = true → u 13 = .pointer (some ⟨w.heap.size, 2, none⟩)) ∧
          (L 4 = true → u 14 = Str te) ∧
          (L 5 = true → u 15 = .pointer (some ⟨w.heap.size, 3, none⟩)) ∧
          (L 6 = true → u 16 = Str ho) ∧
          (L 7 = true → u 17 = ruV ⟨false, ro, te, ho, fr, to⟩) ∧
          (L 8 = true → u 18 = Str pl) ∧
          (L 9 = true → L 10 = false → ∃ g', u 19 = .slice (some ⟨g', 0, none⟩) 5 5 ∧ w'.heap[g']? = some (.cells #[Str (verbL false), Str ro, Str te, Str ho, Str pl] 9 (0, 0))) ∧
          (L 10 = true → u 20 = Str tx) ∧
          (L 11 = true → u 2 = Str tx) ∧
          (L 12 = true → u 3 = .int .i64 0) ∧
          (w'.heap[w.heap.size]? = some (.cells #[.bool false, Str ro, Str te, Str ho, .int .i64 fr, .int .i64 to] 28 (0, 0))) ∧
          (Ext w w') ∧
          (Lb w'))
        (by rfl) (by kernel_rfl) (by kernel_rfl) (by rfl) ?_ ?_ ?_
      · exact ⟨(fun h => by cases h), (fun h => by cases h), (fun h => by cases h), (fun h => by cases h), (fun h => by cases h), (fun h => by cases h), (fun h => by cases h), (fun h => by cases h), (fun h => by cases h), (fun h => by cases h), (fun h => by cases h), (fun h => by cases h), (fun h => by cases h), HC.out, Below.drew HX.out, hL.ext (Below.drew HX.out)⟩
      · refine ⟨⟨⟨⟨⟨⟨⟨⟨⟨⟨⟨⟨⟨trivial, ?_⟩, ?_⟩, ?_⟩, ?_⟩, ?_⟩, ?_⟩, ?_⟩, ?_⟩, ?_⟩, ?_⟩, ?_⟩, ?_⟩, ?_⟩
        · refine stepOk_some (i := 0) (by rfl) (by rfl) ?_
          rintro u L T w' hT hu hL hp hcl ⟨C0, C1, C2, C3, C4, C5, C6, C7, C8, C9, C10, C11, C12, H1, E1, L1⟩ K hK
          have e1 : u 4 = Str (verbL false) := hu 4 (by decide)
          go_simp
          refine hK _ _ ?_
          exact ⟨fun _ => rfl, fun h => C1 (by simpa using h), fun h => C2 (by simpa using h), fun h => C3 (by simpa using h), fun h => C4 (by simpa using h), fun h => C5 (by simpa using h), fun h => C6 (by simpa using h), fun h => C7 (by simpa using h), fun h => C8 (by simpa using h), fun h h2 => C9 (by simpa using h) (by simpa using h2), fun h => C10 (by simpa using h), fun h => C11 (by simpa using h), fun h => C12 (by simpa using h), H1, E1, L1⟩
        · refine stepOk_some (i := 1) (by rfl) (by rfl) ?_
          rintro u L T w' hT hu hL hp hcl ⟨C0, C1, C2, C3, C4, C5, C6, C7, C8, C9, C10, C11, C12, H1, E1, L1⟩ K hK
          have e1 : u 1 = .pointer (some ⟨w.heap.size, 0, none⟩) := hu 1 (by decide)
          go_simp
          refine hK _ _ ?_
          exact ⟨fun h => C0 (by simpa using h), fun _ => rfl, fun h => C2 (by simpa using h), fun h => C3 (by simpa using h), fun h => C4 (by simpa using h), fun h => C5 (by simpa using h), fun h => C6 (by simpa using h), fun h => C7 (by simpa using h), fun h => C8 (by simpa using h), fun h h2 => C9 (by simpa using h) (by simpa using h2), fun h => C10 (by simpa using h), fun h => C11 (by simpa using h), fun h => C12 (by simpa using h), H1, E1, L1⟩
        · refine stepOk_some (i := 2) (by rfl) (by rfl) ?_
          rintro u L T w' hT hu hL hp hcl ⟨C0, C1, C2, C3, C4, C5, C6, C7, C8, C9, C10, C11, C12, H1, E1, L1⟩ K hK
          have e1 := C1 (hp.of 1 (by kernel_rfl))
          obtain ⟨c0, c1, c2, c3, c4, c5⟩ := cells6 H1
          go_simp
          refine hK _ _ ?_
          exact ⟨fun h => C0 (by simpa using h), fun h => C1 (by simpa using h), fun _ => rfl, fun h => C3 (by simpa using h), fun h => C4 (by simpa using h), fun h => C5 (by simpa using h), fun h => C6 (by simpa using h), fun h => C7 (by simpa using h), fun h => C8 (by simpa using h), fun h h2 => C9 (by simpa using h) (by simpa using h2), fun h => C10 (by simpa using h), fun h => C11 (by simpa using h), fun h => C12 (by simpa using h), H1, E1, L1⟩
        · refine stepOk_some (i := 3) (by rfl) (by rfl) ?_
          rintro u L T w' hT hu hL hp hcl ⟨C0, C1, C2, C3, C4, C5, C6, C7, C8, C9, C10, C11, C12, H1, E1, L1⟩ K hK
          have e1 : u 1 = .pointer (some ⟨w.heap.size, 0, none⟩) := hu 1 (by decide)
          go_simp
          refine hK _ _ ?_
          exact ⟨fun h => C0 (by simpa using h), fun h => C1 (by simpa using h), fun h => C2 (by simpa using h), fun _ => rfl, fun h => C4 (by simpa using h), fun h => C5 (by simpa using h), fun h => C6 (by simpa using h), fun h => C7 (by simpa using h), fun h => C8 (by simpa using h), fun h h2 => C9 (by simpa using h) (by simpa using h2), fun h => C10 (by simpa using h), fun h => C11 (by simpa using h), fun h => C12 (by simpa using h), H1, E1, L1⟩
        · refine stepOk_some (i := 4) (by rfl) (by rfl) ?_
          rintro u L T w' hT hu hL hp hcl ⟨C0, C1, C2, C3, C4, C5, C6, C7, C8, C9, C10, C11, C12, H1, E1, L1⟩ K hK
          have e3 := C3 (hp.of 3 (by kernel_rfl))
          obtain ⟨c0, c1, c2, c3, c4, c5⟩ := cells6 H1
          go_simp
          refine hK _ _ ?_
          exact ⟨fun h => C0 (by simpa using h), fun h => C1 (by simpa using h), fun h => C2 (by simpa using h), fun h => C3 (by simpa using h), fun _ => rfl, fun h => C5 (by simpa using h), fun h => C6 (by simpa using h), fun h => C7 (by simpa using h), fun h => C8 (by simpa using h), fun h h2 => C9 (by simpa using h) (by simpa using h2), fun h => C10 (by simpa using h), fun h => C11 (by simpa using h), fun h => C12 (by simpa using h), H1, E1, L1⟩
        · refine stepOk_some (i := 5) (by rfl) (by rfl) ?_
          rintro u L T w' hT hu hL hp hcl ⟨C0, C1, C2, C3, C4, C5, C6, C7, C8, C9, C10, C11, C12, H1, E1, L1⟩ K hK
          have e1 : u 1 = .pointer (some ⟨w.heap.size, 0, none⟩) := hu 1 (by decide)
          go_simp
          refine hK _ _ ?_
          exact ⟨fun h => C0 (by simpa using h), fun h => C1 (by simpa using h), fun h => C2 (by simpa using h), fun h => C3 (by simpa using h), fun h => C4 (by simpa using h), fun _ => rfl, fun h => C6 (by simpa using h), fun h => C7 (by simpa using h), fun h => C8 (by simpa using h), fun h h2 => C9 (by simpa using h) (by simpa using h2), fun h => C10 (by simpa using h), fun h => C11 (by simpa using h), fun h => C12 (by simpa using h), H1, E1, L1⟩
        · refine stepOk_some (i := 6) (by rfl) (by rfl) ?_
          rintro u L T w' hT hu hL hp hcl ⟨C0, C1, C2, C3, C4, C5, C6, C7, C8, C9, C10, C11, C12, H1, E1, L1⟩ K hK
          have e5 := C5 (hp.of 5 (by kernel_rfl))
          obtain ⟨c0, c1, c2, c3, c4, c5⟩ := cells6 H1
          go_simp
          refine hK _ _ ?_
          exact ⟨fun h => C0 (by simpa using h), fun h => C1 (by simpa using h), fun h => C2 (by simpa using h), fun h => C3 (by simpa using h), fun h => C4 (by simpa using h), fun h => C5 (by simpa using h), fun _ => rfl, fun h => C7 (by simpa using h), fun h => C8 (by simpa using h), fun h h2 => C9 (by simpa using h) (by simpa using h2), fun h => C10 (by simpa using h), fun h => C11 (by simpa using h), fun h => C12 (by simpa using h), H1, E1, L1⟩
        · refine stepOk_some (i := 7) (by rfl) (by rfl) ?_
          rintro u L T w' hT hu hL hp hcl ⟨C0, C1, C2, C3, C4, C5, C6, C7, C8, C9, C10, C11, C12, H1, E1, L1⟩ K hK
          have e1 : u 1 = .pointer (some ⟨w.heap.size, 0, none⟩) := hu 1 (by decide)
          obtain ⟨c0, c1, c2, c3, c4, c5⟩ := cells6 H1
          go_simp
          refine hK _ _ ?_
          exact ⟨fun h => C0 (by simpa using h), fun h => C1 (by simpa using h), fun h => C2 (by simpa using h), fun h => C3 (by simpa using h), fun h => C4 (by simpa using h), fun h => C5 (by simpa using h), fun h => C6 (by simpa using h), fun _ => rfl, fun h => C8 (by simpa using h), fun h h2 => C9 (by simpa using h) (by simpa using h2), fun h => C10 (by simpa using h), fun h => C11 (by simpa using h), fun h => C12 (by simpa using h), H1, E1, L1⟩
        · refine stepOk_some (i := 8) (by rfl) (by rfl) ?_
          rintro u L T w' hT hu hL hp hcl ⟨C0, C1, C2, C3, C4, C5, C6, C7, C8, C9, C10, C11, C12, H1, E1, L1⟩ K hK
          have e7 := C7 (hp.of 7 (by kernel_rfl))
          go_simp
          refine (HPT.out _ L1).mono ?_
          rintro e w1 ⟨he, hx1⟩
          subst he
          refine hK _ _ ?_
          exact ⟨fun h => C0 (by simpa using h), fun h => C1 (by simpa using h), fun h => C2 (by simpa using h), fun h => C3 (by simpa using h), fun h => C4 (by simpa using h), fun h => C5 (by simpa using h), fun h => C6 (by simpa using h), fun h => C7 (by simpa using h), fun _ => rfl, fun h h2 => by obtain ⟨g2, q1, q2⟩ := C9 (by simpa using h) (by simpa using h2); exact ⟨g2, q1, ext_at hx1 q2⟩, fun h => C10 (by simpa using h), fun h => C11 (by simpa using h), fun h => C12 (by simpa using h), ext_at hx1 (H1), ext_trans (E1) hx1, (L1).ext hx1⟩
        · refine stepOk_some (i := 9) (by rfl) (by rfl) ?_
          rintro u L T w' hT hu hL hp hcl ⟨C0, C1, C2, C3, C4, C5, C6, C7, C8, C9, C10, C11, C12, H1, E1, L1⟩ K hK
          have e0 := C0 (hp.of 0 (by kernel_rfl))
          have e2 := C2 (hp.of 2 (by kernel_rfl))
          have e4 := C4 (hp.of 4 (by kernel_rfl))
          have e6 := C6 (hp.of 6 (by kernel_rfl))
          have e8 := C8 (hp.of 8 (by kernel_rfl))
          go_simp
          have hx1 : Ext w' (w'.alloc (.cells #[Str (verbL false), Str ro, Str te, Str ho, Str pl] 9)) := Below.alloc (Below.refl _ _) (Nat.le_refl _) _
          refine hK _ _ ?_
          exact ⟨fun h => C0 (by simpa using h), fun h => C1 (by simpa using h), fun h => C2 (by simpa using h), fun h => C3 (by simpa using h), fun h => C4 (by simpa using h), fun h => C5 (by simpa using h), fun h => C6 (by simpa using h), fun h => C7 (by simpa using h), fun h => C8 (by simpa using h), fun _ _ => ⟨_, rfl, Array.getElem?_push_size⟩, fun h => C10 (by simpa using h), fun h => C11 (by simpa using h), fun h => C12 (by simpa using h), ext_at hx1 (H1), ext_trans (E1) hx1, (L1).ext hx1⟩
        · refine stepOk_some (i := 10) (by rfl) (by rfl) ?_
          rintro u L T w' hT hu hL hp hcl ⟨C0, C1, C2, C3, C4, C5, C6, C7, C8, C9, C10, C11, C12, H1, E1, L1⟩ K hK
          obtain ⟨g', e9, hg'⟩ := C9 (hp.of 9 (by kernel_rfl)) hL
          go_simp
          refine (join5 (verbL false) ro te ho pl tx HJ.out HTL.out _ _ hg').mono ?_
          rintro e w1 ⟨he, hx1⟩
          subst he
          refine hK _ _ ?_
          exact ⟨fun h => C0 (by simpa using h), fun h => C1 (by simpa using h), fun h => C2 (by simpa using h), fun h => C3 (by simpa using h), fun h => C4 (by simpa using h), fun h => C5 (by simpa using h), fun h => C6 (by simpa using h), fun h => C7 (by simpa using h), fun h => C8 (by simpa using h), fun h h2 => absurd h2 (by simp), fun _ => rfl, fun h => C11 (by simpa using h), fun h => C12 (by simpa using h), ext_at hx1 (H1), ext_trans (E1) hx1, (L1).ext hx1⟩
        · refine stepOk_some (i := 11) (by rfl) (by rfl) ?_
          rintro u L T w' hT hu hL hp hcl ⟨C0, C1, C2, C3, C4, C5, C6, C7, C8, C9, C10, C11, C12, H1, E1, L1⟩ K hK
          have e10 := C10 (hp.of 10 (by kernel_rfl))
          go_simp
          try go_bits
          try (rw [if_neg (by omega)]; go_simp)
          refine hK _ _ ?_
          exact ⟨fun h => C0 (by simpa using h), fun h => C1 (by simpa using h), fun h => C2 (by simpa using h), fun h => C3 (by simpa using h), fun h => C4 (by simpa using h), fun h => C5 (by simpa using h), fun h => C6 (by simpa using h), fun h => C7 (by simpa using h), fun h => C8 (by simpa using h), fun h h2 => C9 (by simpa using h) (by simpa using h2), fun h => C10 (by simpa using h), fun _ => rfl, fun h => C12 (by simpa using h), H1, E1, L1⟩
        · refine stepOk_some (i := 12) (by rfl) (by rfl) ?_
          rintro u L T w' hT hu hL hp hcl ⟨C0, C1, C2, C3, C4, C5, C6, C7, C8, C9, C10, C11, C12, H1, E1, L1⟩ K hK
          go_simp
          refine hK _ _ ?_
          exact ⟨fun h => C0 (by simpa using h), fun h => C1 (by simpa using h), fun h => C2 (by simpa using h), fun h => C3 (by simpa using h), fun h => C4 (by simpa using h), fun h => C5 (by simpa using h), fun h => C6 (by simpa using h), fun h => C7 (by simpa using h), fun h => C8 (by simpa using h), fun h h2 => C9 (by simpa using h) (by simpa using h2), fun h => C10 (by simpa using h), fun h => C11 (by simpa using h), fun _ => rfl, H1, E1, L1⟩
      · rintro u L w' hall hu ⟨C0, C1, C2, C3, C4, C5, C6, C7, C8, C9, C10, C11, C12, H1, E1, L1⟩
        replace C0 := C0 (hall 0 (by omega))
        replace C1 := C1 (hall 1 (by omega))
        replace C2 := C2 (hall 2 (by omega))
        replace C3 := C3 (hall 3 (by omega))
        replace C4 := C4 (hall 4 (by omega))
        replace C5 := C5 (hall 5 (by omega))
        replace C6 := C6 (hall 6 (by omega))
        replace C7 := C7 (hall 7 (by omega))
        replace C8 := C8 (hall 8 (by omega))
        replace C10 := C10 (hall 10 (by omega))
        replace C11 := C11 (hall 11 (by omega))
        replace C12 := C12 (hall 12 (by omega))
        simp only [fill, List.setIfInBounds_toArray, List.set_cons_succ, List.set_cons_zero, C0, C1, C2, C3, C4, C5, C6, C7, C8, C10, C11, C12]
        generalize u 19 = s0 at *
        clear C0 C1 C2 C3 C4 C5 C6 C7 C8 C9 C10 C11 C12 hu hall
      -- end inv
        go_wp2
        go_ret2
        exact ⟨rfl, E1⟩
    · go_wp2_with fail
      clear c0 c1 c2 c3 c4 c5
      -- inv {'ops':[('mv',10,4,'Str (verbL true)'),('fa',11,1,'.pointer (some ⟨w.heap.size, 0, none⟩)','.pointer (some ⟨w.heap.size, 1, none⟩)'),('lf',12,1,'Str ro','obtain ⟨c0, c1, c2, c3, c4, c5⟩ := cells6 H1'),('fa',13,1,'.pointer (some ⟨w.heap.size, 0, none⟩)','.pointer (some ⟨w.heap.size, 2, none⟩)'),('lf',14,3,'Str te','obtain ⟨c0, c1, c2, c3, c4, c5⟩ := cells6 H1'),('fa',15,1,'.pointer (some ⟨w.heap.size, 0, none⟩)','.pointer (some ⟨w.heap.size, 3, none⟩)'),('lf',16,5,'Str ho','obtain ⟨c0, c1, c2, c3, c4, c5⟩ := cells6 H1'),('ld',17,1,'.pointer (some ⟨w.heap.size, 0, none⟩)','ruV ⟨true, ro, te, ho, fr, to⟩','obtain ⟨c0, c1, c2, c3, c4, c5⟩ := cells6 H1'),('call',18,[7],'HPT.out _ L1','Str pl'),('bs',19,[0,2,4,6,8],['Str (verbL true)','Str ro','Str te','Str ho','Str pl'],'9',10),('callb',20,9,[],"join5 (verbL true) ro te ho pl tx HJ.out HTL.out _ _ hg'",'Str tx'),('op',2,[10],'Str tx'),('cs',3,'.int .i64 0')],'W':[('H1',"w'.heap[w.heap.size]? = some (.cells #[.bool true, Str ro, Str te, Str ho, .int .i64 fr, .int .i64 to] 28 (0, 0))",'HC.out'),('E1',"Ext w w'",'Below.drew HX.out'),('L1',"Lb w'",'hL.ext (Below.drew HX.out)')]}
      refine wp_region_any (by kernel_rfl) ?_
      change wpAny _ _ _ _ _ _ _ (World.drew _)
      refine wpAny_inv (n := 13) [10, 11, 12, 13, 14, 15, 16, 17, 18, 19, 20, 2, 3] (fun u L w' =>
          (L 0 = true → u 10 = Str (verbL true)) ∧
          (L 1 = true → u 11 = .pointer (some ⟨w.heap.size, 1, none⟩)) ∧
          (L 2 = true → u 12 = Str ro) ∧
          (L 3 = true → u 13 = .pointer (some ⟨w.heap.size, 2, none⟩)) ∧
          (L 4 = true → u 14 = Str te) ∧
          (L 5 = true → u 15 = .pointer (some ⟨w.heap.size, 3, none⟩)) ∧
          (L 6 = true → u 16 = Str ho) ∧
          (L 7 = true → u 17 = ruV ⟨true, ro, te, ho, fr, to⟩) ∧
          (L 8 = true → u 18 = Str pl) ∧
          (L 9 = true → L 10 = false → ∃ g', u 19 = .slice (some ⟨g', 0, none⟩) 5 5 ∧ w'.heap[g']? = some (.cells #[Str (verbL true), Str ro, Str te, Str ho, Str pl] 9 (0, 0))) ∧
          (L 10 = true → u 20 = Str tx) ∧
          (L 11 = true → u 2 = Str tx) ∧
          (L 12 = true → u 3 = .int .i64 0) ∧
          (w'.heap[w.heap.size]? = some (.cells #[.bool true, Str ro, Str te, Str ho, .int .i64 fr, .int .i64 to] 28 (0, 0))) ∧
          (Ext w w') ∧
          (Lb w'))
        (by rfl) (by kernel_rfl) (by kernel_rfl) (by rfl) ?_ ?_ ?_
      · exact ⟨(fun h => by cases h), (fun h => by cases h), (fun h => by cases h), (fun h => by cases h), (fun h => by cases h), (fun h => by cases h), (fun h => by cases h), (fun h => by cases h), (fun h => by cases h), (fun h => by cases h), (fun h => by cases h), (fun h => by cases h), (fun h => by cases h), HC.out, Below.drew HX.out, hL.ext (Below.drew HX.out)⟩
      · refine ⟨⟨⟨⟨⟨⟨⟨⟨⟨⟨⟨⟨⟨trivial, ?_⟩, ?_⟩, ?_⟩, ?_⟩, ?_⟩, ?_⟩, ?_⟩, ?_⟩, ?_⟩, ?_⟩, ?_⟩, ?_⟩, ?_⟩
        · refine stepOk_some (i := 0) (by rfl) (by rfl) ?_
          rintro u L T w' hT hu hL hp hcl ⟨C0, C1, C2, C3, C4, C5, C6, C7, C8, C9, C10, C11, C12, H1, E1, L1⟩ K hK
          have e1 : u 4 = Str (verbL true) := hu 4 (by decide)
          go_simp
          refine hK _ _ ?_
          exact ⟨fun _ => rfl, fun h => C1 (by simpa using h), fun h => C2 (by simpa using h), fun h => C3 (by simpa using h), fun h => C4 (by simpa using h), fun h => C5 (by simpa using h), fun h => C6 (by simpa using h), fun h => C7 (by simpa using h), fun h => C8 (by simpa using h), fun h h2 => C9 (by simpa using h) (by simpa using h2), fun h => C10 (by simpa using h), fun h => C11 (by simpa using h), fun h => C12 (by simpa using h), H1, E1, L1⟩
        · refine stepOk_some (i := 1) (by rfl) (by rfl) ?_
          rintro u L T w' hT hu hL hp hcl ⟨C0, C1, C2, C3, C4, C5, C6, C7, C8, C9, C10, C11, C12, H1, E1, L1⟩ K hK
          have e1 : u 1 = .pointer (some ⟨w.heap.size, 0, none⟩) := hu 1 (by decide)
          go_simp
          refine hK _ _ ?_
          exact ⟨fun h => C0 (by simpa using h), fun _ => rfl, fun h => C2 (by simpa using h), fun h => C3 (by simpa using h), fun h => C4 (by simpa using h), fun h => C5 (by simpa using h), fun h => C6 (by simpa using h), fun h => C7 (by simpa using h), fun h => C8 (by simpa using h), fun h h2 => C9 (by simpa using h) (by simpa using h2), fun h => C10 (by simpa using h), fun h => C11 (by simpa using h), fun h => C12 (by simpa using h), H1, E1, L1⟩
        · refine stepOk_some (i := 2) (by rfl) (by rfl) ?_
          rintro u L T w' hT hu hL hp hcl ⟨C0, C1, C2, C3, C4, C5, C6, C7, C8, C9, C10, C11, C12, H1, E1, L1⟩ K hK
          have e1 := C1 (hp.of 1 (by kernel_rfl))
          obtain ⟨c0, c1, c2, c3, c4, c5⟩ := cells6 H1
          go_simp
          refine hK _ _ ?_
          exact ⟨fun h => C0 (by simpa using h), fun h => C1 (by simpa using h), fun _ => rfl, fun h => C3 (by simpa using h), fun h => C4 (by simpa using h), fun h => C5 (by simpa using h), fun h => C6 (by simpa using h), fun h => C7 (by simpa using h), fun h => C8 (by simpa using h), fun h h2 => C9 (by simpa using h) (by simpa using h2), fun h => C10 (by simpa using h), fun h => C11 (by simpa using h), fun h => C12 (by simpa using h), H1, E1, L1⟩
        · refine stepOk_some (i := 3) (by rfl) (by rfl) ?_
          rintro u L T w' hT hu hL hp hcl ⟨C0, C1, C2, C3, C4, C5, C6, C7, C8, C9, C10, C11, C12, H1, E1, L1⟩ K hK
          have e1 : u 1 = .pointer (some ⟨w.heap.size, 0, none⟩) := hu 1 (by decide)
          go_simp
          refine hK _ _ ?_
          exact ⟨fun h => C0 (by simpa using h), fun h => C1 (by simpa using h), fun h => C2 (by simpa using h), fun _ => rfl, fun h => C4 (by simpa using h), fun h => C5 (by simpa using h), fun h => C6 (by simpa using h), fun h => C7 (by simpa using h), fun h => C8 (by simpa using h), fun h h2 => C9 (by simpa using h) (by simpa using h2), fun h => C10 (by simpa using h), fun h => C11 (by simpa using h), fun h => C12 (by simpa using h), H1, E1, L1⟩
        · refine stepOk_some (i := 4) (by rfl) (by rfl) ?_
          rintro u L T w' hT hu hL hp hcl ⟨C0, C1, C2, C3, C4, C5, C6, C7, C8, C9, C10, C11, C12, H1, E1, L1⟩ K hK
          have e3 := C3 (hp.of 3 (by kernel_rfl))
          obtain ⟨c0, c1, c2, c3, c4, c5⟩ := cells6 H1
          go_simp
          refine hK _ _ ?_
          exact ⟨fun h => C0 (by simpa using h), fun h => C1 (by simpa using h), fun h => C2 (by simpa using h), fun h => C3 (by simpa using h), fun _ => rfl, fun h => C5 (by simpa using h), fun h => C6 (by simpa using h), fun h => C7 (by simpa using h), fun h => C8 (by simpa using h), fun h h2 => C9 (by simpa using h) (by simpa using h2), fun h => C10 (by simpa using h), fun h => C11 (by simpa using h), fun h => C12 (by simpa using h), H1, E1, L1⟩
        · refine stepOk_some (i := 5) (by rfl) (by rfl) ?_
          rintro u L T w' hT hu hL hp hcl ⟨C0, C1, C2, C3, C4, C5, C6, C7, C8, C9, C10, C11, C12, H1, E1, L1⟩ K hK
          have e1 : u 1 = .pointer (some ⟨w.heap.size, 0, none⟩) := hu 1 (by decide)
          go_simp
          refine hK _ _ ?_
          exact ⟨fun h => C0 (by simpa using h), fun h => C1 (by simpa using h), fun h => C2 (by simpa using h), fun h => C3 (by simpa using h), fun h => C4 (by simpa using h), fun _ => rfl, fun h => C6 (by simpa using h), fun h => C7 (by simpa using h), fun h => C8 (by simpa using h), fun h h2 => C9 (by simpa using h) (by simpa using h2), fun h => C10 (by simpa using h), fun h => C11 (by simpa using h), fun h => C12 (by simpa using h), H1, E1, L1⟩
        · refine stepOk_some (i := 6) (by rfl) (by rfl) ?_
          rintro u L T w' hT hu hL hp hcl ⟨C0, C1, C2, C3, C4, C5, C6, C7, C8, C9, C10, C11, C12, H1, E1, L1⟩ K hK
          have e5 := C5 (hp.of 5 (by kernel_rfl))
          obtain ⟨c0, c1, c2, c3, c4, c5⟩ := cells6 H1
          go_simp
          refine hK _ _ ?_
          exact ⟨fun h => C0 (by simpa using h), fun h => C1 (by simpa using h), fun h => C2 (by simpa using h), fun h => C3 (by simpa using h), fun h => C4 (by simpa using h), fun h => C5 (by simpa using h), fun _ => rfl, fun h => C7 (by simpa using h), fun h => C8 (by simpa using h), fun h h2 => C9 (by simpa using h) (by simpa using h2), fun h => C10 (by simpa using h), fun h => C11 (by simpa using h), fun h => C12 (by simpa using h), H1, E1, L1⟩
        · refine stepOk_some (i := 7) (by rfl) (by rfl) ?_
          rintro u L T w' hT hu hL hp hcl ⟨C0, C1, C2, C3, C4, C5, C6, C7, C8, C9, C10, C11, C12, H1, E1, L1⟩ K hK
          have e1 : u 1 = .pointer (some ⟨w.heap.size, 0, none⟩) := hu 1 (by decide)
          obtain ⟨c0, c1, c2, c3, c4, c5⟩ := cells6 H1
          go_simp
          refine hK _ _ ?_
          exact ⟨fun h => C0 (by simpa using h), fun h => C1 (by simpa using h), fun h => C2 (by simpa using h), fun h => C3 (by simpa using h), fun h => C4 (by simpa using h), fun h => C5 (by simpa using h), fun h => C6 (by simpa using h), fun _ => rfl, fun h => C8 (by simpa using h), fun h h2 => C9 (by simpa using h) (by simpa using h2), fun h => C10 (by simpa using h), fun h => C11 (by simpa using h), fun h => C12 (by simpa using h), H1, E1, L1⟩
        · refine stepOk_some (i := 8) (by rfl) (by rfl) ?_
          rintro u L T w' hT hu hL hp hcl ⟨C0, C1, C2, C3, C4, C5, C6, C7, C8, C9, C10, C11, C12, H1, E1, L1⟩ K hK
          have e7 := C7 (hp.of 7 (by kernel_rfl))
          go_simp
          refine (HPT.out _ L1).mono ?_
          rintro e w1 ⟨he, hx1⟩
          subst he
          refine hK _ _ ?_
          exact ⟨fun h => C0 (by simpa using h), fun h => C1 (by simpa using h), fun h => C2 (by simpa using h), fun h => C3 (by simpa using h), fun h => C4 (by simpa using h), fun h => C5 (by simpa using h), fun h => C6 (by simpa using h), fun h => C7 (by simpa using h), fun _ => rfl, fun h h2 => by obtain ⟨g2, q1, q2⟩ := C9 (by simpa using h) (by simpa using h2); exact ⟨g2, q1, ext_at hx1 q2⟩, fun h => C10 (by simpa using h), fun h => C11 (by simpa using h), fun h => C12 (by simpa using h), ext_at hx1 (H1), ext_trans (E1) hx1, (L1).ext hx1⟩
        · refine stepOk_some (i := 9) (by rfl) (by rfl) ?_
          rintro u L T w' hT hu hL hp hcl ⟨C0, C1, C2, C3, C4, C5, C6, C7, C8, C9, C10, C11, C12, H1, E1, L1⟩ K hK
          have e0 := C0 (hp.of 0 (by kernel_rfl))
          have e2 := C2 (hp.of 2 (by kernel_rfl))
          have e4 := C4 (hp.of 4 (by kernel_rfl))
          have e6 := C6 (hp.of 6 (by kernel_rfl))
          have e8 := C8 (hp.of 8 (by kernel_rfl))
          go_simp
          have hx1 : Ext w' (w'.alloc (.cells #[Str (verbL true), Str ro, Str te, Str ho, Str pl] 9)) := Below.alloc (Below.refl _ _) (Nat.le_refl _) _
          refine hK _ _ ?_
          exact ⟨fun h => C0 (by simpa using h), fun h => C1 (by simpa using h), fun h => C2 (by simpa using h), fun h => C3 (by simpa using h), fun h => C4 (by simpa using h), fun h => C5 (by simpa using h), fun h => C6 (by simpa using h), fun h => C7 (by simpa using h), fun h => C8 (by simpa using h), fun _ _ => ⟨_, rfl, Array.getElem?_push_size⟩, fun h => C10 (by simpa using h), fun h => C11 (by simpa using h), fun h => C12 (by simpa using h), ext_at hx1 (H1), ext_trans (E1) hx1, (L1).ext hx1⟩
        · refine stepOk_some (i := 10) (by rfl) (by rfl) ?_
          rintro u L T w' hT hu hL hp hcl ⟨C0, C1, C2, C3, C4, C5, C6, C7, C8, C9, C10, C11, C12, H1, E1, L1⟩ K hK
          obtain ⟨g', e9, hg'⟩ := C9 (hp.of 9 (by kernel_rfl)) hL
          go_simp
          refine (join5 (verbL true) ro te ho pl tx HJ.out HTL.out _ _ hg').mono ?_
          rintro e w1 ⟨he, hx1⟩
          subst he
          refine hK _ _ ?_
          exact ⟨fun h => C0 (by simpa using h), fun h => C1 (by simpa using h), fun h => C2 (by simpa using h), fun h => C3 (by simpa using h), fun h => C4 (by simpa using h), fun h => C5 (by simpa using h), fun h => C6 (by simpa using h), fun h => C7 (by simpa using h), fun h => C8 (by simpa using h), fun h h2 => absurd h2 (by simp), fun _ => rfl, fun h => C11 (by simpa using h), fun h => C12 (by simpa using h), ext_at hx1 (H1), ext_trans (E1) hx1, (L1).ext hx1⟩
        · refine stepOk_some (i := 11) (by rfl) (by rfl) ?_
          rintro u L T w' hT hu hL hp hcl ⟨C0, C1, C2, C3, C4, C5, C6, C7, C8, C9, C10, C11, C12, H1, E1, L1⟩ K hK
          have e10 := C10 (hp.of 10 (by kernel_rfl))
          go_simp
          try go_bits
          try (rw [if_neg (by omega)]; go_simp)
          refine hK _ _ ?_
          exact ⟨fun h => C0 (by simpa using h), fun h => C1 (by simpa using h), fun h => C2 (by simpa using h), fun h => C3 (by simpa using h), fun h => C4 (by simpa using h), fun h => C5 (by simpa using h), fun h => C6 (by simpa using h), fun h => C7 (by simpa using h), fun h => C8 (by simpa using h), fun h h2 => C9 (by simpa using h) (by simpa using h2), fun h => C10 (by simpa using h), fun _ => rfl, fun h => C12 (by simpa using h), H1, E1, L1⟩
        · refine stepOk_some (i := 12) (by rfl) (by rfl) ?_
          rintro u L T w' hT hu hL hp hcl ⟨C0, C1, C2, C3, C4, C5, C6, C7, C8, C9, C10, C11, C12, H1, E1, L1⟩ K hK
          go_simp
          refine hK _ _ ?_
          exact ⟨fun h => C0 (by simpa using h), fun h => C1 (by simpa using h), fun h => C2 (by simpa using h), fun h => C3 (by simpa using h), fun h => C4 (by simpa using h), fun h => C5 (by simpa using h), fun h => C6 (by simpa using h), fun h => C7 (by simpa using h), fun h => C8 (by simpa using h), fun h h2 => C9 (by simpa using h) (by simpa using h2), fun h => C10 (by simpa using h), fun h => C11 (by simpa using h), fun _ => rfl, H1, E1, L1⟩
      · rintro u L w' hall hu ⟨C0, C1, C2, C3, C4, C5, C6, C7, C8, C9, C10, C11, C12, H1, E1, L1⟩
        replace C0 := C0 (hall 0 (by omega))
        replace C1 := C1 (hall 1 (by omega))
        replace C2 := C2 (hall 2 (by omega))
        replace C3 := C3 (hall 3 (by omega))
        replace C4 := C4 (hall 4 (by omega))
        replace C5 := C5 (hall 5 (by omega))
        replace C6 := C6 (hall 6 (by omega))
        replace C7 := C7 (hall 7 (by omega))
        replace C8 := C8 (hall 8 (by omega))
        replace C10 := C10 (hall 10 (by omega))
        replace C11 := C11 (hall 11 (by omega))
        replace C12 := C12 (hall 12 (by omega))
        simp only [fill, List.setIfInBounds_toArray, List.set_cons_succ, List.set_cons_zero, C0, C1, C2, C3, C4, C5, C6, C7, C8, C10, C11, C12]
        generalize u 19 = s0 at *
        clear C0 C1 C2 C3 C4 C5 C6 C7 C8 C9 C10 C11 C12 hu hall
      -- end inv
        go_wp2
        go_ret2
        exact ⟨rfl, E1⟩
end Go.Proofs.YtjbobblnicnhnaaDoor
