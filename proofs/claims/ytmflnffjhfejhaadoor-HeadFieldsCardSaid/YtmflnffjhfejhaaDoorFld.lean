/-
  Fold: alike but for great and small letters: the program's and the document's.
-/
import Derived.BigGuardPart
import Derived.BigQuiet
import Derived.Deep.DrawnRows
import Derived.Test.YtmflnffjhfejhaaDoorRows
import Derived.Test.YtmflnffjhfejhaaDoorHch
import Derived.Test.YtmflnffjhfejhaaDoorLow
import Derived.Test.YtmflnffjhfejhaaDoorKit
namespace Go.Proofs.YtmflnffjhfejhaaDoor
open Go.RowKit
set_option maxRecDepth 100000
attribute [local go_sem ↓] Go.wp_at_zero Go.wp_at_succ
set_option linter.unusedVariables false
set_option linter.unusedSimpArgs false

def foldB (a b : List UInt8) : Bool := lowL a == lowL b
theorem foldB_len {a b : List UInt8} (h : a.length ≠ b.length) : foldB a b = false := by
  unfold foldB
  rw [Bool.eq_false_iff]
  intro he
  have he' : lowL a = lowL b := by simpa using he
  have := congrArg List.length he'
  rw [lowL_len, lowL_len] at this
  exact h this
theorem foldB_at {a b : List UInt8} {k : Nat} (ha : k < a.length) (hb : k < b.length) (h : lowB (bt a k) ≠ lowB (bt b k)) : foldB a b = false := by
  unfold foldB
  rw [Bool.eq_false_iff]
  intro he
  have he' : lowL a = lowL b := by simpa using he
  have := congrArg (·[k]?) he'
  simp only [lowL, List.getElem?_map, bt_some a k ha, bt_some b k hb, Option.map_some, Option.some.injEq] at this
  exact h this
theorem foldB_all {a b : List UInt8} (hl : a.length = b.length) (h : ∀ k, k < a.length → lowB (bt a k) = lowB (bt b k)) : foldB a b = true := by
  unfold foldB
  rw [beq_iff_eq]
  apply List.ext_getElem?
  intro k
  simp only [lowL, List.getElem?_map]
  by_cases hk : k < a.length
  · rw [bt_some a k hk, bt_some b k (by omega)]
    simp [h k hk]
  · rw [List.getElem?_eq_none (by omega), List.getElem?_eq_none (by omega)]
set_option maxHeartbeats 1000000 in
theorem foldR_any (a b : List UInt8) (ha : a.length ≤ 10000) (hb : b.length ≤ 10000) (w : World) :
    Calls Tryd.prog 19 #[Str a, Str b] w fun e w' => e = .returned (.bool (foldB a b)) ∧ Ext w w' := by
  have H1 := Lib.hid (low_any a (by omega) w)
  have H2 := Lib.hid (fun W => low_any b (by omega) W)
  have HF := Lib.hid (show foldB a b = (lowL a == lowL b) from rfl)
  generalize lowL a = x at *
  generalize lowL b = y at *
  go_enter Tryd.func19, Tryd.ntmps19
  go_wp2_with fail
  refine H1.out.mono ?_
  rintro e w1 ⟨he, m, hw⟩
  subst he
  subst hw
  go_wp2_with fail
  refine (H2.out _).mono ?_
  rintro e w1 ⟨he, m2, hw⟩
  subst he
  subst hw
  cases hxy : (x == y) with
  | true =>
    obtain rfl : x = y := by simpa using hxy
    go_wp2
    go_ret
    exact ⟨by rw [HF.out, hxy]; rfl, ext_drewN (ext_refl _) _⟩
  | false =>
    go_wp2
    go_ret
    exact ⟨by rw [HF.out, hxy]; rfl, ext_drewN (ext_refl _) _⟩
set_option maxHeartbeats 1000000 in
theorem fold_any (a b : List UInt8) (ha : a.length ≤ 10000) (hb : b.length ≤ 10000) (w : World) :
    Calls Tryd.prog 18 #[Str a, Str b] w fun e w' => e = .returned (.bool (foldB a b)) ∧ Ext w w' := by
  by_cases hl : a.length = b.length
  · have hia : ∀ i, i < a.length → ∀ W, (Instr.index 9 (Str a) (.int .i64 (i : Int))).run Tryd.prog W = .ok (Byt (bt a i)) W := fun i hi W => run_index_str Tryd.underlying9 a i _ rfl hi W
    have hib : ∀ i, i < b.length → ∀ W, (Instr.index 9 (Str b) (.int .i64 (i : Int))).run Tryd.prog W = .ok (Byt (bt b i)) W := fun i hi W => run_index_str Tryd.underlying9 b i _ rfl hi W
    have HIA := Lib.hid hia; have HIB := Lib.hid hib
    have HLE := Lib.hid hl
    have t0 : ((a.length : Int) != (b.length : Int)) = false := by simp; omega
    clear hia hib hl
    go_enter Tryd.func18, Tryd.ntmps18
    go_wp2
    go_loopw [13] (fun i wr => ∃ k : Nat, k ≤ a.length ∧ i = .int .i64 k ∧ Hid (∀ m, m < k → lowB (bt a m) = lowB (bt b m)) ∧ ∃ m, wr = w.drewN m) (fun i _ => a.length - (intOf i).toNat)
    case atStart => exact ⟨0, by omega, rfl, Lib.hid (fun m h => by omega), 0, rfl⟩
    case round =>
      obtain ⟨k, hk, rfl, HA, m, rfl⟩ := hrel
      by_cases h3 : k < a.length
      · have i1 := HIA.out k h3
        have i2 := HIB.out k (by have := HLE.out; omega)
        have HFB := Lib.hid (fun h => foldB_at (a := a) (b := b) h3 (by have := HLE.out; omega) h)
        have HAN := Lib.hid (fun (h : lowB (bt a k) = lowB (bt b k)) m (hm : m < k + 1) => (show lowB (bt a m) = lowB (bt b m) by
          by_cases h2 : m < k
          · exact HA.out m h2
          · obtain rfl : m = k := by omega
            exact h))
        generalize bt a k = c at *
        generalize bt b k = d at *
        have hcl := (lowB c).toNat_lt; have hdl := (lowB d).toNat_lt
        have HSC := Lib.hid (headsmall_any c)
        have HSD := Lib.hid (headsmall_any d)
        by_cases heq : lowB c = lowB d
        · have HAN2 := Lib.hid (HAN.out heq)
          have t1 : ((((lowB c).toNat : Int)) != ((lowB d).toNat : Int)) = false := by rw [heq]; simp
          rw [heq] at HSC
          clear HFB HAN heq
          generalize (lowB d).toNat = cn at *
          obtain ⟨dn, hdn⟩ : ∃ dn, dn = cn := ⟨_, rfl⟩
          have t2 : ((cn : Int) != (dn : Int)) = false := by rw [hdn]; simp
          have HSD2 : Hid (∀ W, Calls Tryd.prog 35 #[Byt d] W fun e w' => e = .returned (.int .u8 (dn : Int)) ∧ w' = W) := by rw [hdn]; exact HSD
          replace HSD := HSD2
          clear hdn HSD2 t1
          go_wp2
          -- inv {'ops': [('mv',16,0,'Str a'),('mv',17,5,'.int .i64 (k : Int)'),('op',18,[0,1],'Byt c'),('callq',19,[2],"HSC.out w'",'.int .u8 (cn : Int)'),('mv',20,1,'Str b'),('mv',21,5,'.int .i64 (k : Int)'),('op',22,[4,5],'Byt d'),('callq',23,[6],"HSD.out w'",'.int .u8 (dn : Int)'),('op',24,[3,7],'.bool false')], 'W': [('E0',"Ext w w'",'Below.drew (ext_drewN (ext_refl w) m)'),('E1',"∃ n, w' = w.drewN n",'⟨m + 1, rfl⟩')]}
          refine wp_region_any (by kernel_rfl) ?_
          change wpAny _ _ _ _ _ _ _ (World.drew _)
          refine wpAny_inv (n := 9) [16, 17, 18, 19, 20, 21, 22, 23, 24] (fun u L w' =>
              (L 0 = true → u 16 = Str a) ∧
              (L 1 = true → u 17 = .int .i64 (k : Int)) ∧
              (L 2 = true → u 18 = Byt c) ∧
              (L 3 = true → u 19 = .int .u8 (cn : Int)) ∧
              (L 4 = true → u 20 = Str b) ∧
              (L 5 = true → u 21 = .int .i64 (k : Int)) ∧
              (L 6 = true → u 22 = Byt d) ∧
              (L 7 = true → u 23 = .int .u8 (dn : Int)) ∧
              (L 8 = true → u 24 = .bool false) ∧
              (Ext w w') ∧
              (∃ n, w' = w.drewN n))
            (by rfl) (by kernel_rfl) (by kernel_rfl) (by rfl) ?_ ?_ ?_
          · exact ⟨(fun h => by cases h), (fun h => by cases h), (fun h => by cases h), (fun h => by cases h), (fun h => by cases h), (fun h => by cases h), (fun h => by cases h), (fun h => by cases h), (fun h => by cases h), Below.drew (ext_drewN (ext_refl w) m), ⟨m + 1, rfl⟩⟩
          · refine ⟨⟨⟨⟨⟨⟨⟨⟨⟨trivial, ?_⟩, ?_⟩, ?_⟩, ?_⟩, ?_⟩, ?_⟩, ?_⟩, ?_⟩, ?_⟩
            · refine stepOk_some (i := 0) (by rfl) (by rfl) ?_
              rintro u L T w' hT hu hL hp hcl ⟨C0, C1, C2, C3, C4, C5, C6, C7, C8, E0, E1⟩ K hK
              have e1 : u 0 = Str a := hu 0 (by decide)
              go_simp
              refine hK _ _ ?_
              exact ⟨fun _ => rfl, fun h => C1 (by simpa using h), fun h => C2 (by simpa using h), fun h => C3 (by simpa using h), fun h => C4 (by simpa using h), fun h => C5 (by simpa using h), fun h => C6 (by simpa using h), fun h => C7 (by simpa using h), fun h => C8 (by simpa using h), E0, E1⟩
            · refine stepOk_some (i := 1) (by rfl) (by rfl) ?_
              rintro u L T w' hT hu hL hp hcl ⟨C0, C1, C2, C3, C4, C5, C6, C7, C8, E0, E1⟩ K hK
              have e1 : u 5 = .int .i64 (k : Int) := hu 5 (by decide)
              go_simp
              refine hK _ _ ?_
              exact ⟨fun h => C0 (by simpa using h), fun _ => rfl, fun h => C2 (by simpa using h), fun h => C3 (by simpa using h), fun h => C4 (by simpa using h), fun h => C5 (by simpa using h), fun h => C6 (by simpa using h), fun h => C7 (by simpa using h), fun h => C8 (by simpa using h), E0, E1⟩
            · refine stepOk_some (i := 2) (by rfl) (by rfl) ?_
              rintro u L T w' hT hu hL hp hcl ⟨C0, C1, C2, C3, C4, C5, C6, C7, C8, E0, E1⟩ K hK
              have e0 := C0 (hp.of 0 (by kernel_rfl))
              have e1 := C1 (hp.of 1 (by kernel_rfl))
              go_simp
              try go_bits
              try (rw [if_neg (by omega)]; go_simp)
              refine hK _ _ ?_
              exact ⟨fun h => C0 (by simpa using h), fun h => C1 (by simpa using h), fun _ => rfl, fun h => C3 (by simpa using h), fun h => C4 (by simpa using h), fun h => C5 (by simpa using h), fun h => C6 (by simpa using h), fun h => C7 (by simpa using h), fun h => C8 (by simpa using h), E0, E1⟩
            · refine stepOk_some (i := 3) (by rfl) (by rfl) ?_
              rintro u L T w' hT hu hL hp hcl ⟨C0, C1, C2, C3, C4, C5, C6, C7, C8, E0, E1⟩ K hK
              have e2 := C2 (hp.of 2 (by kernel_rfl))
              go_simp
              refine (HSC.out w').mono ?_
              rintro e w1 ⟨he, hx1⟩
              subst w1
              subst he
              refine hK _ _ ?_
              exact ⟨fun h => C0 (by simpa using h), fun h => C1 (by simpa using h), fun h => C2 (by simpa using h), fun _ => rfl, fun h => C4 (by simpa using h), fun h => C5 (by simpa using h), fun h => C6 (by simpa using h), fun h => C7 (by simpa using h), fun h => C8 (by simpa using h), E0, E1⟩
            · refine stepOk_some (i := 4) (by rfl) (by rfl) ?_
              rintro u L T w' hT hu hL hp hcl ⟨C0, C1, C2, C3, C4, C5, C6, C7, C8, E0, E1⟩ K hK
              have e1 : u 1 = Str b := hu 1 (by decide)
              go_simp
              refine hK _ _ ?_
              exact ⟨fun h => C0 (by simpa using h), fun h => C1 (by simpa using h), fun h => C2 (by simpa using h), fun h => C3 (by simpa using h), fun _ => rfl, fun h => C5 (by simpa using h), fun h => C6 (by simpa using h), fun h => C7 (by simpa using h), fun h => C8 (by simpa using h), E0, E1⟩
            · refine stepOk_some (i := 5) (by rfl) (by rfl) ?_
              rintro u L T w' hT hu hL hp hcl ⟨C0, C1, C2, C3, C4, C5, C6, C7, C8, E0, E1⟩ K hK
              have e1 : u 5 = .int .i64 (k : Int) := hu 5 (by decide)
              go_simp
              refine hK _ _ ?_
              exact ⟨fun h => C0 (by simpa using h), fun h => C1 (by simpa using h), fun h => C2 (by simpa using h), fun h => C3 (by simpa using h), fun h => C4 (by simpa using h), fun _ => rfl, fun h => C6 (by simpa using h), fun h => C7 (by simpa using h), fun h => C8 (by simpa using h), E0, E1⟩
            · refine stepOk_some (i := 6) (by rfl) (by rfl) ?_
              rintro u L T w' hT hu hL hp hcl ⟨C0, C1, C2, C3, C4, C5, C6, C7, C8, E0, E1⟩ K hK
              have e4 := C4 (hp.of 4 (by kernel_rfl))
              have e5 := C5 (hp.of 5 (by kernel_rfl))
              go_simp
              try go_bits
              try (rw [if_neg (by omega)]; go_simp)
              refine hK _ _ ?_
              exact ⟨fun h => C0 (by simpa using h), fun h => C1 (by simpa using h), fun h => C2 (by simpa using h), fun h => C3 (by simpa using h), fun h => C4 (by simpa using h), fun h => C5 (by simpa using h), fun _ => rfl, fun h => C7 (by simpa using h), fun h => C8 (by simpa using h), E0, E1⟩
            · refine stepOk_some (i := 7) (by rfl) (by rfl) ?_
              rintro u L T w' hT hu hL hp hcl ⟨C0, C1, C2, C3, C4, C5, C6, C7, C8, E0, E1⟩ K hK
              have e6 := C6 (hp.of 6 (by kernel_rfl))
              go_simp
              refine (HSD.out w').mono ?_
              rintro e w1 ⟨he, hx1⟩
              subst w1
              subst he
              refine hK _ _ ?_
              exact ⟨fun h => C0 (by simpa using h), fun h => C1 (by simpa using h), fun h => C2 (by simpa using h), fun h => C3 (by simpa using h), fun h => C4 (by simpa using h), fun h => C5 (by simpa using h), fun h => C6 (by simpa using h), fun _ => rfl, fun h => C8 (by simpa using h), E0, E1⟩
            · refine stepOk_some (i := 8) (by rfl) (by rfl) ?_
              rintro u L T w' hT hu hL hp hcl ⟨C0, C1, C2, C3, C4, C5, C6, C7, C8, E0, E1⟩ K hK
              have e3 := C3 (hp.of 3 (by kernel_rfl))
              have e7 := C7 (hp.of 7 (by kernel_rfl))
              go_simp
              try go_bits
              try (rw [if_neg (by omega)]; go_simp)
              refine hK _ _ ?_
              exact ⟨fun h => C0 (by simpa using h), fun h => C1 (by simpa using h), fun h => C2 (by simpa using h), fun h => C3 (by simpa using h), fun h => C4 (by simpa using h), fun h => C5 (by simpa using h), fun h => C6 (by simpa using h), fun h => C7 (by simpa using h), fun _ => rfl, E0, E1⟩
          · rintro u L w' hall hu ⟨C0, C1, C2, C3, C4, C5, C6, C7, C8, E0, E1⟩
            replace C0 := C0 (hall 0 (by omega))
            replace C1 := C1 (hall 1 (by omega))
            replace C2 := C2 (hall 2 (by omega))
            replace C3 := C3 (hall 3 (by omega))
            replace C4 := C4 (hall 4 (by omega))
            replace C5 := C5 (hall 5 (by omega))
            replace C6 := C6 (hall 6 (by omega))
            replace C7 := C7 (hall 7 (by omega))
            replace C8 := C8 (hall 8 (by omega))
            simp only [fill, List.setIfInBounds_toArray, List.set_cons_succ, List.set_cons_zero, C0, C1, C2, C3, C4, C5, C6, C7, C8]
            clear C0 C1 C2 C3 C4 C5 C6 C7 C8 hu hall
          -- end inv
            obtain ⟨n, hn⟩ := E1
            subst hn
            go_wp2
            go_roundw
            case rel => exact ⟨k + 1, by omega, by go_num, HAN2, _, rfl⟩
            case measure => simp [intOf] <;> omega
        · have HFB2 := Lib.hid (HFB.out heq)
          have t1 : ((((lowB c).toNat : Int)) != ((lowB d).toNat : Int)) = true := by
            simp only [bne_iff_ne, ne_eq, Int.natCast_inj]
            exact fun e => heq (UInt8.toNat_inj.1 e)
          clear HFB HAN heq
          generalize (lowB c).toNat = cn at *
          generalize (lowB d).toNat = dn at *
          go_wp2
          -- inv {'ops': [('mv',16,0,'Str a'),('mv',17,5,'.int .i64 (k : Int)'),('op',18,[0,1],'Byt c'),('callq',19,[2],"HSC.out w'",'.int .u8 (cn : Int)'),('mv',20,1,'Str b'),('mv',21,5,'.int .i64 (k : Int)'),('op',22,[4,5],'Byt d'),('callq',23,[6],"HSD.out w'",'.int .u8 (dn : Int)'),('op',24,[3,7],'.bool true')], 'W': [('E0',"Ext w w'",'Below.drew (ext_drewN (ext_refl w) m)'),('E1',"∃ n, w' = w.drewN n",'⟨m + 1, rfl⟩')]}
          refine wp_region_any (by kernel_rfl) ?_
          change wpAny _ _ _ _ _ _ _ (World.drew _)
          refine wpAny_inv (n := 9) [16, 17, 18, 19, 20, 21, 22, 23, 24] (fun u L w' =>
              (L 0 = true → u 16 = Str a) ∧
              (L 1 = true → u 17 = .int .i64 (k : Int)) ∧
              (L 2 = true → u 18 = Byt c) ∧
              (L 3 = true → u 19 = .int .u8 (cn : Int)) ∧
              (L 4 = true → u 20 = Str b) ∧
              (L 5 = true → u 21 = .int .i64 (k : Int)) ∧
              (L 6 = true → u 22 = Byt d) ∧
              (L 7 = true → u 23 = .int .u8 (dn : Int)) ∧
              (L 8 = true → u 24 = .bool true) ∧
              (Ext w w') ∧
              (∃ n, w' = w.drewN n))
            (by rfl) (by kernel_rfl) (by kernel_rfl) (by rfl) ?_ ?_ ?_
          · exact ⟨(fun h => by cases h), (fun h => by cases h), (fun h => by cases h), (fun h => by cases h), (fun h => by cases h), (fun h => by cases h), (fun h => by cases h), (fun h => by cases h), (fun h => by cases h), Below.drew (ext_drewN (ext_refl w) m), ⟨m + 1, rfl⟩⟩
          · refine ⟨⟨⟨⟨⟨⟨⟨⟨⟨trivial, ?_⟩, ?_⟩, ?_⟩, ?_⟩, ?_⟩, ?_⟩, ?_⟩, ?_⟩, ?_⟩
            · refine stepOk_some (i := 0) (by rfl) (by rfl) ?_
              rintro u L T w' hT hu hL hp hcl ⟨C0, C1, C2, C3, C4, C5, C6, C7, C8, E0, E1⟩ K hK
              have e1 : u 0 = Str a := hu 0 (by decide)
              go_simp
              refine hK _ _ ?_
              exact ⟨fun _ => rfl, fun h => C1 (by simpa using h), fun h => C2 (by simpa using h), fun h => C3 (by simpa using h), fun h => C4 (by simpa using h), fun h => C5 (by simpa using h), fun h => C6 (by simpa using h), fun h => C7 (by simpa using h), fun h => C8 (by simpa using h), E0, E1⟩
            · refine stepOk_some (i := 1) (by rfl) (by rfl) ?_
              rintro u L T w' hT hu hL hp hcl ⟨C0, C1, C2, C3, C4, C5, C6, C7, C8, E0, E1⟩ K hK
              have e1 : u 5 = .int .i64 (k : Int) := hu 5 (by decide)
              go_simp
              refine hK _ _ ?_
              exact ⟨fun h => C0 (by simpa using h), fun _ => rfl, fun h => C2 (by simpa using h), fun h => C3 (by simpa using h), fun h => C4 (by simpa using h), fun h => C5 (by simpa using h), fun h => C6 (by simpa using h), fun h => C7 (by simpa using h), fun h => C8 (by simpa using h), E0, E1⟩
            · refine stepOk_some (i := 2) (by rfl) (by rfl) ?_
              rintro u L T w' hT hu hL hp hcl ⟨C0, C1, C2, C3, C4, C5, C6, C7, C8, E0, E1⟩ K hK
              have e0 := C0 (hp.of 0 (by kernel_rfl))
              have e1 := C1 (hp.of 1 (by kernel_rfl))
              go_simp
              try go_bits
              try (rw [if_neg (by omega)]; go_simp)
              refine hK _ _ ?_
              exact ⟨fun h => C0 (by simpa using h), fun h => C1 (by simpa using h), fun _ => rfl, fun h => C3 (by simpa using h), fun h => C4 (by simpa using h), fun h => C5 (by simpa using h), fun h => C6 (by simpa using h), fun h => C7 (by simpa using h), fun h => C8 (by simpa using h), E0, E1⟩
            · refine stepOk_some (i := 3) (by rfl) (by rfl) ?_
              rintro u L T w' hT hu hL hp hcl ⟨C0, C1, C2, C3, C4, C5, C6, C7, C8, E0, E1⟩ K hK
              have e2 := C2 (hp.of 2 (by kernel_rfl))
              go_simp
              refine (HSC.out w').mono ?_
              rintro e w1 ⟨he, hx1⟩
              subst w1
              subst he
              refine hK _ _ ?_
              exact ⟨fun h => C0 (by simpa using h), fun h => C1 (by simpa using h), fun h => C2 (by simpa using h), fun _ => rfl, fun h => C4 (by simpa using h), fun h => C5 (by simpa using h), fun h => C6 (by simpa using h), fun h => C7 (by simpa using h), fun h => C8 (by simpa using h), E0, E1⟩
            · refine stepOk_some (i := 4) (by rfl) (by rfl) ?_
              rintro u L T w' hT hu hL hp hcl ⟨C0, C1, C2, C3, C4, C5, C6, C7, C8, E0, E1⟩ K hK
              have e1 : u 1 = Str b := hu 1 (by decide)
              go_simp
              refine hK _ _ ?_
              exact ⟨fun h => C0 (by simpa using h), fun h => C1 (by simpa using h), fun h => C2 (by simpa using h), fun h => C3 (by simpa using h), fun _ => rfl, fun h => C5 (by simpa using h), fun h => C6 (by simpa using h), fun h => C7 (by simpa using h), fun h => C8 (by simpa using h), E0, E1⟩
            · refine stepOk_some (i := 5) (by rfl) (by rfl) ?_
              rintro u L T w' hT hu hL hp hcl ⟨C0, C1, C2, C3, C4, C5, C6, C7, C8, E0, E1⟩ K hK
              have e1 : u 5 = .int .i64 (k : Int) := hu 5 (by decide)
              go_simp
              refine hK _ _ ?_
              exact ⟨fun h => C0 (by simpa using h), fun h => C1 (by simpa using h), fun h => C2 (by simpa using h), fun h => C3 (by simpa using h), fun h => C4 (by simpa using h), fun _ => rfl, fun h => C6 (by simpa using h), fun h => C7 (by simpa using h), fun h => C8 (by simpa using h), E0, E1⟩
            · refine stepOk_some (i := 6) (by rfl) (by rfl) ?_
              rintro u L T w' hT hu hL hp hcl ⟨C0, C1, C2, C3, C4, C5, C6, C7, C8, E0, E1⟩ K hK
              have e4 := C4 (hp.of 4 (by kernel_rfl))
              have e5 := C5 (hp.of 5 (by kernel_rfl))
              go_simp
              try go_bits
              try (rw [if_neg (by omega)]; go_simp)
              refine hK _ _ ?_
              exact ⟨fun h => C0 (by simpa using h), fun h => C1 (by simpa using h), fun h => C2 (by simpa using h), fun h => C3 (by simpa using h), fun h => C4 (by simpa using h), fun h => C5 (by simpa using h), fun _ => rfl, fun h => C7 (by simpa using h), fun h => C8 (by simpa using h), E0, E1⟩
            · refine stepOk_some (i := 7) (by rfl) (by rfl) ?_
              rintro u L T w' hT hu hL hp hcl ⟨C0, C1, C2, C3, C4, C5, C6, C7, C8, E0, E1⟩ K hK
              have e6 := C6 (hp.of 6 (by kernel_rfl))
              go_simp
              refine (HSD.out w').mono ?_
              rintro e w1 ⟨he, hx1⟩
              subst w1
              subst he
              refine hK _ _ ?_
              exact ⟨fun h => C0 (by simpa using h), fun h => C1 (by simpa using h), fun h => C2 (by simpa using h), fun h => C3 (by simpa using h), fun h => C4 (by simpa using h), fun h => C5 (by simpa using h), fun h => C6 (by simpa using h), fun _ => rfl, fun h => C8 (by simpa using h), E0, E1⟩
            · refine stepOk_some (i := 8) (by rfl) (by rfl) ?_
              rintro u L T w' hT hu hL hp hcl ⟨C0, C1, C2, C3, C4, C5, C6, C7, C8, E0, E1⟩ K hK
              have e3 := C3 (hp.of 3 (by kernel_rfl))
              have e7 := C7 (hp.of 7 (by kernel_rfl))
              go_simp
              try go_bits
              try (rw [if_neg (by omega)]; go_simp)
              refine hK _ _ ?_
              exact ⟨fun h => C0 (by simpa using h), fun h => C1 (by simpa using h), fun h => C2 (by simpa using h), fun h => C3 (by simpa using h), fun h => C4 (by simpa using h), fun h => C5 (by simpa using h), fun h => C6 (by simpa using h), fun h => C7 (by simpa using h), fun _ => rfl, E0, E1⟩
          · rintro u L w' hall hu ⟨C0, C1, C2, C3, C4, C5, C6, C7, C8, E0, E1⟩
            replace C0 := C0 (hall 0 (by omega))
            replace C1 := C1 (hall 1 (by omega))
            replace C2 := C2 (hall 2 (by omega))
            replace C3 := C3 (hall 3 (by omega))
            replace C4 := C4 (hall 4 (by omega))
            replace C5 := C5 (hall 5 (by omega))
            replace C6 := C6 (hall 6 (by omega))
            replace C7 := C7 (hall 7 (by omega))
            replace C8 := C8 (hall 8 (by omega))
            simp only [fill, List.setIfInBounds_toArray, List.set_cons_succ, List.set_cons_zero, C0, C1, C2, C3, C4, C5, C6, C7, C8]
            clear C0 C1 C2 C3 C4 C5 C6 C7 C8 hu hall
          -- end inv
            go_wp2
            go_ret
            exact ⟨by rw [HFB2.out]; rfl, E0⟩
      · obtain rfl : k = a.length := by omega
        have HFB := Lib.hid (foldB_all HLE.out HA.out)
        go_wp2
        go_ret
        exact ⟨by rw [HFB.out]; rfl, ext_drewN (ext_refl _) _⟩
  · have HF := Lib.hid (foldB_len hl)
    have t0 : ((a.length : Int) != (b.length : Int)) = true := by simp; omega
    clear hl
    go_enter Tryd.func18, Tryd.ntmps18
    go_wp2
    go_ret
    exact ⟨by rw [HF.out]; rfl, ext_refl _⟩
end Go.Proofs.YtmflnffjhfejhaaDoor
