/-
  ref09.Few.
-/
import Derived.BigGuardPart
import Derived.RegionTactic
import Derived.Deep.DrawnRows
import Derived.Deep.CutBlock
import Derived.Deep.DeepCutAuto
import Derived.Test.YtmflnffjhfejhaaGreatDoorRows
import Derived.Test.YtmflnffjhfejhaaGreatDoorHhd
import Derived.Test.YtmflnffjhfejhaaGreatDoorFge
import Derived.Test.YtmflnffjhfejhaaGreatDoorKit
namespace Go.Proofs.YtmflnffjhfejhaaGreatDoor
open Go.RowKit
set_option maxRecDepth 100000
attribute [local go_sem ↓] Go.wp_at_zero Go.wp_at_succ
set_option linter.unusedVariables false
set_option linter.unusedSimpArgs false

def cutK (a b : Nat) (p : Pr) : Pr := ⟨p.n.take a, p.v.take b⟩
def fewK (m a b : Nat) (fs : List Pr) : List Pr := (fs.take m).map (cutK a b)
theorem fewK_snoc (m a b : Nat) (fs : List Pr) (k : Nat) (h : k < fs.length) : fewK m a b (fs.take (k + 1)) = if k < m then fewK m a b (fs.take k) ++ [cutK a b (fs.getD k prD)] else fewK m a b (fs.take k) := by
  unfold fewK
  rw [List.take_take, List.take_take]
  split
  · rename_i hk
    rw [show min m (k + 1) = k + 1 by omega, show min m k = k by omega, List.take_succ_eq_append_getElem h, List.map_append, List.map_singleton, show fs.getD k prD = fs[k] by simp [List.getD, h]]
  · rw [show min m (k + 1) = m by omega, show min m k = m by omega]
theorem fewK_len (m a b : Nat) (fs : List Pr) : (fewK m a b fs).length ≤ m := by unfold fewK; simp; omega
theorem fewK_b (m a b : Nat) (fs : List Pr) : ∀ p ∈ fewK m a b fs, p.n.length ≤ a ∧ p.v.length ≤ b := by
  intro p hp
  unfold fewK at hp
  obtain ⟨q, _, rfl⟩ := List.mem_map.1 hp
  simp [cutK]; omega
theorem ext_set {w w' : World} {b i : Nat} {x : Value} (h : Ext w w') (hb : w.heap.size ≤ b) : Ext w (w'.setCell ⟨b, i, none⟩ x) :=
  below_chg h (Chg.setCell w' ⟨b, i, none⟩ x) (fun k hk => by have hk' : k = b := hk; omega) (Nat.le_refl _)
set_option maxHeartbeats 4000000 in
theorem few_any (one two : List UInt8) (st : Int) (v : Value) (ls : List Pr) (asks : Bool) (w : World) (hr : RowC 2 prC w v ls) :
    Calls Tryz.prog 14 #[.agg #[Str one, Str two, .int .i64 st, v], .bool asks] w fun e w' => ∃ v', e = .returned (.agg #[Str (one.take 100), Str (if asks then two.take 2500 else []), .int .i64 (if asks then 0 else st), v']) ∧
      w'.ownsRow w.heap.size 53 2 v' (fewK 27 12 2000 ls).length ((fewK 27 12 2000 ls).flatMap prC) ∧ Ext w w' := by
  obtain ⟨ao, cap, hv, hcap, hmax, hcl⟩ := rowP_shape hr
  unfold maxLen at hmax
  subst hv
  have HCL := Lib.hid hcl
  have HIX := Lib.hid (fun g o j h W => index_pair g o ls.length cap j h W)
  clear hcl hr
  go_enter Tryz.func14, Tryz.ntmps14
  go_wp2
  obtain ⟨W2, hW2⟩ : ∃ W2, (w.alloc (.cells #[Str one, Str two, .int .i64 st, .slice ao ls.length cap] 29)).alloc (.cells #[.string ⟨#[]⟩, .string ⟨#[]⟩, .int .i64 0, .slice none 0 0] 29) = W2 := ⟨_, rfl⟩
  have hx2 : Ext w W2 := by rw [← hW2]; exact ext_trans (Below.alloc (Below.refl _ _) (Nat.le_refl _) _) (Below.alloc (Below.refl _ _) (Nat.le_refl _) _)
  have hb1 : W2.heap[w.heap.size]? = some (.cells #[Str one, Str two, .int .i64 st, .slice ao ls.length cap] 29 (0, 0)) := by
    rw [← hW2]
    exact ext_at (Below.alloc (Below.refl _ _) (Nat.le_refl _) _) (Array.getElem?_push_size)
  have hb2 : W2.heap[w.heap.size + 1]? = some (.cells #[.string ⟨#[]⟩, .string ⟨#[]⟩, .int .i64 0, .slice none 0 0] 29 (0, 0)) := by
    rw [← hW2]
    have := allocs_at w [.cells #[Str one, Str two, .int .i64 st, .slice ao ls.length cap] 29, .cells #[.string ⟨#[]⟩, .string ⟨#[]⟩, .int .i64 0, .slice none 0 0] 29] 1 _ rfl
    exact this
  have hs2 : W2.heap.size = w.heap.size + 2 := by
    rw [← hW2]; exact allocs_size w [.cells #[Str one, Str two, .int .i64 st, .slice ao ls.length cap] 29, .cells #[.string ⟨#[]⟩, .string ⟨#[]⟩, .int .i64 0, .slice none 0 0] 29]
  rw [hW2]
  have HX2 := Lib.hid hx2; have HB1 := Lib.hid hb1; have HB2 := Lib.hid hb2; have HS2W := Lib.hid hs2
  clear hW2 hx2 hb1 hb2 hs2
  go_loopw [5, 12] (fun o i wr => ∃ k : Nat, k ≤ ls.length ∧ i = .int .i64 k ∧ Hid (wr.ownsRow W2.heap.size 53 2 o (fewK 27 12 2000 (ls.take k)).length ((fewK 27 12 2000 (ls.take k)).flatMap prC)) ∧ Hid (Ext W2 wr)) (fun _ i _ => ls.length - (intOf i).toNat)
  case atStart => exact ⟨0, by omega, rfl, Lib.hid (by simpa [fewK] using World.ownsRow_nil _ _ _ _), Lib.hid (Below.refl _ _)⟩
  case round =>
    obtain ⟨k, hk, rfl, HO, HXW⟩ := hrel
    by_cases h3 : k < ls.length
    · rcases HCL.out with h | ⟨g, o, rfl, hcc⟩
      · subst h; simp at h3
      obtain ⟨a0, a1⟩ := hcc k h3
      replace a0 := ext_cell (ext_trans HX2.out HXW.out) a0; replace a1 := ext_cell (ext_trans HX2.out HXW.out) a1
      have i1 := HIX.out g o k h3
      have HSN := Lib.hid (fewK_snoc 27 12 2000 ls k h3)
      have hfl := fewK_len 27 12 2000 (ls.take k)
      obtain ⟨po, pcap, hpv, _⟩ := ownz_shape HO.out
      subst hpv
      have hob : ∀ q, (Value.slice po (fewK 27 12 2000 (ls.take k)).length pcap).ownBlock = some q → q < wr.heap.size := fun q hq => (HO.out.lt q hq).2
      generalize fewK 27 12 2000 (ls.take k) = out at *
      generalize ls.getD k prD = p at *
      generalize o + 2 * k = q at *
      obtain ⟨pn, pv⟩ := p
      simp only at a0 a1
      have HC1 := Lib.hid (fun W => cutText_any pn 12 W (by omega))
      have HC2 := Lib.hid (fun W => cutText_any pv 2000 W (by omega))
      have HOB := Lib.hid hob
      clear hcc hob
      by_cases h12 : k < 27
      · have t1 : decide ((k : Int) < 27) = true := by simp; omega
        have HS2 := Lib.hid (show fewK 27 12 2000 (ls.take (k + 1)) = out ++ [⟨pn.take 12, pv.take 2000⟩] by rw [HSN.out, if_pos h12]; rfl)
        clear HSN h12
        generalize pn.take 12 = pn2 at *
        generalize pv.take 2000 = pv2 at *
        go_wp2
        obtain ⟨W5, hW5⟩ : ∃ W5, wr.alloc (.cells #[Str pn, Str pv] 53) = W5 := ⟨_, rfl⟩
        have hx5 : Ext wr W5 := by rw [← hW5]; exact Below.alloc (Below.refl _ _) (Nat.le_refl _) _
        have n1 : W5.heap[wr.heap.size]? = some (.cells #[Str pn, Str pv] 53 (0, 0)) := by rw [← hW5]; exact Array.getElem?_push_size
        rw [hW5]
        have HR5 := Lib.hid (show W5.drew.ownsRow W2.heap.size 53 2 (.slice po out.length pcap) out.length (out.flatMap prC) from ownz_ext HO.out (ext_trans hx5 (Below.drew (Below.refl _ _))))
        have HX5 := Lib.hid (show Ext W2 W5.drew from Below.drew (ext_trans HXW.out hx5))
        have HN5 := Lib.hid n1
        have HNE := Lib.hid (show ∀ q, (Value.slice po out.length pcap).ownBlock = some q → q ≠ wr.heap.size from fun q hq e => by have := HOB.out q hq; omega)
        clear HOB
        generalize wr.heap.size = gg at *
        clear hW5 hx5 n1 HO a0 a1
        -- inv {'ops': [('mo',19,5,10,'.slice po out.length pcap'),('fa',20,7,'.pointer (some ⟨gg, 0, none⟩)','.pointer (some ⟨gg, 0, none⟩)'),('lf',21,1,'Str pn','obtain ⟨d0, d1⟩ := cells2 H0'),('callq',22,[2],"HC1.out w'",'Str pn2'),('fa',23,7,'.pointer (some ⟨gg, 0, none⟩)','.pointer (some ⟨gg, 1, none⟩)'),('lf',24,4,'Str pv','obtain ⟨d0, d1⟩ := cells2 H0'),('callq',25,[5],"HC2.out w'",'Str pv2'),('op',26,[3,6],'.agg #[Str pn2, Str pv2]'),('bs',27,[7],['Str pn2','Str pv2'],'53',9,1),('apd',28,8,0,'.slice po out.length pcap','W2.heap.size','53','2','27','infoPair','[Str pn2, Str pv2]','out.length','(out.flatMap prC)'),('as',5,9,'u 28','.slice po out.length pcap')], 'W': [('E0',"Ext W2 w'",'HX5.out'),('D',"L 9 = false → w'.ownsRow W2.heap.size 53 2 (.slice po out.length pcap) out.length (out.flatMap prC)",'fun _ => HR5.out'),('H0',"w'.heap[gg]? = some (.cells #[Str pn, Str pv] 53 (0, 0))",'HN5.out')]}
        refine wp_region_any (by kernel_rfl) ?_
        change wpAny _ _ _ _ _ _ _ (World.drew _)
        refine wpAny_inv (n := 11) [19, 20, 21, 22, 23, 24, 25, 26, 27, 28, 5] (fun u L w' =>
            (L 0 = true → u 19 = .slice po out.length pcap) ∧
            (L 1 = true → u 20 = .pointer (some ⟨gg, 0, none⟩)) ∧
            (L 2 = true → u 21 = Str pn) ∧
            (L 3 = true → u 22 = Str pn2) ∧
            (L 4 = true → u 23 = .pointer (some ⟨gg, 1, none⟩)) ∧
            (L 5 = true → u 24 = Str pv) ∧
            (L 6 = true → u 25 = Str pv2) ∧
            (L 7 = true → u 26 = .agg #[Str pn2, Str pv2]) ∧
            (L 8 = true → L 9 = false → ∃ g', u 27 = .slice (some ⟨g', 0, none⟩) 1 1 ∧ w'.heap[g']? = some (.cells #[Str pn2, Str pv2] 53 (0, 0))) ∧
            (L 9 = true → w'.ownsRow (W2.heap.size) 53 2 (u 28) (out.length + 1) ((out.flatMap prC) ++ [Str pn2, Str pv2])) ∧
            (L 10 = true → u 5 = u 28) ∧
            (L 10 = false → u 5 = .slice po out.length pcap) ∧
            (Ext W2 w') ∧
            (L 9 = false → w'.ownsRow W2.heap.size 53 2 (.slice po out.length pcap) out.length (out.flatMap prC)) ∧
            (w'.heap[gg]? = some (.cells #[Str pn, Str pv] 53 (0, 0))))
          (by rfl) (by kernel_rfl) (by kernel_rfl) (by rfl) ?_ ?_ ?_
        · exact ⟨(fun h => by cases h), (fun h => by cases h), (fun h => by cases h), (fun h => by cases h), (fun h => by cases h), (fun h => by cases h), (fun h => by cases h), (fun h => by cases h), (fun h => by cases h), (fun h => by cases h), (fun h => by cases h), (fun _ => rfl), HX5.out, fun _ => HR5.out, HN5.out⟩
        · refine ⟨⟨⟨⟨⟨⟨⟨⟨⟨⟨⟨trivial, ?_⟩, ?_⟩, ?_⟩, ?_⟩, ?_⟩, ?_⟩, ?_⟩, ?_⟩, ?_⟩, ?_⟩, ?_⟩
          · refine stepOk_some (i := 0) (by rfl) (by rfl) ?_
            rintro u L T w' hT hu hL hp hcl ⟨C0, C1, C2, C3, C4, C5, C6, C7, C8, C9, C10, Z10, E0, D, H0⟩ K hK
            have e1 := Z10 (hcl.not 10 (by kernel_rfl) hL)
            go_simp
            refine hK _ _ ?_
            exact ⟨fun _ => rfl, fun h => C1 (by simpa using h), fun h => C2 (by simpa using h), fun h => C3 (by simpa using h), fun h => C4 (by simpa using h), fun h => C5 (by simpa using h), fun h => C6 (by simpa using h), fun h => C7 (by simpa using h), fun h h2 => C8 (by simpa using h) (by simpa using h2), fun h => C9 (by simpa using h), fun h => C10 (by simpa using h), fun h => Z10 (by simpa using h), E0, fun h => D (by simpa using h), H0⟩
          · refine stepOk_some (i := 1) (by rfl) (by rfl) ?_
            rintro u L T w' hT hu hL hp hcl ⟨C0, C1, C2, C3, C4, C5, C6, C7, C8, C9, C10, Z10, E0, D, H0⟩ K hK
            have e1 : u 7 = .pointer (some ⟨gg, 0, none⟩) := hu 7 (by decide)
            go_simp
            refine hK _ _ ?_
            exact ⟨fun h => C0 (by simpa using h), fun _ => rfl, fun h => C2 (by simpa using h), fun h => C3 (by simpa using h), fun h => C4 (by simpa using h), fun h => C5 (by simpa using h), fun h => C6 (by simpa using h), fun h => C7 (by simpa using h), fun h h2 => C8 (by simpa using h) (by simpa using h2), fun h => C9 (by simpa using h), fun h => C10 (by simpa using h), fun h => Z10 (by simpa using h), E0, fun h => D (by simpa using h), H0⟩
          · refine stepOk_some (i := 2) (by rfl) (by rfl) ?_
            rintro u L T w' hT hu hL hp hcl ⟨C0, C1, C2, C3, C4, C5, C6, C7, C8, C9, C10, Z10, E0, D, H0⟩ K hK
            have e1 := C1 (hp.of 1 (by kernel_rfl))
            obtain ⟨d0, d1⟩ := cells2 H0
            go_simp
            refine hK _ _ ?_
            exact ⟨fun h => C0 (by simpa using h), fun h => C1 (by simpa using h), fun _ => rfl, fun h => C3 (by simpa using h), fun h => C4 (by simpa using h), fun h => C5 (by simpa using h), fun h => C6 (by simpa using h), fun h => C7 (by simpa using h), fun h h2 => C8 (by simpa using h) (by simpa using h2), fun h => C9 (by simpa using h), fun h => C10 (by simpa using h), fun h => Z10 (by simpa using h), E0, fun h => D (by simpa using h), H0⟩
          · refine stepOk_some (i := 3) (by rfl) (by rfl) ?_
            rintro u L T w' hT hu hL hp hcl ⟨C0, C1, C2, C3, C4, C5, C6, C7, C8, C9, C10, Z10, E0, D, H0⟩ K hK
            have e2 := C2 (hp.of 2 (by kernel_rfl))
            go_simp
            refine (HC1.out w').mono ?_
            rintro e w1 ⟨he, hx1⟩
            subst w1
            subst he
            refine hK _ _ ?_
            exact ⟨fun h => C0 (by simpa using h), fun h => C1 (by simpa using h), fun h => C2 (by simpa using h), fun _ => rfl, fun h => C4 (by simpa using h), fun h => C5 (by simpa using h), fun h => C6 (by simpa using h), fun h => C7 (by simpa using h), fun h h2 => C8 (by simpa using h) (by simpa using h2), fun h => C9 (by simpa using h), fun h => C10 (by simpa using h), fun h => Z10 (by simpa using h), E0, fun h => D (by simpa using h), H0⟩
          · refine stepOk_some (i := 4) (by rfl) (by rfl) ?_
            rintro u L T w' hT hu hL hp hcl ⟨C0, C1, C2, C3, C4, C5, C6, C7, C8, C9, C10, Z10, E0, D, H0⟩ K hK
            have e1 : u 7 = .pointer (some ⟨gg, 0, none⟩) := hu 7 (by decide)
            go_simp
            refine hK _ _ ?_
            exact ⟨fun h => C0 (by simpa using h), fun h => C1 (by simpa using h), fun h => C2 (by simpa using h), fun h => C3 (by simpa using h), fun _ => rfl, fun h => C5 (by simpa using h), fun h => C6 (by simpa using h), fun h => C7 (by simpa using h), fun h h2 => C8 (by simpa using h) (by simpa using h2), fun h => C9 (by simpa using h), fun h => C10 (by simpa using h), fun h => Z10 (by simpa using h), E0, fun h => D (by simpa using h), H0⟩
          · refine stepOk_some (i := 5) (by rfl) (by rfl) ?_
            rintro u L T w' hT hu hL hp hcl ⟨C0, C1, C2, C3, C4, C5, C6, C7, C8, C9, C10, Z10, E0, D, H0⟩ K hK
            have e4 := C4 (hp.of 4 (by kernel_rfl))
            obtain ⟨d0, d1⟩ := cells2 H0
            go_simp
            refine hK _ _ ?_
            exact ⟨fun h => C0 (by simpa using h), fun h => C1 (by simpa using h), fun h => C2 (by simpa using h), fun h => C3 (by simpa using h), fun h => C4 (by simpa using h), fun _ => rfl, fun h => C6 (by simpa using h), fun h => C7 (by simpa using h), fun h h2 => C8 (by simpa using h) (by simpa using h2), fun h => C9 (by simpa using h), fun h => C10 (by simpa using h), fun h => Z10 (by simpa using h), E0, fun h => D (by simpa using h), H0⟩
          · refine stepOk_some (i := 6) (by rfl) (by rfl) ?_
            rintro u L T w' hT hu hL hp hcl ⟨C0, C1, C2, C3, C4, C5, C6, C7, C8, C9, C10, Z10, E0, D, H0⟩ K hK
            have e5 := C5 (hp.of 5 (by kernel_rfl))
            go_simp
            refine (HC2.out w').mono ?_
            rintro e w1 ⟨he, hx1⟩
            subst w1
            subst he
            refine hK _ _ ?_
            exact ⟨fun h => C0 (by simpa using h), fun h => C1 (by simpa using h), fun h => C2 (by simpa using h), fun h => C3 (by simpa using h), fun h => C4 (by simpa using h), fun h => C5 (by simpa using h), fun _ => rfl, fun h => C7 (by simpa using h), fun h h2 => C8 (by simpa using h) (by simpa using h2), fun h => C9 (by simpa using h), fun h => C10 (by simpa using h), fun h => Z10 (by simpa using h), E0, fun h => D (by simpa using h), H0⟩
          · refine stepOk_some (i := 7) (by rfl) (by rfl) ?_
            rintro u L T w' hT hu hL hp hcl ⟨C0, C1, C2, C3, C4, C5, C6, C7, C8, C9, C10, Z10, E0, D, H0⟩ K hK
            have e3 := C3 (hp.of 3 (by kernel_rfl))
            have e6 := C6 (hp.of 6 (by kernel_rfl))
            go_simp
            try go_bits
            try (rw [if_neg (by omega)]; go_simp)
            try (rw [if_pos (by omega)]; go_simp)
            refine hK _ _ ?_
            exact ⟨fun h => C0 (by simpa using h), fun h => C1 (by simpa using h), fun h => C2 (by simpa using h), fun h => C3 (by simpa using h), fun h => C4 (by simpa using h), fun h => C5 (by simpa using h), fun h => C6 (by simpa using h), fun _ => rfl, fun h h2 => C8 (by simpa using h) (by simpa using h2), fun h => C9 (by simpa using h), fun h => C10 (by simpa using h), fun h => Z10 (by simpa using h), E0, fun h => D (by simpa using h), H0⟩
          · refine stepOk_some (i := 8) (by rfl) (by rfl) ?_
            rintro u L T w' hT hu hL hp hcl ⟨C0, C1, C2, C3, C4, C5, C6, C7, C8, C9, C10, Z10, E0, D, H0⟩ K hK
            have e7 := C7 (hp.of 7 (by kernel_rfl))
            go_simp
            have hx1 : Ext w' (w'.alloc (.cells #[Str pn2, Str pv2] 53)) := Below.alloc (Below.refl _ _) (Nat.le_refl _) _
            refine hK _ _ ?_
            exact ⟨fun h => C0 (by simpa using h), fun h => C1 (by simpa using h), fun h => C2 (by simpa using h), fun h => C3 (by simpa using h), fun h => C4 (by simpa using h), fun h => C5 (by simpa using h), fun h => C6 (by simpa using h), fun h => C7 (by simpa using h), fun _ _ => ⟨_, rfl, Array.getElem?_push_size⟩, fun h => ownz_ext (C9 (by simpa using h)) hx1, fun h => C10 (by simpa using h), fun h => Z10 (by simpa using h), ext_trans (E0) hx1, fun h => ownz_ext (D (by simpa using h)) hx1, ext_at hx1 (H0)⟩
          · refine stepOk_some (i := 9) (by rfl) (by rfl) ?_
            rintro u L T w' hT hu hL hp hcl ⟨C0, C1, C2, C3, C4, C5, C6, C7, C8, C9, C10, Z10, E0, D, H0⟩ K hK
            have e0 := C0 (hp.of 0 (by kernel_rfl))
            obtain ⟨g', e2, hg'⟩ := C8 (hp.of 8 (by kernel_rfl)) hL
            have hown := D hL
            refine step_pushC (W2.heap.size) rfl _ _ 27 53 (by rfl) Tryz.underlying27 infoPair rfl (by omega) (by omega) (us := [Str pn2, Str pv2]) hown rfl (by simp [Str, Value.oneCell']) (by omega) E0.size (by exact (hT _).trans e0) (by exact (hT _).trans e2) hg' ?_
            rintro v' w1 hown1 hgr1
            have hx1 := ext_pushz E0 hown hgr1
            refine hK _ _ ?_
            exact ⟨fun h => C0 (by simpa using h), fun h => C1 (by simpa using h), fun h => C2 (by simpa using h), fun h => C3 (by simpa using h), fun h => C4 (by simpa using h), fun h => C5 (by simpa using h), fun h => C6 (by simpa using h), fun h => C7 (by simpa using h), fun h h2 => absurd h2 (by simp), fun _ => hown1, fun h => absurd h (by simp [hcl.not 10 (by kernel_rfl) hL]), fun h => Z10 (by simpa using h), hx1, fun h => absurd h (by simp), (hgr1.block _ (Array.getElem?_eq_some_iff.1 H0).1 (fun h => HNE.out _ h.symm rfl)).trans H0⟩
          · refine stepOk_some (i := 10) (by rfl) (by rfl) ?_
            rintro u L T w' hT hu hL hp hcl ⟨C0, C1, C2, C3, C4, C5, C6, C7, C8, C9, C10, Z10, E0, D, H0⟩ K hK
            have e9 := C9 (hp.of 9 (by kernel_rfl))
            go_simp
            refine hK _ _ ?_
            exact ⟨fun h => C0 (by simpa using h), fun h => C1 (by simpa using h), fun h => C2 (by simpa using h), fun h => C3 (by simpa using h), fun h => C4 (by simpa using h), fun h => C5 (by simpa using h), fun h => C6 (by simpa using h), fun h => C7 (by simpa using h), fun h h2 => C8 (by simpa using h) (by simpa using h2), fun h => C9 (by simpa using h), fun _ => rfl, fun h => absurd h (by simp), E0, fun h => D (by simpa using h), H0⟩
        · rintro u L w' hall hu ⟨C0, C1, C2, C3, C4, C5, C6, C7, C8, C9, C10, Z10, E0, D, H0⟩
          replace C0 := C0 (hall 0 (by omega))
          replace C1 := C1 (hall 1 (by omega))
          replace C2 := C2 (hall 2 (by omega))
          replace C3 := C3 (hall 3 (by omega))
          replace C4 := C4 (hall 4 (by omega))
          replace C5 := C5 (hall 5 (by omega))
          replace C6 := C6 (hall 6 (by omega))
          replace C7 := C7 (hall 7 (by omega))
          replace C9 := C9 (hall 9 (by omega))
          replace C10 := C10 (hall 10 (by omega))
          simp only [fill, List.setIfInBounds_toArray, List.set_cons_succ, List.set_cons_zero, C0, C1, C2, C3, C4, C5, C6, C7, C10]
          generalize u 27 = s0 at *
          generalize u 28 = s1 at *
          clear C0 C1 C2 C3 C4 C5 C6 C7 C8 C10 Z10 hu hall
        -- end inv
          have HO1 := Lib.hid C9; have HX1 := Lib.hid E0
          clear E0 D H0
          go_wp2
          go_roundw
          case rel => exact ⟨k + 1, by omega, by go_num, Lib.hid (by rw [HS2.out, List.length_append, List.flatMap_append]; simpa using HO1.out), HX1⟩
          case measure => simp [intOf] <;> omega
      · have t1 : decide ((k : Int) < 27) = false := by simp; omega
        have HS2 := Lib.hid (show fewK 27 12 2000 (ls.take (k + 1)) = out by rw [HSN.out, if_neg h12])
        clear HSN h12 HOB
        go_wp2
        have hx5 : Ext wr (wr.alloc (.cells #[Str pn, Str pv] 53)) := Below.alloc (Below.refl _ _) (Nat.le_refl _) _
        go_roundw
        case rel => exact ⟨k + 1, by omega, by go_num, Lib.hid (by rw [HS2.out]; exact ownz_ext HO.out hx5), Lib.hid (ext_trans HXW.out hx5)⟩
        case measure => simp [intOf] <;> omega
    · have hkl : k = ls.length := by omega
      subst hkl
      rw [List.take_length] at HO
      clear HCL HIX hk h3
      have hfl := fewK_len 27 12 2000 ls
      obtain ⟨fs, hfs⟩ : ∃ fs, fewK 27 12 2000 ls = fs := ⟨_, rfl⟩
      rw [hfs] at HO hfl
      have HFS := Lib.hid hfs
      clear hfs
      obtain ⟨po, pcap, hpv, hpc⟩ := ownz_shape HO.out
      subst hpv
      have HBX := Lib.hid (ext_at HXW.out HB1.out)
      have HRS := Lib.hid (ext_at HXW.out HB2.out)
      have hsz := HXW.out.size
      have HSZ := Lib.hid (show w.heap.size + 2 ≤ wr.heap.size by have := HS2W.out; omega)
      have HC1 := Lib.hid (fun W => cutText_any one 100 W (by omega))
      have HC2 := Lib.hid (fun W => cutText_any two 2500 W (by omega))
      clear hsz
      obtain ⟨one2, ho1⟩ : ∃ x, one.take 100 = x := ⟨_, rfl⟩
      rw [ho1] at HC1
      have HO1 := Lib.hid ho1
      clear ho1
      go_wp2
      obtain ⟨gs, hgs⟩ : ∃ gs, wr.heap.size = gs := ⟨_, rfl⟩
      have HGS := Lib.hid hgs
      obtain ⟨b0, hb0⟩ : ∃ b, w.heap.size = b := ⟨_, rfl⟩
      have HB0 := Lib.hid hb0
      rw [hb0] at HBX HRS HSZ ⊢
      have HGB := Lib.hid (show b0 + 2 ≤ gs by have := HSZ.out; omega)
      clear hgs hb0
      -- inv {'ops': [('fa', 30, 2, '.pointer (some ⟨b0, 0, none⟩)', '.pointer (some ⟨b0, 0, none⟩)'), ('lf', 31, 0, 'Str one', 'obtain ⟨d0, d1, d2, d3⟩ := cells4 H0'), ('callq', 32, [1], "HC1.out w'", 'Str one2'), ('fa', 33, 2, '.pointer (some ⟨b0, 0, none⟩)', '.pointer (some ⟨b0, 2, none⟩)'), ('lf', 34, 3, '.int .i64 st', 'obtain ⟨d0, d1, d2, d3⟩ := cells4 H0'), ('mv', 35, 5, '.slice po fs.length pcap'), ('op', 36, [2, 4, 5], '.agg #[Str one2, .string ⟨#[]⟩, .int .i64 st, .slice po fs.length pcap]'), ('al', 8, 'gs', ['.string ⟨#[]⟩', '.string ⟨#[]⟩', '.int .i64 0', '.slice none 0 0'], '29'), ('st', None, [6, 7], 'have hc9 := X1 (hp.of 7 (by kernel_rfl)) hL; have hf9 := frozen_row hc9; have hb9 := (Array.getElem?_eq_some_iff.1 hc9).1; obtain ⟨k0, k1, k2, k3⟩ := cells4 hc9')], 'W': [('E0', "Ext wr w'", 'Below.drew (Below.refl _ _)'), ('H0', "w'.heap[b0]? = some (.cells #[Str one, Str two, .int .i64 st, .slice ao ls.length cap] 29 (0, 0))", 'HBX.out'), ('V0', "L 7 = false → w'.heap.size = gs", 'fun _ => HGS.out'), ('X1', "L 7 = true → L 8 = false → w'.heap[gs]? = some (.cells #[.string ⟨#[]⟩, .string ⟨#[]⟩, .int .i64 0, .slice none 0 0] 29 (0, 0))", '(fun h => by cases h)'), ('Y2', "L 8 = true → w'.heap[gs]? = some (.cells #[Str one2, .string ⟨#[]⟩, .int .i64 st, .slice po fs.length pcap] 29 (0, 0))", '(fun h => by cases h)')], 'over': {7: {'X1': 'fun _ _ => by rw [← hsz]; exact Array.getElem?_push_size', 'Y2': 'fun h => absurd h (by simp [hcl.not 8 (by kernel_rfl) hL])'}, 8: {'E0': 'ext_set (ext_set (ext_set (ext_set E0 (by have := HGS.out; omega)) (by have := HGS.out; omega)) (by have := HGS.out; omega)) (by have := HGS.out; omega)', 'H0': '(Below.heap_setCell _ _ _ _ (by show _ ≠ gs; have := HGB.out; omega)).trans ((Below.heap_setCell _ _ _ _ (by show _ ≠ gs; have := HGB.out; omega)).trans ((Below.heap_setCell _ _ _ _ (by show _ ≠ gs; have := HGB.out; omega)).trans ((Below.heap_setCell _ _ _ _ (by show _ ≠ gs; have := HGB.out; omega)).trans H0)))', 'V0': 'fun h => absurd (hp.of 7 (by kernel_rfl)) (by simp at h; simp [h])', 'X1': 'fun h h2 => absurd h2 (by simp)', 'Y2': 'fun _ => setCell_row (setCell_row (setCell_row (setCell_row hc9 0 _) 1 _) 2 _) 3 _'}}, 'fin': [('Y2', 8)]}
      refine wp_region_any (by kernel_rfl) ?_
      change wpAny _ _ _ _ _ _ _ (World.drew _)
      refine wpAny_inv (n := 9) [30, 31, 32, 33, 34, 35, 36, 8] (fun u L w' =>
          (L 0 = true → u 30 = .pointer (some ⟨b0, 0, none⟩)) ∧
          (L 1 = true → u 31 = Str one) ∧
          (L 2 = true → u 32 = Str one2) ∧
          (L 3 = true → u 33 = .pointer (some ⟨b0, 2, none⟩)) ∧
          (L 4 = true → u 34 = .int .i64 st) ∧
          (L 5 = true → u 35 = .slice po fs.length pcap) ∧
          (L 6 = true → u 36 = .agg #[Str one2, .string ⟨#[]⟩, .int .i64 st, .slice po fs.length pcap]) ∧
          (L 7 = true → u 8 = .pointer (some ⟨gs, 0, none⟩)) ∧
          (Ext wr w') ∧
          (w'.heap[b0]? = some (.cells #[Str one, Str two, .int .i64 st, .slice ao ls.length cap] 29 (0, 0))) ∧
          (L 7 = false → w'.heap.size = gs) ∧
          (L 7 = true → L 8 = false → w'.heap[gs]? = some (.cells #[.string ⟨#[]⟩, .string ⟨#[]⟩, .int .i64 0, .slice none 0 0] 29 (0, 0))) ∧
          (L 8 = true → w'.heap[gs]? = some (.cells #[Str one2, .string ⟨#[]⟩, .int .i64 st, .slice po fs.length pcap] 29 (0, 0))))
        (by rfl) (by kernel_rfl) (by kernel_rfl) (by rfl) ?_ ?_ ?_
      · exact ⟨(fun h => by cases h), (fun h => by cases h), (fun h => by cases h), (fun h => by cases h), (fun h => by cases h), (fun h => by cases h), (fun h => by cases h), (fun h => by cases h), Below.drew (Below.refl _ _), HBX.out, fun _ => HGS.out, (fun h => by cases h), (fun h => by cases h)⟩
      · refine ⟨⟨⟨⟨⟨⟨⟨⟨⟨trivial, ?_⟩, ?_⟩, ?_⟩, ?_⟩, ?_⟩, ?_⟩, ?_⟩, ?_⟩, ?_⟩
        · refine stepOk_some (i := 0) (by rfl) (by rfl) ?_
          rintro u L T w' hT hu hL hp hcl ⟨C0, C1, C2, C3, C4, C5, C6, C7, E0, H0, V0, X1, Y2⟩ K hK
          have e1 : u 2 = .pointer (some ⟨b0, 0, none⟩) := hu 2 (by decide)
          go_simp
          refine hK _ _ ?_
          exact ⟨fun _ => rfl, fun h => C1 (by simpa using h), fun h => C2 (by simpa using h), fun h => C3 (by simpa using h), fun h => C4 (by simpa using h), fun h => C5 (by simpa using h), fun h => C6 (by simpa using h), fun h => C7 (by simpa using h), E0, H0, fun h => V0 (by simpa using h), fun h h2 => X1 (by simpa using h) (by simpa using h2), fun h => Y2 (by simpa using h)⟩
        · refine stepOk_some (i := 1) (by rfl) (by rfl) ?_
          rintro u L T w' hT hu hL hp hcl ⟨C0, C1, C2, C3, C4, C5, C6, C7, E0, H0, V0, X1, Y2⟩ K hK
          have e0 := C0 (hp.of 0 (by kernel_rfl))
          obtain ⟨d0, d1, d2, d3⟩ := cells4 H0
          go_simp
          refine hK _ _ ?_
          exact ⟨fun h => C0 (by simpa using h), fun _ => rfl, fun h => C2 (by simpa using h), fun h => C3 (by simpa using h), fun h => C4 (by simpa using h), fun h => C5 (by simpa using h), fun h => C6 (by simpa using h), fun h => C7 (by simpa using h), E0, H0, fun h => V0 (by simpa using h), fun h h2 => X1 (by simpa using h) (by simpa using h2), fun h => Y2 (by simpa using h)⟩
        · refine stepOk_some (i := 2) (by rfl) (by rfl) ?_
          rintro u L T w' hT hu hL hp hcl ⟨C0, C1, C2, C3, C4, C5, C6, C7, E0, H0, V0, X1, Y2⟩ K hK
          have e1 := C1 (hp.of 1 (by kernel_rfl))
          go_simp
          refine (HC1.out w').mono ?_
          rintro e w1 ⟨he, hx1⟩
          subst w1
          subst he
          refine hK _ _ ?_
          exact ⟨fun h => C0 (by simpa using h), fun h => C1 (by simpa using h), fun _ => rfl, fun h => C3 (by simpa using h), fun h => C4 (by simpa using h), fun h => C5 (by simpa using h), fun h => C6 (by simpa using h), fun h => C7 (by simpa using h), E0, H0, fun h => V0 (by simpa using h), fun h h2 => X1 (by simpa using h) (by simpa using h2), fun h => Y2 (by simpa using h)⟩
        · refine stepOk_some (i := 3) (by rfl) (by rfl) ?_
          rintro u L T w' hT hu hL hp hcl ⟨C0, C1, C2, C3, C4, C5, C6, C7, E0, H0, V0, X1, Y2⟩ K hK
          have e1 : u 2 = .pointer (some ⟨b0, 0, none⟩) := hu 2 (by decide)
          go_simp
          refine hK _ _ ?_
          exact ⟨fun h => C0 (by simpa using h), fun h => C1 (by simpa using h), fun h => C2 (by simpa using h), fun _ => rfl, fun h => C4 (by simpa using h), fun h => C5 (by simpa using h), fun h => C6 (by simpa using h), fun h => C7 (by simpa using h), E0, H0, fun h => V0 (by simpa using h), fun h h2 => X1 (by simpa using h) (by simpa using h2), fun h => Y2 (by simpa using h)⟩
        · refine stepOk_some (i := 4) (by rfl) (by rfl) ?_
          rintro u L T w' hT hu hL hp hcl ⟨C0, C1, C2, C3, C4, C5, C6, C7, E0, H0, V0, X1, Y2⟩ K hK
          have e3 := C3 (hp.of 3 (by kernel_rfl))
          obtain ⟨d0, d1, d2, d3⟩ := cells4 H0
          go_simp
          refine hK _ _ ?_
          exact ⟨fun h => C0 (by simpa using h), fun h => C1 (by simpa using h), fun h => C2 (by simpa using h), fun h => C3 (by simpa using h), fun _ => rfl, fun h => C5 (by simpa using h), fun h => C6 (by simpa using h), fun h => C7 (by simpa using h), E0, H0, fun h => V0 (by simpa using h), fun h h2 => X1 (by simpa using h) (by simpa using h2), fun h => Y2 (by simpa using h)⟩
        · refine stepOk_some (i := 5) (by rfl) (by rfl) ?_
          rintro u L T w' hT hu hL hp hcl ⟨C0, C1, C2, C3, C4, C5, C6, C7, E0, H0, V0, X1, Y2⟩ K hK
          have e1 : u 5 = .slice po fs.length pcap := hu 5 (by decide)
          go_simp
          refine hK _ _ ?_
          exact ⟨fun h => C0 (by simpa using h), fun h => C1 (by simpa using h), fun h => C2 (by simpa using h), fun h => C3 (by simpa using h), fun h => C4 (by simpa using h), fun _ => rfl, fun h => C6 (by simpa using h), fun h => C7 (by simpa using h), E0, H0, fun h => V0 (by simpa using h), fun h h2 => X1 (by simpa using h) (by simpa using h2), fun h => Y2 (by simpa using h)⟩
        · refine stepOk_some (i := 6) (by rfl) (by rfl) ?_
          rintro u L T w' hT hu hL hp hcl ⟨C0, C1, C2, C3, C4, C5, C6, C7, E0, H0, V0, X1, Y2⟩ K hK
          have e2 := C2 (hp.of 2 (by kernel_rfl))
          have e4 := C4 (hp.of 4 (by kernel_rfl))
          have e5 := C5 (hp.of 5 (by kernel_rfl))
          go_simp
          try go_bits
          try (rw [if_neg (by omega)]; go_simp)
          try (rw [if_pos (by omega)]; go_simp)
          refine hK _ _ ?_
          exact ⟨fun h => C0 (by simpa using h), fun h => C1 (by simpa using h), fun h => C2 (by simpa using h), fun h => C3 (by simpa using h), fun h => C4 (by simpa using h), fun h => C5 (by simpa using h), fun _ => rfl, fun h => C7 (by simpa using h), E0, H0, fun h => V0 (by simpa using h), fun h h2 => X1 (by simpa using h) (by simpa using h2), fun h => Y2 (by simpa using h)⟩
        · refine stepOk_some (i := 7) (by rfl) (by rfl) ?_
          rintro u L T w' hT hu hL hp hcl ⟨C0, C1, C2, C3, C4, C5, C6, C7, E0, H0, V0, X1, Y2⟩ K hK
          have hsz := V0 hL
          go_simp
          have hx1 : Ext w' (w'.alloc (.cells #[.string ⟨#[]⟩, .string ⟨#[]⟩, .int .i64 0, .slice none 0 0] 29)) := Below.alloc (Below.refl _ _) (Nat.le_refl _) _
          refine hK _ _ ?_
          exact ⟨fun h => C0 (by simpa using h), fun h => C1 (by simpa using h), fun h => C2 (by simpa using h), fun h => C3 (by simpa using h), fun h => C4 (by simpa using h), fun h => C5 (by simpa using h), fun h => C6 (by simpa using h), fun _ => by rw [← hsz]; rfl, ext_trans (E0) hx1, ext_at hx1 (H0), fun h => absurd h (by simp), fun _ _ => by rw [← hsz]; exact Array.getElem?_push_size, fun h => absurd h (by simp [hcl.not 8 (by kernel_rfl) hL])⟩
        · refine stepOk_none (i := 8) (by rfl) (by rfl) ?_
          rintro u L T w' hT hu hL hp hcl ⟨C0, C1, C2, C3, C4, C5, C6, C7, E0, H0, V0, X1, Y2⟩ K hK
          have e6 := C6 (hp.of 6 (by kernel_rfl))
          have e7 := C7 (hp.of 7 (by kernel_rfl))
          have hc9 := X1 (hp.of 7 (by kernel_rfl)) hL; have hf9 := frozen_row hc9; have hb9 := (Array.getElem?_eq_some_iff.1 hc9).1; obtain ⟨k0, k1, k2, k3⟩ := cells4 hc9
          go_simp
          refine hK _ ?_
          exact ⟨fun h => C0 (by simpa using h), fun h => C1 (by simpa using h), fun h => C2 (by simpa using h), fun h => C3 (by simpa using h), fun h => C4 (by simpa using h), fun h => C5 (by simpa using h), fun h => C6 (by simpa using h), fun h => C7 (by simpa using h), ext_set (ext_set (ext_set (ext_set E0 (by have := HGS.out; omega)) (by have := HGS.out; omega)) (by have := HGS.out; omega)) (by have := HGS.out; omega), (Below.heap_setCell _ _ _ _ (by show _ ≠ gs; have := HGB.out; omega)).trans ((Below.heap_setCell _ _ _ _ (by show _ ≠ gs; have := HGB.out; omega)).trans ((Below.heap_setCell _ _ _ _ (by show _ ≠ gs; have := HGB.out; omega)).trans ((Below.heap_setCell _ _ _ _ (by show _ ≠ gs; have := HGB.out; omega)).trans H0))), fun h => absurd (hp.of 7 (by kernel_rfl)) (by simp at h; simp [h]), fun h h2 => absurd h2 (by simp), fun _ => setCell_row (setCell_row (setCell_row (setCell_row hc9 0 _) 1 _) 2 _) 3 _⟩
      · rintro u L w' hall hu ⟨C0, C1, C2, C3, C4, C5, C6, C7, E0, H0, V0, X1, Y2⟩
        replace Y2 := Y2 (hall 8 (by omega))
        replace C0 := C0 (hall 0 (by omega))
        replace C1 := C1 (hall 1 (by omega))
        replace C2 := C2 (hall 2 (by omega))
        replace C3 := C3 (hall 3 (by omega))
        replace C4 := C4 (hall 4 (by omega))
        replace C5 := C5 (hall 5 (by omega))
        replace C6 := C6 (hall 6 (by omega))
        replace C7 := C7 (hall 7 (by omega))
        simp only [fill, List.setIfInBounds_toArray, List.set_cons_succ, List.set_cons_zero, C0, C1, C2, C3, C4, C5, C6, C7]
        clear C0 C1 C2 C3 C4 C5 C6 C7 hu hall
      -- end inv
        have HE := Lib.hid E0; have HY := Lib.hid Y2; have HBX2 := Lib.hid H0
        have HRS2 := Lib.hid (ext_at E0 HRS.out)
        have HOW := Lib.hid (ownz_ext HO.out E0)
        clear E0 H0 V0 X1 Y2
        cases asks with
        | true =>
          have hfy := frozen_row HY.out
          have hby := (Array.getElem?_eq_some_iff.1 HY.out).1
          obtain ⟨c0, c1, c2, c3⟩ := cells4 HY.out
          obtain ⟨k0, k1, k2, k3⟩ := cells4 HBX2.out
          go_upto_region 11 with (go_at_call 27; refine (HC2.out _).mono ?_; rintro e w1 ⟨rfl, hw⟩; subst w1)
          obtain ⟨two2, ho2⟩ : ∃ x, two.take 2500 = x := ⟨_, rfl⟩
          rw [ho2]
          have HO2 := Lib.hid ho2
          clear ho2
          have q1 := setCell_row (setCell_row HY.out 1 (.string ⟨two2.toArray⟩)) 2 (.int .i64 0)
          have q2 := (Below.heap_setCell (w'.setCell ⟨gs, 1, none⟩ (.string ⟨two2.toArray⟩)) ⟨gs, 2, none⟩ (.int .i64 0) (b0 + 1) (by show _ ≠ gs; have := HGB.out; omega)).trans ((Below.heap_setCell w' ⟨gs, 1, none⟩ (.string ⟨two2.toArray⟩) (b0 + 1) (by show _ ≠ gs; have := HGB.out; omega)).trans HRS2.out)
          have q3 : Chg (fun q => q = gs) w' ((w'.setCell ⟨gs, 1, none⟩ (.string ⟨two2.toArray⟩)).setCell ⟨gs, 2, none⟩ (.int .i64 0)) := (Chg.setCell w' ⟨gs, 1, none⟩ _).trans (Chg.setCell _ ⟨gs, 2, none⟩ _)
          generalize (World.setCell (World.setCell _ _ _) _ _) = W10 at *
          have HOWX := Lib.hid (ownz_keep HOW.out fun g hg1 hg hk => q3.block g (kind_lt hk) (by show ¬ g = gs; have := HO.out.lt g hg1; have := HGS.out; omega))
          have HE10 := Lib.hid (below_chg HE.out q3 (fun k hk => by have hk' : k = gs := hk; have := HGS.out; omega) (Nat.le_refl _))
          have HR10 := Lib.hid q2
          have hfr := frozen_row q2
          have hbr := (Array.getElem?_eq_some_iff.1 q2).1
          obtain ⟨r0, r1, r2, r3⟩ := cells4 q2
          obtain ⟨c0, c1, c2, c3⟩ := cells4 q1
          clear q1 q2 q3 k0 k1 k2 k3
          go_wp2
          obtain ⟨W9, hW9, hst, hch⟩ := set4 HR10.out (.string ⟨one2.toArray⟩) (.string ⟨two2.toArray⟩) (.int .i64 0) (.slice po fs.length pcap)
          rw [hW9]
          obtain ⟨e0', e1', e2', e3'⟩ := cells4 hst
          refine bodyPost_ret (v := .agg #[Str one2, Str two2, .int .i64 0, .slice po fs.length pcap]) (by simp [results, Tryz.results14, go_sem, e0', e1', e2', e3']) rfl ⟨_, by rw [HO1.out, HO2.out], ?_, ?_⟩
          · rw [HFS.out]
            exact ownz_base (ownz_keep HOWX.out fun g hg1 hg hk => hch.block g (kind_lt hk) (by show ¬ g = b0 + 1; have := HS2W.out; have := HB0.out; omega)) (by have := HS2W.out; omega)
          · exact below_chg (ext_trans HX2.out (ext_trans HXW.out HE10.out)) hch (fun k hk => by have hk' : k = b0 + 1 := hk; have := HB0.out; omega) (Nat.le_refl _)
        | false =>
          obtain ⟨c0, c1, c2, c3⟩ := cells4 HY.out
          have hfr := frozen_row HRS2.out
          have hbr := (Array.getElem?_eq_some_iff.1 HRS2.out).1
          obtain ⟨r0, r1, r2, r3⟩ := cells4 HRS2.out
          go_wp2
          obtain ⟨W9, hW9, hst, hch⟩ := set4 HRS2.out (.string ⟨one2.toArray⟩) (.string ⟨#[]⟩) (.int .i64 st) (.slice po fs.length pcap)
          rw [hW9]
          obtain ⟨e0', e1', e2', e3'⟩ := cells4 hst
          refine bodyPost_ret (v := .agg #[Str one2, Str [], .int .i64 st, .slice po fs.length pcap]) (by simp [results, Tryz.results14, go_sem, e0', e1', e2', e3']) rfl ⟨_, by rw [HO1.out], ?_, ?_⟩
          · rw [HFS.out]
            exact ownz_base (ownz_keep HOW.out fun g hg1 hg hk => hch.block g (kind_lt hk) (by show ¬ g = b0 + 1; have := HS2W.out; have := HB0.out; omega)) (by have := HS2W.out; omega)
          · exact below_chg (ext_trans HX2.out (ext_trans HXW.out HE.out)) hch (fun k hk => by have hk' : k = b0 + 1 := hk; have := HB0.out; omega) (Nat.le_refl _)
end Go.Proofs.YtmflnffjhfejhaaGreatDoor
