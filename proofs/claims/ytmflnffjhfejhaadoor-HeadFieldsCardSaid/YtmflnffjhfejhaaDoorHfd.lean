/-
  HeadFields: its first loop.
-/
import Derived.BigGuardPart
import Derived.Deep.DrawnRows
import Derived.Test.YtmflnffjhfejhaaDoorRows
import Derived.Test.YtmflnffjhfejhaaDoorHaw
import Derived.Test.YtmflnffjhfejhaaDoorFco
import Derived.Test.YtmflnffjhfejhaaDoorFfi
import Derived.Test.YtmflnffjhfejhaaDoorFeq
import Derived.Test.YtmflnffjhfejhaaDoorOpp
import Derived.Test.YtmflnffjhfejhaaDoorKit
namespace Go.Proofs.YtmflnffjhfejhaaDoor
open Go.RowKit
set_option maxRecDepth 100000
attribute [local go_sem ↓] Go.wp_at_zero Go.wp_at_succ
set_option linter.unusedVariables false
set_option linter.unusedSimpArgs false

def cutP (p : Pr) : Pr := ⟨p.n.take 12, p.v.take 20⟩
def fewP (fs : List Pr) : List Pr := (fs.take 12).map cutP
theorem fewP_snoc (fs : List Pr) (k : Nat) (h : k < fs.length) : fewP (fs.take (k + 1)) = if k < 12 then fewP (fs.take k) ++ [cutP (fs.getD k prD)] else fewP (fs.take k) := by
  unfold fewP
  rw [List.take_take, List.take_take]
  split
  · rename_i hk
    rw [show min 12 (k + 1) = k + 1 by omega, show min 12 k = k by omega, List.take_succ_eq_append_getElem h, List.map_append, List.map_singleton, show fs.getD k prD = fs[k] by simp [List.getD, h]]
  · rw [show min 12 (k + 1) = 12 by omega, show min 12 k = 12 by omega]
theorem fewP_len (fs : List Pr) : (fewP fs).length ≤ 12 := by unfold fewP; simp; omega
theorem fewP_b (fs : List Pr) : PrB (fewP fs) := by
  intro p hp
  unfold fewP at hp
  obtain ⟨q, _, rfl⟩ := List.mem_map.1 hp
  simp [cutP]; omega
/-- An iterator of head.Get, as it lies. -/
def GetV (w : World) (u v : Value) (nm : List UInt8) : Prop := ∃ bx nx, u = .func (.func 38) #[] #[.pointer (some ⟨bx, 0, none⟩), .pointer (some ⟨nx, 0, none⟩)] ∧ w.heap[bx]? = some (.cells #[v] 28 (0, 0)) ∧ w.heap[nx]? = some (.cells #[Str nm] 9 (0, 0))
theorem GetV.ext {w w' : World} {u v : Value} {nm : List UInt8} (h : GetV w u v nm) (hx : Ext w w') : GetV w' u v nm := by
  obtain ⟨bx, nx, hu, h1, h2⟩ := h
  exact ⟨bx, nx, hu, ext_at hx h1, ext_at hx h2⟩
theorem getv_any (v : Value) (nm : List UInt8) (ao : Option Addr) (n cap : Nat) (hv : v = .slice ao n cap) (w : World) :
    Calls Tryd.prog 22 #[v, Str nm] w fun e w' => ∃ v', e = .returned v' ∧ GetV w' v' v nm ∧ Ext w w' := by
  refine (get_any v nm ao n cap hv w).mono ?_
  rintro e w' ⟨he, hw⟩
  subst hw
  refine ⟨_, he, ⟨_, _, rfl, ?_, ?_⟩, allocs_ext _ _⟩
  · exact allocs_at w _ 0 _ rfl
  · exact allocs_at w _ 1 _ rfl
set_option maxHeartbeats 4000000 in
theorem fields_card (w : World) (v : Value) (ls : List Pr) (hr : RowP w v ls) (hb : ∀ x ∈ ls, TruePr x) (nm0 : List UInt8) (a2 : Int) (ha : 0 ≤ a2) (ha2 : a2 ≤ 255) (hL : Lb w) :
    Calls Tryd.prog 6 #[v, Str nm0, .int .u8 a2] w fun e w' => e = .returned (.bool true) ∧ Ext w w' := by
  have HAW := Lib.hid (awake_law w hL)
  obtain ⟨ao, cap, hv, hcap, hmax, hcl⟩ := rowP_shape hr
  unfold maxLen at hmax
  subst hv
  have HCL := Lib.hid hcl
  have HIX := Lib.hid (fun g o j h W => index_pair g o ls.length cap j h W)
  clear hcl hr hb
  obtain ⟨j, hj, hj3⟩ : ∃ j : Nat, a2.tmod 3 = (j : Int) ∧ j < 3 := by
    refine ⟨(a2 % 3).toNat, ?_, ?_⟩
    · rw [Int.tmod_eq_emod_of_nonneg ha]; omega
    · omega
  have hj' : a2 % 3 = (j : Int) := by rw [← Int.tmod_eq_emod_of_nonneg ha]; exact hj
  go_enter Tryd.func6, Tryd.ntmps6
  go_wp2_with (go_at_call 7; refine HAW.out.mono ?_; rintro e W1 ⟨he, hx⟩; subst he; have HX := Lib.hid hx; clear hx; refine Hid.out ?_)
  refine Lib.hid ?_
  go_wp2
  go_loopw [7, 20] (fun o i wr => ∃ k : Nat, k ≤ ls.length ∧ i = .int .i64 k ∧ Hid (wr.ownsRow w.heap.size 44 2 o (fewP (ls.take k)).length ((fewP (ls.take k)).flatMap prC)) ∧ Hid (Ext w wr)) (fun _ i _ => ls.length - (intOf i).toNat)
  case atStart => exact ⟨0, by omega, rfl, Lib.hid (by simpa [fewP] using World.ownsRow_nil _ _ _ _), HX⟩
  case round =>
    obtain ⟨k, hk, rfl, HO, HXW⟩ := hrel
    by_cases h3 : k < ls.length
    · rcases HCL.out with h | ⟨g, o, rfl, hcc⟩
      · subst h; simp at h3
      obtain ⟨a0, a1⟩ := hcc k h3
      replace a0 := ext_cell HXW.out a0; replace a1 := ext_cell HXW.out a1
      have i1 := HIX.out g o k h3
      have HSN := Lib.hid (fewP_snoc ls k h3)
      have hfl := fewP_len (ls.take k)
      obtain ⟨po, pcap, hpv, _⟩ := ownz_shape HO.out
      subst hpv
      have hob : ∀ q, (Value.slice po (fewP (ls.take k)).length pcap).ownBlock = some q → q < wr.heap.size := fun q hq => (HO.out.lt q hq).2
      generalize fewP (ls.take k) = out at *
      generalize ls.getD k prD = p at *
      generalize o + 2 * k = q at *
      obtain ⟨pn, pv⟩ := p
      simp only at a0 a1
      have HC1 := Lib.hid (fun W => cutText_any pn 12 W (by omega))
      have HC2 := Lib.hid (fun W => cutText_any pv 20 W (by omega))
      have HOB := Lib.hid hob
      clear hcc hob
      by_cases h12 : k < 12
      · have t1 : decide ((k : Int) < 12) = true := by simp; omega
        have HS2 := Lib.hid (show fewP (ls.take (k + 1)) = out ++ [⟨pn.take 12, pv.take 20⟩] by rw [HSN.out, if_pos h12]; rfl)
        clear HSN h12
        generalize pn.take 12 = pn2 at *
        generalize pv.take 20 = pv2 at *
        go_wp2
        obtain ⟨W5, hW5⟩ : ∃ W5, wr.alloc (.cells #[Str pn, Str pv] 44) = W5 := ⟨_, rfl⟩
        have hx5 : Ext wr W5 := by rw [← hW5]; exact Below.alloc (Below.refl _ _) (Nat.le_refl _) _
        have n1 : W5.heap[wr.heap.size]? = some (.cells #[Str pn, Str pv] 44 (0, 0)) := by rw [← hW5]; exact Array.getElem?_push_size
        rw [hW5]
        have HR5 := Lib.hid (show W5.drew.ownsRow w.heap.size 44 2 (.slice po out.length pcap) out.length (out.flatMap prC) from ownz_ext HO.out (ext_trans hx5 (Below.drew (Below.refl _ _))))
        have HX5 := Lib.hid (show Ext w W5.drew from Below.drew (ext_trans HXW.out hx5))
        have HN5 := Lib.hid n1
        have HNE := Lib.hid (show ∀ q, (Value.slice po out.length pcap).ownBlock = some q → q ≠ wr.heap.size from fun q hq e => by have := HOB.out q hq; omega)
        clear HOB
        generalize wr.heap.size = gg at *
        clear hW5 hx5 n1 HO a0 a1
        -- inv {'ops': [('mo',27,7,10,'.slice po out.length pcap'),('fa',28,9,'.pointer (some ⟨gg, 0, none⟩)','.pointer (some ⟨gg, 0, none⟩)'),('lf',29,1,'Str pn','obtain ⟨d0, d1⟩ := cells2 H0'),('callq',30,[2],"HC1.out w'",'Str pn2'),('fa',31,9,'.pointer (some ⟨gg, 0, none⟩)','.pointer (some ⟨gg, 1, none⟩)'),('lf',32,4,'Str pv','obtain ⟨d0, d1⟩ := cells2 H0'),('callq',33,[5],"HC2.out w'",'Str pv2'),('op',34,[3,6],'.agg #[Str pn2, Str pv2]'),('bs',35,[7],['Str pn2','Str pv2'],'44',9,1),('apd',36,8,0,'.slice po out.length pcap','w.heap.size','44','2','28','infoPair','[Str pn2, Str pv2]','out.length','(out.flatMap prC)'),('as',7,9,'u 36','.slice po out.length pcap')], 'W': [('E0',"Ext w w'",'HX5.out'),('D',"L 9 = false → w'.ownsRow w.heap.size 44 2 (.slice po out.length pcap) out.length (out.flatMap prC)",'fun _ => HR5.out'),('H0',"w'.heap[gg]? = some (.cells #[Str pn, Str pv] 44 (0, 0))",'HN5.out')]}
        refine wp_region_any (by kernel_rfl) ?_
        change wpAny _ _ _ _ _ _ _ (World.drew _)
        refine wpAny_inv (n := 11) [27, 28, 29, 30, 31, 32, 33, 34, 35, 36, 7] (fun u L w' =>
            (L 0 = true → u 27 = .slice po out.length pcap) ∧
            (L 1 = true → u 28 = .pointer (some ⟨gg, 0, none⟩)) ∧
            (L 2 = true → u 29 = Str pn) ∧
            (L 3 = true → u 30 = Str pn2) ∧
            (L 4 = true → u 31 = .pointer (some ⟨gg, 1, none⟩)) ∧
            (L 5 = true → u 32 = Str pv) ∧
            (L 6 = true → u 33 = Str pv2) ∧
            (L 7 = true → u 34 = .agg #[Str pn2, Str pv2]) ∧
            (L 8 = true → L 9 = false → ∃ g', u 35 = .slice (some ⟨g', 0, none⟩) 1 1 ∧ w'.heap[g']? = some (.cells #[Str pn2, Str pv2] 44 (0, 0))) ∧
            (L 9 = true → w'.ownsRow (w.heap.size) 44 2 (u 36) (out.length + 1) ((out.flatMap prC) ++ [Str pn2, Str pv2])) ∧
            (L 10 = true → u 7 = u 36) ∧
            (L 10 = false → u 7 = .slice po out.length pcap) ∧
            (Ext w w') ∧
            (L 9 = false → w'.ownsRow w.heap.size 44 2 (.slice po out.length pcap) out.length (out.flatMap prC)) ∧
            (w'.heap[gg]? = some (.cells #[Str pn, Str pv] 44 (0, 0))))
          (by rfl) (by kernel_rfl) (by kernel_rfl) (by rfl) ?_ ?_ ?_
        · exact ⟨(fun h => by cases h), (fun h => by cases h), (fun h => by cases h), (fun h => by cases h), (fun h => by cases h), (fun h => by cases h), (fun h => by cases h), (fun h => by cases h), (fun h => by cases h), (fun h => by cases h), (fun h => by cases h), (fun _ => rfl), HX5.out, fun _ => HR5.out, HN5.out⟩
        · refine ⟨⟨⟨⟨⟨⟨⟨⟨⟨⟨⟨trivial, ?_⟩, ?_⟩, ?_⟩, ?_⟩, ?_⟩, ?_⟩, ?_⟩, ?_⟩, ?_⟩, ?_⟩, ?_⟩
          · refine stepOk_some (i := 0) (by rfl) (by rfl) ?_
            rintro u L T w' hT hu hL hp hcl ⟨C0, C1, C2, C3, C4, C5, C6, C7, C8, C9, C10, Z10, E0, D, H0⟩ K hK
            have e1 := Z10 (hcl.not 10 (by kernel_rfl) hL)
            go_simp
            refine hK _ _ ?_
            exact ⟨fun _ => rfl, fun h => C1 (by simpa using h), fun h => C2 (by simpa using h), fun h => C3 (by simpa using h), fun h => C4 (by simpa using h), fun h => C5 (by simpa using h), fun h => C6 (by simpa using h), fun h => C7 (by simpa using h), fun h h2 => C8 (by simpa using h) (by simpa using h2), fun h => C9 (by simpa using h), fun h => C10 (by simpa using h), fun h => Z10 (by simpa using h), E0, fun h => D (by simpa using h), H0⟩
          · refine stepOk_some (i := 1) (by rfl) (by rfl) ?_
            rintro u L T w' hT hu hL hp hcl ⟨C0, C1, C2, C3, C4, C5, C6, C7, C8, C9, C10, Z10, E0, D, H0⟩ K hK
            have e1 : u 9 = .pointer (some ⟨gg, 0, none⟩) := hu 9 (by decide)
            go_simp
            refine hK _ _ ?_
            exact ⟨fun h => C0 (by simpa using h), fun _ => rfl, fun h => C2 (by simpa using h), fun h => C3 (by simpa using h), fun h => C4 (by simpa using h), fun h => C5 (by simpa using h), fun h => C6 (by simpa using h), fun h => C7 (by simpa using h), fun h h2 => C8 (by simpa using h) (by simpa using h2), fun h => C9 (by simpa using h), fun h => C10 (by simpa using h), fun h => Z10 (by simpa using h), E0, fun h => D (by simpa using h), H0⟩
          · refine stepOk_some (i := 2) (by rfl) (by rfl) ?_
            rintro u L T w' hT hu hL hp hcl ⟨C0, C1, C2, C3, C4, C5, C6, C7, C8, C9, C10, Z10, E0, D, H0⟩ K hK
            have e1 := C1 (hp.of 1 (by kernel_rfl))
            obtain ⟨d0, d1⟩ := cells2 H0
            go_simp
            refine hK _ _ ?_
            exact ⟨fun h => C0 (by simpa using h), fun h => C1 (by simpa using h), fun _ => rfl, fun h => C3 (by simpa using h), fun h => C4 (by simpa using h), fun h => C5 (by simpa using h), fun h => C6 (by simpa using h), fun h => C7 (by simpa using h), fun h h2 => C8 (by simpa using h) (by simpa using h2), fun h => C9 (by simpa using h), fun h => C10 (by simpa using h), fun h => Z10 (by simpa using h), E0, fun h => D (by simpa using h), H0⟩
          · refine stepOk_some (i := 3) (by rfl) (by rfl) ?_
            rintro u L T w' hT hu hL hp hcl ⟨C0, C1, C2, C3, C4, C5, C6, C7, C8, C9, C10, Z10, E0, D, H0⟩ K hK
            have e2 := C2 (hp.of 2 (by kernel_rfl))
            go_simp
            refine (HC1.out w').mono ?_
            rintro e w1 ⟨he, hx1⟩
            subst w1
            subst he
            refine hK _ _ ?_
            exact ⟨fun h => C0 (by simpa using h), fun h => C1 (by simpa using h), fun h => C2 (by simpa using h), fun _ => rfl, fun h => C4 (by simpa using h), fun h => C5 (by simpa using h), fun h => C6 (by simpa using h), fun h => C7 (by simpa using h), fun h h2 => C8 (by simpa using h) (by simpa using h2), fun h => C9 (by simpa using h), fun h => C10 (by simpa using h), fun h => Z10 (by simpa using h), E0, fun h => D (by simpa using h), H0⟩
          · refine stepOk_some (i := 4) (by rfl) (by rfl) ?_
            rintro u L T w' hT hu hL hp hcl ⟨C0, C1, C2, C3, C4, C5, C6, C7, C8, C9, C10, Z10, E0, D, H0⟩ K hK
            have e1 : u 9 = .pointer (some ⟨gg, 0, none⟩) := hu 9 (by decide)
            go_simp
            refine hK _ _ ?_
            exact ⟨fun h => C0 (by simpa using h), fun h => C1 (by simpa using h), fun h => C2 (by simpa using h), fun h => C3 (by simpa using h), fun _ => rfl, fun h => C5 (by simpa using h), fun h => C6 (by simpa using h), fun h => C7 (by simpa using h), fun h h2 => C8 (by simpa using h) (by simpa using h2), fun h => C9 (by simpa using h), fun h => C10 (by simpa using h), fun h => Z10 (by simpa using h), E0, fun h => D (by simpa using h), H0⟩
          · refine stepOk_some (i := 5) (by rfl) (by rfl) ?_
            rintro u L T w' hT hu hL hp hcl ⟨C0, C1, C2, C3, C4, C5, C6, C7, C8, C9, C10, Z10, E0, D, H0⟩ K hK
            have e4 := C4 (hp.of 4 (by kernel_rfl))
            obtain ⟨d0, d1⟩ := cells2 H0
            go_simp
            refine hK _ _ ?_
            exact ⟨fun h => C0 (by simpa using h), fun h => C1 (by simpa using h), fun h => C2 (by simpa using h), fun h => C3 (by simpa using h), fun h => C4 (by simpa using h), fun _ => rfl, fun h => C6 (by simpa using h), fun h => C7 (by simpa using h), fun h h2 => C8 (by simpa using h) (by simpa using h2), fun h => C9 (by simpa using h), fun h => C10 (by simpa using h), fun h => Z10 (by simpa using h), E0, fun h => D (by simpa using h), H0⟩
          · refine stepOk_some (i := 6) (by rfl) (by rfl) ?_
            rintro u L T w' hT hu hL hp hcl ⟨C0, C1, C2, C3, C4, C5, C6, C7, C8, C9, C10, Z10, E0, D, H0⟩ K hK
            have e5 := C5 (hp.of 5 (by kernel_rfl))
            go_simp
            refine (HC2.out w').mono ?_
            rintro e w1 ⟨he, hx1⟩
            subst w1
            subst he
            refine hK _ _ ?_
            exact ⟨fun h => C0 (by simpa using h), fun h => C1 (by simpa using h), fun h => C2 (by simpa using h), fun h => C3 (by simpa using h), fun h => C4 (by simpa using h), fun h => C5 (by simpa using h), fun _ => rfl, fun h => C7 (by simpa using h), fun h h2 => C8 (by simpa using h) (by simpa using h2), fun h => C9 (by simpa using h), fun h => C10 (by simpa using h), fun h => Z10 (by simpa using h), E0, fun h => D (by simpa using h), H0⟩
          · refine stepOk_some (i := 7) (by rfl) (by rfl) ?_
            rintro u L T w' hT hu hL hp hcl ⟨C0, C1, C2, C3, C4, C5, C6, C7, C8, C9, C10, Z10, E0, D, H0⟩ K hK
            have e3 := C3 (hp.of 3 (by kernel_rfl))
            have e6 := C6 (hp.of 6 (by kernel_rfl))
            go_simp
            try go_bits
            try (rw [if_neg (by omega)]; go_simp)
            refine hK _ _ ?_
            exact ⟨fun h => C0 (by simpa using h), fun h => C1 (by simpa using h), fun h => C2 (by simpa using h), fun h => C3 (by simpa using h), fun h => C4 (by simpa using h), fun h => C5 (by simpa using h), fun h => C6 (by simpa using h), fun _ => rfl, fun h h2 => C8 (by simpa using h) (by simpa using h2), fun h => C9 (by simpa using h), fun h => C10 (by simpa using h), fun h => Z10 (by simpa using h), E0, fun h => D (by simpa using h), H0⟩
          · refine stepOk_some (i := 8) (by rfl) (by rfl) ?_
            rintro u L T w' hT hu hL hp hcl ⟨C0, C1, C2, C3, C4, C5, C6, C7, C8, C9, C10, Z10, E0, D, H0⟩ K hK
            have e7 := C7 (hp.of 7 (by kernel_rfl))
            go_simp
            have hx1 : Ext w' (w'.alloc (.cells #[Str pn2, Str pv2] 44)) := Below.alloc (Below.refl _ _) (Nat.le_refl _) _
            refine hK _ _ ?_
            exact ⟨fun h => C0 (by simpa using h), fun h => C1 (by simpa using h), fun h => C2 (by simpa using h), fun h => C3 (by simpa using h), fun h => C4 (by simpa using h), fun h => C5 (by simpa using h), fun h => C6 (by simpa using h), fun h => C7 (by simpa using h), fun _ _ => ⟨_, rfl, Array.getElem?_push_size⟩, fun h => ownz_ext (C9 (by simpa using h)) hx1, fun h => C10 (by simpa using h), fun h => Z10 (by simpa using h), ext_trans (E0) hx1, fun h => ownz_ext (D (by simpa using h)) hx1, ext_at hx1 (H0)⟩
          · refine stepOk_some (i := 9) (by rfl) (by rfl) ?_
            rintro u L T w' hT hu hL hp hcl ⟨C0, C1, C2, C3, C4, C5, C6, C7, C8, C9, C10, Z10, E0, D, H0⟩ K hK
            have e0 := C0 (hp.of 0 (by kernel_rfl))
            obtain ⟨g', e2, hg'⟩ := C8 (hp.of 8 (by kernel_rfl)) hL
            have hown := D hL
            refine step_pushC (w.heap.size) rfl _ _ 28 44 (by rfl) Tryd.underlying28 infoPair rfl (by omega) (by omega) (us := [Str pn2, Str pv2]) hown rfl (by simp [Str, Value.oneCell']) (by omega) E0.size (by exact (hT _).trans e0) (by exact (hT _).trans e2) hg' ?_
            rintro v' w1 hown1 hgr1
            have hx1 := ext_pushz E0 hown hgr1
            refine hK _ _ ?_
            exact ⟨fun h => C0 (by simpa using h), fun h => C1 (by simpa using h), fun h => C2 (by simpa using h), fun h => C3 (by simpa using h), fun h => C4 (by simpa using h), fun h => C5 (by simpa using h), fun h => C6 (by simpa using h), fun h => C7 (by simpa using h), fun h h2 => absurd h2 (by simp), fun _ => hown1, fun h => absurd h (by simp [hcl.not 10 (by kernel_rfl) hL]), fun h => Z10 (by simpa using h), hx1, fun h => absurd h (by simp), (hgr1.block _ (Array.getElem?_eq_some_iff.1 H0).1 (fun h => HNE.out _ h.symm rfl)).trans H0⟩
          · refine stepOk_some (i := 10) (by rfl) (by rfl) ?_
            rintro u L T w' hT hu hL hp hcl ⟨C0, C1, C2, C3, C4, C5, C6, C7, C8, C9, C10, Z10, E0, D, H0⟩ K hK
            have e9 := C9 (hp.of 9 (by kernel_rfl))
            go_simp
            refine hK _ _ ?_
            exact ⟨fun h => C0 (by simpa using h), fun h => C1 (by simpa using h), fun h => C2 (by simpa using h), fun h => C3 (by simpa using h), fun h => C4 (by simpa using h), fun h => C5 (by simpa using h), fun h => C6 (by simpa using h), fun h => C7 (by simpa using h), fun h h2 => C8 (by simpa using h) (by simpa using h2), fun h => C9 (by simpa using h), fun _ => rfl, fun h => absurd h (by simp), E0, fun h => D (by simpa using h), H0⟩
        · rintro u L w' hall hu ⟨C0, C1, C2, C3, C4, C5, C6, C7, C8, C9, C10, Z10, E0, D, H0⟩
          replace C0 := C0 (hall 0 (by omega))
          replace C1 := C1 (hall 1 (by omega))
          replace C2 := C2 (hall 2 (by omega))
          replace C3 := C3 (hall 3 (by omega))
          replace C4 := C4 (hall 4 (by omega))
          replace C5 := C5 (hall 5 (by omega))
          replace C6 := C6 (hall 6 (by omega))
          replace C7 := C7 (hall 7 (by omega))
          replace C9 := C9 (hall 9 (by omega))
          replace C10 := C10 (hall 10 (by omega))
          simp only [fill, List.setIfInBounds_toArray, List.set_cons_succ, List.set_cons_zero, C0, C1, C2, C3, C4, C5, C6, C7, C10]
          generalize u 35 = s0 at *
          generalize u 36 = s1 at *
          clear C0 C1 C2 C3 C4 C5 C6 C7 C8 C10 Z10 hu hall
        -- end inv
          have HO1 := Lib.hid C9; have HX1 := Lib.hid E0
          clear E0 D H0
          go_wp2
          go_roundw
          case rel => exact ⟨k + 1, by omega, by go_num, Lib.hid (by rw [HS2.out, List.length_append, List.flatMap_append]; simpa using HO1.out), HX1⟩
          case measure => simp [intOf] <;> omega
      · have t1 : decide ((k : Int) < 12) = false := by simp; omega
        have HS2 := Lib.hid (show fewP (ls.take (k + 1)) = out by rw [HSN.out, if_neg h12])
        clear HSN h12 HOB
        go_wp2
        have hx5 : Ext wr (wr.alloc (.cells #[Str pn, Str pv] 44)) := Below.alloc (Below.refl _ _) (Nat.le_refl _) _
        go_roundw
        case rel => exact ⟨k + 1, by omega, by go_num, Lib.hid (by rw [HS2.out]; exact ownz_ext HO.out hx5), Lib.hid (ext_trans HXW.out hx5)⟩
        case measure => simp [intOf] <;> omega
    · have hkl : k = ls.length := by omega
      subst hkl
      rw [List.take_length] at HO
      have hfl := fewP_len ls
      have HFB := Lib.hid (fewP_b ls)
      clear HCL HIX hk h3
      generalize fewP ls = fs at *
      have HR0 := Lib.hid (rowC_of_own prC_len HO.out)
      obtain ⟨po, pcap, hpv, hpc⟩ := ownz_shape HO.out
      subst hpv
      have hn12 : (nm0.take 12).length ≤ 12 := by rw [List.length_take]; omega
      have HCN := Lib.hid (fun W => cutText_any nm0 12 W (by omega))
      generalize nm0.take 12 = nm at *
      have HRG := Lib.hid (fun W (hx : Ext wr W) => refGet_any (.slice po fs.length pcap) fs nm (by omega) HFB.out (by omega) W (HR0.out.ext hx))
      have HFI := Lib.hid (fun W (hx : Ext wr W) => first_any (.slice po fs.length pcap) fs nm (by omega) HFB.out (by omega) W (HR0.out.ext hx))
      have HX0 := Lib.hid (Below.refl wr.heap.size wr : Ext wr wr)
      clear HO
      go_wp2_with fail
      refine (HCN.out _).mono ?_
      rintro e W1 ⟨he, hw⟩
      subst he
      subst W1
      go_wp2_with fail
      refine Calls.mono (HRG.out _ HX0.out) ?_
      rintro e W2 ⟨gv, he, hown, hx2⟩
      subst he
      have hgl := getL_len fs nm
      have HGS := Lib.hid (sl_of_own hown)
      obtain ⟨ga, gcap, hgv, hgc⟩ := ownz_shape hown
      subst hgv
      have HX2 := Lib.hid hx2
      clear hown hx2
      go_wp2_with fail
      refine Calls.mono (HFI.out _ HX2.out) ?_
      rintro e W3 ⟨he, hx3⟩
      have HX3 := Lib.hid (ext_trans HX2.out hx3)
      have HGS3 := Lib.hid (HGS.out.ext hx3)
      clear hx3 HGS
      unfold firstE at he
      subst he
      have hlL : (getL fs nm).length ≤ 1000 := by omega
      have HVA : Hid (∀ W, Ext wr W → Calls Tryd.prog 23 #[.slice po fs.length pcap, Str nm, .int .i64 (1 + (j : Int))] W fun e w' => ∃ v', e = .returned v' ∧ Sl w' v' (((getL fs nm).take (1 + j)).map Str) ∧ Ext W w') := Lib.hid (fun W hx => by
        have h := values_any (.slice po fs.length pcap) fs nm (by omega) HFB.out (by omega) (1 + j) (by omega) W (HR0.out.ext hx)
        rw [show ((1 + j : Nat) : Int) = 1 + (j : Int) by omega] at h
        refine h.mono ?_
        rintro e w' ⟨v', he, hr, hx⟩
        exact ⟨v', he, sl_of_own hr, hx⟩)
      have HCO : Hid (∀ W u, Ext wr W → GetV W u (.slice po fs.length pcap) nm → Calls Tryd.prog 21 #[u] W fun e w' => ∃ v', e = .returned v' ∧ Sl w' v' ((getL fs nm).map Str) ∧ Ext W w') := Lib.hid (fun W u hx hu => by
        obtain ⟨bx, nx, rfl, h1, h2⟩ := hu
        refine (collect_any (.slice po fs.length pcap) fs nm (by omega) HFB.out (by omega) bx nx W h1 h2 (HR0.out.ext hx)).mono ?_
        rintro e w' ⟨v', he, hr, hx⟩
        exact ⟨v', he, sl_of_own hr, hx⟩)
      have HGE := Lib.hid (fun W => getv_any (.slice po fs.length pcap) nm po fs.length pcap rfl W)
      have HF1 := Lib.hid (fun (p : Pr) (h : p ∈ fs) W => fold_any p.n nm (HFB.out p h).1 (by omega) W)
      have HF2 := Lib.hid (fun (p : Pr) (h : p ∈ fs) W => foldR_any p.n nm (HFB.out p h).1 (by omega) W)
      clear HRG HFI HCN
      generalize getL fs nm = lv at *
      have hmin := run_min_nat Tryd.prog lv.length (1 + j) (1 + (j : Int)) (by omega)
      have hle : min lv.length (1 + j) ≤ (lv.map Str).length := by rw [List.length_map]; exact Nat.min_le_left _ _
      have hsl2 := HGS3.out.headm hle
      rw [show (lv.map Str).take (min lv.length (1 + j)) = (lv.take (1 + j)).map Str by rw [← List.map_take]; congr 1; rw [Nat.min_comm, List.take_eq_take_iff]; omega] at hsl2
      have hrun := run_headm (P := Tryd.prog) Tryd.underlying45 Tryd.sizeOf9 (ao := ga) hgc
      obtain ⟨ga', gcap', hga, hgc1, hgm, hgn, hgcell⟩ := id HGS3.out
      obtain ⟨rfl, _, rfl⟩ : ga = ga' ∧ True ∧ gcap = gcap' := by simpa using hga
      rw [List.length_map] at hgc1
      have hix := run_index_adr (P := Tryd.prog) Tryd.underlying45 Tryd.sizeOf9 hgn hgc1
      have HIXL := Lib.hid hix
      have HCELL := Lib.hid hgcell
      have HMN := Lib.hid (Nat.min_le_left lv.length (1 + j))
      generalize min lv.length (1 + j) = mn at *
      rw [headm_shape] at hsl2
      simp only [headm_shape] at hrun
      obtain ⟨ao2, hao2⟩ : ∃ ao2, (if gcap = 0 then ga else ga.map (·.add 0)) = ao2 := ⟨_, rfl⟩
      rw [hao2] at hsl2
      simp only [hao2] at hrun
      have HSL2 := Lib.hid hsl2
      have HRUN := Lib.hid hrun
      have HMIN := Lib.hid hmin
      have HX3w := Lib.hid (show Ext w W3 from ext_trans HXW.out HX3.out)
      clear hsl2 hrun hmin hle hao2 hga hgm hgn hgcell hix hgc1
      have hrest : Hid (∀ Q : Exit → Act → World → Prop, True) := Lib.hid (fun _ => trivial)
      clear hrest
      by_cases hpos : 0 < lv.length
      have e0 := HCELL.out 0 (Str (lv.getD 0 [])) (by simp [List.getD, hpos])
      have i0 := fun W => HIXL.out W 0 hpos
      simp only [show ((0 : Nat) : Int) = 0 from rfl] at i0
      have hd : decide (0 < lv.length) = true := decide_eq_true hpos
      have hd2 : decide ((lv.length : Int) > 0) = true := decide_eq_true (by omega)
      rw [hd]
      clear hpos
      clear HIXL HCELL
      generalize lv.getD 0 [] = x0 at *
      rotate_left 1
      have h0 : lv.length = 0 := by omega
      have hx0 : lv.getD 0 [] = [] := by simp [List.getD, h0]
      have hd : decide (0 < lv.length) = false := decide_eq_false hpos
      have hd2 : decide ((lv.length : Int) > 0) = false := decide_eq_false (by omega)
      rw [hd, hx0]
      clear hx0 h0 hpos
      clear HIXL HCELL
      go_wp2_with fail
      all_goals
        clear hd hd2
        generalize wr = Wz at *
        go_loopw [78] (fun i wr => ∃ k : Nat, k ≤ fs.length ∧ i = .int .i64 k ∧ Hid (Ext W3 wr)) (fun i _ => fs.length - (intOf i).toNat)
        case atStart => exact ⟨0, by omega, rfl, Lib.hid (Below.refl _ _)⟩
        case round =>
          obtain ⟨k, hk, rfl, HXR⟩ := hrel
          by_cases h3 : k < fs.length
          · obtain ⟨ao', cap', hv', _, _, hcl'⟩ := rowP_shape (HR0.out.ext (ext_trans HX3.out HXR.out))
            obtain ⟨rfl, _, rfl⟩ : po = ao' ∧ True ∧ pcap = cap' := by simpa using hv'
            rcases hcl' with h | ⟨g, o, rfl, hcc⟩
            · subst h; simp at h3
            obtain ⟨a0, a1⟩ := hcc k h3
            have i1 := fun W => index_pair g o fs.length pcap k h3 W
            have hmem : fs.getD k prD ∈ fs := by simp [List.getD, h3]
            have HG1 := Lib.hid (HF1.out _ hmem)
            have HG2 := Lib.hid (HF2.out _ hmem)
            generalize fs.getD k prD = p at *
            generalize o + 2 * k = q at *
            obtain ⟨pn, pv⟩ := p
            simp only at a0 a1
            have HG1' : Hid (∀ W, Calls Tryd.prog 18 #[Str pn, Str nm] W fun e w' => e = .returned (.bool (foldB pn nm)) ∧ Ext W w') := HG1
            have HG2' : Hid (∀ W, Calls Tryd.prog 19 #[Str pn, Str nm] W fun e w' => e = .returned (.bool (foldB pn nm)) ∧ Ext W w') := HG2
            clear HG1 HG2 hmem hcc hv'
            generalize foldB pn nm = b at *
            have hbb : (b != b) = false := by simp
            go_wp2
            obtain ⟨W5, hW5⟩ : ∃ W5, wr.alloc (.cells #[Str pn, Str pv] 44) = W5 := ⟨_, rfl⟩
            have hx5 : Ext wr W5 := by rw [← hW5]; exact Below.alloc (Below.refl _ _) (Nat.le_refl _) _
            have n1 : W5.heap[wr.heap.size]? = some (.cells #[Str pn, Str pv] 44 (0, 0)) := by rw [← hW5]; exact Array.getElem?_push_size
            rw [hW5]
            have HX5 := Lib.hid (show Ext W3 W5.drew from Below.drew (ext_trans HXR.out hx5))
            have HN5 := Lib.hid n1
            generalize wr.heap.size = gg at *
            clear hW5 hx5 n1 a0 a1
            -- inv {'ops': [('fa',82,15,'.pointer (some ⟨gg, 0, none⟩)','.pointer (some ⟨gg, 0, none⟩)'),('lf',83,0,'Str pn','obtain ⟨d0, d1⟩ := cells2 H0'),('mv',84,1,'Str nm'),('call',85,[1,2],"HG1'.out w'",'.bool b'),('fa',86,15,'.pointer (some ⟨gg, 0, none⟩)','.pointer (some ⟨gg, 0, none⟩)'),('lf',87,4,'Str pn','obtain ⟨d0, d1⟩ := cells2 H0'),('mv',88,1,'Str nm'),('call',89,[5,6],"HG2'.out w'",'.bool b'),('op',90,[3,7],'.bool false')], 'W': [('E0',"Ext W3 w'",'HX5.out'),('H0',"w'.heap[gg]? = some (.cells #[Str pn, Str pv] 44 (0, 0))",'HN5.out')]}
            refine wp_region_any (by kernel_rfl) ?_
            change wpAny _ _ _ _ _ _ _ (World.drew _)
            refine wpAny_inv (n := 9) [82, 83, 84, 85, 86, 87, 88, 89, 90] (fun u L w' =>
                (L 0 = true → u 82 = .pointer (some ⟨gg, 0, none⟩)) ∧
                (L 1 = true → u 83 = Str pn) ∧
                (L 2 = true → u 84 = Str nm) ∧
                (L 3 = true → u 85 = .bool b) ∧
                (L 4 = true → u 86 = .pointer (some ⟨gg, 0, none⟩)) ∧
                (L 5 = true → u 87 = Str pn) ∧
                (L 6 = true → u 88 = Str nm) ∧
                (L 7 = true → u 89 = .bool b) ∧
                (L 8 = true → u 90 = .bool false) ∧
                (Ext W3 w') ∧
                (w'.heap[gg]? = some (.cells #[Str pn, Str pv] 44 (0, 0))))
              (by rfl) (by kernel_rfl) (by kernel_rfl) (by rfl) ?_ ?_ ?_
            · exact ⟨(fun h => by cases h), (fun h => by cases h), (fun h => by cases h), (fun h => by cases h), (fun h => by cases h), (fun h => by cases h), (fun h => by cases h), (fun h => by cases h), (fun h => by cases h), HX5.out, HN5.out⟩
            · refine ⟨⟨⟨⟨⟨⟨⟨⟨⟨trivial, ?_⟩, ?_⟩, ?_⟩, ?_⟩, ?_⟩, ?_⟩, ?_⟩, ?_⟩, ?_⟩
              · refine stepOk_some (i := 0) (by rfl) (by rfl) ?_
                rintro u L T w' hT hu hL hp hcl ⟨C0, C1, C2, C3, C4, C5, C6, C7, C8, E0, H0⟩ K hK
                have e1 : u 15 = .pointer (some ⟨gg, 0, none⟩) := hu 15 (by decide)
                go_simp
                refine hK _ _ ?_
                exact ⟨fun _ => rfl, fun h => C1 (by simpa using h), fun h => C2 (by simpa using h), fun h => C3 (by simpa using h), fun h => C4 (by simpa using h), fun h => C5 (by simpa using h), fun h => C6 (by simpa using h), fun h => C7 (by simpa using h), fun h => C8 (by simpa using h), E0, H0⟩
              · refine stepOk_some (i := 1) (by rfl) (by rfl) ?_
                rintro u L T w' hT hu hL hp hcl ⟨C0, C1, C2, C3, C4, C5, C6, C7, C8, E0, H0⟩ K hK
                have e0 := C0 (hp.of 0 (by kernel_rfl))
                obtain ⟨d0, d1⟩ := cells2 H0
                go_simp
                refine hK _ _ ?_
                exact ⟨fun h => C0 (by simpa using h), fun _ => rfl, fun h => C2 (by simpa using h), fun h => C3 (by simpa using h), fun h => C4 (by simpa using h), fun h => C5 (by simpa using h), fun h => C6 (by simpa using h), fun h => C7 (by simpa using h), fun h => C8 (by simpa using h), E0, H0⟩
              · refine stepOk_some (i := 2) (by rfl) (by rfl) ?_
                rintro u L T w' hT hu hL hp hcl ⟨C0, C1, C2, C3, C4, C5, C6, C7, C8, E0, H0⟩ K hK
                have e1 : u 1 = Str nm := hu 1 (by decide)
                go_simp
                refine hK _ _ ?_
                exact ⟨fun h => C0 (by simpa using h), fun h => C1 (by simpa using h), fun _ => rfl, fun h => C3 (by simpa using h), fun h => C4 (by simpa using h), fun h => C5 (by simpa using h), fun h => C6 (by simpa using h), fun h => C7 (by simpa using h), fun h => C8 (by simpa using h), E0, H0⟩
              · refine stepOk_some (i := 3) (by rfl) (by rfl) ?_
                rintro u L T w' hT hu hL hp hcl ⟨C0, C1, C2, C3, C4, C5, C6, C7, C8, E0, H0⟩ K hK
                have e1 := C1 (hp.of 1 (by kernel_rfl))
                have e2 := C2 (hp.of 2 (by kernel_rfl))
                go_simp
                refine (HG1'.out w').mono ?_
                rintro e w1 ⟨he, hx1⟩
                subst he
                refine hK _ _ ?_
                exact ⟨fun h => C0 (by simpa using h), fun h => C1 (by simpa using h), fun h => C2 (by simpa using h), fun _ => rfl, fun h => C4 (by simpa using h), fun h => C5 (by simpa using h), fun h => C6 (by simpa using h), fun h => C7 (by simpa using h), fun h => C8 (by simpa using h), ext_trans (E0) hx1, ext_at hx1 (H0)⟩
              · refine stepOk_some (i := 4) (by rfl) (by rfl) ?_
                rintro u L T w' hT hu hL hp hcl ⟨C0, C1, C2, C3, C4, C5, C6, C7, C8, E0, H0⟩ K hK
                have e1 : u 15 = .pointer (some ⟨gg, 0, none⟩) := hu 15 (by decide)
                go_simp
                refine hK _ _ ?_
                exact ⟨fun h => C0 (by simpa using h), fun h => C1 (by simpa using h), fun h => C2 (by simpa using h), fun h => C3 (by simpa using h), fun _ => rfl, fun h => C5 (by simpa using h), fun h => C6 (by simpa using h), fun h => C7 (by simpa using h), fun h => C8 (by simpa using h), E0, H0⟩
              · refine stepOk_some (i := 5) (by rfl) (by rfl) ?_
                rintro u L T w' hT hu hL hp hcl ⟨C0, C1, C2, C3, C4, C5, C6, C7, C8, E0, H0⟩ K hK
                have e4 := C4 (hp.of 4 (by kernel_rfl))
                obtain ⟨d0, d1⟩ := cells2 H0
                go_simp
                refine hK _ _ ?_
                exact ⟨fun h => C0 (by simpa using h), fun h => C1 (by simpa using h), fun h => C2 (by simpa using h), fun h => C3 (by simpa using h), fun h => C4 (by simpa using h), fun _ => rfl, fun h => C6 (by simpa using h), fun h => C7 (by simpa using h), fun h => C8 (by simpa using h), E0, H0⟩
              · refine stepOk_some (i := 6) (by rfl) (by rfl) ?_
                rintro u L T w' hT hu hL hp hcl ⟨C0, C1, C2, C3, C4, C5, C6, C7, C8, E0, H0⟩ K hK
                have e1 : u 1 = Str nm := hu 1 (by decide)
                go_simp
                refine hK _ _ ?_
                exact ⟨fun h => C0 (by simpa using h), fun h => C1 (by simpa using h), fun h => C2 (by simpa using h), fun h => C3 (by simpa using h), fun h => C4 (by simpa using h), fun h => C5 (by simpa using h), fun _ => rfl, fun h => C7 (by simpa using h), fun h => C8 (by simpa using h), E0, H0⟩
              · refine stepOk_some (i := 7) (by rfl) (by rfl) ?_
                rintro u L T w' hT hu hL hp hcl ⟨C0, C1, C2, C3, C4, C5, C6, C7, C8, E0, H0⟩ K hK
                have e5 := C5 (hp.of 5 (by kernel_rfl))
                have e6 := C6 (hp.of 6 (by kernel_rfl))
                go_simp
                refine (HG2'.out w').mono ?_
                rintro e w1 ⟨he, hx1⟩
                subst he
                refine hK _ _ ?_
                exact ⟨fun h => C0 (by simpa using h), fun h => C1 (by simpa using h), fun h => C2 (by simpa using h), fun h => C3 (by simpa using h), fun h => C4 (by simpa using h), fun h => C5 (by simpa using h), fun h => C6 (by simpa using h), fun _ => rfl, fun h => C8 (by simpa using h), ext_trans (E0) hx1, ext_at hx1 (H0)⟩
              · refine stepOk_some (i := 8) (by rfl) (by rfl) ?_
                rintro u L T w' hT hu hL hp hcl ⟨C0, C1, C2, C3, C4, C5, C6, C7, C8, E0, H0⟩ K hK
                have e3 := C3 (hp.of 3 (by kernel_rfl))
                have e7 := C7 (hp.of 7 (by kernel_rfl))
                go_simp
                try go_bits
                try (rw [if_neg (by omega)]; go_simp)
                refine hK _ _ ?_
                exact ⟨fun h => C0 (by simpa using h), fun h => C1 (by simpa using h), fun h => C2 (by simpa using h), fun h => C3 (by simpa using h), fun h => C4 (by simpa using h), fun h => C5 (by simpa using h), fun h => C6 (by simpa using h), fun h => C7 (by simpa using h), fun _ => rfl, E0, H0⟩
            · rintro u L w' hall hu ⟨C0, C1, C2, C3, C4, C5, C6, C7, C8, E0, H0⟩
              replace C0 := C0 (hall 0 (by omega))
              replace C1 := C1 (hall 1 (by omega))
              replace C2 := C2 (hall 2 (by omega))
              replace C3 := C3 (hall 3 (by omega))
              replace C4 := C4 (hall 4 (by omega))
              replace C5 := C5 (hall 5 (by omega))
              replace C6 := C6 (hall 6 (by omega))
              replace C7 := C7 (hall 7 (by omega))
              replace C8 := C8 (hall 8 (by omega))
              simp only [fill, List.setIfInBounds_toArray, List.set_cons_succ, List.set_cons_zero, C0, C1, C2, C3, C4, C5, C6, C7, C8]
              clear C0 C1 C2 C3 C4 C5 C6 C7 C8 hu hall
            -- end inv
              have HX1 := Lib.hid E0
              clear E0 H0
              go_wp2
              go_roundw
              case rel => exact ⟨k + 1, by omega, by go_num, HX1⟩
              case measure => simp [intOf] <;> omega
          · have hkl : k = fs.length := by omega
            subst hkl
            have HXE := Lib.hid (ext_trans HX3.out HXR.out)
            have HXF := Lib.hid (ext_trans HX3w.out HXR.out)
            have HQ1 := Lib.hid (HGS3.out.ext HXR.out)
            have HQ2 := Lib.hid (HSL2.out.ext HXR.out)
            have hrun := HRUN.out
            have hmin := HMIN.out
            have hmnle : mn ≤ lv.length := HMN.out
            go_wp2
            have HDW := Lib.hid (show Ext wr wr.drew from Below.drew (Below.refl _ _))
            -- inv {'ops': [('mv',92,7,'.slice po fs.length pcap'),('mv',93,1,'Str nm'),('callx',94,[0,1],"HGE.out w'","GetV w' (u 94) (.slice po fs.length pcap) nm"),('callx',95,[],"HCO.out w' _ E1 (C2 (hp.of 2 (by kernel_rfl)))","Sl w' (u 95) (lv.map Str)"),('mv',96,10,'.slice ga lv.length gcap'),('call',97,[4],"equal_same _ _ lv w' (by omega) (C3 (hp.of 3 (by kernel_rfl))) R0",'.bool true'),('mw',98,5,'.bool true'),('mv',99,7,'.slice po fs.length pcap'),('mv',100,1,'Str nm'),('mv',101,13,'.int .i64 (1 + (j : Int))'),('callx',102,[7,8,9],"HVA.out w' E1","Sl w' (u 102) ((lv.take (1 + j)).map Str)"),('mv',103,10,'.slice ga lv.length gcap'),('mv',104,10,'.slice ga lv.length gcap'),('op',105,[12],'.int .i64 (lv.length : Int)'),('mv',106,13,'.int .i64 (1 + (j : Int))'),('op',107,[13,14],'.int .i64 (mn : Int)'),('op',108,[11,15],'.slice ao2 mn gcap'),('call',109,[16],"equal_same _ _ _ w' (by rw [List.length_take]; omega) (C10 (hp.of 10 (by kernel_rfl))) R1",'.bool true'),('op',110,[6,17],'.bool true'),('mw',6,18,'.bool true')], 'G': {7:(6,'true'),8:(6,'true'),9:(6,'true'),10:(6,'true'),11:(6,'true'),12:(6,'true'),13:(6,'true'),14:(6,'true'),15:(6,'true'),16:(6,'true'),17:(6,'true')}, 'W': [('E0',"Ext w w'",'ext_trans HXF.out HDW.out'),('E1',"Ext Wz w'",'ext_trans HXE.out HDW.out'),('R0',"Sl w' (.slice ga lv.length gcap) (lv.map Str)",'HQ1.out.ext HDW.out'),('R1',"Sl w' (.slice ao2 mn gcap) ((lv.take (1 + j)).map Str)",'HQ2.out.ext HDW.out')]}
            refine wp_region_any (by kernel_rfl) ?_
            change wpAny _ _ _ _ _ _ _ (World.drew _)
            refine wpAny_inv (n := 20) [92, 93, 94, 95, 96, 97, 98, 99, 100, 101, 102, 103, 104, 105, 106, 107, 108, 109, 110, 6] (fun u L w' =>
                (L 0 = true → u 92 = .slice po fs.length pcap) ∧
                (L 1 = true → u 93 = Str nm) ∧
                (L 2 = true → GetV w' (u 94) (.slice po fs.length pcap) nm) ∧
                (L 3 = true → Sl w' (u 95) (lv.map Str)) ∧
                (L 4 = true → u 96 = .slice ga lv.length gcap) ∧
                (L 5 = true → u 97 = .bool true) ∧
                (L 6 = true → u 98 = .bool true) ∧
                (L 7 = true → u 99 = .slice po fs.length pcap) ∧
                (L 8 = true → u 100 = Str nm) ∧
                (L 9 = true → u 101 = .int .i64 (1 + (j : Int))) ∧
                (L 10 = true → Sl w' (u 102) ((lv.take (1 + j)).map Str)) ∧
                (L 11 = true → u 103 = .slice ga lv.length gcap) ∧
                (L 12 = true → u 104 = .slice ga lv.length gcap) ∧
                (L 13 = true → u 105 = .int .i64 (lv.length : Int)) ∧
                (L 14 = true → u 106 = .int .i64 (1 + (j : Int))) ∧
                (L 15 = true → u 107 = .int .i64 (mn : Int)) ∧
                (L 16 = true → u 108 = .slice ao2 mn gcap) ∧
                (L 17 = true → u 109 = .bool true) ∧
                (L 18 = true → u 110 = .bool true) ∧
                (L 19 = true → u 6 = .bool true) ∧
                (Ext w w') ∧
                (Ext Wz w') ∧
                (Sl w' (.slice ga lv.length gcap) (lv.map Str)) ∧
                (Sl w' (.slice ao2 mn gcap) ((lv.take (1 + j)).map Str)))
              (by rfl) (by kernel_rfl) (by kernel_rfl) (by rfl) ?_ ?_ ?_
            · exact ⟨(fun h => by cases h), (fun h => by cases h), (fun h => by cases h), (fun h => by cases h), (fun h => by cases h), (fun h => by cases h), (fun h => by cases h), (fun h => by cases h), (fun h => by cases h), (fun h => by cases h), (fun h => by cases h), (fun h => by cases h), (fun h => by cases h), (fun h => by cases h), (fun h => by cases h), (fun h => by cases h), (fun h => by cases h), (fun h => by cases h), (fun h => by cases h), (fun h => by cases h), ext_trans HXF.out HDW.out, ext_trans HXE.out HDW.out, HQ1.out.ext HDW.out, HQ2.out.ext HDW.out⟩
            · refine ⟨⟨⟨⟨⟨⟨⟨⟨⟨⟨⟨⟨⟨⟨⟨⟨⟨⟨⟨⟨trivial, ?_⟩, ?_⟩, ?_⟩, ?_⟩, ?_⟩, ?_⟩, ?_⟩, ?_⟩, ?_⟩, ?_⟩, ?_⟩, ?_⟩, ?_⟩, ?_⟩, ?_⟩, ?_⟩, ?_⟩, ?_⟩, ?_⟩, ?_⟩
              · refine stepOk_some (i := 0) (by rfl) (by rfl) ?_
                rintro u L T w' hT hu hL hp hcl ⟨C0, C1, C2, C3, C4, C5, C6, C7, C8, C9, C10, C11, C12, C13, C14, C15, C16, C17, C18, C19, E0, E1, R0, R1⟩ K hK
                have e1 : u 7 = .slice po fs.length pcap := hu 7 (by decide)
                go_simp
                refine hK _ _ ?_
                exact ⟨fun _ => rfl, fun h => C1 (by simpa using h), fun h => C2 (by simpa using h), fun h => C3 (by simpa using h), fun h => C4 (by simpa using h), fun h => C5 (by simpa using h), fun h => C6 (by simpa using h), fun h => C7 (by simpa using h), fun h => C8 (by simpa using h), fun h => C9 (by simpa using h), fun h => C10 (by simpa using h), fun h => C11 (by simpa using h), fun h => C12 (by simpa using h), fun h => C13 (by simpa using h), fun h => C14 (by simpa using h), fun h => C15 (by simpa using h), fun h => C16 (by simpa using h), fun h => C17 (by simpa using h), fun h => C18 (by simpa using h), fun h => C19 (by simpa using h), E0, E1, R0, R1⟩
              · refine stepOk_some (i := 1) (by rfl) (by rfl) ?_
                rintro u L T w' hT hu hL hp hcl ⟨C0, C1, C2, C3, C4, C5, C6, C7, C8, C9, C10, C11, C12, C13, C14, C15, C16, C17, C18, C19, E0, E1, R0, R1⟩ K hK
                have e1 : u 1 = Str nm := hu 1 (by decide)
                go_simp
                refine hK _ _ ?_
                exact ⟨fun h => C0 (by simpa using h), fun _ => rfl, fun h => C2 (by simpa using h), fun h => C3 (by simpa using h), fun h => C4 (by simpa using h), fun h => C5 (by simpa using h), fun h => C6 (by simpa using h), fun h => C7 (by simpa using h), fun h => C8 (by simpa using h), fun h => C9 (by simpa using h), fun h => C10 (by simpa using h), fun h => C11 (by simpa using h), fun h => C12 (by simpa using h), fun h => C13 (by simpa using h), fun h => C14 (by simpa using h), fun h => C15 (by simpa using h), fun h => C16 (by simpa using h), fun h => C17 (by simpa using h), fun h => C18 (by simpa using h), fun h => C19 (by simpa using h), E0, E1, R0, R1⟩
              · refine stepOk_some (i := 2) (by rfl) (by rfl) ?_
                rintro u L T w' hT hu hL hp hcl ⟨C0, C1, C2, C3, C4, C5, C6, C7, C8, C9, C10, C11, C12, C13, C14, C15, C16, C17, C18, C19, E0, E1, R0, R1⟩ K hK
                have e0 := C0 (hp.of 0 (by kernel_rfl))
                have e1 := C1 (hp.of 1 (by kernel_rfl))
                go_simp
                refine Calls.mono (HGE.out w') ?_
                rintro e w1 ⟨v1, he, hr1, hx1⟩
                subst he
                refine hK _ _ ?_
                exact ⟨fun h => C0 (by simpa using h), fun h => C1 (by simpa using h), fun _ => hr1, fun h => (C3 (by simpa using h)).ext hx1, fun h => C4 (by simpa using h), fun h => C5 (by simpa using h), fun h => C6 (by simpa using h), fun h => C7 (by simpa using h), fun h => C8 (by simpa using h), fun h => C9 (by simpa using h), fun h => (C10 (by simpa using h)).ext hx1, fun h => C11 (by simpa using h), fun h => C12 (by simpa using h), fun h => C13 (by simpa using h), fun h => C14 (by simpa using h), fun h => C15 (by simpa using h), fun h => C16 (by simpa using h), fun h => C17 (by simpa using h), fun h => C18 (by simpa using h), fun h => C19 (by simpa using h), ext_trans (E0) hx1, ext_trans (E1) hx1, (R0).ext hx1, (R1).ext hx1⟩
              · refine stepOk_some (i := 3) (by rfl) (by rfl) ?_
                rintro u L T w' hT hu hL hp hcl ⟨C0, C1, C2, C3, C4, C5, C6, C7, C8, C9, C10, C11, C12, C13, C14, C15, C16, C17, C18, C19, E0, E1, R0, R1⟩ K hK
                go_simp
                refine Calls.mono (HCO.out w' _ E1 (C2 (hp.of 2 (by kernel_rfl)))) ?_
                rintro e w1 ⟨v1, he, hr1, hx1⟩
                subst he
                refine hK _ _ ?_
                exact ⟨fun h => C0 (by simpa using h), fun h => C1 (by simpa using h), fun h => (C2 (by simpa using h)).ext hx1, fun _ => hr1, fun h => C4 (by simpa using h), fun h => C5 (by simpa using h), fun h => C6 (by simpa using h), fun h => C7 (by simpa using h), fun h => C8 (by simpa using h), fun h => C9 (by simpa using h), fun h => (C10 (by simpa using h)).ext hx1, fun h => C11 (by simpa using h), fun h => C12 (by simpa using h), fun h => C13 (by simpa using h), fun h => C14 (by simpa using h), fun h => C15 (by simpa using h), fun h => C16 (by simpa using h), fun h => C17 (by simpa using h), fun h => C18 (by simpa using h), fun h => C19 (by simpa using h), ext_trans (E0) hx1, ext_trans (E1) hx1, (R0).ext hx1, (R1).ext hx1⟩
              · refine stepOk_some (i := 4) (by rfl) (by rfl) ?_
                rintro u L T w' hT hu hL hp hcl ⟨C0, C1, C2, C3, C4, C5, C6, C7, C8, C9, C10, C11, C12, C13, C14, C15, C16, C17, C18, C19, E0, E1, R0, R1⟩ K hK
                have e1 : u 10 = .slice ga lv.length gcap := hu 10 (by decide)
                go_simp
                refine hK _ _ ?_
                exact ⟨fun h => C0 (by simpa using h), fun h => C1 (by simpa using h), fun h => C2 (by simpa using h), fun h => C3 (by simpa using h), fun _ => rfl, fun h => C5 (by simpa using h), fun h => C6 (by simpa using h), fun h => C7 (by simpa using h), fun h => C8 (by simpa using h), fun h => C9 (by simpa using h), fun h => C10 (by simpa using h), fun h => C11 (by simpa using h), fun h => C12 (by simpa using h), fun h => C13 (by simpa using h), fun h => C14 (by simpa using h), fun h => C15 (by simpa using h), fun h => C16 (by simpa using h), fun h => C17 (by simpa using h), fun h => C18 (by simpa using h), fun h => C19 (by simpa using h), E0, E1, R0, R1⟩
              · refine stepOk_some (i := 5) (by rfl) (by rfl) ?_
                rintro u L T w' hT hu hL hp hcl ⟨C0, C1, C2, C3, C4, C5, C6, C7, C8, C9, C10, C11, C12, C13, C14, C15, C16, C17, C18, C19, E0, E1, R0, R1⟩ K hK
                have e4 := C4 (hp.of 4 (by kernel_rfl))
                go_simp
                refine (equal_same _ _ lv w' (by omega) (C3 (hp.of 3 (by kernel_rfl))) R0).mono ?_
                rintro e w1 ⟨he, hx1⟩
                subst he
                refine hK _ _ ?_
                exact ⟨fun h => C0 (by simpa using h), fun h => C1 (by simpa using h), fun h => (C2 (by simpa using h)).ext hx1, fun h => (C3 (by simpa using h)).ext hx1, fun h => C4 (by simpa using h), fun _ => rfl, fun h => C6 (by simpa using h), fun h => C7 (by simpa using h), fun h => C8 (by simpa using h), fun h => C9 (by simpa using h), fun h => (C10 (by simpa using h)).ext hx1, fun h => C11 (by simpa using h), fun h => C12 (by simpa using h), fun h => C13 (by simpa using h), fun h => C14 (by simpa using h), fun h => C15 (by simpa using h), fun h => C16 (by simpa using h), fun h => C17 (by simpa using h), fun h => C18 (by simpa using h), fun h => C19 (by simpa using h), ext_trans (E0) hx1, ext_trans (E1) hx1, (R0).ext hx1, (R1).ext hx1⟩
              · refine stepOk_some (i := 6) (by rfl) (by rfl) ?_
                rintro u L T w' hT hu hL hp hcl ⟨C0, C1, C2, C3, C4, C5, C6, C7, C8, C9, C10, C11, C12, C13, C14, C15, C16, C17, C18, C19, E0, E1, R0, R1⟩ K hK
                have e5 := C5 (hp.of 5 (by kernel_rfl))
                go_simp
                refine hK _ _ ?_
                exact ⟨fun h => C0 (by simpa using h), fun h => C1 (by simpa using h), fun h => C2 (by simpa using h), fun h => C3 (by simpa using h), fun h => C4 (by simpa using h), fun h => C5 (by simpa using h), fun _ => rfl, fun h => C7 (by simpa using h), fun h => C8 (by simpa using h), fun h => C9 (by simpa using h), fun h => C10 (by simpa using h), fun h => C11 (by simpa using h), fun h => C12 (by simpa using h), fun h => C13 (by simpa using h), fun h => C14 (by simpa using h), fun h => C15 (by simpa using h), fun h => C16 (by simpa using h), fun h => C17 (by simpa using h), fun h => C18 (by simpa using h), fun h => C19 (by simpa using h), E0, E1, R0, R1⟩
              · refine stepOk_some (i := 7) (by rfl) (by rfl) ?_
                rintro u L T w' hT hu hL hp hcl ⟨C0, C1, C2, C3, C4, C5, C6, C7, C8, C9, C10, C11, C12, C13, C14, C15, C16, C17, C18, C19, E0, E1, R0, R1⟩ K hK
                have hg := getD_bool ((hT 98).trans (C6 (hp.of 6 (by kernel_rfl))))
                have e1 : u 7 = .slice po fs.length pcap := hu 7 (by decide)
                go_simp
                refine hK _ _ ?_
                exact ⟨fun h => C0 (by simpa using h), fun h => C1 (by simpa using h), fun h => C2 (by simpa using h), fun h => C3 (by simpa using h), fun h => C4 (by simpa using h), fun h => C5 (by simpa using h), fun h => C6 (by simpa using h), fun _ => rfl, fun h => C8 (by simpa using h), fun h => C9 (by simpa using h), fun h => C10 (by simpa using h), fun h => C11 (by simpa using h), fun h => C12 (by simpa using h), fun h => C13 (by simpa using h), fun h => C14 (by simpa using h), fun h => C15 (by simpa using h), fun h => C16 (by simpa using h), fun h => C17 (by simpa using h), fun h => C18 (by simpa using h), fun h => C19 (by simpa using h), E0, E1, R0, R1⟩
              · refine stepOk_some (i := 8) (by rfl) (by rfl) ?_
                rintro u L T w' hT hu hL hp hcl ⟨C0, C1, C2, C3, C4, C5, C6, C7, C8, C9, C10, C11, C12, C13, C14, C15, C16, C17, C18, C19, E0, E1, R0, R1⟩ K hK
                have hg := getD_bool ((hT 98).trans (C6 (hp.of 6 (by kernel_rfl))))
                have e1 : u 1 = Str nm := hu 1 (by decide)
                go_simp
                refine hK _ _ ?_
                exact ⟨fun h => C0 (by simpa using h), fun h => C1 (by simpa using h), fun h => C2 (by simpa using h), fun h => C3 (by simpa using h), fun h => C4 (by simpa using h), fun h => C5 (by simpa using h), fun h => C6 (by simpa using h), fun h => C7 (by simpa using h), fun _ => rfl, fun h => C9 (by simpa using h), fun h => C10 (by simpa using h), fun h => C11 (by simpa using h), fun h => C12 (by simpa using h), fun h => C13 (by simpa using h), fun h => C14 (by simpa using h), fun h => C15 (by simpa using h), fun h => C16 (by simpa using h), fun h => C17 (by simpa using h), fun h => C18 (by simpa using h), fun h => C19 (by simpa using h), E0, E1, R0, R1⟩
              · refine stepOk_some (i := 9) (by rfl) (by rfl) ?_
                rintro u L T w' hT hu hL hp hcl ⟨C0, C1, C2, C3, C4, C5, C6, C7, C8, C9, C10, C11, C12, C13, C14, C15, C16, C17, C18, C19, E0, E1, R0, R1⟩ K hK
                have hg := getD_bool ((hT 98).trans (C6 (hp.of 6 (by kernel_rfl))))
                have e1 : u 13 = .int .i64 (1 + (j : Int)) := hu 13 (by decide)
                go_simp
                refine hK _ _ ?_
                exact ⟨fun h => C0 (by simpa using h), fun h => C1 (by simpa using h), fun h => C2 (by simpa using h), fun h => C3 (by simpa using h), fun h => C4 (by simpa using h), fun h => C5 (by simpa using h), fun h => C6 (by simpa using h), fun h => C7 (by simpa using h), fun h => C8 (by simpa using h), fun _ => rfl, fun h => C10 (by simpa using h), fun h => C11 (by simpa using h), fun h => C12 (by simpa using h), fun h => C13 (by simpa using h), fun h => C14 (by simpa using h), fun h => C15 (by simpa using h), fun h => C16 (by simpa using h), fun h => C17 (by simpa using h), fun h => C18 (by simpa using h), fun h => C19 (by simpa using h), E0, E1, R0, R1⟩
              · refine stepOk_some (i := 10) (by rfl) (by rfl) ?_
                rintro u L T w' hT hu hL hp hcl ⟨C0, C1, C2, C3, C4, C5, C6, C7, C8, C9, C10, C11, C12, C13, C14, C15, C16, C17, C18, C19, E0, E1, R0, R1⟩ K hK
                have hg := getD_bool ((hT 98).trans (C6 (hp.of 6 (by kernel_rfl))))
                have e7 := C7 (hp.of 7 (by kernel_rfl))
                have e8 := C8 (hp.of 8 (by kernel_rfl))
                have e9 := C9 (hp.of 9 (by kernel_rfl))
                go_simp
                refine Calls.mono (HVA.out w' E1) ?_
                rintro e w1 ⟨v1, he, hr1, hx1⟩
                subst he
                refine hK _ _ ?_
                exact ⟨fun h => C0 (by simpa using h), fun h => C1 (by simpa using h), fun h => (C2 (by simpa using h)).ext hx1, fun h => (C3 (by simpa using h)).ext hx1, fun h => C4 (by simpa using h), fun h => C5 (by simpa using h), fun h => C6 (by simpa using h), fun h => C7 (by simpa using h), fun h => C8 (by simpa using h), fun h => C9 (by simpa using h), fun _ => hr1, fun h => C11 (by simpa using h), fun h => C12 (by simpa using h), fun h => C13 (by simpa using h), fun h => C14 (by simpa using h), fun h => C15 (by simpa using h), fun h => C16 (by simpa using h), fun h => C17 (by simpa using h), fun h => C18 (by simpa using h), fun h => C19 (by simpa using h), ext_trans (E0) hx1, ext_trans (E1) hx1, (R0).ext hx1, (R1).ext hx1⟩
              · refine stepOk_some (i := 11) (by rfl) (by rfl) ?_
                rintro u L T w' hT hu hL hp hcl ⟨C0, C1, C2, C3, C4, C5, C6, C7, C8, C9, C10, C11, C12, C13, C14, C15, C16, C17, C18, C19, E0, E1, R0, R1⟩ K hK
                have hg := getD_bool ((hT 98).trans (C6 (hp.of 6 (by kernel_rfl))))
                have e1 : u 10 = .slice ga lv.length gcap := hu 10 (by decide)
                go_simp
                refine hK _ _ ?_
                exact ⟨fun h => C0 (by simpa using h), fun h => C1 (by simpa using h), fun h => C2 (by simpa using h), fun h => C3 (by simpa using h), fun h => C4 (by simpa using h), fun h => C5 (by simpa using h), fun h => C6 (by simpa using h), fun h => C7 (by simpa using h), fun h => C8 (by simpa using h), fun h => C9 (by simpa using h), fun h => C10 (by simpa using h), fun _ => rfl, fun h => C12 (by simpa using h), fun h => C13 (by simpa using h), fun h => C14 (by simpa using h), fun h => C15 (by simpa using h), fun h => C16 (by simpa using h), fun h => C17 (by simpa using h), fun h => C18 (by simpa using h), fun h => C19 (by simpa using h), E0, E1, R0, R1⟩
              · refine stepOk_some (i := 12) (by rfl) (by rfl) ?_
                rintro u L T w' hT hu hL hp hcl ⟨C0, C1, C2, C3, C4, C5, C6, C7, C8, C9, C10, C11, C12, C13, C14, C15, C16, C17, C18, C19, E0, E1, R0, R1⟩ K hK
                have hg := getD_bool ((hT 98).trans (C6 (hp.of 6 (by kernel_rfl))))
                have e1 : u 10 = .slice ga lv.length gcap := hu 10 (by decide)
                go_simp
                refine hK _ _ ?_
                exact ⟨fun h => C0 (by simpa using h), fun h => C1 (by simpa using h), fun h => C2 (by simpa using h), fun h => C3 (by simpa using h), fun h => C4 (by simpa using h), fun h => C5 (by simpa using h), fun h => C6 (by simpa using h), fun h => C7 (by simpa using h), fun h => C8 (by simpa using h), fun h => C9 (by simpa using h), fun h => C10 (by simpa using h), fun h => C11 (by simpa using h), fun _ => rfl, fun h => C13 (by simpa using h), fun h => C14 (by simpa using h), fun h => C15 (by simpa using h), fun h => C16 (by simpa using h), fun h => C17 (by simpa using h), fun h => C18 (by simpa using h), fun h => C19 (by simpa using h), E0, E1, R0, R1⟩
              · refine stepOk_some (i := 13) (by rfl) (by rfl) ?_
                rintro u L T w' hT hu hL hp hcl ⟨C0, C1, C2, C3, C4, C5, C6, C7, C8, C9, C10, C11, C12, C13, C14, C15, C16, C17, C18, C19, E0, E1, R0, R1⟩ K hK
                have hg := getD_bool ((hT 98).trans (C6 (hp.of 6 (by kernel_rfl))))
                have e12 := C12 (hp.of 12 (by kernel_rfl))
                go_simp
                try go_bits
                try (rw [if_neg (by omega)]; go_simp)
                refine hK _ _ ?_
                exact ⟨fun h => C0 (by simpa using h), fun h => C1 (by simpa using h), fun h => C2 (by simpa using h), fun h => C3 (by simpa using h), fun h => C4 (by simpa using h), fun h => C5 (by simpa using h), fun h => C6 (by simpa using h), fun h => C7 (by simpa using h), fun h => C8 (by simpa using h), fun h => C9 (by simpa using h), fun h => C10 (by simpa using h), fun h => C11 (by simpa using h), fun h => C12 (by simpa using h), fun _ => rfl, fun h => C14 (by simpa using h), fun h => C15 (by simpa using h), fun h => C16 (by simpa using h), fun h => C17 (by simpa using h), fun h => C18 (by simpa using h), fun h => C19 (by simpa using h), E0, E1, R0, R1⟩
              · refine stepOk_some (i := 14) (by rfl) (by rfl) ?_
                rintro u L T w' hT hu hL hp hcl ⟨C0, C1, C2, C3, C4, C5, C6, C7, C8, C9, C10, C11, C12, C13, C14, C15, C16, C17, C18, C19, E0, E1, R0, R1⟩ K hK
                have hg := getD_bool ((hT 98).trans (C6 (hp.of 6 (by kernel_rfl))))
                have e1 : u 13 = .int .i64 (1 + (j : Int)) := hu 13 (by decide)
                go_simp
                refine hK _ _ ?_
                exact ⟨fun h => C0 (by simpa using h), fun h => C1 (by simpa using h), fun h => C2 (by simpa using h), fun h => C3 (by simpa using h), fun h => C4 (by simpa using h), fun h => C5 (by simpa using h), fun h => C6 (by simpa using h), fun h => C7 (by simpa using h), fun h => C8 (by simpa using h), fun h => C9 (by simpa using h), fun h => C10 (by simpa using h), fun h => C11 (by simpa using h), fun h => C12 (by simpa using h), fun h => C13 (by simpa using h), fun _ => rfl, fun h => C15 (by simpa using h), fun h => C16 (by simpa using h), fun h => C17 (by simpa using h), fun h => C18 (by simpa using h), fun h => C19 (by simpa using h), E0, E1, R0, R1⟩
              · refine stepOk_some (i := 15) (by rfl) (by rfl) ?_
                rintro u L T w' hT hu hL hp hcl ⟨C0, C1, C2, C3, C4, C5, C6, C7, C8, C9, C10, C11, C12, C13, C14, C15, C16, C17, C18, C19, E0, E1, R0, R1⟩ K hK
                have hg := getD_bool ((hT 98).trans (C6 (hp.of 6 (by kernel_rfl))))
                have e13 := C13 (hp.of 13 (by kernel_rfl))
                have e14 := C14 (hp.of 14 (by kernel_rfl))
                go_simp
                try go_bits
                try (rw [if_neg (by omega)]; go_simp)
                refine hK _ _ ?_
                exact ⟨fun h => C0 (by simpa using h), fun h => C1 (by simpa using h), fun h => C2 (by simpa using h), fun h => C3 (by simpa using h), fun h => C4 (by simpa using h), fun h => C5 (by simpa using h), fun h => C6 (by simpa using h), fun h => C7 (by simpa using h), fun h => C8 (by simpa using h), fun h => C9 (by simpa using h), fun h => C10 (by simpa using h), fun h => C11 (by simpa using h), fun h => C12 (by simpa using h), fun h => C13 (by simpa using h), fun h => C14 (by simpa using h), fun _ => rfl, fun h => C16 (by simpa using h), fun h => C17 (by simpa using h), fun h => C18 (by simpa using h), fun h => C19 (by simpa using h), E0, E1, R0, R1⟩
              · refine stepOk_some (i := 16) (by rfl) (by rfl) ?_
                rintro u L T w' hT hu hL hp hcl ⟨C0, C1, C2, C3, C4, C5, C6, C7, C8, C9, C10, C11, C12, C13, C14, C15, C16, C17, C18, C19, E0, E1, R0, R1⟩ K hK
                have hg := getD_bool ((hT 98).trans (C6 (hp.of 6 (by kernel_rfl))))
                have e11 := C11 (hp.of 11 (by kernel_rfl))
                have e15 := C15 (hp.of 15 (by kernel_rfl))
                go_simp
                try go_bits
                try (rw [if_neg (by omega)]; go_simp)
                refine hK _ _ ?_
                exact ⟨fun h => C0 (by simpa using h), fun h => C1 (by simpa using h), fun h => C2 (by simpa using h), fun h => C3 (by simpa using h), fun h => C4 (by simpa using h), fun h => C5 (by simpa using h), fun h => C6 (by simpa using h), fun h => C7 (by simpa using h), fun h => C8 (by simpa using h), fun h => C9 (by simpa using h), fun h => C10 (by simpa using h), fun h => C11 (by simpa using h), fun h => C12 (by simpa using h), fun h => C13 (by simpa using h), fun h => C14 (by simpa using h), fun h => C15 (by simpa using h), fun _ => rfl, fun h => C17 (by simpa using h), fun h => C18 (by simpa using h), fun h => C19 (by simpa using h), E0, E1, R0, R1⟩
              · refine stepOk_some (i := 17) (by rfl) (by rfl) ?_
                rintro u L T w' hT hu hL hp hcl ⟨C0, C1, C2, C3, C4, C5, C6, C7, C8, C9, C10, C11, C12, C13, C14, C15, C16, C17, C18, C19, E0, E1, R0, R1⟩ K hK
                have hg := getD_bool ((hT 98).trans (C6 (hp.of 6 (by kernel_rfl))))
                have e16 := C16 (hp.of 16 (by kernel_rfl))
                go_simp
                refine (equal_same _ _ _ w' (by rw [List.length_take]; omega) (C10 (hp.of 10 (by kernel_rfl))) R1).mono ?_
                rintro e w1 ⟨he, hx1⟩
                subst he
                refine hK _ _ ?_
                exact ⟨fun h => C0 (by simpa using h), fun h => C1 (by simpa using h), fun h => (C2 (by simpa using h)).ext hx1, fun h => (C3 (by simpa using h)).ext hx1, fun h => C4 (by simpa using h), fun h => C5 (by simpa using h), fun h => C6 (by simpa using h), fun h => C7 (by simpa using h), fun h => C8 (by simpa using h), fun h => C9 (by simpa using h), fun h => (C10 (by simpa using h)).ext hx1, fun h => C11 (by simpa using h), fun h => C12 (by simpa using h), fun h => C13 (by simpa using h), fun h => C14 (by simpa using h), fun h => C15 (by simpa using h), fun h => C16 (by simpa using h), fun _ => rfl, fun h => C18 (by simpa using h), fun h => C19 (by simpa using h), ext_trans (E0) hx1, ext_trans (E1) hx1, (R0).ext hx1, (R1).ext hx1⟩
              · refine stepOk_some (i := 18) (by rfl) (by rfl) ?_
                rintro u L T w' hT hu hL hp hcl ⟨C0, C1, C2, C3, C4, C5, C6, C7, C8, C9, C10, C11, C12, C13, C14, C15, C16, C17, C18, C19, E0, E1, R0, R1⟩ K hK
                have e6 := C6 (hp.of 6 (by kernel_rfl))
                have e17 := C17 (hp.of 17 (by kernel_rfl))
                go_simp
                try go_bits
                try (rw [if_neg (by omega)]; go_simp)
                refine hK _ _ ?_
                exact ⟨fun h => C0 (by simpa using h), fun h => C1 (by simpa using h), fun h => C2 (by simpa using h), fun h => C3 (by simpa using h), fun h => C4 (by simpa using h), fun h => C5 (by simpa using h), fun h => C6 (by simpa using h), fun h => C7 (by simpa using h), fun h => C8 (by simpa using h), fun h => C9 (by simpa using h), fun h => C10 (by simpa using h), fun h => C11 (by simpa using h), fun h => C12 (by simpa using h), fun h => C13 (by simpa using h), fun h => C14 (by simpa using h), fun h => C15 (by simpa using h), fun h => C16 (by simpa using h), fun h => C17 (by simpa using h), fun _ => rfl, fun h => C19 (by simpa using h), E0, E1, R0, R1⟩
              · refine stepOk_some (i := 19) (by rfl) (by rfl) ?_
                rintro u L T w' hT hu hL hp hcl ⟨C0, C1, C2, C3, C4, C5, C6, C7, C8, C9, C10, C11, C12, C13, C14, C15, C16, C17, C18, C19, E0, E1, R0, R1⟩ K hK
                have e18 := C18 (hp.of 18 (by kernel_rfl))
                go_simp
                refine hK _ _ ?_
                exact ⟨fun h => C0 (by simpa using h), fun h => C1 (by simpa using h), fun h => C2 (by simpa using h), fun h => C3 (by simpa using h), fun h => C4 (by simpa using h), fun h => C5 (by simpa using h), fun h => C6 (by simpa using h), fun h => C7 (by simpa using h), fun h => C8 (by simpa using h), fun h => C9 (by simpa using h), fun h => C10 (by simpa using h), fun h => C11 (by simpa using h), fun h => C12 (by simpa using h), fun h => C13 (by simpa using h), fun h => C14 (by simpa using h), fun h => C15 (by simpa using h), fun h => C16 (by simpa using h), fun h => C17 (by simpa using h), fun h => C18 (by simpa using h), fun _ => rfl, E0, E1, R0, R1⟩
            · rintro u L w' hall hu ⟨C0, C1, C2, C3, C4, C5, C6, C7, C8, C9, C10, C11, C12, C13, C14, C15, C16, C17, C18, C19, E0, E1, R0, R1⟩
              replace C0 := C0 (hall 0 (by omega))
              replace C1 := C1 (hall 1 (by omega))
              replace C2 := C2 (hall 2 (by omega))
              replace C3 := C3 (hall 3 (by omega))
              replace C4 := C4 (hall 4 (by omega))
              replace C5 := C5 (hall 5 (by omega))
              replace C6 := C6 (hall 6 (by omega))
              replace C7 := C7 (hall 7 (by omega))
              replace C8 := C8 (hall 8 (by omega))
              replace C9 := C9 (hall 9 (by omega))
              replace C10 := C10 (hall 10 (by omega))
              replace C11 := C11 (hall 11 (by omega))
              replace C12 := C12 (hall 12 (by omega))
              replace C13 := C13 (hall 13 (by omega))
              replace C14 := C14 (hall 14 (by omega))
              replace C15 := C15 (hall 15 (by omega))
              replace C16 := C16 (hall 16 (by omega))
              replace C17 := C17 (hall 17 (by omega))
              replace C18 := C18 (hall 18 (by omega))
              replace C19 := C19 (hall 19 (by omega))
              simp only [fill, List.setIfInBounds_toArray, List.set_cons_succ, List.set_cons_zero, C0, C1, C4, C5, C6, C7, C8, C9, C11, C12, C13, C14, C15, C16, C17, C18, C19]
              generalize u 94 = s0 at *
              generalize u 95 = s1 at *
              generalize u 102 = s2 at *
              clear C0 C1 C2 C3 C4 C5 C6 C7 C8 C9 C10 C11 C12 C13 C14 C15 C16 C17 C18 C19 hu hall
            -- end inv
              go_wp2_with fail
              go_ret
              exact ⟨rfl, E0⟩
end Go.Proofs.YtmflnffjhfejhaaDoor
