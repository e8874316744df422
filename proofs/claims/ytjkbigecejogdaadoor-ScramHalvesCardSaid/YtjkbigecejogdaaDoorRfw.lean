/-
  ref07.Few. (The loop was turned from wip/head/Hfe.tpl; printed by wip/tools/scram_few.py.)
-/
import Derived.BigGuardPart
import Derived.RegionTactic
import Derived.Deep.DrawnRows
import Derived.Deep.CutBlock
import Derived.Deep.DeepCutAuto
import Derived.Test.YtjkbigecejogdaaDoorRows
import Derived.Test.YtjkbigecejogdaaDoorMsv
import Derived.Test.YtjkbigecejogdaaDoorRrd
import Derived.Test.YtjkbigecejogdaaDoorSfa
import Derived.Test.YtjkbigecejogdaaDoorKit
namespace Go.Proofs.YtjkbigecejogdaaDoor
open Go.RowKit
set_option maxRecDepth 100000
attribute [local go_sem ↓] Go.wp_at_zero Go.wp_at_succ
set_option linter.unusedVariables false
set_option linter.unusedSimpArgs false
/-- Bytes that lie behind a block. -/
structure OwS (q : Nat) (W : World) (v : Value) (l : List UInt8) : Prop where
  sl : SlB W v l
  lt : ∀ k, sblk v (l.map Byt).length k → q < k
theorem OwS.ext {q : Nat} {A C : World} {v : Value} {l : List UInt8} (h : OwS q A v l) (he : Ext A C) : OwS q C v l := ⟨h.sl.ext he, h.lt⟩
theorem OwS.st {q : Nat} {A : World} {v : Value} {l : List UInt8} (h : OwS q A v l) (i : Nat) (u : Value) : OwS q (A.setCell ⟨q, i, none⟩ u) v l := ⟨h.sl.bz (Bz.set A q i u) fun k hk => by have := h.lt k hk; omega, h.lt⟩
theorem sl_form {W : World} {v : Value} {l : List UInt8} (h : SlB W v l) : ∃ a n k, v = .slice a n k := by
  obtain ⟨a, c, h, _⟩ := h
  exact ⟨a, _, c, h⟩
theorem cutS (q : Nat) (v : Value) (l : List UInt8) (n : Nat) (W : World) (hv : SlB W v l) (hn : n ≤ 100000) (hq : q < W.heap.size) :
    Calls Tryd.prog 14 #[v, .int .i64 (n : Int)] W fun e w' => ∃ v', e = .returned v' ∧ OwS q w' v' (l.take n) ∧ Ext W w' :=
  (cut_any v l n W hv hn).mono fun e w' ⟨v', h1, h2, h3⟩ => ⟨v', h1, ⟨sl_of_own h2, fun k hk => Nat.lt_of_lt_of_le hq (own_sblk h2 (Nat.le_refl _) _ k hk)⟩, h3⟩
theorem tmod4 (k : Int) : k.tmod 4 = -3 ∨ k.tmod 4 = -2 ∨ k.tmod 4 = -1 ∨ k.tmod 4 = 0 ∨ k.tmod 4 = 1 ∨ k.tmod 4 = 2 ∨ k.tmod 4 = 3 := by
  have h1 := Int.tmod_lt_of_pos k (show (0 : Int) < 4 by decide)
  have h2 := Int.tmod_lt_of_pos (-k) (show (0 : Int) < 4 by decide)
  rw [Int.neg_tmod] at h2
  omega
set_option maxHeartbeats 8000000 in
theorem few_any (m : Ms) (hi1 : -9223372036854775808 ≤ m.kind) (hi2 : m.kind ≤ 9223372036854775807) (B : Nat) (e s p : Value) (w : World) (hr : MsR B w e s p m) :
    Calls Tryd.prog 5 #[.agg (msA m e s p)] w fun r w' => (∃ v', r = .returned v' ∧ MsIs w.heap.size w' v' (fewM m)) ∧ Ext w w' := by
  obtain ⟨re, rs, rp, -, -, -⟩ := hr
  obtain ⟨ao, cap, hv, hcap, hmax, hcl⟩ := rowP_shape re
  obtain ⟨a2, n2, k2, rfl⟩ := sl_form rs
  obtain ⟨a3, n3, k3, rfl⟩ := sl_form rp
  unfold maxLen at hmax
  subst hv
  have HFM := Lib.hid (show fewM m = if fewI m.kind = 1 then ⟨1, m.flag.take 9, m.authz.take 60, m.user.take 60, m.nonce.take 80, fewK 4 3 2500 m.ext, [], 0, [], [], []⟩
    else if fewI m.kind = 2 then ⟨2, [], [], [], m.nonce.take 80, fewK 4 3 2500 m.ext, m.salt.take 40, m.iter, [], [], []⟩
    else if fewI m.kind = 3 then ⟨3, [], [], [], m.nonce.take 80, fewK 4 3 2500 m.ext, [], 0, m.head.take 100, m.proof.take 40, []⟩
    else ⟨4, [], [], [], [], fewK 4 3 2500 m.ext, [], 0, [], m.proof.take 40, m.code.take 60⟩ from rfl)
  generalize fewM m = fm at *
  obtain ⟨kind, flag, authz, user, nonce, ls, salt, iter, head, proof, code⟩ := m
  simp only at HFM re rs rp hcl hcap hmax hi1 hi2 ⊢
  have HCL := Lib.hid hcl
  have HSL := Lib.hid rs
  have HPL := Lib.hid rp
  have HIX := Lib.hid (fun g o j h W => index_pair g o ls.length cap j h W)
  clear hcl re rs rp
  go_enter Tryd.func5, Tryd.ntmps5
  go_wp2
  obtain ⟨W2, hW2⟩ : ∃ W2, (w.alloc (.cells #[.int .i64 kind, Str flag, Str authz, Str user, Str nonce, .slice ao ls.length cap, .slice a2 n2 k2, .int .i64 iter, Str head, .slice a3 n3 k3, Str code] 25)).alloc (.cells zerM 25) = W2 := ⟨_, rfl⟩
  have hx2 : Ext w W2 := by rw [← hW2]; exact ext_trans (Below.alloc (Below.refl _ _) (Nat.le_refl _) _) (Below.alloc (Below.refl _ _) (Nat.le_refl _) _)
  have hb1 : W2.heap[w.heap.size]? = some (.cells #[.int .i64 kind, Str flag, Str authz, Str user, Str nonce, .slice ao ls.length cap, .slice a2 n2 k2, .int .i64 iter, Str head, .slice a3 n3 k3, Str code] 25 (0, 0)) := by
    rw [← hW2]
    exact ext_at (Below.alloc (Below.refl _ _) (Nat.le_refl _) _) (Array.getElem?_push_size)
  have hs1 : (w.alloc (.cells #[.int .i64 kind, Str flag, Str authz, Str user, Str nonce, .slice ao ls.length cap, .slice a2 n2 k2, .int .i64 iter, Str head, .slice a3 n3 k3, Str code] 25)).heap.size = w.heap.size + 1 := Array.size_push _
  have hb2 : W2.heap[w.heap.size + 1]? = some (.cells zerM 25 (0, 0)) := by
    rw [← hW2, ← hs1]; exact Array.getElem?_push_size
  have hs2 : W2.heap.size = w.heap.size + 2 := by
    rw [← hW2, show ∀ (A : World) o, (A.alloc o).heap.size = A.heap.size + 1 from fun A o => Array.size_push _, hs1]
  rw [hW2]
  have HX2 := Lib.hid hx2; have HB1 := Lib.hid hb1; have HB2 := Lib.hid hb2; have HS2W := Lib.hid hs2
  clear hW2 hx2 hb1 hb2 hs2 hs1
  go_loopw [3, 10] (fun o i wr => ∃ k : Nat, k ≤ ls.length ∧ i = .int .i64 k ∧ Hid (wr.ownsRow W2.heap.size 42 2 o (fewK 4 3 2500 (ls.take k)).length ((fewK 4 3 2500 (ls.take k)).flatMap prC)) ∧ Hid (Ext W2 wr)) (fun _ i _ => ls.length - (intOf i).toNat)
  case atStart => exact ⟨0, by omega, rfl, Lib.hid (by simpa [fewK] using World.ownsRow_nil _ _ _ _), Lib.hid (Below.refl _ _)⟩
  case round =>
    obtain ⟨k, hk, rfl, HO, HXW⟩ := hrel
    by_cases h3 : k < ls.length
    · rcases HCL.out with h | ⟨g, o, rfl, hcc⟩
      · subst h; simp at h3
      obtain ⟨a0, a1⟩ := hcc k h3
      replace a0 := ext_cell (ext_trans HX2.out HXW.out) a0; replace a1 := ext_cell (ext_trans HX2.out HXW.out) a1
      have i1 := HIX.out g o k h3
      have HSN := Lib.hid (fewK_snoc 4 3 2500 ls k h3)
      have hfl := fewK_len 4 3 2500 (ls.take k)
      obtain ⟨po, pcap, hpv, _⟩ := ownz_shape HO.out
      subst hpv
      have hob : ∀ q, (Value.slice po (fewK 4 3 2500 (ls.take k)).length pcap).ownBlock = some q → q < wr.heap.size := fun q hq => (HO.out.lt q hq).2
      generalize fewK 4 3 2500 (ls.take k) = out at *
      generalize ls.getD k prD = p at *
      generalize o + 2 * k = q at *
      obtain ⟨pn, pv⟩ := p
      simp only at a0 a1
      have HC1 := Lib.hid (fun W => cutText_any pn 3 W (by omega))
      have HC2 := Lib.hid (fun W => cutText_any pv 2500 W (by omega))
      have HOB := Lib.hid hob
      clear hcc hob
      by_cases h12 : k < 4
      · have t1 : decide ((k : Int) < 4) = true := by simp; omega
        have HS2 := Lib.hid (show fewK 4 3 2500 (ls.take (k + 1)) = out ++ [⟨pn.take 3, pv.take 2500⟩] by rw [HSN.out, if_pos h12]; rfl)
        clear HSN h12
        generalize pn.take 3 = pn2 at *
        generalize pv.take 2500 = pv2 at *
        go_wp2
        obtain ⟨W5, hW5⟩ : ∃ W5, wr.alloc (.cells #[Str pn, Str pv] 42) = W5 := ⟨_, rfl⟩
        have hx5 : Ext wr W5 := by rw [← hW5]; exact Below.alloc (Below.refl _ _) (Nat.le_refl _) _
        have n1 : W5.heap[wr.heap.size]? = some (.cells #[Str pn, Str pv] 42 (0, 0)) := by rw [← hW5]; exact Array.getElem?_push_size
        rw [hW5]
        have HR5 := Lib.hid (show W5.drew.ownsRow W2.heap.size 42 2 (.slice po out.length pcap) out.length (out.flatMap prC) from ownz_ext HO.out (ext_trans hx5 (Below.drew (Below.refl _ _))))
        have HX5 := Lib.hid (show Ext W2 W5.drew from Below.drew (ext_trans HXW.out hx5))
        have HN5 := Lib.hid n1
        have HNE := Lib.hid (show ∀ q, (Value.slice po out.length pcap).ownBlock = some q → q ≠ wr.heap.size from fun q hq e => by have := HOB.out q hq; omega)
        clear HOB
        generalize wr.heap.size = gg at *
        clear hW5 hx5 n1 HO a0 a1
        -- inv {'ops': [('mo',17,3,10,'.slice po out.length pcap'),('fa',18,5,'.pointer (some ⟨gg, 0, none⟩)','.pointer (some ⟨gg, 0, none⟩)'),('lf',19,1,'Str pn','obtain ⟨d0, d1⟩ := cells2 H0'),('callq',20,[2],"HC1.out w'",'Str pn2'),('fa',21,5,'.pointer (some ⟨gg, 0, none⟩)','.pointer (some ⟨gg, 1, none⟩)'),('lf',22,4,'Str pv','obtain ⟨d0, d1⟩ := cells2 H0'),('callq',23,[5],"HC2.out w'",'Str pv2'),('op',24,[3,6],'.agg #[Str pn2, Str pv2]'),('bs',25,[7],['Str pn2','Str pv2'],'42',9,1),('apd',26,8,0,'.slice po out.length pcap','W2.heap.size','42','2','22','infoPair','[Str pn2, Str pv2]','out.length','(out.flatMap prC)'),('as',3,9,'u 26','.slice po out.length pcap')], 'W': [('E0',"Ext W2 w'",'HX5.out'),('D',"L 9 = false → w'.ownsRow W2.heap.size 42 2 (.slice po out.length pcap) out.length (out.flatMap prC)",'fun _ => HR5.out'),('H0',"w'.heap[gg]? = some (.cells #[Str pn, Str pv] 42 (0, 0))",'HN5.out')]}
        refine wp_region_any (by kernel_rfl) ?_
        change wpAny _ _ _ _ _ _ _ (World.drew _)
        refine wpAny_inv (n := 11) [17, 18, 19, 20, 21, 22, 23, 24, 25, 26, 3] (fun u L w' =>
            (L 0 = true → u 17 = .slice po out.length pcap) ∧
            (L 1 = true → u 18 = .pointer (some ⟨gg, 0, none⟩)) ∧
            (L 2 = true → u 19 = Str pn) ∧
            (L 3 = true → u 20 = Str pn2) ∧
            (L 4 = true → u 21 = .pointer (some ⟨gg, 1, none⟩)) ∧
            (L 5 = true → u 22 = Str pv) ∧
            (L 6 = true → u 23 = Str pv2) ∧
            (L 7 = true → u 24 = .agg #[Str pn2, Str pv2]) ∧
            (L 8 = true → L 9 = false → ∃ g', u 25 = .slice (some ⟨g', 0, none⟩) 1 1 ∧ w'.heap[g']? = some (.cells #[Str pn2, Str pv2] 42 (0, 0))) ∧
            (L 9 = true → w'.ownsRow (W2.heap.size) 42 2 (u 26) (out.length + 1) ((out.flatMap prC) ++ [Str pn2, Str pv2])) ∧
            (L 10 = true → u 3 = u 26) ∧
            (L 10 = false → u 3 = .slice po out.length pcap) ∧
            (Ext W2 w') ∧
            (L 9 = false → w'.ownsRow W2.heap.size 42 2 (.slice po out.length pcap) out.length (out.flatMap prC)) ∧
            (w'.heap[gg]? = some (.cells #[Str pn, Str pv] 42 (0, 0))))
          (by rfl) (by kernel_rfl) (by kernel_rfl) (by rfl) ?_ ?_ ?_
        · exact ⟨(fun h => by cases h), (fun h => by cases h), (fun h => by cases h), (fun h => by cases h), (fun h => by cases h), (fun h => by cases h), (fun h => by cases h), (fun h => by cases h), (fun h => by cases h), (fun h => by cases h), (fun h => by cases h), (fun _ => rfl), HX5.out, fun _ => HR5.out, HN5.out⟩
        · refine ⟨⟨⟨⟨⟨⟨⟨⟨⟨⟨⟨trivial, ?_⟩, ?_⟩, ?_⟩, ?_⟩, ?_⟩, ?_⟩, ?_⟩, ?_⟩, ?_⟩, ?_⟩, ?_⟩
          · refine stepOk_some (i := 0) (by rfl) (by rfl) ?_
            rintro u L T w' hT hu hL hp hcl ⟨C0, C1, C2, C3, C4, C5, C6, C7, C8, C9, C10, Z10, E0, D, H0⟩ K hK
            have e1 := Z10 (hcl.not 10 (by kernel_rfl) hL)
            go_simp
            refine hK _ _ ?_
            exact ⟨fun _ => rfl, fun h => C1 (by simpa using h), fun h => C2 (by simpa using h), fun h => C3 (by simpa using h), fun h => C4 (by simpa using h), fun h => C5 (by simpa using h), fun h => C6 (by simpa using h), fun h => C7 (by simpa using h), fun h h2 => C8 (by simpa using h) (by simpa using h2), fun h => C9 (by simpa using h), fun h => C10 (by simpa using h), fun h => Z10 (by simpa using h), E0, fun h => D (by simpa using h), H0⟩
          · refine stepOk_some (i := 1) (by rfl) (by rfl) ?_
            rintro u L T w' hT hu hL hp hcl ⟨C0, C1, C2, C3, C4, C5, C6, C7, C8, C9, C10, Z10, E0, D, H0⟩ K hK
            have e1 : u 5 = .pointer (some ⟨gg, 0, none⟩) := hu 5 (by decide)
            go_simp
            refine hK _ _ ?_
            exact ⟨fun h => C0 (by simpa using h), fun _ => rfl, fun h => C2 (by simpa using h), fun h => C3 (by simpa using h), fun h => C4 (by simpa using h), fun h => C5 (by simpa using h), fun h => C6 (by simpa using h), fun h => C7 (by simpa using h), fun h h2 => C8 (by simpa using h) (by simpa using h2), fun h => C9 (by simpa using h), fun h => C10 (by simpa using h), fun h => Z10 (by simpa using h), E0, fun h => D (by simpa using h), H0⟩
          · refine stepOk_some (i := 2) (by rfl) (by rfl) ?_
            rintro u L T w' hT hu hL hp hcl ⟨C0, C1, C2, C3, C4, C5, C6, C7, C8, C9, C10, Z10, E0, D, H0⟩ K hK
            have e1 := C1 (hp.of 1 (by kernel_rfl))
            obtain ⟨d0, d1⟩ := cells2 H0
            go_simp
            refine hK _ _ ?_
            exact ⟨fun h => C0 (by simpa using h), fun h => C1 (by simpa using h), fun _ => rfl, fun h => C3 (by simpa using h), fun h => C4 (by simpa using h), fun h => C5 (by simpa using h), fun h => C6 (by simpa using h), fun h => C7 (by simpa using h), fun h h2 => C8 (by simpa using h) (by simpa using h2), fun h => C9 (by simpa using h), fun h => C10 (by simpa using h), fun h => Z10 (by simpa using h), E0, fun h => D (by simpa using h), H0⟩
          · refine stepOk_some (i := 3) (by rfl) (by rfl) ?_
            rintro u L T w' hT hu hL hp hcl ⟨C0, C1, C2, C3, C4, C5, C6, C7, C8, C9, C10, Z10, E0, D, H0⟩ K hK
            have e2 := C2 (hp.of 2 (by kernel_rfl))
            go_simp
            refine (HC1.out w').mono ?_
            rintro e w1 ⟨he, hx1⟩
            subst w1
            subst he
            refine hK _ _ ?_
            exact ⟨fun h => C0 (by simpa using h), fun h => C1 (by simpa using h), fun h => C2 (by simpa using h), fun _ => rfl, fun h => C4 (by simpa using h), fun h => C5 (by simpa using h), fun h => C6 (by simpa using h), fun h => C7 (by simpa using h), fun h h2 => C8 (by simpa using h) (by simpa using h2), fun h => C9 (by simpa using h), fun h => C10 (by simpa using h), fun h => Z10 (by simpa using h), E0, fun h => D (by simpa using h), H0⟩
          · refine stepOk_some (i := 4) (by rfl) (by rfl) ?_
            rintro u L T w' hT hu hL hp hcl ⟨C0, C1, C2, C3, C4, C5, C6, C7, C8, C9, C10, Z10, E0, D, H0⟩ K hK
            have e1 : u 5 = .pointer (some ⟨gg, 0, none⟩) := hu 5 (by decide)
            go_simp
            refine hK _ _ ?_
            exact ⟨fun h => C0 (by simpa using h), fun h => C1 (by simpa using h), fun h => C2 (by simpa using h), fun h => C3 (by simpa using h), fun _ => rfl, fun h => C5 (by simpa using h), fun h => C6 (by simpa using h), fun h => C7 (by simpa using h), fun h h2 => C8 (by simpa using h) (by simpa using h2), fun h => C9 (by simpa using h), fun h => C10 (by simpa using h), fun h => Z10 (by simpa using h), E0, fun h => D (by simpa using h), H0⟩
          · refine stepOk_some (i := 5) (by rfl) (by rfl) ?_
            rintro u L T w' hT hu hL hp hcl ⟨C0, C1, C2, C3, C4, C5, C6, C7, C8, C9, C10, Z10, E0, D, H0⟩ K hK
            have e4 := C4 (hp.of 4 (by kernel_rfl))
            obtain ⟨d0, d1⟩ := cells2 H0
            go_simp
            refine hK _ _ ?_
            exact ⟨fun h => C0 (by simpa using h), fun h => C1 (by simpa using h), fun h => C2 (by simpa using h), fun h => C3 (by simpa using h), fun h => C4 (by simpa using h), fun _ => rfl, fun h => C6 (by simpa using h), fun h => C7 (by simpa using h), fun h h2 => C8 (by simpa using h) (by simpa using h2), fun h => C9 (by simpa using h), fun h => C10 (by simpa using h), fun h => Z10 (by simpa using h), E0, fun h => D (by simpa using h), H0⟩
          · refine stepOk_some (i := 6) (by rfl) (by rfl) ?_
            rintro u L T w' hT hu hL hp hcl ⟨C0, C1, C2, C3, C4, C5, C6, C7, C8, C9, C10, Z10, E0, D, H0⟩ K hK
            have e5 := C5 (hp.of 5 (by kernel_rfl))
            go_simp
            refine (HC2.out w').mono ?_
            rintro e w1 ⟨he, hx1⟩
            subst w1
            subst he
            refine hK _ _ ?_
            exact ⟨fun h => C0 (by simpa using h), fun h => C1 (by simpa using h), fun h => C2 (by simpa using h), fun h => C3 (by simpa using h), fun h => C4 (by simpa using h), fun h => C5 (by simpa using h), fun _ => rfl, fun h => C7 (by simpa using h), fun h h2 => C8 (by simpa using h) (by simpa using h2), fun h => C9 (by simpa using h), fun h => C10 (by simpa using h), fun h => Z10 (by simpa using h), E0, fun h => D (by simpa using h), H0⟩
          · refine stepOk_some (i := 7) (by rfl) (by rfl) ?_
            rintro u L T w' hT hu hL hp hcl ⟨C0, C1, C2, C3, C4, C5, C6, C7, C8, C9, C10, Z10, E0, D, H0⟩ K hK
            have e3 := C3 (hp.of 3 (by kernel_rfl))
            have e6 := C6 (hp.of 6 (by kernel_rfl))
            go_simp
            try go_bits
            try (rw [if_neg (by omega)]; go_simp)
            try (rw [if_pos (by omega)]; go_simp)
            refine hK _ _ ?_
            exact ⟨fun h => C0 (by simpa using h), fun h => C1 (by simpa using h), fun h => C2 (by simpa using h), fun h => C3 (by simpa using h), fun h => C4 (by simpa using h), fun h => C5 (by simpa using h), fun h => C6 (by simpa using h), fun _ => rfl, fun h h2 => C8 (by simpa using h) (by simpa using h2), fun h => C9 (by simpa using h), fun h => C10 (by simpa using h), fun h => Z10 (by simpa using h), E0, fun h => D (by simpa using h), H0⟩
          · refine stepOk_some (i := 8) (by rfl) (by rfl) ?_
            rintro u L T w' hT hu hL hp hcl ⟨C0, C1, C2, C3, C4, C5, C6, C7, C8, C9, C10, Z10, E0, D, H0⟩ K hK
            have e7 := C7 (hp.of 7 (by kernel_rfl))
            go_simp
            have hx1 : Ext w' (w'.alloc (.cells #[Str pn2, Str pv2] 42)) := Below.alloc (Below.refl _ _) (Nat.le_refl _) _
            refine hK _ _ ?_
            exact ⟨fun h => C0 (by simpa using h), fun h => C1 (by simpa using h), fun h => C2 (by simpa using h), fun h => C3 (by simpa using h), fun h => C4 (by simpa using h), fun h => C5 (by simpa using h), fun h => C6 (by simpa using h), fun h => C7 (by simpa using h), fun _ _ => ⟨_, rfl, Array.getElem?_push_size⟩, fun h => ownz_ext (C9 (by simpa using h)) hx1, fun h => C10 (by simpa using h), fun h => Z10 (by simpa using h), ext_trans (E0) hx1, fun h => ownz_ext (D (by simpa using h)) hx1, ext_at hx1 (H0)⟩
          · refine stepOk_some (i := 9) (by rfl) (by rfl) ?_
            rintro u L T w' hT hu hL hp hcl ⟨C0, C1, C2, C3, C4, C5, C6, C7, C8, C9, C10, Z10, E0, D, H0⟩ K hK
            have e0 := C0 (hp.of 0 (by kernel_rfl))
            obtain ⟨g', e2, hg'⟩ := C8 (hp.of 8 (by kernel_rfl)) hL
            have hown := D hL
            refine step_pushC (W2.heap.size) rfl _ _ 22 42 (by rfl) Tryd.underlying22 infoPair rfl (by omega) (by omega) (us := [Str pn2, Str pv2]) hown rfl (by simp [Str, Value.oneCell']) (by omega) E0.size (by exact (hT _).trans e0) (by exact (hT _).trans e2) hg' ?_
            rintro v' w1 hown1 hgr1
            have hx1 := ext_pushz E0 hown hgr1
            refine hK _ _ ?_
            exact ⟨fun h => C0 (by simpa using h), fun h => C1 (by simpa using h), fun h => C2 (by simpa using h), fun h => C3 (by simpa using h), fun h => C4 (by simpa using h), fun h => C5 (by simpa using h), fun h => C6 (by simpa using h), fun h => C7 (by simpa using h), fun h h2 => absurd h2 (by simp), fun _ => hown1, fun h => absurd h (by simp [hcl.not 10 (by kernel_rfl) hL]), fun h => Z10 (by simpa using h), hx1, fun h => absurd h (by simp), (hgr1.block _ (Array.getElem?_eq_some_iff.1 H0).1 (fun h => HNE.out _ h.symm rfl)).trans H0⟩
          · refine stepOk_some (i := 10) (by rfl) (by rfl) ?_
            rintro u L T w' hT hu hL hp hcl ⟨C0, C1, C2, C3, C4, C5, C6, C7, C8, C9, C10, Z10, E0, D, H0⟩ K hK
            have e9 := C9 (hp.of 9 (by kernel_rfl))
            go_simp
            refine hK _ _ ?_
            exact ⟨fun h => C0 (by simpa using h), fun h => C1 (by simpa using h), fun h => C2 (by simpa using h), fun h => C3 (by simpa using h), fun h => C4 (by simpa using h), fun h => C5 (by simpa using h), fun h => C6 (by simpa using h), fun h => C7 (by simpa using h), fun h h2 => C8 (by simpa using h) (by simpa using h2), fun h => C9 (by simpa using h), fun _ => rfl, fun h => absurd h (by simp), E0, fun h => D (by simpa using h), H0⟩
        · rintro u L w' hall hu ⟨C0, C1, C2, C3, C4, C5, C6, C7, C8, C9, C10, Z10, E0, D, H0⟩
          replace C0 := C0 (hall 0 (by omega))
          replace C1 := C1 (hall 1 (by omega))
          replace C2 := C2 (hall 2 (by omega))
          replace C3 := C3 (hall 3 (by omega))
          replace C4 := C4 (hall 4 (by omega))
          replace C5 := C5 (hall 5 (by omega))
          replace C6 := C6 (hall 6 (by omega))
          replace C7 := C7 (hall 7 (by omega))
          replace C9 := C9 (hall 9 (by omega))
          replace C10 := C10 (hall 10 (by omega))
          simp only [fill, List.setIfInBounds_toArray, List.set_cons_succ, List.set_cons_zero, C0, C1, C2, C3, C4, C5, C6, C7, C10]
          generalize u 25 = s0 at *
          generalize u 26 = s1 at *
          clear C0 C1 C2 C3 C4 C5 C6 C7 C8 C10 Z10 hu hall
        -- end inv
          have HO1 := Lib.hid C9; have HX1 := Lib.hid E0
          clear E0 D H0
          go_wp2
          go_roundw
          case rel => exact ⟨k + 1, by omega, by go_num, Lib.hid (by rw [HS2.out, List.length_append, List.flatMap_append]; simpa using HO1.out), HX1⟩
          case measure => simp [intOf] <;> omega
      · have t1 : decide ((k : Int) < 4) = false := by simp; omega
        have HS2 := Lib.hid (show fewK 4 3 2500 (ls.take (k + 1)) = out by rw [HSN.out, if_neg h12])
        clear HSN h12 HOB
        go_wp2
        have hx5 : Ext wr (wr.alloc (.cells #[Str pn, Str pv] 42)) := Below.alloc (Below.refl _ _) (Nat.le_refl _) _
        go_roundw
        case rel => exact ⟨k + 1, by omega, by go_num, Lib.hid (by rw [HS2.out]; exact ownz_ext HO.out hx5), Lib.hid (ext_trans HXW.out hx5)⟩
        case measure => simp [intOf] <;> omega
    · have hkl : k = ls.length := by omega
      subst hkl
      rw [List.take_length] at HO
      clear HCL HIX hk h3
      have hfl := fewK_len 4 3 2500 ls
      generalize fewK 4 3 2500 ls = fs at *
      obtain ⟨po, pcap, hpv, hpc⟩ := ownz_shape HO.out
      subst hpv
      have HXR := Lib.hid (ext_trans HX2.out HXW.out)
      have hbx := ext_at HXW.out HB1.out
      have HBX := Lib.hid hbx
      have HRS := Lib.hid (ext_at HXW.out HB2.out)
      have HSZ := Lib.hid (show w.heap.size + 2 ≤ wr.heap.size by have := HXW.out.size; have := HS2W.out; omega)
      have HRW := Lib.hid (show RowC 2 prC wr (.slice po fs.length pcap) fs from rowC_of_own prC_len HO.out)
      have HLO := Lib.hid (show ∀ k, rblk (.slice po fs.length pcap) fs.length k → w.heap.size + 2 ≤ k from own_rblk HO.out (by have := HS2W.out; omega))
      have HHI := Lib.hid (show ∀ k, rblk (.slice po fs.length pcap) fs.length k → k < wr.heap.size from fun k hk => rowC_lt HRW.out prC_ne hk)
      obtain ⟨W4, hW4⟩ : ∃ WX, wr.alloc (.cells zerM 25) = WX := ⟨_, rfl⟩
      have hx4 : Ext wr W4 := by rw [← hW4]; exact Below.alloc (Below.refl _ _) (Nat.le_refl _) _
      have hr4 : W4.heap[wr.heap.size]? = some (.cells zerM 25 (0, 0)) := by rw [← hW4]; exact Array.getElem?_push_size
      obtain ⟨Z4, hZ4, hp4, hb4⟩ := set11 hr4 (.int .i64 (fewI kind)) (Str []) (Str []) (Str []) (Str []) (.slice po fs.length pcap) (.slice none 0 0) (.int .i64 0) (Str []) (.slice none 0 0) (Str [])
      have hxz : Ext wr Z4 := hb4.below hx4 (Nat.le_refl _) (Nat.le_refl _)
      have HXZ := Lib.hid (ext_trans HXR.out hxz)
      have HBZ := Lib.hid (ext_at hxz HBX.out)
      have HRZ := Lib.hid (ext_at hxz HRS.out)
      have HWZ := Lib.hid (HRW.out.ext hxz)
      have HPZ := Lib.hid hp4; have HZ4 := Lib.hid hZ4
      obtain ⟨c0, c1, c2, c3, c4, c5, c6, c7, c8, c9, c10⟩ := cells11 hbx
      obtain ⟨e0, e1, e2, e3, e4, e5, e6, e7, e8, e9, e10⟩ := cells11 hr4
      obtain ⟨f0, f1, f2, f3, f4, f5, f6, f7, f8, f9, f10⟩ := frozen11 hr4
      clear hx4 hr4 hp4 hZ4 hxz hb4 hbx HO HXW HX2 HB1 HB2 HRW HBX HRS HXR
      obtain ⟨gs, hgs⟩ : ∃ gs, wr.heap.size = gs := ⟨_, rfl⟩
      rw [hgs] at HPZ HHI HSZ HZ4 e0 e1 e2 e3 e4 e5 e6 e7 e8 e9 e10 f0 f1 f2 f3 f4 f5 f6 f7 f8 f9 f10
      have HGS := Lib.hid hgs
      obtain ⟨b0, hb0⟩ : ∃ b, w.heap.size = b := ⟨_, rfl⟩
      rw [hb0] at HBZ HRZ HLO HSZ c0 c1 c2 c3 c4 c5 c6 c7 c8 c9 c10 ⊢
      have HB0 := Lib.hid hb0
      have HG := Lib.hid (show b0 + 2 ≤ gs from HSZ.out)
      clear hgs hb0 HSZ
      go_upto_region 8 with fail
      go_cut [6] from 7 (fun s6 wx => s6 = .pointer (some ⟨gs, 0, none⟩) ∧ wx = Z4)
      case first =>
        have hgs := HGS.out
        rcases tmod4 kind with hq | hq | hq | hq | hq | hq | hq
        all_goals (
          have hfi : fewI kind = 1 + ((kind.tmod 4) + 4).tmod 4 := rfl
          rw [hq] at hfi
          have HFI := Lib.hid hfi
          clear hfi
          go_wp2
          go_meet
          refine ⟨by first | rfl | (rw [hgs]), ?_⟩
          rw [← HZ4.out, HFI.out]
          try rw [hW4]
          rfl)
      case rest =>
      obtain ⟨rfl, hwc⟩ := hcut
      subst wc
      clear hW4 HZ4 HGS e0 e1 e2 e3 e4 e5 e6 e7 e8 e9 e10 f0 f1 f2 f3 f4 f5 f6 f7 f8 f9 f10 c0 c1 c2 c3 c4 c5 c6 c7 c8 c9 c10
      rcases fewI_of kind with hk | hk | hk | hk
      · have hkk := hk
        have hfk := HFM.out
        rw [if_pos hk] at hfk
        have HFK := Lib.hid hfk
        clear hfk
        rw [hk] at HPZ
        clear HFM
        have HC1 := Lib.hid (fun W => cutText_any flag 9 W (by omega))
        obtain ⟨x1, hx1⟩ : ∃ x, flag.take 9 = x := ⟨_, rfl⟩
        rw [hx1] at HC1 HFK
        clear hx1
        have HC2 := Lib.hid (fun W => cutText_any authz 60 W (by omega))
        obtain ⟨x2, hx2⟩ : ∃ x, authz.take 60 = x := ⟨_, rfl⟩
        rw [hx2] at HC2 HFK
        clear hx2
        have HC3 := Lib.hid (fun W => cutText_any user 60 W (by omega))
        obtain ⟨x3, hx3⟩ : ∃ x, user.take 60 = x := ⟨_, rfl⟩
        rw [hx3] at HC3 HFK
        clear hx3
        have HC4 := Lib.hid (fun W => cutText_any nonce 80 W (by omega))
        obtain ⟨x4, hx4⟩ : ∃ x, nonce.take 80 = x := ⟨_, rfl⟩
        rw [hx4] at HC4 HFK
        clear hx4
        have HNE := Lib.hid (show ∀ k, rblk (.slice po fs.length pcap) fs.length k → k ≠ gs from fun k hk => by have := HHI.out k hk; omega)
        obtain ⟨c0, c1, c2, c3, c4, c5, c6, c7, c8, c9, c10⟩ := cells11 HPZ.out
        go_upto_region 12 with fail
        clear c0 c1 c2 c3 c4 c5 c6 c7 c8 c9 c10 hk hkk
        -- inv {'ops': [('fa', 48, 1, '.pointer (some ⟨b0, 0, none⟩)', '.pointer (some ⟨b0, 1, none⟩)'), ('lf', 49, 0, 'Str flag', 'have d9 := (cells11 H1).2.1'), ('callq', 50, [1], "HC1.out w'", 'Str x1'), ('fa', 51, 1, '.pointer (some ⟨b0, 0, none⟩)', '.pointer (some ⟨b0, 2, none⟩)'), ('lf', 52, 3, 'Str authz', 'have d9 := (cells11 H1).2.2.1'), ('callq', 53, [4], "HC2.out w'", 'Str x2'), ('fa', 54, 1, '.pointer (some ⟨b0, 0, none⟩)', '.pointer (some ⟨b0, 3, none⟩)'), ('lf', 55, 6, 'Str user', 'have d9 := (cells11 H1).2.2.2.1'), ('callq', 56, [7], "HC3.out w'", 'Str x3'), ('fa', 57, 1, '.pointer (some ⟨b0, 0, none⟩)', '.pointer (some ⟨b0, 4, none⟩)'), ('lf', 58, 9, 'Str nonce', 'have d9 := (cells11 H1).2.2.2.2.1'), ('callq', 59, [10], "HC4.out w'", 'Str x4'), ('fa', 60, 6, '.pointer (some ⟨gs, 0, none⟩)', '.pointer (some ⟨gs, 1, none⟩)'), ('st', None, [2, 12], 'have hf9 := frozen_row B0; have hb9 := (Array.getElem?_eq_some_iff.1 B0).1; have d9 := (cells11 B0).2.1'), ('fa', 61, 6, '.pointer (some ⟨gs, 0, none⟩)', '.pointer (some ⟨gs, 2, none⟩)'), ('st', None, [5, 14], 'have hf9 := frozen_row B0; have hb9 := (Array.getElem?_eq_some_iff.1 B0).1; have d9 := (cells11 B0).2.2.1'), ('fa', 62, 6, '.pointer (some ⟨gs, 0, none⟩)', '.pointer (some ⟨gs, 3, none⟩)'), ('st', None, [8, 16], 'have hf9 := frozen_row B0; have hb9 := (Array.getElem?_eq_some_iff.1 B0).1; have d9 := (cells11 B0).2.2.2.1'), ('fa', 63, 6, '.pointer (some ⟨gs, 0, none⟩)', '.pointer (some ⟨gs, 4, none⟩)'), ('st', None, [11, 18], 'have hf9 := frozen_row B0; have hb9 := (Array.getElem?_eq_some_iff.1 B0).1; have d9 := (cells11 B0).2.2.2.2.1')], 'W': [('E0', "Ext w w'", 'Below.drew HXZ.out'), ('H1', "w'.heap[b0]? = some (.cells #[.int .i64 kind, Str flag, Str authz, Str user, Str nonce, .slice ao ls.length cap, .slice a2 n2 k2, .int .i64 iter, Str head, .slice a3 n3 k3, Str code] 25 (0, 0))", 'HBZ.out'), ('H2', "w'.heap[b0 + 1]? = some (.cells zerM 25 (0, 0))", 'HRZ.out'), ('R0', "RowC 2 prC w' (.slice po fs.length pcap) fs", 'HWZ.out.ext (Below.drew (Below.refl _ _))'), ('B0', "w'.heap[gs]? = some (.cells #[.int .i64 1, (if L 13 = true then Str x1 else Str []), (if L 15 = true then Str x2 else Str []), (if L 17 = true then Str x3 else Str []), (if L 19 = true then Str x4 else Str []), .slice po fs.length pcap, .slice none 0 0, .int .i64 0, Str [], .slice none 0 0, Str []] 25 (0, 0))", 'HPZ.out')], 'over': {13: {'E0': 'ext_set E0 (by have := HG.out; have := HB0.out; omega)', 'H1': '(Below.heap_setCell _ _ _ _ (by show _ ≠ gs; have := HG.out; omega)).trans H1', 'H2': '(Below.heap_setCell _ _ _ _ (by show _ ≠ gs; have := HG.out; omega)).trans H2', 'R0': "R0.bz prC_ne (Bz.set w' gs 1 _) HNE.out", 'B0': 'by have h9 := setCell_row B0 1 (Str x1); simp only [List.setIfInBounds_toArray, List.set_cons_succ, List.set_cons_zero] at h9; simpa [hL] using h9'}, 15: {'E0': 'ext_set E0 (by have := HG.out; have := HB0.out; omega)', 'H1': '(Below.heap_setCell _ _ _ _ (by show _ ≠ gs; have := HG.out; omega)).trans H1', 'H2': '(Below.heap_setCell _ _ _ _ (by show _ ≠ gs; have := HG.out; omega)).trans H2', 'R0': "R0.bz prC_ne (Bz.set w' gs 2 _) HNE.out", 'B0': 'by have h9 := setCell_row B0 2 (Str x2); simp only [List.setIfInBounds_toArray, List.set_cons_succ, List.set_cons_zero] at h9; simpa [hL] using h9'}, 17: {'E0': 'ext_set E0 (by have := HG.out; have := HB0.out; omega)', 'H1': '(Below.heap_setCell _ _ _ _ (by show _ ≠ gs; have := HG.out; omega)).trans H1', 'H2': '(Below.heap_setCell _ _ _ _ (by show _ ≠ gs; have := HG.out; omega)).trans H2', 'R0': "R0.bz prC_ne (Bz.set w' gs 3 _) HNE.out", 'B0': 'by have h9 := setCell_row B0 3 (Str x3); simp only [List.setIfInBounds_toArray, List.set_cons_succ, List.set_cons_zero] at h9; simpa [hL] using h9'}, 19: {'E0': 'ext_set E0 (by have := HG.out; have := HB0.out; omega)', 'H1': '(Below.heap_setCell _ _ _ _ (by show _ ≠ gs; have := HG.out; omega)).trans H1', 'H2': '(Below.heap_setCell _ _ _ _ (by show _ ≠ gs; have := HG.out; omega)).trans H2', 'R0': "R0.bz prC_ne (Bz.set w' gs 4 _) HNE.out", 'B0': 'by have h9 := setCell_row B0 4 (Str x4); simp only [List.setIfInBounds_toArray, List.set_cons_succ, List.set_cons_zero] at h9; simpa [hL] using h9'}}, 'keephall': 1, 'keep': []}
        refine wp_region_any (by kernel_rfl) ?_
        change wpAny _ _ _ _ _ _ _ (World.drew _)
        refine wpAny_inv (n := 20) [48, 49, 50, 51, 52, 53, 54, 55, 56, 57, 58, 59, 60, 61, 62, 63] (fun u L w' =>
            (L 0 = true → u 48 = .pointer (some ⟨b0, 1, none⟩)) ∧
            (L 1 = true → u 49 = Str flag) ∧
            (L 2 = true → u 50 = Str x1) ∧
            (L 3 = true → u 51 = .pointer (some ⟨b0, 2, none⟩)) ∧
            (L 4 = true → u 52 = Str authz) ∧
            (L 5 = true → u 53 = Str x2) ∧
            (L 6 = true → u 54 = .pointer (some ⟨b0, 3, none⟩)) ∧
            (L 7 = true → u 55 = Str user) ∧
            (L 8 = true → u 56 = Str x3) ∧
            (L 9 = true → u 57 = .pointer (some ⟨b0, 4, none⟩)) ∧
            (L 10 = true → u 58 = Str nonce) ∧
            (L 11 = true → u 59 = Str x4) ∧
            (L 12 = true → u 60 = .pointer (some ⟨gs, 1, none⟩)) ∧
            (L 14 = true → u 61 = .pointer (some ⟨gs, 2, none⟩)) ∧
            (L 16 = true → u 62 = .pointer (some ⟨gs, 3, none⟩)) ∧
            (L 18 = true → u 63 = .pointer (some ⟨gs, 4, none⟩)) ∧
            (Ext w w') ∧
            (w'.heap[b0]? = some (.cells #[.int .i64 kind, Str flag, Str authz, Str user, Str nonce, .slice ao ls.length cap, .slice a2 n2 k2, .int .i64 iter, Str head, .slice a3 n3 k3, Str code] 25 (0, 0))) ∧
            (w'.heap[b0 + 1]? = some (.cells zerM 25 (0, 0))) ∧
            (RowC 2 prC w' (.slice po fs.length pcap) fs) ∧
            (w'.heap[gs]? = some (.cells #[.int .i64 1, (if L 13 = true then Str x1 else Str []), (if L 15 = true then Str x2 else Str []), (if L 17 = true then Str x3 else Str []), (if L 19 = true then Str x4 else Str []), .slice po fs.length pcap, .slice none 0 0, .int .i64 0, Str [], .slice none 0 0, Str []] 25 (0, 0))))
          (by rfl) (by kernel_rfl) (by kernel_rfl) (by rfl) ?_ ?_ ?_
        · exact ⟨(fun h => by cases h), (fun h => by cases h), (fun h => by cases h), (fun h => by cases h), (fun h => by cases h), (fun h => by cases h), (fun h => by cases h), (fun h => by cases h), (fun h => by cases h), (fun h => by cases h), (fun h => by cases h), (fun h => by cases h), (fun h => by cases h), (fun h => by cases h), (fun h => by cases h), (fun h => by cases h), Below.drew HXZ.out, HBZ.out, HRZ.out, HWZ.out.ext (Below.drew (Below.refl _ _)), HPZ.out⟩
        · refine ⟨⟨⟨⟨⟨⟨⟨⟨⟨⟨⟨⟨⟨⟨⟨⟨⟨⟨⟨⟨trivial, ?_⟩, ?_⟩, ?_⟩, ?_⟩, ?_⟩, ?_⟩, ?_⟩, ?_⟩, ?_⟩, ?_⟩, ?_⟩, ?_⟩, ?_⟩, ?_⟩, ?_⟩, ?_⟩, ?_⟩, ?_⟩, ?_⟩, ?_⟩
          · refine stepOk_some (i := 0) (by rfl) (by rfl) ?_
            rintro u L T w' hT hu hL hp hcl ⟨C0, C1, C2, C3, C4, C5, C6, C7, C8, C9, C10, C11, C12, C14, C16, C18, E0, H1, H2, R0, B0⟩ K hK
            have e1 : u 1 = .pointer (some ⟨b0, 0, none⟩) := hu 1 (by decide)
            go_simp
            refine hK _ _ ?_
            exact ⟨fun _ => rfl, fun h => C1 (by simpa using h), fun h => C2 (by simpa using h), fun h => C3 (by simpa using h), fun h => C4 (by simpa using h), fun h => C5 (by simpa using h), fun h => C6 (by simpa using h), fun h => C7 (by simpa using h), fun h => C8 (by simpa using h), fun h => C9 (by simpa using h), fun h => C10 (by simpa using h), fun h => C11 (by simpa using h), fun h => C12 (by simpa using h), fun h => C14 (by simpa using h), fun h => C16 (by simpa using h), fun h => C18 (by simpa using h), E0, H1, H2, R0, by simpa using B0⟩
          · refine stepOk_some (i := 1) (by rfl) (by rfl) ?_
            rintro u L T w' hT hu hL hp hcl ⟨C0, C1, C2, C3, C4, C5, C6, C7, C8, C9, C10, C11, C12, C14, C16, C18, E0, H1, H2, R0, B0⟩ K hK
            have e0 := C0 (hp.of 0 (by kernel_rfl))
            have d9 := (cells11 H1).2.1
            go_simp
            refine hK _ _ ?_
            exact ⟨fun h => C0 (by simpa using h), fun _ => rfl, fun h => C2 (by simpa using h), fun h => C3 (by simpa using h), fun h => C4 (by simpa using h), fun h => C5 (by simpa using h), fun h => C6 (by simpa using h), fun h => C7 (by simpa using h), fun h => C8 (by simpa using h), fun h => C9 (by simpa using h), fun h => C10 (by simpa using h), fun h => C11 (by simpa using h), fun h => C12 (by simpa using h), fun h => C14 (by simpa using h), fun h => C16 (by simpa using h), fun h => C18 (by simpa using h), E0, H1, H2, R0, by simpa using B0⟩
          · refine stepOk_some (i := 2) (by rfl) (by rfl) ?_
            rintro u L T w' hT hu hL hp hcl ⟨C0, C1, C2, C3, C4, C5, C6, C7, C8, C9, C10, C11, C12, C14, C16, C18, E0, H1, H2, R0, B0⟩ K hK
            have e1 := C1 (hp.of 1 (by kernel_rfl))
            go_simp
            refine (HC1.out w').mono ?_
            rintro e w1 ⟨he, hx1⟩
            subst w1
            subst he
            refine hK _ _ ?_
            exact ⟨fun h => C0 (by simpa using h), fun h => C1 (by simpa using h), fun _ => rfl, fun h => C3 (by simpa using h), fun h => C4 (by simpa using h), fun h => C5 (by simpa using h), fun h => C6 (by simpa using h), fun h => C7 (by simpa using h), fun h => C8 (by simpa using h), fun h => C9 (by simpa using h), fun h => C10 (by simpa using h), fun h => C11 (by simpa using h), fun h => C12 (by simpa using h), fun h => C14 (by simpa using h), fun h => C16 (by simpa using h), fun h => C18 (by simpa using h), E0, H1, H2, R0, by simpa using B0⟩
          · refine stepOk_some (i := 3) (by rfl) (by rfl) ?_
            rintro u L T w' hT hu hL hp hcl ⟨C0, C1, C2, C3, C4, C5, C6, C7, C8, C9, C10, C11, C12, C14, C16, C18, E0, H1, H2, R0, B0⟩ K hK
            have e1 : u 1 = .pointer (some ⟨b0, 0, none⟩) := hu 1 (by decide)
            go_simp
            refine hK _ _ ?_
            exact ⟨fun h => C0 (by simpa using h), fun h => C1 (by simpa using h), fun h => C2 (by simpa using h), fun _ => rfl, fun h => C4 (by simpa using h), fun h => C5 (by simpa using h), fun h => C6 (by simpa using h), fun h => C7 (by simpa using h), fun h => C8 (by simpa using h), fun h => C9 (by simpa using h), fun h => C10 (by simpa using h), fun h => C11 (by simpa using h), fun h => C12 (by simpa using h), fun h => C14 (by simpa using h), fun h => C16 (by simpa using h), fun h => C18 (by simpa using h), E0, H1, H2, R0, by simpa using B0⟩
          · refine stepOk_some (i := 4) (by rfl) (by rfl) ?_
            rintro u L T w' hT hu hL hp hcl ⟨C0, C1, C2, C3, C4, C5, C6, C7, C8, C9, C10, C11, C12, C14, C16, C18, E0, H1, H2, R0, B0⟩ K hK
            have e3 := C3 (hp.of 3 (by kernel_rfl))
            have d9 := (cells11 H1).2.2.1
            go_simp
            refine hK _ _ ?_
            exact ⟨fun h => C0 (by simpa using h), fun h => C1 (by simpa using h), fun h => C2 (by simpa using h), fun h => C3 (by simpa using h), fun _ => rfl, fun h => C5 (by simpa using h), fun h => C6 (by simpa using h), fun h => C7 (by simpa using h), fun h => C8 (by simpa using h), fun h => C9 (by simpa using h), fun h => C10 (by simpa using h), fun h => C11 (by simpa using h), fun h => C12 (by simpa using h), fun h => C14 (by simpa using h), fun h => C16 (by simpa using h), fun h => C18 (by simpa using h), E0, H1, H2, R0, by simpa using B0⟩
          · refine stepOk_some (i := 5) (by rfl) (by rfl) ?_
            rintro u L T w' hT hu hL hp hcl ⟨C0, C1, C2, C3, C4, C5, C6, C7, C8, C9, C10, C11, C12, C14, C16, C18, E0, H1, H2, R0, B0⟩ K hK
            have e4 := C4 (hp.of 4 (by kernel_rfl))
            go_simp
            refine (HC2.out w').mono ?_
            rintro e w1 ⟨he, hx1⟩
            subst w1
            subst he
            refine hK _ _ ?_
            exact ⟨fun h => C0 (by simpa using h), fun h => C1 (by simpa using h), fun h => C2 (by simpa using h), fun h => C3 (by simpa using h), fun h => C4 (by simpa using h), fun _ => rfl, fun h => C6 (by simpa using h), fun h => C7 (by simpa using h), fun h => C8 (by simpa using h), fun h => C9 (by simpa using h), fun h => C10 (by simpa using h), fun h => C11 (by simpa using h), fun h => C12 (by simpa using h), fun h => C14 (by simpa using h), fun h => C16 (by simpa using h), fun h => C18 (by simpa using h), E0, H1, H2, R0, by simpa using B0⟩
          · refine stepOk_some (i := 6) (by rfl) (by rfl) ?_
            rintro u L T w' hT hu hL hp hcl ⟨C0, C1, C2, C3, C4, C5, C6, C7, C8, C9, C10, C11, C12, C14, C16, C18, E0, H1, H2, R0, B0⟩ K hK
            have e1 : u 1 = .pointer (some ⟨b0, 0, none⟩) := hu 1 (by decide)
            go_simp
            refine hK _ _ ?_
            exact ⟨fun h => C0 (by simpa using h), fun h => C1 (by simpa using h), fun h => C2 (by simpa using h), fun h => C3 (by simpa using h), fun h => C4 (by simpa using h), fun h => C5 (by simpa using h), fun _ => rfl, fun h => C7 (by simpa using h), fun h => C8 (by simpa using h), fun h => C9 (by simpa using h), fun h => C10 (by simpa using h), fun h => C11 (by simpa using h), fun h => C12 (by simpa using h), fun h => C14 (by simpa using h), fun h => C16 (by simpa using h), fun h => C18 (by simpa using h), E0, H1, H2, R0, by simpa using B0⟩
          · refine stepOk_some (i := 7) (by rfl) (by rfl) ?_
            rintro u L T w' hT hu hL hp hcl ⟨C0, C1, C2, C3, C4, C5, C6, C7, C8, C9, C10, C11, C12, C14, C16, C18, E0, H1, H2, R0, B0⟩ K hK
            have e6 := C6 (hp.of 6 (by kernel_rfl))
            have d9 := (cells11 H1).2.2.2.1
            go_simp
            refine hK _ _ ?_
            exact ⟨fun h => C0 (by simpa using h), fun h => C1 (by simpa using h), fun h => C2 (by simpa using h), fun h => C3 (by simpa using h), fun h => C4 (by simpa using h), fun h => C5 (by simpa using h), fun h => C6 (by simpa using h), fun _ => rfl, fun h => C8 (by simpa using h), fun h => C9 (by simpa using h), fun h => C10 (by simpa using h), fun h => C11 (by simpa using h), fun h => C12 (by simpa using h), fun h => C14 (by simpa using h), fun h => C16 (by simpa using h), fun h => C18 (by simpa using h), E0, H1, H2, R0, by simpa using B0⟩
          · refine stepOk_some (i := 8) (by rfl) (by rfl) ?_
            rintro u L T w' hT hu hL hp hcl ⟨C0, C1, C2, C3, C4, C5, C6, C7, C8, C9, C10, C11, C12, C14, C16, C18, E0, H1, H2, R0, B0⟩ K hK
            have e7 := C7 (hp.of 7 (by kernel_rfl))
            go_simp
            refine (HC3.out w').mono ?_
            rintro e w1 ⟨he, hx1⟩
            subst w1
            subst he
            refine hK _ _ ?_
            exact ⟨fun h => C0 (by simpa using h), fun h => C1 (by simpa using h), fun h => C2 (by simpa using h), fun h => C3 (by simpa using h), fun h => C4 (by simpa using h), fun h => C5 (by simpa using h), fun h => C6 (by simpa using h), fun h => C7 (by simpa using h), fun _ => rfl, fun h => C9 (by simpa using h), fun h => C10 (by simpa using h), fun h => C11 (by simpa using h), fun h => C12 (by simpa using h), fun h => C14 (by simpa using h), fun h => C16 (by simpa using h), fun h => C18 (by simpa using h), E0, H1, H2, R0, by simpa using B0⟩
          · refine stepOk_some (i := 9) (by rfl) (by rfl) ?_
            rintro u L T w' hT hu hL hp hcl ⟨C0, C1, C2, C3, C4, C5, C6, C7, C8, C9, C10, C11, C12, C14, C16, C18, E0, H1, H2, R0, B0⟩ K hK
            have e1 : u 1 = .pointer (some ⟨b0, 0, none⟩) := hu 1 (by decide)
            go_simp
            refine hK _ _ ?_
            exact ⟨fun h => C0 (by simpa using h), fun h => C1 (by simpa using h), fun h => C2 (by simpa using h), fun h => C3 (by simpa using h), fun h => C4 (by simpa using h), fun h => C5 (by simpa using h), fun h => C6 (by simpa using h), fun h => C7 (by simpa using h), fun h => C8 (by simpa using h), fun _ => rfl, fun h => C10 (by simpa using h), fun h => C11 (by simpa using h), fun h => C12 (by simpa using h), fun h => C14 (by simpa using h), fun h => C16 (by simpa using h), fun h => C18 (by simpa using h), E0, H1, H2, R0, by simpa using B0⟩
          · refine stepOk_some (i := 10) (by rfl) (by rfl) ?_
            rintro u L T w' hT hu hL hp hcl ⟨C0, C1, C2, C3, C4, C5, C6, C7, C8, C9, C10, C11, C12, C14, C16, C18, E0, H1, H2, R0, B0⟩ K hK
            have e9 := C9 (hp.of 9 (by kernel_rfl))
            have d9 := (cells11 H1).2.2.2.2.1
            go_simp
            refine hK _ _ ?_
            exact ⟨fun h => C0 (by simpa using h), fun h => C1 (by simpa using h), fun h => C2 (by simpa using h), fun h => C3 (by simpa using h), fun h => C4 (by simpa using h), fun h => C5 (by simpa using h), fun h => C6 (by simpa using h), fun h => C7 (by simpa using h), fun h => C8 (by simpa using h), fun h => C9 (by simpa using h), fun _ => rfl, fun h => C11 (by simpa using h), fun h => C12 (by simpa using h), fun h => C14 (by simpa using h), fun h => C16 (by simpa using h), fun h => C18 (by simpa using h), E0, H1, H2, R0, by simpa using B0⟩
          · refine stepOk_some (i := 11) (by rfl) (by rfl) ?_
            rintro u L T w' hT hu hL hp hcl ⟨C0, C1, C2, C3, C4, C5, C6, C7, C8, C9, C10, C11, C12, C14, C16, C18, E0, H1, H2, R0, B0⟩ K hK
            have e10 := C10 (hp.of 10 (by kernel_rfl))
            go_simp
            refine (HC4.out w').mono ?_
            rintro e w1 ⟨he, hx1⟩
            subst w1
            subst he
            refine hK _ _ ?_
            exact ⟨fun h => C0 (by simpa using h), fun h => C1 (by simpa using h), fun h => C2 (by simpa using h), fun h => C3 (by simpa using h), fun h => C4 (by simpa using h), fun h => C5 (by simpa using h), fun h => C6 (by simpa using h), fun h => C7 (by simpa using h), fun h => C8 (by simpa using h), fun h => C9 (by simpa using h), fun h => C10 (by simpa using h), fun _ => rfl, fun h => C12 (by simpa using h), fun h => C14 (by simpa using h), fun h => C16 (by simpa using h), fun h => C18 (by simpa using h), E0, H1, H2, R0, by simpa using B0⟩
          · refine stepOk_some (i := 12) (by rfl) (by rfl) ?_
            rintro u L T w' hT hu hL hp hcl ⟨C0, C1, C2, C3, C4, C5, C6, C7, C8, C9, C10, C11, C12, C14, C16, C18, E0, H1, H2, R0, B0⟩ K hK
            have e1 : u 6 = .pointer (some ⟨gs, 0, none⟩) := hu 6 (by decide)
            go_simp
            refine hK _ _ ?_
            exact ⟨fun h => C0 (by simpa using h), fun h => C1 (by simpa using h), fun h => C2 (by simpa using h), fun h => C3 (by simpa using h), fun h => C4 (by simpa using h), fun h => C5 (by simpa using h), fun h => C6 (by simpa using h), fun h => C7 (by simpa using h), fun h => C8 (by simpa using h), fun h => C9 (by simpa using h), fun h => C10 (by simpa using h), fun h => C11 (by simpa using h), fun _ => rfl, fun h => C14 (by simpa using h), fun h => C16 (by simpa using h), fun h => C18 (by simpa using h), E0, H1, H2, R0, by simpa using B0⟩
          · refine stepOk_none (i := 13) (by rfl) (by rfl) ?_
            rintro u L T w' hT hu hL hp hcl ⟨C0, C1, C2, C3, C4, C5, C6, C7, C8, C9, C10, C11, C12, C14, C16, C18, E0, H1, H2, R0, B0⟩ K hK
            have e2 := C2 (hp.of 2 (by kernel_rfl))
            have e12 := C12 (hp.of 12 (by kernel_rfl))
            have hf9 := frozen_row B0; have hb9 := (Array.getElem?_eq_some_iff.1 B0).1; have d9 := (cells11 B0).2.1
            go_simp
            refine hK _ ?_
            exact ⟨fun h => C0 (by simpa using h), fun h => C1 (by simpa using h), fun h => C2 (by simpa using h), fun h => C3 (by simpa using h), fun h => C4 (by simpa using h), fun h => C5 (by simpa using h), fun h => C6 (by simpa using h), fun h => C7 (by simpa using h), fun h => C8 (by simpa using h), fun h => C9 (by simpa using h), fun h => C10 (by simpa using h), fun h => C11 (by simpa using h), fun h => C12 (by simpa using h), fun h => C14 (by simpa using h), fun h => C16 (by simpa using h), fun h => C18 (by simpa using h), ext_set E0 (by have := HG.out; have := HB0.out; omega), (Below.heap_setCell _ _ _ _ (by show _ ≠ gs; have := HG.out; omega)).trans H1, (Below.heap_setCell _ _ _ _ (by show _ ≠ gs; have := HG.out; omega)).trans H2, R0.bz prC_ne (Bz.set w' gs 1 _) HNE.out, by have h9 := setCell_row B0 1 (Str x1); simp only [List.setIfInBounds_toArray, List.set_cons_succ, List.set_cons_zero] at h9; simpa [hL] using h9⟩
          · refine stepOk_some (i := 14) (by rfl) (by rfl) ?_
            rintro u L T w' hT hu hL hp hcl ⟨C0, C1, C2, C3, C4, C5, C6, C7, C8, C9, C10, C11, C12, C14, C16, C18, E0, H1, H2, R0, B0⟩ K hK
            have e1 : u 6 = .pointer (some ⟨gs, 0, none⟩) := hu 6 (by decide)
            go_simp
            refine hK _ _ ?_
            exact ⟨fun h => C0 (by simpa using h), fun h => C1 (by simpa using h), fun h => C2 (by simpa using h), fun h => C3 (by simpa using h), fun h => C4 (by simpa using h), fun h => C5 (by simpa using h), fun h => C6 (by simpa using h), fun h => C7 (by simpa using h), fun h => C8 (by simpa using h), fun h => C9 (by simpa using h), fun h => C10 (by simpa using h), fun h => C11 (by simpa using h), fun h => C12 (by simpa using h), fun _ => rfl, fun h => C16 (by simpa using h), fun h => C18 (by simpa using h), E0, H1, H2, R0, by simpa using B0⟩
          · refine stepOk_none (i := 15) (by rfl) (by rfl) ?_
            rintro u L T w' hT hu hL hp hcl ⟨C0, C1, C2, C3, C4, C5, C6, C7, C8, C9, C10, C11, C12, C14, C16, C18, E0, H1, H2, R0, B0⟩ K hK
            have e5 := C5 (hp.of 5 (by kernel_rfl))
            have e14 := C14 (hp.of 14 (by kernel_rfl))
            have hf9 := frozen_row B0; have hb9 := (Array.getElem?_eq_some_iff.1 B0).1; have d9 := (cells11 B0).2.2.1
            go_simp
            refine hK _ ?_
            exact ⟨fun h => C0 (by simpa using h), fun h => C1 (by simpa using h), fun h => C2 (by simpa using h), fun h => C3 (by simpa using h), fun h => C4 (by simpa using h), fun h => C5 (by simpa using h), fun h => C6 (by simpa using h), fun h => C7 (by simpa using h), fun h => C8 (by simpa using h), fun h => C9 (by simpa using h), fun h => C10 (by simpa using h), fun h => C11 (by simpa using h), fun h => C12 (by simpa using h), fun h => C14 (by simpa using h), fun h => C16 (by simpa using h), fun h => C18 (by simpa using h), ext_set E0 (by have := HG.out; have := HB0.out; omega), (Below.heap_setCell _ _ _ _ (by show _ ≠ gs; have := HG.out; omega)).trans H1, (Below.heap_setCell _ _ _ _ (by show _ ≠ gs; have := HG.out; omega)).trans H2, R0.bz prC_ne (Bz.set w' gs 2 _) HNE.out, by have h9 := setCell_row B0 2 (Str x2); simp only [List.setIfInBounds_toArray, List.set_cons_succ, List.set_cons_zero] at h9; simpa [hL] using h9⟩
          · refine stepOk_some (i := 16) (by rfl) (by rfl) ?_
            rintro u L T w' hT hu hL hp hcl ⟨C0, C1, C2, C3, C4, C5, C6, C7, C8, C9, C10, C11, C12, C14, C16, C18, E0, H1, H2, R0, B0⟩ K hK
            have e1 : u 6 = .pointer (some ⟨gs, 0, none⟩) := hu 6 (by decide)
            go_simp
            refine hK _ _ ?_
            exact ⟨fun h => C0 (by simpa using h), fun h => C1 (by simpa using h), fun h => C2 (by simpa using h), fun h => C3 (by simpa using h), fun h => C4 (by simpa using h), fun h => C5 (by simpa using h), fun h => C6 (by simpa using h), fun h => C7 (by simpa using h), fun h => C8 (by simpa using h), fun h => C9 (by simpa using h), fun h => C10 (by simpa using h), fun h => C11 (by simpa using h), fun h => C12 (by simpa using h), fun h => C14 (by simpa using h), fun _ => rfl, fun h => C18 (by simpa using h), E0, H1, H2, R0, by simpa using B0⟩
          · refine stepOk_none (i := 17) (by rfl) (by rfl) ?_
            rintro u L T w' hT hu hL hp hcl ⟨C0, C1, C2, C3, C4, C5, C6, C7, C8, C9, C10, C11, C12, C14, C16, C18, E0, H1, H2, R0, B0⟩ K hK
            have e8 := C8 (hp.of 8 (by kernel_rfl))
            have e16 := C16 (hp.of 16 (by kernel_rfl))
            have hf9 := frozen_row B0; have hb9 := (Array.getElem?_eq_some_iff.1 B0).1; have d9 := (cells11 B0).2.2.2.1
            go_simp
            refine hK _ ?_
            exact ⟨fun h => C0 (by simpa using h), fun h => C1 (by simpa using h), fun h => C2 (by simpa using h), fun h => C3 (by simpa using h), fun h => C4 (by simpa using h), fun h => C5 (by simpa using h), fun h => C6 (by simpa using h), fun h => C7 (by simpa using h), fun h => C8 (by simpa using h), fun h => C9 (by simpa using h), fun h => C10 (by simpa using h), fun h => C11 (by simpa using h), fun h => C12 (by simpa using h), fun h => C14 (by simpa using h), fun h => C16 (by simpa using h), fun h => C18 (by simpa using h), ext_set E0 (by have := HG.out; have := HB0.out; omega), (Below.heap_setCell _ _ _ _ (by show _ ≠ gs; have := HG.out; omega)).trans H1, (Below.heap_setCell _ _ _ _ (by show _ ≠ gs; have := HG.out; omega)).trans H2, R0.bz prC_ne (Bz.set w' gs 3 _) HNE.out, by have h9 := setCell_row B0 3 (Str x3); simp only [List.setIfInBounds_toArray, List.set_cons_succ, List.set_cons_zero] at h9; simpa [hL] using h9⟩
          · refine stepOk_some (i := 18) (by rfl) (by rfl) ?_
            rintro u L T w' hT hu hL hp hcl ⟨C0, C1, C2, C3, C4, C5, C6, C7, C8, C9, C10, C11, C12, C14, C16, C18, E0, H1, H2, R0, B0⟩ K hK
            have e1 : u 6 = .pointer (some ⟨gs, 0, none⟩) := hu 6 (by decide)
            go_simp
            refine hK _ _ ?_
            exact ⟨fun h => C0 (by simpa using h), fun h => C1 (by simpa using h), fun h => C2 (by simpa using h), fun h => C3 (by simpa using h), fun h => C4 (by simpa using h), fun h => C5 (by simpa using h), fun h => C6 (by simpa using h), fun h => C7 (by simpa using h), fun h => C8 (by simpa using h), fun h => C9 (by simpa using h), fun h => C10 (by simpa using h), fun h => C11 (by simpa using h), fun h => C12 (by simpa using h), fun h => C14 (by simpa using h), fun h => C16 (by simpa using h), fun _ => rfl, E0, H1, H2, R0, by simpa using B0⟩
          · refine stepOk_none (i := 19) (by rfl) (by rfl) ?_
            rintro u L T w' hT hu hL hp hcl ⟨C0, C1, C2, C3, C4, C5, C6, C7, C8, C9, C10, C11, C12, C14, C16, C18, E0, H1, H2, R0, B0⟩ K hK
            have e11 := C11 (hp.of 11 (by kernel_rfl))
            have e18 := C18 (hp.of 18 (by kernel_rfl))
            have hf9 := frozen_row B0; have hb9 := (Array.getElem?_eq_some_iff.1 B0).1; have d9 := (cells11 B0).2.2.2.2.1
            go_simp
            refine hK _ ?_
            exact ⟨fun h => C0 (by simpa using h), fun h => C1 (by simpa using h), fun h => C2 (by simpa using h), fun h => C3 (by simpa using h), fun h => C4 (by simpa using h), fun h => C5 (by simpa using h), fun h => C6 (by simpa using h), fun h => C7 (by simpa using h), fun h => C8 (by simpa using h), fun h => C9 (by simpa using h), fun h => C10 (by simpa using h), fun h => C11 (by simpa using h), fun h => C12 (by simpa using h), fun h => C14 (by simpa using h), fun h => C16 (by simpa using h), fun h => C18 (by simpa using h), ext_set E0 (by have := HG.out; have := HB0.out; omega), (Below.heap_setCell _ _ _ _ (by show _ ≠ gs; have := HG.out; omega)).trans H1, (Below.heap_setCell _ _ _ _ (by show _ ≠ gs; have := HG.out; omega)).trans H2, R0.bz prC_ne (Bz.set w' gs 4 _) HNE.out, by have h9 := setCell_row B0 4 (Str x4); simp only [List.setIfInBounds_toArray, List.set_cons_succ, List.set_cons_zero] at h9; simpa [hL] using h9⟩
        · rintro u L w' hall hu ⟨C0, C1, C2, C3, C4, C5, C6, C7, C8, C9, C10, C11, C12, C14, C16, C18, E0, H1, H2, R0, B0⟩
          replace C0 := C0 (hall 0 (by omega))
          replace C1 := C1 (hall 1 (by omega))
          replace C2 := C2 (hall 2 (by omega))
          replace C3 := C3 (hall 3 (by omega))
          replace C4 := C4 (hall 4 (by omega))
          replace C5 := C5 (hall 5 (by omega))
          replace C6 := C6 (hall 6 (by omega))
          replace C7 := C7 (hall 7 (by omega))
          replace C8 := C8 (hall 8 (by omega))
          replace C9 := C9 (hall 9 (by omega))
          replace C10 := C10 (hall 10 (by omega))
          replace C11 := C11 (hall 11 (by omega))
          replace C12 := C12 (hall 12 (by omega))
          replace C14 := C14 (hall 14 (by omega))
          replace C16 := C16 (hall 16 (by omega))
          replace C18 := C18 (hall 18 (by omega))
          simp only [fill, List.setIfInBounds_toArray, List.set_cons_succ, List.set_cons_zero, C0, C1, C2, C3, C4, C5, C6, C7, C8, C9, C10, C11, C12, C14, C16, C18]
          clear C0 C1 C2 C3 C4 C5 C6 C7 C8 C9 C10 C11 C12 C14 C16 C18 hu
        -- end inv
          simp only [hall 13 (by omega), hall 15 (by omega), hall 17 (by omega), hall 19 (by omega), if_true] at B0
          have HY := Lib.hid B0; have HR2 := Lib.hid H2; have HE := Lib.hid E0; have HRR := Lib.hid R0
          obtain ⟨c0, c1, c2, c3, c4, c5, c6, c7, c8, c9, c10⟩ := cells11 B0
          obtain ⟨d0, d1, d2, d3, d4, d5, d6, d7, d8, d9, d10⟩ := cells11 H2
          obtain ⟨f0, f1, f2, f3, f4, f5, f6, f7, f8, f9, f10⟩ := frozen11 H2
          clear E0 H1 H2 R0 B0 hall
          go_wp2
          obtain ⟨Z9, hZ9, hr9, hb9⟩ := set11 HR2.out (.int .i64 1) (Str x1) (Str x2) (Str x3) (Str x4) (.slice po fs.length pcap) (.slice none 0 0) (.int .i64 0) (Str []) (.slice none 0 0) (Str [])
          rw [hZ9]
          rw [HFK.out]
          refine bodyPost_ret (v := .agg #[.int .i64 1, Str x1, Str x2, Str x3, Str x4, .slice po fs.length pcap, .slice none 0 0, .int .i64 0, Str [], .slice none 0 0, Str []]) ?_ rfl ⟨⟨_, rfl, _, _, _, rfl, ?_, ?_, ?_, ?_, ?_, ?_⟩, ?_⟩
          · obtain ⟨g0, g1, g2, g3, g4, g5, g6, g7, g8, g9, g10⟩ := cells11 hr9
            clear c0 c1 c2 c3 c4 c5 c6 c7 c8 c9 c10 d0 d1 d2 d3 d4 d5 d6 d7 d8 d9 d10 f0 f1 f2 f3 f4 f5 f6 f7 f8 f9 f10 hr9 hb9 hZ9
            simp [results, loadVar, loadCells, Tryd.isAgg25, Tryd.sizeOf25, Tryd.results5, go_sem, g0, g1, g2, g3, g4, g5, g6, g7, g8, g9, g10]
          · exact HRR.out.bz prC_ne hb9 fun k hk => by have := HLO.out k hk; have := HB0.out; omega
          · exact sl_nil _
          · exact sl_nil _
          · exact fun k hk => by have := HLO.out k hk; have := HB0.out; omega
          · exact nil_sblk
          · exact nil_sblk
          · exact hb9.below HE.out (by have := HB0.out; omega) (Nat.le_refl _)
      · have hkk := hk
        have hfk := HFM.out
        rw [if_neg (by rw [hk]; decide), if_pos hk] at hfk
        have HFK := Lib.hid hfk
        clear hfk
        rw [hk] at HPZ
        clear HFM
        have HC4 := Lib.hid (fun W => cutText_any nonce 80 W (by omega))
        obtain ⟨x4, hx4⟩ : ∃ x, nonce.take 80 = x := ⟨_, rfl⟩
        rw [hx4] at HC4 HFK
        clear hx4
        have HC6 := Lib.hid (fun W h hq => cutS gs (.slice a2 n2 k2) salt 40 W h (by omega) hq)
        obtain ⟨x6, hx6⟩ : ∃ x, salt.take 40 = x := ⟨_, rfl⟩
        rw [hx6] at HC6 HFK
        have HLX6 := Lib.hid hx6
        clear hx6
        have HNE := Lib.hid (show ∀ k, rblk (.slice po fs.length pcap) fs.length k → k ≠ gs from fun k hk => by have := HHI.out k hk; omega)
        obtain ⟨c0, c1, c2, c3, c4, c5, c6, c7, c8, c9, c10⟩ := cells11 HPZ.out
        go_upto_region 14 with fail
        clear c0 c1 c2 c3 c4 c5 c6 c7 c8 c9 c10 hk hkk
        -- inv {'ops': [('fa', 66, 1, '.pointer (some ⟨b0, 0, none⟩)', '.pointer (some ⟨b0, 4, none⟩)'), ('lf', 67, 0, 'Str nonce', 'have d9 := (cells11 H1).2.2.2.2.1'), ('callq', 68, [1], "HC4.out w'", 'Str x4'), ('fa', 69, 1, '.pointer (some ⟨b0, 0, none⟩)', '.pointer (some ⟨b0, 6, none⟩)'), ('lf', 70, 3, '.slice a2 n2 k2', 'have d9 := (cells11 H1).2.2.2.2.2.2.1'), ('callx', 71, [4], "HC6.out w' (HSL.out.ext E0) (Array.getElem?_eq_some_iff.1 B0).1", "OwS gs w' (u 71) x6"), ('fa', 72, 1, '.pointer (some ⟨b0, 0, none⟩)', '.pointer (some ⟨b0, 7, none⟩)'), ('lf', 73, 6, '.int .i64 iter', 'have d9 := (cells11 H1).2.2.2.2.2.2.2.1'), ('fa', 74, 6, '.pointer (some ⟨gs, 0, none⟩)', '.pointer (some ⟨gs, 4, none⟩)'), ('st', None, [2, 8], 'have hf9 := frozen_row B0; have hb9 := (Array.getElem?_eq_some_iff.1 B0).1; have d9 := (cells11 B0).2.2.2.2.1'), ('fa', 75, 6, '.pointer (some ⟨gs, 0, none⟩)', '.pointer (some ⟨gs, 6, none⟩)'), ('st', None, [10], 'have c9 := C5 (hp.of 5 (by kernel_rfl)); obtain ⟨a9, n9, k9, hv9⟩ := sl_form c9.sl; have e9 := (hT 71).trans hv9; have hf9 := frozen_row B0; have hb9 := (Array.getElem?_eq_some_iff.1 B0).1; have d9 := (cells11 B0).2.2.2.2.2.2.1'), ('fa', 76, 6, '.pointer (some ⟨gs, 0, none⟩)', '.pointer (some ⟨gs, 7, none⟩)'), ('st', None, [7, 12], 'have hf9 := frozen_row B0; have hb9 := (Array.getElem?_eq_some_iff.1 B0).1; have d9 := (cells11 B0).2.2.2.2.2.2.2.1')], 'W': [('E0', "Ext w w'", 'Below.drew HXZ.out'), ('H1', "w'.heap[b0]? = some (.cells #[.int .i64 kind, Str flag, Str authz, Str user, Str nonce, .slice ao ls.length cap, .slice a2 n2 k2, .int .i64 iter, Str head, .slice a3 n3 k3, Str code] 25 (0, 0))", 'HBZ.out'), ('H2', "w'.heap[b0 + 1]? = some (.cells zerM 25 (0, 0))", 'HRZ.out'), ('R0', "RowC 2 prC w' (.slice po fs.length pcap) fs", 'HWZ.out.ext (Below.drew (Below.refl _ _))'), ('B0', "w'.heap[gs]? = some (.cells #[.int .i64 2, Str [], Str [], Str [], (if L 9 = true then Str x4 else Str []), .slice po fs.length pcap, (if L 11 = true then u 71 else .slice none 0 0), (if L 13 = true then .int .i64 iter else .int .i64 0), Str [], .slice none 0 0, Str []] 25 (0, 0))", 'HPZ.out')], 'over': {9: {'E0': 'ext_set E0 (by have := HG.out; have := HB0.out; omega)', 'H1': '(Below.heap_setCell _ _ _ _ (by show _ ≠ gs; have := HG.out; omega)).trans H1', 'H2': '(Below.heap_setCell _ _ _ _ (by show _ ≠ gs; have := HG.out; omega)).trans H2', 'R0': "R0.bz prC_ne (Bz.set w' gs 4 _) HNE.out", 'B0': 'by have h9 := setCell_row B0 4 (Str x4); simp only [List.setIfInBounds_toArray, List.set_cons_succ, List.set_cons_zero] at h9; simpa [hL] using h9', 'C5': 'fun h => (C5 (by simpa using h)).st _ _'}, 11: {'E0': 'ext_set E0 (by have := HG.out; have := HB0.out; omega)', 'H1': '(Below.heap_setCell _ _ _ _ (by show _ ≠ gs; have := HG.out; omega)).trans H1', 'H2': '(Below.heap_setCell _ _ _ _ (by show _ ≠ gs; have := HG.out; omega)).trans H2', 'R0': "R0.bz prC_ne (Bz.set w' gs 6 _) HNE.out", 'B0': 'by have h9 := setCell_row B0 6 (.slice a9 n9 k9); simp only [List.setIfInBounds_toArray, List.set_cons_succ, List.set_cons_zero] at h9; rw [hv9]; simpa [hL] using h9', 'C5': 'fun h => (C5 (by simpa using h)).st _ _'}, 13: {'E0': 'ext_set E0 (by have := HG.out; have := HB0.out; omega)', 'H1': '(Below.heap_setCell _ _ _ _ (by show _ ≠ gs; have := HG.out; omega)).trans H1', 'H2': '(Below.heap_setCell _ _ _ _ (by show _ ≠ gs; have := HG.out; omega)).trans H2', 'R0': "R0.bz prC_ne (Bz.set w' gs 7 _) HNE.out", 'B0': 'by have h9 := setCell_row B0 7 (.int .i64 iter); simp only [List.setIfInBounds_toArray, List.set_cons_succ, List.set_cons_zero] at h9; simpa [hL] using h9', 'C5': 'fun h => (C5 (by simpa using h)).st _ _'}, 0: {'B0': 'by simpa [show ∀ v : Value, (upd u 66 v) 71 = u 71 from fun _ => rfl] using B0'}, 1: {'B0': 'by simpa [show ∀ v : Value, (upd u 67 v) 71 = u 71 from fun _ => rfl] using B0'}, 2: {'B0': 'by simpa [show ∀ v : Value, (upd u 68 v) 71 = u 71 from fun _ => rfl] using B0'}, 3: {'B0': 'by simpa [show ∀ v : Value, (upd u 69 v) 71 = u 71 from fun _ => rfl] using B0'}, 4: {'B0': 'by simpa [show ∀ v : Value, (upd u 70 v) 71 = u 71 from fun _ => rfl] using B0'}, 5: {'B0': 'by have h8 := hcl.not 11 (by kernel_rfl) hL; have h9 := ext_at hx1 B0; simpa [h8] using h9'}, 6: {'B0': 'by simpa [show ∀ v : Value, (upd u 72 v) 71 = u 71 from fun _ => rfl] using B0'}, 7: {'B0': 'by simpa [show ∀ v : Value, (upd u 73 v) 71 = u 71 from fun _ => rfl] using B0'}, 8: {'B0': 'by simpa [show ∀ v : Value, (upd u 74 v) 71 = u 71 from fun _ => rfl] using B0'}, 10: {'B0': 'by simpa [show ∀ v : Value, (upd u 75 v) 71 = u 71 from fun _ => rfl] using B0'}, 12: {'B0': 'by simpa [show ∀ v : Value, (upd u 76 v) 71 = u 71 from fun _ => rfl] using B0'}}, 'keephall': 1, 'keep': ['C5']}
        refine wp_region_any (by kernel_rfl) ?_
        change wpAny _ _ _ _ _ _ _ (World.drew _)
        refine wpAny_inv (n := 14) [66, 67, 68, 69, 70, 71, 72, 73, 74, 75, 76] (fun u L w' =>
            (L 0 = true → u 66 = .pointer (some ⟨b0, 4, none⟩)) ∧
            (L 1 = true → u 67 = Str nonce) ∧
            (L 2 = true → u 68 = Str x4) ∧
            (L 3 = true → u 69 = .pointer (some ⟨b0, 6, none⟩)) ∧
            (L 4 = true → u 70 = .slice a2 n2 k2) ∧
            (L 5 = true → OwS gs w' (u 71) x6) ∧
            (L 6 = true → u 72 = .pointer (some ⟨b0, 7, none⟩)) ∧
            (L 7 = true → u 73 = .int .i64 iter) ∧
            (L 8 = true → u 74 = .pointer (some ⟨gs, 4, none⟩)) ∧
            (L 10 = true → u 75 = .pointer (some ⟨gs, 6, none⟩)) ∧
            (L 12 = true → u 76 = .pointer (some ⟨gs, 7, none⟩)) ∧
            (Ext w w') ∧
            (w'.heap[b0]? = some (.cells #[.int .i64 kind, Str flag, Str authz, Str user, Str nonce, .slice ao ls.length cap, .slice a2 n2 k2, .int .i64 iter, Str head, .slice a3 n3 k3, Str code] 25 (0, 0))) ∧
            (w'.heap[b0 + 1]? = some (.cells zerM 25 (0, 0))) ∧
            (RowC 2 prC w' (.slice po fs.length pcap) fs) ∧
            (w'.heap[gs]? = some (.cells #[.int .i64 2, Str [], Str [], Str [], (if L 9 = true then Str x4 else Str []), .slice po fs.length pcap, (if L 11 = true then u 71 else .slice none 0 0), (if L 13 = true then .int .i64 iter else .int .i64 0), Str [], .slice none 0 0, Str []] 25 (0, 0))))
          (by rfl) (by kernel_rfl) (by kernel_rfl) (by rfl) ?_ ?_ ?_
        · exact ⟨(fun h => by cases h), (fun h => by cases h), (fun h => by cases h), (fun h => by cases h), (fun h => by cases h), (fun h => by cases h), (fun h => by cases h), (fun h => by cases h), (fun h => by cases h), (fun h => by cases h), (fun h => by cases h), Below.drew HXZ.out, HBZ.out, HRZ.out, HWZ.out.ext (Below.drew (Below.refl _ _)), HPZ.out⟩
        · refine ⟨⟨⟨⟨⟨⟨⟨⟨⟨⟨⟨⟨⟨⟨trivial, ?_⟩, ?_⟩, ?_⟩, ?_⟩, ?_⟩, ?_⟩, ?_⟩, ?_⟩, ?_⟩, ?_⟩, ?_⟩, ?_⟩, ?_⟩, ?_⟩
          · refine stepOk_some (i := 0) (by rfl) (by rfl) ?_
            rintro u L T w' hT hu hL hp hcl ⟨C0, C1, C2, C3, C4, C5, C6, C7, C8, C10, C12, E0, H1, H2, R0, B0⟩ K hK
            have e1 : u 1 = .pointer (some ⟨b0, 0, none⟩) := hu 1 (by decide)
            go_simp
            refine hK _ _ ?_
            exact ⟨fun _ => rfl, fun h => C1 (by simpa using h), fun h => C2 (by simpa using h), fun h => C3 (by simpa using h), fun h => C4 (by simpa using h), fun h => C5 (by simpa using h), fun h => C6 (by simpa using h), fun h => C7 (by simpa using h), fun h => C8 (by simpa using h), fun h => C10 (by simpa using h), fun h => C12 (by simpa using h), E0, H1, H2, R0, by simpa [show ∀ v : Value, (upd u 66 v) 71 = u 71 from fun _ => rfl] using B0⟩
          · refine stepOk_some (i := 1) (by rfl) (by rfl) ?_
            rintro u L T w' hT hu hL hp hcl ⟨C0, C1, C2, C3, C4, C5, C6, C7, C8, C10, C12, E0, H1, H2, R0, B0⟩ K hK
            have e0 := C0 (hp.of 0 (by kernel_rfl))
            have d9 := (cells11 H1).2.2.2.2.1
            go_simp
            refine hK _ _ ?_
            exact ⟨fun h => C0 (by simpa using h), fun _ => rfl, fun h => C2 (by simpa using h), fun h => C3 (by simpa using h), fun h => C4 (by simpa using h), fun h => C5 (by simpa using h), fun h => C6 (by simpa using h), fun h => C7 (by simpa using h), fun h => C8 (by simpa using h), fun h => C10 (by simpa using h), fun h => C12 (by simpa using h), E0, H1, H2, R0, by simpa [show ∀ v : Value, (upd u 67 v) 71 = u 71 from fun _ => rfl] using B0⟩
          · refine stepOk_some (i := 2) (by rfl) (by rfl) ?_
            rintro u L T w' hT hu hL hp hcl ⟨C0, C1, C2, C3, C4, C5, C6, C7, C8, C10, C12, E0, H1, H2, R0, B0⟩ K hK
            have e1 := C1 (hp.of 1 (by kernel_rfl))
            go_simp
            refine (HC4.out w').mono ?_
            rintro e w1 ⟨he, hx1⟩
            subst w1
            subst he
            refine hK _ _ ?_
            exact ⟨fun h => C0 (by simpa using h), fun h => C1 (by simpa using h), fun _ => rfl, fun h => C3 (by simpa using h), fun h => C4 (by simpa using h), fun h => C5 (by simpa using h), fun h => C6 (by simpa using h), fun h => C7 (by simpa using h), fun h => C8 (by simpa using h), fun h => C10 (by simpa using h), fun h => C12 (by simpa using h), E0, H1, H2, R0, by simpa [show ∀ v : Value, (upd u 68 v) 71 = u 71 from fun _ => rfl] using B0⟩
          · refine stepOk_some (i := 3) (by rfl) (by rfl) ?_
            rintro u L T w' hT hu hL hp hcl ⟨C0, C1, C2, C3, C4, C5, C6, C7, C8, C10, C12, E0, H1, H2, R0, B0⟩ K hK
            have e1 : u 1 = .pointer (some ⟨b0, 0, none⟩) := hu 1 (by decide)
            go_simp
            refine hK _ _ ?_
            exact ⟨fun h => C0 (by simpa using h), fun h => C1 (by simpa using h), fun h => C2 (by simpa using h), fun _ => rfl, fun h => C4 (by simpa using h), fun h => C5 (by simpa using h), fun h => C6 (by simpa using h), fun h => C7 (by simpa using h), fun h => C8 (by simpa using h), fun h => C10 (by simpa using h), fun h => C12 (by simpa using h), E0, H1, H2, R0, by simpa [show ∀ v : Value, (upd u 69 v) 71 = u 71 from fun _ => rfl] using B0⟩
          · refine stepOk_some (i := 4) (by rfl) (by rfl) ?_
            rintro u L T w' hT hu hL hp hcl ⟨C0, C1, C2, C3, C4, C5, C6, C7, C8, C10, C12, E0, H1, H2, R0, B0⟩ K hK
            have e3 := C3 (hp.of 3 (by kernel_rfl))
            have d9 := (cells11 H1).2.2.2.2.2.2.1
            go_simp
            refine hK _ _ ?_
            exact ⟨fun h => C0 (by simpa using h), fun h => C1 (by simpa using h), fun h => C2 (by simpa using h), fun h => C3 (by simpa using h), fun _ => rfl, fun h => C5 (by simpa using h), fun h => C6 (by simpa using h), fun h => C7 (by simpa using h), fun h => C8 (by simpa using h), fun h => C10 (by simpa using h), fun h => C12 (by simpa using h), E0, H1, H2, R0, by simpa [show ∀ v : Value, (upd u 70 v) 71 = u 71 from fun _ => rfl] using B0⟩
          · refine stepOk_some (i := 5) (by rfl) (by rfl) ?_
            rintro u L T w' hT hu hL hp hcl ⟨C0, C1, C2, C3, C4, C5, C6, C7, C8, C10, C12, E0, H1, H2, R0, B0⟩ K hK
            have e4 := C4 (hp.of 4 (by kernel_rfl))
            go_simp
            refine Calls.mono (HC6.out w' (HSL.out.ext E0) (Array.getElem?_eq_some_iff.1 B0).1) ?_
            rintro e w1 ⟨v1, he, hr1, hx1⟩
            subst he
            refine hK _ _ ?_
            exact ⟨fun h => C0 (by simpa using h), fun h => C1 (by simpa using h), fun h => C2 (by simpa using h), fun h => C3 (by simpa using h), fun h => C4 (by simpa using h), fun _ => hr1, fun h => C6 (by simpa using h), fun h => C7 (by simpa using h), fun h => C8 (by simpa using h), fun h => C10 (by simpa using h), fun h => C12 (by simpa using h), ext_trans (E0) hx1, ext_at hx1 (H1), ext_at hx1 (H2), (R0).ext hx1, by have h8 := hcl.not 11 (by kernel_rfl) hL; have h9 := ext_at hx1 B0; simpa [h8] using h9⟩
          · refine stepOk_some (i := 6) (by rfl) (by rfl) ?_
            rintro u L T w' hT hu hL hp hcl ⟨C0, C1, C2, C3, C4, C5, C6, C7, C8, C10, C12, E0, H1, H2, R0, B0⟩ K hK
            have e1 : u 1 = .pointer (some ⟨b0, 0, none⟩) := hu 1 (by decide)
            go_simp
            refine hK _ _ ?_
            exact ⟨fun h => C0 (by simpa using h), fun h => C1 (by simpa using h), fun h => C2 (by simpa using h), fun h => C3 (by simpa using h), fun h => C4 (by simpa using h), fun h => C5 (by simpa using h), fun _ => rfl, fun h => C7 (by simpa using h), fun h => C8 (by simpa using h), fun h => C10 (by simpa using h), fun h => C12 (by simpa using h), E0, H1, H2, R0, by simpa [show ∀ v : Value, (upd u 72 v) 71 = u 71 from fun _ => rfl] using B0⟩
          · refine stepOk_some (i := 7) (by rfl) (by rfl) ?_
            rintro u L T w' hT hu hL hp hcl ⟨C0, C1, C2, C3, C4, C5, C6, C7, C8, C10, C12, E0, H1, H2, R0, B0⟩ K hK
            have e6 := C6 (hp.of 6 (by kernel_rfl))
            have d9 := (cells11 H1).2.2.2.2.2.2.2.1
            go_simp
            refine hK _ _ ?_
            exact ⟨fun h => C0 (by simpa using h), fun h => C1 (by simpa using h), fun h => C2 (by simpa using h), fun h => C3 (by simpa using h), fun h => C4 (by simpa using h), fun h => C5 (by simpa using h), fun h => C6 (by simpa using h), fun _ => rfl, fun h => C8 (by simpa using h), fun h => C10 (by simpa using h), fun h => C12 (by simpa using h), E0, H1, H2, R0, by simpa [show ∀ v : Value, (upd u 73 v) 71 = u 71 from fun _ => rfl] using B0⟩
          · refine stepOk_some (i := 8) (by rfl) (by rfl) ?_
            rintro u L T w' hT hu hL hp hcl ⟨C0, C1, C2, C3, C4, C5, C6, C7, C8, C10, C12, E0, H1, H2, R0, B0⟩ K hK
            have e1 : u 6 = .pointer (some ⟨gs, 0, none⟩) := hu 6 (by decide)
            go_simp
            refine hK _ _ ?_
            exact ⟨fun h => C0 (by simpa using h), fun h => C1 (by simpa using h), fun h => C2 (by simpa using h), fun h => C3 (by simpa using h), fun h => C4 (by simpa using h), fun h => C5 (by simpa using h), fun h => C6 (by simpa using h), fun h => C7 (by simpa using h), fun _ => rfl, fun h => C10 (by simpa using h), fun h => C12 (by simpa using h), E0, H1, H2, R0, by simpa [show ∀ v : Value, (upd u 74 v) 71 = u 71 from fun _ => rfl] using B0⟩
          · refine stepOk_none (i := 9) (by rfl) (by rfl) ?_
            rintro u L T w' hT hu hL hp hcl ⟨C0, C1, C2, C3, C4, C5, C6, C7, C8, C10, C12, E0, H1, H2, R0, B0⟩ K hK
            have e2 := C2 (hp.of 2 (by kernel_rfl))
            have e8 := C8 (hp.of 8 (by kernel_rfl))
            have hf9 := frozen_row B0; have hb9 := (Array.getElem?_eq_some_iff.1 B0).1; have d9 := (cells11 B0).2.2.2.2.1
            go_simp
            refine hK _ ?_
            exact ⟨fun h => C0 (by simpa using h), fun h => C1 (by simpa using h), fun h => C2 (by simpa using h), fun h => C3 (by simpa using h), fun h => C4 (by simpa using h), fun h => (C5 (by simpa using h)).st _ _, fun h => C6 (by simpa using h), fun h => C7 (by simpa using h), fun h => C8 (by simpa using h), fun h => C10 (by simpa using h), fun h => C12 (by simpa using h), ext_set E0 (by have := HG.out; have := HB0.out; omega), (Below.heap_setCell _ _ _ _ (by show _ ≠ gs; have := HG.out; omega)).trans H1, (Below.heap_setCell _ _ _ _ (by show _ ≠ gs; have := HG.out; omega)).trans H2, R0.bz prC_ne (Bz.set w' gs 4 _) HNE.out, by have h9 := setCell_row B0 4 (Str x4); simp only [List.setIfInBounds_toArray, List.set_cons_succ, List.set_cons_zero] at h9; simpa [hL] using h9⟩
          · refine stepOk_some (i := 10) (by rfl) (by rfl) ?_
            rintro u L T w' hT hu hL hp hcl ⟨C0, C1, C2, C3, C4, C5, C6, C7, C8, C10, C12, E0, H1, H2, R0, B0⟩ K hK
            have e1 : u 6 = .pointer (some ⟨gs, 0, none⟩) := hu 6 (by decide)
            go_simp
            refine hK _ _ ?_
            exact ⟨fun h => C0 (by simpa using h), fun h => C1 (by simpa using h), fun h => C2 (by simpa using h), fun h => C3 (by simpa using h), fun h => C4 (by simpa using h), fun h => C5 (by simpa using h), fun h => C6 (by simpa using h), fun h => C7 (by simpa using h), fun h => C8 (by simpa using h), fun _ => rfl, fun h => C12 (by simpa using h), E0, H1, H2, R0, by simpa [show ∀ v : Value, (upd u 75 v) 71 = u 71 from fun _ => rfl] using B0⟩
          · refine stepOk_none (i := 11) (by rfl) (by rfl) ?_
            rintro u L T w' hT hu hL hp hcl ⟨C0, C1, C2, C3, C4, C5, C6, C7, C8, C10, C12, E0, H1, H2, R0, B0⟩ K hK
            have e10 := C10 (hp.of 10 (by kernel_rfl))
            have c9 := C5 (hp.of 5 (by kernel_rfl)); obtain ⟨a9, n9, k9, hv9⟩ := sl_form c9.sl; have e9 := (hT 71).trans hv9; have hf9 := frozen_row B0; have hb9 := (Array.getElem?_eq_some_iff.1 B0).1; have d9 := (cells11 B0).2.2.2.2.2.2.1
            go_simp
            refine hK _ ?_
            exact ⟨fun h => C0 (by simpa using h), fun h => C1 (by simpa using h), fun h => C2 (by simpa using h), fun h => C3 (by simpa using h), fun h => C4 (by simpa using h), fun h => (C5 (by simpa using h)).st _ _, fun h => C6 (by simpa using h), fun h => C7 (by simpa using h), fun h => C8 (by simpa using h), fun h => C10 (by simpa using h), fun h => C12 (by simpa using h), ext_set E0 (by have := HG.out; have := HB0.out; omega), (Below.heap_setCell _ _ _ _ (by show _ ≠ gs; have := HG.out; omega)).trans H1, (Below.heap_setCell _ _ _ _ (by show _ ≠ gs; have := HG.out; omega)).trans H2, R0.bz prC_ne (Bz.set w' gs 6 _) HNE.out, by have h9 := setCell_row B0 6 (.slice a9 n9 k9); simp only [List.setIfInBounds_toArray, List.set_cons_succ, List.set_cons_zero] at h9; rw [hv9]; simpa [hL] using h9⟩
          · refine stepOk_some (i := 12) (by rfl) (by rfl) ?_
            rintro u L T w' hT hu hL hp hcl ⟨C0, C1, C2, C3, C4, C5, C6, C7, C8, C10, C12, E0, H1, H2, R0, B0⟩ K hK
            have e1 : u 6 = .pointer (some ⟨gs, 0, none⟩) := hu 6 (by decide)
            go_simp
            refine hK _ _ ?_
            exact ⟨fun h => C0 (by simpa using h), fun h => C1 (by simpa using h), fun h => C2 (by simpa using h), fun h => C3 (by simpa using h), fun h => C4 (by simpa using h), fun h => C5 (by simpa using h), fun h => C6 (by simpa using h), fun h => C7 (by simpa using h), fun h => C8 (by simpa using h), fun h => C10 (by simpa using h), fun _ => rfl, E0, H1, H2, R0, by simpa [show ∀ v : Value, (upd u 76 v) 71 = u 71 from fun _ => rfl] using B0⟩
          · refine stepOk_none (i := 13) (by rfl) (by rfl) ?_
            rintro u L T w' hT hu hL hp hcl ⟨C0, C1, C2, C3, C4, C5, C6, C7, C8, C10, C12, E0, H1, H2, R0, B0⟩ K hK
            have e7 := C7 (hp.of 7 (by kernel_rfl))
            have e12 := C12 (hp.of 12 (by kernel_rfl))
            have hf9 := frozen_row B0; have hb9 := (Array.getElem?_eq_some_iff.1 B0).1; have d9 := (cells11 B0).2.2.2.2.2.2.2.1
            go_simp
            refine hK _ ?_
            exact ⟨fun h => C0 (by simpa using h), fun h => C1 (by simpa using h), fun h => C2 (by simpa using h), fun h => C3 (by simpa using h), fun h => C4 (by simpa using h), fun h => (C5 (by simpa using h)).st _ _, fun h => C6 (by simpa using h), fun h => C7 (by simpa using h), fun h => C8 (by simpa using h), fun h => C10 (by simpa using h), fun h => C12 (by simpa using h), ext_set E0 (by have := HG.out; have := HB0.out; omega), (Below.heap_setCell _ _ _ _ (by show _ ≠ gs; have := HG.out; omega)).trans H1, (Below.heap_setCell _ _ _ _ (by show _ ≠ gs; have := HG.out; omega)).trans H2, R0.bz prC_ne (Bz.set w' gs 7 _) HNE.out, by have h9 := setCell_row B0 7 (.int .i64 iter); simp only [List.setIfInBounds_toArray, List.set_cons_succ, List.set_cons_zero] at h9; simpa [hL] using h9⟩
        · rintro u L w' hall hu ⟨C0, C1, C2, C3, C4, C5, C6, C7, C8, C10, C12, E0, H1, H2, R0, B0⟩
          replace C0 := C0 (hall 0 (by omega))
          replace C1 := C1 (hall 1 (by omega))
          replace C2 := C2 (hall 2 (by omega))
          replace C3 := C3 (hall 3 (by omega))
          replace C4 := C4 (hall 4 (by omega))
          replace C5 := C5 (hall 5 (by omega))
          replace C6 := C6 (hall 6 (by omega))
          replace C7 := C7 (hall 7 (by omega))
          replace C8 := C8 (hall 8 (by omega))
          replace C10 := C10 (hall 10 (by omega))
          replace C12 := C12 (hall 12 (by omega))
          simp only [fill, List.setIfInBounds_toArray, List.set_cons_succ, List.set_cons_zero, C0, C1, C2, C3, C4, C6, C7, C8, C10, C12]
          generalize u 71 = s0 at *
          clear C0 C1 C2 C3 C4 C6 C7 C8 C10 C12 hu
        -- end inv
          simp only [hall 9 (by omega), hall 11 (by omega), hall 13 (by omega), if_true] at B0
          obtain ⟨ya, yn, yk, hyv⟩ := sl_form C5.sl
          subst hyv
          have HY := Lib.hid B0; have HR2 := Lib.hid H2; have HE := Lib.hid E0; have HRR := Lib.hid R0
          have HCX := Lib.hid C5
          clear C5
          obtain ⟨c0, c1, c2, c3, c4, c5, c6, c7, c8, c9, c10⟩ := cells11 B0
          obtain ⟨d0, d1, d2, d3, d4, d5, d6, d7, d8, d9, d10⟩ := cells11 H2
          obtain ⟨f0, f1, f2, f3, f4, f5, f6, f7, f8, f9, f10⟩ := frozen11 H2
          clear E0 H1 H2 R0 B0 hall
          go_wp2
          obtain ⟨Z9, hZ9, hr9, hb9⟩ := set11 HR2.out (.int .i64 2) (Str []) (Str []) (Str []) (Str x4) (.slice po fs.length pcap) (.slice ya yn yk) (.int .i64 iter) (Str []) (.slice none 0 0) (Str [])
          rw [hZ9]
          rw [HFK.out]
          refine bodyPost_ret (v := .agg #[.int .i64 2, Str [], Str [], Str [], Str x4, .slice po fs.length pcap, .slice ya yn yk, .int .i64 iter, Str [], .slice none 0 0, Str []]) ?_ rfl ⟨⟨_, rfl, _, _, _, rfl, ?_, ?_, ?_, ?_, ?_, ?_⟩, ?_⟩
          · obtain ⟨g0, g1, g2, g3, g4, g5, g6, g7, g8, g9, g10⟩ := cells11 hr9
            clear c0 c1 c2 c3 c4 c5 c6 c7 c8 c9 c10 d0 d1 d2 d3 d4 d5 d6 d7 d8 d9 d10 f0 f1 f2 f3 f4 f5 f6 f7 f8 f9 f10 hr9 hb9 hZ9
            simp [results, loadVar, loadCells, Tryd.isAgg25, Tryd.sizeOf25, Tryd.results5, go_sem, g0, g1, g2, g3, g4, g5, g6, g7, g8, g9, g10]
          · exact HRR.out.bz prC_ne hb9 fun k hk => by have := HLO.out k hk; have := HB0.out; omega
          · exact HCX.out.sl.bz hb9 fun k hk => by have := HCX.out.lt k hk; have := HG.out; have := HB0.out; omega
          · exact sl_nil _
          · exact fun k hk => by have := HLO.out k hk; have := HB0.out; omega
          · exact fun k hk => by have := HCX.out.lt k hk; have := HG.out; have := HB0.out; omega
          · exact nil_sblk
          · exact hb9.below HE.out (by have := HB0.out; omega) (Nat.le_refl _)
      · have hkk := hk
        have hfk := HFM.out
        rw [if_neg (by rw [hk]; decide), if_neg (by rw [hk]; decide), if_pos hk] at hfk
        have HFK := Lib.hid hfk
        clear hfk
        rw [hk] at HPZ
        clear HFM
        have HC8 := Lib.hid (fun W => cutText_any head 100 W (by omega))
        obtain ⟨x8, hx8⟩ : ∃ x, head.take 100 = x := ⟨_, rfl⟩
        rw [hx8] at HC8 HFK
        clear hx8
        have HC4 := Lib.hid (fun W => cutText_any nonce 80 W (by omega))
        obtain ⟨x4, hx4⟩ : ∃ x, nonce.take 80 = x := ⟨_, rfl⟩
        rw [hx4] at HC4 HFK
        clear hx4
        have HC9 := Lib.hid (fun W h hq => cutS gs (.slice a3 n3 k3) proof 40 W h (by omega) hq)
        obtain ⟨x9, hx9⟩ : ∃ x, proof.take 40 = x := ⟨_, rfl⟩
        rw [hx9] at HC9 HFK
        have HLX9 := Lib.hid hx9
        clear hx9
        have HNE := Lib.hid (show ∀ k, rblk (.slice po fs.length pcap) fs.length k → k ≠ gs from fun k hk => by have := HHI.out k hk; omega)
        obtain ⟨c0, c1, c2, c3, c4, c5, c6, c7, c8, c9, c10⟩ := cells11 HPZ.out
        go_upto_region 16 with fail
        clear c0 c1 c2 c3 c4 c5 c6 c7 c8 c9 c10 hk hkk
        -- inv {'ops': [('fa', 79, 1, '.pointer (some ⟨b0, 0, none⟩)', '.pointer (some ⟨b0, 8, none⟩)'), ('lf', 80, 0, 'Str head', 'have d9 := (cells11 H1).2.2.2.2.2.2.2.2.1'), ('callq', 81, [1], "HC8.out w'", 'Str x8'), ('fa', 82, 1, '.pointer (some ⟨b0, 0, none⟩)', '.pointer (some ⟨b0, 4, none⟩)'), ('lf', 83, 3, 'Str nonce', 'have d9 := (cells11 H1).2.2.2.2.1'), ('callq', 84, [4], "HC4.out w'", 'Str x4'), ('fa', 85, 1, '.pointer (some ⟨b0, 0, none⟩)', '.pointer (some ⟨b0, 9, none⟩)'), ('lf', 86, 6, '.slice a3 n3 k3', 'have d9 := (cells11 H1).2.2.2.2.2.2.2.2.2.1'), ('callx', 87, [7], "HC9.out w' (HPL.out.ext E0) (Array.getElem?_eq_some_iff.1 B0).1", "OwS gs w' (u 87) x9"), ('fa', 88, 6, '.pointer (some ⟨gs, 0, none⟩)', '.pointer (some ⟨gs, 8, none⟩)'), ('st', None, [2, 9], 'have hf9 := frozen_row B0; have hb9 := (Array.getElem?_eq_some_iff.1 B0).1; have d9 := (cells11 B0).2.2.2.2.2.2.2.2.1'), ('fa', 89, 6, '.pointer (some ⟨gs, 0, none⟩)', '.pointer (some ⟨gs, 4, none⟩)'), ('st', None, [5, 11], 'have hf9 := frozen_row B0; have hb9 := (Array.getElem?_eq_some_iff.1 B0).1; have d9 := (cells11 B0).2.2.2.2.1'), ('fa', 90, 6, '.pointer (some ⟨gs, 0, none⟩)', '.pointer (some ⟨gs, 9, none⟩)'), ('st', None, [13], 'have c9 := C8 (hp.of 8 (by kernel_rfl)); obtain ⟨a9, n9, k9, hv9⟩ := sl_form c9.sl; have e9 := (hT 87).trans hv9; have hf9 := frozen_row B0; have hb9 := (Array.getElem?_eq_some_iff.1 B0).1; have d9 := (cells11 B0).2.2.2.2.2.2.2.2.2.1')], 'W': [('E0', "Ext w w'", 'Below.drew HXZ.out'), ('H1', "w'.heap[b0]? = some (.cells #[.int .i64 kind, Str flag, Str authz, Str user, Str nonce, .slice ao ls.length cap, .slice a2 n2 k2, .int .i64 iter, Str head, .slice a3 n3 k3, Str code] 25 (0, 0))", 'HBZ.out'), ('H2', "w'.heap[b0 + 1]? = some (.cells zerM 25 (0, 0))", 'HRZ.out'), ('R0', "RowC 2 prC w' (.slice po fs.length pcap) fs", 'HWZ.out.ext (Below.drew (Below.refl _ _))'), ('B0', "w'.heap[gs]? = some (.cells #[.int .i64 3, Str [], Str [], Str [], (if L 12 = true then Str x4 else Str []), .slice po fs.length pcap, .slice none 0 0, .int .i64 0, (if L 10 = true then Str x8 else Str []), (if L 14 = true then u 87 else .slice none 0 0), Str []] 25 (0, 0))", 'HPZ.out')], 'over': {10: {'E0': 'ext_set E0 (by have := HG.out; have := HB0.out; omega)', 'H1': '(Below.heap_setCell _ _ _ _ (by show _ ≠ gs; have := HG.out; omega)).trans H1', 'H2': '(Below.heap_setCell _ _ _ _ (by show _ ≠ gs; have := HG.out; omega)).trans H2', 'R0': "R0.bz prC_ne (Bz.set w' gs 8 _) HNE.out", 'B0': 'by have h9 := setCell_row B0 8 (Str x8); simp only [List.setIfInBounds_toArray, List.set_cons_succ, List.set_cons_zero] at h9; simpa [hL] using h9', 'C8': 'fun h => (C8 (by simpa using h)).st _ _'}, 12: {'E0': 'ext_set E0 (by have := HG.out; have := HB0.out; omega)', 'H1': '(Below.heap_setCell _ _ _ _ (by show _ ≠ gs; have := HG.out; omega)).trans H1', 'H2': '(Below.heap_setCell _ _ _ _ (by show _ ≠ gs; have := HG.out; omega)).trans H2', 'R0': "R0.bz prC_ne (Bz.set w' gs 4 _) HNE.out", 'B0': 'by have h9 := setCell_row B0 4 (Str x4); simp only [List.setIfInBounds_toArray, List.set_cons_succ, List.set_cons_zero] at h9; simpa [hL] using h9', 'C8': 'fun h => (C8 (by simpa using h)).st _ _'}, 14: {'E0': 'ext_set E0 (by have := HG.out; have := HB0.out; omega)', 'H1': '(Below.heap_setCell _ _ _ _ (by show _ ≠ gs; have := HG.out; omega)).trans H1', 'H2': '(Below.heap_setCell _ _ _ _ (by show _ ≠ gs; have := HG.out; omega)).trans H2', 'R0': "R0.bz prC_ne (Bz.set w' gs 9 _) HNE.out", 'B0': 'by have h9 := setCell_row B0 9 (.slice a9 n9 k9); simp only [List.setIfInBounds_toArray, List.set_cons_succ, List.set_cons_zero] at h9; rw [hv9]; simpa [hL] using h9', 'C8': 'fun h => (C8 (by simpa using h)).st _ _'}, 0: {'B0': 'by simpa [show ∀ v : Value, (upd u 79 v) 87 = u 87 from fun _ => rfl] using B0'}, 1: {'B0': 'by simpa [show ∀ v : Value, (upd u 80 v) 87 = u 87 from fun _ => rfl] using B0'}, 2: {'B0': 'by simpa [show ∀ v : Value, (upd u 81 v) 87 = u 87 from fun _ => rfl] using B0'}, 3: {'B0': 'by simpa [show ∀ v : Value, (upd u 82 v) 87 = u 87 from fun _ => rfl] using B0'}, 4: {'B0': 'by simpa [show ∀ v : Value, (upd u 83 v) 87 = u 87 from fun _ => rfl] using B0'}, 5: {'B0': 'by simpa [show ∀ v : Value, (upd u 84 v) 87 = u 87 from fun _ => rfl] using B0'}, 6: {'B0': 'by simpa [show ∀ v : Value, (upd u 85 v) 87 = u 87 from fun _ => rfl] using B0'}, 7: {'B0': 'by simpa [show ∀ v : Value, (upd u 86 v) 87 = u 87 from fun _ => rfl] using B0'}, 8: {'B0': 'by have h8 := hcl.not 14 (by kernel_rfl) hL; have h9 := ext_at hx1 B0; simpa [h8] using h9'}, 9: {'B0': 'by simpa [show ∀ v : Value, (upd u 88 v) 87 = u 87 from fun _ => rfl] using B0'}, 11: {'B0': 'by simpa [show ∀ v : Value, (upd u 89 v) 87 = u 87 from fun _ => rfl] using B0'}, 13: {'B0': 'by simpa [show ∀ v : Value, (upd u 90 v) 87 = u 87 from fun _ => rfl] using B0'}}, 'keephall': 1, 'keep': ['C8']}
        refine wp_region_any (by kernel_rfl) ?_
        change wpAny _ _ _ _ _ _ _ (World.drew _)
        refine wpAny_inv (n := 15) [79, 80, 81, 82, 83, 84, 85, 86, 87, 88, 89, 90] (fun u L w' =>
            (L 0 = true → u 79 = .pointer (some ⟨b0, 8, none⟩)) ∧
            (L 1 = true → u 80 = Str head) ∧
            (L 2 = true → u 81 = Str x8) ∧
            (L 3 = true → u 82 = .pointer (some ⟨b0, 4, none⟩)) ∧
            (L 4 = true → u 83 = Str nonce) ∧
            (L 5 = true → u 84 = Str x4) ∧
            (L 6 = true → u 85 = .pointer (some ⟨b0, 9, none⟩)) ∧
            (L 7 = true → u 86 = .slice a3 n3 k3) ∧
            (L 8 = true → OwS gs w' (u 87) x9) ∧
            (L 9 = true → u 88 = .pointer (some ⟨gs, 8, none⟩)) ∧
            (L 11 = true → u 89 = .pointer (some ⟨gs, 4, none⟩)) ∧
            (L 13 = true → u 90 = .pointer (some ⟨gs, 9, none⟩)) ∧
            (Ext w w') ∧
            (w'.heap[b0]? = some (.cells #[.int .i64 kind, Str flag, Str authz, Str user, Str nonce, .slice ao ls.length cap, .slice a2 n2 k2, .int .i64 iter, Str head, .slice a3 n3 k3, Str code] 25 (0, 0))) ∧
            (w'.heap[b0 + 1]? = some (.cells zerM 25 (0, 0))) ∧
            (RowC 2 prC w' (.slice po fs.length pcap) fs) ∧
            (w'.heap[gs]? = some (.cells #[.int .i64 3, Str [], Str [], Str [], (if L 12 = true then Str x4 else Str []), .slice po fs.length pcap, .slice none 0 0, .int .i64 0, (if L 10 = true then Str x8 else Str []), (if L 14 = true then u 87 else .slice none 0 0), Str []] 25 (0, 0))))
          (by rfl) (by kernel_rfl) (by kernel_rfl) (by rfl) ?_ ?_ ?_
        · exact ⟨(fun h => by cases h), (fun h => by cases h), (fun h => by cases h), (fun h => by cases h), (fun h => by cases h), (fun h => by cases h), (fun h => by cases h), (fun h => by cases h), (fun h => by cases h), (fun h => by cases h), (fun h => by cases h), (fun h => by cases h), Below.drew HXZ.out, HBZ.out, HRZ.out, HWZ.out.ext (Below.drew (Below.refl _ _)), HPZ.out⟩
        · refine ⟨⟨⟨⟨⟨⟨⟨⟨⟨⟨⟨⟨⟨⟨⟨trivial, ?_⟩, ?_⟩, ?_⟩, ?_⟩, ?_⟩, ?_⟩, ?_⟩, ?_⟩, ?_⟩, ?_⟩, ?_⟩, ?_⟩, ?_⟩, ?_⟩, ?_⟩
          · refine stepOk_some (i := 0) (by rfl) (by rfl) ?_
            rintro u L T w' hT hu hL hp hcl ⟨C0, C1, C2, C3, C4, C5, C6, C7, C8, C9, C11, C13, E0, H1, H2, R0, B0⟩ K hK
            have e1 : u 1 = .pointer (some ⟨b0, 0, none⟩) := hu 1 (by decide)
            go_simp
            refine hK _ _ ?_
            exact ⟨fun _ => rfl, fun h => C1 (by simpa using h), fun h => C2 (by simpa using h), fun h => C3 (by simpa using h), fun h => C4 (by simpa using h), fun h => C5 (by simpa using h), fun h => C6 (by simpa using h), fun h => C7 (by simpa using h), fun h => C8 (by simpa using h), fun h => C9 (by simpa using h), fun h => C11 (by simpa using h), fun h => C13 (by simpa using h), E0, H1, H2, R0, by simpa [show ∀ v : Value, (upd u 79 v) 87 = u 87 from fun _ => rfl] using B0⟩
          · refine stepOk_some (i := 1) (by rfl) (by rfl) ?_
            rintro u L T w' hT hu hL hp hcl ⟨C0, C1, C2, C3, C4, C5, C6, C7, C8, C9, C11, C13, E0, H1, H2, R0, B0⟩ K hK
            have e0 := C0 (hp.of 0 (by kernel_rfl))
            have d9 := (cells11 H1).2.2.2.2.2.2.2.2.1
            go_simp
            refine hK _ _ ?_
            exact ⟨fun h => C0 (by simpa using h), fun _ => rfl, fun h => C2 (by simpa using h), fun h => C3 (by simpa using h), fun h => C4 (by simpa using h), fun h => C5 (by simpa using h), fun h => C6 (by simpa using h), fun h => C7 (by simpa using h), fun h => C8 (by simpa using h), fun h => C9 (by simpa using h), fun h => C11 (by simpa using h), fun h => C13 (by simpa using h), E0, H1, H2, R0, by simpa [show ∀ v : Value, (upd u 80 v) 87 = u 87 from fun _ => rfl] using B0⟩
          · refine stepOk_some (i := 2) (by rfl) (by rfl) ?_
            rintro u L T w' hT hu hL hp hcl ⟨C0, C1, C2, C3, C4, C5, C6, C7, C8, C9, C11, C13, E0, H1, H2, R0, B0⟩ K hK
            have e1 := C1 (hp.of 1 (by kernel_rfl))
            go_simp
            refine (HC8.out w').mono ?_
            rintro e w1 ⟨he, hx1⟩
            subst w1
            subst he
            refine hK _ _ ?_
            exact ⟨fun h => C0 (by simpa using h), fun h => C1 (by simpa using h), fun _ => rfl, fun h => C3 (by simpa using h), fun h => C4 (by simpa using h), fun h => C5 (by simpa using h), fun h => C6 (by simpa using h), fun h => C7 (by simpa using h), fun h => C8 (by simpa using h), fun h => C9 (by simpa using h), fun h => C11 (by simpa using h), fun h => C13 (by simpa using h), E0, H1, H2, R0, by simpa [show ∀ v : Value, (upd u 81 v) 87 = u 87 from fun _ => rfl] using B0⟩
          · refine stepOk_some (i := 3) (by rfl) (by rfl) ?_
            rintro u L T w' hT hu hL hp hcl ⟨C0, C1, C2, C3, C4, C5, C6, C7, C8, C9, C11, C13, E0, H1, H2, R0, B0⟩ K hK
            have e1 : u 1 = .pointer (some ⟨b0, 0, none⟩) := hu 1 (by decide)
            go_simp
            refine hK _ _ ?_
            exact ⟨fun h => C0 (by simpa using h), fun h => C1 (by simpa using h), fun h => C2 (by simpa using h), fun _ => rfl, fun h => C4 (by simpa using h), fun h => C5 (by simpa using h), fun h => C6 (by simpa using h), fun h => C7 (by simpa using h), fun h => C8 (by simpa using h), fun h => C9 (by simpa using h), fun h => C11 (by simpa using h), fun h => C13 (by simpa using h), E0, H1, H2, R0, by simpa [show ∀ v : Value, (upd u 82 v) 87 = u 87 from fun _ => rfl] using B0⟩
          · refine stepOk_some (i := 4) (by rfl) (by rfl) ?_
            rintro u L T w' hT hu hL hp hcl ⟨C0, C1, C2, C3, C4, C5, C6, C7, C8, C9, C11, C13, E0, H1, H2, R0, B0⟩ K hK
            have e3 := C3 (hp.of 3 (by kernel_rfl))
            have d9 := (cells11 H1).2.2.2.2.1
            go_simp
            refine hK _ _ ?_
            exact ⟨fun h => C0 (by simpa using h), fun h => C1 (by simpa using h), fun h => C2 (by simpa using h), fun h => C3 (by simpa using h), fun _ => rfl, fun h => C5 (by simpa using h), fun h => C6 (by simpa using h), fun h => C7 (by simpa using h), fun h => C8 (by simpa using h), fun h => C9 (by simpa using h), fun h => C11 (by simpa using h), fun h => C13 (by simpa using h), E0, H1, H2, R0, by simpa [show ∀ v : Value, (upd u 83 v) 87 = u 87 from fun _ => rfl] using B0⟩
          · refine stepOk_some (i := 5) (by rfl) (by rfl) ?_
            rintro u L T w' hT hu hL hp hcl ⟨C0, C1, C2, C3, C4, C5, C6, C7, C8, C9, C11, C13, E0, H1, H2, R0, B0⟩ K hK
            have e4 := C4 (hp.of 4 (by kernel_rfl))
            go_simp
            refine (HC4.out w').mono ?_
            rintro e w1 ⟨he, hx1⟩
            subst w1
            subst he
            refine hK _ _ ?_
            exact ⟨fun h => C0 (by simpa using h), fun h => C1 (by simpa using h), fun h => C2 (by simpa using h), fun h => C3 (by simpa using h), fun h => C4 (by simpa using h), fun _ => rfl, fun h => C6 (by simpa using h), fun h => C7 (by simpa using h), fun h => C8 (by simpa using h), fun h => C9 (by simpa using h), fun h => C11 (by simpa using h), fun h => C13 (by simpa using h), E0, H1, H2, R0, by simpa [show ∀ v : Value, (upd u 84 v) 87 = u 87 from fun _ => rfl] using B0⟩
          · refine stepOk_some (i := 6) (by rfl) (by rfl) ?_
            rintro u L T w' hT hu hL hp hcl ⟨C0, C1, C2, C3, C4, C5, C6, C7, C8, C9, C11, C13, E0, H1, H2, R0, B0⟩ K hK
            have e1 : u 1 = .pointer (some ⟨b0, 0, none⟩) := hu 1 (by decide)
            go_simp
            refine hK _ _ ?_
            exact ⟨fun h => C0 (by simpa using h), fun h => C1 (by simpa using h), fun h => C2 (by simpa using h), fun h => C3 (by simpa using h), fun h => C4 (by simpa using h), fun h => C5 (by simpa using h), fun _ => rfl, fun h => C7 (by simpa using h), fun h => C8 (by simpa using h), fun h => C9 (by simpa using h), fun h => C11 (by simpa using h), fun h => C13 (by simpa using h), E0, H1, H2, R0, by simpa [show ∀ v : Value, (upd u 85 v) 87 = u 87 from fun _ => rfl] using B0⟩
          · refine stepOk_some (i := 7) (by rfl) (by rfl) ?_
            rintro u L T w' hT hu hL hp hcl ⟨C0, C1, C2, C3, C4, C5, C6, C7, C8, C9, C11, C13, E0, H1, H2, R0, B0⟩ K hK
            have e6 := C6 (hp.of 6 (by kernel_rfl))
            have d9 := (cells11 H1).2.2.2.2.2.2.2.2.2.1
            go_simp
            refine hK _ _ ?_
            exact ⟨fun h => C0 (by simpa using h), fun h => C1 (by simpa using h), fun h => C2 (by simpa using h), fun h => C3 (by simpa using h), fun h => C4 (by simpa using h), fun h => C5 (by simpa using h), fun h => C6 (by simpa using h), fun _ => rfl, fun h => C8 (by simpa using h), fun h => C9 (by simpa using h), fun h => C11 (by simpa using h), fun h => C13 (by simpa using h), E0, H1, H2, R0, by simpa [show ∀ v : Value, (upd u 86 v) 87 = u 87 from fun _ => rfl] using B0⟩
          · refine stepOk_some (i := 8) (by rfl) (by rfl) ?_
            rintro u L T w' hT hu hL hp hcl ⟨C0, C1, C2, C3, C4, C5, C6, C7, C8, C9, C11, C13, E0, H1, H2, R0, B0⟩ K hK
            have e7 := C7 (hp.of 7 (by kernel_rfl))
            go_simp
            refine Calls.mono (HC9.out w' (HPL.out.ext E0) (Array.getElem?_eq_some_iff.1 B0).1) ?_
            rintro e w1 ⟨v1, he, hr1, hx1⟩
            subst he
            refine hK _ _ ?_
            exact ⟨fun h => C0 (by simpa using h), fun h => C1 (by simpa using h), fun h => C2 (by simpa using h), fun h => C3 (by simpa using h), fun h => C4 (by simpa using h), fun h => C5 (by simpa using h), fun h => C6 (by simpa using h), fun h => C7 (by simpa using h), fun _ => hr1, fun h => C9 (by simpa using h), fun h => C11 (by simpa using h), fun h => C13 (by simpa using h), ext_trans (E0) hx1, ext_at hx1 (H1), ext_at hx1 (H2), (R0).ext hx1, by have h8 := hcl.not 14 (by kernel_rfl) hL; have h9 := ext_at hx1 B0; simpa [h8] using h9⟩
          · refine stepOk_some (i := 9) (by rfl) (by rfl) ?_
            rintro u L T w' hT hu hL hp hcl ⟨C0, C1, C2, C3, C4, C5, C6, C7, C8, C9, C11, C13, E0, H1, H2, R0, B0⟩ K hK
            have e1 : u 6 = .pointer (some ⟨gs, 0, none⟩) := hu 6 (by decide)
            go_simp
            refine hK _ _ ?_
            exact ⟨fun h => C0 (by simpa using h), fun h => C1 (by simpa using h), fun h => C2 (by simpa using h), fun h => C3 (by simpa using h), fun h => C4 (by simpa using h), fun h => C5 (by simpa using h), fun h => C6 (by simpa using h), fun h => C7 (by simpa using h), fun h => C8 (by simpa using h), fun _ => rfl, fun h => C11 (by simpa using h), fun h => C13 (by simpa using h), E0, H1, H2, R0, by simpa [show ∀ v : Value, (upd u 88 v) 87 = u 87 from fun _ => rfl] using B0⟩
          · refine stepOk_none (i := 10) (by rfl) (by rfl) ?_
            rintro u L T w' hT hu hL hp hcl ⟨C0, C1, C2, C3, C4, C5, C6, C7, C8, C9, C11, C13, E0, H1, H2, R0, B0⟩ K hK
            have e2 := C2 (hp.of 2 (by kernel_rfl))
            have e9 := C9 (hp.of 9 (by kernel_rfl))
            have hf9 := frozen_row B0; have hb9 := (Array.getElem?_eq_some_iff.1 B0).1; have d9 := (cells11 B0).2.2.2.2.2.2.2.2.1
            go_simp
            refine hK _ ?_
            exact ⟨fun h => C0 (by simpa using h), fun h => C1 (by simpa using h), fun h => C2 (by simpa using h), fun h => C3 (by simpa using h), fun h => C4 (by simpa using h), fun h => C5 (by simpa using h), fun h => C6 (by simpa using h), fun h => C7 (by simpa using h), fun h => (C8 (by simpa using h)).st _ _, fun h => C9 (by simpa using h), fun h => C11 (by simpa using h), fun h => C13 (by simpa using h), ext_set E0 (by have := HG.out; have := HB0.out; omega), (Below.heap_setCell _ _ _ _ (by show _ ≠ gs; have := HG.out; omega)).trans H1, (Below.heap_setCell _ _ _ _ (by show _ ≠ gs; have := HG.out; omega)).trans H2, R0.bz prC_ne (Bz.set w' gs 8 _) HNE.out, by have h9 := setCell_row B0 8 (Str x8); simp only [List.setIfInBounds_toArray, List.set_cons_succ, List.set_cons_zero] at h9; simpa [hL] using h9⟩
          · refine stepOk_some (i := 11) (by rfl) (by rfl) ?_
            rintro u L T w' hT hu hL hp hcl ⟨C0, C1, C2, C3, C4, C5, C6, C7, C8, C9, C11, C13, E0, H1, H2, R0, B0⟩ K hK
            have e1 : u 6 = .pointer (some ⟨gs, 0, none⟩) := hu 6 (by decide)
            go_simp
            refine hK _ _ ?_
            exact ⟨fun h => C0 (by simpa using h), fun h => C1 (by simpa using h), fun h => C2 (by simpa using h), fun h => C3 (by simpa using h), fun h => C4 (by simpa using h), fun h => C5 (by simpa using h), fun h => C6 (by simpa using h), fun h => C7 (by simpa using h), fun h => C8 (by simpa using h), fun h => C9 (by simpa using h), fun _ => rfl, fun h => C13 (by simpa using h), E0, H1, H2, R0, by simpa [show ∀ v : Value, (upd u 89 v) 87 = u 87 from fun _ => rfl] using B0⟩
          · refine stepOk_none (i := 12) (by rfl) (by rfl) ?_
            rintro u L T w' hT hu hL hp hcl ⟨C0, C1, C2, C3, C4, C5, C6, C7, C8, C9, C11, C13, E0, H1, H2, R0, B0⟩ K hK
            have e5 := C5 (hp.of 5 (by kernel_rfl))
            have e11 := C11 (hp.of 11 (by kernel_rfl))
            have hf9 := frozen_row B0; have hb9 := (Array.getElem?_eq_some_iff.1 B0).1; have d9 := (cells11 B0).2.2.2.2.1
            go_simp
            refine hK _ ?_
            exact ⟨fun h => C0 (by simpa using h), fun h => C1 (by simpa using h), fun h => C2 (by simpa using h), fun h => C3 (by simpa using h), fun h => C4 (by simpa using h), fun h => C5 (by simpa using h), fun h => C6 (by simpa using h), fun h => C7 (by simpa using h), fun h => (C8 (by simpa using h)).st _ _, fun h => C9 (by simpa using h), fun h => C11 (by simpa using h), fun h => C13 (by simpa using h), ext_set E0 (by have := HG.out; have := HB0.out; omega), (Below.heap_setCell _ _ _ _ (by show _ ≠ gs; have := HG.out; omega)).trans H1, (Below.heap_setCell _ _ _ _ (by show _ ≠ gs; have := HG.out; omega)).trans H2, R0.bz prC_ne (Bz.set w' gs 4 _) HNE.out, by have h9 := setCell_row B0 4 (Str x4); simp only [List.setIfInBounds_toArray, List.set_cons_succ, List.set_cons_zero] at h9; simpa [hL] using h9⟩
          · refine stepOk_some (i := 13) (by rfl) (by rfl) ?_
            rintro u L T w' hT hu hL hp hcl ⟨C0, C1, C2, C3, C4, C5, C6, C7, C8, C9, C11, C13, E0, H1, H2, R0, B0⟩ K hK
            have e1 : u 6 = .pointer (some ⟨gs, 0, none⟩) := hu 6 (by decide)
            go_simp
            refine hK _ _ ?_
            exact ⟨fun h => C0 (by simpa using h), fun h => C1 (by simpa using h), fun h => C2 (by simpa using h), fun h => C3 (by simpa using h), fun h => C4 (by simpa using h), fun h => C5 (by simpa using h), fun h => C6 (by simpa using h), fun h => C7 (by simpa using h), fun h => C8 (by simpa using h), fun h => C9 (by simpa using h), fun h => C11 (by simpa using h), fun _ => rfl, E0, H1, H2, R0, by simpa [show ∀ v : Value, (upd u 90 v) 87 = u 87 from fun _ => rfl] using B0⟩
          · refine stepOk_none (i := 14) (by rfl) (by rfl) ?_
            rintro u L T w' hT hu hL hp hcl ⟨C0, C1, C2, C3, C4, C5, C6, C7, C8, C9, C11, C13, E0, H1, H2, R0, B0⟩ K hK
            have e13 := C13 (hp.of 13 (by kernel_rfl))
            have c9 := C8 (hp.of 8 (by kernel_rfl)); obtain ⟨a9, n9, k9, hv9⟩ := sl_form c9.sl; have e9 := (hT 87).trans hv9; have hf9 := frozen_row B0; have hb9 := (Array.getElem?_eq_some_iff.1 B0).1; have d9 := (cells11 B0).2.2.2.2.2.2.2.2.2.1
            go_simp
            refine hK _ ?_
            exact ⟨fun h => C0 (by simpa using h), fun h => C1 (by simpa using h), fun h => C2 (by simpa using h), fun h => C3 (by simpa using h), fun h => C4 (by simpa using h), fun h => C5 (by simpa using h), fun h => C6 (by simpa using h), fun h => C7 (by simpa using h), fun h => (C8 (by simpa using h)).st _ _, fun h => C9 (by simpa using h), fun h => C11 (by simpa using h), fun h => C13 (by simpa using h), ext_set E0 (by have := HG.out; have := HB0.out; omega), (Below.heap_setCell _ _ _ _ (by show _ ≠ gs; have := HG.out; omega)).trans H1, (Below.heap_setCell _ _ _ _ (by show _ ≠ gs; have := HG.out; omega)).trans H2, R0.bz prC_ne (Bz.set w' gs 9 _) HNE.out, by have h9 := setCell_row B0 9 (.slice a9 n9 k9); simp only [List.setIfInBounds_toArray, List.set_cons_succ, List.set_cons_zero] at h9; rw [hv9]; simpa [hL] using h9⟩
        · rintro u L w' hall hu ⟨C0, C1, C2, C3, C4, C5, C6, C7, C8, C9, C11, C13, E0, H1, H2, R0, B0⟩
          replace C0 := C0 (hall 0 (by omega))
          replace C1 := C1 (hall 1 (by omega))
          replace C2 := C2 (hall 2 (by omega))
          replace C3 := C3 (hall 3 (by omega))
          replace C4 := C4 (hall 4 (by omega))
          replace C5 := C5 (hall 5 (by omega))
          replace C6 := C6 (hall 6 (by omega))
          replace C7 := C7 (hall 7 (by omega))
          replace C8 := C8 (hall 8 (by omega))
          replace C9 := C9 (hall 9 (by omega))
          replace C11 := C11 (hall 11 (by omega))
          replace C13 := C13 (hall 13 (by omega))
          simp only [fill, List.setIfInBounds_toArray, List.set_cons_succ, List.set_cons_zero, C0, C1, C2, C3, C4, C5, C6, C7, C9, C11, C13]
          generalize u 87 = s0 at *
          clear C0 C1 C2 C3 C4 C5 C6 C7 C9 C11 C13 hu
        -- end inv
          simp only [hall 10 (by omega), hall 12 (by omega), hall 14 (by omega), if_true] at B0
          obtain ⟨ya, yn, yk, hyv⟩ := sl_form C8.sl
          subst hyv
          have HY := Lib.hid B0; have HR2 := Lib.hid H2; have HE := Lib.hid E0; have HRR := Lib.hid R0
          have HCX := Lib.hid C8
          clear C8
          obtain ⟨c0, c1, c2, c3, c4, c5, c6, c7, c8, c9, c10⟩ := cells11 B0
          obtain ⟨d0, d1, d2, d3, d4, d5, d6, d7, d8, d9, d10⟩ := cells11 H2
          obtain ⟨f0, f1, f2, f3, f4, f5, f6, f7, f8, f9, f10⟩ := frozen11 H2
          clear E0 H1 H2 R0 B0 hall
          go_wp2
          obtain ⟨Z9, hZ9, hr9, hb9⟩ := set11 HR2.out (.int .i64 3) (Str []) (Str []) (Str []) (Str x4) (.slice po fs.length pcap) (.slice none 0 0) (.int .i64 0) (Str x8) (.slice ya yn yk) (Str [])
          rw [hZ9]
          rw [HFK.out]
          refine bodyPost_ret (v := .agg #[.int .i64 3, Str [], Str [], Str [], Str x4, .slice po fs.length pcap, .slice none 0 0, .int .i64 0, Str x8, .slice ya yn yk, Str []]) ?_ rfl ⟨⟨_, rfl, _, _, _, rfl, ?_, ?_, ?_, ?_, ?_, ?_⟩, ?_⟩
          · obtain ⟨g0, g1, g2, g3, g4, g5, g6, g7, g8, g9, g10⟩ := cells11 hr9
            clear c0 c1 c2 c3 c4 c5 c6 c7 c8 c9 c10 d0 d1 d2 d3 d4 d5 d6 d7 d8 d9 d10 f0 f1 f2 f3 f4 f5 f6 f7 f8 f9 f10 hr9 hb9 hZ9
            simp [results, loadVar, loadCells, Tryd.isAgg25, Tryd.sizeOf25, Tryd.results5, go_sem, g0, g1, g2, g3, g4, g5, g6, g7, g8, g9, g10]
          · exact HRR.out.bz prC_ne hb9 fun k hk => by have := HLO.out k hk; have := HB0.out; omega
          · exact sl_nil _
          · exact HCX.out.sl.bz hb9 fun k hk => by have := HCX.out.lt k hk; have := HG.out; have := HB0.out; omega
          · exact fun k hk => by have := HLO.out k hk; have := HB0.out; omega
          · exact nil_sblk
          · exact fun k hk => by have := HCX.out.lt k hk; have := HG.out; have := HB0.out; omega
          · exact hb9.below HE.out (by have := HB0.out; omega) (Nat.le_refl _)
      · have hkk := hk
        have hfk := HFM.out
        rw [if_neg (by rw [hk]; decide), if_neg (by rw [hk]; decide), if_neg (by rw [hk]; decide)] at hfk
        have HFK := Lib.hid hfk
        clear hfk
        rw [hk] at HPZ
        clear HFM
        have HC9 := Lib.hid (fun W h hq => cutS gs (.slice a3 n3 k3) proof 40 W h (by omega) hq)
        obtain ⟨x9, hx9⟩ : ∃ x, proof.take 40 = x := ⟨_, rfl⟩
        rw [hx9] at HC9 HFK
        have HLX9 := Lib.hid hx9
        clear hx9
        have HC10 := Lib.hid (fun W => cutText_any code 60 W (by omega))
        obtain ⟨x10, hx10⟩ : ∃ x, code.take 60 = x := ⟨_, rfl⟩
        rw [hx10] at HC10 HFK
        clear hx10
        have HNE := Lib.hid (show ∀ k, rblk (.slice po fs.length pcap) fs.length k → k ≠ gs from fun k hk => by have := HHI.out k hk; omega)
        obtain ⟨c0, c1, c2, c3, c4, c5, c6, c7, c8, c9, c10⟩ := cells11 HPZ.out
        go_upto_region 10 with fail
        clear c0 c1 c2 c3 c4 c5 c6 c7 c8 c9 c10 hk hkk
        -- inv {'ops': [('fa', 38, 1, '.pointer (some ⟨b0, 0, none⟩)', '.pointer (some ⟨b0, 9, none⟩)'), ('lf', 39, 0, '.slice a3 n3 k3', 'have d9 := (cells11 H1).2.2.2.2.2.2.2.2.2.1'), ('callx', 40, [1], "HC9.out w' (HPL.out.ext E0) (Array.getElem?_eq_some_iff.1 B0).1", "OwS gs w' (u 40) x9"), ('fa', 41, 1, '.pointer (some ⟨b0, 0, none⟩)', '.pointer (some ⟨b0, 10, none⟩)'), ('lf', 42, 3, 'Str code', 'have d9 := (cells11 H1).2.2.2.2.2.2.2.2.2.2'), ('callq', 43, [4], "HC10.out w'", 'Str x10'), ('fa', 44, 6, '.pointer (some ⟨gs, 0, none⟩)', '.pointer (some ⟨gs, 9, none⟩)'), ('st', None, [6], 'have c9 := C2 (hp.of 2 (by kernel_rfl)); obtain ⟨a9, n9, k9, hv9⟩ := sl_form c9.sl; have e9 := (hT 40).trans hv9; have hf9 := frozen_row B0; have hb9 := (Array.getElem?_eq_some_iff.1 B0).1; have d9 := (cells11 B0).2.2.2.2.2.2.2.2.2.1'), ('fa', 45, 6, '.pointer (some ⟨gs, 0, none⟩)', '.pointer (some ⟨gs, 10, none⟩)'), ('st', None, [5, 8], 'have hf9 := frozen_row B0; have hb9 := (Array.getElem?_eq_some_iff.1 B0).1; have d9 := (cells11 B0).2.2.2.2.2.2.2.2.2.2')], 'W': [('E0', "Ext w w'", 'Below.drew HXZ.out'), ('H1', "w'.heap[b0]? = some (.cells #[.int .i64 kind, Str flag, Str authz, Str user, Str nonce, .slice ao ls.length cap, .slice a2 n2 k2, .int .i64 iter, Str head, .slice a3 n3 k3, Str code] 25 (0, 0))", 'HBZ.out'), ('H2', "w'.heap[b0 + 1]? = some (.cells zerM 25 (0, 0))", 'HRZ.out'), ('R0', "RowC 2 prC w' (.slice po fs.length pcap) fs", 'HWZ.out.ext (Below.drew (Below.refl _ _))'), ('B0', "w'.heap[gs]? = some (.cells #[.int .i64 4, Str [], Str [], Str [], Str [], .slice po fs.length pcap, .slice none 0 0, .int .i64 0, Str [], (if L 7 = true then u 40 else .slice none 0 0), (if L 9 = true then Str x10 else Str [])] 25 (0, 0))", 'HPZ.out')], 'over': {7: {'E0': 'ext_set E0 (by have := HG.out; have := HB0.out; omega)', 'H1': '(Below.heap_setCell _ _ _ _ (by show _ ≠ gs; have := HG.out; omega)).trans H1', 'H2': '(Below.heap_setCell _ _ _ _ (by show _ ≠ gs; have := HG.out; omega)).trans H2', 'R0': "R0.bz prC_ne (Bz.set w' gs 9 _) HNE.out", 'B0': 'by have h9 := setCell_row B0 9 (.slice a9 n9 k9); simp only [List.setIfInBounds_toArray, List.set_cons_succ, List.set_cons_zero] at h9; rw [hv9]; simpa [hL] using h9', 'C2': 'fun h => (C2 (by simpa using h)).st _ _'}, 9: {'E0': 'ext_set E0 (by have := HG.out; have := HB0.out; omega)', 'H1': '(Below.heap_setCell _ _ _ _ (by show _ ≠ gs; have := HG.out; omega)).trans H1', 'H2': '(Below.heap_setCell _ _ _ _ (by show _ ≠ gs; have := HG.out; omega)).trans H2', 'R0': "R0.bz prC_ne (Bz.set w' gs 10 _) HNE.out", 'B0': 'by have h9 := setCell_row B0 10 (Str x10); simp only [List.setIfInBounds_toArray, List.set_cons_succ, List.set_cons_zero] at h9; simpa [hL] using h9', 'C2': 'fun h => (C2 (by simpa using h)).st _ _'}, 0: {'B0': 'by simpa [show ∀ v : Value, (upd u 38 v) 40 = u 40 from fun _ => rfl] using B0'}, 1: {'B0': 'by simpa [show ∀ v : Value, (upd u 39 v) 40 = u 40 from fun _ => rfl] using B0'}, 2: {'B0': 'by have h8 := hcl.not 7 (by kernel_rfl) hL; have h9 := ext_at hx1 B0; simpa [h8] using h9'}, 3: {'B0': 'by simpa [show ∀ v : Value, (upd u 41 v) 40 = u 40 from fun _ => rfl] using B0'}, 4: {'B0': 'by simpa [show ∀ v : Value, (upd u 42 v) 40 = u 40 from fun _ => rfl] using B0'}, 5: {'B0': 'by simpa [show ∀ v : Value, (upd u 43 v) 40 = u 40 from fun _ => rfl] using B0'}, 6: {'B0': 'by simpa [show ∀ v : Value, (upd u 44 v) 40 = u 40 from fun _ => rfl] using B0'}, 8: {'B0': 'by simpa [show ∀ v : Value, (upd u 45 v) 40 = u 40 from fun _ => rfl] using B0'}}, 'keephall': 1, 'keep': ['C2']}
        refine wp_region_any (by kernel_rfl) ?_
        change wpAny _ _ _ _ _ _ _ (World.drew _)
        refine wpAny_inv (n := 10) [38, 39, 40, 41, 42, 43, 44, 45] (fun u L w' =>
            (L 0 = true → u 38 = .pointer (some ⟨b0, 9, none⟩)) ∧
            (L 1 = true → u 39 = .slice a3 n3 k3) ∧
            (L 2 = true → OwS gs w' (u 40) x9) ∧
            (L 3 = true → u 41 = .pointer (some ⟨b0, 10, none⟩)) ∧
            (L 4 = true → u 42 = Str code) ∧
            (L 5 = true → u 43 = Str x10) ∧
            (L 6 = true → u 44 = .pointer (some ⟨gs, 9, none⟩)) ∧
            (L 8 = true → u 45 = .pointer (some ⟨gs, 10, none⟩)) ∧
            (Ext w w') ∧
            (w'.heap[b0]? = some (.cells #[.int .i64 kind, Str flag, Str authz, Str user, Str nonce, .slice ao ls.length cap, .slice a2 n2 k2, .int .i64 iter, Str head, .slice a3 n3 k3, Str code] 25 (0, 0))) ∧
            (w'.heap[b0 + 1]? = some (.cells zerM 25 (0, 0))) ∧
            (RowC 2 prC w' (.slice po fs.length pcap) fs) ∧
            (w'.heap[gs]? = some (.cells #[.int .i64 4, Str [], Str [], Str [], Str [], .slice po fs.length pcap, .slice none 0 0, .int .i64 0, Str [], (if L 7 = true then u 40 else .slice none 0 0), (if L 9 = true then Str x10 else Str [])] 25 (0, 0))))
          (by rfl) (by kernel_rfl) (by kernel_rfl) (by rfl) ?_ ?_ ?_
        · exact ⟨(fun h => by cases h), (fun h => by cases h), (fun h => by cases h), (fun h => by cases h), (fun h => by cases h), (fun h => by cases h), (fun h => by cases h), (fun h => by cases h), Below.drew HXZ.out, HBZ.out, HRZ.out, HWZ.out.ext (Below.drew (Below.refl _ _)), HPZ.out⟩
        · refine ⟨⟨⟨⟨⟨⟨⟨⟨⟨⟨trivial, ?_⟩, ?_⟩, ?_⟩, ?_⟩, ?_⟩, ?_⟩, ?_⟩, ?_⟩, ?_⟩, ?_⟩
          · refine stepOk_some (i := 0) (by rfl) (by rfl) ?_
            rintro u L T w' hT hu hL hp hcl ⟨C0, C1, C2, C3, C4, C5, C6, C8, E0, H1, H2, R0, B0⟩ K hK
            have e1 : u 1 = .pointer (some ⟨b0, 0, none⟩) := hu 1 (by decide)
            go_simp
            refine hK _ _ ?_
            exact ⟨fun _ => rfl, fun h => C1 (by simpa using h), fun h => C2 (by simpa using h), fun h => C3 (by simpa using h), fun h => C4 (by simpa using h), fun h => C5 (by simpa using h), fun h => C6 (by simpa using h), fun h => C8 (by simpa using h), E0, H1, H2, R0, by simpa [show ∀ v : Value, (upd u 38 v) 40 = u 40 from fun _ => rfl] using B0⟩
          · refine stepOk_some (i := 1) (by rfl) (by rfl) ?_
            rintro u L T w' hT hu hL hp hcl ⟨C0, C1, C2, C3, C4, C5, C6, C8, E0, H1, H2, R0, B0⟩ K hK
            have e0 := C0 (hp.of 0 (by kernel_rfl))
            have d9 := (cells11 H1).2.2.2.2.2.2.2.2.2.1
            go_simp
            refine hK _ _ ?_
            exact ⟨fun h => C0 (by simpa using h), fun _ => rfl, fun h => C2 (by simpa using h), fun h => C3 (by simpa using h), fun h => C4 (by simpa using h), fun h => C5 (by simpa using h), fun h => C6 (by simpa using h), fun h => C8 (by simpa using h), E0, H1, H2, R0, by simpa [show ∀ v : Value, (upd u 39 v) 40 = u 40 from fun _ => rfl] using B0⟩
          · refine stepOk_some (i := 2) (by rfl) (by rfl) ?_
            rintro u L T w' hT hu hL hp hcl ⟨C0, C1, C2, C3, C4, C5, C6, C8, E0, H1, H2, R0, B0⟩ K hK
            have e1 := C1 (hp.of 1 (by kernel_rfl))
            go_simp
            refine Calls.mono (HC9.out w' (HPL.out.ext E0) (Array.getElem?_eq_some_iff.1 B0).1) ?_
            rintro e w1 ⟨v1, he, hr1, hx1⟩
            subst he
            refine hK _ _ ?_
            exact ⟨fun h => C0 (by simpa using h), fun h => C1 (by simpa using h), fun _ => hr1, fun h => C3 (by simpa using h), fun h => C4 (by simpa using h), fun h => C5 (by simpa using h), fun h => C6 (by simpa using h), fun h => C8 (by simpa using h), ext_trans (E0) hx1, ext_at hx1 (H1), ext_at hx1 (H2), (R0).ext hx1, by have h8 := hcl.not 7 (by kernel_rfl) hL; have h9 := ext_at hx1 B0; simpa [h8] using h9⟩
          · refine stepOk_some (i := 3) (by rfl) (by rfl) ?_
            rintro u L T w' hT hu hL hp hcl ⟨C0, C1, C2, C3, C4, C5, C6, C8, E0, H1, H2, R0, B0⟩ K hK
            have e1 : u 1 = .pointer (some ⟨b0, 0, none⟩) := hu 1 (by decide)
            go_simp
            refine hK _ _ ?_
            exact ⟨fun h => C0 (by simpa using h), fun h => C1 (by simpa using h), fun h => C2 (by simpa using h), fun _ => rfl, fun h => C4 (by simpa using h), fun h => C5 (by simpa using h), fun h => C6 (by simpa using h), fun h => C8 (by simpa using h), E0, H1, H2, R0, by simpa [show ∀ v : Value, (upd u 41 v) 40 = u 40 from fun _ => rfl] using B0⟩
          · refine stepOk_some (i := 4) (by rfl) (by rfl) ?_
            rintro u L T w' hT hu hL hp hcl ⟨C0, C1, C2, C3, C4, C5, C6, C8, E0, H1, H2, R0, B0⟩ K hK
            have e3 := C3 (hp.of 3 (by kernel_rfl))
            have d9 := (cells11 H1).2.2.2.2.2.2.2.2.2.2
            go_simp
            refine hK _ _ ?_
            exact ⟨fun h => C0 (by simpa using h), fun h => C1 (by simpa using h), fun h => C2 (by simpa using h), fun h => C3 (by simpa using h), fun _ => rfl, fun h => C5 (by simpa using h), fun h => C6 (by simpa using h), fun h => C8 (by simpa using h), E0, H1, H2, R0, by simpa [show ∀ v : Value, (upd u 42 v) 40 = u 40 from fun _ => rfl] using B0⟩
          · refine stepOk_some (i := 5) (by rfl) (by rfl) ?_
            rintro u L T w' hT hu hL hp hcl ⟨C0, C1, C2, C3, C4, C5, C6, C8, E0, H1, H2, R0, B0⟩ K hK
            have e4 := C4 (hp.of 4 (by kernel_rfl))
            go_simp
            refine (HC10.out w').mono ?_
            rintro e w1 ⟨he, hx1⟩
            subst w1
            subst he
            refine hK _ _ ?_
            exact ⟨fun h => C0 (by simpa using h), fun h => C1 (by simpa using h), fun h => C2 (by simpa using h), fun h => C3 (by simpa using h), fun h => C4 (by simpa using h), fun _ => rfl, fun h => C6 (by simpa using h), fun h => C8 (by simpa using h), E0, H1, H2, R0, by simpa [show ∀ v : Value, (upd u 43 v) 40 = u 40 from fun _ => rfl] using B0⟩
          · refine stepOk_some (i := 6) (by rfl) (by rfl) ?_
            rintro u L T w' hT hu hL hp hcl ⟨C0, C1, C2, C3, C4, C5, C6, C8, E0, H1, H2, R0, B0⟩ K hK
            have e1 : u 6 = .pointer (some ⟨gs, 0, none⟩) := hu 6 (by decide)
            go_simp
            refine hK _ _ ?_
            exact ⟨fun h => C0 (by simpa using h), fun h => C1 (by simpa using h), fun h => C2 (by simpa using h), fun h => C3 (by simpa using h), fun h => C4 (by simpa using h), fun h => C5 (by simpa using h), fun _ => rfl, fun h => C8 (by simpa using h), E0, H1, H2, R0, by simpa [show ∀ v : Value, (upd u 44 v) 40 = u 40 from fun _ => rfl] using B0⟩
          · refine stepOk_none (i := 7) (by rfl) (by rfl) ?_
            rintro u L T w' hT hu hL hp hcl ⟨C0, C1, C2, C3, C4, C5, C6, C8, E0, H1, H2, R0, B0⟩ K hK
            have e6 := C6 (hp.of 6 (by kernel_rfl))
            have c9 := C2 (hp.of 2 (by kernel_rfl)); obtain ⟨a9, n9, k9, hv9⟩ := sl_form c9.sl; have e9 := (hT 40).trans hv9; have hf9 := frozen_row B0; have hb9 := (Array.getElem?_eq_some_iff.1 B0).1; have d9 := (cells11 B0).2.2.2.2.2.2.2.2.2.1
            go_simp
            refine hK _ ?_
            exact ⟨fun h => C0 (by simpa using h), fun h => C1 (by simpa using h), fun h => (C2 (by simpa using h)).st _ _, fun h => C3 (by simpa using h), fun h => C4 (by simpa using h), fun h => C5 (by simpa using h), fun h => C6 (by simpa using h), fun h => C8 (by simpa using h), ext_set E0 (by have := HG.out; have := HB0.out; omega), (Below.heap_setCell _ _ _ _ (by show _ ≠ gs; have := HG.out; omega)).trans H1, (Below.heap_setCell _ _ _ _ (by show _ ≠ gs; have := HG.out; omega)).trans H2, R0.bz prC_ne (Bz.set w' gs 9 _) HNE.out, by have h9 := setCell_row B0 9 (.slice a9 n9 k9); simp only [List.setIfInBounds_toArray, List.set_cons_succ, List.set_cons_zero] at h9; rw [hv9]; simpa [hL] using h9⟩
          · refine stepOk_some (i := 8) (by rfl) (by rfl) ?_
            rintro u L T w' hT hu hL hp hcl ⟨C0, C1, C2, C3, C4, C5, C6, C8, E0, H1, H2, R0, B0⟩ K hK
            have e1 : u 6 = .pointer (some ⟨gs, 0, none⟩) := hu 6 (by decide)
            go_simp
            refine hK _ _ ?_
            exact ⟨fun h => C0 (by simpa using h), fun h => C1 (by simpa using h), fun h => C2 (by simpa using h), fun h => C3 (by simpa using h), fun h => C4 (by simpa using h), fun h => C5 (by simpa using h), fun h => C6 (by simpa using h), fun _ => rfl, E0, H1, H2, R0, by simpa [show ∀ v : Value, (upd u 45 v) 40 = u 40 from fun _ => rfl] using B0⟩
          · refine stepOk_none (i := 9) (by rfl) (by rfl) ?_
            rintro u L T w' hT hu hL hp hcl ⟨C0, C1, C2, C3, C4, C5, C6, C8, E0, H1, H2, R0, B0⟩ K hK
            have e5 := C5 (hp.of 5 (by kernel_rfl))
            have e8 := C8 (hp.of 8 (by kernel_rfl))
            have hf9 := frozen_row B0; have hb9 := (Array.getElem?_eq_some_iff.1 B0).1; have d9 := (cells11 B0).2.2.2.2.2.2.2.2.2.2
            go_simp
            refine hK _ ?_
            exact ⟨fun h => C0 (by simpa using h), fun h => C1 (by simpa using h), fun h => (C2 (by simpa using h)).st _ _, fun h => C3 (by simpa using h), fun h => C4 (by simpa using h), fun h => C5 (by simpa using h), fun h => C6 (by simpa using h), fun h => C8 (by simpa using h), ext_set E0 (by have := HG.out; have := HB0.out; omega), (Below.heap_setCell _ _ _ _ (by show _ ≠ gs; have := HG.out; omega)).trans H1, (Below.heap_setCell _ _ _ _ (by show _ ≠ gs; have := HG.out; omega)).trans H2, R0.bz prC_ne (Bz.set w' gs 10 _) HNE.out, by have h9 := setCell_row B0 10 (Str x10); simp only [List.setIfInBounds_toArray, List.set_cons_succ, List.set_cons_zero] at h9; simpa [hL] using h9⟩
        · rintro u L w' hall hu ⟨C0, C1, C2, C3, C4, C5, C6, C8, E0, H1, H2, R0, B0⟩
          replace C0 := C0 (hall 0 (by omega))
          replace C1 := C1 (hall 1 (by omega))
          replace C2 := C2 (hall 2 (by omega))
          replace C3 := C3 (hall 3 (by omega))
          replace C4 := C4 (hall 4 (by omega))
          replace C5 := C5 (hall 5 (by omega))
          replace C6 := C6 (hall 6 (by omega))
          replace C8 := C8 (hall 8 (by omega))
          simp only [fill, List.setIfInBounds_toArray, List.set_cons_succ, List.set_cons_zero, C0, C1, C3, C4, C5, C6, C8]
          generalize u 40 = s0 at *
          clear C0 C1 C3 C4 C5 C6 C8 hu
        -- end inv
          simp only [hall 7 (by omega), hall 9 (by omega), if_true] at B0
          obtain ⟨ya, yn, yk, hyv⟩ := sl_form C2.sl
          subst hyv
          have HY := Lib.hid B0; have HR2 := Lib.hid H2; have HE := Lib.hid E0; have HRR := Lib.hid R0
          have HCX := Lib.hid C2
          clear C2
          obtain ⟨c0, c1, c2, c3, c4, c5, c6, c7, c8, c9, c10⟩ := cells11 B0
          obtain ⟨d0, d1, d2, d3, d4, d5, d6, d7, d8, d9, d10⟩ := cells11 H2
          obtain ⟨f0, f1, f2, f3, f4, f5, f6, f7, f8, f9, f10⟩ := frozen11 H2
          clear E0 H1 H2 R0 B0 hall
          go_wp2
          obtain ⟨Z9, hZ9, hr9, hb9⟩ := set11 HR2.out (.int .i64 4) (Str []) (Str []) (Str []) (Str []) (.slice po fs.length pcap) (.slice none 0 0) (.int .i64 0) (Str []) (.slice ya yn yk) (Str x10)
          rw [hZ9]
          rw [HFK.out]
          refine bodyPost_ret (v := .agg #[.int .i64 4, Str [], Str [], Str [], Str [], .slice po fs.length pcap, .slice none 0 0, .int .i64 0, Str [], .slice ya yn yk, Str x10]) ?_ rfl ⟨⟨_, rfl, _, _, _, rfl, ?_, ?_, ?_, ?_, ?_, ?_⟩, ?_⟩
          · obtain ⟨g0, g1, g2, g3, g4, g5, g6, g7, g8, g9, g10⟩ := cells11 hr9
            clear c0 c1 c2 c3 c4 c5 c6 c7 c8 c9 c10 d0 d1 d2 d3 d4 d5 d6 d7 d8 d9 d10 f0 f1 f2 f3 f4 f5 f6 f7 f8 f9 f10 hr9 hb9 hZ9
            simp [results, loadVar, loadCells, Tryd.isAgg25, Tryd.sizeOf25, Tryd.results5, go_sem, g0, g1, g2, g3, g4, g5, g6, g7, g8, g9, g10]
          · exact HRR.out.bz prC_ne hb9 fun k hk => by have := HLO.out k hk; have := HB0.out; omega
          · exact sl_nil _
          · exact HCX.out.sl.bz hb9 fun k hk => by have := HCX.out.lt k hk; have := HG.out; have := HB0.out; omega
          · exact fun k hk => by have := HLO.out k hk; have := HB0.out; omega
          · exact nil_sblk
          · exact fun k hk => by have := HCX.out.lt k hk; have := HG.out; have := HB0.out; omega
          · exact hb9.below HE.out (by have := HB0.out; omega) (Nat.le_refl _)
end Go.Proofs.YtjkbigecejogdaaDoor
