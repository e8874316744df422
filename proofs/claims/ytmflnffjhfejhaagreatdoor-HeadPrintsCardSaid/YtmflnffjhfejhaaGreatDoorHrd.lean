/-
  HeadReads.
-/
import Derived.BigGuardPart
import Derived.RegionTactic
import Derived.Deep.DrawnRows
import Derived.Test.YtmflnffjhfejhaaGreatDoorRows
import Derived.Test.YtmflnffjhfejhaaGreatDoorHaw
import Derived.Test.YtmflnffjhfejhaaGreatDoorHhd
import Derived.Test.YtmflnffjhfejhaaGreatDoorHrp
import Derived.Test.YtmflnffjhfejhaaGreatDoorHsa
import Derived.Test.YtmflnffjhfejhaaGreatDoorOpb
import Derived.Test.YtmflnffjhfejhaaGreatDoorKit
namespace Go.Proofs.YtmflnffjhfejhaaGreatDoor
open Go.RowKit
set_option maxRecDepth 100000
attribute [local go_sem ↓] Go.wp_at_zero Go.wp_at_succ
set_option linter.unusedVariables false
set_option linter.unusedSimpArgs false

structure Out where
  a : List UInt8
  b : List UInt8
  st : Int
  n : Int
  c : Int
  fs : List Pr
def outO : Int ⊕ (Hd × Int) → Out
  | .inl c => ⟨[], [], 0, 0, c, []⟩
  | .inr (h, k) => ⟨h.one, h.two, h.st, k, 0, h.fs⟩
theorem headV_out {o : Int ⊕ (Hd × Int)} {B : Nat} {w' : World} {e : Ending} (h : HeadV o B w' e) : ∃ v, e = .returned (.tuple #[.agg #[Str (outO o).a, Str (outO o).b, .int .i64 (outO o).st, v], .int .i64 (outO o).n, .int .i64 (outO o).c]) ∧ RowC 2 prC w' v (outO o).fs := by
  rcases o with c | ⟨h', k⟩
  · exact ⟨_, h, none, 0, rfl, .inl ⟨rfl, rfl⟩, Nat.le_refl _, by simp [maxLen], fun h => absurd rfl h⟩
  · obtain ⟨v, hr, he⟩ := h
    exact ⟨v, he, rowC_of_own prC_len hr⟩
theorem out_len (asks : Bool) (l : List UInt8) : (outO (headO asks l)).fs.length ≤ 24 := by
  unfold headO
  split
  · exact Nat.zero_le _
  · split
    · rename_i h
      rw [headC_cases] at h
      show ((tkL l (tkN l).toNat).tail.map tkF).length ≤ 24
      rw [List.length_map]
      split at h
      · split at h
        · cases h
        · omega
      · cases h
    · exact Nat.zero_le _
theorem run_headc {P : Program} {t e : TypeId} (ht : P.underlying t = some (.slice e)) (hz : ∀ w, (Go.sizeOf e).run P w = .ok 1 w) {a : Addr} {n cap : Nat} (hcm : cap ≤ maxLen) :
    ∀ (W : World) (k : Nat), k ≤ cap → (Instr.slice t (.slice (some a) n cap) none (some (.int .i64 (k : Int))) none).run P W = .ok (.slice (some a) k cap) W := by
  intro W k hk
  have h1 := run_sliceBound (P := P) (w := W) .i64 (k : Int) cap .sliceAcap (by omega) (by omega)
  have h2 := headm_some a n cap k
  rw [headm_shape] at h2
  simp [Instr.slice, Instr.sliceBounds, run_underlying ht, h1, hz, Result.andThen]
  simpa using h2
theorem ownz_max {w : World} {base e z : Nat} {ao : Option Addr} {n m cap : Nat} {xs : List Value} (h : w.ownsRow base e z (.slice ao m cap) n xs) : cap ≤ maxLen := by
  rcases h.2 with ⟨hn, h0⟩ | ⟨g, cap', cur, hv, _, _, hn, hm, _⟩
  · simp at hn; rw [hn.2.2]; exact Nat.zero_le _
  · simp at hv; rw [hv.2.2]; exact hm
set_option maxHeartbeats 4000000 in
theorem reads_card (w : World) (v : Value) (ls : List UInt8) (hr : SlB w v ls) (hb : ∀ x ∈ ls, TrueW x) (hL : Lb w) :
    Calls Tryz.prog 3 #[v] w fun e w' => e = .returned (.bool true) ∧ Ext w w' := by
  have HL := Lib.hid hL
  have HAW := Lib.hid (awake_law w hL)
  have HP := Lib.hid hr
  clear hL hr hb
  go_enter Tryz.func3, Tryz.ntmps3
  go_wp2_with (go_at_call 6; refine HAW.out.mono ?_; rintro e W1 ⟨he, hx⟩; subst he; have HX := Lib.hid hx; clear hx; refine Hid.out ?_)
  refine Lib.hid ?_
  have hcut := cut_any v ls 4200 W1 (HP.out.ext HX.out) (by omega)
  go_wp2_with fail
  refine Calls.mono hcut ?_
  rintro e W2 ⟨pv, he, hown, hx2⟩
  subst he
  have hl : (ls.take 4200).length ≤ 4200 := by rw [List.length_take]; omega
  have HX2 := Lib.hid (ext_trans HX.out hx2)
  generalize ls.take 4200 = l at *
  have HSL := Lib.hid (sl_of_own hown)
  obtain ⟨ao, cap, hv, hcap⟩ := ownz_shape hown
  subst hv
  clear hcut hown hx2 HX HAW HP
  go_wp2
  obtain ⟨W3, hW3⟩ : ∃ W3, W2.alloc (.cells #[.bool true, .bool false] 4) = W3 := ⟨_, rfl⟩
  have hx3 : Ext W2 W3 := by rw [← hW3]; exact Below.alloc (Below.refl _ _) (Nat.le_refl _) _
  have hc3 : W3.heap[W2.heap.size]? = some (.cells #[.bool true, .bool false] 4 (0, 0)) := by rw [← hW3]; exact Array.getElem?_push_size
  rw [hW3]
  have HX3 := Lib.hid (ext_trans HX2.out hx3)
  have HC3 := Lib.hid hc3
  have HS3 := Lib.hid (HSL.out.ext hx3)
  have HL3 := Lib.hid (HL.out.ext HX3.out)
  clear hW3 hx3 hc3 HSL HX2 HL
  generalize W2.heap.size = bb at *
  go_loopw [18] (fun i wr => ∃ k : Nat, k ≤ 2 ∧ i = .int .i64 k ∧ Hid (Ext W3 wr)) (fun i _ => 2 - (intOf i).toNat)
  case atStart => exact ⟨0, by omega, rfl, Lib.hid (Below.refl _ _)⟩
  case round =>
    obtain ⟨k, hk, rfl, HXR⟩ := hrel
    by_cases h3 : k < 2
    · have hbool : ∃ asks : Bool, wr.cell? ⟨bb, k, none⟩ = some (.bool asks) := by
        have h := ext_at HXR.out HC3.out
        match k, h3 with
        | 0, _ => exact ⟨true, by simp [World.cell?, h]⟩
        | 1, _ => exact ⟨false, by simp [World.cell?, h]⟩
      obtain ⟨asks, hc0⟩ := hbool
      have HSR := Lib.hid (HS3.out.ext HXR.out)
      have HLR := Lib.hid (HL3.out.ext HXR.out)
      have hcp := Lib.hid (copy_any _ l wr HSR.out (by omega))
      go_wp2_with fail
      refine Calls.mono hcp.out ?_
      rintro e W4 ⟨qv, he, hown, hx4⟩
      subst he
      obtain ⟨qa, qcap, hqv, hqc⟩ := ownz_shape hown
      subst hqv
      have HO4 := Lib.hid hown
      have HX4 := Lib.hid hx4
      have hsz4 := hx4.size
      clear hcp hown hx4 hc0
      have hxr := HXR.out
      go_wp2_with (at_builtin; refine wpList_push wr.heap.size rfl _ _ 22 5 rfl Tryz.underlying22 infoByte rfl (by omega) HO4.out (Byt 7) rfl (by omega) hsz4 rfl rfl ?_; rintro _ w1 ⟨g1, cap1, rfl⟩ hown1 hgr1; obtain ⟨_, cpx, hv9, hcc9⟩ := ownz_shape hown1; obtain rfl : cap1 = cpx := (by simpa using hv9 : _ ∧ _).2; have hmx9 := ownz_max hown1; have hh1 := run_headc (P := Tryz.prog) Tryz.underlying22 Tryz.sizeOf5 (a := ⟨g1, 0, none⟩) (n := l.length + 1) hmx9; have hh1' := fun W => hh1 W l.length (by omega); have HO5 := Lib.hid hown1; have HX5 := Lib.hid (ext_push HX4.out HO4.out hgr1); clear hown1 hgr1 hh1 hv9)
      have hs5 : SlB w1 (.slice (some ⟨g1, 0, none⟩) l.length cap1) l := by
        have h1 := (sl_of_own HO5.out).headm (k := l.length) (by simp)
        rw [headm_some] at h1
        have e : (l.map Byt ++ [Byt 7]).take l.length = l.map Byt := by rw [List.take_append_of_le_length (by simp)]; exact List.take_of_length_le (by simp)
        rw [e] at h1
        exact h1
      have hc7 : w1.cell? ⟨g1, l.length, none⟩ = some (Byt 7) := by
        obtain ⟨_, _, hv9, _, _, _, hcl⟩ := sl_of_own HO5.out
        have := hcl l.length (Byt 7) (by simp)
        simp only [Value.slice.injEq] at hv9
        rw [← hv9.1] at this
        rwa [adr_some, Nat.zero_add] at this
      have HS5 := Lib.hid hs5; have HC7 := Lib.hid hc7
      have hix := run_index_adr (P := Tryz.prog) Tryz.underlying22 Tryz.sizeOf5 (ao := some ⟨g1, 0, none⟩) (n := l.length + 1) (cap := cap1) (by simp) hcc9
      have HIX := Lib.hid (fun W => hix W l.length (by omega))
      have HLP := Lib.hid (lparse_any ⟨g1, 0, none⟩ cap1 l (by omega) asks w1 (HLR.out.ext HX5.out) hs5)
      have hfl := out_len asks l
      have HRP := Lib.hid (fun W (hx : Ext wr W) => refParse_any (.slice ao l.length cap) l (by omega) asks W (HSR.out.ext hx))
      have HHC := Lib.hid (run_headc (P := Tryz.prog) Tryz.underlying22 Tryz.sizeOf5 (a := ⟨g1, 0, none⟩) (n := l.length) hmx9)
      clear hs5 hc7 hix HO5 hh1' hmx9 hsz4 HO4 HX4
      generalize headO asks l = o at *
      refine HLP.out.mono ?_
      rintro e W6 ⟨hv6, hx6⟩
      obtain ⟨v6, he, hr6⟩ := headV_out hv6
      subst he
      have HX6 := Lib.hid (ext_trans HX5.out hx6)
      have HS6 := Lib.hid (HS5.out.ext hx6); have HC6 := Lib.hid (ext_cell hx6 HC7.out)
      have HR6 := Lib.hid hr6
      obtain ⟨ao6, cap6, hv6s, hcp6, _⟩ := rowP_shape hr6
      subst hv6s
      clear hv6 hx6 hr6 HLP HS5 HC7 HX5
      obtain ⟨x, hx⟩ : ∃ x, outO o = x := ⟨_, rfl⟩
      have HXX := Lib.hid hx
      rw [hx] at hfl HR6 hcp6 ⊢
      clear hx
      obtain ⟨xa, xb, xst, xn, xc, xfs⟩ := x
      simp only at hfl HR6
      obtain ⟨W7, hW7⟩ : ∃ W7, W6.alloc (.cells #[.string ⟨xa.toArray⟩, .string ⟨xb.toArray⟩, .int .i64 xst, .slice ao6 xfs.length cap6] 29) = W7 := ⟨_, rfl⟩
      have hx7 : Ext W6 W7 := by rw [← hW7]; exact Below.alloc (Below.refl _ _) (Nat.le_refl _) _
      have hc7 : W7.heap[W6.heap.size]? = some (.cells #[.string ⟨xa.toArray⟩, .string ⟨xb.toArray⟩, .int .i64 xst, .slice ao6 xfs.length cap6] 29 (0, 0)) := by rw [← hW7]; exact Array.getElem?_push_size
      have HX7 := Lib.hid (ext_trans HX6.out hx7); have HK7 := Lib.hid hc7; have HR7 := Lib.hid (HR6.out.ext hx7); have HS7 := Lib.hid (HS6.out.ext hx7); have HC7 := Lib.hid (ext_cell hx7 HC6.out)
      have HW7 := Lib.hid hW7
      clear hx7 hc7 hW7 HX6 HR6 HS6 HC6
      go_wp2_with fail
      rw [HW7.out]
      refine (HRP.out _ HX7.out).mono ?_
      rintro e W8 ⟨hv8, hx8⟩
      obtain ⟨v8, he, hr8⟩ := headV_out hv8
      subst he
      rw [HXX.out] at hr8 ⊢
      simp only at hr8 ⊢
      have HX8 := Lib.hid (ext_trans HX7.out hx8); have HK8 := Lib.hid (ext_at hx8 HK7.out); have HR8 := Lib.hid (HR7.out.ext hx8); have HS8 := Lib.hid (HS7.out.ext hx8); have HC8 := Lib.hid (ext_cell hx8 HC7.out)
      have HRR := Lib.hid hr8
      obtain ⟨ao8, cap8, hv8s, hcp8, _⟩ := rowP_shape hr8
      subst hv8s
      clear hv8 hx8 hr8 HX7 HK7 HR7 HS7 HC7 HRP HW7
      obtain ⟨W9, hW9⟩ : ∃ W9, W8.alloc (.cells #[.string ⟨xa.toArray⟩, .string ⟨xb.toArray⟩, .int .i64 xst, .slice ao8 xfs.length cap8] 29) = W9 := ⟨_, rfl⟩
      have hx9 : Ext W8 W9 := by rw [← hW9]; exact Below.alloc (Below.refl _ _) (Nat.le_refl _) _
      have hc9 : W9.heap[W8.heap.size]? = some (.cells #[.string ⟨xa.toArray⟩, .string ⟨xb.toArray⟩, .int .i64 xst, .slice ao8 xfs.length cap8] 29 (0, 0)) := by rw [← hW9]; exact Array.getElem?_push_size
      obtain ⟨p0, p1, p2, p3⟩ := cells4 (ext_at hx9 HK8.out)
      obtain ⟨q0, q1, q2, q3⟩ := cells4 hc9
      have HX9 := Lib.hid (ext_trans HX8.out hx9); have HS9 := Lib.hid (HS8.out.ext hx9); have HC9 := Lib.hid (ext_cell hx9 HC8.out)
      have HSA := Lib.hid (refSame_any xa xb xst _ _ xfs (by omega) W9 (HR8.out.ext hx9) (HRR.out.ext hx9))
      have HPW := Lib.hid (HSR.out.ext HX9.out)
      have hh2 : ∀ W, (Instr.slice 22 (.slice (some ⟨g1, 0, none⟩) l.length cap1) none (some (.int .i64 ((l.length : Int) + 1))) none).run Tryz.prog W = .ok (.slice (some ⟨g1, 0, none⟩) (l.length + 1) cap1) W := fun W => by
        have h := HHC.out W (l.length + 1) hcc9
        rw [show ((l.length + 1 : Nat) : Int) = (l.length : Int) + 1 by omega] at h
        exact h
      have hixq := HIX.out
      rw [adr_some, Nat.zero_add] at hixq
      have hne : ∀ z : Int, (z != z) = false := fun z => by simp
      have HLL := Lib.hid (show (l == l) = true by simp)
      clear hx9 hc9 HX8 HK8 HR8 HS8 HC8 HRR
      go_wp2_with (first | (go_at_call 11; refine HSA.out.mono ?_; rintro e W10 ⟨he, hx10⟩; subst he; have HX10 := Lib.hid (ext_trans HX9.out hx10); have HSM := Lib.hid (same_any _ _ l l W10 (HS9.out.ext hx10) (HPW.out.ext hx10)); have hc10 := ext_cell hx10 HC9.out; clear hx10 HSA) | (go_at_call 12; refine HSM.out.mono ?_; rintro e w' ⟨he, hw⟩; subst he; subst w'; rw [HLL.out]))
      go_roundw
      case rel => exact ⟨k + 1, by omega, by go_num, Lib.hid (ext_trans HXR.out HX10.out)⟩
      case measure => simp [intOf] <;> omega
    · go_wp2
      go_ret
      exact ⟨rfl, ext_trans HX3.out HXR.out⟩
end Go.Proofs.YtmflnffjhfejhaaGreatDoor
