/-
 ref07.bytes, tail, number, Head at every text.
-/
import Derived.BigGuardPart
import Derived.OwnWalk
import Derived.Lib.ItoaLen
import Derived.Deep.LoopGhost
import Derived.Test.YtjkbigecejogdaaGreatDoorRows
import Derived.Test.YtjkbigecejogdaaGreatDoorScc
import Derived.Test.YtjkbigecejogdaaGreatDoorRnd
import Derived.Test.YtjkbigecejogdaaGreatDoorBkb
import Derived.Test.YtjkbigecejogdaaGreatDoorSpt
import Derived.BigQuiet
import Derived.RegionTactic
import Derived.Deep.DrawnRows
import Derived.Test.YtjkbigecejogdaaGreatDoorExd
import Derived.Test.YtjkbigecejogdaaGreatDoorPfl
namespace Go.Proofs.YtjkbigecejogdaaGreatDoor
open Go.RowKit
set_option maxRecDepth 100000
attribute [local go_sem] Oper.semAt_some
set_option linter.unusedVariables false
set_option linter.unusedSimpArgs false
set_option maxHeartbeats 1000000 in
theorem rbytes_any (l : List UInt8) (hl : l.length ≤ 10000) (a b : Nat) (ha : a ≤ 100000) (hb : b ≤ 100000) (w : World) :
    Calls Tryz.prog 64 #[Str l, .int .i64 (a : Int), .int .i64 (b : Int)] w fun e w' => ∃ v, e = .returned (.tuple #[v, .bool (byB l a b)]) ∧ w'.ownsRow w.heap.size 5 1 v (decF l).1.length ((decF l).1.map Byt) ∧ Ext w w' := by
 have hD := refDecode_any false l w hl
 rw [refDF_decF] at hD
 have HD := Lib.hid hD
 have HBY := Lib.hid (show byB l a b = (decide ((decF l).2 = 0) && (decide (a ≤ (decF l).1.length) && decide ((decF l).1.length ≤ b))) from rfl)
 have hdl : (decF l).1.length ≤ 1000000 := by have := decF_len l; omega
 clear hD
 generalize decF l = d at *
 obtain ⟨bs, c⟩ := d
 simp only at HD HBY hdl
 generalize byB l a b = ok at *
 go_enter Tryz.func64, Tryz.ntmps64
 go_wp2_with fail
 refine HD.out.mono ?_
 rintro e W1 ⟨v, rfl, hown, hx⟩
 obtain ⟨ao, cap, hv, hcap⟩ := ownz_shape hown
 subst hv
 have HX := Lib.hid hx
 obtain ⟨n, hn⟩ : ∃ n, bs.length = n := ⟨_, rfl⟩
 have HO := Lib.hid (show W1.ownsRow w.heap.size 5 1 (.slice ao n cap) bs.length (bs.map Byt) by rw [← hn]; exact hown)
 rw [hn] at HBY hdl ⊢
 clear hn hown hx
 by_cases hc : c = 0
 ·subst hc
  by_cases h1 : a ≤ n
  ·have g1 : (a : Int) ≤ (n : Int) := by omega
   by_cases h2 : n ≤ b
   ·have g2 : (n : Int) ≤ (b : Int) := by omega
    have hk : ok = true := by rw [HBY.out]; simp [h1, h2]
    subst hk
    clear HBY h1 h2
    go_wp2
    all_goals (go_ret2; exact ⟨_, rfl, HO.out, HX.out⟩)
   ·have g2 : ¬ (n : Int) ≤ (b : Int) := by omega
    have hk : ok = false := by rw [HBY.out]; simp [h2]
    subst hk
    clear HBY h1
    go_wp2
    all_goals (go_ret2; exact ⟨_, rfl, HO.out, HX.out⟩)
  ·have g1 : ¬ (a : Int) ≤ (n : Int) := by omega
   have hk : ok = false := by rw [HBY.out]; simp [h1]
   subst hk
   clear HBY h1
   go_wp2
   all_goals (go_ret2; exact ⟨_, rfl, HO.out, HX.out⟩)
 ·have hk : ok = false := by rw [HBY.out]; simp [hc]
  have g1 : ((c : Int) == 0) = false := by simp; omega
  subst hk
  clear HBY hc
  go_wp2
  all_goals (go_ret2; exact ⟨_, rfl, HO.out, HX.out⟩)
set_option maxHeartbeats 2000000 in
theorem rtail_any (v : Value) (fs : List Pr) (hb : PrOk fs) (w : World) (hr : RowC 2 prC w v fs) :
    Calls Tryz.prog 35 #[v] w fun e w' => e = .returned (Str (extL fs)) ∧ Ext w w' := by
 obtain ⟨ao, cap, hv, hcap, hmax, hcl⟩ := rowP_shape hr
 unfold maxLen at hmax
 subst hv
 have HCL := Lib.hid hcl
 have HIX := Lib.hid (fun g o j h W => index_pair g o fs.length cap j h W)
 have HB := Lib.hid hb
 have hfl := hb.1
 clear hcl hr hb
 go_enter Tryz.func35, Tryz.ntmps35
 go_wp2
 go_loopg [3, 8] fs.length (fun gh s3 s8 wx => ∃ k : Nat, k ≤ fs.length ∧ s8 = .int .i64 (k : Int) ∧ gh = fs.length - k ∧ s3 = Str (extL (fs.take k)) ∧ Hid (Ext w wx))
 case atStart => exact ⟨0, by omega, rfl, by omega, rfl, Lib.hid (ext_refl w)⟩
 case round =>
  obtain ⟨k, hk, rfl, rfl, rfl, HXR⟩ := hrel
  by_cases h3 : k < fs.length
  ·rcases HCL.out with h | ⟨g, o, rfl, hcc⟩
   ·subst h; simp at h3
   obtain ⟨a0, a1⟩ := hcc k h3
   replace a0 := ext_cell HXR.out a0; replace a1 := ext_cell HXR.out a1
   have i1 := HIX.out g o k h3
   have hmem : fs.getD k prD ∈ fs := by simp [List.getD, h3]
   have hpl1 := HB.out.2 _ hmem
   have HSN := Lib.hid (extL_snoc fs k h3)
   have hbk := extL_len2 (fs.take k) (HB.out.take k)
   generalize extL (fs.take k) = bk at *
   clear hcc
   generalize fs.getD k prD = p at *
   generalize o + 2 * k = q at *
   obtain ⟨pn, pv⟩ := p
   simp only at a0 a1 hpl1 HSN
   obtain ⟨W5, hW5⟩ : ∃ W5, wr.alloc (.cells #[Str pn, Str pv] 64) = W5 := ⟨_, rfl⟩
   have hx5 : Ext wr W5 := by rw [← hW5]; exact Below.alloc (Below.refl _ _) (Nat.le_refl _) _
   have n1 : W5.heap[wr.heap.size]? = some (.cells #[Str pn, Str pv] 64 (0, 0)) := by rw [← hW5]; exact Array.getElem?_push_size
   obtain ⟨k0, k1⟩ := cells2 n1
   have HX5 := Lib.hid (ext_trans HXR.out hx5)
   clear hx5 n1
   go_wp2
   try rw [hW5]
   clear hW5
   go_roundg (fs.length - (k + 1))
   case measure => omega
   case rel => exact ⟨k + 1, by omega, by go_num, rfl, by rw [HSN.out], HX5⟩
  ·have hkl : k = fs.length := by omega
   subst hkl
   rw [List.take_length]
   clear h3
   go_wp2
   go_ret
   exact ⟨rfl, HXR.out⟩
def dgs : List UInt8 := [48, 49, 50, 51, 52, 53, 54, 55, 56, 57]
theorem dgs_at : ∀ u, u < 10 → (dgs.drop u).take 1 = [UInt8.ofNat (48 + u)] := by decide
set_option maxHeartbeats 1000000 in
theorem number_nat : ∀ (u : Nat), u ≤ 9223372036854775807 → ∀ w : World, Calls Tryz.prog 34 #[.int .i64 (u : Int)] w fun e w' => e = .returned (Str (Lib.decDigits u)) ∧ w' = w := by
 intro u
 induction u using Nat.strongRecOn with
 | ind u ih =>
   intro hu w
   have HDD := Lib.hid (show Lib.decDigits u = if u < 10 then [UInt8.ofNat (48 + u)] else Lib.decDigits (u / 10) ++ [UInt8.ofNat (48 + u % 10)] by
    rw [Lib.decDigits]; split <;> rfl)
   by_cases h10 : u < 10
   ·have hd := HDD.out
    rw [if_pos h10] at hd
    have HD := Lib.hid hd
    have hsl : ∀ W, (Instr.slice 9 (.string ⟨#[48, 49, 50, 51, 52, 53, 54, 55, 56, 57]⟩) (some (.int .i64 (u : Int))) (some (.int .i64 ((u : Int) + 1))) none).run Tryz.prog W = .ok (Str [UInt8.ofNat (48 + u)]) W := fun W => by
     have := slice_mid dgs u (u + 1) (by omega) (by show u + 1 ≤ 10; omega) W
     rw [show u + 1 - u = 1 by omega, dgs_at u h10] at this
     exact this
    have g1 : ¬ (u : Int) < 0 := by omega
    have g2 : (u : Int) < 10 := by omega
    generalize UInt8.ofNat (48 + u) = c at *
    clear ih hd HDD h10
    go_enter Tryz.func34, Tryz.ntmps34
    go_wp2_with fail
    all_goals (go_ret; exact ⟨by rw [HD.out]; rfl, rfl⟩)
   ·have hd := HDD.out
    rw [if_neg h10] at hd
    have h3 := Lib.hid (ih (u / 10) (by omega) (by omega))
    have h4 := Lib.hid (ih (u % 10) (by omega) (by omega))
    have HD := Lib.hid (show Lib.decDigits u = Lib.decDigits (u / 10) ++ Lib.decDigits (u % 10) by
     rw [hd]; congr 1
     rw [Lib.decDigits, dif_pos (by omega)])
    have hl1 : (Lib.decDigits (u / 10)).length ≤ 100 := by
     rw [Lib.decDigits_length]
     have := Lib.nDigits_le20 (u / 10) (by omega); omega
    have hl2 : (Lib.decDigits (u % 10)).length ≤ 100 := by
     rw [Lib.decDigits_length]
     have := Lib.nDigits_le20 (u % 10) (by omega); omega
    have g1 : ¬ (u : Int) < 0 := by omega
    have g2 : ¬ (u : Int) < 10 := by omega
    have q1 : (u : Int).tdiv 10 = ((u / 10 : Nat) : Int) := by rw [Int.tdiv_eq_ediv_of_nonneg (by omega)]; omega
    have q2 : (u : Int).tmod 10 = ((u % 10 : Nat) : Int) := by rw [Int.tmod_eq_emod_of_nonneg (by omega)]; omega
    generalize Lib.decDigits (u / 10) = d1 at *
    generalize Lib.decDigits (u % 10) = d2 at *
    clear ih hd HDD h10
    go_enter Tryz.func34, Tryz.ntmps34
    go_wp2_with fail
    refine (h3.out _).mono ?_
    rintro e W1 ⟨rfl, hw⟩
    subst W1
    go_wp2_with fail
    refine (h4.out _).mono ?_
    rintro e W1 ⟨rfl, hw⟩
    subst W1
    go_wp2_with fail
    go_ret
    exact ⟨by rw [HD.out]; rfl, rfl⟩
def numL (n : Int) : List UInt8 := if n < 0 then [45] else Lib.decDigits n.toNat
theorem rnumber_any (n : Int) (h1 : n ≤ 9223372036854775807) (w : World) : Calls Tryz.prog 34 #[.int .i64 n] w fun e w' => e = .returned (Str (numL n)) ∧ w' = w := by
 by_cases h : n < 0
 ·have HR := Lib.hid (show numL n = [45] by unfold numL; rw [if_pos h])
  go_enter Tryz.func34, Tryz.ntmps34
  go_wp2_with fail
  all_goals (go_ret; exact ⟨by rw [HR.out]; rfl, rfl⟩)
 ·obtain ⟨u, rfl⟩ : ∃ u : Nat, n = u := ⟨n.toNat, by omega⟩
  have := number_nat u (by omega) w
  rw [show numL (u : Int) = Lib.decDigits u by unfold numL; rw [if_neg h]; simp]
  exact this
def rHdF (s : List UInt8) : Bool × Bool := match spl s with
 | [a, b, c] => if c = [] then ((rhdF a b).2.2, (rhdF a b).1 == [112]) else (false, false)
 | _ => (false, false)
theorem rHdF_three (s : List UInt8) (a b c : List UInt8) (h : spl s = [a, b, c]) : rHdF s = if c = [] then ((rhdF a b).2.2, (rhdF a b).1 == [112]) else (false, false) := by
 unfold rHdF; rw [h]
theorem rHdF_not (s : List UInt8) (h : (spl s).length ≠ 3) : rHdF s = (false, false) := by
 unfold rHdF
 split
 ·rename_i h2; rw [h2] at h; simp at h
 ·rfl
set_option maxHeartbeats 1000000 in
theorem rHead_any (s : List UInt8) (hl : s.length ≤ 10000) (w : World) :
    Calls Tryz.prog 66 #[Str s] w fun e w' => e = .returned (.tuple #[.bool (rHdF s).1, .bool (rHdF s).2]) ∧ Ext w w' := by
 have HS := Lib.hid (Split_any s hl w)
 have HPL := Lib.hid (fun p h => spl_mem_len s p h)
 by_cases h3 : (spl s).length = 3
 ·obtain ⟨a, b, c, habc⟩ : ∃ a b c, spl s = [a, b, c] := by
    match hsp : spl s, h3 with
    | [a, b, c], _ => exact ⟨a, b, c, rfl⟩
  have HR := Lib.hid (rHdF_three s a b c habc)
  rw [habc] at HS HPL
  have ha := HPL.out a (by simp)
  have hb := HPL.out b (by simp)
  have HH := Lib.hid (fun W => rhead_any a b (by omega) (by omega) W)
  generalize rHdF s = r at *
  generalize rhdF a b = h at *
  obtain ⟨f, who, ok⟩ := h
  simp only at HH HR
  clear habc h3
  go_enter Tryz.func66, Tryz.ntmps66
  go_wp2_with fail
  refine HS.out.mono ?_
  rintro e W1 ⟨v, rfl, hown, hx⟩
  have hsl := sl_of_own hown
  obtain ⟨a1, c1, rfl, hc1, hm1, hn1, hcell1⟩ := hsl
  have i1 := run_index_adr (P := Tryz.prog) Tryz.underlying88 Tryz.sizeOf9 hn1 hc1
  have j0 := fun W => i1 W 0 (by simp)
  have j1 := fun W => i1 W 1 (by simp)
  have j2 := fun W => i1 W 2 (by simp)
  have k0 := hcell1 0 (Str a) rfl
  have k1 := hcell1 1 (Str b) rfl
  have k2 := hcell1 2 (Str c) rfl
  simp only [List.length_map, List.length_cons, List.length_nil, Nat.reduceAdd, Int.cast_ofNat_Int] at j0 j1 j2 ⊢
  have HX := Lib.hid hx
  clear i1 hcell1 hx hc1 hm1 hn1 hown
  by_cases hc : c = []
  ·subst hc
   have hr := HR.out
   rw [if_pos rfl] at hr
   subst hr
   go_wp2
   have d0 := ExtW.cell k0; have d1 := ExtW.cell k1
   clear k0 k1 k2
   refine wp_region_ext (by kernel_rfl) (by kernel_rfl) ?_
   repeat (first
    | go_big_quiet_skip
    | (go_big_quiet_want; go_big_quiet_op; (try go_bits); first | go_big_quiet_on | go_big_quiet_call (first | exact Calls.ext_of _ (HH.out _))))
   refine wpQuiet_nil ?_
   intro _ hw'
   obtain ⟨nq, hw''⟩ := hw'
   subst hw''
   go_wp2
   go_ret2
   exact ⟨rfl, ext_trans HX.out nq.h⟩
  ·have hr := HR.out
   rw [if_neg hc] at hr
   subst hr
   have e1 : (c == []) = false := by simp [hc]
   have e2 : (c != []) = true := by simp [hc]
   clear hc
   go_wp2
   all_goals (go_ret2; exact ⟨rfl, HX.out⟩)
 ·have HR := Lib.hid (rHdF_not s h3)
  generalize rHdF s = r at *
  have hr := HR.out
  subst hr
  go_enter Tryz.func66, Tryz.ntmps66
  go_wp2_with fail
  refine HS.out.mono ?_
  rintro e W1 ⟨v, rfl, hown, hx⟩
  obtain ⟨ao, cap, hv, hcap⟩ := ownz_shape hown
  subst hv
  have HX := Lib.hid hx
  have g1 : (((spl s).length : Int) == 3) = false := by simp; omega
  have g2 : (((spl s).length : Int) != 3) = true := by simp; omega
  clear hown hx hcap
  generalize (spl s).length = n at *
  go_wp2
  all_goals (go_ret2; exact ⟨rfl, HX.out⟩)
end Go.Proofs.YtjkbigecejogdaaGreatDoor
