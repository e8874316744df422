/-
  ref16.Parse.
-/
import Derived.BigGuardPart
import Derived.RegionTactic
import Derived.Deep.DrawnRows
import Derived.Deep.LoopGhost
import Derived.Test.YtjbobblnicnhnaaDoorRows
import Derived.Test.YtjbobblnicnhnaaDoorRnw
import Derived.Test.YtjbobblnicnhnaaDoorRlns
import Derived.Test.YtjbobblnicnhnaaDoorPol
import Derived.Test.YtjbobblnicnhnaaDoorPar
namespace Go.Proofs.YtjbobblnicnhnaaDoor
open Go.RowKit
set_option maxRecDepth 100000
attribute [local go_sem ↓] Go.wp_at_zero Go.wp_at_succ
set_option linter.unusedVariables false
set_option linter.unusedSimpArgs false

def ParF (B : Nat) (w' : World) (e : Ending) : PR → Prop
  | .long => e = .returned (.tuple #[.slice none 0 0, .int .i64 0, .int .i64 3])
  | .bad n => e = .returned (.tuple #[.slice none 0 0, .int .i64 (n : Int), .int .i64 4])
  | .full => e = .returned (.tuple #[.slice none 0 0, .int .i64 0, .int .i64 8])
  | .ok rs => ∃ v, e = .returned (.tuple #[v, .int .i64 0, .int .i64 0]) ∧ w'.ownsRow B 26 6 v rs.length (rs.flatMap ruC)
theorem parF_of {l : List UInt8} {B : Nat} {w' : World} {e : Ending} {r : PR} (h : parseR l = r) (hr : ParF B w' e r) : ParF B w' e (parseR l) := by rw [h]; exact hr
theorem infoRuF : (Tryd.prog.info? 26).map (fun i => (i.zero, i.size, i.bytes)) = some (some (.agg #[.bool false, .string ⟨#[]⟩, .string ⟨#[]⟩, .string ⟨#[]⟩, .int .i64 0, .int .i64 0]), 6, 72) := by kernel_rfl
set_option maxHeartbeats 4000000 in
theorem parseRf_any (l : List UInt8) (hl : l.length ≤ 10000) (w : World) :
    Calls Tryd.prog 29 #[Str l] w fun e w' => ParF w.heap.size w' e (parseR l) ∧ Ext w w' := by
  have hpr : parseR l = if 4096 < l.length then .long else if (lnL l).all okL then (if 32 < (rulesL (lnL l)).length then .full else .ok (rulesL (lnL l))) else .bad ((lnL l).findIdx (fun x => !okL x) + 1) := rfl
  by_cases h40 : 4096 < l.length
  · have t1 : decide ((4096 : Int) < (l.length : Int)) = true := by simp; omega
    have HP := Lib.hid (hpr.trans (if_pos h40))
    clear hpr h40
    go_enter Tryd.func29, Tryd.ntmps29
    go_wp2
    go_ret3
    exact ⟨parF_of HP.out rfl, Below.refl _ _⟩
  · have t1 : decide ((4096 : Int) < (l.length : Int)) = false := by simp; omega
    have HP := Lib.hid (hpr.trans (if_neg h40))
    have HLN := Lib.hid (lines15_any l hl w)
    have hlen := lnL_len l
    have hpart := fun x (hx : x ∈ lnL l) => (lnL_part l x hx).1
    clear hpr h40
    generalize lnL l = ls at *
    go_enter Tryd.func29, Tryd.ntmps29
    go_wp2_with fail
    refine Calls.mono HLN.out ?_
    rintro e W2 ⟨lv, he, hsl, hx2⟩
    subst he
    obtain ⟨ao, cap, hv, hcp, hmx, hnn, hcell⟩ := id hsl
    rw [List.length_map] at hv hcp
    subst hv
    have HX2 := Lib.hid hx2
    have HIX := Lib.hid (run_index_adr (P := Tryd.prog) Tryd.underlying31 Tryd.sizeOf9 hnn hcp)
    have HCL := Lib.hid hcell
    have HPT := Lib.hid hpart
    clear hsl hx2 HLN hcell hnn hpart
    go_wp2_with fail
    go_loopg [5, 16] ls.length (fun gh s5 s16 wx => ∃ k : Nat, k ≤ ls.length ∧ s16 = .int .i64 (k : Int) ∧ gh = ls.length - k ∧ Hid ((ls.take k).all okL = true) ∧ Hid (wx.ownsRow W2.heap.size 26 6 s5 (rulesL (ls.take k)).length ((rulesL (ls.take k)).flatMap ruC)) ∧ Hid (Ext W2 wx))
    case atStart => exact ⟨0, by omega, rfl, by omega, Lib.hid rfl, Lib.hid (by simpa [rulesL] using World.ownsRow_nil _ _ _ _), Lib.hid (Below.refl _ _)⟩
    case round =>
      obtain ⟨k, hk, rfl, rfl, HALL, HOW, HXR⟩ := hrel
      obtain ⟨po, pcap, hpv, _⟩ := ownz_shape HOW.out
      subst hpv
      have hrl := rulesL_len (ls.take k)
      rw [List.length_take] at hrl
      by_cases h3 : k < ls.length
      · have hkx : ls[k]? = some (ls.getD k []) := by simp [List.getD, h3]
        have q0 := ext_cell HXR.out (HCL.out k (Str (ls.getD k [])) (by rw [List.getElem?_map, hkx]; rfl))
        have i0 := fun W => HIX.out W k h3
        have hxl := HPT.out _ (List.mem_of_getElem? hkx)
        have HRS := Lib.hid (rulesL_snoc ls k h3)
        have HOK := Lib.hid (okL_snoc ls k h3 HALL.out)
        obtain ⟨rs, hrs⟩ : ∃ rs, rulesL (ls.take k) = rs := ⟨_, rfl⟩
        rw [hrs] at HOW HRS hrl ⊢
        generalize ls.getD k [] = x at *
        clear hkx hrs
        have hskip : skipB x = true → okL x = true ∧ ruL x = [] := fun h => ⟨by unfold okL; rw [h]; rfl, by unfold ruL; rw [if_pos h]⟩
        cases x with
        | nil =>
          obtain ⟨g1, g2⟩ := hskip rfl
          have HA := Lib.hid (HOK.out.1 g1)
          have HR2 := Lib.hid (show rulesL (ls.take (k + 1)) = rs by rw [HRS.out, g2, List.append_nil])
          clear g1 g2 hskip HOK HRS
          go_wp2
          go_roundg (ls.length - (k + 1))
          case measure => omega
          case rel => exact ⟨k + 1, by omega, by go_num, rfl, HA, Lib.hid (by rw [HR2.out]; exact HOW.out), HXR⟩
        | cons c t =>
          have hix : ∀ W, (Instr.index 9 (Str (c :: t)) (.int .i64 0)).run Tryd.prog W = .ok (Byt c) W := fun W => run_index_str Tryd.underlying9 (c :: t) 0 _ rfl (by simp) W
          by_cases h35 : c = 35
          · subst h35
            obtain ⟨g1, g2⟩ := hskip rfl
            have hix2 : ∀ W, (Instr.index 9 (Str (35 :: t)) (.int .i64 0)).run Tryd.prog W = .ok (.int .u8 35) W := fun W => by rw [hix W]; rfl
            have HA := Lib.hid (HOK.out.1 g1)
            have HR2 := Lib.hid (show rulesL (ls.take (k + 1)) = rs by rw [HRS.out, g2, List.append_nil])
            clear g1 g2 hskip HOK HRS hix
            go_wp2
            go_roundg (ls.length - (k + 1))
            case measure => omega
            case rel => exact ⟨k + 1, by omega, by go_num, rfl, HA, Lib.hid (by rw [HR2.out]; exact HOW.out), HXR⟩
          · have hns : skipB (c :: t) = false := by
              unfold skipB
              rw [show ((c :: t : List UInt8) == []) = false from rfl, Bool.false_or]
              simp [Lib.hasPrefix, List.isPrefixOf]
              exact fun h => h35 h.symm
            have hcn : ((c.toNat : Int) == 35) = false := by rw [beq_eq_false_iff_ne]; intro h; exact h35 (UInt8.toNat_inj.1 (by simpa using (by omega : c.toNat = 35)))
            have hok : okL (c :: t) = (lineO (c :: t)).isSome := by unfold okL; rw [hns, Bool.false_or]
            have hru : ruL (c :: t) = (lineO (c :: t)).toList := by unfold ruL; rw [hns]; rfl
            have hxl2 : (c :: t).length ≤ 10000 := by omega
            have HLR := Lib.hid (lineR_any (c :: t) hxl2)
            clear h35 hskip hns
            go_wp2_with fail
            refine (HLR.out _).mono ?_
            rintro e W5 ⟨⟨r, he, hrb, hrx⟩, hx5⟩
            subst he
            have HX5 := Lib.hid (ext_trans HXR.out hx5)
            have HO5 := Lib.hid (ownz_ext HOW.out hx5)
            clear hx5 HLR
            cases hlo : lineO (c :: t) with
            | none =>
              rw [hlo] at hok
              have HB := Lib.hid (HOK.out.2 hok)
              have HF := Lib.hid (show parseR l = .bad (k + 1) by rw [HP.out, HB.out.1, HB.out.2]; rfl)
              clear hok hru hrx hlo HOK HRS HB
              have hxa : Ext W5 (W5.alloc (.cells #[.bool r.al, Str r.ro, Str r.te, Str r.ho, .int .i64 r.fr, .int .i64 r.to] 26)) := Below.alloc (Below.refl _ _) (Nat.le_refl _) _
              go_wp2
              go_ret3
              exact ⟨parF_of HF.out (by first | rfl | (show _ = _; go_num)), ext_trans HX2.out (ext_trans HX5.out hxa)⟩
            | some r' =>
              obtain rfl : r = r' := hrx r' hlo
              rw [hlo] at hok hru
              have HA := Lib.hid (HOK.out.1 hok)
              have HR2 := Lib.hid (show rulesL (ls.take (k + 1)) = rs ++ [r] by rw [HRS.out, hru]; rfl)
              clear hok hru hrx hlo HOK HRS hrb
              obtain ⟨ral, rro, rte, rho, rfr, rtu⟩ := r
              obtain ⟨W6, hW6⟩ : ∃ W6, W5.alloc (.cells #[.bool ral, Str rro, Str rte, Str rho, .int .i64 rfr, .int .i64 rtu] 26) = W6 := ⟨_, rfl⟩
              have hx6 : Ext W5 W6 := by rw [← hW6]; exact Below.alloc (Below.refl _ _) (Nat.le_refl _) _
              have n1 : W6.heap[W5.heap.size]? = some (.cells #[.bool ral, Str rro, Str rte, Str rho, .int .i64 rfr, .int .i64 rtu] 26 (0, 0)) := by rw [← hW6]; exact Array.getElem?_push_size
              obtain ⟨z0, z1, z2, z3, z4, z5⟩ := cells6' n1
              have HX6 := Lib.hid (ext_trans HX5.out hx6)
              have HO6 := Lib.hid (ownz_ext HO5.out hx6)
              have hsz6 := HX6.out.size
              clear hx6 n1
              go_wp2_with (at_builtin; refine wpList_pushz W2.heap.size rfl _ _ 34 26 rfl Tryd.underlying34 infoRuF rfl (by omega) (by omega) HO6.out [.bool ral, Str rro, Str rte, Str rho, .int .i64 rfr, .int .i64 rtu] rfl (by simp [Str, Value.oneCell']) (by omega) hsz6 rfl rfl ?_; rintro _ w1 ⟨g1, cap1, rfl⟩ hown1 hgr1; have HO7 := Lib.hid hown1; have HX7 := Lib.hid (ext_pushz HX6.out HO6.out hgr1); clear hown1 hgr1)
              go_roundg (ls.length - (k + 1))
              case measure => omega
              case rel => exact ⟨k + 1, by omega, by go_num, rfl, HA, Lib.hid (by rw [HR2.out, List.length_append, List.flatMap_append]; simpa using HO7.out), HX7⟩
      · have hkl : k = ls.length := by omega
        subst hkl
        rw [List.take_length] at HALL HOW hrl
        rw [List.take_length]
        have HPQ := Lib.hid (HP.out.trans (by rw [HALL.out, if_pos rfl]))
        clear HP h3
        generalize rulesL ls = rs at *
        by_cases h32 : 32 < rs.length
        · have t2 : decide ((32 : Int) < (rs.length : Int)) = true := by simp; omega
          have HF := Lib.hid (HPQ.out.trans (if_pos h32))
          clear h32
          go_wp2
          go_ret3
          exact ⟨parF_of HF.out rfl, ext_trans HX2.out HXR.out⟩
        · have t2 : decide ((32 : Int) < (rs.length : Int)) = false := by simp; omega
          have HF := Lib.hid (HPQ.out.trans (if_neg h32))
          clear h32
          go_wp2
          go_ret3
          exact ⟨parF_of HF.out ⟨_, rfl, ownz_base HOW.out HX2.out.size⟩, ext_trans HX2.out HXR.out⟩
end Go.Proofs.YtjbobblnicnhnaaDoor
