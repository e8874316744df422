/-
  ref09.Parse.
-/
import Derived.BigGuardPart
import Derived.RegionTactic
import Derived.Deep.DrawnRows
import Derived.Deep.LoopGhost
import Derived.Deep.CutBlock
import Derived.Deep.DeepCutAuto
import Derived.Test.YtmflnffjhfejhaaGreatDoorRows
import Derived.Test.YtmflnffjhfejhaaGreatDoorHrq
import Derived.Test.YtmflnffjhfejhaaGreatDoorHrw
import Derived.Test.YtmflnffjhfejhaaGreatDoorHtr
import Derived.Test.YtmflnffjhfejhaaGreatDoorHrt
import Derived.Test.YtmflnffjhfejhaaGreatDoorHlr
import Derived.Test.YtmflnffjhfejhaaGreatDoorHeq
import Derived.Test.YtmflnffjhfejhaaGreatDoorMid
import Derived.Test.YtmflnffjhfejhaaGreatDoorKit
namespace Go.Proofs.YtmflnffjhfejhaaGreatDoor
open Go.RowKit
set_option maxRecDepth 100000
attribute [local go_sem ↓] Go.wp_at_zero Go.wp_at_succ
set_option linter.unusedVariables false
set_option linter.unusedSimpArgs false

theorem occ4 (l : List UInt8) (k : Nat) (h1 : k + 4 ≤ l.length) (h2 : k + 4 ≤ 4096) : Lib.occAt (l.take 4096) [13, 10, 13, 10] k = ((l.take (k + 4)).drop k == [13, 10, 13, 10]) := by
  unfold Lib.occAt
  have e1 : (l.take 4096).drop k = (l.take (k + 4)).drop k ++ (l.take 4096).drop (k + 4) := by
    have h : l.take (k + 4) = (l.take 4096).take (k + 4) := by rw [List.take_take, Nat.min_eq_left h2]
    rw [h]
    have hk : k ≤ ((l.take 4096).take (k + 4)).length := by rw [List.length_take, List.length_take]; omega
    rw [← List.drop_append_of_le_length hk, List.take_append_drop]
  have h4 : ((l.take (k + 4)).drop k).length = 4 := by rw [List.length_drop, List.length_take]; omega
  rw [e1]
  generalize (l.take (k + 4)).drop k = s at *
  generalize (l.take 4096).drop (k + 4) = r at *
  match s, h4 with
  | [a, b, c, d], _ =>
    rw [Bool.eq_iff_iff]
    simp only [List.cons_append, List.nil_append, List.isPrefixOf, Bool.and_eq_true, beq_iff_eq, List.cons.injEq, and_true]
    constructor
    · rintro ⟨rfl, rfl, rfl, rfl⟩; exact ⟨rfl, rfl, rfl, rfl⟩
    · rintro ⟨rfl, rfl, rfl, rfl⟩; exact ⟨rfl, rfl, rfl, rfl⟩
theorem tkN_first (l : List UInt8) (k : Nat) (h1 : k + 4 ≤ l.length) (h2 : k + 4 ≤ 4096) (h : (l.take (k + 4)).drop k = [13, 10, 13, 10]) (hno : ∀ j, j < k → Lib.occAt (l.take 4096) [13, 10, 13, 10] j = false) : tkN l = (k : Int) :=
  Lib.index_first (by rw [List.length_take]; omega) (by rw [occ4 l k h1 h2, h]; rfl) hno
theorem tkN_none (l : List UInt8) (k : Nat) (h1 : ¬ (k + 4 ≤ l.length ∧ k + 4 ≤ 4096)) (hno : ∀ j, j < k → Lib.occAt (l.take 4096) [13, 10, 13, 10] j = false) : tkN l = -1 := by
  refine Lib.index_none fun j hj => ?_
  by_cases hjk : j < k
  · exact hno j hjk
  · rw [Bool.eq_false_iff]
    intro ho
    unfold Lib.occAt at ho
    have h3 := List.IsPrefix.length_le (List.isPrefixOf_iff_prefix.1 ho)
    rw [List.length_drop, List.length_take] at h3
    simp at h3
    omega
theorem ext_set {w w' : World} {b i : Nat} {x : Value} (h : Ext w w') (hb : w.heap.size ≤ b) : Ext w (w'.setCell ⟨b, i, none⟩ x) :=
  below_chg h (Chg.setCell w' ⟨b, i, none⟩ x) (fun k hk => by have hk' : k = b := hk; omega) (Nat.le_refl _)
theorem own_set {w : World} {B b i e z n : Nat} {v x : Value} {xs : List Value} (h : w.ownsRow B e z v n xs) (hb : b < B) : (w.setCell ⟨b, i, none⟩ x).ownsRow B e z v n xs :=
  ownz_keep h fun g _ hg hk => (Chg.setCell w ⟨b, i, none⟩ x).block g (kind_lt hk) (by show ¬ g = b; omega)
theorem headV_four {o : Int ⊕ (Hd × Int)} {B : Nat} {w w' : World} (h : HeadV o B w (.returned (.tuple #[.agg #[Str [], Str [], .int .i64 0, .slice none 0 0], .int .i64 0, .int .i64 4]))) : HeadV o B w' (.returned (.tuple #[.agg #[Str [], Str [], .int .i64 0, .slice none 0 0], .int .i64 0, .int .i64 4])) := by
  rcases o with c | ⟨h', k⟩
  · exact h
  · obtain ⟨v, _, he⟩ := h
    simp at he
set_option maxHeartbeats 4000000 in
theorem refParse_any (v0 : Value) (l : List UInt8) (hl : l.length ≤ 10000) (asks : Bool) (w : World) (hv : SlB w v0 l) :
    Calls Tryz.prog 10 #[v0, .bool asks] w fun e w' => HeadV (headO asks l) w.heap.size w' e ∧ Ext w w' := by
  obtain ⟨W1, hW1⟩ : ∃ W1, w.alloc (.cells #[Str [], Str [], .int .i64 0, .slice none 0 0] 29) = W1 := ⟨_, rfl⟩
  have hx1 : Ext w W1 := by rw [← hW1]; exact Below.alloc (Below.refl _ _) (Nat.le_refl _) _
  have hc1 : W1.heap[w.heap.size]? = some (.cells #[Str [], Str [], .int .i64 0, .slice none 0 0] 29 (0, 0)) := by rw [← hW1]; exact Array.getElem?_push_size
  have hb1 := (Array.getElem?_eq_some_iff.1 hc1).1
  have hsl := hv.ext hx1
  obtain ⟨ao, cap, rfl, hcp, hmx, hnn, _⟩ := id hv
  rw [List.length_map] at *
  have HC1 := Lib.hid hc1; have HX1 := Lib.hid hx1; have HSL := Lib.hid hsl
  have HMID := Lib.hid (fun W i j => run_midm (P := Tryz.prog) Tryz.underlying22 Tryz.sizeOf5 (ao := ao) hcp hmx W i j)
  have HHD := Lib.hid (fun W j => run_headm (P := Tryz.prog) Tryz.underlying22 Tryz.sizeOf5 (ao := ao) hcp W j)
  clear hc1 hx1 hsl hv hcp hmx hnn
  go_enter Tryz.func10, Tryz.ntmps10
  go_upto_block 0 with fail
  clear hW1
  go_cut [7, 8] from 15 (fun s7 s8 wx => wx = W1 ∧ ((tkN l = -1 ∧ s7 = .int .i64 (-1)) ∨ ∃ n : Nat, tkN l = (n : Int) ∧ s7 = .int .i64 (n : Int)))
  case first =>
    go_wp2_with fail
    go_loopg [7, 8] 9000 (fun g s7 s8 wx => wx = W1 ∧ ∃ k : Nat, k ≤ 5000 ∧ s8 = .int .i64 (k : Int) ∧ g = 9000 - k ∧ ((s7 = .int .i64 (-1) ∧ ∀ j, j < k → Lib.occAt (l.take 4096) [13, 10, 13, 10] j = false) ∨ ∃ n : Nat, tkN l = (n : Int) ∧ s7 = .int .i64 (n : Int)))
    case atStart => exact ⟨rfl, 0, by omega, rfl, rfl, .inl ⟨rfl, fun j hj => by omega⟩⟩
    case round =>
      obtain ⟨hwx, k, hk, rfl, rfl, hen⟩ := hrel
      subst hwx
      by_cases hb : k + 4 ≤ l.length ∧ k + 4 ≤ 4096
      · obtain ⟨hb1, hb2⟩ := hb
        have t1 : decide ((k : Int) + 4 ≤ (l.length : Int)) = true := by simp; omega
        have t2 : decide ((k : Int) + 4 ≤ 4096) = true := by simp; omega
        rcases hen with ⟨rfl, hno⟩ | ⟨n, hn, rfl⟩
        · have hocc := occ4 l k hb1 hb2
          have HF := Lib.hid (fun h => tkN_first l k hb1 hb2 h hno)
          have HNO := Lib.hid hno
          have hm := fun W => HMID.out W k (k + 4) (by omega) hb1
          rw [show ((k + 4 : Nat) : Int) = (k : Int) + 4 by omega] at hm
          have hs2 := HSL.out.midm (i := k) (j := k + 4) (by omega) (by rw [List.length_map]; exact hb1)
          rw [← List.map_take, ← List.map_drop] at hs2
          have hcv := run_str (P := Tryz.prog) (src := 22) (dst := 9) Tryz.underlying22 Tryz.underlying5 Tryz.underlying9 hs2
          obtain ⟨ma, ml, mc, hmv⟩ : ∃ a n c, midm (.slice ao l.length cap) k (k + 4) = .slice a n c := ⟨_, _, _, rfl⟩
          rw [hmv] at hcv
          simp only [hmv] at hm
          clear hmv
          have HOC := Lib.hid hocc
          clear hno hocc hs2
          generalize (l.take (k + 4)).drop k = s at *
          cases hs : (s == [13, 10, 13, 10]) with
          | true =>
            have HN := Lib.hid (HF.out (by simpa using hs))
            go_wp2
            go_roundg (9000 - (k + 1))
            case measure => omega
            case rel => exact ⟨rfl, k + 1, by omega, by go_num, rfl, .inr ⟨k, HN.out, rfl⟩⟩
          | false =>
            have HNO2 : Hid (∀ j, j < k + 1 → Lib.occAt (l.take 4096) [13, 10, 13, 10] j = false) := Lib.hid (fun j hj => by
              by_cases hjk : j < k
              · exact HNO.out j hjk
              · obtain rfl : j = k := by omega
                rw [HOC.out, hs])
            go_wp2
            go_roundg (9000 - (k + 1))
            case measure => omega
            case rel => exact ⟨rfl, k + 1, by omega, by go_num, rfl, .inl ⟨rfl, HNO2.out⟩⟩
        · go_wp2
          go_meet
          exact ⟨rfl, .inr ⟨n, hn, rfl⟩⟩
      · by_cases h1 : k + 4 ≤ l.length
        · have t1 : decide ((k : Int) + 4 ≤ (l.length : Int)) = true := by simp; omega
          have t2 : decide ((k : Int) + 4 ≤ 4096) = false := by simp; omega
          have HE := Lib.hid hen
          have HB := Lib.hid hb
          clear hen hb
          go_wp2
          go_meet
          exact ⟨rfl, by rcases HE.out with ⟨rfl, hno⟩ | ⟨n, hn, rfl⟩; exact .inl ⟨tkN_none l k HB.out hno, rfl⟩; exact .inr ⟨n, hn, rfl⟩⟩
        · have t1 : decide ((k : Int) + 4 ≤ (l.length : Int)) = false := by simp; omega
          have HE := Lib.hid hen
          have HB := Lib.hid hb
          clear hen hb
          go_wp2
          go_meet
          exact ⟨rfl, by rcases HE.out with ⟨rfl, hno⟩ | ⟨n, hn, rfl⟩; exact .inl ⟨tkN_none l k HB.out hno, rfl⟩; exact .inr ⟨n, hn, rfl⟩⟩
  case rest =>
    obtain ⟨hwc, hen⟩ := hcut
    subst wc
    rcases hen with ⟨hn, rfl⟩ | ⟨n, hn, rfl⟩
    · have HO := Lib.hid (show headO asks l = .inl (if l.length < 4096 then 2 else 3) by unfold headO; rw [if_pos hn])
      have hf1 := frozen_row HC1.out
      obtain ⟨c0, c1, c2, c3⟩ := cells4 HC1.out
      clear hn HSL HMID HHD
      by_cases h4 : l.length < 4096
      · have t4 : decide ((l.length : Int) < 4096) = true := by simp; omega
        have HO2 := Lib.hid (HO.out.trans (by rw [if_pos h4]))
        clear HO h4
        go_wp2
        obtain ⟨W9, hW9, hst, hch⟩ := set4 HC1.out (.string ⟨#[]⟩) (.string ⟨#[]⟩) (.int .i64 0) (.slice none 0 0)
        rw [hW9]
        obtain ⟨e0', e1', e2', e3'⟩ := cells4 hst
        refine bodyPost_ret (v := .tuple #[.agg #[Str [], Str [], .int .i64 0, .slice none 0 0], .int .i64 0, .int .i64 2]) (by simp [results, Tryz.results10, go_sem, e0', e1', e2', e3']) rfl ⟨by rw [HO2.out]; rfl, below_chg HX1.out hch (fun k hk => by have hk' : k = w.heap.size := hk; omega) (Nat.le_refl _)⟩
      · have t4 : decide ((l.length : Int) < 4096) = false := by simp; omega
        have HO2 := Lib.hid (HO.out.trans (by rw [if_neg h4]))
        clear HO h4
        go_wp2
        obtain ⟨W9, hW9, hst, hch⟩ := set4 HC1.out (.string ⟨#[]⟩) (.string ⟨#[]⟩) (.int .i64 0) (.slice none 0 0)
        rw [hW9]
        obtain ⟨e0', e1', e2', e3'⟩ := cells4 hst
        refine bodyPost_ret (v := .tuple #[.agg #[Str [], Str [], .int .i64 0, .slice none 0 0], .int .i64 0, .int .i64 3]) (by simp [results, Tryz.results10, go_sem, e0', e1', e2', e3']) rfl ⟨by rw [HO2.out]; rfl, below_chg HX1.out hch (fun k hk => by have hk' : k = w.heap.size := hk; omega) (Nat.le_refl _)⟩
    · have HO := Lib.hid (show headO asks l = if headC asks (tkL l n) = 0 then .inr (headH asks (tkL l n), (n : Int) + 4) else .inl (headC asks (tkL l n)) by unfold headO; rw [if_neg (by omega), hn, Int.toNat_natCast])
      have hnb : n + 4 ≤ l.length := by
        rcases tkN_cases l with h | ⟨m, hm, h1, h2⟩
        · rw [h] at hn; omega
        · rw [hm] at hn; have : m = n := by exact_mod_cast hn
          omega
      have hh := fun W => HHD.out W (n + 2) (by omega)
      rw [show ((n + 2 : Nat) : Int) = (n : Int) + 2 by omega] at hh
      have hs2 := HSL.out.headm (k := n + 2) (by rw [List.length_map]; omega)
      rw [← List.map_take] at hs2
      have hcv := run_str (P := Tryz.prog) (src := 22) (dst := 9) Tryz.underlying22 Tryz.underlying5 Tryz.underlying9 hs2
      obtain ⟨ma, ml, mc, hmv⟩ : ∃ a m c, headm (.slice ao l.length cap) (n + 2) = .slice a m c := ⟨_, _, _, rfl⟩
      rw [hmv] at hcv
      simp only [hmv] at hh
      have HLN := Lib.hid (refLines_any (l.take (n + 2)) (by rw [List.length_take]; omega) W1)
      have hpos := tkL_pos l n hnb
      have hpart : ∀ x ∈ tkL l n, x.1.length ≤ 10000 := fun x hx => by
        have h1 := hlines_part _ (l.take (n + 2)) (Nat.le_refl _) x hx
        rw [List.length_take] at h1
        omega
      have hlen : (tkL l n).length ≤ 10000 := by
        have h1 := hlines_len _ (l.take (n + 2)) (Nat.le_refl _)
        rw [List.length_take] at h1
        show (hlines (l.take (n + 2))).length ≤ 10000
        omega
      rw [show hlines (l.take (n + 2)) = tkL l n from rfl] at HLN
      have hn0 : (-1 : Int) < (n : Int) := by omega
      have hnb2 : (n : Int) + 4 ≤ 10000 := by omega
      have HPART := Lib.hid hpart
      clear hmv hs2 HSL HMID HHD hn hpart
      generalize l.take (n + 2) = lt at *
      generalize tkL l n = L at *
      go_wp2_with fail
      refine Calls.mono HLN.out ?_
      rintro e W2 ⟨lv, he, hown, hx2⟩
      subst he
      have HRL := Lib.hid (rowC_of_own lnC_len hown)
      have HX2 := Lib.hid (ext_trans HX1.out hx2)
      have HC2 := Lib.hid (ext_at hx2 HC1.out)
      obtain ⟨la, lcap, hlv, hlc⟩ := ownz_shape hown
      subst hlv
      clear hown hx2 HLN hcv hh
      have hbl := (Array.getElem?_eq_some_iff.1 HC2.out).1
      obtain ⟨la', lcap', hv', _, _, _, hcell⟩ := id HRL.out
      have hLne : L ≠ [] := List.length_pos_iff.1 hpos
      obtain ⟨g, o, hla, hcl⟩ := hcell hLne
      obtain ⟨rfl, _, rfl⟩ : la = la' ∧ True ∧ lcap = lcap' := by simpa using hv'
      subst hla
      have hf0 : L[0]? = some (L.getD 0 ([], false)) := by simp [List.getD, hpos]
      have e0 : W2.cell? ⟨g, o, none⟩ = some (Str (L.getD 0 ([], false)).1) := by have := hcl 0 _ hf0 0 _ rfl; simpa using this
      have i0 : ∀ W, (Instr.indexAt 58 (.slice (some ⟨g, o, none⟩) L.length lcap) (.int .i64 0)).run Tryz.prog W = .ok (.pointer (some ⟨g, o, none⟩)) W := fun W => by have := index_line g o L.length lcap 0 hpos W; simpa using this
      have hf0l : (L.getD 0 ([], false)).1.length ≤ 10000 := HPART.out _ (List.mem_of_getElem? hf0)
      have HRQ := Lib.hid (request_any (L.getD 0 ([], false)).1 hf0l)
      have HAN := Lib.hid (answer_any (L.getD 0 ([], false)).1 hf0l)
      have HF0 := Lib.hid hf0
      obtain ⟨f0, hf0e⟩ : ∃ f0, (L.getD 0 ([], false)).1 = f0 := ⟨_, rfl⟩
      rw [hf0e] at e0 HRQ HAN
      have HF0E := Lib.hid hf0e
      obtain ⟨W3, hW3⟩ : ∃ W3, W2.alloc (.cells #[Str [], Str [], .int .i64 0, .slice none 0 0] 29) = W3 := ⟨_, rfl⟩
      have hx3 : Ext W2 W3 := by rw [← hW3]; exact Below.alloc (Below.refl _ _) (Nat.le_refl _) _
      have hc3 : W3.heap[W2.heap.size]? = some (.cells #[Str [], Str [], .int .i64 0, .slice none 0 0] 29 (0, 0)) := by rw [← hW3]; exact Array.getElem?_push_size
      have hb3 := (Array.getElem?_eq_some_iff.1 hc3).1
      have hf3 := frozen_row hc3
      have e3 := ext_cell hx3 e0
      have HX3 := Lib.hid (ext_trans HX2.out hx3)
      have HR3 := Lib.hid (ext_at hx3 HC2.out)
      have HL3 := Lib.hid (HRL.out.ext hx3)
      have HC3 := Lib.hid hc3
      have hsz : w.heap.size < W2.heap.size := hbl
      clear hcell hcl hv' hLne hf0 hf0l hf0e hx3 hc3 HC2 HC1 HRL HX1 hb1
      go_upto_if 56 with fail
      clear hW3
      go_cut [11] from 56 (fun s11 wx => ∃ a b m, s11 = .bool (firstB asks f0) ∧ wx.heap[W2.heap.size]? = some (.cells #[Str a, Str b, .int .i64 m, .slice none 0 0] 29 (0, 0)) ∧ (firstB asks f0 = true → a = oneL asks f0 ∧ b = twoL asks f0 ∧ m = stI asks f0) ∧ Chg (fun q => q = W2.heap.size) W3 wx)
      case first =>
        cases asks with
        | true =>
          go_wp2_with fail
          refine (HRQ.out _).mono ?_
          rintro e w4 ⟨⟨a, b, he, hab⟩, hx4⟩
          subst he
          have hc4 := ext_at hx4 HC3.out
          have hf4 := frozen_row hc4
          obtain ⟨c0, c1, c2, c3⟩ := cells4 hc4
          have hb4 := (Array.getElem?_eq_some_iff.1 hc4).1
          have HC4 := Lib.hid hc4; have HX4 := Lib.hid hx4; have HAB := Lib.hid hab
          clear hc4 hx4 hab HAN HRQ
          go_wp2_with fail
          go_meet
          obtain ⟨W9, hW9, hst, hch⟩ := set4 HC4.out (Str a) (Str b) (.int .i64 0) (.slice none 0 0)
          rw [hW9]
          exact ⟨a, b, 0, rfl, hst, fun h => ⟨(HAB.out h).1, (HAB.out h).2, rfl⟩, (Chg.of_ext _ HX4.out).trans hch⟩
        | false =>
          go_wp2_with fail
          refine (HAN.out _).mono ?_
          rintro e w4 ⟨⟨a, m, he, hab⟩, hx4⟩
          subst he
          have hc4 := ext_at hx4 HC3.out
          have hf4 := frozen_row hc4
          obtain ⟨c0, c1, c2, c3⟩ := cells4 hc4
          have hb4 := (Array.getElem?_eq_some_iff.1 hc4).1
          have HC4 := Lib.hid hc4; have HX4 := Lib.hid hx4; have HAB := Lib.hid hab
          clear hc4 hx4 hab HAN HRQ
          go_wp2_with fail
          go_meet
          obtain ⟨W9, hW9, hst, hch⟩ := set4 HC4.out (Str a) (.string ⟨#[]⟩) (.int .i64 m) (.slice none 0 0)
          rw [hW9]
          exact ⟨a, [], m, rfl, hst, fun h => ⟨(HAB.out h).1, rfl, (HAB.out h).2⟩, (Chg.of_ext _ HX4.out).trans hch⟩
      case rest =>
        obtain ⟨a, b, m, rfl, hcb, hab, hch⟩ := hcut
        have hhb : W2.heap.size < wc.heap.size := (Array.getElem?_eq_some_iff.1 hcb).1
        have HXC := Lib.hid (below_chg HX3.out hch (fun k hk => by have hk' : k = W2.heap.size := hk; omega) (Nat.le_refl _))
        have HRC := Lib.hid (show wc.heap[w.heap.size]? = some (.cells #[Str [], Str [], .int .i64 0, .slice none 0 0] 29 (0, 0)) from (hch.block _ (Array.getElem?_eq_some_iff.1 HR3.out).1 (by show ¬ w.heap.size = W2.heap.size; omega)).trans HR3.out)
        have hg3 : g < W2.heap.size := by
          unfold World.cell? at e0
          simp only at e0
          split at e0
          · rename_i hh; exact (Array.getElem?_eq_some_iff.1 hh).1
          · cases e0
        have HLC := Lib.hid (HL3.out.keep (C := wc) (fun k hk => by
          have hkg : k = g := by have := hk.2; simp [Value.ownBlock] at this; exact this.symm
          subst hkg
          exact hch.block _ (by omega) (by show ¬ k = W2.heap.size; omega)))
        have hC := headC_cases asks L
        rw [HF0E.out] at hC
        have HHE := Lib.hid (show headH asks L = ⟨oneL asks f0, twoL asks f0, stI asks f0, L.tail.map tkF⟩ by unfold headH; rw [HF0E.out])
        have HHB := Lib.hid hhb
        clear HL3 HR3 HC3 HX3 hch HAN HRQ HF0 HF0E e0 i0 e3 hf3 hb3 hhb
        cases hfb : firstB asks f0 with
        | false =>
          have HO2 := Lib.hid (HO.out.trans (by rw [hC, hfb]; rfl : (if headC asks L = 0 then Sum.inr (headH asks L, (n : Int) + 4) else Sum.inl (headC asks L)) = Sum.inl 4))
          have hfr := frozen_row HRC.out
          obtain ⟨c0, c1, c2, c3⟩ := cells4 HRC.out
          have hbr := (Array.getElem?_eq_some_iff.1 HRC.out).1
          clear hC HO hcb hab
          go_wp2
          obtain ⟨W9, hW9, hst, hch⟩ := set4 HRC.out (.string ⟨#[]⟩) (.string ⟨#[]⟩) (.int .i64 0) (.slice none 0 0)
          rw [hW9]
          obtain ⟨e0', e1', e2', e3'⟩ := cells4 hst
          refine bodyPost_ret (v := .tuple #[.agg #[Str [], Str [], .int .i64 0, .slice none 0 0], .int .i64 0, .int .i64 4]) (by simp [results, Tryz.results10, go_sem, e0', e1', e2', e3']) rfl ⟨by rw [HO2.out]; rfl, below_chg HXC.out hch (fun k hk => by have hk' : k = w.heap.size := hk; omega) (Nat.le_refl _)⟩
        | true =>
          obtain ⟨rfl, rfl, rfl⟩ := hab hfb
          have HC := Lib.hid (show headC asks L = if L.tail.all tkA then (if 24 < L.tail.length then 3 else 0) else 4 by rw [hC, hfb, Bool.true_and])
          clear hC hab hfb
          obtain ⟨hrt, hct⟩ := rowC_tail HLC.out (List.length_pos_iff.1 hpos) (by omega)
          have htl := run_tail2 (P := Tryz.prog) Tryz.underlying58 Tryz.sizeOf63 (g := g) (o := o) (cap := lcap) hpos
          have hTl : L.tail.length = L.length - 1 := List.length_tail
          have HPT := Lib.hid (fun x (hx : x ∈ L.tail) => HPART.out x (List.mem_of_mem_tail hx))
          rw [← hTl] at htl
          have HCT := Lib.hid hct
          obtain ⟨lo, hlo⟩ : ∃ lo, wc.heap[g]? = some lo := ⟨_, Array.getElem?_eq_getElem (by have := HHB.out; omega)⟩
          have HLO := Lib.hid hlo
          have hTb : L.tail.length ≤ 10000 := by omega
          have HRLEN := Lib.hid hlen
          clear HLC hrt hct hTl hlo HPART
          generalize (if lcap = 1 then o else o + 2) = o2 at *
          generalize lcap - 1 = lc2 at *
          generalize oneL asks f0 = a at *
          generalize twoL asks f0 = b at *
          generalize stI asks f0 = m at *
          generalize L.tail = T at *
          have HIX := Lib.hid (fun j (hj : j < T.length) W => index_line g o2 T.length lc2 j hj W)
          go_wp2
          go_loopg [79] T.length (fun gh s79 wx => ∃ k : Nat, k ≤ T.length ∧ s79 = .int .i64 (k : Int) ∧ gh = T.length - k ∧ (T.take k).all tkA = true ∧ (∃ v, wx.heap[W2.heap.size]? = some (.cells #[Str a, Str b, .int .i64 m, v] 29 (0, 0)) ∧ wx.ownsRow wc.heap.size 53 2 v k (((T.take k).map tkF).flatMap prC)) ∧ wx.heap[w.heap.size]? = some (.cells #[Str [], Str [], .int .i64 0, .slice none 0 0] 29 (0, 0)) ∧ wx.heap[g]? = some lo ∧ Ext w wx ∧ wc.heap.size ≤ wx.heap.size)
          case atStart => exact ⟨0, by omega, rfl, by omega, rfl, ⟨_, hcb, World.ownsRow_nil _ _ _ _⟩, HRC.out, HLO.out, HXC.out, Nat.le_refl _⟩
          case round =>
            obtain ⟨k, hk, rfl, rfl, hall, ⟨v, hv, hown⟩, hrb, hgl, hxw, hszr⟩ := hrel
            obtain ⟨vo, vcap, hvv, hvc⟩ := ownz_shape hown
            subst hvv
            have HALL := Lib.hid hall; have HV := Lib.hid hv; have HOW := Lib.hid hown; have HRB := Lib.hid hrb; have HGL := Lib.hid hgl; have HXW := Lib.hid hxw
            clear hall hv hown hrb hgl hxw hcb
            by_cases h3 : k < T.length
            · have hmem : T.getD k ([], false) ∈ T := by simp [List.getD, h3]
              have hkT : T[k]? = some (T.getD k ([], false)) := by simp [List.getD, h3]
              have hx1l := HPT.out _ hmem
              have q0 := (World.cell?_of_block (w := wc) (w' := wr) (a := ⟨g, o2 + (2 * k + 0), none⟩) (HGL.out.trans HLO.out.symm)).trans (HCT.out k _ hkT 0 _ rfl)
              have q1 := (World.cell?_of_block (w := wc) (w' := wr) (a := ⟨g, o2 + (2 * k + 1), none⟩) (HGL.out.trans HLO.out.symm)).trans (HCT.out k _ hkT 1 _ rfl)
              have i1 := HIX.out k h3
              have HTK := Lib.hid (show T.take (k + 1) = T.take k ++ [T.getD k ([], false)] by rw [List.take_succ_eq_append_getElem h3]; simp [List.getD, h3])
              obtain ⟨x, hx⟩ : ∃ x, T.getD k ([], false) = x := ⟨_, rfl⟩
              rw [hx] at q0 q1 hx1l HTK hmem
              have HMEM := Lib.hid hmem
              clear hkT hx hmem
              rw [Nat.add_zero] at q0
              rw [show o2 + (2 * k + 1) = o2 + 2 * k + 1 by omega] at q1
              generalize o2 + 2 * k = qq at *
              obtain ⟨x1, x2⟩ := x
              simp only at q0 q1 hx1l
              have HAT := Lib.hid (at_any x1 58 (by omega))
              obtain ⟨W5, hW5⟩ : ∃ W5, wr.alloc (.cells #[Str x1, .bool x2] 63) = W5 := ⟨_, rfl⟩
              have hx5 : Ext wr W5 := by rw [← hW5]; exact Below.alloc (Below.refl _ _) (Nat.le_refl _) _
              have n1 : W5.heap[wr.heap.size]? = some (.cells #[Str x1, .bool x2] 63 (0, 0)) := by rw [← hW5]; exact Array.getElem?_push_size
              have hs5 : wr.heap.size < W5.heap.size := (Array.getElem?_eq_some_iff.1 n1).1
              have HN4 := Lib.hid n1
              have HV4 := Lib.hid (ext_at hx5 HV.out)
              have HOW4 := Lib.hid (ownz_ext HOW.out hx5)
              have HRB4 := Lib.hid (ext_at hx5 HRB.out)
              have HGL4 := Lib.hid (ext_at hx5 HGL.out)
              have HX4 := Lib.hid (ext_trans HXW.out hx5)
              have HSZ4 := Lib.hid (show wc.heap.size ≤ W5.heap.size by omega)
              have HNG := Lib.hid (show ∀ q, (Value.slice vo k vcap).ownBlock = some q → q ≠ wr.heap.size from fun q hq e => by have := HOW.out.lt q hq; omega)
              have HNR := Lib.hid (show ∀ q, (Value.slice vo k vcap).ownBlock = some q → wc.heap.size ≤ q from fun q hq => (HOW.out.lt q hq).1)
              obtain ⟨d0, d1⟩ := cells2 n1
              have hrej : tkA (x1, x2) = false → HeadV (headO asks l) w.heap.size w (.returned (.tuple #[.agg #[Str [], Str [], .int .i64 0, .slice none 0 0], .int .i64 0, .int .i64 4])) := fun h => by
                have hall : T.all tkA = false := by
                  rw [Bool.eq_false_iff]; intro ha
                  rw [List.all_eq_true] at ha
                  rw [ha _ HMEM.out] at h; cases h
                have h4 : headC asks L = 4 := by rw [HC.out, hall]; rfl
                rw [HO.out, h4]
                rfl
              have HREJ := Lib.hid hrej
              clear n1 hrej hx5
              rcases cut_byte x1 58 with ⟨p, q, hc, hxe, hp⟩ | ⟨hc, hno⟩
              · have hat : atI x1 58 = (p.length : Int) := by rw [hxe]; exact at_split p q 58 hp
                obtain ⟨hA, hF⟩ := tkA_some (x1, x2) p q hc
                have e1 : x1.take p.length = p := by rw [hxe]; simp
                have e2 : x1.drop (p.length + 1) = q := by rw [hxe]; simp
                have hxl : x1.length = p.length + 1 + q.length := by rw [hxe]; simp; omega
                have e5 : x1.take x1.length = x1 := List.take_length
                have hb5 : p.length + 1 ≤ x1.length := by omega
                have hb6 : p.length ≤ x1.length := by omega
                have hql : q.length ≤ 10000 := by omega
                rw [hat] at HAT
                have hTK := Lib.hid (tokenR_any p (by omega))
                have hTX := Lib.hid (textR_any q (by omega))
                have HTM := Lib.hid (trimR_any q (by omega))
                have HA := Lib.hid hA; have HF := Lib.hid hF
                clear hxl hxe hc hp hat hA hF
                cases htk : tokenB p with
                | false =>
                  have HRJ := Lib.hid (HREJ.out (by rw [HA.out, htk]; rfl))
                  rw [htk] at hTK
                  clear HREJ HA htk
                  have hfr := frozen_row HRB4.out
                  obtain ⟨c0, c1, c2, c3⟩ := cells4 HRB4.out
                  have hbr := (Array.getElem?_eq_some_iff.1 HRB4.out).1
                  go_wp2_with (first | (go_at_call 22; refine (HAT.out _).mono ?_; rintro e w' ⟨rfl, hw⟩; subst w') | (go_at_call 23; refine (hTK.out _).mono ?_; rintro e w' ⟨rfl, hw⟩; subst w') | (go_at_call 24; refine (hTX.out _).mono ?_; rintro e w' ⟨rfl, hw⟩; subst w'))
                  obtain ⟨W9, hW9, hst, hch⟩ := set4 HRB4.out (.string ⟨#[]⟩) (.string ⟨#[]⟩) (.int .i64 0) (.slice none 0 0)
                  rw [hW9]
                  obtain ⟨e0', e1', e2', e3'⟩ := cells4 hst
                  refine bodyPost_ret (v := .tuple #[.agg #[Str [], Str [], .int .i64 0, .slice none 0 0], .int .i64 0, .int .i64 4]) (by simp [results, Tryz.results10, go_sem, e0', e1', e2', e3']) rfl ⟨headV_four HRJ.out, below_chg HX4.out hch (fun k hk => by have hk' : k = w.heap.size := hk; omega) (Nat.le_refl _)⟩
                | true =>
                  rw [htk] at hTK
                  cases htx : textB q with
                  | false =>
                    have HRJ := Lib.hid (HREJ.out (by rw [HA.out, htx, Bool.and_false]))
                    rw [htx] at hTX
                    clear HREJ HA htk htx
                    have hfr := frozen_row HRB4.out
                    obtain ⟨c0, c1, c2, c3⟩ := cells4 HRB4.out
                    have hbr := (Array.getElem?_eq_some_iff.1 HRB4.out).1
                    go_wp2_with (first | (go_at_call 22; refine (HAT.out _).mono ?_; rintro e w' ⟨rfl, hw⟩; subst w') | (go_at_call 23; refine (hTK.out _).mono ?_; rintro e w' ⟨rfl, hw⟩; subst w') | (go_at_call 24; refine (hTX.out _).mono ?_; rintro e w' ⟨rfl, hw⟩; subst w'))
                    obtain ⟨W9, hW9, hst, hch⟩ := set4 HRB4.out (.string ⟨#[]⟩) (.string ⟨#[]⟩) (.int .i64 0) (.slice none 0 0)
                    rw [hW9]
                    obtain ⟨e0', e1', e2', e3'⟩ := cells4 hst
                    refine bodyPost_ret (v := .tuple #[.agg #[Str [], Str [], .int .i64 0, .slice none 0 0], .int .i64 0, .int .i64 4]) (by simp [results, Tryz.results10, go_sem, e0', e1', e2', e3']) rfl ⟨headV_four HRJ.out, below_chg HX4.out hch (fun k hk => by have hk' : k = w.heap.size := hk; omega) (Nat.le_refl _)⟩
                  | true =>
                    rw [htx] at hTX
                    have HTA := Lib.hid (show tkA (x1, x2) = true by rw [HA.out, htk, htx]; rfl)
                    clear HREJ HA htk htx
                    generalize Lib.trimS q [32, 9] = tq at *
                    go_wp2_with (first | (go_at_call 22; refine (HAT.out _).mono ?_; rintro e w' ⟨rfl, hw⟩; subst w') | (go_at_call 23; refine (hTK.out _).mono ?_; rintro e w' ⟨rfl, hw⟩; subst w') | (go_at_call 24; refine (hTX.out _).mono ?_; rintro e w' ⟨rfl, hw⟩; subst w'))
                    have HX5 := Lib.hid (show Ext w W5.drew from Below.drew HX4.out)
                    have HOW5 := Lib.hid (ownz_ext HOW4.out (show Ext W5 W5.drew from Below.drew (Below.refl _ _)))
                    have HRB5 := Lib.hid (show W5.drew.heap[w.heap.size]? = _ from HRB4.out)
                    have HGL5 := Lib.hid (show W5.drew.heap[g]? = _ from HGL4.out)
                    have HV5 := Lib.hid (show W5.drew.heap[W2.heap.size]? = _ from HV4.out)
                    have HN5 := Lib.hid (show W5.drew.heap[wr.heap.size]? = _ from HN4.out)
                    have HSZ5 := Lib.hid (show wc.heap.size ≤ W5.drew.heap.size from HSZ4.out)
                    have HBB := Lib.hid (show w.heap.size < W2.heap.size ∧ W2.heap.size < wc.heap.size ∧ wc.heap.size ≤ wr.heap.size ∧ g < W2.heap.size from ⟨hsz, HHB.out, hszr, hg3⟩)
                    have HNE0 := HNG
                    have HNE1 := Lib.hid (show ∀ q, (Value.slice vo k vcap).ownBlock = some q → q ≠ w.heap.size from fun q hq e => by have := HNR.out q hq; have := HBB.out; omega)
                    have HNE2 := Lib.hid (show ∀ q, (Value.slice vo k vcap).ownBlock = some q → q ≠ g from fun q hq e => by have := HNR.out q hq; have := HBB.out; omega)
                    have HNE3 := Lib.hid (show ∀ q, (Value.slice vo k vcap).ownBlock = some q → q ≠ W2.heap.size from fun q hq e => by have := HNR.out q hq; have := HBB.out; omega)
                    clear d0 d1 q0 q1 hW5 hs5
                    generalize wr.heap.size = gg at *
                    -- inv {'ops': [('fa', 106, 10, '.pointer (some ⟨W2.heap.size, 0, none⟩)', '.pointer (some ⟨W2.heap.size, 3, none⟩)'), ('lf', 107, 0, '.slice vo k vcap', 'obtain ⟨k0, k1, k2, k3⟩ := cells4 (P3 (hcl.not 16 (by kernel_rfl) (hcl.not 14 (by kernel_rfl) hL)))'), ('fa', 108, 13, '.pointer (some ⟨gg, 0, none⟩)', '.pointer (some ⟨gg, 0, none⟩)'), ('lf', 109, 2, 'Str x1', 'obtain ⟨d0, d1⟩ := cells2 H0'), ('mv', 110, 14, '.int .i64 (p.length : Int)'), ('op', 111, [3, 4], 'Str p'), ('fa', 112, 13, '.pointer (some ⟨gg, 0, none⟩)', '.pointer (some ⟨gg, 0, none⟩)'), ('lf', 113, 6, 'Str x1', 'obtain ⟨d0, d1⟩ := cells2 H0'), ('mv', 114, 14, '.int .i64 (p.length : Int)'), ('op', 115, [8], '.int .i64 ((p.length : Int) + 1)'), ('op', 116, [7, 9], 'Str q'), ('callq', 117, [10], "HTM.out w'", 'Str tq'), ('op', 118, [5, 11], '.agg #[Str p, Str tq]'), ('bs', 119, [12], ['Str p', 'Str tq'], '53', 14, 1), ('apd', 120, 13, 1, '.slice vo k vcap', 'wc.heap.size', '53', '2', '27', 'infoPair', '[Str p, Str tq]', 'k', '(((T.take k).map tkF).flatMap prC)'), ('fa', 121, 10, '.pointer (some ⟨W2.heap.size, 0, none⟩)', '.pointer (some ⟨W2.heap.size, 3, none⟩)'), ('st', None, [14, 15], 'have hc9 := P3 hL; have hf9 := frozen_row hc9; have hb9 := (Array.getElem?_eq_some_iff.1 hc9).1; obtain ⟨k0, k1, k2, k3⟩ := cells4 hc9; obtain ⟨vo2, vcap2, hv2, _⟩ := ownz_shape e14')], 'W': [('E0', "Ext w w'", 'HX5.out'), ('D', "L 14 = false → w'.ownsRow wc.heap.size 53 2 (.slice vo k vcap) k (((T.take k).map tkF).flatMap prC)", 'fun _ => HOW5.out'), ('N0', "wc.heap.size ≤ w'.heap.size", 'HSZ5.out'), ('H0', "w'.heap[gg]? = some (.cells #[Str x1, .bool x2] 63 (0, 0))", 'HN5.out'), ('H1', "w'.heap[w.heap.size]? = some (.cells #[Str [], Str [], .int .i64 0, .slice none 0 0] 29 (0, 0))", 'HRB5.out'), ('H2', "w'.heap[g]? = some lo", 'HGL5.out'), ('P3', "L 16 = false → w'.heap[W2.heap.size]? = some (.cells #[Str a, Str b, .int .i64 m, .slice vo k vcap] 29 (0, 0))", 'fun _ => HV5.out'), ('P4', "L 16 = true → w'.heap[W2.heap.size]? = some (.cells #[Str a, Str b, .int .i64 m, u 120] 29 (0, 0))", 'fun h => by cases h')], 'over': {14: {'P4': 'fun h => absurd h (by simp [hcl.not 16 (by kernel_rfl) hL])'}, 16: {'E0': 'ext_set E0 (by have := HBB.out; omega)', 'D': 'fun h => absurd (hp.of 14 (by kernel_rfl)) (by simp at h; simp [h])', 'C13': 'fun h h2 => absurd (hp.of 14 (by kernel_rfl)) (by simp at h2; simp [h2])', 'C14': 'fun h => own_set e14 (by have := HBB.out; omega)', 'N0': 'by show _ ≤ (World.setCell _ _ _).heap.size; simpa [World.setCell] using N0', 'H0': '(Below.heap_setCell _ _ _ _ (by have := HBB.out; show _ ≠ W2.heap.size; omega)).trans H0', 'H1': '(Below.heap_setCell _ _ _ _ (by have := HBB.out; show _ ≠ W2.heap.size; omega)).trans H1', 'H2': '(Below.heap_setCell _ _ _ _ (by have := HBB.out; show _ ≠ W2.heap.size; omega)).trans H2', 'P3': 'fun h => absurd h (by simp)', 'P4': 'fun _ => by rw [hv2]; have := setCell_row hc9 3 (.slice vo2 (k + 1) vcap2); simpa using this'}}, 'fin': [('P4', 16)], 'sz': 'N0', 'apdx': 'ext_pushz E0 (ownz_base hown (by have := HBB.out; omega)) hgr1'}
                    refine wp_region_any (by kernel_rfl) ?_
                    change wpAny _ _ _ _ _ _ _ (World.drew _)
                    refine wpAny_inv (n := 17) [106, 107, 108, 109, 110, 111, 112, 113, 114, 115, 116, 117, 118, 119, 120, 121] (fun u L w' =>
                        (L 0 = true → u 106 = .pointer (some ⟨W2.heap.size, 3, none⟩)) ∧
                        (L 1 = true → u 107 = .slice vo k vcap) ∧
                        (L 2 = true → u 108 = .pointer (some ⟨gg, 0, none⟩)) ∧
                        (L 3 = true → u 109 = Str x1) ∧
                        (L 4 = true → u 110 = .int .i64 (p.length : Int)) ∧
                        (L 5 = true → u 111 = Str p) ∧
                        (L 6 = true → u 112 = .pointer (some ⟨gg, 0, none⟩)) ∧
                        (L 7 = true → u 113 = Str x1) ∧
                        (L 8 = true → u 114 = .int .i64 (p.length : Int)) ∧
                        (L 9 = true → u 115 = .int .i64 ((p.length : Int) + 1)) ∧
                        (L 10 = true → u 116 = Str q) ∧
                        (L 11 = true → u 117 = Str tq) ∧
                        (L 12 = true → u 118 = .agg #[Str p, Str tq]) ∧
                        (L 13 = true → L 14 = false → ∃ g', u 119 = .slice (some ⟨g', 0, none⟩) 1 1 ∧ w'.heap[g']? = some (.cells #[Str p, Str tq] 53 (0, 0))) ∧
                        (L 14 = true → w'.ownsRow (wc.heap.size) 53 2 (u 120) (k + 1) ((((T.take k).map tkF).flatMap prC) ++ [Str p, Str tq])) ∧
                        (L 15 = true → u 121 = .pointer (some ⟨W2.heap.size, 3, none⟩)) ∧
                        (Ext w w') ∧
                        (L 14 = false → w'.ownsRow wc.heap.size 53 2 (.slice vo k vcap) k (((T.take k).map tkF).flatMap prC)) ∧
                        (wc.heap.size ≤ w'.heap.size) ∧
                        (w'.heap[gg]? = some (.cells #[Str x1, .bool x2] 63 (0, 0))) ∧
                        (w'.heap[w.heap.size]? = some (.cells #[Str [], Str [], .int .i64 0, .slice none 0 0] 29 (0, 0))) ∧
                        (w'.heap[g]? = some lo) ∧
                        (L 16 = false → w'.heap[W2.heap.size]? = some (.cells #[Str a, Str b, .int .i64 m, .slice vo k vcap] 29 (0, 0))) ∧
                        (L 16 = true → w'.heap[W2.heap.size]? = some (.cells #[Str a, Str b, .int .i64 m, u 120] 29 (0, 0))))
                      (by rfl) (by kernel_rfl) (by kernel_rfl) (by rfl) ?_ ?_ ?_
                    · exact ⟨(fun h => by cases h), (fun h => by cases h), (fun h => by cases h), (fun h => by cases h), (fun h => by cases h), (fun h => by cases h), (fun h => by cases h), (fun h => by cases h), (fun h => by cases h), (fun h => by cases h), (fun h => by cases h), (fun h => by cases h), (fun h => by cases h), (fun h => by cases h), (fun h => by cases h), (fun h => by cases h), HX5.out, fun _ => HOW5.out, HSZ5.out, HN5.out, HRB5.out, HGL5.out, fun _ => HV5.out, fun h => by cases h⟩
                    · refine ⟨⟨⟨⟨⟨⟨⟨⟨⟨⟨⟨⟨⟨⟨⟨⟨⟨trivial, ?_⟩, ?_⟩, ?_⟩, ?_⟩, ?_⟩, ?_⟩, ?_⟩, ?_⟩, ?_⟩, ?_⟩, ?_⟩, ?_⟩, ?_⟩, ?_⟩, ?_⟩, ?_⟩, ?_⟩
                      · refine stepOk_some (i := 0) (by rfl) (by rfl) ?_
                        rintro u L T w' hT hu hL hp hcl ⟨C0, C1, C2, C3, C4, C5, C6, C7, C8, C9, C10, C11, C12, C13, C14, C15, E0, D, N0, H0, H1, H2, P3, P4⟩ K hK
                        have e1 : u 10 = .pointer (some ⟨W2.heap.size, 0, none⟩) := hu 10 (by decide)
                        go_simp
                        refine hK _ _ ?_
                        exact ⟨fun _ => rfl, fun h => C1 (by simpa using h), fun h => C2 (by simpa using h), fun h => C3 (by simpa using h), fun h => C4 (by simpa using h), fun h => C5 (by simpa using h), fun h => C6 (by simpa using h), fun h => C7 (by simpa using h), fun h => C8 (by simpa using h), fun h => C9 (by simpa using h), fun h => C10 (by simpa using h), fun h => C11 (by simpa using h), fun h => C12 (by simpa using h), fun h h2 => C13 (by simpa using h) (by simpa using h2), fun h => C14 (by simpa using h), fun h => C15 (by simpa using h), E0, fun h => D (by simpa using h), N0, H0, H1, H2, fun h => P3 (by simpa using h), fun h => P4 (by simpa using h)⟩
                      · refine stepOk_some (i := 1) (by rfl) (by rfl) ?_
                        rintro u L T w' hT hu hL hp hcl ⟨C0, C1, C2, C3, C4, C5, C6, C7, C8, C9, C10, C11, C12, C13, C14, C15, E0, D, N0, H0, H1, H2, P3, P4⟩ K hK
                        have e0 := C0 (hp.of 0 (by kernel_rfl))
                        obtain ⟨k0, k1, k2, k3⟩ := cells4 (P3 (hcl.not 16 (by kernel_rfl) (hcl.not 14 (by kernel_rfl) hL)))
                        go_simp
                        refine hK _ _ ?_
                        exact ⟨fun h => C0 (by simpa using h), fun _ => rfl, fun h => C2 (by simpa using h), fun h => C3 (by simpa using h), fun h => C4 (by simpa using h), fun h => C5 (by simpa using h), fun h => C6 (by simpa using h), fun h => C7 (by simpa using h), fun h => C8 (by simpa using h), fun h => C9 (by simpa using h), fun h => C10 (by simpa using h), fun h => C11 (by simpa using h), fun h => C12 (by simpa using h), fun h h2 => C13 (by simpa using h) (by simpa using h2), fun h => C14 (by simpa using h), fun h => C15 (by simpa using h), E0, fun h => D (by simpa using h), N0, H0, H1, H2, fun h => P3 (by simpa using h), fun h => P4 (by simpa using h)⟩
                      · refine stepOk_some (i := 2) (by rfl) (by rfl) ?_
                        rintro u L T w' hT hu hL hp hcl ⟨C0, C1, C2, C3, C4, C5, C6, C7, C8, C9, C10, C11, C12, C13, C14, C15, E0, D, N0, H0, H1, H2, P3, P4⟩ K hK
                        have e1 : u 13 = .pointer (some ⟨gg, 0, none⟩) := hu 13 (by decide)
                        go_simp
                        refine hK _ _ ?_
                        exact ⟨fun h => C0 (by simpa using h), fun h => C1 (by simpa using h), fun _ => rfl, fun h => C3 (by simpa using h), fun h => C4 (by simpa using h), fun h => C5 (by simpa using h), fun h => C6 (by simpa using h), fun h => C7 (by simpa using h), fun h => C8 (by simpa using h), fun h => C9 (by simpa using h), fun h => C10 (by simpa using h), fun h => C11 (by simpa using h), fun h => C12 (by simpa using h), fun h h2 => C13 (by simpa using h) (by simpa using h2), fun h => C14 (by simpa using h), fun h => C15 (by simpa using h), E0, fun h => D (by simpa using h), N0, H0, H1, H2, fun h => P3 (by simpa using h), fun h => P4 (by simpa using h)⟩
                      · refine stepOk_some (i := 3) (by rfl) (by rfl) ?_
                        rintro u L T w' hT hu hL hp hcl ⟨C0, C1, C2, C3, C4, C5, C6, C7, C8, C9, C10, C11, C12, C13, C14, C15, E0, D, N0, H0, H1, H2, P3, P4⟩ K hK
                        have e2 := C2 (hp.of 2 (by kernel_rfl))
                        obtain ⟨d0, d1⟩ := cells2 H0
                        go_simp
                        refine hK _ _ ?_
                        exact ⟨fun h => C0 (by simpa using h), fun h => C1 (by simpa using h), fun h => C2 (by simpa using h), fun _ => rfl, fun h => C4 (by simpa using h), fun h => C5 (by simpa using h), fun h => C6 (by simpa using h), fun h => C7 (by simpa using h), fun h => C8 (by simpa using h), fun h => C9 (by simpa using h), fun h => C10 (by simpa using h), fun h => C11 (by simpa using h), fun h => C12 (by simpa using h), fun h h2 => C13 (by simpa using h) (by simpa using h2), fun h => C14 (by simpa using h), fun h => C15 (by simpa using h), E0, fun h => D (by simpa using h), N0, H0, H1, H2, fun h => P3 (by simpa using h), fun h => P4 (by simpa using h)⟩
                      · refine stepOk_some (i := 4) (by rfl) (by rfl) ?_
                        rintro u L T w' hT hu hL hp hcl ⟨C0, C1, C2, C3, C4, C5, C6, C7, C8, C9, C10, C11, C12, C13, C14, C15, E0, D, N0, H0, H1, H2, P3, P4⟩ K hK
                        have e1 : u 14 = .int .i64 (p.length : Int) := hu 14 (by decide)
                        go_simp
                        refine hK _ _ ?_
                        exact ⟨fun h => C0 (by simpa using h), fun h => C1 (by simpa using h), fun h => C2 (by simpa using h), fun h => C3 (by simpa using h), fun _ => rfl, fun h => C5 (by simpa using h), fun h => C6 (by simpa using h), fun h => C7 (by simpa using h), fun h => C8 (by simpa using h), fun h => C9 (by simpa using h), fun h => C10 (by simpa using h), fun h => C11 (by simpa using h), fun h => C12 (by simpa using h), fun h h2 => C13 (by simpa using h) (by simpa using h2), fun h => C14 (by simpa using h), fun h => C15 (by simpa using h), E0, fun h => D (by simpa using h), N0, H0, H1, H2, fun h => P3 (by simpa using h), fun h => P4 (by simpa using h)⟩
                      · refine stepOk_some (i := 5) (by rfl) (by rfl) ?_
                        rintro u L T w' hT hu hL hp hcl ⟨C0, C1, C2, C3, C4, C5, C6, C7, C8, C9, C10, C11, C12, C13, C14, C15, E0, D, N0, H0, H1, H2, P3, P4⟩ K hK
                        have e3 := C3 (hp.of 3 (by kernel_rfl))
                        have e4 := C4 (hp.of 4 (by kernel_rfl))
                        go_simp
                        try go_bits
                        try (rw [if_neg (by omega)]; go_simp)
                        try (rw [if_pos (by omega)]; go_simp)
                        refine hK _ _ ?_
                        exact ⟨fun h => C0 (by simpa using h), fun h => C1 (by simpa using h), fun h => C2 (by simpa using h), fun h => C3 (by simpa using h), fun h => C4 (by simpa using h), fun _ => rfl, fun h => C6 (by simpa using h), fun h => C7 (by simpa using h), fun h => C8 (by simpa using h), fun h => C9 (by simpa using h), fun h => C10 (by simpa using h), fun h => C11 (by simpa using h), fun h => C12 (by simpa using h), fun h h2 => C13 (by simpa using h) (by simpa using h2), fun h => C14 (by simpa using h), fun h => C15 (by simpa using h), E0, fun h => D (by simpa using h), N0, H0, H1, H2, fun h => P3 (by simpa using h), fun h => P4 (by simpa using h)⟩
                      · refine stepOk_some (i := 6) (by rfl) (by rfl) ?_
                        rintro u L T w' hT hu hL hp hcl ⟨C0, C1, C2, C3, C4, C5, C6, C7, C8, C9, C10, C11, C12, C13, C14, C15, E0, D, N0, H0, H1, H2, P3, P4⟩ K hK
                        have e1 : u 13 = .pointer (some ⟨gg, 0, none⟩) := hu 13 (by decide)
                        go_simp
                        refine hK _ _ ?_
                        exact ⟨fun h => C0 (by simpa using h), fun h => C1 (by simpa using h), fun h => C2 (by simpa using h), fun h => C3 (by simpa using h), fun h => C4 (by simpa using h), fun h => C5 (by simpa using h), fun _ => rfl, fun h => C7 (by simpa using h), fun h => C8 (by simpa using h), fun h => C9 (by simpa using h), fun h => C10 (by simpa using h), fun h => C11 (by simpa using h), fun h => C12 (by simpa using h), fun h h2 => C13 (by simpa using h) (by simpa using h2), fun h => C14 (by simpa using h), fun h => C15 (by simpa using h), E0, fun h => D (by simpa using h), N0, H0, H1, H2, fun h => P3 (by simpa using h), fun h => P4 (by simpa using h)⟩
                      · refine stepOk_some (i := 7) (by rfl) (by rfl) ?_
                        rintro u L T w' hT hu hL hp hcl ⟨C0, C1, C2, C3, C4, C5, C6, C7, C8, C9, C10, C11, C12, C13, C14, C15, E0, D, N0, H0, H1, H2, P3, P4⟩ K hK
                        have e6 := C6 (hp.of 6 (by kernel_rfl))
                        obtain ⟨d0, d1⟩ := cells2 H0
                        go_simp
                        refine hK _ _ ?_
                        exact ⟨fun h => C0 (by simpa using h), fun h => C1 (by simpa using h), fun h => C2 (by simpa using h), fun h => C3 (by simpa using h), fun h => C4 (by simpa using h), fun h => C5 (by simpa using h), fun h => C6 (by simpa using h), fun _ => rfl, fun h => C8 (by simpa using h), fun h => C9 (by simpa using h), fun h => C10 (by simpa using h), fun h => C11 (by simpa using h), fun h => C12 (by simpa using h), fun h h2 => C13 (by simpa using h) (by simpa using h2), fun h => C14 (by simpa using h), fun h => C15 (by simpa using h), E0, fun h => D (by simpa using h), N0, H0, H1, H2, fun h => P3 (by simpa using h), fun h => P4 (by simpa using h)⟩
                      · refine stepOk_some (i := 8) (by rfl) (by rfl) ?_
                        rintro u L T w' hT hu hL hp hcl ⟨C0, C1, C2, C3, C4, C5, C6, C7, C8, C9, C10, C11, C12, C13, C14, C15, E0, D, N0, H0, H1, H2, P3, P4⟩ K hK
                        have e1 : u 14 = .int .i64 (p.length : Int) := hu 14 (by decide)
                        go_simp
                        refine hK _ _ ?_
                        exact ⟨fun h => C0 (by simpa using h), fun h => C1 (by simpa using h), fun h => C2 (by simpa using h), fun h => C3 (by simpa using h), fun h => C4 (by simpa using h), fun h => C5 (by simpa using h), fun h => C6 (by simpa using h), fun h => C7 (by simpa using h), fun _ => rfl, fun h => C9 (by simpa using h), fun h => C10 (by simpa using h), fun h => C11 (by simpa using h), fun h => C12 (by simpa using h), fun h h2 => C13 (by simpa using h) (by simpa using h2), fun h => C14 (by simpa using h), fun h => C15 (by simpa using h), E0, fun h => D (by simpa using h), N0, H0, H1, H2, fun h => P3 (by simpa using h), fun h => P4 (by simpa using h)⟩
                      · refine stepOk_some (i := 9) (by rfl) (by rfl) ?_
                        rintro u L T w' hT hu hL hp hcl ⟨C0, C1, C2, C3, C4, C5, C6, C7, C8, C9, C10, C11, C12, C13, C14, C15, E0, D, N0, H0, H1, H2, P3, P4⟩ K hK
                        have e8 := C8 (hp.of 8 (by kernel_rfl))
                        go_simp
                        try go_bits
                        try (rw [if_neg (by omega)]; go_simp)
                        try (rw [if_pos (by omega)]; go_simp)
                        refine hK _ _ ?_
                        exact ⟨fun h => C0 (by simpa using h), fun h => C1 (by simpa using h), fun h => C2 (by simpa using h), fun h => C3 (by simpa using h), fun h => C4 (by simpa using h), fun h => C5 (by simpa using h), fun h => C6 (by simpa using h), fun h => C7 (by simpa using h), fun h => C8 (by simpa using h), fun _ => rfl, fun h => C10 (by simpa using h), fun h => C11 (by simpa using h), fun h => C12 (by simpa using h), fun h h2 => C13 (by simpa using h) (by simpa using h2), fun h => C14 (by simpa using h), fun h => C15 (by simpa using h), E0, fun h => D (by simpa using h), N0, H0, H1, H2, fun h => P3 (by simpa using h), fun h => P4 (by simpa using h)⟩
                      · refine stepOk_some (i := 10) (by rfl) (by rfl) ?_
                        rintro u L T w' hT hu hL hp hcl ⟨C0, C1, C2, C3, C4, C5, C6, C7, C8, C9, C10, C11, C12, C13, C14, C15, E0, D, N0, H0, H1, H2, P3, P4⟩ K hK
                        have e7 := C7 (hp.of 7 (by kernel_rfl))
                        have e9 := C9 (hp.of 9 (by kernel_rfl))
                        go_simp
                        try go_bits
                        try (rw [if_neg (by omega)]; go_simp)
                        try (rw [if_pos (by omega)]; go_simp)
                        refine hK _ _ ?_
                        exact ⟨fun h => C0 (by simpa using h), fun h => C1 (by simpa using h), fun h => C2 (by simpa using h), fun h => C3 (by simpa using h), fun h => C4 (by simpa using h), fun h => C5 (by simpa using h), fun h => C6 (by simpa using h), fun h => C7 (by simpa using h), fun h => C8 (by simpa using h), fun h => C9 (by simpa using h), fun _ => rfl, fun h => C11 (by simpa using h), fun h => C12 (by simpa using h), fun h h2 => C13 (by simpa using h) (by simpa using h2), fun h => C14 (by simpa using h), fun h => C15 (by simpa using h), E0, fun h => D (by simpa using h), N0, H0, H1, H2, fun h => P3 (by simpa using h), fun h => P4 (by simpa using h)⟩
                      · refine stepOk_some (i := 11) (by rfl) (by rfl) ?_
                        rintro u L T w' hT hu hL hp hcl ⟨C0, C1, C2, C3, C4, C5, C6, C7, C8, C9, C10, C11, C12, C13, C14, C15, E0, D, N0, H0, H1, H2, P3, P4⟩ K hK
                        have e10 := C10 (hp.of 10 (by kernel_rfl))
                        go_simp
                        refine (HTM.out w').mono ?_
                        rintro e w1 ⟨he, hx1⟩
                        subst w1
                        subst he
                        refine hK _ _ ?_
                        exact ⟨fun h => C0 (by simpa using h), fun h => C1 (by simpa using h), fun h => C2 (by simpa using h), fun h => C3 (by simpa using h), fun h => C4 (by simpa using h), fun h => C5 (by simpa using h), fun h => C6 (by simpa using h), fun h => C7 (by simpa using h), fun h => C8 (by simpa using h), fun h => C9 (by simpa using h), fun h => C10 (by simpa using h), fun _ => rfl, fun h => C12 (by simpa using h), fun h h2 => C13 (by simpa using h) (by simpa using h2), fun h => C14 (by simpa using h), fun h => C15 (by simpa using h), E0, fun h => D (by simpa using h), N0, H0, H1, H2, fun h => P3 (by simpa using h), fun h => P4 (by simpa using h)⟩
                      · refine stepOk_some (i := 12) (by rfl) (by rfl) ?_
                        rintro u L T w' hT hu hL hp hcl ⟨C0, C1, C2, C3, C4, C5, C6, C7, C8, C9, C10, C11, C12, C13, C14, C15, E0, D, N0, H0, H1, H2, P3, P4⟩ K hK
                        have e5 := C5 (hp.of 5 (by kernel_rfl))
                        have e11 := C11 (hp.of 11 (by kernel_rfl))
                        go_simp
                        try go_bits
                        try (rw [if_neg (by omega)]; go_simp)
                        try (rw [if_pos (by omega)]; go_simp)
                        refine hK _ _ ?_
                        exact ⟨fun h => C0 (by simpa using h), fun h => C1 (by simpa using h), fun h => C2 (by simpa using h), fun h => C3 (by simpa using h), fun h => C4 (by simpa using h), fun h => C5 (by simpa using h), fun h => C6 (by simpa using h), fun h => C7 (by simpa using h), fun h => C8 (by simpa using h), fun h => C9 (by simpa using h), fun h => C10 (by simpa using h), fun h => C11 (by simpa using h), fun _ => rfl, fun h h2 => C13 (by simpa using h) (by simpa using h2), fun h => C14 (by simpa using h), fun h => C15 (by simpa using h), E0, fun h => D (by simpa using h), N0, H0, H1, H2, fun h => P3 (by simpa using h), fun h => P4 (by simpa using h)⟩
                      · refine stepOk_some (i := 13) (by rfl) (by rfl) ?_
                        rintro u L T w' hT hu hL hp hcl ⟨C0, C1, C2, C3, C4, C5, C6, C7, C8, C9, C10, C11, C12, C13, C14, C15, E0, D, N0, H0, H1, H2, P3, P4⟩ K hK
                        have e12 := C12 (hp.of 12 (by kernel_rfl))
                        go_simp
                        have hx1 : Ext w' (w'.alloc (.cells #[Str p, Str tq] 53)) := Below.alloc (Below.refl _ _) (Nat.le_refl _) _
                        refine hK _ _ ?_
                        exact ⟨fun h => C0 (by simpa using h), fun h => C1 (by simpa using h), fun h => C2 (by simpa using h), fun h => C3 (by simpa using h), fun h => C4 (by simpa using h), fun h => C5 (by simpa using h), fun h => C6 (by simpa using h), fun h => C7 (by simpa using h), fun h => C8 (by simpa using h), fun h => C9 (by simpa using h), fun h => C10 (by simpa using h), fun h => C11 (by simpa using h), fun h => C12 (by simpa using h), fun _ _ => ⟨_, rfl, Array.getElem?_push_size⟩, fun h => ownz_ext (C14 (by simpa using h)) hx1, fun h => C15 (by simpa using h), ext_trans (E0) hx1, fun h => ownz_ext (D (by simpa using h)) hx1, Nat.le_trans (N0) hx1.size, ext_at hx1 (H0), ext_at hx1 (H1), ext_at hx1 (H2), fun h => ext_at hx1 (P3 (by simpa using h)), fun h => ext_at hx1 (P4 (by simpa using h))⟩
                      · refine stepOk_some (i := 14) (by rfl) (by rfl) ?_
                        rintro u L T w' hT hu hL hp hcl ⟨C0, C1, C2, C3, C4, C5, C6, C7, C8, C9, C10, C11, C12, C13, C14, C15, E0, D, N0, H0, H1, H2, P3, P4⟩ K hK
                        have e0 := C1 (hp.of 1 (by kernel_rfl))
                        obtain ⟨g', e2, hg'⟩ := C13 (hp.of 13 (by kernel_rfl)) hL
                        have hown := D hL
                        refine step_pushC (wc.heap.size) rfl _ _ 27 53 (by rfl) Tryz.underlying27 infoPair rfl (by omega) (by omega) (us := [Str p, Str tq]) hown rfl (by simp [Str, Value.oneCell']) (by omega) N0 (by exact (hT _).trans e0) (by exact (hT _).trans e2) hg' ?_
                        rintro v' w1 hown1 hgr1
                        have hx1 := ext_pushz E0 (ownz_base hown (by have := HBB.out; omega)) hgr1
                        refine hK _ _ ?_
                        exact ⟨fun h => C0 (by simpa using h), fun h => C1 (by simpa using h), fun h => C2 (by simpa using h), fun h => C3 (by simpa using h), fun h => C4 (by simpa using h), fun h => C5 (by simpa using h), fun h => C6 (by simpa using h), fun h => C7 (by simpa using h), fun h => C8 (by simpa using h), fun h => C9 (by simpa using h), fun h => C10 (by simpa using h), fun h => C11 (by simpa using h), fun h => C12 (by simpa using h), fun h h2 => absurd h2 (by simp), fun _ => hown1, fun h => C15 (by simpa using h), hx1, fun h => absurd h (by simp), Nat.le_trans (N0) hgr1.size, (hgr1.block _ (Array.getElem?_eq_some_iff.1 H0).1 (fun h => HNE0.out _ h.symm rfl)).trans H0, (hgr1.block _ (Array.getElem?_eq_some_iff.1 H1).1 (fun h => HNE1.out _ h.symm rfl)).trans H1, (hgr1.block _ (Array.getElem?_eq_some_iff.1 H2).1 (fun h => HNE2.out _ h.symm rfl)).trans H2, fun h => (hgr1.block _ (Array.getElem?_eq_some_iff.1 (P3 (by simpa using h))).1 (fun h9 => HNE3.out _ h9.symm rfl)).trans (P3 (by simpa using h)), fun h => absurd h (by simp [hcl.not 16 (by kernel_rfl) hL])⟩
                      · refine stepOk_some (i := 15) (by rfl) (by rfl) ?_
                        rintro u L T w' hT hu hL hp hcl ⟨C0, C1, C2, C3, C4, C5, C6, C7, C8, C9, C10, C11, C12, C13, C14, C15, E0, D, N0, H0, H1, H2, P3, P4⟩ K hK
                        have e1 : u 10 = .pointer (some ⟨W2.heap.size, 0, none⟩) := hu 10 (by decide)
                        go_simp
                        refine hK _ _ ?_
                        exact ⟨fun h => C0 (by simpa using h), fun h => C1 (by simpa using h), fun h => C2 (by simpa using h), fun h => C3 (by simpa using h), fun h => C4 (by simpa using h), fun h => C5 (by simpa using h), fun h => C6 (by simpa using h), fun h => C7 (by simpa using h), fun h => C8 (by simpa using h), fun h => C9 (by simpa using h), fun h => C10 (by simpa using h), fun h => C11 (by simpa using h), fun h => C12 (by simpa using h), fun h h2 => C13 (by simpa using h) (by simpa using h2), fun h => C14 (by simpa using h), fun _ => rfl, E0, fun h => D (by simpa using h), N0, H0, H1, H2, fun h => P3 (by simpa using h), fun h => P4 (by simpa using h)⟩
                      · refine stepOk_none (i := 16) (by rfl) (by rfl) ?_
                        rintro u L T w' hT hu hL hp hcl ⟨C0, C1, C2, C3, C4, C5, C6, C7, C8, C9, C10, C11, C12, C13, C14, C15, E0, D, N0, H0, H1, H2, P3, P4⟩ K hK
                        have e14 := C14 (hp.of 14 (by kernel_rfl))
                        have e15 := C15 (hp.of 15 (by kernel_rfl))
                        have hc9 := P3 hL; have hf9 := frozen_row hc9; have hb9 := (Array.getElem?_eq_some_iff.1 hc9).1; obtain ⟨k0, k1, k2, k3⟩ := cells4 hc9; obtain ⟨vo2, vcap2, hv2, _⟩ := ownz_shape e14
                        go_simp
                        refine hK _ ?_
                        exact ⟨fun h => C0 (by simpa using h), fun h => C1 (by simpa using h), fun h => C2 (by simpa using h), fun h => C3 (by simpa using h), fun h => C4 (by simpa using h), fun h => C5 (by simpa using h), fun h => C6 (by simpa using h), fun h => C7 (by simpa using h), fun h => C8 (by simpa using h), fun h => C9 (by simpa using h), fun h => C10 (by simpa using h), fun h => C11 (by simpa using h), fun h => C12 (by simpa using h), fun h h2 => absurd (hp.of 14 (by kernel_rfl)) (by simp at h2; simp [h2]), fun h => own_set e14 (by have := HBB.out; omega), fun h => C15 (by simpa using h), ext_set E0 (by have := HBB.out; omega), fun h => absurd (hp.of 14 (by kernel_rfl)) (by simp at h; simp [h]), by show _ ≤ (World.setCell _ _ _).heap.size; simpa [World.setCell] using N0, (Below.heap_setCell _ _ _ _ (by have := HBB.out; show _ ≠ W2.heap.size; omega)).trans H0, (Below.heap_setCell _ _ _ _ (by have := HBB.out; show _ ≠ W2.heap.size; omega)).trans H1, (Below.heap_setCell _ _ _ _ (by have := HBB.out; show _ ≠ W2.heap.size; omega)).trans H2, fun h => absurd h (by simp), fun _ => by rw [hv2]; have := setCell_row hc9 3 (.slice vo2 (k + 1) vcap2); simpa using this⟩
                    · rintro u L w' hall hu ⟨C0, C1, C2, C3, C4, C5, C6, C7, C8, C9, C10, C11, C12, C13, C14, C15, E0, D, N0, H0, H1, H2, P3, P4⟩
                      replace P4 := P4 (hall 16 (by omega))
                      replace C0 := C0 (hall 0 (by omega))
                      replace C1 := C1 (hall 1 (by omega))
                      replace C2 := C2 (hall 2 (by omega))
                      replace C3 := C3 (hall 3 (by omega))
                      replace C4 := C4 (hall 4 (by omega))
                      replace C5 := C5 (hall 5 (by omega))
                      replace C6 := C6 (hall 6 (by omega))
                      replace C7 := C7 (hall 7 (by omega))
                      replace C8 := C8 (hall 8 (by omega))
                      replace C9 := C9 (hall 9 (by omega))
                      replace C10 := C10 (hall 10 (by omega))
                      replace C11 := C11 (hall 11 (by omega))
                      replace C12 := C12 (hall 12 (by omega))
                      replace C14 := C14 (hall 14 (by omega))
                      replace C15 := C15 (hall 15 (by omega))
                      simp only [fill, List.setIfInBounds_toArray, List.set_cons_succ, List.set_cons_zero, C0, C1, C2, C3, C4, C5, C6, C7, C8, C9, C10, C11, C12, C15]
                      generalize u 119 = s0 at *
                      generalize u 120 = s1 at *
                      clear C0 C1 C2 C3 C4 C5 C6 C7 C8 C9 C10 C11 C12 C13 C15 hu hall
                    -- end inv
                      have HCE := Lib.hid C14; have HPE := Lib.hid P4; have HEE := Lib.hid E0; have HNN := Lib.hid N0; have H1E := Lib.hid H1; have H2E := Lib.hid H2
                      clear C14 P4 E0 N0 H1 H2 H0 P3 D
                      go_wp2
                      go_roundg (T.length - (k + 1))
                      case measure => omega
                      case rel => exact ⟨k + 1, by omega, by go_num, rfl, by rw [HTK.out, List.all_append, HALL.out]; simp [HTA.out], ⟨_, HPE.out, by rw [HTK.out, List.map_append, List.flatMap_append, List.map_singleton, HF.out]; simpa using HCE.out⟩, H1E.out, H2E.out, HEE.out, HNN.out⟩
              · rw [at_none x1 58 hno] at HAT
                have HRJ := Lib.hid (HREJ.out (tkA_none (x1, x2) hno))
                clear HREJ hc hno
                have hfr := frozen_row HRB4.out
                obtain ⟨c0, c1, c2, c3⟩ := cells4 HRB4.out
                have hbr := (Array.getElem?_eq_some_iff.1 HRB4.out).1
                go_wp2_with (first | (go_at_call 22; refine (HAT.out _).mono ?_; rintro e w' ⟨rfl, hw⟩; subst w') | (go_at_call 23; refine (hTK.out _).mono ?_; rintro e w' ⟨rfl, hw⟩; subst w') | (go_at_call 24; refine (hTX.out _).mono ?_; rintro e w' ⟨rfl, hw⟩; subst w'))
                obtain ⟨W9, hW9, hst, hch⟩ := set4 HRB4.out (.string ⟨#[]⟩) (.string ⟨#[]⟩) (.int .i64 0) (.slice none 0 0)
                rw [hW9]
                obtain ⟨e0', e1', e2', e3'⟩ := cells4 hst
                refine bodyPost_ret (v := .tuple #[.agg #[Str [], Str [], .int .i64 0, .slice none 0 0], .int .i64 0, .int .i64 4]) (by simp [results, Tryz.results10, go_sem, e0', e1', e2', e3']) rfl ⟨headV_four HRJ.out, below_chg HX4.out hch (fun k hk => by have hk' : k = w.heap.size := hk; omega) (Nat.le_refl _)⟩
            · have hkl : k = T.length := by omega
              subst hkl
              have htk : T.take T.length = T := List.take_length
              rw [htk] at HALL HOW
              have HCC := Lib.hid (show headC asks L = (if 24 < T.length then 3 else 0) by rw [HC.out, HALL.out]; rfl)
              clear htk h3
              have hfr := frozen_row HRB.out
              obtain ⟨c0, c1, c2, c3⟩ := cells4 HRB.out
              have hbr := (Array.getElem?_eq_some_iff.1 HRB.out).1
              obtain ⟨h0, h1, h2, h3⟩ := cells4 HV.out
              by_cases h24 : 24 < T.length
              · have t24 : decide ((24 : Int) < (T.length : Int)) = true := by simp; omega
                have HO2 := Lib.hid (show headO asks l = .inl 3 by rw [HO.out, HCC.out, if_pos h24]; rfl)
                clear h24
                go_wp2
                obtain ⟨W9, hW9, hst, hch⟩ := set4 HRB.out (.string ⟨#[]⟩) (.string ⟨#[]⟩) (.int .i64 0) (.slice none 0 0)
                rw [hW9]
                obtain ⟨e0', e1', e2', e3'⟩ := cells4 hst
                refine bodyPost_ret (v := .tuple #[.agg #[Str [], Str [], .int .i64 0, .slice none 0 0], .int .i64 0, .int .i64 3]) (by simp [results, Tryz.results10, go_sem, e0', e1', e2', e3']) rfl ⟨by rw [HO2.out]; rfl, below_chg HXW.out hch (fun k hk => by have hk' : k = w.heap.size := hk; omega) (Nat.le_refl _)⟩
              · have t24 : decide ((24 : Int) < (T.length : Int)) = false := by simp; omega
                have HO2 := Lib.hid (show headO asks l = .inr (⟨a, b, m, T.map tkF⟩, (n : Int) + 4) by rw [HO.out, HCC.out, if_neg h24, ← HHE.out]; rfl)
                clear h24
                go_wp2
                obtain ⟨W9, hW9, hst, hch⟩ := set4 HRB.out (Str a) (Str b) (.int .i64 m) (.slice vo T.length vcap)
                rw [hW9]
                obtain ⟨e0', e1', e2', e3'⟩ := cells4 hst
                refine bodyPost_ret (v := .tuple #[.agg #[Str a, Str b, .int .i64 m, .slice vo T.length vcap], .int .i64 ((n : Int) + 4), .int .i64 0]) (by simp [results, Tryz.results10, go_sem, e0', e1', e2', e3']) rfl ⟨by rw [HO2.out]; exact ⟨_, (show World.ownsRow _ _ _ _ _ (T.map tkF).length ((T.map tkF).flatMap prC) from by rw [List.length_map]; exact own_after HOW.out (by have := HHB.out; omega) hch (Below.refl _ _)), rfl⟩, below_chg HXW.out hch (fun k hk => by have hk' : k = w.heap.size := hk; omega) (Nat.le_refl _)⟩
end Go.Proofs.YtmflnffjhfejhaaGreatDoor
