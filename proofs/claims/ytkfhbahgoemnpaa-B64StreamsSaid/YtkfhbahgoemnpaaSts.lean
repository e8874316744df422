/-
  The walk of B64Streams.
-/
import Derived.Test.YtkfhbahgoemnpaaRows
import Derived.Test.YtkfhbahgoemnpaaAwk
import Derived.Test.YtkfhbahgoemnpaaStm
import Derived.Test.YtkfhbahgoemnpaaDec
import Derived.Test.YtkfhbahgoemnpaaRfe
import Derived.Test.YtkfhbahgoemnpaaPe
namespace Go.Proofs.Ytkfhbahgoemnpaa
open Go.RowKit
set_option linter.unusedVariables false
set_option linter.unusedSimpArgs false

theorem own_grown {B e : Nat} {A C : World} {row : Option Nat} {v : Value} {n : Nat} {xs : List Value} (h : A.ownsRow B e 1 v n xs) (hg : A.grownBy C row) (hs : ∀ k, v.ownBlock = some k → row ≠ some k) : C.ownsRow B e 1 v n xs :=
  own_keep h fun g hv _ hk => hg.block g (kind_lt hk) (fun e => hs g hv e.symm)

/-! ### The plain law -/
theorem whole_app (a x : List UInt8) : whole (a ++ x) = whole a + whole (a.drop (whole a) ++ x) := by
  unfold whole; simp only [List.length_append, List.length_drop]; omega
theorem whole_le (a : List UInt8) : whole a ≤ a.length := by unfold whole; omega
theorem told_app (a x : List UInt8) : allL plain true ((a ++ x).take (whole (a ++ x))) = allL plain true (a.take (whole a)) ++ allL plain true ((a.drop (whole a) ++ x).take (whole (a.drop (whole a) ++ x))) := by
  rw [← allL_append plain true _ (a.length / 3) (a.take (whole a)) (by rw [List.length_take, Nat.min_eq_left (whole_le a)]; unfold whole; omega)]
  congr 1
  rw [whole_app]
  generalize hq : whole (a.drop (whole a) ++ x) = q
  have h1 : a ++ x = a.take (whole a) ++ (a.drop (whole a) ++ x) := by rw [← List.append_assoc, List.take_append_drop]
  have hl : (a.take (whole a)).length = whole a := by rw [List.length_take, Nat.min_eq_left (whole_le a)]
  conv => lhs; rw [h1]
  rw [List.take_append, hl, List.take_of_length_le (by rw [hl]; omega), show whole a + q - whole a = q by omega]
theorem rest_app (a x : List UInt8) : (a ++ x).drop (whole (a ++ x)) = (a.drop (whole a) ++ x).drop (whole (a.drop (whole a) ++ x)) := by
  rw [whole_app]
  generalize hq : whole (a.drop (whole a) ++ x) = q
  have h1 : a ++ x = a.take (whole a) ++ (a.drop (whole a) ++ x) := by rw [← List.append_assoc, List.take_append_drop]
  have hl : (a.take (whole a)).length = whole a := by rw [List.length_take, Nat.min_eq_left (whole_le a)]
  conv => lhs; rw [h1]
  rw [List.drop_append, hl, List.drop_of_length_le (by rw [hl]; omega), show whole a + q - whole a = q by omega, List.nil_append]
theorem told_end (a : List UInt8) : allL plain true (a.take (whole a)) ++ allL plain true (a.drop (whole a)) = allL plain true a := by
  rw [← allL_append plain true _ (a.length / 3) (a.take (whole a)) (by rw [List.length_take, Nat.min_eq_left (whole_le a)]; unfold whole; omega), List.take_append_drop]

/-- What the rounds keep: the stream's box at b, the bytes so far. -/
structure ST (b : Nat) (w : World) (va : Value) (al : List UInt8) (W : World) : Prop where
  bel : Below w.heap.size w W
  box : ∃ v, W.heap[b]? = some (.cells #[v] 31 (0, 0)) ∧ W.ownsRow (b + 1) 5 1 v (al.drop (whole al)).length ((al.drop (whole al)).map Byt) ∧ ∀ k, va.ownBlock = some k → v.ownBlock ≠ some k
  own : W.ownsRow (b + 1) 5 1 va al.length (al.map Byt)
  size : b + 1 ≤ W.heap.size

def IsRows (w : World) (a : Option Addr) (len : Nat) : Prop :=
  ∀ i, i < len → ∃ V l, w.cell? (adr a i) = some V ∧ SlB w V l

set_option maxHeartbeats 2000000 in
theorem streams_any (a : Option Addr) (n cap : Nat) (w : World) (hrows : IsRows w a n) (hnil : a = none → cap = 0) (hcap : n ≤ cap) (hmax : cap ≤ maxLen) :
    Calls Try.prog 4 #[.slice a n cap] w fun e w' => e = .returned (.bool true) ∧ Ext w w' := by
  have HR := Lib.hid hrows; clear hrows
  have hix := run_index_adr (P := Try.prog) Try.underlying28 Try.sizeOf22 hnil hcap
  have hn9 : n ≤ 9223372036854775807 := by unfold maxLen at hmax; omega
  clear hnil hcap hmax
  have kc := fun (w : World) (C : Array Value) (n c : Nat) => Lib.run_convert_bytes_const (P := Try.prog) w 22 5 C n c Try.underlying22 Try.underlying5
  go_enter Try.func4, Try.ntmps4
  go_wp2_with fail
  refine (awake_any w).mono ?_
  rintro e W1 ⟨rfl, hx1⟩
  obtain ⟨b, hb⟩ : ∃ b, b = W1.heap.size := ⟨_, rfl⟩
  obtain ⟨W2, hW2⟩ : ∃ W2, W1.alloc (.cells #[.slice none 0 0] 31) = W2 := ⟨_, rfl⟩
  have hb2 : W2.heap[b]? = some (.cells #[.slice none 0 0] 31 (0, 0)) := by rw [← hW2, hb]; exact heap_alloc_new _ _
  have hx2 : Ext w W2 := by rw [← hW2]; exact hx1.alloc hx1.size _
  have hs2 : b + 1 ≤ W2.heap.size := by rw [← hW2, hb]; simp
  have hwb : w.heap.size ≤ b := by rw [hb]; exact hx1.size
  go_wp2_with fail
  rw [← hb]
  clear hW2 hb
  go_loopw [13] (fun j wr => ∃ k : Nat, k ≤ 2 ∧ j = .int .i64 k ∧ wr.heap[b]? = some (.cells #[.slice none 0 0] 31 (0, 0)) ∧ Below w.heap.size w wr ∧ b + 1 ≤ wr.heap.size) (fun j _ => 2 - (intOf j).toNat)
  case atStart => exact ⟨0, by omega, rfl, hb2, hx2, hs2⟩
  case round =>
    obtain ⟨k, hk, rfl, hbx, hbel, hsz⟩ := hrel
    by_cases h2 : k < 2
    · generalize wr = U at *
      have hk2 : decide ((k : Int) < 2) = true := by simp; omega
      go_wp2
      go_loopw [4, 5, 17] (fun va told i W => ∃ (m : Nat) (al : List UInt8), m ≤ n ∧ m ≤ 8 ∧ i = .int .i64 m ∧ told = Str (allL plain true (al.take (whole al))) ∧ al.length ≤ 40 * m ∧ ST b w va al W) (fun _ _ i _ => n - (intOf i).toNat)
      case atStart => exact ⟨0, [], by omega, by omega, rfl, rfl, by simp, ⟨hbel, ⟨_, hbx, World.ownsRow_nil _ _ _ _, by simp [Value.ownBlock]⟩, World.ownsRow_nil _ _ _ _, hsz⟩⟩
      case round =>
        obtain ⟨m, al, hmn, hm8, rfl, rfl, hal, hst⟩ := hrel
        generalize wr = W at *
        by_cases h3 : m < n
        · obtain ⟨V, l, hcV, hsV⟩ := HR.out m h3
          have hcm := ext_cell hst.bel hcV
          by_cases h8 : m < 8
          · have hsW := hsV.ext hst.bel
            clear hcV hsV
            go_wp2_with fail
            refine (cut_any V l 40 W hsW (by omega)).mono ?_
            rintro e U1 ⟨c, he, hoc, hxc⟩
            subst he
            have hlx : (l.take 40).length ≤ 40 := by simp; omega
            generalize l.take 40 = x at *
            obtain ⟨v, hbv, hov, hd⟩ := hst.box
            have hva := hst.own
            have hbel := hst.bel
            have hszW := hst.size
            have la := fun k hk => hva.lt k hk
            have lc := fun k hk => hoc.lt k hk
            have lv := fun k hk => hov.lt k hk
            have LA := Lib.hid la; have LC := Lib.hid lc; have LV := Lib.hid lv; have HD := Lib.hid hd
            have HVA := Lib.hid (own_ext hva hxc); have HC := Lib.hid hoc; have HOV := Lib.hid (own_ext hov hxc)
            have HBV := Lib.hid ((hxc.block b (by omega)).trans hbv)
            have HBEL := Lib.hid (hbel.trans (hxc.mono hbel.size))
            have hsz1 := hxc.size
            clear la lc lv hd hva hoc hov hbv hbel hst hcm hsW
            have hlr : (al.drop (whole al)).length ≤ 320 := by simp; omega
            obtain ⟨y, hy⟩ : ∃ y, y = al ++ x := ⟨_, rfl⟩
            have hyl : y.length ≤ 360 := by rw [hy, List.length_append]; omega
            have hyl2 : y.length ≤ 40 * (m + 1) := by rw [hy, List.length_append]; omega
            have HY := Lib.hid hy; clear hy
            go_wp2_with (at_builtin; refine wpList_more_at (b + 1) rfl _ _ 22 5 rfl Try.underlying22 infoByte rfl (by omega) HVA.out (sl_of_own HC.out) (byt_one _) (by simp; omega) (by omega) rfl rfl ?_; rintro va2 U2 hown2 hgr2 hat; rw [← List.map_append, List.length_map, ← List.length_append, ← HY.out] at hown2; obtain ⟨ao, cp, hv2, hcp, hnl2⟩ := own_form'' hown2; have HAT := Lib.hid hat; have HGR := Lib.hid hgr2; have HO2 := Lib.hid hown2; clear hat hgr2 hown2; subst hv2)
            -- Write
            have hbv2 := (HGR.out.block b (by omega) (fun e => by have := (LA.out b e.symm).1; omega)).trans HBV.out
            have hov2 := own_grown HOV.out HGR.out (fun k hk e => HD.out k e hk)
            have hoc2 := own_grown HC.out HGR.out (fun k hk e => by have := LC.out k hk; have := LA.out k e; omega)
            have hgs := HGR.out.size
            refine (sWrite_any b (b + 1) v c (al.drop (whole al)) x U2 hbv2 (by omega) (by omega) hov2 (sl_of_own hoc2) (by omega) (by omega)).mono ?_
            rintro e U3 ⟨he, v3, hb3, ho3, hf3, hch3⟩
            subst he
            have hyb : ∀ k, (Value.slice ao y.length cp).ownBlock = some k → b + 1 ≤ k ∧ k < U2.heap.size ∧ v.ownBlock ≠ some k ∧ c.ownBlock ≠ some k := fun k hk => by
              have h1 := HO2.out.lt k hk
              refine ⟨h1.1, h1.2, ?_⟩
              rcases HAT.out with h2 | h2
              · rw [h2] at hk
                exact ⟨HD.out k hk, fun e => by have := LC.out k e; have := LA.out k hk; omega⟩
              · rw [h2] at hk
                cases hk
                exact ⟨fun e => by have := LV.out _ e; omega, fun e => by have := LC.out _ e; omega⟩
            have hoc3 := own_ch hoc2 hch3 (fun k hk e => by
              have h1 := LC.out k hk
              rcases e with e | e
              · omega
              · have := LV.out k e; omega)
            have hoy3 := own_ch HO2.out hch3 (fun k hk e => by
              have h1 := hyb k hk
              rcases e with e | e
              · omega
              · exact h1.2.2.1 e)
            have hbel3 := Ch.below (HBEL.out.grown HGR.out HBEL.out.size (fun k hk => by have := LA.out k hk; omega)) hch3 (fun k hk => by
              rcases hk with hk | hk
              · omega
              · have := LV.out k hk; omega) (Nat.le_refl _)
            have hs3 := hch3.size
            -- Flip
            have hF := flip_any c x W.heap.size U3 hoc3 (by omega)
            have T3 := Lib.hid (show _ ∧ _ ∧ _ ∧ _ ∧ _ from ⟨hb3, ho3, hf3, hoy3, hbel3⟩)
            have HYB := Lib.hid hyb
            have htold := told_app al x
            have hrest := rest_app al x
            rw [← HY.out] at htold hrest
            have l1 : (allL plain true (al.take (whole al))).length ≤ 3000 := by
              have := allN_len plain true (al.take (whole al)) (((al.take (whole al)).length + 2) / 3); have h2 : (al.take (whole al)).length ≤ 320 := by simp; omega
              unfold allL; omega
            have l2 : (allL plain true ((al.drop (whole al) ++ x).take (whole (al.drop (whole al) ++ x)))).length ≤ 3000 := by
              have := allN_len plain true ((al.drop (whole al) ++ x).take (whole (al.drop (whole al) ++ x))) ((((al.drop (whole al) ++ x).take (whole (al.drop (whole al) ++ x))).length + 2) / 3)
              have h2 : ((al.drop (whole al) ++ x).take (whole (al.drop (whole al) ++ x))).length ≤ 360 := by simp; omega
              unfold allL; omega
            have HTOLD := Lib.hid htold; have HREST := Lib.hid hrest
            rw [← HREST.out] at T3
            clear htold hrest hyb hoc3 hoy3 hbel3 hb3 ho3 hf3 hch3 hbv2 hov2 hoc2 HBV HOV HVA HO2 HGR HBEL HD
            generalize allL plain true (al.take (whole al)) = X at *
            generalize allL plain true ((al.drop (whole al) ++ x).take (whole (al.drop (whole al) ++ x))) = Y at *
            go_wp2_with fail
            refine hF.mono ?_
            rintro e U4 ⟨he, hch4⟩
            subst he
            obtain ⟨hb3, ho3, hf3, hoy3, hbel3⟩ := T3.out
            have hb4 := (hch4.block b (by omega) (fun e => by have := LC.out b e; omega)).trans hb3
            have hoy4 := own_ch hoy3 hch4.ch (fun k hk => (HYB.out k hk).2.2.2)
            have ho4 := own_ch ho3 hch4.ch (fun k hk e => by have := hf3 k hk; have := LC.out k e; omega)
            have hbel4 := Ch.below hbel3 hch4.ch (fun k hk => by have := LC.out k hk; omega) (Nat.le_refl _)
            have hs4 := hch4.size
            have hwy : whole y ≤ y.length := whole_le y
            have sy := sl_head (sl_of_own hoy4) (k := whole y) (by simpa using hwy) (by rw [← List.map_take])
            have hE := refEncode_any false (.slice ao (whole y) cp) (y.take (whole y)) U4 sy (by simp; omega)
            rw [show refEnc (alph false) (!false) (y.take (whole y)) = allL plain true (y.take (whole y)) from refEnc_all plain true _ _ (Nat.le_refl _), HTOLD.out] at hE
            have T4 := Lib.hid (show _ ∧ _ ∧ _ ∧ _ from ⟨hb4, ho4, hoy4, hbel4⟩)
            have HE := Lib.hid hE
            have HF3 := Lib.hid hf3
            have hw3 : whole y = y.length / 3 * 3 := rfl
            rw [hw3] at HE
            clear hb3 ho3 hf3 hoy3 hbel3 T3 hb4 hoy4 ho4 hbel4 sy hE hF hch4 hw3 hwy
            go_wp2_with fail
            refine HE.out.mono ?_
            rintro e U5 ⟨he, hx⟩
            subst he
            obtain ⟨hb4, ho4, hoy4, hbel4⟩ := T4.out
            have hs5 := hx.size
            have ST5 := Lib.hid (show ST b w (.slice ao y.length cp) y U5 from ⟨hbel4.trans (hx.mono hbel4.size), ⟨v3, (hx.block b (by omega)).trans hb4, own_ext ho4 hx, fun k hk e => by have := HF3.out k e; have := HYB.out k hk; omega⟩, own_ext hoy4 hx, by omega⟩)
            clear hb4 ho4 hoy4 hbel4 T4 HE hx
            go_wp2_with fail
            go_roundw
            case rel => exact ⟨m + 1, y, by omega, by omega, by go_num, by rw [HTOLD.out], hyl2, ST5.out⟩
            case measure => simp [intOf] <;> omega
          · go_wp2_with fail
            obtain ⟨v, hbv, hov, hd⟩ := hst.box
            have hva := hst.own
            have hbel := hst.bel
            have hszW := hst.size
            have lal := hst.own
            refine (sClose_any b (b + 1) v (al.drop (whole al)) W hbv hov (by simp; omega)).mono ?_
            rintro e W3 ⟨he, hb3, hch⟩
            subst he
            have own3 := own_ch hva hch (fun k hk e => by have := (hva.lt k hk).1; omega)
            have bel3 := Ch.below hbel hch (fun k hk => by omega) (Nat.le_refl _)
            have sz3 := Nat.le_trans hszW hch.size
            have hte := told_end al
            have l1 : (allL plain true (al.take (whole al))).length ≤ 2000 := by have := allN_len plain true (al.take (whole al)) (((al.take (whole al)).length + 2) / 3); have h2 : (al.take (whole al)).length ≤ 320 := by simp; omega
                                                                                 unfold allL; omega
            have l2 : (allL plain true (al.drop (whole al))).length ≤ 2000 := by have := allN_len plain true (al.drop (whole al)) (((al.drop (whole al)).length + 2) / 3); have h2 : (al.drop (whole al)).length ≤ 320 := by simp; omega
                                                                                 unfold allL; omega
            have hE := refEncode_any false u4 al W3 (sl_of_own own3) (by omega)
            rw [show refEnc (alph false) (!false) al = allL plain true al from refEnc_all plain true _ al (Nat.le_refl _), ← hte] at hE
            have HE := Lib.hid hE
            clear hE hte hst hva hov hbv
            generalize allL plain true (al.take (whole al)) = X at *
            generalize allL plain true (al.drop (whole al)) = Y at *
            have Hb3 := Lib.hid hb3; clear hb3
            go_wp2_with fail
            refine HE.out.mono ?_
            rintro e W4 ⟨he, hx⟩
            subst he
            have Hb4 := Lib.hid ((hx.block b (by omega)).trans Hb3.out)
            have HB4 := Lib.hid (bel3.trans (hx.mono bel3.size))
            have sz4 := Nat.le_trans sz3 hx.size
            clear HE hx
            go_wp2_with fail
            go_roundw
            case rel => exact ⟨k + 1, by omega, by go_num, Hb4.out, HB4.out, sz4⟩
            case measure => simp [intOf] <;> omega
        · have hmn2 : m = n := by omega
          go_wp2_with fail
          obtain ⟨v, hbv, hov, hd⟩ := hst.box
          have hva := hst.own
          have hbel := hst.bel
          have hszW := hst.size
          have lal := hst.own
          refine (sClose_any b (b + 1) v (al.drop (whole al)) W hbv hov (by simp; omega)).mono ?_
          rintro e W3 ⟨he, hb3, hch⟩
          subst he
          have own3 := own_ch hva hch (fun k hk e => by have := (hva.lt k hk).1; omega)
          have bel3 := Ch.below hbel hch (fun k hk => by omega) (Nat.le_refl _)
          have sz3 := Nat.le_trans hszW hch.size
          have hte := told_end al
          have l1 : (allL plain true (al.take (whole al))).length ≤ 2000 := by have := allN_len plain true (al.take (whole al)) (((al.take (whole al)).length + 2) / 3); have h2 : (al.take (whole al)).length ≤ 320 := by simp; omega
                                                                               unfold allL; omega
          have l2 : (allL plain true (al.drop (whole al))).length ≤ 2000 := by have := allN_len plain true (al.drop (whole al)) (((al.drop (whole al)).length + 2) / 3); have h2 : (al.drop (whole al)).length ≤ 320 := by simp; omega
                                                                               unfold allL; omega
          have hE := refEncode_any false u4 al W3 (sl_of_own own3) (by omega)
          rw [show refEnc (alph false) (!false) al = allL plain true al from refEnc_all plain true _ al (Nat.le_refl _), ← hte] at hE
          have HE := Lib.hid hE
          clear hE hte hst hva hov hbv
          generalize allL plain true (al.take (whole al)) = X at *
          generalize allL plain true (al.drop (whole al)) = Y at *
          have Hb3 := Lib.hid hb3; clear hb3
          go_wp2_with fail
          refine HE.out.mono ?_
          rintro e W4 ⟨he, hx⟩
          subst he
          have Hb4 := Lib.hid ((hx.block b (by omega)).trans Hb3.out)
          have HB4 := Lib.hid (bel3.trans (hx.mono bel3.size))
          have sz4 := Nat.le_trans sz3 hx.size
          clear HE hx
          go_wp2_with fail
          go_roundw
          case rel => exact ⟨k + 1, by omega, by go_num, Hb4.out, HB4.out, sz4⟩
          case measure => simp [intOf] <;> omega
    · have hba : (wr.alloc (.cells #[Value.int .u8 97, Value.int .u8 98, Value.int .u8 99] 5 (3, 4))).heap[b]? = some (.cells #[.slice none 0 0] 31 (0, 0)) := by rw [Below.heap_alloc _ _ _ (by omega)]; exact hbx
      have hbe := hbel.alloc hbel.size (.cells #[Value.int .u8 97, Value.int .u8 98, Value.int .u8 99] 5 (3, 4))
      have T := Lib.hid (show _ ∧ _ from ⟨hba, hbe⟩)
      clear hba hbe hbx hbel
      go_wp2_with fail
      refine (sWrite_nil _ _).mono ?_
      rintro e U1 ⟨he, hw⟩
      subst he; subst hw
      go_wp2_with fail
      refine (sClose_nil _).mono ?_
      rintro e U1 ⟨he, hw⟩
      subst he; subst hw
      go_wp2_with fail
      refine (sClose_any b (b + 1) (.slice none 0 0) [] _ T.out.1 (World.ownsRow_nil _ _ _ _) (by simp)).mono ?_
      rintro e U1 ⟨he, hb1, hch⟩
      rw [show allL plain true [] = [] from rfl] at he
      subst he
      have hbe := Lib.hid (Ch.below T.out.2 hch (fun k hk => by omega) (Nat.le_refl _))
      clear hb1 hch T
      go_wp2_with fail
      go_ret
      exact ⟨rfl, hbe.out⟩
end Go.Proofs.Ytkfhbahgoemnpaa
