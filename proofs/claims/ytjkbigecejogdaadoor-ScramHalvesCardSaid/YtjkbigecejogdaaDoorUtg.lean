/-
  name.decode at every text (printed by wip/tools/scram_decode.py).
-/
import Derived.Deep.Quiet
import Derived.Scope
import Derived.Laws.BitsLemmas
import Derived.Test.YtjkbigecejogdaaDoorRows
import Derived.Test.YtjkbigecejogdaaDoorSca
namespace Go.Proofs.YtjkbigecejogdaaDoor
open Go.RowKit
set_option maxRecDepth 100000
set_option linter.unusedVariables false
set_option linter.unusedSimpArgs false
/-- A byte that stands behind the first. -/
def tlB (b : UInt8) : Bool := decide (128 ≤ b.toNat) && decide (b.toNat < 192)
def accT (r : Nat) (l : List UInt8) : Nat := l.foldl (fun r b => r * 64 + (b.toNat - 128)) r
def sgB (r : Nat) : Bool := decide (r ≤ 1114111) && (decide (r < 55296) || decide (57343 < r))
/-- A sign of n bytes. -/
def formT (l : List UInt8) (n lead least : Nat) : Int × Nat :=
  if ((l.drop 1).take (n - 1)).all tlB && (decide (least ≤ accT ((bt l 0).toNat - lead) ((l.drop 1).take (n - 1))) && sgB (accT ((bt l 0).toNat - lead) ((l.drop 1).take (n - 1)))) then ((accT ((bt l 0).toNat - lead) ((l.drop 1).take (n - 1)) : Nat), n) else (-1, 1)
/-- The sign in front, and its bytes. -/
def decT (l : List UInt8) : Int × Nat :=
  let c := (bt l 0).toNat
  if c < 128 then ((c : Nat), 1)
  else if 192 ≤ c ∧ c < 224 ∧ 2 ≤ l.length then formT l 2 192 128
  else if 224 ≤ c ∧ c < 240 ∧ 3 ≤ l.length then formT l 3 224 2048
  else if 240 ≤ c ∧ c < 248 ∧ 4 ≤ l.length then formT l 4 240 65536
  else (-1, 1)
theorem and_m1 : ∀ n : Nat, n < 256 → ((bits .and .u8 (n : Int) 224 = 192) ↔ (192 ≤ n ∧ n < 224)) := by decide +kernel
theorem and_m2 : ∀ n : Nat, n < 256 → ((bits .and .u8 (n : Int) 240 = 224) ↔ (224 ≤ n ∧ n < 240)) := by decide +kernel
theorem and_m3 : ∀ n : Nat, n < 256 → ((bits .and .u8 (n : Int) 248 = 240) ↔ (240 ≤ n ∧ n < 248)) := by decide +kernel
theorem and_m0 : ∀ n : Nat, n < 256 → ((bits .and .u8 (n : Int) 128 = 0) ↔ n < 128) := by decide +kernel
theorem nand_m1 : ∀ n : Nat, n < 256 → 192 ≤ n → n < 224 → bits .andNot .u8 (n : Int) 224 = ((n - 192 : Nat) : Int) := by decide +kernel
theorem nand_m2 : ∀ n : Nat, n < 256 → 224 ≤ n → n < 240 → bits .andNot .u8 (n : Int) 240 = ((n - 224 : Nat) : Int) := by decide +kernel
theorem nand_m3 : ∀ n : Nat, n < 256 → 240 ≤ n → n < 248 → bits .andNot .u8 (n : Int) 248 = ((n - 240 : Nat) : Int) := by decide +kernel
theorem tl_m : ∀ n : Nat, n < 256 → ((bits .andNot .u8 (n : Int) 63 = 128) ↔ (128 ≤ n ∧ n < 192)) := by decide +kernel
theorem tl_v : ∀ n : Nat, n < 256 → 128 ≤ n → n < 192 → bits .and .u8 (n : Int) 63 = ((n - 128 : Nat) : Int) := by decide +kernel
theorem accT_le : ∀ (l : List UInt8) (r : Nat), (l.all tlB = true) → accT r l ≤ (r + 1) * 64 ^ l.length
  | [], r, _ => by simp [accT]
  | b :: t, r, h => by
    have hb : tlB b = true ∧ t.all tlB = true := by simpa [List.all_cons] using h
    have := accT_le t (r * 64 + (b.toNat - 128)) hb.2
    have hb2 : b.toNat - 128 < 64 := by have := hb.1; simp [tlB] at this; omega
    rw [show accT r (b :: t) = accT (r * 64 + (b.toNat - 128)) t from rfl, List.length_cons, Nat.pow_succ]
    refine Nat.le_trans this ?_
    rw [show (r + 1) * (64 ^ t.length * 64) = ((r + 1) * 64) * 64 ^ t.length by rw [Nat.mul_assoc, Nat.mul_comm 64]]
    exact Nat.mul_le_mul_right _ (by omega)
theorem accT_snoc (l : List UInt8) (r : Nat) (b : UInt8) : accT r (l ++ [b]) = accT r l * 64 + (b.toNat - 128) := by simp [accT, List.foldl_append]

theorem idxF0 (W : World) : (Instr.index 129 (.agg #[.int .i64 1, .int .u8 128, .int .u8 0, .int .i32 0, .int .i64 2, .int .u8 224, .int .u8 192, .int .i32 128, .int .i64 3, .int .u8 240, .int .u8 224, .int .i32 2048, .int .i64 4, .int .u8 248, .int .u8 240, .int .i32 65536]) (.int .i64 0)).run Tryd.prog W = .ok (.agg #[.int .i64 1, .int .u8 128, .int .u8 0, .int .i32 0]) W := by kernel_rfl
theorem idxF1 (W : World) : (Instr.index 129 (.agg #[.int .i64 1, .int .u8 128, .int .u8 0, .int .i32 0, .int .i64 2, .int .u8 224, .int .u8 192, .int .i32 128, .int .i64 3, .int .u8 240, .int .u8 224, .int .i32 2048, .int .i64 4, .int .u8 248, .int .u8 240, .int .i32 65536]) (.int .i64 1)).run Tryd.prog W = .ok (.agg #[.int .i64 2, .int .u8 224, .int .u8 192, .int .i32 128]) W := by kernel_rfl
theorem idxF2 (W : World) : (Instr.index 129 (.agg #[.int .i64 1, .int .u8 128, .int .u8 0, .int .i32 0, .int .i64 2, .int .u8 224, .int .u8 192, .int .i32 128, .int .i64 3, .int .u8 240, .int .u8 224, .int .i32 2048, .int .i64 4, .int .u8 248, .int .u8 240, .int .i32 65536]) (.int .i64 2)).run Tryd.prog W = .ok (.agg #[.int .i64 3, .int .u8 240, .int .u8 224, .int .i32 2048]) W := by kernel_rfl
theorem idxF3 (W : World) : (Instr.index 129 (.agg #[.int .i64 1, .int .u8 128, .int .u8 0, .int .i32 0, .int .i64 2, .int .u8 224, .int .u8 192, .int .i32 128, .int .i64 3, .int .u8 240, .int .u8 224, .int .i32 2048, .int .i64 4, .int .u8 248, .int .u8 240, .int .i32 65536]) (.int .i64 3)).run Tryd.prog W = .ok (.agg #[.int .i64 4, .int .u8 248, .int .u8 240, .int .i32 65536]) W := by kernel_rfl
theorem sign_any (r : Nat) (hr : r < 2147483648) (w : World) : Calls Tryd.prog 89 #[.int .i32 (r : Int)] w fun e w' => e = .returned (.bool (sgB r)) ∧ w' = w := by
  have hge : decide ((0 : Int) ≤ (r : Int)) = true := by simp
  go_enter Tryd.func89, Tryd.ntmps89
  by_cases h1 : r ≤ 1114111
  · have h1' : (r : Int) ≤ 1114111 := by omega
    by_cases h2 : r < 55296
    · have h2' : (r : Int) < 55296 := by omega
      go_wp2
      go_ret
      exact ⟨by simp [sgB, h1, h2], rfl⟩
    · have h2' : ¬ (r : Int) < 55296 := by omega
      by_cases h3 : 57343 < r
      · have h3' : (57343 : Int) < (r : Int) := by omega
        go_wp2
        go_ret
        exact ⟨by simp [sgB, h1, h2, h3], rfl⟩
      · have h3' : ¬ (57343 : Int) < (r : Int) := by omega
        go_wp2
        go_ret
        exact ⟨by simp [sgB, h1, h2, h3], rfl⟩
  · have h1' : ¬ (r : Int) ≤ 1114111 := by omega
    go_wp2
    go_ret
    exact ⟨by simp [sgB, h1], rfl⟩

theorem drop_take_snoc (l : List UInt8) (q : Nat) (h1 : 1 ≤ q) (h : q < l.length) : (l.drop 1).take (q + 1 - 1) = (l.drop 1).take (q - 1) ++ [bt l q] := by
  have hl : q - 1 < (l.drop 1).length := by rw [List.length_drop]; omega
  have e : (l.drop 1)[q - 1] = bt l q := by
    rw [List.getElem_drop]
    simp only [bt, List.getD, show 1 + (q - 1) = q by omega, List.getElem?_eq_getElem h, Option.getD_some]
  rw [show q + 1 - 1 = (q - 1) + 1 by omega, List.take_succ_eq_append_getElem hl, e]
theorem drop_take_mem (l : List UInt8) (q n : Nat) (h1 : 1 ≤ q) (h2 : q < n) (h : q < l.length) : bt l q ∈ (l.drop 1).take (n - 1) := by
  have h3 : bt l q ∈ (l.drop 1).take (q + 1 - 1) := by rw [drop_take_snoc l q h1 h]; simp
  refine List.mem_of_mem_take (i := q) ?_
  rw [List.take_take, show min q (n - 1) = q by omega]
  exact h3
/-- No form of these fits. -/
def noF (c n : Nat) (p : Nat) : Prop := (p ≥ 1 → 128 ≤ c) ∧ (p ≥ 2 → ¬ (192 ≤ c ∧ c < 224 ∧ 2 ≤ n)) ∧ (p ≥ 3 → ¬ (224 ≤ c ∧ c < 240 ∧ 3 ≤ n)) ∧ (p ≥ 4 → ¬ (240 ≤ c ∧ c < 248 ∧ 4 ≤ n))
set_option maxHeartbeats 4000000 in
theorem ndecode_any (l : List UInt8) (hl : 0 < l.length) (hl2 : l.length ≤ 100000) (w : World) (hF : FormsAt w) :
    Calls Tryd.prog 78 #[Str l] w fun e w' => e = .returned (.tuple #[.int .i32 (decT l).1, .int .i64 ((decT l).2 : Int)]) ∧ Ext w w' := by
  by_cases h0 : (bt l 0).toNat < 128
  · rw [show decT l = ((((bt l 0).toNat : Nat) : Int), 1) by simp [decT, h0]]
    exact decode_ascii l hl hl2 h0 w hF
  have hix : ∀ W, (Instr.index 9 (Str l) (.int .i64 0)).run Tryd.prog W = .ok (Byt (bt l 0)) W := fun W => run_index_str Tryd.underlying9 l 0 _ rfl hl W
  obtain ⟨f0, f1, f2, f3, f4, f5, f6, f7, f8, f9, f10, f11, f12, f13, f14, f15⟩ := forms_cells hF
  have hc256 : (bt l 0).toNat < 256 := (bt l 0).toNat_lt
  have HDT := Lib.hid (show decT l = _ from rfl)
  obtain ⟨dt, hdt⟩ : ∃ dt, decT l = dt := ⟨_, rfl⟩
  rw [hdt]
  obtain ⟨c, hc⟩ : ∃ c, bt l 0 = c := ⟨_, rfl⟩
  rw [hc] at hix hc256 h0
  have HD := Lib.hid hdt; have HC := Lib.hid hc
  clear hdt hc HDT
  go_enter Tryd.func78, Tryd.ntmps78
  go_wp2
  refine wp_scope_straight (wp_seq (wp_label ?_))
  go_wp2
  go_loopw [9] (fun i wr => ∃ j : Nat, j ≤ 4 ∧ i = .int .i64 j ∧ Hid (noF c.toNat l.length j) ∧ Ext w wr) (fun i _ => 4 - (intOf i).toNat)
  case atStart => exact ⟨0, by omega, rfl, Lib.hid ⟨fun h => by omega, fun h => by omega, fun h => by omega, fun h => by omega⟩, ext_refl _⟩
  case round =>
    obtain ⟨j, hj, rfl, HN, hx⟩ := hrel
    clear f0 f1 f2 f3 f4 f5 f6 f7 f8 f9 f10 f11 f12 f13 f14 f15
    have hjj : j = 0 ∨ j = 1 ∨ j = 2 ∨ j = 3 ∨ j = 4 := by omega
    have HX := Lib.hid hx
    clear hx
    rcases hjj with rfl | rfl | rfl | rfl | rfl

    · have hm : ¬ c.toNat < 128 := h0
      obtain ⟨x, hx⟩ : ∃ x, bits .and .u8 (c.toNat : Int) 128 = x := ⟨_, rfl⟩
      have hne : ¬ x = 0 := by rw [← hx]; exact fun h => hm ((and_m0 _ hc256).1 h)
      have hxn : (x != 0) = true := by simp [hne]
      have hif := idxF0
      go_wp2
      refine wp_region_quiet_lit (by kernel_rfl) (by kernel_rfl) ?_
      repeat (first
        | go_big_quiet_skip
        | (go_big_quiet_want; go_big_quiet_op; (try go_bits); first | go_big_quiet_on | go_big_quiet_call (fail)))
      refine wpQuiet_nil ?_
      intro _ hw'
      obtain ⟨nq, hw''⟩ := hw'
      subst hw''
      go_wp2
      go_roundw
      case rel => exact ⟨1, by omega, by go_num, Lib.hid ⟨fun h => by omega, fun h => by omega, fun h => by omega, fun h => by omega⟩, ext_trans HX.out (Below.drewN ((Below.refl _ _).alloc (Nat.le_refl _) _) _)⟩
      case measure => simp [intOf]
    · by_cases hm : 192 ≤ c.toNat ∧ c.toNat < 224
      · by_cases hn : 2 ≤ l.length
        · have hb := (and_m1 _ hc256).2 hm
          have hlen : decide ((l.length : Int) < 2) = false := by simp; omega
          have hna := nand_m1 _ hc256 hm.1 hm.2
          have hif := idxF1
          have hc3 : c.toNat - 192 < 32 := by omega
          have HEQ := Lib.hid (show dt = formT l 2 192 128 by
            obtain ⟨g1, g2, g3, g4⟩ := HN.out
            rw [← HD.out]
            unfold decT
            rw [HC.out]
            simp only
            rw [if_neg h0, if_pos ⟨hm.1, hm.2, hn⟩])
          go_wp2
          refine wp_region_quiet_lit (by kernel_rfl) (by kernel_rfl) ?_
          repeat (first
            | go_big_quiet_skip
            | (go_big_quiet_want; go_big_quiet_op; (try go_bits); first | go_big_quiet_on | go_big_quiet_call (fail)))
          refine wpQuiet_nil ?_
          intro _ hw'
          obtain ⟨nq, hw''⟩ := hw'
          subst hw''
          go_wp2
          refine wp_region_quiet_lit (by kernel_rfl) (by kernel_rfl) ?_
          repeat (first
            | go_big_quiet_skip
            | (go_big_quiet_want; go_big_quiet_op; (try go_bits); first | go_big_quiet_on | go_big_quiet_call (fail)))
          refine wpQuiet_nil ?_
          intro _ hw'
          obtain ⟨nq, hw''⟩ := hw'
          subst hw''
          have hsn : ∀ q, 1 ≤ q → q < l.length → (l.drop 1).take (q + 1 - 1) = (l.drop 1).take (q - 1) ++ [bt l q] := fun q => drop_take_snoc l q
          have hme : ∀ q, 1 ≤ q → q < 2 → q < l.length → bt l q ∈ (l.drop 1).take (2 - 1) := fun q h1 h2 => drop_take_mem l q 2 h1 h2
          obtain ⟨F, hF⟩ : ∃ F, formT l 2 192 128 = F := ⟨_, rfl⟩
          have HFF := Lib.hid (show F = if ((l.drop 1).take (2 - 1)).all tlB && (decide (128 ≤ accT (c.toNat - 192) ((l.drop 1).take (2 - 1))) && sgB (accT (c.toNat - 192) ((l.drop 1).take (2 - 1)))) then (((accT (c.toNat - 192) ((l.drop 1).take (2 - 1)) : Nat) : Int), 2) else (-1, 1) by
            rw [← hF]; unfold formT; rw [HC.out])
          rw [hF] at HEQ
          obtain ⟨dl, hdl⟩ : ∃ dl, l.drop 1 = dl := ⟨_, rfl⟩
          rw [hdl] at hsn hme HFF
          have hdln : dl.length + 1 = l.length := by rw [← hdl, List.length_drop]; omega
          have HSN := Lib.hid hsn; have HME := Lib.hid hme
          clear hsn hme hF hdl
          go_wp2
          go_loop [6, 7] (fun r i => ∃ q : Nat, 1 ≤ q ∧ q ≤ 2 ∧ i = .int .i64 q ∧ r = .int .i32 (accT (c.toNat - 192) (dl.take (q - 1)) : Nat) ∧ (dl.take (q - 1)).all tlB = true) (fun r i => 2 - (intOf i).toNat)
          case atStart => exact ⟨1, by omega, by omega, rfl, by simp [accT], by simp⟩
          case round =>
            obtain ⟨q, hq1, hqn, rfl, rfl, hall⟩ := hrel
            have hR := accT_le (dl.take (q - 1)) (c.toNat - 192) hall
            have hR2 : 64 ^ (dl.take (q - 1)).length ≤ 64 ^ 1 := Nat.pow_le_pow_right (by omega) (by rw [List.length_take]; omega)
            have hR3 : (c.toNat - 192 + 1) * 64 ^ (dl.take (q - 1)).length ≤ 32 * 64 ^ 1 := Nat.mul_le_mul (by omega) hR2
            have hR4 : accT (c.toNat - 192) (dl.take (q - 1)) ≤ 2097152 := by omega
            clear hR hR2 hR3
            by_cases hqlt : q < 2
            · have hix2 : ∀ W, (Instr.index 9 (Str l) (.int .i64 (q : Int))).run Tryd.prog W = .ok (Byt (bt l q)) W := fun W => run_index_str Tryd.underlying9 l q _ rfl (by omega) W
              have HTS := Lib.hid (HSN.out q hq1 (by omega))
              have HMEM := Lib.hid (HME.out q hq1 hqlt (by omega))
              have HRS := Lib.hid (accT_snoc (dl.take (q - 1)) (c.toNat - 192) (bt l q))
              have hq3 : (q : Int) < 2 := by omega
              have HALL := Lib.hid hall
              clear hall
              generalize dl.take (q - 1) = ts at *
              generalize accT (c.toNat - 192) ts = R at *
              have hb256 : (bt l q).toNat < 256 := (bt l q).toNat_lt
              generalize bt l q = b at *
              by_cases ht : 128 ≤ b.toNat ∧ b.toNat < 192
              · have hx1 := (tl_m _ hb256).2 ht
                have hx2 := tl_v _ hb256 ht.1 ht.2
                have HTB := Lib.hid (show tlB b = true by simp [tlB, ht.1, ht.2])
                have ht64 : b.toNat - 128 < 64 := by omega
                have hor : bits .or .i32 ((R : Int) * 64) ((b.toNat - 128 : Nat) : Int) = ((R * 64 + (b.toNat - 128) : Nat) : Int) := by
                  refine (i32_or6 (x := (R : Int) * 64) (y := ((b.toNat - 128 : Nat) : Int)) (by omega) (by omega) (by omega) (by omega) (by omega)).trans ?_
                  omega
                go_wp2
                refine ⟨⟨q + 1, by omega, by omega, by omega, ?_, ?_⟩, ?_⟩
                · rw [HTS.out, HRS.out]; omega
                · rw [HTS.out]
                  intro x hx
                  rcases List.mem_append.1 hx with hx | hx
                  · exact List.all_eq_true.1 HALL.out x hx
                  · rw [List.mem_singleton] at hx; subst hx; exact HTB.out
                · simp [intOf]; omega
              · obtain ⟨x, hx⟩ : ∃ x, bits .andNot .u8 (b.toNat : Int) 63 = x := ⟨_, rfl⟩
                have hne : ¬ x = 128 := by rw [← hx]; exact fun h => ht ((tl_m _ hb256).1 h)
                have hxn : (x != 128) = true := by simp [hne]
                have hd : dt = (-1, 1) := by
                  have hna : (dl.take (2 - 1)).all tlB = false := by
                    rw [List.all_eq_false]
                    exact ⟨b, HMEM.out, by simp [tlB]; omega⟩
                  rw [HEQ.out, HFF.out, hna]; rfl
                subst hd
                go_wp2
                try simp only [Exit.noGoto]
                go_ret2
                exact ⟨rfl, ext_trans HX.out (by first | exact (Below.drewN ((Below.refl _ _).alloc (Nat.le_refl _) _) _) | exact (Below.drewN (Below.drewN ((Below.refl _ _).alloc (Nat.le_refl _) _) _) _) | exact (Below.drewN (Below.drewN (Below.drewN ((Below.refl _ _).alloc (Nat.le_refl _) _) _) _) _))⟩
            · obtain rfl : q = 2 := by omega
              rw [hall, Bool.true_and] at HFF
              clear hall
              generalize accT (c.toNat - 192) (dl.take (2 - 1)) = R at *
              by_cases hls : 128 ≤ R
              · have hls' : (128 : Int) ≤ (R : Int) := by omega
                rw [decide_eq_true hls, Bool.true_and] at HFF
                have HSG := Lib.hid (fun W => sign_any R (by omega) W)
                obtain ⟨sg, hsg⟩ : ∃ sg, sgB R = sg := ⟨_, rfl⟩
                rw [hsg] at HFF HSG
                clear hsg
                go_wp2_with fail
                refine (HSG.out _).mono ?_
                rintro e W5 ⟨rfl, hw⟩
                subst W5
                cases sg with
                | true =>
                  have hd : dt = ((R : Int), 2) := by rw [HEQ.out, HFF.out, if_pos rfl]
                  subst hd
                  go_wp2
                  refine wp_region_quiet_lit (by kernel_rfl) (by kernel_rfl) ?_
                  repeat (first
                    | go_big_quiet_skip
                    | (go_big_quiet_want; go_big_quiet_op; (try go_bits); first | go_big_quiet_on | go_big_quiet_call (fail)))
                  refine wpQuiet_nil ?_
                  intro _ hw'
                  obtain ⟨nq, hw''⟩ := hw'
                  subst hw''
                  go_wp2
                  try simp only [Exit.noGoto]
                  go_ret2
                  exact ⟨rfl, ext_trans HX.out (by first | exact (Below.drewN ((Below.refl _ _).alloc (Nat.le_refl _) _) _) | exact (Below.drewN (Below.drewN ((Below.refl _ _).alloc (Nat.le_refl _) _) _) _) | exact (Below.drewN (Below.drewN (Below.drewN ((Below.refl _ _).alloc (Nat.le_refl _) _) _) _) _))⟩
                | false =>
                  have hd : dt = (-1, 1) := by rw [HEQ.out, HFF.out, if_neg (by simp)]
                  subst hd
                  go_wp2
                  try simp only [Exit.noGoto]
                  go_ret2
                  exact ⟨rfl, ext_trans HX.out (by first | exact (Below.drewN ((Below.refl _ _).alloc (Nat.le_refl _) _) _) | exact (Below.drewN (Below.drewN ((Below.refl _ _).alloc (Nat.le_refl _) _) _) _) | exact (Below.drewN (Below.drewN (Below.drewN ((Below.refl _ _).alloc (Nat.le_refl _) _) _) _) _))⟩
              · have hls' : ¬ (128 : Int) ≤ (R : Int) := by omega
                rw [decide_eq_false hls, Bool.false_and] at HFF
                have hd : dt = (-1, 1) := by rw [HEQ.out, HFF.out, if_neg (by simp)]
                subst hd
                go_wp2
                try simp only [Exit.noGoto]
                go_ret2
                exact ⟨rfl, ext_trans HX.out (by first | exact (Below.drewN ((Below.refl _ _).alloc (Nat.le_refl _) _) _) | exact (Below.drewN (Below.drewN ((Below.refl _ _).alloc (Nat.le_refl _) _) _) _) | exact (Below.drewN (Below.drewN (Below.drewN ((Below.refl _ _).alloc (Nat.le_refl _) _) _) _) _))⟩
        · have hn2 : ¬ 2 ≤ l.length := hn
          have hx := (and_m1 _ hc256).2 hm
          have hlen : decide ((l.length : Int) < 2) = true := by simp; omega
          have hif := idxF1
          go_wp2
          refine wp_region_quiet_lit (by kernel_rfl) (by kernel_rfl) ?_
          repeat (first
            | go_big_quiet_skip
            | (go_big_quiet_want; go_big_quiet_op; (try go_bits); first | go_big_quiet_on | go_big_quiet_call (fail)))
          refine wpQuiet_nil ?_
          intro _ hw'
          obtain ⟨nq, hw''⟩ := hw'
          subst hw''
          go_wp2
          go_roundw
          case rel => exact ⟨2, by omega, by go_num, Lib.hid (by obtain ⟨g1, g2, g3, g4⟩ := HN.out; exact ⟨fun h => by omega, fun h => by omega, fun h => by omega, fun h => by omega⟩), ext_trans HX.out (Below.drewN ((Below.refl _ _).alloc (Nat.le_refl _) _) _)⟩
          case measure => simp [intOf]
      · skip
        obtain ⟨x, hx⟩ : ∃ x, bits .and .u8 (c.toNat : Int) 224 = x := ⟨_, rfl⟩
        have hne : ¬ x = 192 := by rw [← hx]; exact fun h => hm ((and_m1 _ hc256).1 h)
        have hxn : (x != 192) = true := by simp [hne]
        have hif := idxF1
        go_wp2
        refine wp_region_quiet_lit (by kernel_rfl) (by kernel_rfl) ?_
        repeat (first
          | go_big_quiet_skip
          | (go_big_quiet_want; go_big_quiet_op; (try go_bits); first | go_big_quiet_on | go_big_quiet_call (fail)))
        refine wpQuiet_nil ?_
        intro _ hw'
        obtain ⟨nq, hw''⟩ := hw'
        subst hw''
        go_wp2
        go_roundw
        case rel => exact ⟨2, by omega, by go_num, Lib.hid (by obtain ⟨g1, g2, g3, g4⟩ := HN.out; exact ⟨fun h => by omega, fun h => by omega, fun h => by omega, fun h => by omega⟩), ext_trans HX.out (Below.drewN ((Below.refl _ _).alloc (Nat.le_refl _) _) _)⟩
        case measure => simp [intOf]
    · by_cases hm : 224 ≤ c.toNat ∧ c.toNat < 240
      · by_cases hn : 3 ≤ l.length
        · have hb := (and_m2 _ hc256).2 hm
          have hlen : decide ((l.length : Int) < 3) = false := by simp; omega
          have hna := nand_m2 _ hc256 hm.1 hm.2
          have hif := idxF2
          have hc3 : c.toNat - 224 < 32 := by omega
          have HEQ := Lib.hid (show dt = formT l 3 224 2048 by
            obtain ⟨g1, g2, g3, g4⟩ := HN.out
            rw [← HD.out]
            unfold decT
            rw [HC.out]
            simp only
            rw [if_neg h0, if_neg (g2 (by omega)), if_pos ⟨hm.1, hm.2, hn⟩])
          go_wp2
          refine wp_region_quiet_lit (by kernel_rfl) (by kernel_rfl) ?_
          repeat (first
            | go_big_quiet_skip
            | (go_big_quiet_want; go_big_quiet_op; (try go_bits); first | go_big_quiet_on | go_big_quiet_call (fail)))
          refine wpQuiet_nil ?_
          intro _ hw'
          obtain ⟨nq, hw''⟩ := hw'
          subst hw''
          go_wp2
          refine wp_region_quiet_lit (by kernel_rfl) (by kernel_rfl) ?_
          repeat (first
            | go_big_quiet_skip
            | (go_big_quiet_want; go_big_quiet_op; (try go_bits); first | go_big_quiet_on | go_big_quiet_call (fail)))
          refine wpQuiet_nil ?_
          intro _ hw'
          obtain ⟨nq, hw''⟩ := hw'
          subst hw''
          have hsn : ∀ q, 1 ≤ q → q < l.length → (l.drop 1).take (q + 1 - 1) = (l.drop 1).take (q - 1) ++ [bt l q] := fun q => drop_take_snoc l q
          have hme : ∀ q, 1 ≤ q → q < 3 → q < l.length → bt l q ∈ (l.drop 1).take (3 - 1) := fun q h1 h2 => drop_take_mem l q 3 h1 h2
          obtain ⟨F, hF⟩ : ∃ F, formT l 3 224 2048 = F := ⟨_, rfl⟩
          have HFF := Lib.hid (show F = if ((l.drop 1).take (3 - 1)).all tlB && (decide (2048 ≤ accT (c.toNat - 224) ((l.drop 1).take (3 - 1))) && sgB (accT (c.toNat - 224) ((l.drop 1).take (3 - 1)))) then (((accT (c.toNat - 224) ((l.drop 1).take (3 - 1)) : Nat) : Int), 3) else (-1, 1) by
            rw [← hF]; unfold formT; rw [HC.out])
          rw [hF] at HEQ
          obtain ⟨dl, hdl⟩ : ∃ dl, l.drop 1 = dl := ⟨_, rfl⟩
          rw [hdl] at hsn hme HFF
          have hdln : dl.length + 1 = l.length := by rw [← hdl, List.length_drop]; omega
          have HSN := Lib.hid hsn; have HME := Lib.hid hme
          clear hsn hme hF hdl
          go_wp2
          go_loop [6, 7] (fun r i => ∃ q : Nat, 1 ≤ q ∧ q ≤ 3 ∧ i = .int .i64 q ∧ r = .int .i32 (accT (c.toNat - 224) (dl.take (q - 1)) : Nat) ∧ (dl.take (q - 1)).all tlB = true) (fun r i => 3 - (intOf i).toNat)
          case atStart => exact ⟨1, by omega, by omega, rfl, by simp [accT], by simp⟩
          case round =>
            obtain ⟨q, hq1, hqn, rfl, rfl, hall⟩ := hrel
            have hR := accT_le (dl.take (q - 1)) (c.toNat - 224) hall
            have hR2 : 64 ^ (dl.take (q - 1)).length ≤ 64 ^ 2 := Nat.pow_le_pow_right (by omega) (by rw [List.length_take]; omega)
            have hR3 : (c.toNat - 224 + 1) * 64 ^ (dl.take (q - 1)).length ≤ 16 * 64 ^ 2 := Nat.mul_le_mul (by omega) hR2
            have hR4 : accT (c.toNat - 224) (dl.take (q - 1)) ≤ 2097152 := by omega
            clear hR hR2 hR3
            by_cases hqlt : q < 3
            · have hix2 : ∀ W, (Instr.index 9 (Str l) (.int .i64 (q : Int))).run Tryd.prog W = .ok (Byt (bt l q)) W := fun W => run_index_str Tryd.underlying9 l q _ rfl (by omega) W
              have HTS := Lib.hid (HSN.out q hq1 (by omega))
              have HMEM := Lib.hid (HME.out q hq1 hqlt (by omega))
              have HRS := Lib.hid (accT_snoc (dl.take (q - 1)) (c.toNat - 224) (bt l q))
              have hq3 : (q : Int) < 3 := by omega
              have HALL := Lib.hid hall
              clear hall
              generalize dl.take (q - 1) = ts at *
              generalize accT (c.toNat - 224) ts = R at *
              have hb256 : (bt l q).toNat < 256 := (bt l q).toNat_lt
              generalize bt l q = b at *
              by_cases ht : 128 ≤ b.toNat ∧ b.toNat < 192
              · have hx1 := (tl_m _ hb256).2 ht
                have hx2 := tl_v _ hb256 ht.1 ht.2
                have HTB := Lib.hid (show tlB b = true by simp [tlB, ht.1, ht.2])
                have ht64 : b.toNat - 128 < 64 := by omega
                have hor : bits .or .i32 ((R : Int) * 64) ((b.toNat - 128 : Nat) : Int) = ((R * 64 + (b.toNat - 128) : Nat) : Int) := by
                  refine (i32_or6 (x := (R : Int) * 64) (y := ((b.toNat - 128 : Nat) : Int)) (by omega) (by omega) (by omega) (by omega) (by omega)).trans ?_
                  omega
                go_wp2
                refine ⟨⟨q + 1, by omega, by omega, by omega, ?_, ?_⟩, ?_⟩
                · rw [HTS.out, HRS.out]; omega
                · rw [HTS.out]
                  intro x hx
                  rcases List.mem_append.1 hx with hx | hx
                  · exact List.all_eq_true.1 HALL.out x hx
                  · rw [List.mem_singleton] at hx; subst hx; exact HTB.out
                · simp [intOf]; omega
              · obtain ⟨x, hx⟩ : ∃ x, bits .andNot .u8 (b.toNat : Int) 63 = x := ⟨_, rfl⟩
                have hne : ¬ x = 128 := by rw [← hx]; exact fun h => ht ((tl_m _ hb256).1 h)
                have hxn : (x != 128) = true := by simp [hne]
                have hd : dt = (-1, 1) := by
                  have hna : (dl.take (3 - 1)).all tlB = false := by
                    rw [List.all_eq_false]
                    exact ⟨b, HMEM.out, by simp [tlB]; omega⟩
                  rw [HEQ.out, HFF.out, hna]; rfl
                subst hd
                go_wp2
                try simp only [Exit.noGoto]
                go_ret2
                exact ⟨rfl, ext_trans HX.out (by first | exact (Below.drewN ((Below.refl _ _).alloc (Nat.le_refl _) _) _) | exact (Below.drewN (Below.drewN ((Below.refl _ _).alloc (Nat.le_refl _) _) _) _) | exact (Below.drewN (Below.drewN (Below.drewN ((Below.refl _ _).alloc (Nat.le_refl _) _) _) _) _))⟩
            · obtain rfl : q = 3 := by omega
              rw [hall, Bool.true_and] at HFF
              clear hall
              generalize accT (c.toNat - 224) (dl.take (3 - 1)) = R at *
              by_cases hls : 2048 ≤ R
              · have hls' : (2048 : Int) ≤ (R : Int) := by omega
                rw [decide_eq_true hls, Bool.true_and] at HFF
                have HSG := Lib.hid (fun W => sign_any R (by omega) W)
                obtain ⟨sg, hsg⟩ : ∃ sg, sgB R = sg := ⟨_, rfl⟩
                rw [hsg] at HFF HSG
                clear hsg
                go_wp2_with fail
                refine (HSG.out _).mono ?_
                rintro e W5 ⟨rfl, hw⟩
                subst W5
                cases sg with
                | true =>
                  have hd : dt = ((R : Int), 3) := by rw [HEQ.out, HFF.out, if_pos rfl]
                  subst hd
                  go_wp2
                  refine wp_region_quiet_lit (by kernel_rfl) (by kernel_rfl) ?_
                  repeat (first
                    | go_big_quiet_skip
                    | (go_big_quiet_want; go_big_quiet_op; (try go_bits); first | go_big_quiet_on | go_big_quiet_call (fail)))
                  refine wpQuiet_nil ?_
                  intro _ hw'
                  obtain ⟨nq, hw''⟩ := hw'
                  subst hw''
                  go_wp2
                  try simp only [Exit.noGoto]
                  go_ret2
                  exact ⟨rfl, ext_trans HX.out (by first | exact (Below.drewN ((Below.refl _ _).alloc (Nat.le_refl _) _) _) | exact (Below.drewN (Below.drewN ((Below.refl _ _).alloc (Nat.le_refl _) _) _) _) | exact (Below.drewN (Below.drewN (Below.drewN ((Below.refl _ _).alloc (Nat.le_refl _) _) _) _) _))⟩
                | false =>
                  have hd : dt = (-1, 1) := by rw [HEQ.out, HFF.out, if_neg (by simp)]
                  subst hd
                  go_wp2
                  try simp only [Exit.noGoto]
                  go_ret2
                  exact ⟨rfl, ext_trans HX.out (by first | exact (Below.drewN ((Below.refl _ _).alloc (Nat.le_refl _) _) _) | exact (Below.drewN (Below.drewN ((Below.refl _ _).alloc (Nat.le_refl _) _) _) _) | exact (Below.drewN (Below.drewN (Below.drewN ((Below.refl _ _).alloc (Nat.le_refl _) _) _) _) _))⟩
              · have hls' : ¬ (2048 : Int) ≤ (R : Int) := by omega
                rw [decide_eq_false hls, Bool.false_and] at HFF
                have hd : dt = (-1, 1) := by rw [HEQ.out, HFF.out, if_neg (by simp)]
                subst hd
                go_wp2
                try simp only [Exit.noGoto]
                go_ret2
                exact ⟨rfl, ext_trans HX.out (by first | exact (Below.drewN ((Below.refl _ _).alloc (Nat.le_refl _) _) _) | exact (Below.drewN (Below.drewN ((Below.refl _ _).alloc (Nat.le_refl _) _) _) _) | exact (Below.drewN (Below.drewN (Below.drewN ((Below.refl _ _).alloc (Nat.le_refl _) _) _) _) _))⟩
        · have hn2 : ¬ 3 ≤ l.length := hn
          have hx := (and_m2 _ hc256).2 hm
          have hlen : decide ((l.length : Int) < 3) = true := by simp; omega
          have hif := idxF2
          go_wp2
          refine wp_region_quiet_lit (by kernel_rfl) (by kernel_rfl) ?_
          repeat (first
            | go_big_quiet_skip
            | (go_big_quiet_want; go_big_quiet_op; (try go_bits); first | go_big_quiet_on | go_big_quiet_call (fail)))
          refine wpQuiet_nil ?_
          intro _ hw'
          obtain ⟨nq, hw''⟩ := hw'
          subst hw''
          go_wp2
          go_roundw
          case rel => exact ⟨3, by omega, by go_num, Lib.hid (by obtain ⟨g1, g2, g3, g4⟩ := HN.out; exact ⟨fun h => by omega, fun h => by omega, fun h => by omega, fun h => by omega⟩), ext_trans HX.out (Below.drewN ((Below.refl _ _).alloc (Nat.le_refl _) _) _)⟩
          case measure => simp [intOf]
      · skip
        obtain ⟨x, hx⟩ : ∃ x, bits .and .u8 (c.toNat : Int) 240 = x := ⟨_, rfl⟩
        have hne : ¬ x = 224 := by rw [← hx]; exact fun h => hm ((and_m2 _ hc256).1 h)
        have hxn : (x != 224) = true := by simp [hne]
        have hif := idxF2
        go_wp2
        refine wp_region_quiet_lit (by kernel_rfl) (by kernel_rfl) ?_
        repeat (first
          | go_big_quiet_skip
          | (go_big_quiet_want; go_big_quiet_op; (try go_bits); first | go_big_quiet_on | go_big_quiet_call (fail)))
        refine wpQuiet_nil ?_
        intro _ hw'
        obtain ⟨nq, hw''⟩ := hw'
        subst hw''
        go_wp2
        go_roundw
        case rel => exact ⟨3, by omega, by go_num, Lib.hid (by obtain ⟨g1, g2, g3, g4⟩ := HN.out; exact ⟨fun h => by omega, fun h => by omega, fun h => by omega, fun h => by omega⟩), ext_trans HX.out (Below.drewN ((Below.refl _ _).alloc (Nat.le_refl _) _) _)⟩
        case measure => simp [intOf]
    · by_cases hm : 240 ≤ c.toNat ∧ c.toNat < 248
      · by_cases hn : 4 ≤ l.length
        · have hb := (and_m3 _ hc256).2 hm
          have hlen : decide ((l.length : Int) < 4) = false := by simp; omega
          have hna := nand_m3 _ hc256 hm.1 hm.2
          have hif := idxF3
          have hc3 : c.toNat - 240 < 32 := by omega
          have HEQ := Lib.hid (show dt = formT l 4 240 65536 by
            obtain ⟨g1, g2, g3, g4⟩ := HN.out
            rw [← HD.out]
            unfold decT
            rw [HC.out]
            simp only
            rw [if_neg h0, if_neg (g2 (by omega)), if_neg (g3 (by omega)), if_pos ⟨hm.1, hm.2, hn⟩])
          go_wp2
          refine wp_region_quiet_lit (by kernel_rfl) (by kernel_rfl) ?_
          repeat (first
            | go_big_quiet_skip
            | (go_big_quiet_want; go_big_quiet_op; (try go_bits); first | go_big_quiet_on | go_big_quiet_call (fail)))
          refine wpQuiet_nil ?_
          intro _ hw'
          obtain ⟨nq, hw''⟩ := hw'
          subst hw''
          go_wp2
          refine wp_region_quiet_lit (by kernel_rfl) (by kernel_rfl) ?_
          repeat (first
            | go_big_quiet_skip
            | (go_big_quiet_want; go_big_quiet_op; (try go_bits); first | go_big_quiet_on | go_big_quiet_call (fail)))
          refine wpQuiet_nil ?_
          intro _ hw'
          obtain ⟨nq, hw''⟩ := hw'
          subst hw''
          have hsn : ∀ q, 1 ≤ q → q < l.length → (l.drop 1).take (q + 1 - 1) = (l.drop 1).take (q - 1) ++ [bt l q] := fun q => drop_take_snoc l q
          have hme : ∀ q, 1 ≤ q → q < 4 → q < l.length → bt l q ∈ (l.drop 1).take (4 - 1) := fun q h1 h2 => drop_take_mem l q 4 h1 h2
          obtain ⟨F, hF⟩ : ∃ F, formT l 4 240 65536 = F := ⟨_, rfl⟩
          have HFF := Lib.hid (show F = if ((l.drop 1).take (4 - 1)).all tlB && (decide (65536 ≤ accT (c.toNat - 240) ((l.drop 1).take (4 - 1))) && sgB (accT (c.toNat - 240) ((l.drop 1).take (4 - 1)))) then (((accT (c.toNat - 240) ((l.drop 1).take (4 - 1)) : Nat) : Int), 4) else (-1, 1) by
            rw [← hF]; unfold formT; rw [HC.out])
          rw [hF] at HEQ
          obtain ⟨dl, hdl⟩ : ∃ dl, l.drop 1 = dl := ⟨_, rfl⟩
          rw [hdl] at hsn hme HFF
          have hdln : dl.length + 1 = l.length := by rw [← hdl, List.length_drop]; omega
          have HSN := Lib.hid hsn; have HME := Lib.hid hme
          clear hsn hme hF hdl
          go_wp2
          go_loop [6, 7] (fun r i => ∃ q : Nat, 1 ≤ q ∧ q ≤ 4 ∧ i = .int .i64 q ∧ r = .int .i32 (accT (c.toNat - 240) (dl.take (q - 1)) : Nat) ∧ (dl.take (q - 1)).all tlB = true) (fun r i => 4 - (intOf i).toNat)
          case atStart => exact ⟨1, by omega, by omega, rfl, by simp [accT], by simp⟩
          case round =>
            obtain ⟨q, hq1, hqn, rfl, rfl, hall⟩ := hrel
            have hR := accT_le (dl.take (q - 1)) (c.toNat - 240) hall
            have hR2 : 64 ^ (dl.take (q - 1)).length ≤ 64 ^ 3 := Nat.pow_le_pow_right (by omega) (by rw [List.length_take]; omega)
            have hR3 : (c.toNat - 240 + 1) * 64 ^ (dl.take (q - 1)).length ≤ 8 * 64 ^ 3 := Nat.mul_le_mul (by omega) hR2
            have hR4 : accT (c.toNat - 240) (dl.take (q - 1)) ≤ 2097152 := by omega
            clear hR hR2 hR3
            by_cases hqlt : q < 4
            · have hix2 : ∀ W, (Instr.index 9 (Str l) (.int .i64 (q : Int))).run Tryd.prog W = .ok (Byt (bt l q)) W := fun W => run_index_str Tryd.underlying9 l q _ rfl (by omega) W
              have HTS := Lib.hid (HSN.out q hq1 (by omega))
              have HMEM := Lib.hid (HME.out q hq1 hqlt (by omega))
              have HRS := Lib.hid (accT_snoc (dl.take (q - 1)) (c.toNat - 240) (bt l q))
              have hq3 : (q : Int) < 4 := by omega
              have HALL := Lib.hid hall
              clear hall
              generalize dl.take (q - 1) = ts at *
              generalize accT (c.toNat - 240) ts = R at *
              have hb256 : (bt l q).toNat < 256 := (bt l q).toNat_lt
              generalize bt l q = b at *
              by_cases ht : 128 ≤ b.toNat ∧ b.toNat < 192
              · have hx1 := (tl_m _ hb256).2 ht
                have hx2 := tl_v _ hb256 ht.1 ht.2
                have HTB := Lib.hid (show tlB b = true by simp [tlB, ht.1, ht.2])
                have ht64 : b.toNat - 128 < 64 := by omega
                have hor : bits .or .i32 ((R : Int) * 64) ((b.toNat - 128 : Nat) : Int) = ((R * 64 + (b.toNat - 128) : Nat) : Int) := by
                  refine (i32_or6 (x := (R : Int) * 64) (y := ((b.toNat - 128 : Nat) : Int)) (by omega) (by omega) (by omega) (by omega) (by omega)).trans ?_
                  omega
                go_wp2
                refine ⟨⟨q + 1, by omega, by omega, by omega, ?_, ?_⟩, ?_⟩
                · rw [HTS.out, HRS.out]; omega
                · rw [HTS.out]
                  intro x hx
                  rcases List.mem_append.1 hx with hx | hx
                  · exact List.all_eq_true.1 HALL.out x hx
                  · rw [List.mem_singleton] at hx; subst hx; exact HTB.out
                · simp [intOf]; omega
              · obtain ⟨x, hx⟩ : ∃ x, bits .andNot .u8 (b.toNat : Int) 63 = x := ⟨_, rfl⟩
                have hne : ¬ x = 128 := by rw [← hx]; exact fun h => ht ((tl_m _ hb256).1 h)
                have hxn : (x != 128) = true := by simp [hne]
                have hd : dt = (-1, 1) := by
                  have hna : (dl.take (4 - 1)).all tlB = false := by
                    rw [List.all_eq_false]
                    exact ⟨b, HMEM.out, by simp [tlB]; omega⟩
                  rw [HEQ.out, HFF.out, hna]; rfl
                subst hd
                go_wp2
                try simp only [Exit.noGoto]
                go_ret2
                exact ⟨rfl, ext_trans HX.out (by first | exact (Below.drewN ((Below.refl _ _).alloc (Nat.le_refl _) _) _) | exact (Below.drewN (Below.drewN ((Below.refl _ _).alloc (Nat.le_refl _) _) _) _) | exact (Below.drewN (Below.drewN (Below.drewN ((Below.refl _ _).alloc (Nat.le_refl _) _) _) _) _))⟩
            · obtain rfl : q = 4 := by omega
              rw [hall, Bool.true_and] at HFF
              clear hall
              generalize accT (c.toNat - 240) (dl.take (4 - 1)) = R at *
              by_cases hls : 65536 ≤ R
              · have hls' : (65536 : Int) ≤ (R : Int) := by omega
                rw [decide_eq_true hls, Bool.true_and] at HFF
                have HSG := Lib.hid (fun W => sign_any R (by omega) W)
                obtain ⟨sg, hsg⟩ : ∃ sg, sgB R = sg := ⟨_, rfl⟩
                rw [hsg] at HFF HSG
                clear hsg
                go_wp2_with fail
                refine (HSG.out _).mono ?_
                rintro e W5 ⟨rfl, hw⟩
                subst W5
                cases sg with
                | true =>
                  have hd : dt = ((R : Int), 4) := by rw [HEQ.out, HFF.out, if_pos rfl]
                  subst hd
                  go_wp2
                  refine wp_region_quiet_lit (by kernel_rfl) (by kernel_rfl) ?_
                  repeat (first
                    | go_big_quiet_skip
                    | (go_big_quiet_want; go_big_quiet_op; (try go_bits); first | go_big_quiet_on | go_big_quiet_call (fail)))
                  refine wpQuiet_nil ?_
                  intro _ hw'
                  obtain ⟨nq, hw''⟩ := hw'
                  subst hw''
                  go_wp2
                  try simp only [Exit.noGoto]
                  go_ret2
                  exact ⟨rfl, ext_trans HX.out (by first | exact (Below.drewN ((Below.refl _ _).alloc (Nat.le_refl _) _) _) | exact (Below.drewN (Below.drewN ((Below.refl _ _).alloc (Nat.le_refl _) _) _) _) | exact (Below.drewN (Below.drewN (Below.drewN ((Below.refl _ _).alloc (Nat.le_refl _) _) _) _) _))⟩
                | false =>
                  have hd : dt = (-1, 1) := by rw [HEQ.out, HFF.out, if_neg (by simp)]
                  subst hd
                  go_wp2
                  try simp only [Exit.noGoto]
                  go_ret2
                  exact ⟨rfl, ext_trans HX.out (by first | exact (Below.drewN ((Below.refl _ _).alloc (Nat.le_refl _) _) _) | exact (Below.drewN (Below.drewN ((Below.refl _ _).alloc (Nat.le_refl _) _) _) _) | exact (Below.drewN (Below.drewN (Below.drewN ((Below.refl _ _).alloc (Nat.le_refl _) _) _) _) _))⟩
              · have hls' : ¬ (65536 : Int) ≤ (R : Int) := by omega
                rw [decide_eq_false hls, Bool.false_and] at HFF
                have hd : dt = (-1, 1) := by rw [HEQ.out, HFF.out, if_neg (by simp)]
                subst hd
                go_wp2
                try simp only [Exit.noGoto]
                go_ret2
                exact ⟨rfl, ext_trans HX.out (by first | exact (Below.drewN ((Below.refl _ _).alloc (Nat.le_refl _) _) _) | exact (Below.drewN (Below.drewN ((Below.refl _ _).alloc (Nat.le_refl _) _) _) _) | exact (Below.drewN (Below.drewN (Below.drewN ((Below.refl _ _).alloc (Nat.le_refl _) _) _) _) _))⟩
        · have hn2 : ¬ 4 ≤ l.length := hn
          have hx := (and_m3 _ hc256).2 hm
          have hlen : decide ((l.length : Int) < 4) = true := by simp; omega
          have hif := idxF3
          go_wp2
          refine wp_region_quiet_lit (by kernel_rfl) (by kernel_rfl) ?_
          repeat (first
            | go_big_quiet_skip
            | (go_big_quiet_want; go_big_quiet_op; (try go_bits); first | go_big_quiet_on | go_big_quiet_call (fail)))
          refine wpQuiet_nil ?_
          intro _ hw'
          obtain ⟨nq, hw''⟩ := hw'
          subst hw''
          go_wp2
          go_roundw
          case rel => exact ⟨4, by omega, by go_num, Lib.hid (by obtain ⟨g1, g2, g3, g4⟩ := HN.out; exact ⟨fun h => by omega, fun h => by omega, fun h => by omega, fun h => by omega⟩), ext_trans HX.out (Below.drewN ((Below.refl _ _).alloc (Nat.le_refl _) _) _)⟩
          case measure => simp [intOf]
      · skip
        obtain ⟨x, hx⟩ : ∃ x, bits .and .u8 (c.toNat : Int) 248 = x := ⟨_, rfl⟩
        have hne : ¬ x = 240 := by rw [← hx]; exact fun h => hm ((and_m3 _ hc256).1 h)
        have hxn : (x != 240) = true := by simp [hne]
        have hif := idxF3
        go_wp2
        refine wp_region_quiet_lit (by kernel_rfl) (by kernel_rfl) ?_
        repeat (first
          | go_big_quiet_skip
          | (go_big_quiet_want; go_big_quiet_op; (try go_bits); first | go_big_quiet_on | go_big_quiet_call (fail)))
        refine wpQuiet_nil ?_
        intro _ hw'
        obtain ⟨nq, hw''⟩ := hw'
        subst hw''
        go_wp2
        go_roundw
        case rel => exact ⟨4, by omega, by go_num, Lib.hid (by obtain ⟨g1, g2, g3, g4⟩ := HN.out; exact ⟨fun h => by omega, fun h => by omega, fun h => by omega, fun h => by omega⟩), ext_trans HX.out (Below.drewN ((Below.refl _ _).alloc (Nat.le_refl _) _) _)⟩
        case measure => simp [intOf]
    · have hdt : dt = (-1, 1) := by
        obtain ⟨g1, g2, g3, g4⟩ := HN.out
        rw [← HD.out]
        unfold decT
        rw [HC.out]
        simp only
        rw [if_neg h0, if_neg (g2 (by omega)), if_neg (g3 (by omega)), if_neg (g4 (by omega))]
      subst hdt
      go_wp2
      simp only [Exit.noGoto]
      go_ret2
      exact ⟨rfl, HX.out⟩
end Go.Proofs.YtjkbigecejogdaaDoor
