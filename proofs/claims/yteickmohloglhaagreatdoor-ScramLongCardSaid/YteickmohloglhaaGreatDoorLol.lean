/-
  ScramLong: the law's walk (printed by wip/tools/scram_long.py).
-/
import Derived.Test.YteickmohloglhaaGreatDoorRows
import Derived.Test.YteickmohloglhaaGreatDoorLlg
import Derived.Test.YteickmohloglhaaGreatDoorAwf
import Derived.Test.YteickmohloglhaaGreatDoorRfe
namespace Go.Proofs.YteickmohloglhaaGreatDoor
open Go.RowKit
set_option maxRecDepth 100000
attribute [local go_sem] Oper.semAt_some
set_option linter.unusedVariables false
set_option linter.unusedSimpArgs false
def zero32 : List UInt8 := List.replicate 32 0
theorem run_make32 : ∀ w, (Instr.makeSlice 25 (.int .i64 32) (.int .i64 32)).run Tryz.prog w = .ok (.slice (some ⟨w.heap.size, 0, none⟩) 32 32) (w.alloc (.cells #[.int .u8 0, .int .u8 0, .int .u8 0, .int .u8 0, .int .u8 0, .int .u8 0, .int .u8 0, .int .u8 0, .int .u8 0, .int .u8 0, .int .u8 0, .int .u8 0, .int .u8 0, .int .u8 0, .int .u8 0, .int .u8 0, .int .u8 0, .int .u8 0, .int .u8 0, .int .u8 0, .int .u8 0, .int .u8 0, .int .u8 0, .int .u8 0, .int .u8 0, .int .u8 0, .int .u8 0, .int .u8 0, .int .u8 0, .int .u8 0, .int .u8 0, .int .u8 0] 5)) := fun _ => by kernel_rfl
theorem own_built (w : World) (b e : Nat) (us : List Value) (hb : b ≤ w.heap.size) (h : us.length ≤ 1000) : (w.alloc (.cells us.toArray e)).ownsRow b e 1 (.slice (some ⟨w.heap.size, 0, none⟩) us.length us.length) us.length us :=
  ⟨by simp, .inr ⟨w.heap.size, us.length, us.toArray, rfl, hb, heap_alloc_new w _, by omega, by unfold maxLen; omega, by simp, by simp⟩⟩
def zeroObj : Obj := .cells (zero32.map Byt).toArray 5
theorem make32_sl (w : World) : SlB (w.alloc zeroObj) (.slice (some ⟨w.heap.size, 0, none⟩) 32 32) zero32 := by
  have ho : (w.alloc zeroObj).ownsRow w.heap.size 5 1 (.slice (some ⟨w.heap.size, 0, none⟩) 32 32) 32 (zero32.map Byt) := own_built w w.heap.size 5 (zero32.map Byt) (Nat.le_refl _) (by simp [zero32])
  exact sl_of_own ho
theorem enc32 : refEnc (alph false) (!false) zero32 = E32 := by decide +kernel
def stLen : Value → Nat | .string s => s.size | _ => 0
theorem stLen_str (l : List UInt8) : stLen (Str l) = l.length := size_list l
set_option maxHeartbeats 4000000 in
theorem long_any (n kind : Int) (hn0 : 0 ≤ n) (hn1 : n ≤ 255) (hk0 : 0 ≤ kind) (hk1 : kind ≤ 255) (w : World) (hM : MaxAt w) (hF : FormsAt w) (hT : TabW w) :
    Calls Tryz.prog 3 #[.int .u8 n, .int .u8 kind] w fun e w' => e = .returned (.bool true) ∧ Ext w w' := by
  obtain ⟨nr, hnr, hnr7⟩ : ∃ nr : Nat, n.tmod 7 = (nr : Int) ∧ nr < 7 := by
    refine ⟨(n % 7).toNat, ?_, ?_⟩
    · rw [Int.tmod_eq_emod_of_nonneg hn0]; omega
    · omega
  have hnr' : n % 7 = (nr : Int) := by rw [← Int.tmod_eq_emod_of_nonneg hn0]; exact hnr
  obtain ⟨kr, hkr, hkr4⟩ : ∃ kr : Nat, kind.tmod 4 = (kr : Int) ∧ kr < 4 := by
    refine ⟨(kind % 4).toNat, ?_, ?_⟩
    · rw [Int.tmod_eq_emod_of_nonneg hk0]; omega
    · omega
  have hkr' : kind % 4 = (kr : Int) := by rw [← Int.tmod_eq_emod_of_nonneg hk0]; exact hkr
  have HAW := Lib.hid (awake_law w hM hF)
  have HM := Lib.hid hM; have HF := Lib.hid hF; have HT := Lib.hid hT
  clear hM hF hT
  go_enter Tryz.func3, Tryz.ntmps3
  go_wp2_with fail
  refine HAW.out.mono ?_
  rintro e W1 ⟨rfl, hx⟩
  have HX1 := Lib.hid hx
  clear hx HAW
  have hkk : kr = 0 ∨ kr = 1 ∨ kr = 2 ∨ kr = 3 := by omega
  rcases hkk with rfl | rfl | rfl | rfl
  · have hq : kind.tmod 4 = 0 := hkr
    have hq' : kind % 4 = 0 := hkr'
    clear hkr hkr'
    go_wp2_with fail
    go_loopw [9] (fun v wr => ∃ (m : Nat) (t : List UInt8), Hid (t = F1 ++ ys m) ∧ v = Str t ∧ t.length = 13 + m ∧ 13 + m + 0 ≤ 4093 + nr ∧ Ext W1 wr) (fun v _ => 5000 - stLen v)
    case atStart => exact ⟨0, F1, Lib.hid rfl, rfl, rfl, by omega, Below.alloc (Below.refl _ _) (Nat.le_refl _) _⟩
    case round =>
      obtain ⟨m, t, HTX, rfl, htl, hle, hx⟩ := hrel
      by_cases hlt : t.length + 0 < 4093 + nr
      · have hlt' : (t.length : Int) + 0 < 4093 + (nr : Int) := by omega
        have hsn := Lib.hid (show t ++ [121] = F1 ++ ys (m + 1) by rw [HTX.out, List.append_assoc, ys_snoc])
        have htl2 : (t ++ [121]).length = 13 + (m + 1) := by rw [List.length_append]; simp; omega
        have HL2 := Lib.hid htl2
        have hst : stLen (Str t) = t.length := stLen_str t
        clear htl2
        go_wp2
        go_roundw
        case rel => exact ⟨m + 1, t ++ [121], hsn, by first | rfl | (simp [Str]; done), HL2.out, by omega, hx⟩
        case measure => have := stLen_str (t ++ [121]); have := HL2.out; first | (simp only [Str] at *; omega) | omega
      · have hlt' : ¬ (t.length : Int) + 0 < 4093 + (nr : Int) := by omega
        have HX := Lib.hid (ext_trans HX1.out hx)
        have HPA := Lib.hid (text_1 m (4093 + nr) (by show 13 + m + 0 = 4093 + nr; omega) (by omega) (by omega) wr (HM.out.ext HX.out) (HF.out.ext HX.out) (HT.out.ext HX.out))
        clear hx
        go_wp2_with fail
        have hpa := HPA.out
        rw [List.append_nil, ← HTX.out] at hpa
        by_cases hz : 4096 < 4093 + nr
        · rw [show codeOf (4093 + nr) = 3 by simp [codeOf, hz]] at hpa
          have hz' : (4096 : Int) < 4093 + (nr : Int) := by omega
          refine hpa.mono ?_
          rintro e W5 ⟨⟨v, rfl, hmv⟩, hx⟩
          obtain ⟨k', f, a, u, nn, x1, x2, x3, y1, y2, y3, i, h, z1, z2, z3, c, rfl⟩ := hmv
          have HX5 := Lib.hid (ext_trans HX.out hx)
          clear hx hpa
          go_wp2
          go_ret
          exact ⟨rfl, ext_trans HX5.out (Below.alloc (Below.refl _ _) (Nat.le_refl _) _)⟩
        · rw [show codeOf (4093 + nr) = 0 by simp [codeOf, hz]] at hpa
          have hz' : ¬ (4096 : Int) < 4093 + (nr : Int) := by omega
          have hz2 : (4093 : Int) + (nr : Int) ≤ 4096 := by omega
          refine hpa.mono ?_
          rintro e W5 ⟨⟨v, rfl, hmv⟩, hx⟩
          obtain ⟨k', f, a, u, nn, x1, x2, x3, y1, y2, y3, i, h, z1, z2, z3, c, rfl⟩ := hmv
          have HX5 := Lib.hid (ext_trans HX.out hx)
          clear hx hpa
          go_wp2
          go_ret
          exact ⟨rfl, ext_trans HX5.out (Below.alloc (Below.refl _ _) (Nat.le_refl _) _)⟩
  · have hq : kind.tmod 4 = 1 := hkr
    have hq' : kind % 4 = 1 := hkr'
    clear hkr hkr'
    go_wp2_with fail
    go_loopw [9] (fun v wr => ∃ (m : Nat) (t : List UInt8), Hid (t = F2 ++ ys m) ∧ v = Str t ∧ t.length = 17 + m ∧ 17 + m + 0 ≤ 4093 + nr ∧ Ext W1 wr) (fun v _ => 5000 - stLen v)
    case atStart => exact ⟨0, F2, Lib.hid rfl, rfl, rfl, by omega, Below.alloc (Below.refl _ _) (Nat.le_refl _) _⟩
    case round =>
      obtain ⟨m, t, HTX, rfl, htl, hle, hx⟩ := hrel
      by_cases hlt : t.length + 0 < 4093 + nr
      · have hlt' : (t.length : Int) + 0 < 4093 + (nr : Int) := by omega
        have hsn := Lib.hid (show t ++ [121] = F2 ++ ys (m + 1) by rw [HTX.out, List.append_assoc, ys_snoc])
        have htl2 : (t ++ [121]).length = 17 + (m + 1) := by rw [List.length_append]; simp; omega
        have HL2 := Lib.hid htl2
        have hst : stLen (Str t) = t.length := stLen_str t
        clear htl2
        go_wp2
        go_roundw
        case rel => exact ⟨m + 1, t ++ [121], hsn, by first | rfl | (simp [Str]; done), HL2.out, by omega, hx⟩
        case measure => have := stLen_str (t ++ [121]); have := HL2.out; first | (simp only [Str] at *; omega) | omega
      · have hlt' : ¬ (t.length : Int) + 0 < 4093 + (nr : Int) := by omega
        have HX := Lib.hid (ext_trans HX1.out hx)
        have HPA := Lib.hid (text_2 m (4093 + nr) (by show 17 + m + 0 = 4093 + nr; omega) (by omega) (by omega) wr (HM.out.ext HX.out) (HF.out.ext HX.out) (HT.out.ext HX.out))
        clear hx
        go_wp2_with fail
        have hpa := HPA.out
        rw [List.append_nil, ← HTX.out] at hpa
        by_cases hz : 4096 < 4093 + nr
        · rw [show codeOf (4093 + nr) = 3 by simp [codeOf, hz]] at hpa
          have hz' : (4096 : Int) < 4093 + (nr : Int) := by omega
          refine hpa.mono ?_
          rintro e W5 ⟨⟨v, rfl, hmv⟩, hx⟩
          obtain ⟨k', f, a, u, nn, x1, x2, x3, y1, y2, y3, i, h, z1, z2, z3, c, rfl⟩ := hmv
          have HX5 := Lib.hid (ext_trans HX.out hx)
          clear hx hpa
          go_wp2
          go_ret
          exact ⟨rfl, ext_trans HX5.out (Below.alloc (Below.refl _ _) (Nat.le_refl _) _)⟩
        · rw [show codeOf (4093 + nr) = 0 by simp [codeOf, hz]] at hpa
          have hz' : ¬ (4096 : Int) < 4093 + (nr : Int) := by omega
          have hz2 : (4093 : Int) + (nr : Int) ≤ 4096 := by omega
          refine hpa.mono ?_
          rintro e W5 ⟨⟨v, rfl, hmv⟩, hx⟩
          obtain ⟨k', f, a, u, nn, x1, x2, x3, y1, y2, y3, i, h, z1, z2, z3, c, rfl⟩ := hmv
          have HX5 := Lib.hid (ext_trans HX.out hx)
          clear hx hpa
          go_wp2
          go_ret
          exact ⟨rfl, ext_trans HX5.out (Below.alloc (Below.refl _ _) (Nat.le_refl _) _)⟩
  · have hq : kind.tmod 4 = 2 := hkr
    have hq' : kind % 4 = 2 := hkr'
    clear hkr hkr'
    have hmk := run_make32
    go_wp2_with fail
    clear hmk
    have hsl : ∀ o, SlB ((W1.alloc o).alloc zeroObj) (.slice (some ⟨W1.heap.size + 1, 0, none⟩) 32 32) zero32 := fun o => by
      have := make32_sl (W1.alloc o)
      rwa [show (W1.alloc o).heap.size = W1.heap.size + 1 by simp] at this
    have hA : ∀ (W : World) o, Ext W (W.alloc o) := fun W o => Below.alloc (Below.refl _ _) (Nat.le_refl _) _
    refine (refEncode_any false _ zero32 _ (hsl _) (by simp [zero32])).mono ?_
    rintro e W2 ⟨he, hx⟩
    rw [enc32] at he
    subst he
    have HX12 := Lib.hid (show Ext W1 W2 from ext_trans (ext_trans (hA _ _) (hA _ _)) hx)
    clear hx hsl hA
    obtain ⟨ev, hev⟩ : ∃ ev, E32 = ev := ⟨_, rfl⟩
    have evl : ev.length = 44 := by rw [← hev]; rfl
    rw [hev]
    have HEV := Lib.hid hev
    clear hev
    go_wp2_with fail
    go_loopw [9] (fun v wr => ∃ (m : Nat) (t : List UInt8), Hid (t = F3 ++ ys m) ∧ v = Str t ∧ t.length = 13 + m ∧ 13 + m + 47 ≤ 4093 + nr ∧ Ext W2 wr) (fun v _ => 5000 - stLen v)
    case atStart => exact ⟨0, F3, Lib.hid rfl, rfl, rfl, by omega, ext_refl _⟩
    case round =>
      obtain ⟨m, t, HTX, rfl, htl, hle, hx⟩ := hrel
      by_cases hlt : t.length + 47 < 4093 + nr
      · have hlt' : (t.length : Int) + 47 < 4093 + (nr : Int) := by omega
        have hsn := Lib.hid (show t ++ [121] = F3 ++ ys (m + 1) by rw [HTX.out, List.append_assoc, ys_snoc])
        have htl2 : (t ++ [121]).length = 13 + (m + 1) := by rw [List.length_append]; simp; omega
        have HL2 := Lib.hid htl2
        have hst : stLen (Str t) = t.length := stLen_str t
        clear htl2
        go_wp2
        go_roundw
        case rel => exact ⟨m + 1, t ++ [121], hsn, by first | rfl | (simp [Str]; done), HL2.out, by omega, hx⟩
        case measure => have := stLen_str (t ++ [121]); have := HL2.out; first | (simp only [Str] at *; omega) | omega
      · have hlt' : ¬ (t.length : Int) + 47 < 4093 + (nr : Int) := by omega
        have HX := Lib.hid (ext_trans HX1.out (ext_trans HX12.out hx))
        have HPA := Lib.hid (text_3 m (4093 + nr) (by show 13 + m + 47 = 4093 + nr; omega) (by omega) (by omega) wr (HM.out.ext HX.out) (HF.out.ext HX.out) (HT.out.ext HX.out))
        clear hx
        go_wp2_with fail
        have hpa := HPA.out
        rw [← HTX.out, show B3 = 44 :: 112 :: 61 :: ev by rw [← HEV.out]; rfl] at hpa
        by_cases hz : 4096 < 4093 + nr
        · rw [show codeOf (4093 + nr) = 3 by simp [codeOf, hz]] at hpa
          have hz' : (4096 : Int) < 4093 + (nr : Int) := by omega
          refine hpa.mono ?_
          rintro e W5 ⟨⟨v, rfl, hmv⟩, hx⟩
          obtain ⟨k', f, a, u, nn, x1, x2, x3, y1, y2, y3, i, h, z1, z2, z3, c, rfl⟩ := hmv
          have HX5 := Lib.hid (ext_trans HX.out hx)
          clear hx hpa
          go_wp2
          go_ret
          exact ⟨rfl, ext_trans HX5.out (Below.alloc (Below.refl _ _) (Nat.le_refl _) _)⟩
        · rw [show codeOf (4093 + nr) = 0 by simp [codeOf, hz]] at hpa
          have hz' : ¬ (4096 : Int) < 4093 + (nr : Int) := by omega
          have hz2 : (4093 : Int) + (nr : Int) ≤ 4096 := by omega
          refine hpa.mono ?_
          rintro e W5 ⟨⟨v, rfl, hmv⟩, hx⟩
          obtain ⟨k', f, a, u, nn, x1, x2, x3, y1, y2, y3, i, h, z1, z2, z3, c, rfl⟩ := hmv
          have HX5 := Lib.hid (ext_trans HX.out hx)
          clear hx hpa
          go_wp2
          go_ret
          exact ⟨rfl, ext_trans HX5.out (Below.alloc (Below.refl _ _) (Nat.le_refl _) _)⟩
  · have hq : kind.tmod 4 = 3 := hkr
    have hq' : kind % 4 = 3 := hkr'
    clear hkr hkr'
    go_wp2_with fail
    go_loopw [9] (fun v wr => ∃ (m : Nat) (t : List UInt8), Hid (t = F4 ++ ys m) ∧ v = Str t ∧ t.length = 6 + m ∧ 6 + m + 0 ≤ 4093 + nr ∧ Ext W1 wr) (fun v _ => 5000 - stLen v)
    case atStart => exact ⟨0, F4, Lib.hid rfl, rfl, rfl, by omega, Below.alloc (Below.refl _ _) (Nat.le_refl _) _⟩
    case round =>
      obtain ⟨m, t, HTX, rfl, htl, hle, hx⟩ := hrel
      by_cases hlt : t.length + 0 < 4093 + nr
      · have hlt' : (t.length : Int) + 0 < 4093 + (nr : Int) := by omega
        have hsn := Lib.hid (show t ++ [121] = F4 ++ ys (m + 1) by rw [HTX.out, List.append_assoc, ys_snoc])
        have htl2 : (t ++ [121]).length = 6 + (m + 1) := by rw [List.length_append]; simp; omega
        have HL2 := Lib.hid htl2
        have hst : stLen (Str t) = t.length := stLen_str t
        clear htl2
        go_wp2
        go_roundw
        case rel => exact ⟨m + 1, t ++ [121], hsn, by first | rfl | (simp [Str]; done), HL2.out, by omega, hx⟩
        case measure => have := stLen_str (t ++ [121]); have := HL2.out; first | (simp only [Str] at *; omega) | omega
      · have hlt' : ¬ (t.length : Int) + 0 < 4093 + (nr : Int) := by omega
        have HX := Lib.hid (ext_trans HX1.out hx)
        have HPA := Lib.hid (text_4 m (4093 + nr) (by show 6 + m + 0 = 4093 + nr; omega) (by omega) (by omega) wr (HM.out.ext HX.out) (HF.out.ext HX.out) (HT.out.ext HX.out))
        clear hx
        go_wp2_with fail
        have hpa := HPA.out
        rw [List.append_nil, ← HTX.out] at hpa
        by_cases hz : 4096 < 4093 + nr
        · rw [show codeOf (4093 + nr) = 3 by simp [codeOf, hz]] at hpa
          have hz' : (4096 : Int) < 4093 + (nr : Int) := by omega
          refine hpa.mono ?_
          rintro e W5 ⟨⟨v, rfl, hmv⟩, hx⟩
          obtain ⟨k', f, a, u, nn, x1, x2, x3, y1, y2, y3, i, h, z1, z2, z3, c, rfl⟩ := hmv
          have HX5 := Lib.hid (ext_trans HX.out hx)
          clear hx hpa
          go_wp2
          go_ret
          exact ⟨rfl, ext_trans HX5.out (Below.alloc (Below.refl _ _) (Nat.le_refl _) _)⟩
        · rw [show codeOf (4093 + nr) = 0 by simp [codeOf, hz]] at hpa
          have hz' : ¬ (4096 : Int) < 4093 + (nr : Int) := by omega
          have hz2 : (4093 : Int) + (nr : Int) ≤ 4096 := by omega
          refine hpa.mono ?_
          rintro e W5 ⟨⟨v, rfl, hmv⟩, hx⟩
          obtain ⟨k', f, a, u, nn, x1, x2, x3, y1, y2, y3, i, h, z1, z2, z3, c, rfl⟩ := hmv
          have HX5 := Lib.hid (ext_trans HX.out hx)
          clear hx hpa
          go_wp2
          go_ret
          exact ⟨rfl, ext_trans HX5.out (Below.alloc (Below.refl _ _) (Nat.le_refl _) _)⟩
end Go.Proofs.YteickmohloglhaaGreatDoor
