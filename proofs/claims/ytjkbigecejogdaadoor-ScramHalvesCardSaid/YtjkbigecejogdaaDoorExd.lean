/-
  scram.extensions, scram.extended, scram.sized at every message.
-/
import Derived.BigGuardPart
import Derived.BigQuiet
import Derived.RegionTactic
import Derived.Deep.DrawnRows
import Derived.Deep.LoopGhost
import Derived.Test.YtjkbigecejogdaaDoorRows
import Derived.Test.YtjkbigecejogdaaDoorPrs
import Derived.Test.YtjkbigecejogdaaDoorRug
import Derived.Test.YtjkbigecejogdaaDoorScb
namespace Go.Proofs.YtjkbigecejogdaaDoor
open Go.RowKit
set_option maxRecDepth 100000
attribute [local go_sem ↓] Go.wp_at_zero Go.wp_at_succ
set_option linter.unusedVariables false
set_option linter.unusedSimpArgs false

/-- Extensions as a text. -/
def extL (fs : List Pr) : List UInt8 := fs.flatMap fun p => 44 :: (p.n ++ 61 :: p.v)
theorem extL_snoc (fs : List Pr) (k : Nat) (h : k < fs.length) : extL (fs.take (k + 1)) = extL (fs.take k) ++ (44 :: ((fs.getD k prD).n ++ 61 :: (fs.getD k prD).v)) := by
  unfold extL
  rw [List.take_succ_eq_append_getElem h, List.flatMap_append, show fs.getD k prD = fs[k] by simp [List.getD, h]]
  simp
theorem extL_len (m : Nat) (fs : List Pr) (h : ∀ p ∈ fs, p.n.length + p.v.length ≤ m) : (extL fs).length ≤ (m + 2) * fs.length := by
  induction fs with
  | nil => simp [extL]
  | cons p fs ih =>
    have h1 := h p (by simp)
    have h2 := ih (fun q hq => h q (by simp [hq]))
    unfold extL at *
    have e : (p :: fs).length = fs.length.succ := rfl
    rw [List.flatMap_cons, List.length_append, e, Nat.mul_succ]
    simp at *
    omega
/-- No name and no value too long, not too many. -/
def PrOk (fs : List Pr) : Prop := fs.length ≤ 10000 ∧ ∀ p ∈ fs, p.n.length + p.v.length ≤ 5000
theorem extL_len2 (fs : List Pr) (h : PrOk fs) : (extL fs).length ≤ 50020000 := by
  have h1 := extL_len 5000 fs h.2
  have h2 : (5000 + 2) * fs.length ≤ 5002 * 10000 := Nat.mul_le_mul_left _ h.1
  omega
theorem PrOk.take {fs : List Pr} (h : PrOk fs) (k : Nat) : PrOk (fs.take k) := by
  refine ⟨?_, fun p hp => h.2 p (List.mem_of_mem_take hp)⟩
  rw [List.length_take]; have := h.1; omega
set_option maxHeartbeats 4000000 in
theorem extensions_any (v : Value) (fs : List Pr) (hb : PrOk fs) (w : World) (hr : RowC 2 prC w v fs) :
    Calls Tryd.prog 44 #[v] w fun e w' => e = .returned (Str (extL fs)) ∧ Ext w w' := by
  obtain ⟨ao, cap, hv, hcap, hmax, hcl⟩ := rowP_shape hr
  unfold maxLen at hmax
  subst hv
  have HCL := Lib.hid hcl
  have HIX := Lib.hid (fun g o j h W => index_pair g o fs.length cap j h W)
  have HB := Lib.hid hb
  have hfl := hb.1
  have hel := extL_len2 fs hb
  obtain ⟨W1, hW1⟩ : ∃ W1, w.alloc (.cells #[.pointer none, .slice none 0 0] 72) = W1 := ⟨_, rfl⟩
  have hx1 : Ext w W1 := by rw [← hW1]; exact Below.alloc (Below.refl _ _) (Nat.le_refl _) _
  have hB1 : Bld (w.heap.size + 1) W1 w.heap.size [] := by rw [← hW1]; exact bld_new _ _
  have hs1 : W1.heap.size = w.heap.size + 1 := by rw [← hW1]; show (w.heap.push _).size = _; rw [Array.size_push]
  have HB1 := Lib.hid hB1; have HX1 := Lib.hid hx1
  clear hcl hr hb hx1 hB1
  go_enter Tryd.func44, Tryd.ntmps44
  go_wp2
  try rw [hW1]
  clear hW1
  go_loopg [8] fs.length (fun gh s8 wx => ∃ k : Nat, k ≤ fs.length ∧ s8 = .int .i64 (k : Int) ∧ gh = fs.length - k ∧ Hid (Bld (w.heap.size + 1) wx w.heap.size (extL (fs.take k))) ∧ Hid (Ext w wx) ∧ w.heap.size + 1 ≤ wx.heap.size)
  case atStart => exact ⟨0, by omega, rfl, by omega, Lib.hid (by simpa [extL] using HB1.out), HX1, by omega⟩
  case round =>
    obtain ⟨k, hk, rfl, rfl, HBK, HXR, hszr⟩ := hrel
    by_cases h3 : k < fs.length
    · rcases HCL.out with h | ⟨g, o, rfl, hcc⟩
      · subst h; simp at h3
      obtain ⟨a0, a1⟩ := hcc k h3
      replace a0 := ext_cell HXR.out a0; replace a1 := ext_cell HXR.out a1
      have i1 := HIX.out g o k h3
      have hmem : fs.getD k prD ∈ fs := by simp [List.getD, h3]
      have hpl1 := HB.out.2 _ hmem
      have HSN := Lib.hid (extL_snoc fs k h3)
      have hbk := extL_len2 (fs.take k) (HB.out.take k)
      obtain ⟨bk, hbke⟩ : ∃ l, extL (fs.take k) = l := ⟨_, rfl⟩
      rw [hbke] at HBK hbk HSN
      clear hcc hbke
      generalize fs.getD k prD = p at *
      generalize o + 2 * k = q at *
      obtain ⟨pn, pv⟩ := p
      simp only at a0 a1 hpl1 HSN
      obtain ⟨W5, hW5⟩ : ∃ W5, wr.alloc (.cells #[Str pn, Str pv] 42) = W5 := ⟨_, rfl⟩
      have hx5 : Ext wr W5 := by rw [← hW5]; exact Below.alloc (Below.refl _ _) (Nat.le_refl _) _
      have n1 : W5.heap[wr.heap.size]? = some (.cells #[Str pn, Str pv] 42 (0, 0)) := by rw [← hW5]; exact Array.getElem?_push_size
      obtain ⟨k0, k1⟩ := cells2 n1
      have hs5 := hx5.size
      have HX5 := Lib.hid (ext_trans HXR.out hx5)
      have HW5 := Lib.hid (WriteString_any (w.heap.size + 1) w.heap.size bk (44 :: (pn ++ 61 :: pv)) W5 (HBK.out.ext hx5) (by simp; omega) (by omega))
      clear hx5 n1
      go_wp2_with fail
      try rw [hW5]
      refine HW5.out.mono ?_
      rintro e W6 ⟨he, hB6, hf6⟩
      subst he
      have HX6 := Lib.hid (HX5.out.trans (hf6.below (by omega) (by omega) (by omega)))
      have hsz6 : w.heap.size + 1 ≤ W6.heap.size := by have := hf6.size; omega
      have HB6 := Lib.hid hB6
      clear hB6 hf6 HW5 hW5 k0 k1
      go_wp2_with fail
      go_roundg (fs.length - (k + 1))
      case measure => omega
      case rel => exact ⟨k + 1, by omega, by go_num, rfl, Lib.hid (by rw [HSN.out]; exact HB6.out), HX6, hsz6⟩
    · have hkl : k = fs.length := by omega
      subst hkl
      rw [List.take_length] at HBK
      have HS3 := Lib.hid (String_any (w.heap.size + 1) w.heap.size _ wr HBK.out)
      clear h3
      go_wp2_with fail
      refine HS3.out.mono ?_
      rintro e W4 ⟨he, hf4⟩
      subst he
      have HX4 := Lib.hid (HXR.out.trans (hf4.below (by omega) (by omega) (by omega)))
      clear hf4 HS3
      go_wp2_with fail
      go_ret
      exact ⟨rfl, HX4.out⟩
/-- Is it an extension, of a letter that may be? -/
def rightE (no : List UInt8) (p : Pr) : Bool := decide (p.n.length = 1) && (letB (bt p.n 0) && (valB p.v && (!(p.n == [109]) && !(p.n == no))))
set_option maxHeartbeats 4000000 in
theorem extended_any (v : Value) (fs : List Pr) (no : List UInt8) (hb : PrOk fs) (w : World) (hr : RowC 2 prC w v fs) (hF : FormsAt w) :
    Calls Tryd.prog 41 #[v, Str no] w fun e w' => e = .returned (.bool (fs.all (rightE no))) ∧ Ext w w' := by
  obtain ⟨ao, cap, hv, hcap, hmax, hcl⟩ := rowP_shape hr
  unfold maxLen at hmax
  subst hv
  have HCL := Lib.hid hcl
  have HIX := Lib.hid (fun g o j h W => index_pair g o fs.length cap j h W)
  have HB := Lib.hid hb
  have HF := Lib.hid hF
  have hfl := hb.1
  clear hcl hr hb hF
  go_enter Tryd.func41, Tryd.ntmps41
  go_wp2_with fail
  go_loopw [9] (fun i wr => ∃ k : Nat, k ≤ fs.length ∧ i = .int .i64 k ∧ Hid ((fs.take k).all (rightE no) = true) ∧ Hid (Ext w wr)) (fun i _ => fs.length - (intOf i).toNat)
  case atStart => exact ⟨0, by omega, rfl, Lib.hid rfl, Lib.hid (Below.refl _ _)⟩
  case round =>
    obtain ⟨k, hk, rfl, HALL, HXR⟩ := hrel
    by_cases h3 : k < fs.length
    · rcases HCL.out with h | ⟨g, o, rfl, hcc⟩
      · subst h; simp at h3
      obtain ⟨a0, a1⟩ := hcc k h3
      replace a0 := ext_cell HXR.out a0; replace a1 := ext_cell HXR.out a1
      have i1 := HIX.out g o k h3
      have hmem : fs.getD k prD ∈ fs := by simp [List.getD, h3]
      have hpl1 := HB.out.2 _ hmem
      have HTS := Lib.hid (show (fs.take (k + 1)).all (rightE no) = ((fs.take k).all (rightE no) && rightE no (fs.getD k prD)) by rw [List.take_succ_eq_append_getElem h3, List.all_append, show fs.getD k prD = fs[k] by simp [List.getD, h3]]; simp)
      have hbad : rightE no (fs.getD k prD) = false → fs.all (rightE no) = false := fun h => by
        rw [Bool.eq_false_iff]; intro ha
        rw [List.all_eq_true.1 ha _ hmem] at h; cases h
      have HBAD := Lib.hid hbad
      clear hcc hmem hbad
      generalize fs.getD k prD = p at *
      generalize o + 2 * k = q at *
      obtain ⟨pn, pv⟩ := p
      simp only at a0 a1 hpl1
      have HRF := Lib.hid (show rightE no ⟨pn, pv⟩ = (decide (pn.length = 1) && (letB (bt pn 0) && (valB pv && (!(pn == [109]) && !(pn == no))))) from rfl)
      obtain ⟨W5, hW5⟩ : ∃ W5, wr.alloc (.cells #[Str pn, Str pv] 42) = W5 := ⟨_, rfl⟩
      have hx5 : Ext wr W5 := by rw [← hW5]; exact Below.alloc (Below.refl _ _) (Nat.le_refl _) _
      have n1 : W5.heap[wr.heap.size]? = some (.cells #[Str pn, Str pv] 42 (0, 0)) := by rw [← hW5]; exact Array.getElem?_push_size
      obtain ⟨k0, k1⟩ := cells2 n1
      have HX5 := Lib.hid (ext_trans HXR.out hx5)
      clear hx5 n1
      by_cases hl1 : pn.length = 1
      · have e1 : ((pn.length : Int) != 1) = false := by simp [hl1]
        have hix : ∀ W, (Instr.index 9 (Str pn) (.int .i64 0)).run Tryd.prog W = .ok (Byt (bt pn 0)) W := fun W => run_index_str Tryd.underlying9 pn 0 _ rfl (by omega) W
        have hd1 : decide (pn.length = 1) = true := decide_eq_true hl1
        have HLT := Lib.hid (fun W => sletter_any (bt pn 0) W)
        have HV := Lib.hid (fun W hW => svalue_any pv (by omega) W hW)
        clear hl1
        generalize bt pn 0 = c at *
        go_wp2_with fail
        try rw [hW5]
        clear hW5
        refine (HLT.out _).mono ?_
        rintro e w1 ⟨rfl, hw⟩
        subst w1
        cases ht : letB c with
        | false =>
          have HFX := Lib.hid (HBAD.out (by rw [HRF.out, ht]; simp))
          clear HRF HTS hd1 ht
          go_wp2
          go_ret
          exact ⟨by rw [HFX.out]; rfl, HX5.out⟩
        | true =>
          go_wp2_with fail
          refine (HV.out _ (HF.out.ext HX5.out)).mono ?_
          rintro e W6 ⟨rfl, hx6⟩
          have HX6 := Lib.hid (ext_trans HX5.out hx6)
          have d0 := ext_cell hx6 k0; have d1 := ext_cell hx6 k1
          clear hx6 k0 k1
          cases hx : valB pv with
          | false =>
            have HFX := Lib.hid (HBAD.out (by rw [HRF.out, ht, hx]; simp))
            clear HRF HTS hd1 ht hx
            go_wp2
            go_ret
            exact ⟨by rw [HFX.out]; rfl, HX6.out⟩
          | true =>
            cases hm : (pn == [109]) with
            | true =>
              have HFX := Lib.hid (HBAD.out (by rw [HRF.out, ht, hx, hm]; simp))
              clear HRF HTS hd1 ht hx
              go_wp2
              go_ret
              exact ⟨by rw [HFX.out]; rfl, HX6.out⟩
            | false =>
              cases hn : (pn == no) with
              | true =>
                have HFX := Lib.hid (HBAD.out (by rw [HRF.out, ht, hx, hm, hn]; simp))
                clear HRF HTS hd1 ht hx
                go_wp2
                go_ret
                exact ⟨by rw [HFX.out]; rfl, HX6.out⟩
              | false =>
                have HT := Lib.hid (show (fs.take (k + 1)).all (rightE no) = true by rw [HTS.out, HALL.out, HRF.out, ht, hx, hm, hn, hd1]; rfl)
                clear HRF HTS HBAD hd1 ht hx
                go_wp2
                go_roundw
                case rel => exact ⟨k + 1, by omega, by go_num, HT, HX6⟩
                case measure => simp [intOf] <;> omega
      · have e1 : ((pn.length : Int) != 1) = true := by simp; omega
        have HFX := Lib.hid (HBAD.out (by rw [HRF.out, decide_eq_false hl1]; rfl))
        clear HRF HTS hl1
        go_wp2
        try rw [hW5]
        go_ret
        exact ⟨by rw [HFX.out]; rfl, HX5.out⟩
    · have hkl : k = fs.length := by omega
      subst hkl
      rw [List.take_length] at HALL
      go_wp2
      go_ret
      exact ⟨by rw [HALL.out]; rfl, HXR.out⟩
def sizedV (s : List UInt8) (ok : Bool) : List UInt8 × Int := if ok then (if s.length ≤ 4096 then (s, 0) else ([], 3)) else ([], 4)
set_option maxHeartbeats 400000 in
theorem sized_any (s : List UInt8) (ok : Bool) (w : World) :
    Calls Tryd.prog 38 #[Str s, .bool ok] w fun e w' => e = .returned (.tuple #[Str (sizedV s ok).1, .int .i64 (sizedV s ok).2]) ∧ Ext w w' := by
  have HS := Lib.hid (show sizedV s ok = if ok then (if s.length ≤ 4096 then (s, 0) else ([], 3)) else ([], 4) from rfl)
  generalize sizedV s ok = z at *
  obtain ⟨z1, z2⟩ := z
  cases ok with
  | false =>
    have h := HS.out
    rw [if_neg (by simp)] at h
    injection h with h1 h2
    subst h1 h2
    go_enter Tryd.func38, Tryd.ntmps38
    go_wp2
    go_ret2
    exact ⟨rfl, ext_refl _⟩
  | true =>
    by_cases hl : s.length ≤ 4096
    · have hlen : decide ((4096 : Int) < (s.length : Int)) = false := by simp; omega
      have h := HS.out
      rw [if_pos rfl, if_pos hl] at h
      injection h with h1 h2
      subst h1 h2
      go_enter Tryd.func38, Tryd.ntmps38
      go_wp2
      go_ret2
      exact ⟨rfl, ext_refl _⟩
    · have hlen : decide ((4096 : Int) < (s.length : Int)) = true := by simp; omega
      have h := HS.out
      rw [if_pos rfl, if_neg hl] at h
      injection h with h1 h2
      subst h1 h2
      go_enter Tryd.func38, Tryd.ntmps38
      go_wp2
      go_ret2
      exact ⟨rfl, ext_refl _⟩
end Go.Proofs.YtjkbigecejogdaaDoor
