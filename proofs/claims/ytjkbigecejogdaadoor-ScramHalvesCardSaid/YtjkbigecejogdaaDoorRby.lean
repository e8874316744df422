/-
  ref07.bytes, tail, number, Head at every text.
-/
import Derived.BigGuardPart
import Derived.OwnWalk
import Derived.Lib.ItoaLen
import Derived.Deep.LoopGhost
import Derived.Test.YtjkbigecejogdaaDoorRows
import Derived.Test.YtjkbigecejogdaaDoorScc
import Derived.Test.YtjkbigecejogdaaDoorRnd
import Derived.Test.YtjkbigecejogdaaDoorBkb
import Derived.Test.YtjkbigecejogdaaDoorSpt
import Derived.BigQuiet
import Derived.RegionTactic
import Derived.Deep.DrawnRows
import Derived.Test.YtjkbigecejogdaaDoorExd
import Derived.Test.YtjkbigecejogdaaDoorPfl
namespace Go.Proofs.YtjkbigecejogdaaDoor
open Go.RowKit
set_option maxRecDepth 100000
attribute [local go_sem] Oper.semAt_some
set_option linter.unusedVariables false
set_option linter.unusedSimpArgs false
set_option maxHeartbeats 2000000 in
theorem rtail_any (v : Value) (fs : List Pr) (hb : PrOk fs) (w : World) (hr : RowC 2 prC w v fs) :
    Calls Tryd.prog 22 #[v] w fun e w' => e = .returned (Str (extL fs)) ∧ Ext w w' := by
  obtain ⟨ao, cap, hv, hcap, hmax, hcl⟩ := rowP_shape hr
  unfold maxLen at hmax
  subst hv
  have HCL := Lib.hid hcl
  have HIX := Lib.hid (fun g o j h W => index_pair g o fs.length cap j h W)
  have HB := Lib.hid hb
  have hfl := hb.1
  clear hcl hr hb
  go_enter Tryd.func22, Tryd.ntmps22
  go_wp2
  go_loopg [3, 8] fs.length (fun gh s3 s8 wx => ∃ k : Nat, k ≤ fs.length ∧ s8 = .int .i64 (k : Int) ∧ gh = fs.length - k ∧ s3 = Str (extL (fs.take k)) ∧ Hid (Ext w wx))
  case atStart => exact ⟨0, by omega, rfl, by omega, rfl, Lib.hid (ext_refl w)⟩
  case round =>
    obtain ⟨k, hk, rfl, rfl, rfl, HXR⟩ := hrel
    by_cases h3 : k < fs.length
    · rcases HCL.out with h | ⟨g, o, rfl, hcc⟩
      · subst h; simp at h3
      obtain ⟨a0, a1⟩ := hcc k h3
      replace a0 := ext_cell HXR.out a0; replace a1 := ext_cell HXR.out a1
      have i1 := HIX.out g o k h3
      have hmem : fs.getD k prD ∈ fs := by simp [List.getD, h3]
      have hpl1 := HB.out.2 _ hmem
      have HSN := Lib.hid (extL_snoc fs k h3)
      have hbk := extL_len2 (fs.take k) (HB.out.take k)
      generalize extL (fs.take k) = bk at *
      clear hcc
      generalize fs.getD k prD = p at *
      generalize o + 2 * k = q at *
      obtain ⟨pn, pv⟩ := p
      simp only at a0 a1 hpl1 HSN
      obtain ⟨W5, hW5⟩ : ∃ W5, wr.alloc (.cells #[Str pn, Str pv] 42) = W5 := ⟨_, rfl⟩
      have hx5 : Ext wr W5 := by rw [← hW5]; exact Below.alloc (Below.refl _ _) (Nat.le_refl _) _
      have n1 : W5.heap[wr.heap.size]? = some (.cells #[Str pn, Str pv] 42 (0, 0)) := by rw [← hW5]; exact Array.getElem?_push_size
      obtain ⟨k0, k1⟩ := cells2 n1
      have HX5 := Lib.hid (ext_trans HXR.out hx5)
      clear hx5 n1
      go_wp2
      try rw [hW5]
      clear hW5
      go_roundg (fs.length - (k + 1))
      case measure => omega
      case rel => exact ⟨k + 1, by omega, by go_num, rfl, by rw [HSN.out], HX5⟩
    · have hkl : k = fs.length := by omega
      subst hkl
      rw [List.take_length]
      clear h3
      go_wp2
      go_ret
      exact ⟨rfl, HXR.out⟩
/-! ### number -/
def dgs : List UInt8 := [48, 49, 50, 51, 52, 53, 54, 55, 56, 57]
theorem dgs_at : ∀ u, u < 10 → (dgs.drop u).take 1 = [UInt8.ofNat (48 + u)] := by decide
def numL (n : Int) : List UInt8 := if n < 0 then [45] else Lib.decDigits n.toNat
/-! ### Head -/
def rHdF (s : List UInt8) : Bool × Bool := match spl s with
  | [a, b, c] => if c = [] then ((rhdF a b).2.2, (rhdF a b).1 == [112]) else (false, false)
  | _ => (false, false)
theorem rHdF_three (s : List UInt8) (a b c : List UInt8) (h : spl s = [a, b, c]) : rHdF s = if c = [] then ((rhdF a b).2.2, (rhdF a b).1 == [112]) else (false, false) := by
  unfold rHdF; rw [h]
theorem rHdF_not (s : List UInt8) (h : (spl s).length ≠ 3) : rHdF s = (false, false) := by
  unfold rHdF
  split
  · rename_i h2; rw [h2] at h; simp at h
  · rfl
end Go.Proofs.YtjkbigecejogdaaDoor
