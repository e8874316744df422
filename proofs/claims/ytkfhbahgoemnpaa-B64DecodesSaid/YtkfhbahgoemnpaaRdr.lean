/-
  The walk of ref03.Decode, whole.
-/
import Derived.Test.YtkfhbahgoemnpaaRdw
import Derived.Test.YtkfhbahgoemnpaaRdx
import Derived.Test.YtkfhbahgoemnpaaRdy
import Derived.Test.YtkfhbahgoemnpaaRdz
import Derived.Test.YtkfhbahgoemnpaaCan
namespace Go.Proofs.Ytkfhbahgoemnpaa
open Go.RowKit
set_option linter.unusedVariables false
set_option linter.unusedSimpArgs false

theorem refDecode_any (url : Bool) (l : List UInt8) (w : World) (hl : l.length ≤ 1000) :
    Calls Try.prog 24 #[Str l, .bool url] w fun e w' => ∃ v, e = .returned (.tuple #[v, .int .i64 ((refDF url l).2 : Int)]) ∧ w'.ownsRow w.heap.size 5 1 v (refDF url l).1.length ((refDF url l).1.map Byt) ∧ Ext w w' := by
  cases url with
  | true => exact refDecode_true l w hl
  | false =>
    by_cases h1 : l.length % 4 = 0
    · by_cases e0 : l.length = 0
      · obtain rfl : l = [] := List.eq_nil_of_length_eq_zero e0
        have hR := Lib.hid (show refDF false [] = ([], 0) by decide)
        have hb : decide (0 < (([] : List UInt8).length : Int)) = false := by decide
        clear h1 e0
        go_enter Try.func24, Try.ntmps24
        go_wp2
        go_loop [7, 8] (fun b i => b = .slice none 0 0 ∧ i = .int .i64 0) (fun _ _ => 0)
        case atStart => exact ⟨rfl, rfl⟩
        case round =>
          obtain ⟨rfl, rfl⟩ := hrel
          go_wp2
          go_loop [7, 11] (fun b o => b = .slice none 0 0 ∧ o = .slice none 0 0) (fun _ _ => 0)
          case atStart => exact ⟨rfl, rfl⟩
          case round =>
            obtain ⟨rfl, rfl⟩ := hrel
            go_wp2
            go_loop [108] (fun i => i = .int .i64 0) (fun _ => 0)
            case atStart => rfl
            case round =>
              subst hrel
              go_wp2
              go_ret2
              exact ⟨.slice none 0 0, by rw [hR.out]; rfl, by rw [hR.out]; exact World.ownsRow_nil _ _ _ _, Below.refl _ _⟩
      · by_cases e1 : bt l (l.length - 1) = 61
        · by_cases e2 : bt l (l.length - 2) = 61
          · exact refDecode_p2 l w hl h1 (by omega) e1 e2
          · exact refDecode_p1 l w hl h1 (by omega) e1 e2
        · exact refDecode_p0 l w hl h1 (by omega) e1
    · have hf := Lib.hid (show refDF false l = ([], 2) by rw [refDF]; simp [h1])
      have hb0 : (((l.length : Int) % 4) != 0) = true := by simp; omega
      go_enter Try.func24, Try.ntmps24
      go_wp2
      go_ret2
      exact ⟨.slice none 0 0, by rw [hf.out]; rfl, by rw [hf.out]; exact World.ownsRow_nil _ _ _ _, Below.refl _ _⟩
theorem refDF_decF (l : List UInt8) : refDF false l = decF l := by
  rw [decF_ref]; rfl
theorem refDF_decU (l : List UInt8) : refDF true l = decU l := by
  rw [decU_ref]; rfl
end Go.Proofs.Ytkfhbahgoemnpaa
