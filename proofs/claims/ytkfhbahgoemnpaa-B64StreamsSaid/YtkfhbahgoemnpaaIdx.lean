/-
  strings.IndexByte.
-/
import Derived.Lib.Bytealg
import Derived.WalkKit
import Derived.Test.YtkfhbahgoemnpaaRows
import Derived.Test.YtkfhbahgoemnpaaBase
namespace Go.Proofs.Ytkfhbahgoemnpaa
open Go.RowKit
set_option linter.unusedVariables false
set_option linter.unusedSimpArgs false

theorem index51_any (l : List UInt8) (c : UInt8) (w : World) :
    Calls Try.prog 51 #[Str l, .int .u8 (c.toNat : Int)] w fun e w' => e = .returned (.int .i64 (Lib.indexByte l c)) ∧ w' = w := by
  have hfin : Lib.indexByte (⟨l.toArray⟩ : ByteArray).data.toList ((c.toNat : Int)).toNat.toUInt8 = Lib.indexByte l c := by
    have : ((c.toNat : Int)).toNat.toUInt8 = c := by simp [Nat.toUInt8]
    rw [this]
  go_enter Try.func51, Try.ntmps51
  go_wp2
  rw [run_callFunc_extern Try.func58 (by kernel_rfl) (by kernel_rfl) (by kernel_rfl) (e := Extern.BytealgIndexByte.indexByte) (by kernel_rfl), Lib.run_indexByteString, hfin]
  simp only [Result.andThen]
  rw [Oper.upon_value]
  go_wp2
  go_ret
  exact ⟨rfl, rfl⟩
theorem index_any (l : List UInt8) (c : UInt8) (w : World) :
    Calls Try.prog 39 #[Str l, .int .u8 (c.toNat : Int)] w fun e w' => e = .returned (.int .i64 (Lib.indexByte l c)) ∧ w' = w := by
  go_enter Try.func39, Try.ntmps39
  go_wp2_with (go_at_call 51; refine (index51_any _ _ _).mono ?_; rintro e W2 ⟨rfl, rfl⟩)
  go_ret
  exact ⟨rfl, rfl⟩
end Go.Proofs.Ytkfhbahgoemnpaa
