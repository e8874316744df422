/-
  strings.IndexByte.
-/
import Derived.Lib.Bytealg
import Derived.WalkKit
import Derived.Test.YtpndahmlbjhdfaaDoorRows
import Derived.Test.YtpndahmlbjhdfaaDoorKit
namespace Go.Proofs.YtpndahmlbjhdfaaDoor
open Go.RowKit
set_option maxRecDepth 100000
set_option linter.unusedVariables false
set_option linter.unusedSimpArgs false

theorem index51_any (l : List UInt8) (c : UInt8) (w : World) :
    Calls Tryd.prog 100 #[Str l, .int .u8 (c.toNat : Int)] w fun e w' => e = .returned (.int .i64 (Lib.indexByte l c)) ∧ w' = w := by
  have hfin : Lib.indexByte (⟨l.toArray⟩ : ByteArray).data.toList ((c.toNat : Int)).toNat.toUInt8 = Lib.indexByte l c := by
    have : ((c.toNat : Int)).toNat.toUInt8 = c := by simp [Nat.toUInt8]
    rw [this]
  go_enter Tryd.func100, Tryd.ntmps100
  go_wp2
  rw [run_callFunc_extern Tryd.func124 (by kernel_rfl) (by kernel_rfl) (by kernel_rfl) (e := Extern.BytealgIndexByte.indexByte) (by kernel_rfl), Lib.run_indexByteString, hfin]
  simp only [Result.andThen]
  rw [Oper.upon_value]
  go_wp2
  go_ret
  exact ⟨rfl, rfl⟩
theorem indexb_any (l : List UInt8) (c : UInt8) (w : World) :
    Calls Tryd.prog 79 #[Str l, .int .u8 (c.toNat : Int)] w fun e w' => e = .returned (.int .i64 (Lib.indexByte l c)) ∧ w' = w := by
  go_enter Tryd.func79, Tryd.ntmps79
  go_wp2_with (go_at_call 100; refine (index51_any _ _ _).mono ?_; rintro e W2 ⟨rfl, rfl⟩)
  go_ret
  exact ⟨rfl, rfl⟩
end Go.Proofs.YtpndahmlbjhdfaaDoor
