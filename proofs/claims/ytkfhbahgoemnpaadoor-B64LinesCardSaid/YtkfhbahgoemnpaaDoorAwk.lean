/-
  awake.
-/
import Derived.Test.YtkfhbahgoemnpaaDoorRows
import Derived.Test.YtkfhbahgoemnpaaDoorCod
import Derived.Lib.SlBytesConst
namespace Go.Proofs.YtkfhbahgoemnpaaDoor
open Go.RowKit

set_option maxRecDepth 100000 in
theorem awk1 : decF [90, 104, 61, 61] = ([], 4) := by decide
set_option maxRecDepth 100000 in
theorem awk2 : decF [90, 61, 61, 61] = ([], 5) := by decide
set_option maxRecDepth 100000 in
theorem awk3 : allL plain true [102] = [90, 103, 61, 61] := by decide
set_option maxRecDepth 100000 in
theorem awk4 : allL plain true [102, 111, 111] = [90, 109, 57, 118] := by decide
theorem sl_lit (w : World) (l : List UInt8) (C : Array Value) (e : TypeId) (f : Nat × Nat) (n : Nat) (hC : C = (l.map Byt).toArray) (hn : n = l.length) (hm : n ≤ maxLen) :
    SlB (w.alloc (.cells C e f)) (.slice (some ⟨w.heap.size, 0, none⟩) n n) l := by
  subst hC; subst hn
  refine ⟨_, l.length, by rw [List.length_map], by simp, hm, (fun h => by cases h), fun j u hu => ?_⟩
  rw [adr_some, Nat.zero_add]
  have hblk : (w.alloc (.cells (l.map Byt).toArray e f)).heap[w.heap.size]? = _ := heap_alloc_new w _
  rw [cell_of_row _ _ j _ _ _ hblk]
  simpa using hu
theorem ext_alloc {w W : World} (h : Ext w W) (o : Obj) : Ext w (W.alloc o) := Below.alloc h h.size o
set_option maxHeartbeats 1000000 in
theorem awake_any (w : World) : Calls Tryd.prog 4 #[] w fun e w' => e = .returned (.bool true) ∧ Ext w w' := by
  have D1 := Lib.hid (fun w => Decode_any [90, 104, 61, 61] w (by simp))
  have D2 := Lib.hid (fun w => Decode_any [90, 61, 61, 61] w (by simp))
  rw [awk1] at D1
  rw [awk2] at D2
  have E1 := Lib.hid (fun v w hv => Encode_any v [102] w hv (by simp))
  have E2 := Lib.hid (fun v w hv => Encode_any v [102, 111, 111] w hv (by simp))
  rw [awk3] at E1
  rw [awk4] at E2
  have kc := fun (w : World) (C : Array Value) (n c : Nat) => Lib.run_convert_bytes_const (P := Tryd.prog) w 29 5 C n c Tryd.underlying29 Tryd.underlying5
  go_enter Tryd.func4, Tryd.ntmps4
  go_wp2_with (first
    | (go_at_call 10; first
        | (with_reducible refine (D1.out _).mono ?_; rintro e W1 ⟨v1, he1, hown1, hext1⟩; subst he1; clear hown1 D1)
        | (with_reducible refine (D2.out _).mono ?_; rintro e W2 ⟨v2, he2, hown2, hext2⟩; subst he2; clear hown2 D2; have HE := Lib.hid (hext1.trans (hext2.mono hext1.size)); clear hext1 hext2))
    | (go_at_call 11; first
        | (refine (E1.out _ _ (sl_lit _ [102] _ _ _ _ rfl rfl (by simp [maxLen]))).mono ?_; rintro e W3 ⟨he3, hext3⟩; subst he3; have HE3 := Lib.hid ((ext_alloc HE.out _).trans (hext3.mono (ext_alloc HE.out _).size)); clear hext3 HE E1)
        | (refine (E2.out _ _ (sl_lit _ [102, 111, 111] _ _ _ _ rfl rfl (by simp [maxLen]))).mono ?_; rintro e W4 ⟨he4, hext4⟩; subst he4; have HE4 := Lib.hid ((ext_alloc HE3.out _).trans (hext4.mono (ext_alloc HE3.out _).size)); clear hext4)))
  go_ret
  exact ⟨rfl, HE4.out⟩
end Go.Proofs.YtkfhbahgoemnpaaDoor
