/-
  A slice of bytes as a string; r1.Same, r1.Flip.
-/
import Derived.Laws.BytesArg
import Derived.Test.YtjbobblnicnhnaaDoorRows
import Derived.Test.YtjbobblnicnhnaaDoorRange
namespace Go.Proofs.YtjbobblnicnhnaaDoor
open Go.RowKit

theorem map_byt (l : List UInt8) : l.map Byt = (l.map fun c => (c.toNat : Int)).map (Value.int .u8) := by simp [Byt]
theorem run_str {P : Program} {src dst e : TypeId} (hs : P.underlying src = some (.slice e)) (he : P.underlying e = some (.int .u8)) (hd : P.underlying dst = some .string) {W : World} {v : Value} {l : List UInt8} (h : SlB W v l) :
    (convert src dst v).run P W = .ok (Str l) W := by
  obtain ⟨ao, cap, rfl, h1, h2, h3, hc⟩ := h
  rw [List.length_map]
  cases ao with
  | none =>
    have := h3 rfl
    rw [List.length_map] at h1
    obtain rfl : l = [] := List.eq_nil_of_length_eq_zero (by omega)
    rw [run_convert_bytes_string W src dst e _ _ cap hs he hd]
    simp [Conv.bytesToString]
    rfl
  | some a =>
    have hl : (loadCells a l.length).run P W = .ok ((l.map fun c => (c.toNat : Int)).map (Value.int .u8)).toArray W := by
      have := run_loadCells_list (P := P) W a (l.map Byt) (fun j v hj => hc j v hj)
      rw [List.length_map, map_byt] at this
      exact this
    rw [run_convert_bytes_string W src dst e _ _ cap hs he hd, run_bytesToString W _ _ cap _ hl, foldl_push_bytes]
    have : (l.map fun c => (c.toNat : Int)).map (fun n => UInt8.ofNat n.toNat) = l := by
      rw [List.map_map]
      conv => rhs; rw [← List.map_id l]
      exact List.map_congr_left fun c _ => by simp
    rw [this]
    simp [ByteArray.empty, ByteArray.emptyWithCapacity]
    rfl
theorem str_beq (a b : List UInt8) : ((⟨a.toArray⟩ : ByteArray) == ⟨b.toArray⟩) = (a == b) := by
  have h : ∀ x y : ByteArray, (x == y) = decide (x.data = y.data) := by
    intro x y
    cases x; cases y
    show ByteArray.beq _ _ = _
    unfold ByteArray.beq
    rename_i p q
    by_cases e : p = q <;> simp [e]
  rw [h]
  by_cases e : a = b <;> simp [e]
end Go.Proofs.YtjbobblnicnhnaaDoor
