/-
  A message that is read into a struct, and what stays beside it (PBS); results of three and four cells.
-/
import Derived.BigGuardPart
import Derived.Test.YtjkbigecejogdaaDoorRows
import Derived.Test.YtjkbigecejogdaaDoorPfg
import Derived.Test.YtjkbigecejogdaaDoorRnd
namespace Go.Proofs.YtjkbigecejogdaaDoor
open Go.RowKit
set_option maxRecDepth 100000
set_option linter.unusedVariables false
set_option linter.unusedSimpArgs false
/-- What lies behind q stays. -/
structure Stay (q : Nat) (A W : World) : Prop where
  size : A.heap.size ≤ W.heap.size
  block : ∀ k, q < k → k < A.heap.size → W.heap[k]? = A.heap[k]?
theorem Stay.refl (q : Nat) (A : World) : Stay q A A := ⟨Nat.le_refl _, fun _ _ _ => rfl⟩
theorem Stay.bz {q b : Nat} {A W C : World} (h : Stay q A W) (hz : Bz b W C) (hb : b ≤ q) : Stay q A C :=
  ⟨Nat.le_trans h.size hz.size, fun k hk hl => (hz.block k (Nat.lt_of_lt_of_le hl h.size) (by omega)).trans (h.block k hk hl)⟩
theorem Stay.ext {q : Nat} {A W C : World} (h : Stay q A W) (he : Ext W C) : Stay q A C :=
  ⟨Nat.le_trans h.size he.size, fun k hk hl => (he.block k (Nat.lt_of_lt_of_le hl h.size)).trans (h.block k hk hl)⟩
theorem own_stay {q : Nat} {A W : World} {B e z n : Nat} {v : Value} {xs : List Value} (h : A.ownsRow B e z v n xs) (hs : Stay q A W) (hq : q < B) : W.ownsRow B e z v n xs :=
  ownz_keep h fun g hg _ hkk => hs.block g (by omega) (kind_lt hkk)
theorem own_bz {q : Nat} {A W : World} {B e z n : Nat} {v : Value} {xs : List Value} (h : A.ownsRow B e z v n xs) (hs : Bz q A W) (hq : q < B) : W.ownsRow B e z v n xs :=
  ownz_keep h fun g hg _ hkk => hs.block g (kind_lt hkk) (by omega)
structure PBS (w : World) (s bm q : Nat) (ty : TypeId) (zs cs : List Value) (bad : Bool) (ps : List (List UInt8)) (A : World) (W : World) : Prop where
  pb : PB w s bm q ty zs cs bad ps W
  st : Stay q A W
section
variable {w : World} {s bm q : Nat} {ty : TypeId} {zs cs : List Value} {bad : Bool} {ps : List (List UInt8)} {A W C : World}
theorem PBS.bel (h : PBS w s bm q ty zs cs bad ps A W) : Below w.heap.size w W := h.pb.bel
theorem PBS.msg (h : PBS w s bm q ty zs cs bad ps A W) : Msg bm q bad ps W := h.pb.msg
theorem PBS.loc (h : PBS w s bm q ty zs cs bad ps A W) : W.heap[q]? = some (.cells cs.toArray ty (0, 0)) := h.pb.loc
theorem PBS.res (h : PBS w s bm q ty zs cs bad ps A W) : W.heap[s]? = some (.cells zs.toArray ty (0, 0)) := h.pb.res
theorem PBS.hs (h : PBS w s bm q ty zs cs bad ps A W) : s = w.heap.size := h.pb.hs
theorem PBS.lt (h : PBS w s bm q ty zs cs bad ps A W) : q < W.heap.size := h.pb.lt
theorem PBS.ext (h : PBS w s bm q ty zs cs bad ps A W) (he : Ext W C) : PBS w s bm q ty zs cs bad ps A C := ⟨h.pb.ext he, h.st.ext he⟩
theorem PBS.bz {bad' : Bool} {ps' : List (List UInt8)} (h : PBS w s bm q ty zs cs bad ps A W) (hz : Bz bm W C) (hm : Msg bm q bad' ps' C) : PBS w s bm q ty zs cs bad' ps' A C := ⟨h.pb.bz hz hm, h.st.bz hz (Nat.le_of_lt h.pb.h2)⟩
theorem PBS.store (h : PBS w s bm q ty zs cs bad ps A W) (j : Nat) (u : Value) {cs' : List Value} (hc : cs.set j u = cs') : PBS w s bm q ty zs cs' bad ps A (W.setCell ⟨q, j, none⟩ u) := ⟨h.pb.store j u hc, h.st.bz (Bz.set W q j u) (Nat.le_refl _)⟩
theorem PBS.cell (h : PBS w s bm q ty zs cs bad ps A W) (j : Nat) (u : Value) (hj : cs[j]? = some u) : W.cell? ⟨q, j, none⟩ = some u ∧ W.frozen? ⟨q, j, none⟩ = false := h.pb.cell j u hj
end
theorem cells4s {Z : World} {s t : Nat} {a0 a1 a2 a3 : Value} (h : Z.heap[s]? = some (.cells [a0, a1, a2, a3].toArray t (0, 0))) : Z.cell? ⟨s, 0, none⟩ = some a0 ∧ Z.cell? ⟨s, 1, none⟩ = some a1 ∧ Z.cell? ⟨s, 2, none⟩ = some a2 ∧ Z.cell? ⟨s, 3, none⟩ = some a3 := by
  simp [World.cell?, h]
theorem cells3t {Z : World} {s t : Nat} {a0 a1 a2 : Value} (h : Z.heap[s]? = some (.cells [a0, a1, a2].toArray t (0, 0))) : Z.cell? ⟨s, 0, none⟩ = some a0 ∧ Z.cell? ⟨s, 1, none⟩ = some a1 ∧ Z.cell? ⟨s, 2, none⟩ = some a2 := by
  simp [World.cell?, h]
theorem set4b {W : World} {s t : Nat} {a0 a1 a2 a3 : Value} (h : W.heap[s]? = some (.cells [a0, a1, a2, a3].toArray t (0, 0))) (u0 u1 u2 u3 : Value) :
    ∃ Z, (((W.setCell ⟨s, 0, none⟩ u0).setCell ⟨s, 1, none⟩ u1).setCell ⟨s, 2, none⟩ u2).setCell ⟨s, 3, none⟩ u3 = Z ∧ Z.heap[s]? = some (.cells [u0, u1, u2, u3].toArray t (0, 0)) ∧ Bz s W Z := by
  have hZ := set_at (j := 3) (u := u3) (set_at (j := 2) (u := u2) (set_at (j := 1) (u := u1) (set_at (j := 0) (u := u0) h)))
  refine ⟨_, rfl, ?_, (((Bz.set W s 0 u0).trans (Bz.set _ s 1 u1)).trans (Bz.set _ s 2 u2)).trans (Bz.set _ s 3 u3)⟩
  rw [hZ]
  simp only [List.setIfInBounds_toArray, List.set_cons_zero, List.set_cons_succ]
theorem set3b {W : World} {s t : Nat} {a0 a1 a2 : Value} (h : W.heap[s]? = some (.cells [a0, a1, a2].toArray t (0, 0))) (u0 u1 u2 : Value) :
    ∃ Z, ((W.setCell ⟨s, 0, none⟩ u0).setCell ⟨s, 1, none⟩ u1).setCell ⟨s, 2, none⟩ u2 = Z ∧ Z.heap[s]? = some (.cells [u0, u1, u2].toArray t (0, 0)) ∧ Bz s W Z := by
  have hZ := set_at (j := 2) (u := u2) (set_at (j := 1) (u := u1) (set_at (j := 0) (u := u0) h))
  refine ⟨_, rfl, ?_, ((Bz.set W s 0 u0).trans (Bz.set _ s 1 u1)).trans (Bz.set _ s 2 u2)⟩
  rw [hZ]
  simp only [List.setIfInBounds_toArray, List.set_cons_zero, List.set_cons_succ]
theorem frozen_b {W : World} {b : Nat} {cs : List Value} {t : TypeId} (h : W.heap[b]? = some (.cells cs.toArray t (0, 0))) : W.frozen? ⟨b, 0, none⟩ = false ∧ W.frozen? ⟨b, 1, none⟩ = false ∧ W.frozen? ⟨b, 2, none⟩ = false ∧ W.frozen? ⟨b, 3, none⟩ = false := by simp [World.frozen?, h]
end Go.Proofs.YtjkbigecejogdaaDoor
