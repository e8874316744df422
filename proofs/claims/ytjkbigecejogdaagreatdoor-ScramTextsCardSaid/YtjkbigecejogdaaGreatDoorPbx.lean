/-
 A message that is read into a struct (PB); rounds at one; ParseChallenge where it is right.
-/
import Derived.Lib.AppendIntMem
import Derived.Test.YtjkbigecejogdaaGreatDoorRows
import Derived.Test.YtjkbigecejogdaaGreatDoorDen
import Derived.Test.YtjkbigecejogdaaGreatDoorScb
namespace Go.Proofs.YtjkbigecejogdaaGreatDoor
open Go.RowKit
set_option maxRecDepth 100000
attribute [local go_sem] Oper.semAt_some
set_option linter.unusedVariables false
set_option linter.unusedSimpArgs false
structure PB (w : World) (s bm q : Nat) (ty : TypeId) (zs cs : List Value) (bad : Bool) (ps : List (List UInt8)) (W : World) : Prop where
 bel : Below w.heap.size w W
 msg : Msg bm q bad ps W
 loc : W.heap[q]? = some (.cells cs.toArray ty (0, 0))
 res : W.heap[s]? = some (.cells zs.toArray ty (0, 0))
 hs : s = w.heap.size
 h1 : s < bm
 h2 : bm < q
section
variable {w : World} {s bm q : Nat} {ty : TypeId} {zs cs : List Value} {bad : Bool} {ps : List (List UInt8)} {W C : World}
theorem PB.lt (h : PB w s bm q ty zs cs bad ps W) : q < W.heap.size := (Array.getElem?_eq_some_iff.1 h.loc).1
theorem PB.ext (h : PB w s bm q ty zs cs bad ps W) (he : Ext W C) : PB w s bm q ty zs cs bad ps C :=
 ⟨ext_trans h.bel he, h.msg.ext he, ext_at he h.loc, ext_at he h.res, h.hs, h.h1, h.h2⟩
theorem PB.bz {bad' : Bool} {ps' : List (List UInt8)} (h : PB w s bm q ty zs cs bad ps W) (hz : Bz bm W C) (hm : Msg bm q bad' ps' C) : PB w s bm q ty zs cs bad' ps' C := by
 have h0 := h.h1; have h3 := h.h2; have h4 := h.hs
 exact ⟨hz.below h.bel (by omega) (Nat.le_refl _), hm, (hz.block q h.lt (by omega)).trans h.loc, (hz.block s (Array.getElem?_eq_some_iff.1 h.res).1 (by omega)).trans h.res, h.hs, h.h1, h.h2⟩
theorem PB.store (h : PB w s bm q ty zs cs bad ps W) (j : Nat) (u : Value) {cs' : List Value} (hc : cs.set j u = cs') : PB w s bm q ty zs cs' bad ps (W.setCell ⟨q, j, none⟩ u) := by
 have hz := Bz.set W q j u
 have h0 := h.h1; have h3 := h.h2; have h4 := h.hs
 refine ⟨hz.below h.bel (by omega) (Nat.le_refl _), h.msg.chM (hz.block bm h.msg.lt (by omega)) (fun k hk _ hlt => hz.block k hlt (by omega)), ?_, (hz.block s (Array.getElem?_eq_some_iff.1 h.res).1 (by omega)).trans h.res, h.hs, h.h1, h.h2⟩
 have := set_at (j := j) (u := u) h.loc
 rw [this, ← hc]
 simp
theorem PB.cell (h : PB w s bm q ty zs cs bad ps W) (j : Nat) (u : Value) (hj : cs[j]? = some u) : W.cell? ⟨q, j, none⟩ = some u ∧ W.frozen? ⟨q, j, none⟩ = false := by
 refine ⟨?_, by simp [World.frozen?, h.loc]⟩
 simp only [World.cell?, h.loc]
 simpa using hj
theorem OwnP.set {B : Nat} {v : Value} {ps' : List (List UInt8)} (h : OwnP B v ps' W) (k j : Nat) (u : Value) (hk : k < B) : OwnP B v ps' (W.setCell ⟨k, j, none⟩ u) :=
 ownz_keep h fun g hg _ hkk => (Bz.set W k j u).block g (kind_lt hkk) (by omega)
end
structure TabW (W : World) : Prop where
 tab : Lib.TabIs Tryz.prog W "internal/strconv.uint64pow10" .u64 Lib.pow10Tab
theorem TabW.ext {A C : World} (h : TabW A) (he : Ext A C) : TabW C := by
 refine ⟨?_⟩
 have h := h.tab
 unfold Lib.TabIs World.var? at *
 rw [show Tryz.prog.globalNamed "internal/strconv.uint64pow10" = some 4 by kernel_rfl] at h ⊢
 simp only [Option.bind_some] at h ⊢
 have hlt : 4 < A.heap.size := by
  rcases Nat.lt_or_ge 4 A.heap.size with h' | h'
  ·exact h'
  ·rw [Array.getElem?_eq_none h'] at h; simp at h
 rw [he.block _ hlt]
 exact h
end Go.Proofs.YtjkbigecejogdaaGreatDoor
