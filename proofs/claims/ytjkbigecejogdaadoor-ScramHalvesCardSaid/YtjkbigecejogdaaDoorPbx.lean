/-
  A message that is read into a struct (PB); rounds at one; ParseChallenge where it is right.
-/
import Derived.Lib.AppendIntMem
import Derived.Test.YtjkbigecejogdaaDoorRows
import Derived.Test.YtjkbigecejogdaaDoorDen
import Derived.Test.YtjkbigecejogdaaDoorScb
namespace Go.Proofs.YtjkbigecejogdaaDoor
open Go.RowKit
set_option maxRecDepth 100000
attribute [local go_sem] Oper.semAt_some
set_option linter.unusedVariables false
set_option linter.unusedSimpArgs false
/-- Block s: the result; bm: the message; q: the struct that it is read into. -/
structure PB (w : World) (s bm q : Nat) (ty : TypeId) (zs cs : List Value) (bad : Bool) (ps : List (List UInt8)) (W : World) : Prop where
  bel : Below w.heap.size w W
  msg : Msg bm q bad ps W
  loc : W.heap[q]? = some (.cells cs.toArray ty (0, 0))
  res : W.heap[s]? = some (.cells zs.toArray ty (0, 0))
  hs : s = w.heap.size
  h1 : s < bm
  h2 : bm < q
section
variable {w : World} {s bm q : Nat} {ty : TypeId} {zs cs : List Value} {bad : Bool} {ps : List (List UInt8)} {W C : World}
theorem PB.lt (h : PB w s bm q ty zs cs bad ps W) : q < W.heap.size := (Array.getElem?_eq_some_iff.1 h.loc).1
theorem PB.ext (h : PB w s bm q ty zs cs bad ps W) (he : Ext W C) : PB w s bm q ty zs cs bad ps C :=
  ⟨ext_trans h.bel he, h.msg.ext he, ext_at he h.loc, ext_at he h.res, h.hs, h.h1, h.h2⟩
theorem PB.bz {bad' : Bool} {ps' : List (List UInt8)} (h : PB w s bm q ty zs cs bad ps W) (hz : Bz bm W C) (hm : Msg bm q bad' ps' C) : PB w s bm q ty zs cs bad' ps' C := by
  have h0 := h.h1; have h3 := h.h2; have h4 := h.hs
  exact ⟨hz.below h.bel (by omega) (Nat.le_refl _), hm, (hz.block q h.lt (by omega)).trans h.loc, (hz.block s (Array.getElem?_eq_some_iff.1 h.res).1 (by omega)).trans h.res, h.hs, h.h1, h.h2⟩
theorem PB.store (h : PB w s bm q ty zs cs bad ps W) (j : Nat) (u : Value) {cs' : List Value} (hc : cs.set j u = cs') : PB w s bm q ty zs cs' bad ps (W.setCell ⟨q, j, none⟩ u) := by
  have hz := Bz.set W q j u
  have h0 := h.h1; have h3 := h.h2; have h4 := h.hs
  refine ⟨hz.below h.bel (by omega) (Nat.le_refl _), h.msg.chM (hz.block bm h.msg.lt (by omega)) (fun k hk _ hlt => hz.block k hlt (by omega)), ?_, (hz.block s (Array.getElem?_eq_some_iff.1 h.res).1 (by omega)).trans h.res, h.hs, h.h1, h.h2⟩
  have := set_at (j := j) (u := u) h.loc
  rw [this, ← hc]
  simp
theorem PB.cell (h : PB w s bm q ty zs cs bad ps W) (j : Nat) (u : Value) (hj : cs[j]? = some u) : W.cell? ⟨q, j, none⟩ = some u ∧ W.frozen? ⟨q, j, none⟩ = false := by
  refine ⟨?_, by simp [World.frozen?, h.loc]⟩
  simp only [World.cell?, h.loc]
  simpa using hj
theorem OwnP.set {B : Nat} {v : Value} {ps' : List (List UInt8)} (h : OwnP B v ps' W) (k j : Nat) (u : Value) (hk : k < B) : OwnP B v ps' (W.setCell ⟨k, j, none⟩ u) :=
  ownz_keep h fun g hg _ hkk => (Bz.set W k j u).block g (kind_lt hkk) (by omega)
end
structure TabW (W : World) : Prop where
  tab : Lib.TabIs Tryd.prog W "internal/strconv.uint64pow10" .u64 Lib.pow10Tab
theorem TabW.ext {A C : World} (h : TabW A) (he : Ext A C) : TabW C := by
  refine ⟨?_⟩
  have h := h.tab
  unfold Lib.TabIs World.var? at *
  rw [show Tryd.prog.globalNamed "internal/strconv.uint64pow10" = some 2 by kernel_rfl] at h ⊢
  simp only [Option.bind_some] at h ⊢
  have hlt : 2 < A.heap.size := by
    rcases Nat.lt_or_ge 2 A.heap.size with h' | h'
    · exact h'
    · rw [Array.getElem?_eq_none h'] at h; simp at h
  rw [he.block _ hlt]
  exact h
theorem itoa1_any (W : World) (h : TabW W) : Calls Tryd.prog 43 #[.int .i64 1] W fun e w' => e = .returned (Str [49]) ∧ Ext W w' :=
  (Tryd.strconv_Itoa 1 (by omega) (by omega) W h.tab).mono fun e w' ⟨he, k, os, hw⟩ => ⟨by rw [he, show Lib.itoa 1 = [49] by decide +kernel], by rw [hw]; exact Lib.below_grow _ W (Nat.le_refl _) k os⟩
theorem next_at (bm M : Nat) (bad : Bool) (c : UInt8) (t : List UInt8) (r : List (List UInt8)) (w : World) (h : Msg bm M bad ((c :: 61 :: t) :: r) w) :
    Calls Tryd.prog 33 #[.pointer (some ⟨bm, 0, none⟩), Str [c]] w fun e w' => e = .returned (Str t) ∧ Msg bm M bad r w' ∧ Bz bm w w' := next_hit bm M bad (c :: 61 :: t) r w h
theorem nonceM_ok (bm M : Nat) (bad : Bool) (ps : List (List UInt8)) (s : List UInt8) (hl : s.length ≤ 100000) (hs : nonF s = true) (w : World) (h : Msg bm M bad ps w) :
    Calls Tryd.prog 34 #[.pointer (some ⟨bm, 0, none⟩), Str s] w fun e w' => e = .returned (Str s) ∧ Msg bm M bad ps w' ∧ Bz bm w w' := by
  have := nonceM_any bm M bad ps s true w h (fun W => by have h := nonce_scram s hl W; rw [hs] at h; exact h)
  simpa using this
theorem fine_ok (bm M : Nat) (bad : Bool) (ps : List (List UInt8)) (w : World) (h : Msg bm M bad ps w) :
    Calls Tryd.prog 27 #[.pointer (some ⟨bm, 0, none⟩), .bool true] w fun e w' => e = .returned (.tuple #[]) ∧ Msg bm M bad ps w' ∧ Bz bm w w' := by
  have := fine_any bm M bad true ps w h
  simpa using this
theorem rest_ok (vB : List UInt8 → Bool) (bm M : Nat) (xs : List (List UInt8)) (hsm : xs.length ≤ 100000) (w : World) (h : Msg bm M false xs w) (hM : M ≤ w.heap.size) (h2 : ∀ p ∈ xs, 1 ≤ p.length) (hok : xs.all (okA vB) = true)
    (hF : FormsAt w) (hfb : 1 < M) (hfm : 1 ≠ bm) (hv : ∀ p ∈ xs, ∀ W, FormsAt W → Calls Tryd.prog 32 #[Str (p.drop 2)] W fun e w' => e = .returned (.bool (vB p)) ∧ Ext W w') :
    Calls Tryd.prog 35 #[.pointer (some ⟨bm, 0, none⟩), .int .i64 0] w fun e w' => ∃ v, e = .returned v ∧ OwnP w.heap.size v xs w' ∧ Msg bm M false [] w' ∧ Bz bm w w' := by
  have := rest_any vB bm M false xs [] (by simpa using hsm) w (by simpa using h) hM h2 hF hfb hfm hv
  rw [hok] at this
  simpa using this
theorem ended_ok (bm M : Nat) (w : World) (h : Msg bm M false [] w) :
    Calls Tryd.prog 36 #[.pointer (some ⟨bm, 0, none⟩), .bool false] w fun e w' => e = .returned (.int .i64 0) ∧ w' = w := by
  have := ended_any bm M false false w h
  simpa using this
end Go.Proofs.YtjkbigecejogdaaDoor
