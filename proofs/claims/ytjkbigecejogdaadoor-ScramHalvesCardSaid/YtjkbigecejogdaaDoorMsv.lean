/-
  The document's messages as values; ref07.none and done.
-/
import Derived.BigGuardPart
import Derived.Test.YtjkbigecejogdaaDoorRows
import Derived.Test.YtjkbigecejogdaaDoorPrs
import Derived.Test.YtjkbigecejogdaaDoorMsg
namespace Go.Proofs.YtjkbigecejogdaaDoor
open Go.RowKit
set_option maxRecDepth 100000
attribute [local go_sem] Oper.semAt_some
set_option linter.unusedVariables false
set_option linter.unusedSimpArgs false
/-- A message of any of the four kinds. -/
structure Ms where
  kind : Int
  flag : List UInt8
  authz : List UInt8
  user : List UInt8
  nonce : List UInt8
  ext : List Pr
  salt : List UInt8
  iter : Int
  head : List UInt8
  proof : List UInt8
  code : List UInt8
  deriving DecidableEq
def Ms0 : Ms := ⟨0, [], [], [], [], [], [], 0, [], [], []⟩
@[reducible] def msA (m : Ms) (e s p : Value) : Array Value := #[.int .i64 m.kind, Str m.flag, Str m.authz, Str m.user, Str m.nonce, e, s, .int .i64 m.iter, Str m.head, p, Str m.code]
/-- A message's rows; their blocks lie at or behind B. -/
structure MsR (B : Nat) (w : World) (e s p : Value) (m : Ms) : Prop where
  ext : RowC 2 prC w e m.ext
  salt : SlB w s m.salt
  proof : SlB w p m.proof
  be : ∀ k, rblk e m.ext.length k → B ≤ k
  bs : ∀ k, sblk s (m.salt.map Byt).length k → B ≤ k
  bp : ∀ k, sblk p (m.proof.map Byt).length k → B ≤ k
def MsIs (B : Nat) (w : World) (v : Value) (m : Ms) : Prop := ∃ e s p, v = .agg (msA m e s p) ∧ MsR B w e s p m
theorem MsR.grow {B : Nat} {A C : World} {e s p : Value} {m : Ms} (h : MsR B A e s p m) (he : Ext A C) : MsR B C e s p m := ⟨h.ext.ext he, h.salt.ext he, h.proof.ext he, h.be, h.bs, h.bp⟩
theorem MsR.mono {B C : Nat} {A : World} {e s p : Value} {m : Ms} (h : MsR B A e s p m) (hc : C ≤ B) : MsR C A e s p m := ⟨h.ext, h.salt, h.proof, fun k hk => Nat.le_trans hc (h.be k hk), fun k hk => Nat.le_trans hc (h.bs k hk), fun k hk => Nat.le_trans hc (h.bp k hk)⟩
theorem MsIs.ext {B : Nat} {A C : World} {v : Value} {m : Ms} (h : MsIs B A v m) (he : Ext A C) : MsIs B C v m := by
  obtain ⟨e, s, p, h1, h2⟩ := h
  exact ⟨e, s, p, h1, h2.grow he⟩
theorem MsIs.mono {B C : Nat} {A : World} {v : Value} {m : Ms} (h : MsIs B A v m) (hc : C ≤ B) : MsIs C A v m := by
  obtain ⟨e, s, p, h1, h2⟩ := h
  exact ⟨e, s, p, h1, h2.mono hc⟩
theorem rowP_nil (W : World) : RowC 2 prC W (.slice none 0 0) ([] : List Pr) := ⟨none, 0, rfl, .inl ⟨rfl, rfl⟩, Nat.le_refl _, by simp [maxLen], fun h => absurd rfl h⟩
theorem msR0 (B : Nat) (w : World) (m : Ms) (h1 : m.ext = []) (h2 : m.salt = []) (h3 : m.proof = []) : MsR B w (.slice none 0 0) (.slice none 0 0) (.slice none 0 0) m :=
  ⟨by rw [h1]; exact rowP_nil w, by rw [h2]; exact sl_nil w, by rw [h3]; exact sl_nil w, fun k hk => by rw [h1] at hk; exact absurd hk.1 (by simp), fun k hk => by rw [h2] at hk; exact absurd hk.1 (by simp), fun k hk => by rw [h3] at hk; exact absurd hk.1 (by simp)⟩
/-- Rows of one's own, by their bases. -/
theorem own_rblk {W : World} {B b e z n : Nat} {v : Value} {xs : List Value} (h : W.ownsRow B e z v n xs) (hb : b ≤ B) : ∀ k, rblk v n k → b ≤ k := fun k hk => by have := (h.lt k hk.2).1; omega
theorem own_sblk {W : World} {B b e z n : Nat} {v : Value} {xs : List Value} (h : W.ownsRow B e z v n xs) (hb : b ≤ B) (m : Nat) : ∀ k, sblk v m k → b ≤ k := fun k hk => by have := (h.lt k hk.2).1; omega
theorem nil_rblk {b n : Nat} : ∀ k, rblk (.slice none 0 0) n k → b ≤ k := fun k hk => by have := hk.2; simp [Value.ownBlock] at this
theorem nil_sblk {b n : Nat} : ∀ k, sblk (.slice none 0 0) n k → b ≤ k := fun k hk => by have := hk.2; simp [Value.ownBlock] at this
abbrev zerM : Array Value := #[.int .i64 0, Str [], Str [], Str [], Str [], .slice none 0 0, .slice none 0 0, .int .i64 0, Str [], .slice none 0 0, Str []]
theorem cells11 {Z : World} {s t : Nat} {a0 a1 a2 a3 a4 a5 a6 a7 a8 a9 a10 : Value} (h : Z.heap[s]? = some (.cells #[a0, a1, a2, a3, a4, a5, a6, a7, a8, a9, a10] t (0, 0))) : Z.cell? ⟨s, 0, none⟩ = some a0 ∧ Z.cell? ⟨s, 1, none⟩ = some a1 ∧ Z.cell? ⟨s, 2, none⟩ = some a2 ∧ Z.cell? ⟨s, 3, none⟩ = some a3 ∧ Z.cell? ⟨s, 4, none⟩ = some a4 ∧ Z.cell? ⟨s, 5, none⟩ = some a5 ∧ Z.cell? ⟨s, 6, none⟩ = some a6 ∧ Z.cell? ⟨s, 7, none⟩ = some a7 ∧ Z.cell? ⟨s, 8, none⟩ = some a8 ∧ Z.cell? ⟨s, 9, none⟩ = some a9 ∧ Z.cell? ⟨s, 10, none⟩ = some a10 := by
  simp [World.cell?, h]
theorem frozen11 {Z : World} {s t : Nat} {c : Array Value} (h : Z.heap[s]? = some (.cells c t (0, 0))) : Z.frozen? ⟨s, 0, none⟩ = false ∧ Z.frozen? ⟨s, 1, none⟩ = false ∧ Z.frozen? ⟨s, 2, none⟩ = false ∧ Z.frozen? ⟨s, 3, none⟩ = false ∧ Z.frozen? ⟨s, 4, none⟩ = false ∧ Z.frozen? ⟨s, 5, none⟩ = false ∧ Z.frozen? ⟨s, 6, none⟩ = false ∧ Z.frozen? ⟨s, 7, none⟩ = false ∧ Z.frozen? ⟨s, 8, none⟩ = false ∧ Z.frozen? ⟨s, 9, none⟩ = false ∧ Z.frozen? ⟨s, 10, none⟩ = false := by
  simp [World.frozen?, h]
theorem set11 {W : World} {s t : Nat} {a0 a1 a2 a3 a4 a5 a6 a7 a8 a9 a10 : Value} (h : W.heap[s]? = some (.cells #[a0, a1, a2, a3, a4, a5, a6, a7, a8, a9, a10] t (0, 0))) (u0 u1 u2 u3 u4 u5 u6 u7 u8 u9 u10 : Value) :
    ∃ Z, (((((((((((W.setCell ⟨s, 0, none⟩ u0).setCell ⟨s, 1, none⟩ u1).setCell ⟨s, 2, none⟩ u2).setCell ⟨s, 3, none⟩ u3).setCell ⟨s, 4, none⟩ u4).setCell ⟨s, 5, none⟩ u5).setCell ⟨s, 6, none⟩ u6).setCell ⟨s, 7, none⟩ u7).setCell ⟨s, 8, none⟩ u8).setCell ⟨s, 9, none⟩ u9).setCell ⟨s, 10, none⟩ u10) = Z ∧ Z.heap[s]? = some (.cells #[u0, u1, u2, u3, u4, u5, u6, u7, u8, u9, u10] t (0, 0)) ∧ Bz s W Z := by
  have hZ := (set_at (j := 10) (u := u10) (set_at (j := 9) (u := u9) (set_at (j := 8) (u := u8) (set_at (j := 7) (u := u7) (set_at (j := 6) (u := u6) (set_at (j := 5) (u := u5) (set_at (j := 4) (u := u4) (set_at (j := 3) (u := u3) (set_at (j := 2) (u := u2) (set_at (j := 1) (u := u1) (set_at (j := 0) (u := u0) h)))))))))))
  refine ⟨_, rfl, ?_, ((((((((((Bz.set W s 0 u0).trans (Bz.set _ s 1 u1)).trans (Bz.set _ s 2 u2)).trans (Bz.set _ s 3 u3)).trans (Bz.set _ s 4 u4)).trans (Bz.set _ s 5 u5)).trans (Bz.set _ s 6 u6)).trans (Bz.set _ s 7 u7)).trans (Bz.set _ s 8 u8)).trans (Bz.set _ s 9 u9)).trans (Bz.set _ s 10 u10)⟩
  rw [hZ]
  simp only [List.setIfInBounds_toArray, List.set_cons_zero, List.set_cons_succ]
theorem Bz.ext {w W Z : World} (h : Bz w.heap.size W Z) (he : Ext w W) : Ext w Z := h.below he (Nat.le_refl _) (Nat.le_refl _)
theorem Sl.bz {W Z : World} {v : Value} {l : List Value} {q : Nat} (h : Sl W v l) (hz : Bz q W Z) (hq : ∀ k, sblk v l.length k → k ≠ q) : Sl Z v l :=
  h.keep fun k hk => hz.block k (sblk_lt h hk) (hq k hk)
theorem RowC.bz {α : Type} {z : Nat} {f : α → List Value} {W Z : World} {v : Value} {l : List α} {q : Nat} (h : RowC z f W v l) (hf : ∀ x, f x ≠ []) (hz : Bz q W Z) (hq : ∀ k, rblk v l.length k → k ≠ q) : RowC z f Z v l :=
  h.keep fun k hk => hz.block k (rowC_lt h hf hk) (hq k hk)
theorem prC_ne (p : Pr) : prC p ≠ [] := by simp [prC]
theorem MsR.bz {B : Nat} {W Z : World} {e s p : Value} {m : Ms} {q : Nat} (h : MsR B W e s p m) (hz : Bz q W Z) (hq : q < B) : MsR B Z e s p m :=
  ⟨h.ext.bz prC_ne hz fun k hk => by have := h.be k hk; omega, h.salt.bz hz fun k hk => by have := h.bs k hk; omega, h.proof.bz hz fun k hk => by have := h.bp k hk; omega, h.be, h.bs, h.bp⟩
theorem MsIs.bz {B : Nat} {W Z : World} {v : Value} {m : Ms} {q : Nat} (h : MsIs B W v m) (hz : Bz q W Z) (hq : q < B) : MsIs B Z v m := by
  obtain ⟨e, s, p, h1, h2⟩ := h
  exact ⟨e, s, p, h1, h2.bz hz hq⟩
theorem msIs0 (B : Nat) (w : World) : MsIs B w (.agg zerM) Ms0 := ⟨_, _, _, rfl, msR0 B w Ms0 rfl rfl rfl⟩
end Go.Proofs.YtjkbigecejogdaaDoor
