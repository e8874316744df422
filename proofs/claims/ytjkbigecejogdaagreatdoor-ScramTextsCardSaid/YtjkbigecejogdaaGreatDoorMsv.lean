/-
 The document's messages as values; ref07.none and done.
-/
import Derived.BigGuardPart
import Derived.Test.YtjkbigecejogdaaGreatDoorRows
import Derived.Test.YtjkbigecejogdaaGreatDoorPrs
import Derived.Test.YtjkbigecejogdaaGreatDoorMsg
namespace Go.Proofs.YtjkbigecejogdaaGreatDoor
open Go.RowKit
set_option maxRecDepth 100000
attribute [local go_sem] Oper.semAt_some
set_option linter.unusedVariables false
set_option linter.unusedSimpArgs false
structure Ms where
 kind : Int
 flag : List UInt8
 authz : List UInt8
 user : List UInt8
 nonce : List UInt8
 ext : List Pr
 salt : List UInt8
 iter : Int
 head : List UInt8
 proof : List UInt8
 code : List UInt8
 deriving DecidableEq
def Ms0 : Ms := ⟨0, [], [], [], [], [], [], 0, [], [], []⟩
@[reducible] def msA (m : Ms) (e s p : Value) : Array Value := #[.int .i64 m.kind, Str m.flag, Str m.authz, Str m.user, Str m.nonce, e, s, .int .i64 m.iter, Str m.head, p, Str m.code]
structure MsR (B : Nat) (w : World) (e s p : Value) (m : Ms) : Prop where
 ext : RowC 2 prC w e m.ext
 salt : SlB w s m.salt
 proof : SlB w p m.proof
 be : ∀ k, rblk e m.ext.length k → B ≤ k
 bs : ∀ k, sblk s (m.salt.map Byt).length k → B ≤ k
 bp : ∀ k, sblk p (m.proof.map Byt).length k → B ≤ k
def MsIs (B : Nat) (w : World) (v : Value) (m : Ms) : Prop := ∃ e s p, v = .agg (msA m e s p) ∧ MsR B w e s p m
theorem MsR.grow {B : Nat} {A C : World} {e s p : Value} {m : Ms} (h : MsR B A e s p m) (he : Ext A C) : MsR B C e s p m := ⟨h.ext.ext he, h.salt.ext he, h.proof.ext he, h.be, h.bs, h.bp⟩
theorem MsR.mono {B C : Nat} {A : World} {e s p : Value} {m : Ms} (h : MsR B A e s p m) (hc : C ≤ B) : MsR C A e s p m := ⟨h.ext, h.salt, h.proof, fun k hk => Nat.le_trans hc (h.be k hk), fun k hk => Nat.le_trans hc (h.bs k hk), fun k hk => Nat.le_trans hc (h.bp k hk)⟩
theorem MsIs.ext {B : Nat} {A C : World} {v : Value} {m : Ms} (h : MsIs B A v m) (he : Ext A C) : MsIs B C v m := by
 obtain ⟨e, s, p, h1, h2⟩ := h
 exact ⟨e, s, p, h1, h2.grow he⟩
theorem MsIs.mono {B C : Nat} {A : World} {v : Value} {m : Ms} (h : MsIs B A v m) (hc : C ≤ B) : MsIs C A v m := by
 obtain ⟨e, s, p, h1, h2⟩ := h
 exact ⟨e, s, p, h1, h2.mono hc⟩
theorem rowP_nil (W : World) : RowC 2 prC W (.slice none 0 0) ([] : List Pr) := ⟨none, 0, rfl, .inl ⟨rfl, rfl⟩, Nat.le_refl _, by simp [maxLen], fun h => absurd rfl h⟩
theorem msR0 (B : Nat) (w : World) (m : Ms) (h1 : m.ext = []) (h2 : m.salt = []) (h3 : m.proof = []) : MsR B w (.slice none 0 0) (.slice none 0 0) (.slice none 0 0) m :=
 ⟨by rw [h1]; exact rowP_nil w, by rw [h2]; exact sl_nil w, by rw [h3]; exact sl_nil w, fun k hk => by rw [h1] at hk; exact absurd hk.1 (by simp), fun k hk => by rw [h2] at hk; exact absurd hk.1 (by simp), fun k hk => by rw [h3] at hk; exact absurd hk.1 (by simp)⟩
theorem own_rblk {W : World} {B b e z n : Nat} {v : Value} {xs : List Value} (h : W.ownsRow B e z v n xs) (hb : b ≤ B) : ∀ k, rblk v n k → b ≤ k := fun k hk => by have := (h.lt k hk.2).1; omega
theorem own_sblk {W : World} {B b e z n : Nat} {v : Value} {xs : List Value} (h : W.ownsRow B e z v n xs) (hb : b ≤ B) (m : Nat) : ∀ k, sblk v m k → b ≤ k := fun k hk => by have := (h.lt k hk.2).1; omega
theorem nil_rblk {b n : Nat} : ∀ k, rblk (.slice none 0 0) n k → b ≤ k := fun k hk => by have := hk.2; simp [Value.ownBlock] at this
theorem nil_sblk {b n : Nat} : ∀ k, sblk (.slice none 0 0) n k → b ≤ k := fun k hk => by have := hk.2; simp [Value.ownBlock] at this
abbrev zerM : Array Value := #[.int .i64 0, Str [], Str [], Str [], Str [], .slice none 0 0, .slice none 0 0, .int .i64 0, Str [], .slice none 0 0, Str []]
theorem cells11 {Z : World} {s t : Nat} {a0 a1 a2 a3 a4 a5 a6 a7 a8 a9 a10 : Value} (h : Z.heap[s]? = some (.cells #[a0, a1, a2, a3, a4, a5, a6, a7, a8, a9, a10] t (0, 0))) : Z.cell? ⟨s, 0, none⟩ = some a0 ∧ Z.cell? ⟨s, 1, none⟩ = some a1 ∧ Z.cell? ⟨s, 2, none⟩ = some a2 ∧ Z.cell? ⟨s, 3, none⟩ = some a3 ∧ Z.cell? ⟨s, 4, none⟩ = some a4 ∧ Z.cell? ⟨s, 5, none⟩ = some a5 ∧ Z.cell? ⟨s, 6, none⟩ = some a6 ∧ Z.cell? ⟨s, 7, none⟩ = some a7 ∧ Z.cell? ⟨s, 8, none⟩ = some a8 ∧ Z.cell? ⟨s, 9, none⟩ = some a9 ∧ Z.cell? ⟨s, 10, none⟩ = some a10 := by
 simp [World.cell?, h]
theorem frozen11 {Z : World} {s t : Nat} {c : Array Value} (h : Z.heap[s]? = some (.cells c t (0, 0))) : Z.frozen? ⟨s, 0, none⟩ = false ∧ Z.frozen? ⟨s, 1, none⟩ = false ∧ Z.frozen? ⟨s, 2, none⟩ = false ∧ Z.frozen? ⟨s, 3, none⟩ = false ∧ Z.frozen? ⟨s, 4, none⟩ = false ∧ Z.frozen? ⟨s, 5, none⟩ = false ∧ Z.frozen? ⟨s, 6, none⟩ = false ∧ Z.frozen? ⟨s, 7, none⟩ = false ∧ Z.frozen? ⟨s, 8, none⟩ = false ∧ Z.frozen? ⟨s, 9, none⟩ = false ∧ Z.frozen? ⟨s, 10, none⟩ = false := by
 simp [World.frozen?, h]
theorem set11 {W : World} {s t : Nat} {a0 a1 a2 a3 a4 a5 a6 a7 a8 a9 a10 : Value} (h : W.heap[s]? = some (.cells #[a0, a1, a2, a3, a4, a5, a6, a7, a8, a9, a10] t (0, 0))) (u0 u1 u2 u3 u4 u5 u6 u7 u8 u9 u10 : Value) :
    ∃ Z, (((((((((((W.setCell ⟨s, 0, none⟩ u0).setCell ⟨s, 1, none⟩ u1).setCell ⟨s, 2, none⟩ u2).setCell ⟨s, 3, none⟩ u3).setCell ⟨s, 4, none⟩ u4).setCell ⟨s, 5, none⟩ u5).setCell ⟨s, 6, none⟩ u6).setCell ⟨s, 7, none⟩ u7).setCell ⟨s, 8, none⟩ u8).setCell ⟨s, 9, none⟩ u9).setCell ⟨s, 10, none⟩ u10) = Z ∧ Z.heap[s]? = some (.cells #[u0, u1, u2, u3, u4, u5, u6, u7, u8, u9, u10] t (0, 0)) ∧ Bz s W Z := by
 have hZ := (set_at (j := 10) (u := u10) (set_at (j := 9) (u := u9) (set_at (j := 8) (u := u8) (set_at (j := 7) (u := u7) (set_at (j := 6) (u := u6) (set_at (j := 5) (u := u5) (set_at (j := 4) (u := u4) (set_at (j := 3) (u := u3) (set_at (j := 2) (u := u2) (set_at (j := 1) (u := u1) (set_at (j := 0) (u := u0) h)))))))))))
 refine ⟨_, rfl, ?_, ((((((((((Bz.set W s 0 u0).trans (Bz.set _ s 1 u1)).trans (Bz.set _ s 2 u2)).trans (Bz.set _ s 3 u3)).trans (Bz.set _ s 4 u4)).trans (Bz.set _ s 5 u5)).trans (Bz.set _ s 6 u6)).trans (Bz.set _ s 7 u7)).trans (Bz.set _ s 8 u8)).trans (Bz.set _ s 9 u9)).trans (Bz.set _ s 10 u10)⟩
 rw [hZ]
 simp only [List.setIfInBounds_toArray, List.set_cons_zero, List.set_cons_succ]
theorem Bz.ext {w W Z : World} (h : Bz w.heap.size W Z) (he : Ext w W) : Ext w Z := h.below he (Nat.le_refl _) (Nat.le_refl _)
theorem Sl.bz {W Z : World} {v : Value} {l : List Value} {q : Nat} (h : Sl W v l) (hz : Bz q W Z) (hq : ∀ k, sblk v l.length k → k ≠ q) : Sl Z v l :=
 h.keep fun k hk => hz.block k (sblk_lt h hk) (hq k hk)
theorem RowC.bz {α : Type} {z : Nat} {f : α → List Value} {W Z : World} {v : Value} {l : List α} {q : Nat} (h : RowC z f W v l) (hf : ∀ x, f x ≠ []) (hz : Bz q W Z) (hq : ∀ k, rblk v l.length k → k ≠ q) : RowC z f Z v l :=
 h.keep fun k hk => hz.block k (rowC_lt h hf hk) (hq k hk)
theorem prC_ne (p : Pr) : prC p ≠ [] := by simp [prC]
theorem MsR.bz {B : Nat} {W Z : World} {e s p : Value} {m : Ms} {q : Nat} (h : MsR B W e s p m) (hz : Bz q W Z) (hq : q < B) : MsR B Z e s p m :=
 ⟨h.ext.bz prC_ne hz fun k hk => by have := h.be k hk; omega, h.salt.bz hz fun k hk => by have := h.bs k hk; omega, h.proof.bz hz fun k hk => by have := h.bp k hk; omega, h.be, h.bs, h.bp⟩
theorem MsIs.bz {B : Nat} {W Z : World} {v : Value} {m : Ms} {q : Nat} (h : MsIs B W v m) (hz : Bz q W Z) (hq : q < B) : MsIs B Z v m := by
 obtain ⟨e, s, p, h1, h2⟩ := h
 exact ⟨e, s, p, h1, h2.bz hz hq⟩
theorem msIs0 (B : Nat) (w : World) : MsIs B w (.agg zerM) Ms0 := ⟨_, _, _, rfl, msR0 B w Ms0 rfl rfl rfl⟩
set_option maxHeartbeats 1000000 in
theorem none_any (c : Int) (w : World) : Calls Tryz.prog 55 #[.int .i64 c] w fun e w' => e = .returned (.tuple #[.agg zerM, .int .i64 c]) ∧ Ext w w' := by
 obtain ⟨W0, hW0⟩ : ∃ W0, w.alloc (.cells zerM 27) = W0 := ⟨_, rfl⟩
 have x0 : Ext w W0 := by rw [← hW0]; exact Below.alloc (Below.refl _ _) (Nat.le_refl _) _
 have r0 : W0.heap[w.heap.size]? = some (.cells zerM 27 (0, 0)) := by rw [← hW0]; exact Array.getElem?_push_size
 have HX := Lib.hid x0; have HR := Lib.hid r0
 obtain ⟨c0, c1, c2, c3, c4, c5, c6, c7, c8, c9, c10⟩ := cells11 r0
 obtain ⟨f0, f1, f2, f3, f4, f5, f6, f7, f8, f9, f10⟩ := frozen11 r0
 clear x0 r0
 go_enter Tryz.func55, Tryz.ntmps55
 go_wp2_with fail
 try rw [hW0]
 obtain ⟨Z, hZ, hr, hb⟩ := set11 HR.out (.int .i64 0) (Str []) (Str []) (Str []) (Str []) (.slice none 0 0) (.slice none 0 0) (.int .i64 0) (Str []) (.slice none 0 0) (Str [])
 rw [hZ]
 refine bodyPost_ret (v := .tuple #[.agg zerM, .int .i64 c]) ?_ rfl ⟨rfl, hb.ext HX.out⟩
 obtain ⟨d0, d1, d2, d3, d4, d5, d6, d7, d8, d9, d10⟩ := cells11 hr
 clear c0 c1 c2 c3 c4 c5 c6 c7 c8 c9 c10 f0 f1 f2 f3 f4 f5 f6 f7 f8 f9 f10 hr hb hZ
 simp [results, loadVar, loadCells, Tryz.isAgg27, Tryz.sizeOf27, Tryz.results55, go_sem, d0, d1, d2, d3, d4, d5, d6, d7, d8, d9, d10]
set_option maxHeartbeats 2000000 in
theorem done_any (m : Ms) (a1 a2 a3 : Option Addr) (n1 n2 n3 k1 k2 k3 : Nat) (d : Bool) (w : World) : Calls Tryz.prog 63 #[.agg (msA m (.slice a1 n1 k1) (.slice a2 n2 k2) (.slice a3 n3 k3)), .bool d] w fun e w' => e = .returned (.tuple #[if d then .agg zerM else .agg (msA m (.slice a1 n1 k1) (.slice a2 n2 k2) (.slice a3 n3 k3)), .int .i64 (if d then 12 else 0)]) ∧ Ext w w' := by
 obtain ⟨W1, hW1⟩ : ∃ W1, w.alloc (.cells (msA m (.slice a1 n1 k1) (.slice a2 n2 k2) (.slice a3 n3 k3)) 27) = W1 := ⟨_, rfl⟩
 have x1 : Ext w W1 := by rw [← hW1]; exact Below.alloc (Below.refl _ _) (Nat.le_refl _) _
 have b1 : W1.heap[w.heap.size]? = some (.cells (msA m (.slice a1 n1 k1) (.slice a2 n2 k2) (.slice a3 n3 k3)) 27 (0, 0)) := by rw [← hW1]; exact Array.getElem?_push_size
 have hs1 : W1.heap.size = w.heap.size + 1 := by rw [← hW1]; exact Array.size_push _
 obtain ⟨W0, hW0⟩ : ∃ W0, W1.alloc (.cells zerM 27) = W0 := ⟨_, rfl⟩
 have x0 : Ext W1 W0 := by rw [← hW0]; exact Below.alloc (Below.refl _ _) (Nat.le_refl _) _
 have r0 : W0.heap[w.heap.size + 1]? = some (.cells zerM 27 (0, 0)) := by rw [← hW0, ← hs1]; exact Array.getElem?_push_size
 have HX := Lib.hid (ext_trans x1 x0); have HR := Lib.hid r0; have HB := Lib.hid (ext_at x0 b1)
 clear x0 x1 r0 b1
 cases d with
 | true =>
   go_enter Tryz.func63, Tryz.ntmps63
   go_wp2_with fail
   try rw [hW1]
   try rw [hW0]
   refine (none_any 12 _).mono ?_
   rintro e W2 ⟨rfl, hx⟩
   have HX2 := Lib.hid (ext_trans HX.out hx)
   have hr2 := ext_at hx HR.out
   have HR2 := Lib.hid hr2
   obtain ⟨c0, c1, c2, c3, c4, c5, c6, c7, c8, c9, c10⟩ := cells11 hr2
   obtain ⟨f0, f1, f2, f3, f4, f5, f6, f7, f8, f9, f10⟩ := frozen11 hr2
   clear hr2 hx HX HR HB hW0 hW1 hs1
   go_wp2_with fail
   obtain ⟨Z, hZ, hr, hb⟩ := set11 HR2.out (.int .i64 0) (Str []) (Str []) (Str []) (Str []) (.slice none 0 0) (.slice none 0 0) (.int .i64 0) (Str []) (.slice none 0 0) (Str [])
   rw [hZ]
   refine bodyPost_ret (v := .tuple #[.agg zerM, .int .i64 12]) ?_ rfl ⟨rfl, hb.below HX2.out (by omega) (Nat.le_refl _)⟩
   obtain ⟨d0, d1, d2, d3, d4, d5, d6, d7, d8, d9, d10⟩ := cells11 hr
   clear c0 c1 c2 c3 c4 c5 c6 c7 c8 c9 c10 f0 f1 f2 f3 f4 f5 f6 f7 f8 f9 f10 hr hb hZ
   simp [results, loadVar, loadCells, Tryz.isAgg27, Tryz.sizeOf27, Tryz.results63, go_sem, d0, d1, d2, d3, d4, d5, d6, d7, d8, d9, d10]
 | false =>
   have hr2 := HR.out
   obtain ⟨c0, c1, c2, c3, c4, c5, c6, c7, c8, c9, c10⟩ := cells11 hr2
   obtain ⟨f0, f1, f2, f3, f4, f5, f6, f7, f8, f9, f10⟩ := frozen11 hr2
   obtain ⟨g0, g1, g2, g3, g4, g5, g6, g7, g8, g9, g10⟩ := cells11 HB.out
   clear hr2 HB
   go_enter Tryz.func63, Tryz.ntmps63
   go_wp2_with fail
   try rw [hW1]
   try rw [hW0]
   obtain ⟨Z, hZ, hr, hb⟩ := set11 HR.out (.int .i64 m.kind) (Str m.flag) (Str m.authz) (Str m.user) (Str m.nonce) (.slice a1 n1 k1) (.slice a2 n2 k2) (.int .i64 m.iter) (Str m.head) (.slice a3 n3 k3) (Str m.code)
   rw [hZ]
   refine bodyPost_ret (v := .tuple #[.agg (msA m (.slice a1 n1 k1) (.slice a2 n2 k2) (.slice a3 n3 k3)), .int .i64 0]) ?_ rfl ⟨rfl, hb.below HX.out (by omega) (Nat.le_refl _)⟩
   obtain ⟨d0, d1, d2, d3, d4, d5, d6, d7, d8, d9, d10⟩ := cells11 hr
   clear c0 c1 c2 c3 c4 c5 c6 c7 c8 c9 c10 f0 f1 f2 f3 f4 f5 f6 f7 f8 f9 f10 g0 g1 g2 g3 g4 g5 g6 g7 g8 g9 g10 hr hb hZ
   simp [results, loadVar, loadCells, Tryz.isAgg27, Tryz.sizeOf27, Tryz.results63, go_sem, d0, d1, d2, d3, d4, d5, d6, d7, d8, d9, d10]
end Go.Proofs.YtjkbigecejogdaaGreatDoor
