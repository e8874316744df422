/-
  (*trace.Trace).Add.
-/
import Derived.WalkSpells
import Derived.BigQuiet
import Derived.Test.YtpndahmlbjhdfaaDoorRows
import Derived.Test.YtpndahmlbjhdfaaDoorTra
import Derived.Test.YtpndahmlbjhdfaaDoorApw
import Derived.Test.YtpndahmlbjhdfaaDoorRcs
namespace Go.Proofs.YtpndahmlbjhdfaaDoor
open Go.RowKit
set_option maxRecDepth 100000
set_option linter.unusedVariables false
set_option linter.unusedSimpArgs false
/-- Blocks of S alone are turned. -/
structure Ch (S : Nat → Prop) (A C : World) : Prop where
  os : C.os = A.os
  tape : C.tape = A.tape
  output : C.output = A.output
  size : A.heap.size ≤ C.heap.size
  block : ∀ k, k < A.heap.size → ¬ S k → C.heap[k]? = A.heap[k]?
theorem Chg.ch {S : Nat → Prop} {A C : World} (h : Chg S A C) : Ch S A C := ⟨h.os, h.tape, h.output, h.size, h.block⟩
theorem Ch.of_ext {S : Nat → Prop} {A C : World} (h : Ext A C) : Ch S A C := ⟨h.os, h.tape, h.output, h.size, fun k hk _ => h.block k hk⟩
theorem Ch.of_grown {S : Nat → Prop} {A C : World} {row : Option Nat} (h : A.grownBy C row) (hs : ∀ k, row = some k → S k) : Ch S A C := ⟨h.os, h.tape, h.output, h.size, fun k hk hn => h.block k hk (fun e => hn (hs k e.symm))⟩
theorem Ch.mono {S T : Nat → Prop} {A C : World} (h : Ch S A C) (hs : ∀ k, S k → T k) : Ch T A C := ⟨h.os, h.tape, h.output, h.size, fun k hk ht => h.block k hk (fun hS => ht (hs k hS))⟩
theorem Ch.trans {S : Nat → Prop} {A B C : World} (h : Ch S A B) (k : Ch S B C) : Ch S A C :=
  ⟨k.os.trans h.os, k.tape.trans h.tape, k.output.trans h.output, Nat.le_trans h.size k.size, fun i hi hs => (k.block i (Nat.lt_of_lt_of_le hi h.size) hs).trans (h.block i hi hs)⟩
theorem Ch.kp {B : Nat} {own S : Nat → Prop} {A C : World} (h : Ch S A C) (hown : ∀ k, own k → k < A.heap.size ∧ ¬ S k) (hs : ∀ k, S k → B ≤ k → k < A.heap.size → ∃ e, kind? A k = some e) : Kp B own A C :=
  ⟨h.size, fun k hk => h.block k (hown k hk).1 (hown k hk).2, fun k hk hB hn => h.block k hk (fun hS => by obtain ⟨e, he⟩ := hs k hS hB hk; rw [hn] at he; cases he)⟩
theorem Ch.below {B : Nat} {S : Nat → Prop} {w A C : World} (h : Below B w A) (hc : Ch S A C) (hs : ∀ k, S k → B ≤ k) (hB : B ≤ w.heap.size) : Below B w C :=
  ⟨hc.os.trans h.os, hc.tape.trans h.tape, hc.output.trans h.output, Nat.le_trans h.size hc.size, fun k hk => (hc.block k (by have := h.size; omega) (fun hS => by have := hs k hS; omega)).trans (h.block k hk)⟩
def addS (S : TrS) (e : Ev) : TrS := ⟨S.room, (S.evs ++ [e]).drop (S.evs.length + 1 - S.room), S.last + 1, shSum (S.chain ++ e.line)⟩
def AddR (B p : Nat) (lv cv : Value) (S : TrS) (ev : Ev) (w : World) (e : Ending) (w' : World) : Prop :=
  (ev.right = false ∧ e = .returned (.tuple #[.int .u64 0, .int .i64 4]) ∧ Ext w w') ∨
  (ev.right = true ∧ e = .returned (.tuple #[.int .u64 ((S.last + 1 : Nat) : Int), .int .i64 0]) ∧ ∃ lv' cv', TrAt B p lv' cv' (addS S ev) w' ∧ Ch (fun k => k = p ∨ lv.ownBlock = some k) w w' ∧
    (∀ k, lv'.ownBlock = some k → lv.ownBlock = some k ∨ w.heap.size ≤ k) ∧ ∀ k, cv'.ownBlock = some k → w.heap.size ≤ k)
/-- A trace that is as it should be. -/
structure TrS.fit (S : TrS) : Prop where
  r1 : 1 ≤ S.room
  r2 : S.room ≤ 256
  el : S.evs.length ≤ S.room
  la : S.last ≤ 1000000
  ch : S.chain.length = 32
theorem addS_fit (S : TrS) (h : S.fit) (e : Ev) (hl : S.last < 1000000) : (addS S e).fit := by
  obtain ⟨h1, h2, h3, h4, h5⟩ := h
  exact ⟨h1, h2, by simp only [addS, List.length_drop, List.length_append, List.length_singleton]; omega, by simp only [addS]; omega, shSum_len _⟩
theorem own_shape_z {w : World} {base e z : Nat} {v : Value} {n : Nat} {xs : List Value} (h : w.ownsRow base e z v n xs) (hn : 0 < n) : ∃ g cap, v = .slice (some ⟨g, 0, none⟩) n cap := by
  rcases h.2 with ⟨_, h0⟩ | ⟨g, cap, cur, hv, _⟩
  · omega
  · exact ⟨g, cap, hv⟩
theorem cells4 {Z : World} {s t : Nat} {a0 a1 a2 a3 : Value} (h : Z.heap[s]? = some (.cells #[a0, a1, a2, a3] t (0, 0))) : Z.cell? ⟨s, 0, none⟩ = some a0 ∧ Z.cell? ⟨s, 1, none⟩ = some a1 ∧ Z.cell? ⟨s, 2, none⟩ = some a2 ∧ Z.cell? ⟨s, 3, none⟩ = some a3 := by
  simp [World.cell?, h]
theorem frozen4 {Z : World} {s t : Nat} {c : Array Value} (h : Z.heap[s]? = some (.cells c t (0, 0))) (j : Nat) : Z.frozen? ⟨s, j, none⟩ = false := by
  simp [World.frozen?, h]
set_option maxHeartbeats 4000000 in
theorem Add_any (B p : Nat) (lv cv : Value) (S : TrS) (hS : S.fit) (at' : Nat) (kind : List UInt8) (conn : Int) (text : List UInt8) (he : (Ev.mk (S.last + 1) at' kind conn text).ok) (w : World) (hp : TrAt B p lv cv S w) (hT : Tw w) :
    Calls Tryd.prog 22 #[.pointer (some ⟨p, 0, none⟩), .int .u64 (at' : Int), Str kind, .int .i64 conn, Str text] w (AddR B p lv cv S ⟨S.last + 1, at', kind, conn, text⟩ w) := by
  have HLn := Lib.hid (show ∀ W, Lt W → Calls Tryd.prog 30 #[.agg #[.int .u64 ((S.last : Int) + 1), .int .u64 (at' : Int), Str kind, .int .i64 conn, Str text]] W fun r w' => r = .returned (if (Ev.mk (S.last + 1) at' kind conn text).right then .tuple #[Str (Ev.mk (S.last + 1) at' kind conn text).line, .int .i64 0] else .tuple #[Str [], .int .i64 4]) ∧ Ext W w' from fun W hW => Line_any ⟨S.last + 1, at', kind, conn, text⟩ he W hW)
  have HLL := Lib.hid (line_len ⟨S.last + 1, at', kind, conn, text⟩ he)
  have HP := Lib.hid hp; have HT := Lib.hid hT; have HF := Lib.hid hS
  obtain ⟨c0, c1, c2, c3⟩ : w.cell? ⟨p, 0, none⟩ = some (.int .i64 (S.room : Int)) ∧ w.cell? ⟨p, 1, none⟩ = some lv ∧ w.cell? ⟨p, 2, none⟩ = some (.int .u64 (S.last : Int)) ∧ w.cell? ⟨p, 3, none⟩ = some cv := by simp [World.cell?, hp.blk]
  have hla := hS.la
  have hlt := (Array.getElem?_eq_some_iff.1 hp.blk).1
  clear hp hT hS he
  generalize hev : (Ev.mk (S.last + 1) at' kind conn text) = ev at *
  have HEV := Lib.hid hev
  go_enter Tryd.func22, Tryd.ntmps22
  go_wp2_with fail
  obtain ⟨W1, hW1⟩ : ∃ W1, w.alloc (.cells #[.int .u64 ((S.last : Int) + 1), .int .u64 (at' : Int), Str kind, .int .i64 conn, Str text] 37) = W1 := ⟨_, rfl⟩
  have hx1 : Ext w W1 := by rw [← hW1]; exact Below.alloc (Below.refl _ _) (Nat.le_refl _) _
  have hb1 : W1.heap[w.heap.size]? = some (.cells #[.int .u64 ((S.last : Int) + 1), .int .u64 (at' : Int), Str kind, .int .i64 conn, Str text] 37 (0, 0)) := by rw [← hW1]; exact Array.getElem?_push_size
  rw [hW1]
  clear hW1 c0 c1 c2 c3
  refine (HLn.out W1 (HT.out.lb.ext hx1)).mono ?_
  rintro e W2 ⟨rfl, hx2⟩
  have HX2 := Lib.hid (ext_trans hx1 hx2)
  have HB2 := Lib.hid (ext_at hx2 hb1)
  clear hx1 hx2 hb1 HLn
  generalize hln : ev.line = ln at *
  have HLN := Lib.hid hln; clear hln
  generalize hok : ev.right = ok at *
  have HOK := Lib.hid hok; clear hok hev
  cases ok with
  | false =>
    go_wp2
    go_ret2
    exact .inl ⟨HOK.out, rfl, HX2.out⟩
  | true =>
    have hlr := HLL.out rfl
    have HLK : Hid (∀ W', Ext W2 W' → Calls Tryd.prog 43 #[cv, Str ln] W' fun e w'' => ∃ v', e = .returned v' ∧ OwnB W2.heap.size v' (shSum (S.chain ++ ln)) w'' ∧ Ext W' w'') := Lib.hid (fun W' hx =>
      (linked_any cv S.chain ln (by have := HF.out.ch; omega) (by omega) W' (HP.out.ch.sl.ext (ext_trans HX2.out hx)) (HT.out.ext (ext_trans HX2.out hx))).mono fun _ _ ⟨v', he, ho, hy⟩ => ⟨v', he, own_base ho hx.size, hy⟩)
    have HPC : Hid (∀ W', Ext W2 W' → W'.heap[p]? = some (.cells #[.int .i64 (S.room : Int), lv, .int .u64 (S.last : Int), cv] 81 (0, 0))) := Lib.hid (fun W' hx => ext_at (ext_trans HX2.out hx) HP.out.blk)
    have HPS : Hid (∀ W', Ext W2 W' → ∀ x, (W'.setCell ⟨p, 2, none⟩ x).heap[p]? = some (.cells #[.int .i64 (S.room : Int), lv, x, cv] 81 (0, 0))) := Lib.hid (fun W' hx x => by
      have := set_at (j := 2) (u := x) (HPC.out W' hx)
      exact this)
    go_wp2
    -- inv {'W': [('Y0', "L 12 = false → Ext W2 w'", '(fun _ => Below.drew (Below.refl _ W2))'), ('X1', "L 12 = true → L 15 = false → ∃ Z, Ext W2 Z ∧ OwnB W2.heap.size (u 45) (shSum (S.chain ++ ln)) Z ∧ w' = Z.setCell ⟨p, 2, none⟩ (.int .u64 ((S.last : Int) + 1))", '(fun h => by cases h)'), ('Y2', "L 15 = true → ∃ Z, Ext W2 Z ∧ OwnB W2.heap.size (u 45) (shSum (S.chain ++ ln)) Z ∧ w' = (Z.setCell ⟨p, 2, none⟩ (.int .u64 ((S.last : Int) + 1))).setCell ⟨p, 3, none⟩ (u 45)", '(fun h => by cases h)')], 'ops': [('mv', 36, 0, '.pointer (some ⟨p, 0, none⟩)'), ('mv', 37, 0, '.pointer (some ⟨p, 0, none⟩)'), ('fa', 38, 12, '.pointer (some ⟨w.heap.size, 0, none⟩)', '.pointer (some ⟨w.heap.size, 0, none⟩)'), ('lf', 39, 2, '.int .u64 ((S.last : Int) + 1)', 'obtain ⟨d0, d1, d2, d3, d4⟩ := cells5 (ext_at (Y0 (hcl.not 12 (by kernel_rfl) hL)) HB2.out)'), ('mv', 40, 0, '.pointer (some ⟨p, 0, none⟩)'), ('op', 41, [4], '.pointer (some ⟨p, 0, none⟩)'), ('op', 42, [5], '.pointer (some ⟨p, 3, none⟩)'), ('lf', 43, 6, 'cv', 'obtain ⟨d0, d1, d2, d3⟩ := cells4 (HPC.out _ (Y0 (hcl.not 12 (by kernel_rfl) hL)))'), ('mv', 44, 13, 'Str ln'), ('callx', 45, [7, 8], "HLK.out w' (Y0 (hcl.not 12 (by kernel_rfl) hL))", "OwnB W2.heap.size (u 45) (shSum (S.chain ++ ln)) w'", 12), ('op', 46, [0], '.pointer (some ⟨p, 0, none⟩)'), ('op', 47, [10], '.pointer (some ⟨p, 2, none⟩)'), ('st', None, [11, 3], "obtain ⟨d0, d1, d2, d3⟩ := cells4 (HPC.out _ (Y0 hL)); have f2 := frozen4 (HPC.out _ (Y0 hL)) 2"), ('op', 48, [1], '.pointer (some ⟨p, 0, none⟩)'), ('op', 49, [13], '.pointer (some ⟨p, 3, none⟩)'), ('st', None, [14], "obtain ⟨Z, z1, z2, z3⟩ := X1 (hp.of 12 (by kernel_rfl)) hL; subst z3; obtain ⟨g9, cp9, hs9, _⟩ := own_shape z2 (by rw [shSum_len]; omega); have e9 := (hT 45).trans hs9; obtain ⟨d0, d1, d2, d3⟩ := cells4 (HPC.out Z z1); have f3 := frozen4 (HPC.out Z z1) 3")], 'over': {9: {'Y0': 'fun h => ext_trans (Y0 (by simpa using h)) hx1', 'X1': 'fun h => absurd h (by simp [hcl.not 12 (by kernel_rfl) hL])', 'Y2': 'fun h => absurd h (by simp [hcl.not 15 (by kernel_rfl) hL])'}, 12: {'Y0': 'fun h => absurd h (by simp)', 'X1': "fun _ _ => ⟨w', Y0 hL, C9 (hp.of 9 (by kernel_rfl)) hL, rfl⟩", 'Y2': 'fun h => absurd h (by simp [hcl.not 15 (by kernel_rfl) hL])', 'C9': 'fun _ h => absurd h (by simp)'}, 15: {'Y0': 'fun h => absurd h (by simp [hp.of 12 (by kernel_rfl)])', 'X1': 'fun _ h => absurd h (by simp)', 'Y2': 'fun _ => ⟨Z, z1, z2, by rw [hs9]⟩', 'C9': 'fun _ h => absurd h (by simp [hp.of 12 (by kernel_rfl)])'}}, 'fin': [('Y2', 15)]}
    refine wp_region_any (by kernel_rfl) ?_
    change wpAny _ _ _ _ _ _ _ (World.drew _)
    refine wpAny_inv (n := 16) [36, 37, 38, 39, 40, 41, 42, 43, 44, 45, 46, 47, 48, 49] (fun u L w' =>
        (L 0 = true → u 36 = .pointer (some ⟨p, 0, none⟩)) ∧
        (L 1 = true → u 37 = .pointer (some ⟨p, 0, none⟩)) ∧
        (L 2 = true → u 38 = .pointer (some ⟨w.heap.size, 0, none⟩)) ∧
        (L 3 = true → u 39 = .int .u64 ((S.last : Int) + 1)) ∧
        (L 4 = true → u 40 = .pointer (some ⟨p, 0, none⟩)) ∧
        (L 5 = true → u 41 = .pointer (some ⟨p, 0, none⟩)) ∧
        (L 6 = true → u 42 = .pointer (some ⟨p, 3, none⟩)) ∧
        (L 7 = true → u 43 = cv) ∧
        (L 8 = true → u 44 = Str ln) ∧
        (L 9 = true → L 12 = false → OwnB W2.heap.size (u 45) (shSum (S.chain ++ ln)) w') ∧
        (L 10 = true → u 46 = .pointer (some ⟨p, 0, none⟩)) ∧
        (L 11 = true → u 47 = .pointer (some ⟨p, 2, none⟩)) ∧
        (L 13 = true → u 48 = .pointer (some ⟨p, 0, none⟩)) ∧
        (L 14 = true → u 49 = .pointer (some ⟨p, 3, none⟩)) ∧
        (L 12 = false → Ext W2 w') ∧
        (L 12 = true → L 15 = false → ∃ Z, Ext W2 Z ∧ OwnB W2.heap.size (u 45) (shSum (S.chain ++ ln)) Z ∧ w' = Z.setCell ⟨p, 2, none⟩ (.int .u64 ((S.last : Int) + 1))) ∧
        (L 15 = true → ∃ Z, Ext W2 Z ∧ OwnB W2.heap.size (u 45) (shSum (S.chain ++ ln)) Z ∧ w' = (Z.setCell ⟨p, 2, none⟩ (.int .u64 ((S.last : Int) + 1))).setCell ⟨p, 3, none⟩ (u 45)))
      (by rfl) (by kernel_rfl) (by kernel_rfl) (by rfl) ?_ ?_ ?_
    · exact ⟨(fun h => by cases h), (fun h => by cases h), (fun h => by cases h), (fun h => by cases h), (fun h => by cases h), (fun h => by cases h), (fun h => by cases h), (fun h => by cases h), (fun h => by cases h), (fun h => by cases h), (fun h => by cases h), (fun h => by cases h), (fun h => by cases h), (fun h => by cases h), (fun _ => Below.drew (Below.refl _ W2)), (fun h => by cases h), (fun h => by cases h)⟩
    · refine ⟨⟨⟨⟨⟨⟨⟨⟨⟨⟨⟨⟨⟨⟨⟨⟨trivial, ?_⟩, ?_⟩, ?_⟩, ?_⟩, ?_⟩, ?_⟩, ?_⟩, ?_⟩, ?_⟩, ?_⟩, ?_⟩, ?_⟩, ?_⟩, ?_⟩, ?_⟩, ?_⟩
      · refine stepOk_some (i := 0) (by rfl) (by rfl) ?_
        rintro u L T w' hT hu hL hp hcl ⟨C0, C1, C2, C3, C4, C5, C6, C7, C8, C9, C10, C11, C13, C14, Y0, X1, Y2⟩ K hK
        have e1 : u 0 = .pointer (some ⟨p, 0, none⟩) := hu 0 (by decide)
        go_simp
        refine hK _ _ ?_
        exact ⟨fun _ => rfl, fun h => C1 (by simpa using h), fun h => C2 (by simpa using h), fun h => C3 (by simpa using h), fun h => C4 (by simpa using h), fun h => C5 (by simpa using h), fun h => C6 (by simpa using h), fun h => C7 (by simpa using h), fun h => C8 (by simpa using h), fun h h2 => C9 (by simpa using h) (by simpa using h2), fun h => C10 (by simpa using h), fun h => C11 (by simpa using h), fun h => C13 (by simpa using h), fun h => C14 (by simpa using h), fun h => Y0 (by simpa using h), fun h h2 => X1 (by simpa using h) (by simpa using h2), fun h => Y2 (by simpa using h)⟩
      · refine stepOk_some (i := 1) (by rfl) (by rfl) ?_
        rintro u L T w' hT hu hL hp hcl ⟨C0, C1, C2, C3, C4, C5, C6, C7, C8, C9, C10, C11, C13, C14, Y0, X1, Y2⟩ K hK
        have e1 : u 0 = .pointer (some ⟨p, 0, none⟩) := hu 0 (by decide)
        go_simp
        refine hK _ _ ?_
        exact ⟨fun h => C0 (by simpa using h), fun _ => rfl, fun h => C2 (by simpa using h), fun h => C3 (by simpa using h), fun h => C4 (by simpa using h), fun h => C5 (by simpa using h), fun h => C6 (by simpa using h), fun h => C7 (by simpa using h), fun h => C8 (by simpa using h), fun h h2 => C9 (by simpa using h) (by simpa using h2), fun h => C10 (by simpa using h), fun h => C11 (by simpa using h), fun h => C13 (by simpa using h), fun h => C14 (by simpa using h), fun h => Y0 (by simpa using h), fun h h2 => X1 (by simpa using h) (by simpa using h2), fun h => Y2 (by simpa using h)⟩
      · refine stepOk_some (i := 2) (by rfl) (by rfl) ?_
        rintro u L T w' hT hu hL hp hcl ⟨C0, C1, C2, C3, C4, C5, C6, C7, C8, C9, C10, C11, C13, C14, Y0, X1, Y2⟩ K hK
        have e1 : u 12 = .pointer (some ⟨w.heap.size, 0, none⟩) := hu 12 (by decide)
        go_simp
        refine hK _ _ ?_
        exact ⟨fun h => C0 (by simpa using h), fun h => C1 (by simpa using h), fun _ => rfl, fun h => C3 (by simpa using h), fun h => C4 (by simpa using h), fun h => C5 (by simpa using h), fun h => C6 (by simpa using h), fun h => C7 (by simpa using h), fun h => C8 (by simpa using h), fun h h2 => C9 (by simpa using h) (by simpa using h2), fun h => C10 (by simpa using h), fun h => C11 (by simpa using h), fun h => C13 (by simpa using h), fun h => C14 (by simpa using h), fun h => Y0 (by simpa using h), fun h h2 => X1 (by simpa using h) (by simpa using h2), fun h => Y2 (by simpa using h)⟩
      · refine stepOk_some (i := 3) (by rfl) (by rfl) ?_
        rintro u L T w' hT hu hL hp hcl ⟨C0, C1, C2, C3, C4, C5, C6, C7, C8, C9, C10, C11, C13, C14, Y0, X1, Y2⟩ K hK
        have e2 := C2 (hp.of 2 (by kernel_rfl))
        obtain ⟨d0, d1, d2, d3, d4⟩ := cells5 (ext_at (Y0 (hcl.not 12 (by kernel_rfl) hL)) HB2.out)
        go_simp
        refine hK _ _ ?_
        exact ⟨fun h => C0 (by simpa using h), fun h => C1 (by simpa using h), fun h => C2 (by simpa using h), fun _ => rfl, fun h => C4 (by simpa using h), fun h => C5 (by simpa using h), fun h => C6 (by simpa using h), fun h => C7 (by simpa using h), fun h => C8 (by simpa using h), fun h h2 => C9 (by simpa using h) (by simpa using h2), fun h => C10 (by simpa using h), fun h => C11 (by simpa using h), fun h => C13 (by simpa using h), fun h => C14 (by simpa using h), fun h => Y0 (by simpa using h), fun h h2 => X1 (by simpa using h) (by simpa using h2), fun h => Y2 (by simpa using h)⟩
      · refine stepOk_some (i := 4) (by rfl) (by rfl) ?_
        rintro u L T w' hT hu hL hp hcl ⟨C0, C1, C2, C3, C4, C5, C6, C7, C8, C9, C10, C11, C13, C14, Y0, X1, Y2⟩ K hK
        have e1 : u 0 = .pointer (some ⟨p, 0, none⟩) := hu 0 (by decide)
        go_simp
        refine hK _ _ ?_
        exact ⟨fun h => C0 (by simpa using h), fun h => C1 (by simpa using h), fun h => C2 (by simpa using h), fun h => C3 (by simpa using h), fun _ => rfl, fun h => C5 (by simpa using h), fun h => C6 (by simpa using h), fun h => C7 (by simpa using h), fun h => C8 (by simpa using h), fun h h2 => C9 (by simpa using h) (by simpa using h2), fun h => C10 (by simpa using h), fun h => C11 (by simpa using h), fun h => C13 (by simpa using h), fun h => C14 (by simpa using h), fun h => Y0 (by simpa using h), fun h h2 => X1 (by simpa using h) (by simpa using h2), fun h => Y2 (by simpa using h)⟩
      · refine stepOk_some (i := 5) (by rfl) (by rfl) ?_
        rintro u L T w' hT hu hL hp hcl ⟨C0, C1, C2, C3, C4, C5, C6, C7, C8, C9, C10, C11, C13, C14, Y0, X1, Y2⟩ K hK
        have e4 := C4 (hp.of 4 (by kernel_rfl))
        go_simp
        try go_bits
        try (rw [if_neg (by omega)]; go_simp)
        try (rw [if_pos (by omega)]; go_simp)
        refine hK _ _ ?_
        exact ⟨fun h => C0 (by simpa using h), fun h => C1 (by simpa using h), fun h => C2 (by simpa using h), fun h => C3 (by simpa using h), fun h => C4 (by simpa using h), fun _ => rfl, fun h => C6 (by simpa using h), fun h => C7 (by simpa using h), fun h => C8 (by simpa using h), fun h h2 => C9 (by simpa using h) (by simpa using h2), fun h => C10 (by simpa using h), fun h => C11 (by simpa using h), fun h => C13 (by simpa using h), fun h => C14 (by simpa using h), fun h => Y0 (by simpa using h), fun h h2 => X1 (by simpa using h) (by simpa using h2), fun h => Y2 (by simpa using h)⟩
      · refine stepOk_some (i := 6) (by rfl) (by rfl) ?_
        rintro u L T w' hT hu hL hp hcl ⟨C0, C1, C2, C3, C4, C5, C6, C7, C8, C9, C10, C11, C13, C14, Y0, X1, Y2⟩ K hK
        have e5 := C5 (hp.of 5 (by kernel_rfl))
        go_simp
        try go_bits
        try (rw [if_neg (by omega)]; go_simp)
        try (rw [if_pos (by omega)]; go_simp)
        refine hK _ _ ?_
        exact ⟨fun h => C0 (by simpa using h), fun h => C1 (by simpa using h), fun h => C2 (by simpa using h), fun h => C3 (by simpa using h), fun h => C4 (by simpa using h), fun h => C5 (by simpa using h), fun _ => rfl, fun h => C7 (by simpa using h), fun h => C8 (by simpa using h), fun h h2 => C9 (by simpa using h) (by simpa using h2), fun h => C10 (by simpa using h), fun h => C11 (by simpa using h), fun h => C13 (by simpa using h), fun h => C14 (by simpa using h), fun h => Y0 (by simpa using h), fun h h2 => X1 (by simpa using h) (by simpa using h2), fun h => Y2 (by simpa using h)⟩
      · refine stepOk_some (i := 7) (by rfl) (by rfl) ?_
        rintro u L T w' hT hu hL hp hcl ⟨C0, C1, C2, C3, C4, C5, C6, C7, C8, C9, C10, C11, C13, C14, Y0, X1, Y2⟩ K hK
        have e6 := C6 (hp.of 6 (by kernel_rfl))
        obtain ⟨d0, d1, d2, d3⟩ := cells4 (HPC.out _ (Y0 (hcl.not 12 (by kernel_rfl) hL)))
        go_simp
        refine hK _ _ ?_
        exact ⟨fun h => C0 (by simpa using h), fun h => C1 (by simpa using h), fun h => C2 (by simpa using h), fun h => C3 (by simpa using h), fun h => C4 (by simpa using h), fun h => C5 (by simpa using h), fun h => C6 (by simpa using h), fun _ => rfl, fun h => C8 (by simpa using h), fun h h2 => C9 (by simpa using h) (by simpa using h2), fun h => C10 (by simpa using h), fun h => C11 (by simpa using h), fun h => C13 (by simpa using h), fun h => C14 (by simpa using h), fun h => Y0 (by simpa using h), fun h h2 => X1 (by simpa using h) (by simpa using h2), fun h => Y2 (by simpa using h)⟩
      · refine stepOk_some (i := 8) (by rfl) (by rfl) ?_
        rintro u L T w' hT hu hL hp hcl ⟨C0, C1, C2, C3, C4, C5, C6, C7, C8, C9, C10, C11, C13, C14, Y0, X1, Y2⟩ K hK
        have e1 : u 13 = Str ln := hu 13 (by decide)
        go_simp
        refine hK _ _ ?_
        exact ⟨fun h => C0 (by simpa using h), fun h => C1 (by simpa using h), fun h => C2 (by simpa using h), fun h => C3 (by simpa using h), fun h => C4 (by simpa using h), fun h => C5 (by simpa using h), fun h => C6 (by simpa using h), fun h => C7 (by simpa using h), fun _ => rfl, fun h h2 => C9 (by simpa using h) (by simpa using h2), fun h => C10 (by simpa using h), fun h => C11 (by simpa using h), fun h => C13 (by simpa using h), fun h => C14 (by simpa using h), fun h => Y0 (by simpa using h), fun h h2 => X1 (by simpa using h) (by simpa using h2), fun h => Y2 (by simpa using h)⟩
      · refine stepOk_some (i := 9) (by rfl) (by rfl) ?_
        rintro u L T w' hT hu hL hp hcl ⟨C0, C1, C2, C3, C4, C5, C6, C7, C8, C9, C10, C11, C13, C14, Y0, X1, Y2⟩ K hK
        have e7 := C7 (hp.of 7 (by kernel_rfl))
        have e8 := C8 (hp.of 8 (by kernel_rfl))
        go_simp
        refine Calls.mono (HLK.out w' (Y0 (hcl.not 12 (by kernel_rfl) hL))) ?_
        rintro e w1 ⟨v1, he, hr1, hx1⟩
        subst he
        refine hK _ _ ?_
        exact ⟨fun h => C0 (by simpa using h), fun h => C1 (by simpa using h), fun h => C2 (by simpa using h), fun h => C3 (by simpa using h), fun h => C4 (by simpa using h), fun h => C5 (by simpa using h), fun h => C6 (by simpa using h), fun h => C7 (by simpa using h), fun h => C8 (by simpa using h), fun _ _ => hr1, fun h => C10 (by simpa using h), fun h => C11 (by simpa using h), fun h => C13 (by simpa using h), fun h => C14 (by simpa using h), fun h => ext_trans (Y0 (by simpa using h)) hx1, fun h => absurd h (by simp [hcl.not 12 (by kernel_rfl) hL]), fun h => absurd h (by simp [hcl.not 15 (by kernel_rfl) hL])⟩
      · refine stepOk_some (i := 10) (by rfl) (by rfl) ?_
        rintro u L T w' hT hu hL hp hcl ⟨C0, C1, C2, C3, C4, C5, C6, C7, C8, C9, C10, C11, C13, C14, Y0, X1, Y2⟩ K hK
        have e0 := C0 (hp.of 0 (by kernel_rfl))
        go_simp
        try go_bits
        try (rw [if_neg (by omega)]; go_simp)
        try (rw [if_pos (by omega)]; go_simp)
        refine hK _ _ ?_
        exact ⟨fun h => C0 (by simpa using h), fun h => C1 (by simpa using h), fun h => C2 (by simpa using h), fun h => C3 (by simpa using h), fun h => C4 (by simpa using h), fun h => C5 (by simpa using h), fun h => C6 (by simpa using h), fun h => C7 (by simpa using h), fun h => C8 (by simpa using h), fun h h2 => C9 (by simpa using h) (by simpa using h2), fun _ => rfl, fun h => C11 (by simpa using h), fun h => C13 (by simpa using h), fun h => C14 (by simpa using h), fun h => Y0 (by simpa using h), fun h h2 => X1 (by simpa using h) (by simpa using h2), fun h => Y2 (by simpa using h)⟩
      · refine stepOk_some (i := 11) (by rfl) (by rfl) ?_
        rintro u L T w' hT hu hL hp hcl ⟨C0, C1, C2, C3, C4, C5, C6, C7, C8, C9, C10, C11, C13, C14, Y0, X1, Y2⟩ K hK
        have e10 := C10 (hp.of 10 (by kernel_rfl))
        go_simp
        try go_bits
        try (rw [if_neg (by omega)]; go_simp)
        try (rw [if_pos (by omega)]; go_simp)
        refine hK _ _ ?_
        exact ⟨fun h => C0 (by simpa using h), fun h => C1 (by simpa using h), fun h => C2 (by simpa using h), fun h => C3 (by simpa using h), fun h => C4 (by simpa using h), fun h => C5 (by simpa using h), fun h => C6 (by simpa using h), fun h => C7 (by simpa using h), fun h => C8 (by simpa using h), fun h h2 => C9 (by simpa using h) (by simpa using h2), fun h => C10 (by simpa using h), fun _ => rfl, fun h => C13 (by simpa using h), fun h => C14 (by simpa using h), fun h => Y0 (by simpa using h), fun h h2 => X1 (by simpa using h) (by simpa using h2), fun h => Y2 (by simpa using h)⟩
      · refine stepOk_none (i := 12) (by rfl) (by rfl) ?_
        rintro u L T w' hT hu hL hp hcl ⟨C0, C1, C2, C3, C4, C5, C6, C7, C8, C9, C10, C11, C13, C14, Y0, X1, Y2⟩ K hK
        have e11 := C11 (hp.of 11 (by kernel_rfl))
        have e3 := C3 (hp.of 3 (by kernel_rfl))
        obtain ⟨d0, d1, d2, d3⟩ := cells4 (HPC.out _ (Y0 hL)); have f2 := frozen4 (HPC.out _ (Y0 hL)) 2
        go_simp
        refine hK _ ?_
        exact ⟨fun h => C0 (by simpa using h), fun h => C1 (by simpa using h), fun h => C2 (by simpa using h), fun h => C3 (by simpa using h), fun h => C4 (by simpa using h), fun h => C5 (by simpa using h), fun h => C6 (by simpa using h), fun h => C7 (by simpa using h), fun h => C8 (by simpa using h), fun _ h => absurd h (by simp), fun h => C10 (by simpa using h), fun h => C11 (by simpa using h), fun h => C13 (by simpa using h), fun h => C14 (by simpa using h), fun h => absurd h (by simp), fun _ _ => ⟨w', Y0 hL, C9 (hp.of 9 (by kernel_rfl)) hL, rfl⟩, fun h => absurd h (by simp [hcl.not 15 (by kernel_rfl) hL])⟩
      · refine stepOk_some (i := 13) (by rfl) (by rfl) ?_
        rintro u L T w' hT hu hL hp hcl ⟨C0, C1, C2, C3, C4, C5, C6, C7, C8, C9, C10, C11, C13, C14, Y0, X1, Y2⟩ K hK
        have e1 := C1 (hp.of 1 (by kernel_rfl))
        go_simp
        try go_bits
        try (rw [if_neg (by omega)]; go_simp)
        try (rw [if_pos (by omega)]; go_simp)
        refine hK _ _ ?_
        exact ⟨fun h => C0 (by simpa using h), fun h => C1 (by simpa using h), fun h => C2 (by simpa using h), fun h => C3 (by simpa using h), fun h => C4 (by simpa using h), fun h => C5 (by simpa using h), fun h => C6 (by simpa using h), fun h => C7 (by simpa using h), fun h => C8 (by simpa using h), fun h h2 => C9 (by simpa using h) (by simpa using h2), fun h => C10 (by simpa using h), fun h => C11 (by simpa using h), fun _ => rfl, fun h => C14 (by simpa using h), fun h => Y0 (by simpa using h), fun h h2 => X1 (by simpa using h) (by simpa using h2), fun h => Y2 (by simpa using h)⟩
      · refine stepOk_some (i := 14) (by rfl) (by rfl) ?_
        rintro u L T w' hT hu hL hp hcl ⟨C0, C1, C2, C3, C4, C5, C6, C7, C8, C9, C10, C11, C13, C14, Y0, X1, Y2⟩ K hK
        have e13 := C13 (hp.of 13 (by kernel_rfl))
        go_simp
        try go_bits
        try (rw [if_neg (by omega)]; go_simp)
        try (rw [if_pos (by omega)]; go_simp)
        refine hK _ _ ?_
        exact ⟨fun h => C0 (by simpa using h), fun h => C1 (by simpa using h), fun h => C2 (by simpa using h), fun h => C3 (by simpa using h), fun h => C4 (by simpa using h), fun h => C5 (by simpa using h), fun h => C6 (by simpa using h), fun h => C7 (by simpa using h), fun h => C8 (by simpa using h), fun h h2 => C9 (by simpa using h) (by simpa using h2), fun h => C10 (by simpa using h), fun h => C11 (by simpa using h), fun h => C13 (by simpa using h), fun _ => rfl, fun h => Y0 (by simpa using h), fun h h2 => X1 (by simpa using h) (by simpa using h2), fun h => Y2 (by simpa using h)⟩
      · refine stepOk_none (i := 15) (by rfl) (by rfl) ?_
        rintro u L T w' hT hu hL hp hcl ⟨C0, C1, C2, C3, C4, C5, C6, C7, C8, C9, C10, C11, C13, C14, Y0, X1, Y2⟩ K hK
        have e14 := C14 (hp.of 14 (by kernel_rfl))
        obtain ⟨Z, z1, z2, z3⟩ := X1 (hp.of 12 (by kernel_rfl)) hL; subst z3; obtain ⟨g9, cp9, hs9, _⟩ := own_shape z2 (by rw [shSum_len]; omega); have e9 := (hT 45).trans hs9; obtain ⟨d0, d1, d2, d3⟩ := cells4 (HPC.out Z z1); have f3 := frozen4 (HPC.out Z z1) 3
        go_simp
        refine hK _ ?_
        exact ⟨fun h => C0 (by simpa using h), fun h => C1 (by simpa using h), fun h => C2 (by simpa using h), fun h => C3 (by simpa using h), fun h => C4 (by simpa using h), fun h => C5 (by simpa using h), fun h => C6 (by simpa using h), fun h => C7 (by simpa using h), fun h => C8 (by simpa using h), fun _ h => absurd h (by simp [hp.of 12 (by kernel_rfl)]), fun h => C10 (by simpa using h), fun h => C11 (by simpa using h), fun h => C13 (by simpa using h), fun h => C14 (by simpa using h), fun h => absurd h (by simp [hp.of 12 (by kernel_rfl)]), fun _ h => absurd h (by simp), fun _ => ⟨Z, z1, z2, by rw [hs9]⟩⟩
    · rintro u L w' hall hu ⟨C0, C1, C2, C3, C4, C5, C6, C7, C8, C9, C10, C11, C13, C14, Y0, X1, Y2⟩
      replace Y2 := Y2 (hall 15 (by omega))
      replace C0 := C0 (hall 0 (by omega))
      replace C1 := C1 (hall 1 (by omega))
      replace C2 := C2 (hall 2 (by omega))
      replace C3 := C3 (hall 3 (by omega))
      replace C4 := C4 (hall 4 (by omega))
      replace C5 := C5 (hall 5 (by omega))
      replace C6 := C6 (hall 6 (by omega))
      replace C7 := C7 (hall 7 (by omega))
      replace C8 := C8 (hall 8 (by omega))
      replace C10 := C10 (hall 10 (by omega))
      replace C11 := C11 (hall 11 (by omega))
      replace C13 := C13 (hall 13 (by omega))
      replace C14 := C14 (hall 14 (by omega))
      simp only [fill, List.setIfInBounds_toArray, List.set_cons_succ, List.set_cons_zero, C0, C1, C2, C3, C4, C5, C6, C7, C8, C10, C11, C13, C14]
      generalize u 45 = s0 at *
      clear C0 C1 C2 C3 C4 C5 C6 C7 C8 C9 C10 C11 C13 C14 hu hall
    -- end inv
      generalize s0 = sv at *
      obtain ⟨Z, hz1, hz2, hz3⟩ := Y2
      have hne := HP.out.ne
      have hs32 : ∀ k, sv.ownBlock = some k → w.heap.size ≤ k ∧ k ≠ p := fun k hk => by
        have h1 := (own_lt hz2 hk).1
        have h2 := HX2.out.size
        exact ⟨by omega, by omega⟩
      have hch1 : Chg (fun k => k = p) w w' := by
        rw [hz3]
        exact ((Chg.of_ext _ (ext_trans HX2.out hz1)).trans (Chg.setCell Z ⟨p, 2, none⟩ _)).trans (Chg.setCell _ ⟨p, 3, none⟩ _)
      have hp3 : w'.heap[p]? = some (.cells #[.int .i64 (S.room : Int), lv, .int .u64 ((S.last : Int) + 1), sv] 81 (0, 0)) := by
        rw [hz3]
        have := set_at (j := 3) (u := sv) (HPS.out Z hz1 (.int .u64 ((S.last : Int) + 1)))
        exact this
      have hoth : ∀ k, k ≠ p → k < Z.heap.size → w'.heap[k]? = Z.heap[k]? := fun k hk hlt => by
        rw [hz3]
        exact ((Chg.setCell _ ⟨p, 3, none⟩ sv).block k (by have := (Chg.setCell Z ⟨p, 2, none⟩ (.int .u64 ((S.last : Int) + 1))).size; omega) hk).trans ((Chg.setCell Z ⟨p, 2, none⟩ _).block k hlt hk)
      have hr3 : OwnE B lv S.evs w' := (HP.out.row.ext (ext_trans HX2.out hz1)).keep fun g hg => hoth g (fun e => hne.1 (by rw [hg, e])) (own_lt (HP.out.row.ext (ext_trans HX2.out hz1)) hg).2.1
      have hc3 : OwnB W2.heap.size sv (shSum (S.chain ++ ln)) w' := own_keep hz2 fun g hg _ _ => hoth g (hs32 g hg).2 (own_lt hz2 hg).2.1
      have hb3 : w'.heap[w.heap.size]? = some (.cells #[.int .u64 ((S.last : Int) + 1), .int .u64 (at' : Int), Str kind, .int .i64 conn, Str text] 37 (0, 0)) := by
        have h1 := ext_at hz1 HB2.out
        exact (hoth _ (by omega) (Array.getElem?_eq_some_iff.1 h1).1).trans h1
      have HCH := Lib.hid hch1; have HP3 := Lib.hid hp3; have HR3 := Lib.hid hr3; have HC3 := Lib.hid hc3; have HB3 := Lib.hid hb3; have HS0 := Lib.hid hs32; have HNE := Lib.hid hne
      clear hz1 hz2 hz3 hne hs32 hch1 hp3 hoth hr3 hc3 hb3 HLK HPC HPS HB2 HT
      generalize w' = W3 at *
      have hBp := HP.out.low
      have hsz3 := HCH.out.size
      have hel := HF.out.el
      have hr2 := HF.out.r2
      have HPG : Hid (∀ Z Z' : World, Ext W3 Z → Z.grownBy Z' lv.ownBlock → Z'.heap[p]? = some (.cells #[.int .i64 (S.room : Int), lv, .int .u64 ((S.last : Int) + 1), sv] 81 (0, 0))) := Lib.hid (fun Z Z' hx hg => by
        have h1 := ext_at hx HP3.out
        exact (hg.block p (Array.getElem?_eq_some_iff.1 h1).1 (fun e => HNE.out.1 e.symm)).trans h1)
      go_wp2
      -- inv {'W': [('Y0', "L 7 = false → Ext W3 w'", '(fun _ => Below.drew (Below.refl _ W3))'), ('X1', "L 7 = true → L 10 = false → ∃ Z, Ext W3 Z ∧ w'.ownsRow B 37 5 (u 57) (S.evs.length + 1) (S.evs.flatMap evL ++ [.int .u64 ((S.last : Int) + 1), .int .u64 (at' : Int), Str kind, .int .i64 conn, Str text]) ∧ Z.grownBy w' lv.ownBlock ∧ ∀ k, (u 57).ownBlock = some k → lv.ownBlock = some k ∨ W3.heap.size ≤ k", '(fun h => by cases h)'), ('Y2', "L 10 = true → ∃ Z Z' : World, Ext W3 Z ∧ Z'.ownsRow B 37 5 (u 57) (S.evs.length + 1) (S.evs.flatMap evL ++ [.int .u64 ((S.last : Int) + 1), .int .u64 (at' : Int), Str kind, .int .i64 conn, Str text]) ∧ Z.grownBy Z' lv.ownBlock ∧ (∀ k, (u 57).ownBlock = some k → lv.ownBlock = some k ∨ W3.heap.size ≤ k) ∧ w' = Z'.setCell ⟨p, 1, none⟩ (u 57)", '(fun h => by cases h)')], 'ops': [('mv', 50, 0, '.pointer (some ⟨p, 0, none⟩)'), ('mv', 51, 0, '.pointer (some ⟨p, 0, none⟩)'), ('op', 52, [1], '.pointer (some ⟨p, 0, none⟩)'), ('op', 53, [2], '.pointer (some ⟨p, 1, none⟩)'), ('lf', 54, 3, 'lv', 'obtain ⟨d0, d1, d2, d3⟩ := cells4 (ext_at (Y0 (hcl.not 7 (by kernel_rfl) hL)) HP3.out)'), ('ld', 55, 12, '.pointer (some ⟨w.heap.size, 0, none⟩)', '.agg #[.int .u64 ((S.last : Int) + 1), .int .u64 (at\' : Int), Str kind, .int .i64 conn, Str text]', 'obtain ⟨d0, d1, d2, d3, d4⟩ := cells5 (ext_at (Y0 (hcl.not 7 (by kernel_rfl) (hcl.not 6 (by kernel_rfl) hL))) HB3.out)'), ('bs', 56, [5], ['.int .u64 ((S.last : Int) + 1)', '.int .u64 (at\' : Int)', 'Str kind', '.int .i64 conn', 'Str text'], '37', 7, 1), ('raw', 57, [], "have e0 := C4 (hp.of 4 (by kernel_rfl));; obtain ⟨g', e2, hg'⟩ := C6 (hp.of 6 (by kernel_rfl)) hL;; have hown := HR3.out.ext (Y0 hL);; have hE0 := Y0 hL;; have hszE := hE0.size;; refine step_pushW B rfl _ _ 35 37 (by rfl) Tryd.underlying35 infoEv rfl (by omega) (by omega) (us := [.int .u64 ((S.last : Int) + 1), .int .u64 (at' : Int), Str kind, .int .i64 conn, Str text]) hown rfl (by simp [Str, Value.oneCell']) (by omega) (by omega) (by exact (hT _).trans e0) (by exact (hT _).trans e2) hg' ?_;; rintro v' w1 hown1 hgr1 hwh1", 'u 57'), ('op', 58, [0], '.pointer (some ⟨p, 0, none⟩)'), ('op', 59, [8], '.pointer (some ⟨p, 1, none⟩)'), ('st', None, [9], "obtain ⟨Z, z1, z2, z3, z4⟩ := X1 (hp.of 7 (by kernel_rfl)) hL; obtain ⟨g9, cp9, hs9⟩ := own_shape_z z2 (by omega); have e7 := (hT 57).trans hs9; obtain ⟨d0, d1, d2, d3⟩ := cells4 (HPG.out Z w' z1 z3); have f1 := frozen4 (HPG.out Z w' z1 z3) 1")], 'over': {6: {'Y0': 'fun h => ext_trans (Y0 (by simpa using h)) hx1', 'X1': 'fun h => absurd h (by simp [hcl.not 7 (by kernel_rfl) hL])', 'Y2': 'fun h => absurd h (by simp [hcl.not 10 (by kernel_rfl) hL])'}, 7: {'Y0': 'fun h => absurd h (by simp)', 'X1': "fun _ _ => ⟨w', hE0, hown1, hgr1, fun k hk => (hwh1 k hk).imp_right (fun h => Nat.le_trans hszE h)⟩", 'Y2': 'fun h => absurd h (by simp [hcl.not 10 (by kernel_rfl) hL])', 'C7': 'fun _ => rfl'}, 10: {'C6': 'fun h h2 => absurd h2 (by simp [hp.of 7 (by kernel_rfl)])', 'Y0': 'fun h => absurd h (by simp [hp.of 7 (by kernel_rfl)])', 'X1': 'fun _ h => absurd h (by simp)', 'Y2': "fun _ => ⟨Z, w', z1, z2, z3, z4, by rw [hs9]⟩"}}, 'fin': [('Y2', 10)]}
      refine wp_region_any (by kernel_rfl) ?_
      change wpAny _ _ _ _ _ _ _ (World.drew _)
      refine wpAny_inv (n := 11) [50, 51, 52, 53, 54, 55, 56, 57, 58, 59] (fun u L w' =>
          (L 0 = true → u 50 = .pointer (some ⟨p, 0, none⟩)) ∧
          (L 1 = true → u 51 = .pointer (some ⟨p, 0, none⟩)) ∧
          (L 2 = true → u 52 = .pointer (some ⟨p, 0, none⟩)) ∧
          (L 3 = true → u 53 = .pointer (some ⟨p, 1, none⟩)) ∧
          (L 4 = true → u 54 = lv) ∧
          (L 5 = true → u 55 = .agg #[.int .u64 ((S.last : Int) + 1), .int .u64 (at' : Int), Str kind, .int .i64 conn, Str text]) ∧
          (L 6 = true → L 7 = false → ∃ g', u 56 = .slice (some ⟨g', 0, none⟩) 1 1 ∧ w'.heap[g']? = some (.cells #[.int .u64 ((S.last : Int) + 1), .int .u64 (at' : Int), Str kind, .int .i64 conn, Str text] 37 (0, 0))) ∧
          (L 7 = true → u 57 = u 57) ∧
          (L 8 = true → u 58 = .pointer (some ⟨p, 0, none⟩)) ∧
          (L 9 = true → u 59 = .pointer (some ⟨p, 1, none⟩)) ∧
          (L 7 = false → Ext W3 w') ∧
          (L 7 = true → L 10 = false → ∃ Z, Ext W3 Z ∧ w'.ownsRow B 37 5 (u 57) (S.evs.length + 1) (S.evs.flatMap evL ++ [.int .u64 ((S.last : Int) + 1), .int .u64 (at' : Int), Str kind, .int .i64 conn, Str text]) ∧ Z.grownBy w' lv.ownBlock ∧ ∀ k, (u 57).ownBlock = some k → lv.ownBlock = some k ∨ W3.heap.size ≤ k) ∧
          (L 10 = true → ∃ Z Z' : World, Ext W3 Z ∧ Z'.ownsRow B 37 5 (u 57) (S.evs.length + 1) (S.evs.flatMap evL ++ [.int .u64 ((S.last : Int) + 1), .int .u64 (at' : Int), Str kind, .int .i64 conn, Str text]) ∧ Z.grownBy Z' lv.ownBlock ∧ (∀ k, (u 57).ownBlock = some k → lv.ownBlock = some k ∨ W3.heap.size ≤ k) ∧ w' = Z'.setCell ⟨p, 1, none⟩ (u 57)))
        (by rfl) (by kernel_rfl) (by kernel_rfl) (by rfl) ?_ ?_ ?_
      · exact ⟨(fun h => by cases h), (fun h => by cases h), (fun h => by cases h), (fun h => by cases h), (fun h => by cases h), (fun h => by cases h), (fun h => by cases h), (fun h => by cases h), (fun h => by cases h), (fun h => by cases h), (fun _ => Below.drew (Below.refl _ W3)), (fun h => by cases h), (fun h => by cases h)⟩
      · refine ⟨⟨⟨⟨⟨⟨⟨⟨⟨⟨⟨trivial, ?_⟩, ?_⟩, ?_⟩, ?_⟩, ?_⟩, ?_⟩, ?_⟩, ?_⟩, ?_⟩, ?_⟩, ?_⟩
        · refine stepOk_some (i := 0) (by rfl) (by rfl) ?_
          rintro u L T w' hT hu hL hp hcl ⟨C0, C1, C2, C3, C4, C5, C6, C7, C8, C9, Y0, X1, Y2⟩ K hK
          have e1 : u 0 = .pointer (some ⟨p, 0, none⟩) := hu 0 (by decide)
          go_simp
          refine hK _ _ ?_
          exact ⟨fun _ => rfl, fun h => C1 (by simpa using h), fun h => C2 (by simpa using h), fun h => C3 (by simpa using h), fun h => C4 (by simpa using h), fun h => C5 (by simpa using h), fun h h2 => C6 (by simpa using h) (by simpa using h2), fun h => C7 (by simpa using h), fun h => C8 (by simpa using h), fun h => C9 (by simpa using h), fun h => Y0 (by simpa using h), fun h h2 => X1 (by simpa using h) (by simpa using h2), fun h => Y2 (by simpa using h)⟩
        · refine stepOk_some (i := 1) (by rfl) (by rfl) ?_
          rintro u L T w' hT hu hL hp hcl ⟨C0, C1, C2, C3, C4, C5, C6, C7, C8, C9, Y0, X1, Y2⟩ K hK
          have e1 : u 0 = .pointer (some ⟨p, 0, none⟩) := hu 0 (by decide)
          go_simp
          refine hK _ _ ?_
          exact ⟨fun h => C0 (by simpa using h), fun _ => rfl, fun h => C2 (by simpa using h), fun h => C3 (by simpa using h), fun h => C4 (by simpa using h), fun h => C5 (by simpa using h), fun h h2 => C6 (by simpa using h) (by simpa using h2), fun h => C7 (by simpa using h), fun h => C8 (by simpa using h), fun h => C9 (by simpa using h), fun h => Y0 (by simpa using h), fun h h2 => X1 (by simpa using h) (by simpa using h2), fun h => Y2 (by simpa using h)⟩
        · refine stepOk_some (i := 2) (by rfl) (by rfl) ?_
          rintro u L T w' hT hu hL hp hcl ⟨C0, C1, C2, C3, C4, C5, C6, C7, C8, C9, Y0, X1, Y2⟩ K hK
          have e1 := C1 (hp.of 1 (by kernel_rfl))
          go_simp
          try go_bits
          try (rw [if_neg (by omega)]; go_simp)
          try (rw [if_pos (by omega)]; go_simp)
          refine hK _ _ ?_
          exact ⟨fun h => C0 (by simpa using h), fun h => C1 (by simpa using h), fun _ => rfl, fun h => C3 (by simpa using h), fun h => C4 (by simpa using h), fun h => C5 (by simpa using h), fun h h2 => C6 (by simpa using h) (by simpa using h2), fun h => C7 (by simpa using h), fun h => C8 (by simpa using h), fun h => C9 (by simpa using h), fun h => Y0 (by simpa using h), fun h h2 => X1 (by simpa using h) (by simpa using h2), fun h => Y2 (by simpa using h)⟩
        · refine stepOk_some (i := 3) (by rfl) (by rfl) ?_
          rintro u L T w' hT hu hL hp hcl ⟨C0, C1, C2, C3, C4, C5, C6, C7, C8, C9, Y0, X1, Y2⟩ K hK
          have e2 := C2 (hp.of 2 (by kernel_rfl))
          go_simp
          try go_bits
          try (rw [if_neg (by omega)]; go_simp)
          try (rw [if_pos (by omega)]; go_simp)
          refine hK _ _ ?_
          exact ⟨fun h => C0 (by simpa using h), fun h => C1 (by simpa using h), fun h => C2 (by simpa using h), fun _ => rfl, fun h => C4 (by simpa using h), fun h => C5 (by simpa using h), fun h h2 => C6 (by simpa using h) (by simpa using h2), fun h => C7 (by simpa using h), fun h => C8 (by simpa using h), fun h => C9 (by simpa using h), fun h => Y0 (by simpa using h), fun h h2 => X1 (by simpa using h) (by simpa using h2), fun h => Y2 (by simpa using h)⟩
        · refine stepOk_some (i := 4) (by rfl) (by rfl) ?_
          rintro u L T w' hT hu hL hp hcl ⟨C0, C1, C2, C3, C4, C5, C6, C7, C8, C9, Y0, X1, Y2⟩ K hK
          have e3 := C3 (hp.of 3 (by kernel_rfl))
          obtain ⟨d0, d1, d2, d3⟩ := cells4 (ext_at (Y0 (hcl.not 7 (by kernel_rfl) hL)) HP3.out)
          go_simp
          refine hK _ _ ?_
          exact ⟨fun h => C0 (by simpa using h), fun h => C1 (by simpa using h), fun h => C2 (by simpa using h), fun h => C3 (by simpa using h), fun _ => rfl, fun h => C5 (by simpa using h), fun h h2 => C6 (by simpa using h) (by simpa using h2), fun h => C7 (by simpa using h), fun h => C8 (by simpa using h), fun h => C9 (by simpa using h), fun h => Y0 (by simpa using h), fun h h2 => X1 (by simpa using h) (by simpa using h2), fun h => Y2 (by simpa using h)⟩
        · refine stepOk_some (i := 5) (by rfl) (by rfl) ?_
          rintro u L T w' hT hu hL hp hcl ⟨C0, C1, C2, C3, C4, C5, C6, C7, C8, C9, Y0, X1, Y2⟩ K hK
          have e1 : u 12 = .pointer (some ⟨w.heap.size, 0, none⟩) := hu 12 (by decide)
          obtain ⟨d0, d1, d2, d3, d4⟩ := cells5 (ext_at (Y0 (hcl.not 7 (by kernel_rfl) (hcl.not 6 (by kernel_rfl) hL))) HB3.out)
          go_simp
          refine hK _ _ ?_
          exact ⟨fun h => C0 (by simpa using h), fun h => C1 (by simpa using h), fun h => C2 (by simpa using h), fun h => C3 (by simpa using h), fun h => C4 (by simpa using h), fun _ => rfl, fun h h2 => C6 (by simpa using h) (by simpa using h2), fun h => C7 (by simpa using h), fun h => C8 (by simpa using h), fun h => C9 (by simpa using h), fun h => Y0 (by simpa using h), fun h h2 => X1 (by simpa using h) (by simpa using h2), fun h => Y2 (by simpa using h)⟩
        · refine stepOk_some (i := 6) (by rfl) (by rfl) ?_
          rintro u L T w' hT hu hL hp hcl ⟨C0, C1, C2, C3, C4, C5, C6, C7, C8, C9, Y0, X1, Y2⟩ K hK
          have e5 := C5 (hp.of 5 (by kernel_rfl))
          go_simp
          have hx1 : Ext w' (w'.alloc (.cells #[.int .u64 ((S.last : Int) + 1), .int .u64 (at' : Int), Str kind, .int .i64 conn, Str text] 37)) := Below.alloc (Below.refl _ _) (Nat.le_refl _) _
          refine hK _ _ ?_
          exact ⟨fun h => C0 (by simpa using h), fun h => C1 (by simpa using h), fun h => C2 (by simpa using h), fun h => C3 (by simpa using h), fun h => C4 (by simpa using h), fun h => C5 (by simpa using h), fun _ _ => ⟨_, rfl, Array.getElem?_push_size⟩, fun h => C7 (by simpa using h), fun h => C8 (by simpa using h), fun h => C9 (by simpa using h), fun h => ext_trans (Y0 (by simpa using h)) hx1, fun h => absurd h (by simp [hcl.not 7 (by kernel_rfl) hL]), fun h => absurd h (by simp [hcl.not 10 (by kernel_rfl) hL])⟩
        · refine stepOk_some (i := 7) (by rfl) (by rfl) ?_
          rintro u L T w' hT hu hL hp hcl ⟨C0, C1, C2, C3, C4, C5, C6, C7, C8, C9, Y0, X1, Y2⟩ K hK
          have e0 := C4 (hp.of 4 (by kernel_rfl))
          obtain ⟨g', e2, hg'⟩ := C6 (hp.of 6 (by kernel_rfl)) hL
          have hown := HR3.out.ext (Y0 hL)
          have hE0 := Y0 hL
          have hszE := hE0.size
          refine step_pushW B rfl _ _ 35 37 (by rfl) Tryd.underlying35 infoEv rfl (by omega) (by omega) (us := [.int .u64 ((S.last : Int) + 1), .int .u64 (at' : Int), Str kind, .int .i64 conn, Str text]) hown rfl (by simp [Str, Value.oneCell']) (by omega) (by omega) (by exact (hT _).trans e0) (by exact (hT _).trans e2) hg' ?_
          rintro v' w1 hown1 hgr1 hwh1
          refine hK _ _ ?_
          exact ⟨fun h => C0 (by simpa using h), fun h => C1 (by simpa using h), fun h => C2 (by simpa using h), fun h => C3 (by simpa using h), fun h => C4 (by simpa using h), fun h => C5 (by simpa using h), fun h h2 => absurd h2 (by simp), fun _ => rfl, fun h => C8 (by simpa using h), fun h => C9 (by simpa using h), fun h => absurd h (by simp), fun _ _ => ⟨w', hE0, hown1, hgr1, fun k hk => (hwh1 k hk).imp_right (fun h => Nat.le_trans hszE h)⟩, fun h => absurd h (by simp [hcl.not 10 (by kernel_rfl) hL])⟩
        · refine stepOk_some (i := 8) (by rfl) (by rfl) ?_
          rintro u L T w' hT hu hL hp hcl ⟨C0, C1, C2, C3, C4, C5, C6, C7, C8, C9, Y0, X1, Y2⟩ K hK
          have e0 := C0 (hp.of 0 (by kernel_rfl))
          go_simp
          try go_bits
          try (rw [if_neg (by omega)]; go_simp)
          try (rw [if_pos (by omega)]; go_simp)
          refine hK _ _ ?_
          exact ⟨fun h => C0 (by simpa using h), fun h => C1 (by simpa using h), fun h => C2 (by simpa using h), fun h => C3 (by simpa using h), fun h => C4 (by simpa using h), fun h => C5 (by simpa using h), fun h h2 => C6 (by simpa using h) (by simpa using h2), fun h => C7 (by simpa using h), fun _ => rfl, fun h => C9 (by simpa using h), fun h => Y0 (by simpa using h), fun h h2 => X1 (by simpa using h) (by simpa using h2), fun h => Y2 (by simpa using h)⟩
        · refine stepOk_some (i := 9) (by rfl) (by rfl) ?_
          rintro u L T w' hT hu hL hp hcl ⟨C0, C1, C2, C3, C4, C5, C6, C7, C8, C9, Y0, X1, Y2⟩ K hK
          have e8 := C8 (hp.of 8 (by kernel_rfl))
          go_simp
          try go_bits
          try (rw [if_neg (by omega)]; go_simp)
          try (rw [if_pos (by omega)]; go_simp)
          refine hK _ _ ?_
          exact ⟨fun h => C0 (by simpa using h), fun h => C1 (by simpa using h), fun h => C2 (by simpa using h), fun h => C3 (by simpa using h), fun h => C4 (by simpa using h), fun h => C5 (by simpa using h), fun h h2 => C6 (by simpa using h) (by simpa using h2), fun h => C7 (by simpa using h), fun h => C8 (by simpa using h), fun _ => rfl, fun h => Y0 (by simpa using h), fun h h2 => X1 (by simpa using h) (by simpa using h2), fun h => Y2 (by simpa using h)⟩
        · refine stepOk_none (i := 10) (by rfl) (by rfl) ?_
          rintro u L T w' hT hu hL hp hcl ⟨C0, C1, C2, C3, C4, C5, C6, C7, C8, C9, Y0, X1, Y2⟩ K hK
          have e9 := C9 (hp.of 9 (by kernel_rfl))
          obtain ⟨Z, z1, z2, z3, z4⟩ := X1 (hp.of 7 (by kernel_rfl)) hL; obtain ⟨g9, cp9, hs9⟩ := own_shape_z z2 (by omega); have e7 := (hT 57).trans hs9; obtain ⟨d0, d1, d2, d3⟩ := cells4 (HPG.out Z w' z1 z3); have f1 := frozen4 (HPG.out Z w' z1 z3) 1
          go_simp
          refine hK _ ?_
          exact ⟨fun h => C0 (by simpa using h), fun h => C1 (by simpa using h), fun h => C2 (by simpa using h), fun h => C3 (by simpa using h), fun h => C4 (by simpa using h), fun h => C5 (by simpa using h), fun h h2 => absurd h2 (by simp [hp.of 7 (by kernel_rfl)]), fun h => C7 (by simpa using h), fun h => C8 (by simpa using h), fun h => C9 (by simpa using h), fun h => absurd h (by simp [hp.of 7 (by kernel_rfl)]), fun _ h => absurd h (by simp), fun _ => ⟨Z, w', z1, z2, z3, z4, by rw [hs9]⟩⟩
      · rintro u L w' hall hu ⟨C0, C1, C2, C3, C4, C5, C6, C7, C8, C9, Y0, X1, Y2⟩
        replace Y2 := Y2 (hall 10 (by omega))
        replace C0 := C0 (hall 0 (by omega))
        replace C1 := C1 (hall 1 (by omega))
        replace C2 := C2 (hall 2 (by omega))
        replace C3 := C3 (hall 3 (by omega))
        replace C4 := C4 (hall 4 (by omega))
        replace C5 := C5 (hall 5 (by omega))
        replace C7 := C7 (hall 7 (by omega))
        replace C8 := C8 (hall 8 (by omega))
        replace C9 := C9 (hall 9 (by omega))
        simp only [fill, List.setIfInBounds_toArray, List.set_cons_succ, List.set_cons_zero, C0, C1, C2, C3, C4, C5, C7, C8, C9]
        generalize u 56 = s0 at *
        clear C0 C1 C2 C3 C4 C5 C6 C7 C8 C9 hu hall
      -- end inv
        obtain ⟨Z, Z', hz1, hz2, hz3, hz4, hz5⟩ := Y2
        obtain ⟨g7, cp7, hs7⟩ := own_shape_z hz2 (by omega)
        generalize u 57 = nv at *
        have hne2 : nv.ownBlock ≠ some p := fun e => by
          have h1 := (own_lt hz2 e).2.2
          have h2 := kind_of_cells (HPG.out Z Z' hz1 hz3)
          rw [h1] at h2; cases h2
        have hp4 : w'.heap[p]? = some (.cells #[.int .i64 (S.room : Int), nv, .int .u64 ((S.last : Int) + 1), sv] 81 (0, 0)) := by
          rw [hz5]
          have := set_at (j := 1) (u := nv) (HPG.out Z Z' hz1 hz3)
          exact this
        have hsize : ∀ k, k < Z.heap.size → k < Z'.heap.size := fun k hk => by have := hz3.size; omega
        have hset : ∀ k, k ≠ p → k < Z'.heap.size → w'.heap[k]? = Z'.heap[k]? := fun k hk hlt => by
          rw [hz5]; exact (Chg.setCell Z' ⟨p, 1, none⟩ nv).block k hlt hk
        have hoth : ∀ k, k ≠ p → lv.ownBlock ≠ some k → k < W3.heap.size → w'.heap[k]? = W3.heap[k]? := fun k hk hk2 hlt => by
          have h1 : k < Z.heap.size := by have := hz1.size; omega
          exact (hset k hk (hsize k h1)).trans ((hz3.block k h1 (fun e => hk2 e.symm)).trans (hz1.block k hlt))
        have hr4 : OwnE B nv (S.evs ++ [ev]) w' := by
          have h1 : Z'.ownsRow B 37 5 nv (S.evs ++ [ev]).length ((S.evs ++ [ev]).flatMap evL) := by
            rw [List.length_append, List.flatMap_append, List.flatMap_singleton, ← HEV.out]
            exact hz2
          exact OwnE.keep (W := Z') h1 fun g hg => hset g (fun e => hne2 (by rw [hg, e])) (own_lt h1 hg).2.1
        have hlk : ∀ k, lv.ownBlock = some k → kind? W3 k = some 37 ∧ k < w.heap.size := fun k hk => ⟨(own_lt HR3.out hk).2.2, (own_lt HP.out.row hk).2.1⟩
        have hc4 : OwnB W2.heap.size sv (shSum (S.chain ++ ln)) w' := own_keep HC3.out fun g hg _ hkk => hoth g (HS0.out g hg).2 (fun e => by have := (hlk g e).1; rw [hkk] at this; cases this) (own_lt HC3.out hg).2.1
        have hb4 : w'.heap[w.heap.size]? = some (.cells #[.int .u64 ((S.last : Int) + 1), .int .u64 (at' : Int), Str kind, .int .i64 conn, Str text] 37 (0, 0)) :=
          (hoth _ (by omega) (fun e => by have := (hlk _ e).2; omega) (Array.getElem?_eq_some_iff.1 HB3.out).1).trans HB3.out
        have hch4 : Ch (fun k => k = p ∨ lv.ownBlock = some k) w w' := by
          refine (HCH.out.mono fun k h => .inl h).ch.trans ?_
          rw [hz5]
          exact ((Ch.of_ext hz1).trans (Ch.of_grown hz3 fun k hk => .inr hk)).trans ((Chg.setCell Z' ⟨p, 1, none⟩ nv).mono fun k h => .inl h).ch
        have hnv : ∀ k, nv.ownBlock = some k → lv.ownBlock = some k ∨ w.heap.size ≤ k := fun k hk => (hz4 k hk).imp_right (fun h => by omega)
        have HP4 := Lib.hid hp4; have HR4 := Lib.hid hr4; have HC4 := Lib.hid hc4; have HB4 := Lib.hid hb4; have HCH4 := Lib.hid hch4; have HNV := Lib.hid hnv; have HNE4 := Lib.hid hne2
        clear hne2 hp4 hsize hset hoth hr4 hlk hc4 hb4 hch4 hnv hz1 hz2 hz3 hz4 hz5 HPG HP3 HR3 HC3 HB3 HCH X1 Y0
        subst hs7
        obtain ⟨d0, d1, d2, d3⟩ := cells4 HP4.out
        obtain ⟨e0, -, -, -, -⟩ := cells5 HB4.out
        generalize w' = W4 at *
        have h1r := HF.out.r1
        have hcast : ((S.last + 1 : Nat) : Int) = (S.last : Int) + 1 := by omega
        have HCAST := Lib.hid hcast; clear hcast
        by_cases hfull : S.room < S.evs.length + 1
        · have hn1 : (S.evs.length : Int) + 1 - (S.room : Int) = 1 := by omega
          have hl1 : (S.evs ++ [ev]).length = S.evs.length + 1 := by simp
          have hrow := HR4.out.row
          obtain ⟨ao, cpn, hrn, hblk, hrun⟩ := row_from (P := Tryd.prog) Tryd.underlying35 Tryd.sizeOf37 hrow (k := 1) (by omega)
          rw [hl1] at hrn hrun
          have hrun1 : ∀ W', (Instr.slice 35 (.slice (some ⟨g7, 0, none⟩) (S.evs.length + 1) cp7) (some (.int .i64 1)) none none).run Tryd.prog W' = .ok (.slice ao (S.evs.length + 1 - 1) cpn) W' := hrun
          have HCL := Lib.hid (fun W hr => cloneE_any (.slice ao (S.evs.length + 1 - 1) cpn) ((S.evs ++ [ev]).drop 1) W hr (by simp; omega))
          have HRN := Lib.hid hrn
          clear hrow hrn hblk hrun hl1
          generalize Value.slice ao (S.evs.length + 1 - 1) cpn = vn at *
          go_wp2
          refine wp_region_quiet_lit (by kernel_rfl) (by kernel_rfl) ?_
          repeat (first
            | go_big_quiet_skip
            | (go_big_quiet_want; go_big_quiet_op; (try go_bits); first | go_big_quiet_on | go_big_quiet_call (fail)))
          refine wpQuiet_nil ?_
          intro _ hw'
          obtain ⟨nq, hw''⟩ := hw'
          subst hw''
          clear hn1
          go_wp2_with fail
          generalize hwq : W4.drewN nq = W5
          have hx45 : Ext W4 W5 := by rw [← hwq]; exact ext_drewN (ext_refl _) _
          clear d0 d1 d2 d3 e0 hrun1
          refine (HCL.out W5 (HRN.out.ext hx45)).mono ?_
          rintro e W6 ⟨v6, rfl, ho6, hx6⟩
          have hx46 := ext_trans hx45 hx6
          have hl6 : ((S.evs ++ [ev]).drop 1).length = S.evs.length := by simp
          obtain ⟨g6, cp6, hs6⟩ := own_shape_z ho6 (by rw [hl6]; omega)
          have hp6 := ext_at hx46 HP4.out
          have hset : (W6.setCell ⟨p, 1, none⟩ v6).heap[p]? = some (.cells #[.int .i64 (S.room : Int), v6, .int .u64 ((S.last : Int) + 1), sv] 81 (0, 0)) := set_at (j := 1) (u := v6) hp6
          have hne6 : v6.ownBlock ≠ some p := fun h => by
            have h1 := (own_lt ho6 h).1
            have h2 := (Array.getElem?_eq_some_iff.1 HP4.out).1
            have h3 := hx45.size
            omega
          have hoth : ∀ k, k ≠ p → k < W6.heap.size → (W6.setCell ⟨p, 1, none⟩ v6).heap[k]? = W6.heap[k]? := fun k hk hlt => (Chg.setCell W6 ⟨p, 1, none⟩ v6).block k hlt hk
          have hfin : TrAt B p v6 sv (addS S ev) (W6.setCell ⟨p, 1, none⟩ v6) := by
            refine ⟨hBp, ?_, ?_, ?_⟩
            · show (_ : Option Obj) = some (.cells #[.int .i64 (S.room : Int), v6, .int .u64 ((S.last + 1 : Nat) : Int), sv] 81 (0, 0))
              rw [HCAST.out]; exact hset
            · have h1 : (addS S ev).evs = (S.evs ++ [ev]).drop 1 := by simp only [addS]; congr 1; omega
              show OwnE B v6 (addS S ev).evs _
              rw [h1]
              refine OwnE.keep (W := W6) (ho6.base (by have := hx45.size; have := HCH4.out.size; omega)) fun g hg => hoth g (fun e => hne6 (by rw [hg, e])) (own_lt ho6 hg).2.1
            · show OwnB B sv (shSum (S.chain ++ ev.line)) _
              rw [HLN.out]
              have h1 := own_ext HC4.out hx46
              exact own_base (own_keep h1 fun g hg _ _ => hoth g (HS0.out g hg).2 (own_lt h1 hg).2.1) (by have := HX2.out.size; omega)
          have hch6 : Ch (fun k => k = p ∨ lv.ownBlock = some k) w (W6.setCell ⟨p, 1, none⟩ v6) := (HCH4.out.trans (Ch.of_ext hx46)).trans ((Chg.setCell W6 ⟨p, 1, none⟩ v6).mono fun k h => .inl h).ch
          have hw6 : ∀ k, v6.ownBlock = some k → w.heap.size ≤ k := fun k hk => by have := (own_lt ho6 hk).1; have := hx45.size; have := HCH4.out.size; omega
          obtain ⟨d0, d1, d2, d3⟩ := cells4 hp6
          have f1 := frozen4 hp6 1
          obtain ⟨e0, -, -, -, -⟩ := cells5 (ext_at hx46 HB4.out)
          have hbne : w.heap.size ≠ p := by omega
          have HFIN := Lib.hid hfin; have HCH6 := Lib.hid hch6; have HW6 := Lib.hid hw6
          clear hfin hch6 hw6 hoth hset hp6 ho6 hx6 hx46 hx45 hwq
          rw [hl6] at hs6
          subst hs6
          go_wp2
          go_ret2
          exact .inr ⟨HOK.out, by rw [HCAST.out]; rfl, _, sv, HFIN.out, HCH6.out, fun k hk => .inr (HW6.out k hk), fun k hk => (HS0.out k hk).1⟩
        · have hfin : TrAt B p (.slice (some ⟨g7, 0, none⟩) (S.evs.length + 1) cp7) sv (addS S ev) W4 := by
            refine ⟨hBp, ?_, ?_, ?_⟩
            · show (_ : Option Obj) = some (.cells #[.int .i64 (S.room : Int), _, .int .u64 ((S.last + 1 : Nat) : Int), sv] 81 (0, 0))
              rw [HCAST.out]; exact HP4.out
            · have h1 : (addS S ev).evs = S.evs ++ [ev] := by simp only [addS]; rw [show S.evs.length + 1 - S.room = 0 by omega, List.drop_zero]
              show OwnE B _ (addS S ev).evs _
              rw [h1]
              exact HR4.out
            · show OwnB B sv (shSum (S.chain ++ ev.line)) _
              rw [HLN.out]
              exact own_base HC4.out (by have := HX2.out.size; omega)
          have HFIN := Lib.hid hfin
          clear hfin
          have hn0 : ¬ (0 < (S.evs.length : Int) + 1 - (S.room : Int)) := by omega
          go_wp2
          refine wp_region_quiet_lit (by kernel_rfl) (by kernel_rfl) ?_
          repeat (first
            | go_big_quiet_skip
            | (go_big_quiet_want; go_big_quiet_op; (try go_bits); first | go_big_quiet_on | go_big_quiet_call (fail)))
          refine wpQuiet_nil ?_
          intro _ hw'
          obtain ⟨nq, hw''⟩ := hw'
          subst hw''
          go_wp2
          go_ret2
          exact .inr ⟨HOK.out, by rw [HCAST.out]; rfl, _, sv, HFIN.out.ext (ext_drewN (ext_refl _) _), HCH4.out.trans (Ch.of_ext (ext_drewN (ext_refl _) _)), HNV.out, fun k hk => (HS0.out k hk).1⟩
end Go.Proofs.YtpndahmlbjhdfaaDoor
