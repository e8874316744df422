/-
  ref23.Add: one more.
-/
import Derived.Test.YtpndahmlbjhdfaaDoorRows
import Derived.Test.YtpndahmlbjhdfaaDoorRel
import Derived.Test.YtpndahmlbjhdfaaDoorTrb
import Derived.Test.YtpndahmlbjhdfaaDoorRt5
import Derived.Test.YtpndahmlbjhdfaaDoorMrc
import Derived.Test.YtpndahmlbjhdfaaDoorApw
namespace Go.Proofs.YtpndahmlbjhdfaaDoor
open Go.RowKit
set_option maxRecDepth 100000
attribute [local go_sem] Oper.semAt_some
set_option linter.unusedVariables false
set_option linter.unusedSimpArgs false
theorem infoEvR : (Tryd.prog.info? 32).map (fun i => (i.zero, i.size, i.bytes)) = some (some (.agg #[.int .u64 0, .int .u64 0, .string ⟨#[]⟩, .int .i64 0, .string ⟨#[]⟩]), 5, 56) := by kernel_rfl
theorem cells2 {Z : World} {s t : Nat} {a0 a1 : Value} {f : Nat × Nat} (h : Z.heap[s]? = some (.cells #[a0, a1] t f)) : Z.cell? ⟨s, 0, none⟩ = some a0 ∧ Z.cell? ⟨s, 1, none⟩ = some a1 := by simp [World.cell?, h]
/-- An own row of the document's events. -/
def OwnF (B : Nat) (v : Value) (es : List Ev) (W : World) : Prop := W.ownsRow B 32 5 v es.length (es.flatMap evL)
theorem ownF_at {w : World} {B e z : Nat} {v : Value} {n : Nat} {xs : List Value} (h : w.ownsRow B e z v n xs) {g : Nat} (hg : v.ownBlock = some g) : B ≤ g ∧ g < w.heap.size := by
  rcases h.2 with ⟨rfl, _⟩ | ⟨g', cap, cur, rfl, hb, hc, _⟩
  · cases hg
  · have h1 : some g' = some g := hg
    cases h1
    exact ⟨hb, (Array.getElem?_eq_some_iff.1 hc).1⟩
theorem OwnF.base {B B' : Nat} {v : Value} {es : List Ev} {W : World} (h : OwnF B v es W) (hb : B' ≤ B) : OwnF B' v es W := by
  refine ⟨h.1, ?_⟩
  rcases h.2 with hn | ⟨g, cap, cur, hv, hbg, r⟩
  · exact .inl hn
  · exact .inr ⟨g, cap, cur, hv, by omega, r⟩
theorem OwnF.keep {B : Nat} {v : Value} {es : List Ev} {W C : World} (h : OwnF B v es W) (hk : ∀ g, v.ownBlock = some g → C.heap[g]? = W.heap[g]?) : OwnF B v es C := by
  refine ⟨h.1, ?_⟩
  rcases h.2 with hn | ⟨g, cap, cur, hv, hbg, hg, r⟩
  · exact .inl hn
  · exact .inr ⟨g, cap, cur, hv, hbg, (hk g (by rw [hv]; rfl)).trans hg, r⟩
/-- The document's trace. -/
structure RfAt (B p : Nat) (v : Value) (room : Int) (L : List Ev) (W : World) : Prop where
  blk : W.heap[p]? = some (.cells #[.int .i64 room, v] 43 (0, 0))
  row : OwnF B v L W
  lo : B ≤ p
def RAddR (B p : Nat) (room : Int) (L : List Ev) (ev : Ev) (w : World) (e : Ending) (w' : World) : Prop :=
  (ev.right = false ∧ e = .returned (.tuple #[.int .u64 0, .int .i64 4]) ∧ Ext w w') ∨
  (ev.right = true ∧ e = .returned (.tuple #[.int .u64 ((L.length : Int) + 1), .int .i64 0]) ∧ ∃ v', RfAt B p v' room (L ++ [ev]) w' ∧ Ch (fun k => k = p) w w' ∧ ∀ g, v'.ownBlock = some g → w.heap.size ≤ g)
set_option maxHeartbeats 1000000 in
theorem radd_any (B p : Nat) (v : Value) (room : Int) (es : List Ev) (hlen : es.length ≤ 1000) (at' : Nat) (hat : at' < 18446744073709551616) (kind : List UInt8) (hk : kind.length ≤ 40) (conn : Int) (hc1 : -9223372036854775808 ≤ conn) (hc2 : conn ≤ 9223372036854775807) (text : List UInt8) (ht : text.length ≤ 210) (w : World) (hp : RfAt B p v room es w) :
    Calls Tryd.prog 33 #[.pointer (some ⟨p, 0, none⟩), .int .u64 (at' : Int), Str kind, .int .i64 conn, Str text] w (RAddR B p room es ⟨es.length + 1, at', kind, conn, text⟩ w) := by
  have hrow : RowE w v es := rowC_of_own evL_len hp.row
  obtain ⟨ao, cap, rfl, hcase, hcap, hmx, hcells⟩ := id hrow
  have h2 := hp.blk
  have hlt := (Array.getElem?_eq_some_iff.1 h2).1
  have c0 : w.cell? ⟨p, 0, none⟩ = some (.int .i64 room) := by simp [World.cell?, h2]
  have c1 : w.cell? ⟨p, 1, none⟩ = some (.slice ao es.length cap) := by simp [World.cell?, h2]
  have hok : (Ev.mk (es.length + 1) at' kind conn text).ok := ⟨by show es.length + 1 < 18446744073709551616; omega, hat, hc1, hc2, by show kind.length ≤ 1000; omega, by show text.length ≤ 1000; omega⟩
  have HLN := Lib.hid (rline_any (Ev.mk (es.length + 1) at' kind conn text) hok)
  have HP := Lib.hid hp
  have HR := Lib.hid hrow
  clear hp hrow hcells hok h2
  generalize hRt : (Ev.mk (es.length + 1) at' kind conn text).right = R at *
  simp only [evC] at HLN
  go_enter Tryd.func33, Tryd.ntmps33
  go_wp2_with fail
  obtain ⟨W1, hW1⟩ : ∃ W1, w.alloc (.cells #[.int .u64 ((es.length : Int) + 1), .int .u64 (at' : Int), Str kind, .int .i64 conn, Str text] 32) = W1 := ⟨_, rfl⟩
  have hx1 : Ext w W1 := by rw [← hW1]; exact Below.alloc (Below.refl _ _) (Nat.le_refl _) _
  have hb1 : W1.heap[w.heap.size]? = some (.cells #[.int .u64 ((es.length : Int) + 1), .int .u64 (at' : Int), Str kind, .int .i64 conn, Str text] 32 (0, 0)) := by rw [← hW1]; exact Array.getElem?_push_size
  rw [show w.alloc (.cells #[.int .u64 ((es.length : Int) + 1), .int .u64 (at' : Int), .string ⟨kind.toArray⟩, .int .i64 conn, .string ⟨text.toArray⟩] 32) = W1 from hW1]
  refine (HLN.out W1).mono ?_
  rintro e W2 ⟨he, hx2⟩
  have HX2 := Lib.hid (ext_trans hx1 hx2)
  have hb2 := ext_at hx2 hb1
  obtain ⟨d0, d1, d2, d3, d4⟩ := cells5 hb2
  clear hx1 hx2 hb1 hW1 HLN c0 c1
  cases R with
  | false =>
    subst he
    simp only [if_false, Bool.false_eq_true]
    go_wp2_with fail
    go_ret2
    exact .inl ⟨hRt, rfl, HX2.out⟩
  | true =>
    subst he
    simp only [if_true]
    have h2 := ext_at HX2.out HP.out.blk
    have c0 : W2.cell? ⟨p, 0, none⟩ = some (.int .i64 room) := by simp [World.cell?, h2]
    have c1 : W2.cell? ⟨p, 1, none⟩ = some (.slice ao es.length cap) := by simp [World.cell?, h2]
    have hf := frozen_row h2
    have HB2 := Lib.hid hb2
    have HP2 := Lib.hid h2
    have HRt := Lib.hid hRt
    clear h2 hb2 hRt
    go_wp2_with fail
    -- inv {'ops': [('mv', 37, 0, '.pointer (some ⟨p, 0, none⟩)'), ('bs', 38, [], [], '32', 6), ('mv', 39, 0, '.pointer (some ⟨p, 0, none⟩)'), ('op', 40, [2], '.pointer (some ⟨p, 0, none⟩)'), ('op', 41, [3], '.pointer (some ⟨p, 1, none⟩)'), ('lf', 42, 4, '.slice ao es.length cap', 'have c1 := (cells2 (ext_at (Y0 (hcl.not 12 (by kernel_rfl) hL)) HP2.out)).2'), ('raw', 43, [], "have e1' := C1 (hp.of 1 (by kernel_rfl)) hL;; obtain ⟨g0, e1, hg0⟩ := e1';; have e5 := C5 (hp.of 5 (by kernel_rfl));; have hE0 := Y0 (hcl.not 12 (by kernel_rfl) hL);; have hbs := X1 (hp.of 1 (by kernel_rfl)) hL g0 (by rw [e1]; rfl);; have own0 : w'.ownsRow W2.heap.size 32 5 (.slice (some ⟨g0, 0, none⟩) 0 0) 0 [] := ⟨by simp, .inr ⟨g0, 0, #[], rfl, hbs, hg0, by omega, by simp [maxLen], by simp, by simp⟩⟩;; refine step_moreC W2.heap.size rfl _ _ 29 32 (by rfl) Tryd.underlying29 infoEvR rfl (by omega) (by omega) own0 evL_len ((HR.out.ext HX2.out).ext hE0) evL_one (by omega) hE0.size (by exact (hT _).trans e1) (by exact (hT _).trans e5) ?_;; rintro v' w1 hown1 hgr1;; have hx1 : Ext W2 w1 := ext_pushz hE0 own0 hgr1;; rw [Nat.zero_add, List.nil_append] at hown1", 'u 43'), ('ld', 44, 12, '.pointer (some ⟨w.heap.size, 0, none⟩)', ".agg #[.int .u64 ((es.length : Int) + 1), .int .u64 (at' : Int), Str kind, .int .i64 conn, Str text]", 'obtain ⟨d0, d1, d2, d3, d4⟩ := cells5 (ext_at (Y0 (hcl.not 12 (by kernel_rfl) hL)) HB2.out)'), ('bs', 45, [7], ['.int .u64 ((es.length : Int) + 1)', ".int .u64 (at' : Int)", 'Str kind', '.int .i64 conn', 'Str text'], '32', 9, 1), ('raw', 46, [], "have hL12 := hcl.not 12 (by kernel_rfl) hL;; have hown := X6 (hp.of 6 (by kernel_rfl)) hL;; obtain ⟨g', e8, hg'⟩ := C8 (hp.of 8 (by kernel_rfl)) hL;; have hE0 := Y0 hL12;; refine step_pushW W2.heap.size rfl _ _ 29 32 (by rfl) Tryd.underlying29 infoEvR rfl (by omega) (by omega) (us := [.int .u64 ((es.length : Int) + 1), .int .u64 (at' : Int), Str kind, .int .i64 conn, Str text]) hown rfl (by simp [Str, Value.oneCell']) (by omega) hE0.size (by exact (hT _)) (by exact (hT _).trans e8) hg' ?_;; rintro v' w1 hown1 hgr1 hwh1;; have hx1 : Ext W2 w1 := ext_pushz hE0 hown hgr1", 'u 46'), ('op', 47, [0], '.pointer (some ⟨p, 0, none⟩)'), ('op', 48, [10], '.pointer (some ⟨p, 1, none⟩)'), ('st', None, [11], 'have hE0 := Y0 hL; have z9 := X9 (hp.of 9 (by kernel_rfl)) hL; obtain ⟨g9, cp9, hs9⟩ := own_shape_z z9 (by omega); have e9 := (hT 46).trans hs9; have hb9 := ext_at hE0 HP2.out; have c19 := cells2 hb9; have hf9 := frozen_row hb9 1; obtain ⟨c190, c191⟩ := c19')], 'W': [('Y0', "L 12 = false → Ext W2 w'", '(fun _ => Below.drew (Below.refl _ W2))'), ('X1', 'L 1 = true → L 6 = false → ∀ g, (u 38).ownBlock = some g → W2.heap.size ≤ g', '(fun h => by cases h)'), ('X6', "L 6 = true → L 9 = false → w'.ownsRow W2.heap.size 32 5 (u 43) es.length (es.flatMap evL)", '(fun h => by cases h)'), ('X9', "L 9 = true → L 12 = false → w'.ownsRow W2.heap.size 32 5 (u 46) (es.length + 1) (es.flatMap evL ++ [.int .u64 ((es.length : Int) + 1), .int .u64 (at' : Int), Str kind, .int .i64 conn, Str text])", '(fun h => by cases h)'), ('Y12', "L 12 = true → ∃ Z : World, Ext W2 Z ∧ Z.ownsRow W2.heap.size 32 5 (u 46) (es.length + 1) (es.flatMap evL ++ [.int .u64 ((es.length : Int) + 1), .int .u64 (at' : Int), Str kind, .int .i64 conn, Str text]) ∧ w' = Z.setCell ⟨p, 1, none⟩ (u 46)", '(fun h => by cases h)')], 'over': {1: {'Y0': 'fun h => ext_trans (Y0 (by simpa using h)) hx1', 'X1': "fun _ _ g hg => by have hE0 := Y0 (hcl.not 12 (by kernel_rfl) hL); have h9 : some w'.heap.size = some g := hg; cases h9; exact hE0.size", 'X6': 'fun h => absurd h (by simp [hcl.not 6 (by kernel_rfl) hL])', 'X9': 'fun h => absurd h (by simp [hcl.not 9 (by kernel_rfl) (hcl.not 6 (by kernel_rfl) hL)])', 'Y12': 'fun h => absurd h (by simp [hcl.not 12 (by kernel_rfl) hL])'}, 6: {'Y0': 'fun _ => hx1', 'X1': 'fun _ h => absurd h (by simp)', 'X6': 'fun _ _ => hown1', 'X9': 'fun h => absurd h (by simp [hcl.not 9 (by kernel_rfl) hL])', 'Y12': 'fun h => absurd h (by simp [hcl.not 12 (by kernel_rfl) hL])', 'C8': 'fun h h2 => (by obtain ⟨g2, q1, q2⟩ := C8 (by simpa using h) (by simpa using h2); refine ⟨g2, q1, (hgr1.block _ (Array.getElem?_eq_some_iff.1 q2).1 (fun h9 => ?_)).trans q2⟩; have h8 : some g0 = some g2 := h9.symm; cases h8; rw [hg0] at q2; cases q2)'}, 8: {'Y0': 'fun h => ext_trans (Y0 (by simpa using h)) hx1', 'X6': 'fun h h2 => ownz_ext (X6 (by simpa using h) (by simpa using h2)) hx1', 'X9': 'fun h => absurd h (by simp [hcl.not 9 (by kernel_rfl) hL])', 'Y12': 'fun h => absurd h (by simp [hcl.not 12 (by kernel_rfl) hL])'}, 9: {'Y0': 'fun _ => hx1', 'X6': 'fun _ h => absurd h (by simp)', 'X9': 'fun _ _ => hown1', 'Y12': 'fun h => absurd h (by simp [hL12])', 'C1': 'fun _ h2 => absurd h2 (by simp [hp.of 6 (by kernel_rfl)])'}, 12: {'Y0': 'fun h => absurd h (by simp)', 'X1': 'fun _ h => absurd h (by simp [hp.of 6 (by kernel_rfl)])', 'X6': 'fun _ h => absurd h (by simp [hp.of 9 (by kernel_rfl)])', 'X9': 'fun _ h => absurd h (by simp)', 'Y12': "fun _ => ⟨w', hE0, z9, by rw [hs9]⟩", 'C1': 'fun _ h2 => absurd h2 (by simp [hp.of 6 (by kernel_rfl)])', 'C8': 'fun _ h2 => absurd h2 (by simp [hp.of 9 (by kernel_rfl)])'}}, 'fin': [('Y12', 12)]}
    refine wp_region_any (by kernel_rfl) ?_
    change wpAny _ _ _ _ _ _ _ (World.drew _)
    refine wpAny_inv (n := 13) [37, 38, 39, 40, 41, 42, 43, 44, 45, 46, 47, 48] (fun u L w' =>
        (L 0 = true → u 37 = .pointer (some ⟨p, 0, none⟩)) ∧
        (L 1 = true → L 6 = false → ∃ g', u 38 = .slice (some ⟨g', 0, none⟩) 0 0 ∧ w'.heap[g']? = some (.cells #[] 32 (0, 0))) ∧
        (L 2 = true → u 39 = .pointer (some ⟨p, 0, none⟩)) ∧
        (L 3 = true → u 40 = .pointer (some ⟨p, 0, none⟩)) ∧
        (L 4 = true → u 41 = .pointer (some ⟨p, 1, none⟩)) ∧
        (L 5 = true → u 42 = .slice ao es.length cap) ∧
        (L 6 = true → u 43 = u 43) ∧
        (L 7 = true → u 44 = .agg #[.int .u64 ((es.length : Int) + 1), .int .u64 (at' : Int), Str kind, .int .i64 conn, Str text]) ∧
        (L 8 = true → L 9 = false → ∃ g', u 45 = .slice (some ⟨g', 0, none⟩) 1 1 ∧ w'.heap[g']? = some (.cells #[.int .u64 ((es.length : Int) + 1), .int .u64 (at' : Int), Str kind, .int .i64 conn, Str text] 32 (0, 0))) ∧
        (L 9 = true → u 46 = u 46) ∧
        (L 10 = true → u 47 = .pointer (some ⟨p, 0, none⟩)) ∧
        (L 11 = true → u 48 = .pointer (some ⟨p, 1, none⟩)) ∧
        (L 12 = false → Ext W2 w') ∧
        (L 1 = true → L 6 = false → ∀ g, (u 38).ownBlock = some g → W2.heap.size ≤ g) ∧
        (L 6 = true → L 9 = false → w'.ownsRow W2.heap.size 32 5 (u 43) es.length (es.flatMap evL)) ∧
        (L 9 = true → L 12 = false → w'.ownsRow W2.heap.size 32 5 (u 46) (es.length + 1) (es.flatMap evL ++ [.int .u64 ((es.length : Int) + 1), .int .u64 (at' : Int), Str kind, .int .i64 conn, Str text])) ∧
        (L 12 = true → ∃ Z : World, Ext W2 Z ∧ Z.ownsRow W2.heap.size 32 5 (u 46) (es.length + 1) (es.flatMap evL ++ [.int .u64 ((es.length : Int) + 1), .int .u64 (at' : Int), Str kind, .int .i64 conn, Str text]) ∧ w' = Z.setCell ⟨p, 1, none⟩ (u 46)))
      (by rfl) (by kernel_rfl) (by kernel_rfl) (by rfl) ?_ ?_ ?_
    · exact ⟨(fun h => by cases h), (fun h => by cases h), (fun h => by cases h), (fun h => by cases h), (fun h => by cases h), (fun h => by cases h), (fun h => by cases h), (fun h => by cases h), (fun h => by cases h), (fun h => by cases h), (fun h => by cases h), (fun h => by cases h), (fun _ => Below.drew (Below.refl _ W2)), (fun h => by cases h), (fun h => by cases h), (fun h => by cases h), (fun h => by cases h)⟩
    · refine ⟨⟨⟨⟨⟨⟨⟨⟨⟨⟨⟨⟨⟨trivial, ?_⟩, ?_⟩, ?_⟩, ?_⟩, ?_⟩, ?_⟩, ?_⟩, ?_⟩, ?_⟩, ?_⟩, ?_⟩, ?_⟩, ?_⟩
      · refine stepOk_some (i := 0) (by rfl) (by rfl) ?_
        rintro u L T w' hT hu hL hp hcl ⟨C0, C1, C2, C3, C4, C5, C6, C7, C8, C9, C10, C11, Y0, X1, X6, X9, Y12⟩ K hK
        have e1 : u 0 = .pointer (some ⟨p, 0, none⟩) := hu 0 (by decide)
        go_simp
        refine hK _ _ ?_
        exact ⟨fun _ => rfl, fun h h2 => C1 (by simpa using h) (by simpa using h2), fun h => C2 (by simpa using h), fun h => C3 (by simpa using h), fun h => C4 (by simpa using h), fun h => C5 (by simpa using h), fun h => C6 (by simpa using h), fun h => C7 (by simpa using h), fun h h2 => C8 (by simpa using h) (by simpa using h2), fun h => C9 (by simpa using h), fun h => C10 (by simpa using h), fun h => C11 (by simpa using h), fun h => Y0 (by simpa using h), fun h h2 => X1 (by simpa using h) (by simpa using h2), fun h h2 => X6 (by simpa using h) (by simpa using h2), fun h h2 => X9 (by simpa using h) (by simpa using h2), fun h => Y12 (by simpa using h)⟩
      · refine stepOk_some (i := 1) (by rfl) (by rfl) ?_
        rintro u L T w' hT hu hL hp hcl ⟨C0, C1, C2, C3, C4, C5, C6, C7, C8, C9, C10, C11, Y0, X1, X6, X9, Y12⟩ K hK
        go_simp
        have hx1 : Ext w' (w'.alloc (.cells #[] 32)) := Below.alloc (Below.refl _ _) (Nat.le_refl _) _
        refine hK _ _ ?_
        exact ⟨fun h => C0 (by simpa using h), fun _ _ => ⟨_, rfl, Array.getElem?_push_size⟩, fun h => C2 (by simpa using h), fun h => C3 (by simpa using h), fun h => C4 (by simpa using h), fun h => C5 (by simpa using h), fun h => C6 (by simpa using h), fun h => C7 (by simpa using h), fun h h2 => by obtain ⟨g2, q1, q2⟩ := C8 (by simpa using h) (by simpa using h2); exact ⟨g2, q1, ext_at hx1 q2⟩, fun h => C9 (by simpa using h), fun h => C10 (by simpa using h), fun h => C11 (by simpa using h), fun h => ext_trans (Y0 (by simpa using h)) hx1, fun _ _ g hg => by have hE0 := Y0 (hcl.not 12 (by kernel_rfl) hL); have h9 : some w'.heap.size = some g := hg; cases h9; exact hE0.size, fun h => absurd h (by simp [hcl.not 6 (by kernel_rfl) hL]), fun h => absurd h (by simp [hcl.not 9 (by kernel_rfl) (hcl.not 6 (by kernel_rfl) hL)]), fun h => absurd h (by simp [hcl.not 12 (by kernel_rfl) hL])⟩
      · refine stepOk_some (i := 2) (by rfl) (by rfl) ?_
        rintro u L T w' hT hu hL hp hcl ⟨C0, C1, C2, C3, C4, C5, C6, C7, C8, C9, C10, C11, Y0, X1, X6, X9, Y12⟩ K hK
        have e1 : u 0 = .pointer (some ⟨p, 0, none⟩) := hu 0 (by decide)
        go_simp
        refine hK _ _ ?_
        exact ⟨fun h => C0 (by simpa using h), fun h h2 => C1 (by simpa using h) (by simpa using h2), fun _ => rfl, fun h => C3 (by simpa using h), fun h => C4 (by simpa using h), fun h => C5 (by simpa using h), fun h => C6 (by simpa using h), fun h => C7 (by simpa using h), fun h h2 => C8 (by simpa using h) (by simpa using h2), fun h => C9 (by simpa using h), fun h => C10 (by simpa using h), fun h => C11 (by simpa using h), fun h => Y0 (by simpa using h), fun h h2 => X1 (by simpa using h) (by simpa using h2), fun h h2 => X6 (by simpa using h) (by simpa using h2), fun h h2 => X9 (by simpa using h) (by simpa using h2), fun h => Y12 (by simpa using h)⟩
      · refine stepOk_some (i := 3) (by rfl) (by rfl) ?_
        rintro u L T w' hT hu hL hp hcl ⟨C0, C1, C2, C3, C4, C5, C6, C7, C8, C9, C10, C11, Y0, X1, X6, X9, Y12⟩ K hK
        have e2 := C2 (hp.of 2 (by kernel_rfl))
        go_simp
        try go_bits
        try (rw [if_neg (by omega)]; go_simp)
        try (rw [if_pos (by omega)]; go_simp)
        refine hK _ _ ?_
        exact ⟨fun h => C0 (by simpa using h), fun h h2 => C1 (by simpa using h) (by simpa using h2), fun h => C2 (by simpa using h), fun _ => rfl, fun h => C4 (by simpa using h), fun h => C5 (by simpa using h), fun h => C6 (by simpa using h), fun h => C7 (by simpa using h), fun h h2 => C8 (by simpa using h) (by simpa using h2), fun h => C9 (by simpa using h), fun h => C10 (by simpa using h), fun h => C11 (by simpa using h), fun h => Y0 (by simpa using h), fun h h2 => X1 (by simpa using h) (by simpa using h2), fun h h2 => X6 (by simpa using h) (by simpa using h2), fun h h2 => X9 (by simpa using h) (by simpa using h2), fun h => Y12 (by simpa using h)⟩
      · refine stepOk_some (i := 4) (by rfl) (by rfl) ?_
        rintro u L T w' hT hu hL hp hcl ⟨C0, C1, C2, C3, C4, C5, C6, C7, C8, C9, C10, C11, Y0, X1, X6, X9, Y12⟩ K hK
        have e3 := C3 (hp.of 3 (by kernel_rfl))
        go_simp
        try go_bits
        try (rw [if_neg (by omega)]; go_simp)
        try (rw [if_pos (by omega)]; go_simp)
        refine hK _ _ ?_
        exact ⟨fun h => C0 (by simpa using h), fun h h2 => C1 (by simpa using h) (by simpa using h2), fun h => C2 (by simpa using h), fun h => C3 (by simpa using h), fun _ => rfl, fun h => C5 (by simpa using h), fun h => C6 (by simpa using h), fun h => C7 (by simpa using h), fun h h2 => C8 (by simpa using h) (by simpa using h2), fun h => C9 (by simpa using h), fun h => C10 (by simpa using h), fun h => C11 (by simpa using h), fun h => Y0 (by simpa using h), fun h h2 => X1 (by simpa using h) (by simpa using h2), fun h h2 => X6 (by simpa using h) (by simpa using h2), fun h h2 => X9 (by simpa using h) (by simpa using h2), fun h => Y12 (by simpa using h)⟩
      · refine stepOk_some (i := 5) (by rfl) (by rfl) ?_
        rintro u L T w' hT hu hL hp hcl ⟨C0, C1, C2, C3, C4, C5, C6, C7, C8, C9, C10, C11, Y0, X1, X6, X9, Y12⟩ K hK
        have e4 := C4 (hp.of 4 (by kernel_rfl))
        have c1 := (cells2 (ext_at (Y0 (hcl.not 12 (by kernel_rfl) hL)) HP2.out)).2
        go_simp
        refine hK _ _ ?_
        exact ⟨fun h => C0 (by simpa using h), fun h h2 => C1 (by simpa using h) (by simpa using h2), fun h => C2 (by simpa using h), fun h => C3 (by simpa using h), fun h => C4 (by simpa using h), fun _ => rfl, fun h => C6 (by simpa using h), fun h => C7 (by simpa using h), fun h h2 => C8 (by simpa using h) (by simpa using h2), fun h => C9 (by simpa using h), fun h => C10 (by simpa using h), fun h => C11 (by simpa using h), fun h => Y0 (by simpa using h), fun h h2 => X1 (by simpa using h) (by simpa using h2), fun h h2 => X6 (by simpa using h) (by simpa using h2), fun h h2 => X9 (by simpa using h) (by simpa using h2), fun h => Y12 (by simpa using h)⟩
      · refine stepOk_some (i := 6) (by rfl) (by rfl) ?_
        rintro u L T w' hT hu hL hp hcl ⟨C0, C1, C2, C3, C4, C5, C6, C7, C8, C9, C10, C11, Y0, X1, X6, X9, Y12⟩ K hK
        have e1' := C1 (hp.of 1 (by kernel_rfl)) hL
        obtain ⟨g0, e1, hg0⟩ := e1'
        have e5 := C5 (hp.of 5 (by kernel_rfl))
        have hE0 := Y0 (hcl.not 12 (by kernel_rfl) hL)
        have hbs := X1 (hp.of 1 (by kernel_rfl)) hL g0 (by rw [e1]; rfl)
        have own0 : w'.ownsRow W2.heap.size 32 5 (.slice (some ⟨g0, 0, none⟩) 0 0) 0 [] := ⟨by simp, .inr ⟨g0, 0, #[], rfl, hbs, hg0, by omega, by simp [maxLen], by simp, by simp⟩⟩
        refine step_moreC W2.heap.size rfl _ _ 29 32 (by rfl) Tryd.underlying29 infoEvR rfl (by omega) (by omega) own0 evL_len ((HR.out.ext HX2.out).ext hE0) evL_one (by omega) hE0.size (by exact (hT _).trans e1) (by exact (hT _).trans e5) ?_
        rintro v' w1 hown1 hgr1
        have hx1 : Ext W2 w1 := ext_pushz hE0 own0 hgr1
        rw [Nat.zero_add, List.nil_append] at hown1
        refine hK _ _ ?_
        exact ⟨fun h => C0 (by simpa using h), fun h h2 => absurd h2 (by simp), fun h => C2 (by simpa using h), fun h => C3 (by simpa using h), fun h => C4 (by simpa using h), fun h => C5 (by simpa using h), fun _ => rfl, fun h => C7 (by simpa using h), fun h h2 => (by obtain ⟨g2, q1, q2⟩ := C8 (by simpa using h) (by simpa using h2); refine ⟨g2, q1, (hgr1.block _ (Array.getElem?_eq_some_iff.1 q2).1 (fun h9 => ?_)).trans q2⟩; have h8 : some g0 = some g2 := h9.symm; cases h8; rw [hg0] at q2; cases q2), fun h => C9 (by simpa using h), fun h => C10 (by simpa using h), fun h => C11 (by simpa using h), fun _ => hx1, fun _ h => absurd h (by simp), fun _ _ => hown1, fun h => absurd h (by simp [hcl.not 9 (by kernel_rfl) hL]), fun h => absurd h (by simp [hcl.not 12 (by kernel_rfl) hL])⟩
      · refine stepOk_some (i := 7) (by rfl) (by rfl) ?_
        rintro u L T w' hT hu hL hp hcl ⟨C0, C1, C2, C3, C4, C5, C6, C7, C8, C9, C10, C11, Y0, X1, X6, X9, Y12⟩ K hK
        have e1 : u 12 = .pointer (some ⟨w.heap.size, 0, none⟩) := hu 12 (by decide)
        obtain ⟨d0, d1, d2, d3, d4⟩ := cells5 (ext_at (Y0 (hcl.not 12 (by kernel_rfl) hL)) HB2.out)
        go_simp
        refine hK _ _ ?_
        exact ⟨fun h => C0 (by simpa using h), fun h h2 => C1 (by simpa using h) (by simpa using h2), fun h => C2 (by simpa using h), fun h => C3 (by simpa using h), fun h => C4 (by simpa using h), fun h => C5 (by simpa using h), fun h => C6 (by simpa using h), fun _ => rfl, fun h h2 => C8 (by simpa using h) (by simpa using h2), fun h => C9 (by simpa using h), fun h => C10 (by simpa using h), fun h => C11 (by simpa using h), fun h => Y0 (by simpa using h), fun h h2 => X1 (by simpa using h) (by simpa using h2), fun h h2 => X6 (by simpa using h) (by simpa using h2), fun h h2 => X9 (by simpa using h) (by simpa using h2), fun h => Y12 (by simpa using h)⟩
      · refine stepOk_some (i := 8) (by rfl) (by rfl) ?_
        rintro u L T w' hT hu hL hp hcl ⟨C0, C1, C2, C3, C4, C5, C6, C7, C8, C9, C10, C11, Y0, X1, X6, X9, Y12⟩ K hK
        have e7 := C7 (hp.of 7 (by kernel_rfl))
        go_simp
        have hx1 : Ext w' (w'.alloc (.cells #[.int .u64 ((es.length : Int) + 1), .int .u64 (at' : Int), Str kind, .int .i64 conn, Str text] 32)) := Below.alloc (Below.refl _ _) (Nat.le_refl _) _
        refine hK _ _ ?_
        exact ⟨fun h => C0 (by simpa using h), fun h h2 => by obtain ⟨g2, q1, q2⟩ := C1 (by simpa using h) (by simpa using h2); exact ⟨g2, q1, ext_at hx1 q2⟩, fun h => C2 (by simpa using h), fun h => C3 (by simpa using h), fun h => C4 (by simpa using h), fun h => C5 (by simpa using h), fun h => C6 (by simpa using h), fun h => C7 (by simpa using h), fun _ _ => ⟨_, rfl, Array.getElem?_push_size⟩, fun h => C9 (by simpa using h), fun h => C10 (by simpa using h), fun h => C11 (by simpa using h), fun h => ext_trans (Y0 (by simpa using h)) hx1, fun h h2 => X1 (by simpa using h) (by simpa using h2), fun h h2 => ownz_ext (X6 (by simpa using h) (by simpa using h2)) hx1, fun h => absurd h (by simp [hcl.not 9 (by kernel_rfl) hL]), fun h => absurd h (by simp [hcl.not 12 (by kernel_rfl) hL])⟩
      · refine stepOk_some (i := 9) (by rfl) (by rfl) ?_
        rintro u L T w' hT hu hL hp hcl ⟨C0, C1, C2, C3, C4, C5, C6, C7, C8, C9, C10, C11, Y0, X1, X6, X9, Y12⟩ K hK
        have hL12 := hcl.not 12 (by kernel_rfl) hL
        have hown := X6 (hp.of 6 (by kernel_rfl)) hL
        obtain ⟨g', e8, hg'⟩ := C8 (hp.of 8 (by kernel_rfl)) hL
        have hE0 := Y0 hL12
        refine step_pushW W2.heap.size rfl _ _ 29 32 (by rfl) Tryd.underlying29 infoEvR rfl (by omega) (by omega) (us := [.int .u64 ((es.length : Int) + 1), .int .u64 (at' : Int), Str kind, .int .i64 conn, Str text]) hown rfl (by simp [Str, Value.oneCell']) (by omega) hE0.size (by exact (hT _)) (by exact (hT _).trans e8) hg' ?_
        rintro v' w1 hown1 hgr1 hwh1
        have hx1 : Ext W2 w1 := ext_pushz hE0 hown hgr1
        refine hK _ _ ?_
        exact ⟨fun h => C0 (by simpa using h), fun _ h2 => absurd h2 (by simp [hp.of 6 (by kernel_rfl)]), fun h => C2 (by simpa using h), fun h => C3 (by simpa using h), fun h => C4 (by simpa using h), fun h => C5 (by simpa using h), fun h => C6 (by simpa using h), fun h => C7 (by simpa using h), fun h h2 => absurd h2 (by simp), fun _ => rfl, fun h => C10 (by simpa using h), fun h => C11 (by simpa using h), fun _ => hx1, fun h h2 => X1 (by simpa using h) (by simpa using h2), fun _ h => absurd h (by simp), fun _ _ => hown1, fun h => absurd h (by simp [hL12])⟩
      · refine stepOk_some (i := 10) (by rfl) (by rfl) ?_
        rintro u L T w' hT hu hL hp hcl ⟨C0, C1, C2, C3, C4, C5, C6, C7, C8, C9, C10, C11, Y0, X1, X6, X9, Y12⟩ K hK
        have e0 := C0 (hp.of 0 (by kernel_rfl))
        go_simp
        try go_bits
        try (rw [if_neg (by omega)]; go_simp)
        try (rw [if_pos (by omega)]; go_simp)
        refine hK _ _ ?_
        exact ⟨fun h => C0 (by simpa using h), fun h h2 => C1 (by simpa using h) (by simpa using h2), fun h => C2 (by simpa using h), fun h => C3 (by simpa using h), fun h => C4 (by simpa using h), fun h => C5 (by simpa using h), fun h => C6 (by simpa using h), fun h => C7 (by simpa using h), fun h h2 => C8 (by simpa using h) (by simpa using h2), fun h => C9 (by simpa using h), fun _ => rfl, fun h => C11 (by simpa using h), fun h => Y0 (by simpa using h), fun h h2 => X1 (by simpa using h) (by simpa using h2), fun h h2 => X6 (by simpa using h) (by simpa using h2), fun h h2 => X9 (by simpa using h) (by simpa using h2), fun h => Y12 (by simpa using h)⟩
      · refine stepOk_some (i := 11) (by rfl) (by rfl) ?_
        rintro u L T w' hT hu hL hp hcl ⟨C0, C1, C2, C3, C4, C5, C6, C7, C8, C9, C10, C11, Y0, X1, X6, X9, Y12⟩ K hK
        have e10 := C10 (hp.of 10 (by kernel_rfl))
        go_simp
        try go_bits
        try (rw [if_neg (by omega)]; go_simp)
        try (rw [if_pos (by omega)]; go_simp)
        refine hK _ _ ?_
        exact ⟨fun h => C0 (by simpa using h), fun h h2 => C1 (by simpa using h) (by simpa using h2), fun h => C2 (by simpa using h), fun h => C3 (by simpa using h), fun h => C4 (by simpa using h), fun h => C5 (by simpa using h), fun h => C6 (by simpa using h), fun h => C7 (by simpa using h), fun h h2 => C8 (by simpa using h) (by simpa using h2), fun h => C9 (by simpa using h), fun h => C10 (by simpa using h), fun _ => rfl, fun h => Y0 (by simpa using h), fun h h2 => X1 (by simpa using h) (by simpa using h2), fun h h2 => X6 (by simpa using h) (by simpa using h2), fun h h2 => X9 (by simpa using h) (by simpa using h2), fun h => Y12 (by simpa using h)⟩
      · refine stepOk_none (i := 12) (by rfl) (by rfl) ?_
        rintro u L T w' hT hu hL hp hcl ⟨C0, C1, C2, C3, C4, C5, C6, C7, C8, C9, C10, C11, Y0, X1, X6, X9, Y12⟩ K hK
        have e11 := C11 (hp.of 11 (by kernel_rfl))
        have hE0 := Y0 hL; have z9 := X9 (hp.of 9 (by kernel_rfl)) hL; obtain ⟨g9, cp9, hs9⟩ := own_shape_z z9 (by omega); have e9 := (hT 46).trans hs9; have hb9 := ext_at hE0 HP2.out; have c19 := cells2 hb9; have hf9 := frozen_row hb9 1; obtain ⟨c190, c191⟩ := c19
        go_simp
        refine hK _ ?_
        exact ⟨fun h => C0 (by simpa using h), fun _ h2 => absurd h2 (by simp [hp.of 6 (by kernel_rfl)]), fun h => C2 (by simpa using h), fun h => C3 (by simpa using h), fun h => C4 (by simpa using h), fun h => C5 (by simpa using h), fun h => C6 (by simpa using h), fun h => C7 (by simpa using h), fun _ h2 => absurd h2 (by simp [hp.of 9 (by kernel_rfl)]), fun h => C9 (by simpa using h), fun h => C10 (by simpa using h), fun h => C11 (by simpa using h), fun h => absurd h (by simp), fun _ h => absurd h (by simp [hp.of 6 (by kernel_rfl)]), fun _ h => absurd h (by simp [hp.of 9 (by kernel_rfl)]), fun _ h => absurd h (by simp), fun _ => ⟨w', hE0, z9, by rw [hs9]⟩⟩
    · rintro u L w' hall hu ⟨C0, C1, C2, C3, C4, C5, C6, C7, C8, C9, C10, C11, Y0, X1, X6, X9, Y12⟩
      replace Y12 := Y12 (hall 12 (by omega))
      replace C0 := C0 (hall 0 (by omega))
      replace C2 := C2 (hall 2 (by omega))
      replace C3 := C3 (hall 3 (by omega))
      replace C4 := C4 (hall 4 (by omega))
      replace C5 := C5 (hall 5 (by omega))
      replace C6 := C6 (hall 6 (by omega))
      replace C7 := C7 (hall 7 (by omega))
      replace C9 := C9 (hall 9 (by omega))
      replace C10 := C10 (hall 10 (by omega))
      replace C11 := C11 (hall 11 (by omega))
      simp only [fill, List.setIfInBounds_toArray, List.set_cons_succ, List.set_cons_zero, C0, C2, C3, C4, C5, C6, C7, C9, C10, C11]
      generalize u 38 = s0 at *
      generalize u 45 = s1 at *
      clear C0 C1 C2 C3 C4 C5 C6 C7 C8 C9 C10 C11 hu hall
    -- end inv
      obtain ⟨Z, hz1, hz2, hz3⟩ := Y12
      clear Y0 X1 X6 X9
      generalize u 46 = v9 at *
      have hch := Chg.setCell Z ⟨p, 1, none⟩ v9
      rw [← hz3] at hch
      have hsz2 := HX2.out.size
      have hbZ := ext_at hz1 HB2.out
      have hb9 := (hch.block _ (Array.getElem?_eq_some_iff.1 hbZ).1 (fun h => by have h' : w.heap.size = p := h; omega)).trans hbZ
      have hp9 : w'.heap[p]? = some (.cells #[.int .i64 room, v9] 43 (0, 0)) := by
        rw [hz3]; exact setCell_row (ext_at hz1 HP2.out) 1 v9
      have hrow : OwnF B v9 (es ++ [Ev.mk (es.length + 1) at' kind conn text]) w' := by
        have h3 : Z.ownsRow W2.heap.size 32 5 v9 (es ++ [Ev.mk (es.length + 1) at' kind conn text]).length ((es ++ [Ev.mk (es.length + 1) at' kind conn text]).flatMap evL) := by
          rw [List.length_append, List.flatMap_append]
          exact hz2
        refine OwnF.keep (OwnF.base (B' := B) h3 (by have := HP.out.lo; omega)) (fun g hg => ?_)
        have h4 := ownF_at hz2 hg
        exact hch.block _ h4.2 (fun h => by have h' : g = p := h; omega)
      have hgb : ∀ g, v9.ownBlock = some g → w.heap.size ≤ g := fun g hg => by have h4 := ownF_at hz2 hg; omega
      have HCH := Lib.hid (show Ch (fun k => k = p) w w' from (Ch.of_ext (ext_trans HX2.out hz1)).trans hch.ch)
      have H9 := Lib.hid (And.intro hp9 (And.intro hrow hgb))
      obtain ⟨d0, d1, d2, d3, d4⟩ := cells5 hb9
      clear hz1 hz2 hz3 hch hbZ hb9 hp9 hrow hgb HB2 HP2
      go_wp2
      go_ret2
      exact .inr ⟨HRt.out, rfl, v9, ⟨H9.out.1, H9.out.2.1, HP.out.lo⟩, HCH.out, H9.out.2.2⟩
end Go.Proofs.YtpndahmlbjhdfaaDoor
