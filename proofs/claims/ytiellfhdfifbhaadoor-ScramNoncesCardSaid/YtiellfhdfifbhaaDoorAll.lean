/-
  b64.all, Encode, EncodeURL.
-/
import Derived.Test.YtiellfhdfifbhaaDoorRows
import Derived.Test.YtiellfhdfifbhaaDoorTrip
import Derived.Shelf.Abstract
import Derived.Test.YtiellfhdfifbhaaDoorEnc
namespace Go.Proofs.YtiellfhdfifbhaaDoor
open Go.RowKit Go.Shelf
attribute [local go_sem] Oper.semAt_some

set_option maxRecDepth 100000 in
set_option maxHeartbeats 1000000 in
theorem repeat_any (n : Nat) (hn : n ≤ 2) (w : World) :
    Calls Tryd.prog 75 #[Str [61], .int .i64 (n : Int)] w fun e w' => e = .returned (Str (List.replicate n 61)) ∧ Ext w w' := by
  obtain rfl | rfl | rfl : n = 0 ∨ n = 1 ∨ n = 2 := by omega
  · go_enter Tryd.func75, Tryd.ntmps75
    go_wp2
    go_ret
    exact ⟨rfl, Below.refl _ _⟩
  · go_enter Tryd.func75, Tryd.ntmps75
    go_wp2
    go_ret
    exact ⟨rfl, Below.refl _ _⟩
  · go_enter Tryd.func75, Tryd.ntmps75
    go_wp2
    go_ret
    exact ⟨rfl, Below.refl _ _⟩

theorem triples_any (ao : Option Addr) (n cap : Nat) (w : World) :
    Calls Tryd.prog 72 #[.slice ao n cap] w fun e w' => e = .returned (.func (.func 84) #[] #[.pointer (some ⟨w.heap.size, 0, none⟩)]) ∧ w' = w.alloc (.cells #[.slice ao n cap] 33) := by
  go_enter Tryd.func72, Tryd.ntmps72
  go_wp2
  go_ret
  exact ⟨rfl, rfl⟩

/-- The letters of one piece. -/
def chunk (A : List UInt8) (f : Bool) (t : List UInt8) : List UInt8 := encL A t ++ if f then List.replicate (3 - t.length) 61 else []
/-- The letters of the first n pieces. -/
def allN (A : List UInt8) (f : Bool) (l : List UInt8) (n : Nat) : List UInt8 := (List.range n).flatMap fun j => chunk A f ((l.drop (3 * j)).take 3)
def allL (A : List UInt8) (f : Bool) (l : List UInt8) : List UInt8 := allN A f l ((l.length + 2) / 3)
theorem allN_succ (A : List UInt8) (f : Bool) (l : List UInt8) (n : Nat) : allN A f l (n + 1) = allN A f l n ++ chunk A f ((l.drop (3 * n)).take 3) := by
  simp [allN, List.range_succ]

theorem chunk_len (A : List UInt8) (f : Bool) (t : List UInt8) (h : t.length ≤ 3) : (chunk A f t).length ≤ 4 := by
  cases f <;> simp [chunk, encL] <;> omega
theorem allN_len (A : List UInt8) (f : Bool) (l : List UInt8) : ∀ n, (allN A f l n).length ≤ 4 * n
  | 0 => by simp [allN]
  | n + 1 => by
    have h1 := allN_len A f l n
    have h2 := chunk_len A f ((l.drop (3 * n)).take 3) (by simp; omega)
    rw [allN_succ, List.length_append]; omega

set_option maxHeartbeats 1000000 in
theorem all_any (A l : List UInt8) (hA : A.length = 64) (f : Bool) (v : Value) (w : World) (hv : SlB w v l) (hl : l.length ≤ 10000) :
    Calls Tryd.prog 64 #[Str A, v, .bool f] w fun e w' => e = .returned (Str (allL A f l)) ∧ Ext w w' := by
  have hvw := hv
  obtain ⟨ao, cap, rfl, hcap, hmax, hnil, hcell⟩ := hv
  simp only [List.length_map] at hcap hvw ⊢
  clear hcell hcap hmax hnil
  refine (callsIn_wide (n := 5)).1 ?_
  refine callsIn_of_wp_marks Tryd.func64 rfl trivial ?_ rfl
  simp only [Tryd.ntmps64, List.size_toArray, List.length_cons, List.length_nil, Nat.reduceAdd, Nat.reduceSub, Array.replicate_succ, Array.replicate_zero, List.push_toArray, List.append_toArray, List.nil_append, List.cons_append]
  gi_wp2_with (refine ⟨trivial, ?_⟩; gi_at_call 72; refine (callsIn_wide.2 (triples_any _ _ _ _)).mono ?_; rintro e w' ⟨rfl, rfl⟩)
  obtain ⟨W0, hW0⟩ : ∃ W0, (((w.alloc (.cells #[Str A] 9)).alloc (.cells #[.bool f] 4)).alloc (.cells #[.pointer none, .slice none 0 0] 84)).alloc (.cells #[.slice ao l.length cap] 33) = W0 := ⟨_, rfl⟩
  have hA0 : W0.heap[w.heap.size]? = some (.cells #[Str A] 9 (0, 0)) := by
    rw [← hW0, Below.heap_alloc _ _ _ (by simp <;> omega), Below.heap_alloc _ _ _ (by simp <;> omega), Below.heap_alloc _ _ _ (by simp)]; exact heap_alloc_new w _
  have hf0 : W0.heap[w.heap.size + 1]? = some (.cells #[.bool f] 4 (0, 0)) := by
    rw [← hW0, Below.heap_alloc _ _ _ (by simp <;> omega), Below.heap_alloc _ _ _ (by simp)]
    have := heap_alloc_new (w.alloc (.cells #[Str A] 9)) (.cells #[.bool f] 4); simpa using this
  have hB0 : Bld (w.heap.size + 4) W0 (w.heap.size + 2) [] := by
    have := bld_new (w.heap.size + 4) ((w.alloc (.cells #[Str A] 9)).alloc (.cells #[.bool f] 4))
    rw [show ((w.alloc (.cells #[Str A] 9)).alloc (.cells #[.bool f] 4)).heap.size = w.heap.size + 2 by simp] at this
    rw [← hW0]; exact this.ext ((Below.refl _ _).alloc (Nat.le_refl _) _)
  have hp0 : W0.heap[w.heap.size + 3]? = some (.cells #[.slice ao l.length cap] 33 (0, 0)) := by
    rw [← hW0]
    have := heap_alloc_new (((w.alloc (.cells #[Str A] 9)).alloc (.cells #[.bool f] 4)).alloc (.cells #[.pointer none, .slice none 0 0] 84)) (.cells #[.slice ao l.length cap] 33); simpa using this
  have hext0 : Ext w W0 := by
    rw [← hW0]
    exact ((((Below.refl _ w).alloc (Nat.le_refl _) _).alloc (by simp) _).alloc (by simp <;> omega) _).alloc (by simp <;> omega) _
  have hsz0 : W0.heap.size = w.heap.size + 4 := by rw [← hW0]; simp
  have hv0 : SlB W0 (.slice ao l.length cap) l := hvw.ext hext0
  have hsb : ∀ k, sblk (.slice ao l.length cap) l.length k → k < w.heap.size := fun k hk => sblk_lt hvw (by simpa using hk)
  rw [hW0]
  clear hW0
  obtain ⟨vs, hvs, hit⟩ := triples_iter _ l (w.heap.size + 3) W0 hv0 hp0 (fun h => by have := hsb _ h; omega)
  refine wpIn_range (P := Tryd.prog) rfl (enters_of Tryd.func84 (by kernel_rfl) rfl) hit (fun k h => ?_) (fun k h => by omega) (fun _ => rfl)
    (fun i W => W.heap[w.heap.size]? = some (.cells #[Str A] 9 (0, 0)) ∧ W.heap[w.heap.size + 1]? = some (.cells #[.bool f] 4 (0, 0)) ∧ Bld (w.heap.size + 4) W (w.heap.size + 2) (allN A f l i) ∧ SlB W (.slice ao l.length cap) l ∧ Below w.heap.size w W ∧ w.heap.size + 4 ≤ W.heap.size)
    (fun _ _ _ => False) ?_ (fun _ _ _ _ h _ => h) ⟨hA0, hf0, hB0, hv0, hext0, by omega⟩ ?_ ?_ (fun _ _ _ _ _ _ h _ => h.elim)
  · rcases h with h | h
    · omega
    · have := hsb k h; omega
  · rintro i A' C ⟨h1, h2, h3, h4, h5, h6⟩ hm
    refine ⟨hm.keeps h1 (by omega) (by omega), hm.keeps h2 (by omega) (by omega), h3.mv hm (fun k hk => by omega), hm.sl h4 (fun k hk => ?_), hm.below h5 (fun k hk => by omega) (by omega) (Nat.le_refl _), Nat.le_trans h6 hm.size⟩
    have := hsb k (by simpa using hk); omega
  · rintro m lp i W hi ⟨h1, h2, h3, h4, h5, h6⟩ hlp hrec
    gi_wp2
    refine ⟨Kp.refl _ _ _, fun W2 hm2 hrec2 => ?_⟩
    replace h1 := hm2.keeps h1 (fun h => h) (by omega)
    replace h2 := hm2.keeps h2 (fun h => h) (by omega)
    replace h3 := h3.mv hm2 (fun k hk => hk.elim)
    replace h4 := hm2.sl h4 (fun k hk => ⟨fun h => h, by have := hsb k (by simpa using hk); omega⟩)
    replace h5 := hm2.below h5 (fun k hk => hk.elim) (by omega) (Nat.le_refl _)
    replace h6 := Nat.le_trans h6 hm2.size
    clear hm2 hrec hrec2
    have hvi := hvs i W2 (by omega) h4
    have c1 : W2.cell? ⟨w.heap.size, 0, none⟩ = some (Str A) := by simp [World.cell?, h1]
    have c2 : W2.cell? ⟨w.heap.size + 1, 0, none⟩ = some (.bool f) := by simp [World.cell?, h2]
    have hlt : ((l.drop (3 * i)).take 3).length ≤ 3 := by simp; omega
    have hlt' : (allN A f l i).length ≤ 50000 := by have := allN_len A f l i; omega
    have hnx := Lib.hid (allN_succ A f l i)
    have hel : (encL A ((l.drop (3 * i)).take 3)).length = ((l.drop (3 * i)).take 3).length + 1 := by simp [encL]
    have hne : (l.drop (3 * i)).take 3 ≠ [] := by
      intro e; have := congrArg List.length e; simp at this; omega
    generalize (l.drop (3 * i)).take 3 = t at *
    have fin : ∀ Wn, BFr (w.heap.size + 4) (w.heap.size + 2) W2 Wn → Bld (w.heap.size + 4) Wn (w.heap.size + 2) (allN A f l (i + 1)) →
        Kp W0.heap.size (fun k => k = w.heap.size + 3 ∨ sblk (.slice ao l.length cap) l.length k) W2 Wn ∧
        Wn.heap[w.heap.size]? = some (.cells #[Str A] 9 (0, 0)) ∧ Wn.heap[w.heap.size + 1]? = some (.cells #[.bool f] 4 (0, 0)) ∧ Bld (w.heap.size + 4) Wn (w.heap.size + 2) (allN A f l (i + 1)) ∧ SlB Wn (.slice ao l.length cap) l ∧ Below w.heap.size w Wn ∧ w.heap.size + 4 ≤ Wn.heap.size := by
      intro Wn hfr hB
      refine ⟨hfr.kp (fun k hk => ?_) (by rw [h3.kind]; simp), (hfr.block _ (by omega) (by omega) (.inl (by omega))).trans h1, (hfr.block _ (by omega) (by omega) (.inl (by omega))).trans h2, hB, h4.keep (fun k hk => ?_), h5.trans (hfr.below (by omega) (by omega) (by omega)), Nat.le_trans h6 hfr.size⟩
      · rcases hk with hk | hk
        · exact ⟨by omega, by omega, .inl (by omega)⟩
        · have := hsb k hk; exact ⟨by omega, by omega, .inl (by omega)⟩
      · have := hsb k (by simpa using hk); exact hfr.block _ (by omega) (by omega) (.inl (by omega))
    have Fin := Lib.hid fin; clear fin
    gi_wp2_with (refine ⟨trivial, fun h => by simp [Fence.wide] at h, ?_⟩; gi_at_call 73; refine (CallsIn.inRound lp (callsIn_wide.2 (encode_any A t hA _ hlt _ hvi))).mono ?_; rintro e W3 ⟨v3, rfl, hown3, hext3⟩; obtain ⟨g3, cap3, rfl, hg3⟩ := own_shape hown3 (by omega))
    have hs3 : SlB W3 (.slice (some ⟨g3, 0, none⟩) (t.length + 1) cap3) (encL A t) := sl_of_own hown3
    have hB3 := h3.ext hext3
    refine ⟨trivial, fun h => by simp [Fence.wide] at h, (CallsIn.inRound lp (callsIn_wide.2 (Write_any (w.heap.size + 4) (w.heap.size + 2) (allN A f l i) (encL A t) _ W3 hB3 ?c1 ?c2 ?c3 ?c4 ?c5))).mono ?_⟩
    case c1 => exact hel ▸ hs3
    case c2 => intro e; rw [e] at hel; simp at hel
    case c3 => omega
    case c4 => have := hext3.size; omega
    case c5 => intro k hk; have := hk.2; simp [Value.ownBlock] at this; omega
    rintro e W4 ⟨rfl, hB4, hfr4⟩
    have h24 : W4.heap[w.heap.size + 1]? = some (.cells #[.bool f] 4 (0, 0)) := (hfr4.block _ (by have := hext3.size; omega) (by omega) (.inl (by omega))).trans ((hext3.block _ (by omega)).trans h2)
    have c24 : W4.cell? ⟨w.heap.size + 1, 0, none⟩ = some (.bool f) := by simp [World.cell?, h24]
    clear c1 c2
    have hfr24 : BFr (w.heap.size + 4) (w.heap.size + 2) W2 W4 := (BFr.ext hext3).trans hfr4
    cases f with
    | false =>
      gi_wp2
      refine Fin.out W4 hfr24 ?_
      rw [hnx.out]; simpa [chunk] using hB4
    | true =>
      gi_wp2
      rw [show (4 - ((t.length : Int) + 1)) = ((3 - t.length : Nat) : Int) by omega]
      have hne' : 0 < t.length := List.length_pos_iff.2 hne
      refine ⟨trivial, fun h => by simp [Fence.wide] at h, (CallsIn.inRound lp (callsIn_wide.2 (repeat_any _ (by omega) _))).mono ?_⟩
      rintro e W5 ⟨rfl, hext5⟩
      have hB5 := hB4.ext hext5
      gi_wp2
      refine ⟨trivial, fun h => by simp [Fence.wide] at h, (CallsIn.inRound lp (callsIn_wide.2 (WriteString_any (w.heap.size + 4) (w.heap.size + 2) _ _ W5 hB5 (by simp; omega) (by have := hext5.size; have := hfr24.size; omega)))).mono ?_⟩
      rintro e W6 ⟨rfl, hB6, hfr6⟩
      gi_wp2
      refine Fin.out W6 ((hfr24.trans (BFr.ext hext5)).trans hfr6) ?_
      rw [hnx.out]; simpa [chunk] using hB6
  · rintro D W hD ⟨h1, h2, h3, h4, h5, h6⟩ hdef
    gi_wp2
    refine ⟨trivial, (callsIn_wide.2 (String_any (w.heap.size + 4) (w.heap.size + 2) _ W h3)).mono ?_⟩
    rintro e W7 ⟨rfl, hb7⟩
    gi_wp2
    have hd7 : W7.heap[D]? = some (.deferred (some [])) := (hb7.block _ (Array.getElem?_eq_some_iff.1 hdef).1 (by omega) (.inr (by rw [kind_none hdef rfl]; simp))).trans hdef
    refine marks_ret hd7 (results_tmp rfl _ _) ⟨rfl, ?_⟩
    exact below_mark (h5.trans (hb7.below (by omega) (by omega) (by omega))) (by omega) hd7
end Go.Proofs.YtiellfhdfifbhaaDoor
