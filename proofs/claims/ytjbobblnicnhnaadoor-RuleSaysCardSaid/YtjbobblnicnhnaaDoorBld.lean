/-
  strings.Builder: what a builder of the call's own holds (Bld), what a write leaves alone (BFr), and the contracts of its methods.
-/
import Derived.Test.YtjbobblnicnhnaaDoorRows
import Derived.Test.YtjbobblnicnhnaaDoorRange
import Derived.Lib.Builder
import Derived.Lib.AppendStr
import Derived.Lib.UnsafeStr
import Derived.Lib.Walk
import Derived.Laws.Externs
namespace Go.Proofs.YtjbobblnicnhnaaDoor
open Go.RowKit
set_option maxRecDepth 100000

def bty : Nat := 5
/-- Block b is a builder that holds bs; its buffer lies from base on. -/
def Bld (base : Nat) (w : World) (b : Nat) (bs : List UInt8) : Prop :=
  ∃ p v, w.heap[b]? = some (.cells #[p, v] 91 (0, 0)) ∧ (p = .pointer none ∨ p = .pointer (some ⟨b, 0, none⟩)) ∧ w.ownsRow base 5 1 v bs.length (bs.map Byt) ∧ v.ownBlock ≠ some b
/-- A write turns the builder's block and rows of bytes from base on, no more. -/
structure BFr (base b : Nat) (A C : World) : Prop where
  os : C.os = A.os
  tape : C.tape = A.tape
  output : C.output = A.output
  size : A.heap.size ≤ C.heap.size
  block : ∀ k, k < A.heap.size → k ≠ b → (k < base ∨ kind? A k ≠ some 5) → C.heap[k]? = A.heap[k]?
theorem BFr.refl (base b : Nat) (A : World) : BFr base b A A := ⟨rfl, rfl, rfl, Nat.le_refl _, fun _ _ _ _ => rfl⟩
theorem BFr.trans {base b : Nat} {A B C : World} (h : BFr base b A B) (k : BFr base b B C) : BFr base b A C :=
  ⟨k.os.trans h.os, k.tape.trans h.tape, k.output.trans h.output, Nat.le_trans h.size k.size, fun i hi hb hc => by
    have h1 := h.block i hi hb hc
    exact (k.block i (Nat.lt_of_lt_of_le hi h.size) hb (by rw [kind_same h1]; exact hc)).trans h1⟩
theorem BFr.below {base b : Nat} {A C : World} (h : BFr base b A C) {B : Nat} (h1 : B ≤ base) (h2 : B ≤ b) (h3 : B ≤ A.heap.size) : Below B A C :=
  ⟨h.os, h.tape, h.output, h.size, fun k hk => h.block k (by omega) (by omega) (.inl (by omega))⟩
theorem BFr.kp {base b : Nat} {A C : World} (h : BFr base b A C) {B : Nat} {own : Nat → Prop} (hown : ∀ k, own k → k < A.heap.size ∧ k ≠ b ∧ (k < base ∨ kind? A k ≠ some 5)) (hb : kind? A b ≠ none) : Kp B own A C :=
  ⟨h.size, fun k hk => h.block k (hown k hk).1 (hown k hk).2.1 (hown k hk).2.2, fun k hk _ hn => h.block k hk (fun e => by subst e; exact hb hn) (.inr (by rw [hn]; simp))⟩
theorem BFr.ext {base b : Nat} {A C : World} (h : Ext A C) : BFr base b A C := ⟨h.os, h.tape, h.output, h.size, fun k hk _ _ => h.block k hk⟩
theorem Bld.kind {base : Nat} {w : World} {b : Nat} {bs : List UInt8} (h : Bld base w b bs) : kind? w b = some 91 := by
  obtain ⟨p, v, hb, _⟩ := h; exact kind_of_cells hb
theorem Bld.lt {base : Nat} {w : World} {b : Nat} {bs : List UInt8} (h : Bld base w b bs) : b < w.heap.size := kind_lt h.kind
/-- What keeps the builder's block and all rows of bytes keeps the builder. -/
theorem Bld.keep {base : Nat} {w w' : World} {b : Nat} {bs : List UInt8} (h : Bld base w b bs) (hk : ∀ k, k < w.heap.size → (k = b ∨ (base ≤ k ∧ kind? w k = some 5)) → w'.heap[k]? = w.heap[k]?) : Bld base w' b bs := by
  obtain ⟨p, v, hb, hp, hown, hne⟩ := h
  refine ⟨p, v, (hk b (kind_lt (kind_of_cells hb)) (.inl rfl)).trans hb, hp, ⟨hown.1, ?_⟩, hne⟩
  rcases hown.2 with hn | ⟨g, cap, cur, hv, hbg, hg, r⟩
  · exact .inl hn
  · exact .inr ⟨g, cap, cur, hv, hbg, (hk g (kind_lt (kind_of_cells hg)) (.inr ⟨hbg, kind_of_cells hg⟩)).trans hg, r⟩
theorem Bld.ext {base : Nat} {w w' : World} {b : Nat} {bs : List UInt8} (h : Bld base w b bs) (he : Ext w w') : Bld base w' b bs := h.keep fun k hk _ => he.block k hk
theorem Bld.mv {base : Nat} {w w' : World} {b : Nat} {bs : List UInt8} (h : Bld base w b bs) {B : Nat} {mu : Nat → Prop} (he : Mv B mu w w') (hm : ∀ k, mu k → k ≠ b ∧ (k < base ∨ kind? w k ≠ some 5)) : Bld base w' b bs :=
  h.keep fun k hk hc => he.block k hk (fun hmk => by
    obtain ⟨h1, h2⟩ := hm k hmk
    rcases hc with e | ⟨e1, e2⟩
    · exact h1 e
    · rcases h2 with h2 | h2
      · omega
      · exact h2 e2) (.inr (by
    rcases hc with e | ⟨_, e2⟩
    · subst e; exact ⟨_, h.kind⟩
    · exact ⟨_, e2⟩))
/-- A fresh builder. -/
theorem bld_new (base : Nat) (w : World) : Bld base (w.alloc (.cells #[.pointer none, .slice none 0 0] 91)) w.heap.size [] :=
  ⟨_, _, heap_alloc_new w _, .inl rfl, World.ownsRow_nil _ _ _ _, by simp [Value.ownBlock]⟩

theorem sizeBuilder : (Tryd.prog.info? 91).map (·.size) = some 2 := by kernel_rfl
theorem infoByte : (Tryd.prog.info? 5).map (fun i => (i.zero, i.size, i.bytes)) = some (some (.int .u8 0), 1, 1) := by kernel_rfl
theorem cellsByte : Tryd.prog.cellsOf 5 = 1 := by kernel_rfl

set_option maxHeartbeats 1000000 in
theorem copyCheck_used (b : Nat) (w : World) (h0 : w.cell? ⟨b, 0, none⟩ = some (.pointer (some ⟨b, 0, none⟩))) :
    Calls Tryd.prog 74 #[.pointer (some ⟨b, 0, none⟩)] w fun e w' => e = .returned (.tuple #[]) ∧ w' = w := by
  obtain ⟨j, hj, _⟩ := Option.map_eq_some_iff.1 sizeBuilder
  go_enter Tryd.func74, Tryd.ntmps74
  go_wp2
  rw [Lib.run_neq_ptr_same w _ Tryd.underlying88 hj]
  go_wp2
  go_end0
  exact ⟨rfl, rfl⟩
set_option maxHeartbeats 1000000 in
theorem copyCheck_fresh (b : Nat) (w : World) (h0 : w.cell? ⟨b, 0, none⟩ = some (.pointer none)) (hsh : w.shape? b = some (91, 2)) (hfz : w.frozen? ⟨b, 0, none⟩ = false) :
    Calls Tryd.prog 74 #[.pointer (some ⟨b, 0, none⟩)] w fun e w' => e = .returned (.tuple #[]) ∧ w' = w.setCell ⟨b, 0, none⟩ (.pointer (some ⟨b, 0, none⟩)) := by
  obtain ⟨j, hj, hjs⟩ := Option.map_eq_some_iff.1 sizeBuilder
  go_enter Tryd.func74, Tryd.ntmps74
  go_wp2
  rw [Lib.run_to_unsafe w ⟨b, 0, none⟩ Tryd.underlying88 Tryd.underlying114 hj (by rw [hjs]; decide) hsh (Nat.zero_lt_succ 1)]
  go_wp2
  rw [run_callFunc_extern Tryd.func84 (by kernel_rfl) (by kernel_rfl) (by kernel_rfl) (e := Extern.AbiNoEscape.same) (by kernel_rfl)]
  rw [Lib.run_noEscape]
  go_wp2
  rw [Lib.run_from_unsafe w ⟨b, 0, none⟩ Tryd.underlying114 Tryd.underlying88 hj hsh (by kernel_rfl)]
  go_wp2
  go_end0
  exact ⟨rfl, rfl⟩
theorem copyCheck_any (base b : Nat) (bs : List UInt8) (w : World) (h : Bld base w b bs) :
    Calls Tryd.prog 74 #[.pointer (some ⟨b, 0, none⟩)] w fun e w' => e = .returned (.tuple #[]) ∧ Bld base w' b bs ∧ BFr base b w w' ∧ Chg (fun k => k = b) w w' ∧
      ∃ v, w'.heap[b]? = some (.cells #[.pointer (some ⟨b, 0, none⟩), v] 91 (0, 0)) ∧ w'.ownsRow base 5 1 v bs.length (bs.map Byt) ∧ v.ownBlock ≠ some b := by
  obtain ⟨p, v, hb, hp, hown, hne⟩ := h
  rcases hp with rfl | rfl
  · refine (copyCheck_fresh b w (by simp [World.cell?, hb]) (by simp [World.shape?, hb]) (by simp [World.frozen?, hb])).mono ?_
    rintro e w' ⟨rfl, rfl⟩
    have hlt := kind_lt (kind_of_cells hb)
    have hb' : (w.setCell ⟨b, 0, none⟩ (.pointer (some ⟨b, 0, none⟩))).heap[b]? = some (.cells #[.pointer (some ⟨b, 0, none⟩), v] 91 (0, 0)) := by
      have h' : w.heap[b] = .cells #[.pointer none, v] 91 (0, 0) := by simpa [Array.getElem?_eq_getElem hlt] using hb
      show (w.heap.modify b _)[b]? = _
      rw [Array.getElem?_eq_getElem (by simpa using hlt), Array.getElem_modify_self, h']
      rfl
    have hown' : (w.setCell ⟨b, 0, none⟩ (.pointer (some ⟨b, 0, none⟩))).ownsRow base 5 1 v bs.length (bs.map Byt) := by
      refine ⟨hown.1, ?_⟩
      rcases hown.2 with hn | ⟨g, cap, cur, hv, hbg, hg, r⟩
      · exact .inl hn
      · refine .inr ⟨g, cap, cur, hv, hbg, ?_, r⟩
        rw [Below.heap_setCell _ _ _ _ (fun e => hne (by rw [hv]; simp only [Value.ownBlock]; rw [show g = b from e]))]
        exact hg
    have hc := Chg.setCell w ⟨b, 0, none⟩ (.pointer (some ⟨b, 0, none⟩))
    exact ⟨rfl, ⟨_, v, hb', .inr rfl, hown', hne⟩, ⟨hc.os, hc.tape, hc.output, hc.size, fun k hk hkb _ => hc.block k hk hkb⟩, hc, v, hb', hown', hne⟩
  · refine (copyCheck_used b w (by simp [World.cell?, hb])).mono ?_
    rintro e w' ⟨rfl, rfl⟩
    exact ⟨rfl, ⟨_, v, hb, .inr rfl, hown, hne⟩, BFr.refl _ _ _, Chg.refl _ _, v, hb, hown, hne⟩

/-- What a store of the grown buffer leaves. -/
theorem bld_stored {base b : Nat} {bs : List UInt8} {w2 : World} {p v v' : Value} (hb2 : w2.heap[b]? = some (.cells #[p, v] 91 (0, 0))) (hp : p = .pointer none ∨ p = .pointer (some ⟨b, 0, none⟩))
    (hown' : w2.ownsRow base 5 1 v' bs.length (bs.map Byt)) : Bld base (w2.setCell ⟨b, 1, none⟩ v') b bs := by
  have hlt := kind_lt (kind_of_cells hb2)
  have hb' : (w2.setCell ⟨b, 1, none⟩ v').heap[b]? = some (.cells #[p, v'] 91 (0, 0)) := by
    have h' : w2.heap[b] = .cells #[p, v] 91 (0, 0) := by simpa [Array.getElem?_eq_getElem hlt] using hb2
    show (w2.heap.modify b _)[b]? = _
    rw [Array.getElem?_eq_getElem (by simpa using hlt), Array.getElem_modify_self, h']
    rfl
  have hne : v'.ownBlock ≠ some b := fun e => by
    rcases hown'.2 with ⟨rfl, _⟩ | ⟨g, cap, cur, rfl, hbg, hg, r⟩
    · simp [Value.ownBlock] at e
    · simp [Value.ownBlock] at e; subst e; rw [hg] at hb2; cases hb2
  refine ⟨p, v', hb', hp, ⟨hown'.1, ?_⟩, hne⟩
  rcases hown'.2 with hn | ⟨g, cap, cur, hv, hbg, hg, r⟩
  · exact .inl hn
  · refine .inr ⟨g, cap, cur, hv, hbg, ?_, r⟩
    rw [Below.heap_setCell _ _ _ _ (fun e => hne (by rw [hv]; simp only [Value.ownBlock]; rw [show g = b from e]))]
    exact hg
theorem bfr_stored {base b : Nat} {w w1 w2 : World} {v v' : Value} {n : Nat} {xs : List Value} (h1 : BFr base b w w1) (hown : w1.ownsRow base 5 1 v n xs) (hg : w1.grownBy w2 v.ownBlock) : BFr base b w (w2.setCell ⟨b, 1, none⟩ v') := by
  have hc := Chg.setCell w2 ⟨b, 1, none⟩ v'
  refine h1.trans ⟨hc.os.trans hg.os, hc.tape.trans hg.tape, hc.output.trans hg.output, Nat.le_trans hg.size hc.size, fun k hk hkb hcond => ?_⟩
  rw [hc.block k (Nat.lt_of_lt_of_le hk hg.size) hkb]
  refine hg.block k hk (fun e => ?_)
  rcases hown.2 with ⟨rfl, _⟩ | ⟨g, cap, cur, rfl, hbg, hg', r⟩
  · simp [Value.ownBlock] at e
  · simp [Value.ownBlock] at e; subst e
    rcases hcond with h | h
    · omega
    · exact h (kind_of_cells hg')

set_option maxHeartbeats 1000000 in
theorem WriteString_any (base b : Nat) (bs l : List UInt8) (w : World) (h : Bld base w b bs) (hlen : bs.length + l.length ≤ 100000000) (hbase : base ≤ w.heap.size) :
    Calls Tryd.prog 54 #[.pointer (some ⟨b, 0, none⟩), Str l] w fun e w' => e = .returned (.tuple #[.int .i64 (l.length : Int), .nilIface]) ∧ Bld base w' b (bs ++ l) ∧ BFr base b w w' := by
  obtain ⟨i0, hi, hz0, hz1, hz2⟩ := info_parts infoByte
  go_enter Tryd.func54, Tryd.ntmps54
  go_wp2_with (go_at_call 74; refine (copyCheck_any base b bs _ h).mono ?_)
  rintro e w1 ⟨rfl, hB1, hf1, hch1, v, hb1, hown, hne⟩
  have c0 : w1.cell? ⟨b, 0, none⟩ = some (.pointer (some ⟨b, 0, none⟩)) := by simp [World.cell?, hb1]
  have c1 : w1.cell? ⟨b, 1, none⟩ = some v := by simp [World.cell?, hb1]
  go_wp2_with (at_builtin; refine Lib.wpList_append_own_string _ rfl _ _ 89 9 rfl base 5 i0 Tryd.underlying89 Tryd.underlying9 hi hz0 hz1 hz2 _ _ _ rfl hown ⟨l.toArray⟩ rfl ?c3 ?c4 ?c5 ?_)
  case c3 => rw [size_list]; unfold maxLen; omega
  case c4 => rw [size_list]; omega
  case c5 => have := hf1.size; omega
  intro v' w2 hown' hgrow _
  have hlt : b < w1.heap.size := hB1.lt
  have hb2 : w2.heap[b]? = some (.cells #[.pointer (some ⟨b, 0, none⟩), v] 91 (0, 0)) := by
    rw [hgrow.block b hlt (fun e => hne e.symm)]
    exact hb1
  have d0 : w2.cell? ⟨b, 0, none⟩ = some (.pointer (some ⟨b, 0, none⟩)) := by simp [World.cell?, hb2]
  have d1 : w2.cell? ⟨b, 1, none⟩ = some v := by simp [World.cell?, hb2]
  have f1 : w2.frozen? ⟨b, 1, none⟩ = false := by simp [World.frozen?, hb2]
  obtain ⟨ao, n', cap, rfl⟩ : ∃ ao n' cap, v' = .slice ao n' cap := by
    rcases hown'.2 with ⟨hv, _⟩ | ⟨g, cap, cur, hv, _⟩
    · exact ⟨_, _, _, hv⟩
    · exact ⟨_, _, _, hv⟩
  go_wp2
  go_ret2
  refine ⟨by simp, bld_stored hb2 (.inr rfl) (by simpa [Lib.strCells, size_list] using hown'), ?_⟩
  exact bfr_stored hf1 hown hgrow

theorem bfr_freeze {base b : Nat} {w : World} {g : Nat} {cur : Array Value} (hg : w.heap[g]? = some (.cells cur 5 (0, 0))) (hbg : base ≤ g) (n : Nat) : BFr base b w (w.drew.freeze ⟨g, 0, none⟩ n) := by
  unfold World.freeze
  split
  · exact ⟨rfl, rfl, rfl, Nat.le_refl _, fun _ _ _ _ => rfl⟩
  · refine ⟨rfl, rfl, rfl, Nat.le_of_eq (Array.size_modify ..).symm, fun k hk hkb hc => ?_⟩
    have hne : k ≠ g := by
      rintro rfl
      rcases hc with h | h
      · omega
      · exact h (kind_of_cells hg)
    show (w.heap.modify g _)[k]? = _
    rw [Array.getElem?_modify, if_neg (Ne.symm hne)]
theorem run_unsafeString_none (W : World) (q : Option Addr) : (Builtin.unsafeString_ #[106, 3] 9 #[.pointer q, .int .i64 0]).run Tryd.prog W = .ok (.string ⟨#[]⟩) W :=
  Lib.run_unsafeString_none W _ _ _ q
set_option maxHeartbeats 2000000 in
theorem String_any (base b : Nat) (l : List UInt8) (w : World) (h : Bld base w b l) :
    Calls Tryd.prog 55 #[.pointer (some ⟨b, 0, none⟩)] w fun e w' => e = .returned (Str l) ∧ BFr base b w w' := by
  obtain ⟨p, v, hb, hp, hown, hne⟩ := h
  clear hp
  have hlt := kind_lt (kind_of_cells hb)
  have hUSn := run_unsafeString_none
  rcases hown.2 with ⟨rfl, hl⟩ | ⟨g, cap, cur, rfl, hbg, hg, hnc, hcm, hcs, ht⟩
  · have : l = [] := List.eq_nil_of_length_eq_zero hl
    subst this
    have c1 : w.drew.cell? ⟨b, 1, none⟩ = some (.slice none 0 0) := by
      have : w.drew.heap[b]? = some (.cells #[p, .slice none 0 0] 91 (0, 0)) := hb
      simp [World.cell?, this]
    have hSD : (Builtin.unsafeSliceData_ #[89] 106 #[.slice none 0 0]).run Tryd.prog w.drew = .ok (.pointer none) w.drew := rfl
    clear hown hl hne hlt hb
    go_enter Tryd.func55, Tryd.ntmps55
    go_wp2
    go_region
    all_goals (go_wp2; go_ret; exact ⟨rfl, BFr.ext (Below.drew (Below.refl _ _))⟩)
  · by_cases hl : l = []
    · subst hl
      by_cases hc0 : cap = 0
      · subst hc0
        have hSD : (Builtin.unsafeSliceData_ #[89] 106 #[.slice (some ⟨g, 0, none⟩) 0 0]).run Tryd.prog w.drew = .ok (.pointer (some ⟨w.drew.heap.size, 0, none⟩)) (w.drew.alloc (.view ⟨g, 0, none⟩ 5)) :=
          Lib.run_unsafeSliceData_zero w.drew _ _ 5 Tryd.underlying106 ⟨g, 0, none⟩ 0 (5, cur.size) (by have hg' : w.drew.heap[g]? = some (.cells cur 5 (0, 0)) := hg; simp [World.shape?, hg'])
        have c2 : (w.alloc (.view ⟨g, 0, none⟩ 5)).drew.cell? ⟨b, 1, none⟩ = some (.slice (some ⟨g, 0, none⟩) 0 0) := by
          have : (w.drew.alloc (.view ⟨g, 0, none⟩ 5)).heap[b]? = _ := (Below.heap_alloc w.drew _ b hlt).trans hb
          show (w.drew.alloc (.view ⟨g, 0, none⟩ 5)).cell? ⟨b, 1, none⟩ = _
          simp [World.cell?, this]
        have c1 : w.drew.cell? ⟨b, 1, none⟩ = some (.slice (some ⟨g, 0, none⟩) 0 0) := by
          have : w.drew.heap[b]? = some (.cells #[p, .slice (some ⟨g, 0, none⟩) 0 0] 91 (0, 0)) := hb
          simp [World.cell?, this]
        have c0 : w.cell? ⟨b, 1, none⟩ = some (.slice (some ⟨g, 0, none⟩) 0 0) := c1
        clear hown hne hlt hb hg hnc hcm hcs ht
        go_enter Tryd.func55, Tryd.ntmps55
        go_wp2
        go_region
        all_goals (go_wp2; go_ret; exact ⟨rfl, BFr.ext ((Below.drew (Below.refl _ w)).alloc (Nat.le_refl _) _)⟩)
      · have c1 : w.drew.cell? ⟨b, 1, none⟩ = some (.slice (some ⟨g, 0, none⟩) 0 cap) := by
          have : w.drew.heap[b]? = some (.cells #[p, .slice (some ⟨g, 0, none⟩) 0 cap] 91 (0, 0)) := hb
          simp [World.cell?, this]
        have hSD : (Builtin.unsafeSliceData_ #[89] 106 #[.slice (some ⟨g, 0, none⟩) 0 cap]).run Tryd.prog w.drew = .ok (.pointer (some ⟨g, 0, none⟩)) w.drew :=
          Lib.run_unsafeSliceData_row _ _ _ _ _ _ hc0
        clear hown hne hlt hb hg hnc hcm hcs ht hc0
        go_enter Tryd.func55, Tryd.ntmps55
        go_wp2
        go_region
        all_goals (go_wp2; go_ret; exact ⟨rfl, BFr.ext (Below.drew (Below.refl _ w))⟩)
    · have hl0 : 0 < l.length := List.length_pos_iff.2 hl
      have c1 : w.drew.cell? ⟨b, 1, none⟩ = some (.slice (some ⟨g, 0, none⟩) l.length cap) := by
        have : w.drew.heap[b]? = some (.cells #[p, .slice (some ⟨g, 0, none⟩) l.length cap] 91 (0, 0)) := hb
        simp [World.cell?, this]
      have hSD : (Builtin.unsafeSliceData_ #[89] 106 #[.slice (some ⟨g, 0, none⟩) l.length cap]).run Tryd.prog w.drew = .ok (.pointer (some ⟨g, 0, none⟩)) w.drew :=
        Lib.run_unsafeSliceData_row _ _ _ _ _ _ (by omega)
      have hUS : (Builtin.unsafeString_ #[106, 3] 9 #[.pointer (some ⟨g, 0, none⟩), .int .i64 l.length]).run Tryd.prog w.drew = .ok (.string ⟨l.toArray⟩) (w.drew.freeze ⟨g, 0, none⟩ l.length) := by
        refine Lib.run_unsafeString_row w.drew 106 3 9 5 Tryd.underlying106 cellsByte g cur.size (by have hg' : w.drew.heap[g]? = some (.cells cur 5 (0, 0)) := hg; simp [World.shape?, hg']) l hl (by omega) (by unfold maxLen at hcm; omega) ?_
        intro j x hx
        have := hown.cells (g := g) rfl j (.int .u8 x.toNat) (by simp [hx])
        exact this
      have hfin : BFr base b w (w.drew.freeze ⟨g, 0, none⟩ l.length) := bfr_freeze hg hbg _
      clear hown hne hlt hb hg hnc hcm hcs ht
      go_enter Tryd.func55, Tryd.ntmps55
      go_wp2
      go_region
      all_goals (go_wp2; go_ret; exact ⟨rfl, hfin⟩)

end Go.Proofs.YtjbobblnicnhnaaDoor
