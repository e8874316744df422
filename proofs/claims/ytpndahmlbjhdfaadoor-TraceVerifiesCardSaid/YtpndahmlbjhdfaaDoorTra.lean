/-
  trace: linked, New; slices.Clone of events.
-/
import Derived.WalkSpells
import Derived.Test.YtpndahmlbjhdfaaDoorRows
import Derived.Test.YtpndahmlbjhdfaaDoorEvl
namespace Go.Proofs.YtpndahmlbjhdfaaDoor
open Go.RowKit
set_option maxRecDepth 100000
set_option linter.unusedVariables false
set_option linter.unusedSimpArgs false
def evL (e : Ev) : List Value := [.int .u64 (e.n : Int), .int .u64 (e.tk : Int), Str e.kind, .int .i64 e.conn, Str e.text]
theorem evL_len (e : Ev) : (evL e).length = 5 := rfl
theorem evL_arr (e : Ev) : (evL e).toArray = evC e := rfl
theorem evL_one (e : Ev) : ∀ c ∈ evL e, c.oneCell' = true := by
  intro c hc
  simp only [evL, List.mem_cons, List.not_mem_nil, or_false] at hc
  rcases hc with rfl | rfl | rfl | rfl | rfl <;> rfl
theorem infoEv : (Tryd.prog.info? 37).map (fun i => (i.zero, i.size, i.bytes)) = some (some (.agg #[.int .u64 0, .int .u64 0, .string ⟨#[]⟩, .int .i64 0, .string ⟨#[]⟩]), 5, 56) := by kernel_rfl
theorem own_empty_z (w : World) (b e z : Nat) (hb : b ≤ w.heap.size) : (w.alloc (.cells #[] e)).ownsRow b e z (.slice (some ⟨w.heap.size, 0, none⟩) 0 0) 0 [] :=
  ⟨by simp, .inr ⟨w.heap.size, 0, #[], rfl, hb, heap_alloc_new w _, by omega, by simp [maxLen], by simp, by simp⟩⟩
abbrev RowE (W : World) (v : Value) (es : List Ev) : Prop := RowC 5 evL W v es
def OwnE (B : Nat) (v : Value) (es : List Ev) (W : World) : Prop := W.ownsRow B 37 5 v es.length (es.flatMap evL)
theorem OwnE.row {B : Nat} {v : Value} {es : List Ev} {W : World} (h : OwnE B v es W) : RowE W v es := rowC_of_own evL_len h
theorem OwnE.ext {B : Nat} {v : Value} {es : List Ev} {W C : World} (h : OwnE B v es W) (he : Ext W C) : OwnE B v es C := ownz_ext h he
theorem OwnE.base {B B' : Nat} {v : Value} {es : List Ev} {W : World} (h : OwnE B v es W) (hb : B' ≤ B) : OwnE B' v es W := by
  refine ⟨h.1, ?_⟩
  rcases h.2 with hn | ⟨g, cap, cur, hv, hbg, r⟩
  · exact .inl hn
  · exact .inr ⟨g, cap, cur, hv, by omega, r⟩
theorem OwnE.keep {B : Nat} {v : Value} {es : List Ev} {W C : World} (h : OwnE B v es W) (hk : ∀ g, v.ownBlock = some g → C.heap[g]? = W.heap[g]?) : OwnE B v es C := by
  refine ⟨h.1, ?_⟩
  rcases h.2 with hn | ⟨g, cap, cur, hv, hbg, hg, r⟩
  · exact .inl hn
  · exact .inr ⟨g, cap, cur, hv, hbg, (hk g (by rw [hv]; rfl)).trans hg, r⟩
set_option maxHeartbeats 1000000 in
theorem cloneE_any (v : Value) (es : List Ev) (w : World) (hr : RowE w v es) (hn : es.length ≤ 1000000) :
    Calls Tryd.prog 26 #[v] w fun e w' => ∃ v', e = .returned v' ∧ OwnE w.heap.size v' es w' ∧ Ext w w' := by
  have hv1 := hr.ext ((Below.refl _ w).alloc (Nat.le_refl _) (.cells #[] 37))
  have ho := own_empty_z w w.heap.size 37 5 (Nat.le_refl _)
  have hne := fun (W : World) (ao : Option Addr) n c => Lib.run_eql_slice_nil (P := Tryd.prog) W 35 37 ao n c 0 0 Tryd.underlying35
  obtain ⟨ao, cap, hv, hcase, h1, h2, h3⟩ := hr
  have Hv := Lib.hid hv1; have Ho := Lib.hid ho; clear hv1 ho h3
  rcases hcase with ⟨rfl, rfl⟩ | ⟨ad, rfl⟩
  · have hrs : es = [] := List.eq_nil_of_length_eq_zero (by omega)
    subst hrs hv
    have Hne := Lib.hid (fun W => hne W none 0 0)
    go_enter Tryd.func26, Tryd.ntmps26
    go_wp2
    go_ret
    exact ⟨_, rfl, World.ownsRow_nil _ _ _ _, ext_refl w⟩
  · subst hv
    go_enter Tryd.func26, Tryd.ntmps26
    go_wp2_with (at_builtin; refine wpList_moreC w.heap.size rfl _ _ 35 37 rfl Tryd.underlying35 infoEv rfl (by omega) (by omega) Ho.out evL_len Hv.out evL_one (by omega) (by simp) rfl rfl ?_; rintro v' w1 hown1 hgr1)
    go_ret
    rw [Nat.zero_add, List.nil_append] at hown1
    exact ⟨_, rfl, hown1, ((Below.refl _ w).alloc (Nat.le_refl _) _).grown hgr1 (by simp) (by simp [Value.ownBlock])⟩
/-- The sums' tables lie. -/
structure Tw (W : World) : Prop where
  lb : Lt W
  first : FirstAt W
  odd : OddAt W
theorem Tw.ext {W C : World} (h : Tw W) (he : Ext W C) : Tw C := ⟨h.lb.ext he, h.first.ext he, h.odd.ext he⟩
set_option maxHeartbeats 1000000 in
theorem linked_any (v : Value) (c ln : List UInt8) (hc : c.length ≤ 1000) (hl : ln.length ≤ 1000) (w : World) (hv : SlB w v c) (hT : Tw w) :
    Calls Tryd.prog 43 #[v, Str ln] w fun e w' => ∃ v', e = .returned v' ∧ OwnB w.heap.size v' (shSum (c ++ ln)) w' ∧ Ext w w' := by
  obtain ⟨ao, capv, rfl, -⟩ := id hv
  rw [List.length_map] at hv ⊢
  obtain ⟨cap, W1, hconv, hext, hc1, hc2, hcell, hfroz⟩ := bytes_own (P := Tryd.prog) w 9 45 5 ln (by unfold maxLen; omega) Tryd.underlying9 Tryd.underlying45 Tryd.underlying5
  have hsl : SlB W1 (.slice (some ⟨w.heap.size, 0, none⟩) ln.length cap) ln := sl_cells (by simp) hc1 hc2 (fun j u hu => by
    have hj : j < ln.length := by have := (List.getElem?_eq_some_iff.1 hu).1; simpa using this
    rw [byt_map ln j hj] at hu
    cases hu
    exact hcell j hj)
  have hx1 : Ext W1 (W1.alloc (.cells #[.slice ao c.length capv, .slice (some ⟨w.heap.size, 0, none⟩) ln.length cap] 45)) := Below.alloc (Below.refl _ W1) (Nat.le_refl _) _
  have hx2 := ext_trans hext hx1
  have HS := Lib.hid (Sum_any W1.heap.size 2 (.slice ao c.length capv) (.slice (some ⟨w.heap.size, 0, none⟩) ln.length cap) c ln (W1.alloc (.cells #[.slice ao c.length capv, .slice (some ⟨w.heap.size, 0, none⟩) ln.length cap] 45)) (heap_alloc_new W1 _) (hv.ext hx2) (hsl.ext hx1) (Nat.le_refl _) (by omega) (hT.first.ext hx2) (hT.odd.ext hx2))
  have HX := Lib.hid hx2
  have hsz := hx2.size
  clear hcell hfroz hsl hx1 hx2 hext
  go_enter Tryd.func43, Tryd.ntmps43
  go_wp2_with fail
  refine HS.out.mono ?_
  rintro e W3 ⟨v3, rfl, ho3, hx3⟩
  go_wp2
  go_ret
  exact ⟨_, rfl, own_base ho3 hsz, ext_trans HX.out hx3⟩
/-- What a trace knows. -/
structure TrS where
  room : Nat
  evs : List Ev
  last : Nat
  chain : List UInt8
/-- Block p is a trace; its row and its chain lie from B on. -/
structure TrAt (B : Nat) (p : Nat) (lv cv : Value) (S : TrS) (W : World) : Prop where
  low : B ≤ p
  blk : W.heap[p]? = some (.cells #[.int .i64 (S.room : Int), lv, .int .u64 (S.last : Int), cv] 81 (0, 0))
  row : OwnE B lv S.evs W
  ch : OwnB B cv S.chain W
theorem own_lt {W : World} {B e z : Nat} {v : Value} {n : Nat} {xs : List Value} (h : W.ownsRow B e z v n xs) {k : Nat} (hk : v.ownBlock = some k) : B ≤ k ∧ k < W.heap.size ∧ kind? W k = some e := by
  rcases h.2 with ⟨hn, _⟩ | ⟨g, cap, cur, hv, hbg, hg, _⟩
  · rw [hn] at hk; simp [Value.ownBlock] at hk
  · rw [hv] at hk; simp [Value.ownBlock] at hk; subst hk; exact ⟨hbg, (Array.getElem?_eq_some_iff.1 hg).1, kind_of_cells hg⟩
theorem TrAt.ne {B p : Nat} {lv cv : Value} {S : TrS} {W : World} (h : TrAt B p lv cv S W) : lv.ownBlock ≠ some p ∧ cv.ownBlock ≠ some p := by
  have hk := kind_of_cells h.blk
  refine ⟨fun e => ?_, fun e => ?_⟩
  · have := (own_lt h.row e).2.2; rw [hk] at this; cases this
  · have := (own_lt h.ch e).2.2; rw [hk] at this; cases this
theorem TrAt.ne2 {B p : Nat} {lv cv : Value} {S : TrS} {W : World} (h : TrAt B p lv cv S W) (k : Nat) : lv.ownBlock = some k → cv.ownBlock ≠ some k := fun e e2 => by
  have h1 := (own_lt h.row e).2.2
  have h2 := (own_lt h.ch e2).2.2
  rw [h1] at h2; cases h2
theorem TrAt.keep {B p : Nat} {lv cv : Value} {S : TrS} {W C : World} (h : TrAt B p lv cv S W) (hk : ∀ k, k = p ∨ lv.ownBlock = some k ∨ cv.ownBlock = some k → C.heap[k]? = W.heap[k]?) : TrAt B p lv cv S C :=
  ⟨h.low, (hk p (.inl rfl)).trans h.blk, h.row.keep fun g hg => hk g (.inr (.inl hg)), own_keep h.ch fun g hg _ _ => hk g (.inr (.inr hg))⟩
theorem TrAt.ext {B p : Nat} {lv cv : Value} {S : TrS} {W C : World} (h : TrAt B p lv cv S W) (he : Ext W C) : TrAt B p lv cv S C :=
  h.keep fun k hk => he.block k (by
    rcases hk with rfl | hk | hk
    · exact (Array.getElem?_eq_some_iff.1 h.blk).1
    · exact (own_lt h.row hk).2.1
    · exact (own_lt h.ch hk).2.1)
def zero32 : List UInt8 := List.replicate 32 0
def newS (room : Nat) : TrS := ⟨room, [], 0, zero32⟩
def NewR (room : Int) (w : World) (e : Ending) (w' : World) : Prop :=
  (((room < 1 ∨ 256 < room) ∧ e = .returned (.tuple #[.pointer none, .int .i64 1])) ∨
      (1 ≤ room ∧ room ≤ 256 ∧ ∃ p cv, e = .returned (.tuple #[.pointer (some ⟨p, 0, none⟩), .int .i64 0]) ∧ TrAt w.heap.size p (.slice none 0 0) cv (newS room.toNat) w')) ∧ Ext w w'
theorem run_make32 : ∀ w, (Instr.makeSlice 45 (.int .i64 32) (.int .i64 32)).run Tryd.prog w = .ok (.slice (some ⟨w.heap.size, 0, none⟩) 32 32) (w.alloc (.cells #[.int .u8 0, .int .u8 0, .int .u8 0, .int .u8 0, .int .u8 0, .int .u8 0, .int .u8 0, .int .u8 0, .int .u8 0, .int .u8 0, .int .u8 0, .int .u8 0, .int .u8 0, .int .u8 0, .int .u8 0, .int .u8 0, .int .u8 0, .int .u8 0, .int .u8 0, .int .u8 0, .int .u8 0, .int .u8 0, .int .u8 0, .int .u8 0, .int .u8 0, .int .u8 0, .int .u8 0, .int .u8 0, .int .u8 0, .int .u8 0, .int .u8 0, .int .u8 0] 5)) := fun _ => by kernel_rfl
set_option maxHeartbeats 1000000 in
theorem New_any (room : Int) (h1 : -9223372036854775808 ≤ room) (h2 : room ≤ 9223372036854775807) (w : World) :
    Calls Tryd.prog 24 #[.int .i64 room] w (NewR room w) := by
  by_cases g1 : room < 1
  · go_enter Tryd.func24, Tryd.ntmps24
    go_wp2
    go_ret2
    exact ⟨.inl ⟨.inl g1, rfl⟩, ext_refl w⟩
  · by_cases g2 : 256 < room
    · go_enter Tryd.func24, Tryd.ntmps24
      go_wp2
      go_ret2
      exact ⟨.inl ⟨.inr g2, rfl⟩, ext_refl w⟩
    · obtain ⟨k, rfl⟩ : ∃ k : Nat, room = k := ⟨room.toNat, by omega⟩
      have hmk := run_make32
      go_enter Tryd.func24, Tryd.ntmps24
      go_wp2
      go_ret2
      clear hmk
      have hA : (w.alloc (.cells #[.int .u8 0, .int .u8 0, .int .u8 0, .int .u8 0, .int .u8 0, .int .u8 0, .int .u8 0, .int .u8 0, .int .u8 0, .int .u8 0, .int .u8 0, .int .u8 0, .int .u8 0, .int .u8 0, .int .u8 0, .int .u8 0, .int .u8 0, .int .u8 0, .int .u8 0, .int .u8 0, .int .u8 0, .int .u8 0, .int .u8 0, .int .u8 0, .int .u8 0, .int .u8 0, .int .u8 0, .int .u8 0, .int .u8 0, .int .u8 0, .int .u8 0, .int .u8 0] 5)).heap[w.heap.size]? = _ := heap_alloc_new w _
      have hx1 : Ext w (w.alloc (.cells #[.int .u8 0, .int .u8 0, .int .u8 0, .int .u8 0, .int .u8 0, .int .u8 0, .int .u8 0, .int .u8 0, .int .u8 0, .int .u8 0, .int .u8 0, .int .u8 0, .int .u8 0, .int .u8 0, .int .u8 0, .int .u8 0, .int .u8 0, .int .u8 0, .int .u8 0, .int .u8 0, .int .u8 0, .int .u8 0, .int .u8 0, .int .u8 0, .int .u8 0, .int .u8 0, .int .u8 0, .int .u8 0, .int .u8 0, .int .u8 0, .int .u8 0, .int .u8 0] 5)) := Below.alloc (Below.refl _ w) (Nat.le_refl _) _
      have ho : OwnB w.heap.size (.slice (some ⟨w.heap.size, 0, none⟩) 32 32) zero32 (w.alloc (.cells #[.int .u8 0, .int .u8 0, .int .u8 0, .int .u8 0, .int .u8 0, .int .u8 0, .int .u8 0, .int .u8 0, .int .u8 0, .int .u8 0, .int .u8 0, .int .u8 0, .int .u8 0, .int .u8 0, .int .u8 0, .int .u8 0, .int .u8 0, .int .u8 0, .int .u8 0, .int .u8 0, .int .u8 0, .int .u8 0, .int .u8 0, .int .u8 0, .int .u8 0, .int .u8 0, .int .u8 0, .int .u8 0, .int .u8 0, .int .u8 0, .int .u8 0, .int .u8 0] 5)) := own_built w w.heap.size 5 (zero32.map Byt) (Nat.le_refl _) (by simp [zero32])
      have hx2 : ∀ o, Ext (w.alloc (.cells #[.int .u8 0, .int .u8 0, .int .u8 0, .int .u8 0, .int .u8 0, .int .u8 0, .int .u8 0, .int .u8 0, .int .u8 0, .int .u8 0, .int .u8 0, .int .u8 0, .int .u8 0, .int .u8 0, .int .u8 0, .int .u8 0, .int .u8 0, .int .u8 0, .int .u8 0, .int .u8 0, .int .u8 0, .int .u8 0, .int .u8 0, .int .u8 0, .int .u8 0, .int .u8 0, .int .u8 0, .int .u8 0, .int .u8 0, .int .u8 0, .int .u8 0, .int .u8 0] 5)) ((w.alloc (.cells #[.int .u8 0, .int .u8 0, .int .u8 0, .int .u8 0, .int .u8 0, .int .u8 0, .int .u8 0, .int .u8 0, .int .u8 0, .int .u8 0, .int .u8 0, .int .u8 0, .int .u8 0, .int .u8 0, .int .u8 0, .int .u8 0, .int .u8 0, .int .u8 0, .int .u8 0, .int .u8 0, .int .u8 0, .int .u8 0, .int .u8 0, .int .u8 0, .int .u8 0, .int .u8 0, .int .u8 0, .int .u8 0, .int .u8 0, .int .u8 0, .int .u8 0, .int .u8 0] 5)).alloc o) := fun o => Below.alloc (Below.refl _ _) (Nat.le_refl _) _
      refine ⟨.inr ⟨by omega, by omega, w.heap.size + 1, _, rfl, by omega, ?_, World.ownsRow_nil _ _ _ _, ho.ext (hx2 _)⟩, ext_trans hx1 (hx2 _)⟩
      have := heap_alloc_new (w.alloc (.cells #[.int .u8 0, .int .u8 0, .int .u8 0, .int .u8 0, .int .u8 0, .int .u8 0, .int .u8 0, .int .u8 0, .int .u8 0, .int .u8 0, .int .u8 0, .int .u8 0, .int .u8 0, .int .u8 0, .int .u8 0, .int .u8 0, .int .u8 0, .int .u8 0, .int .u8 0, .int .u8 0, .int .u8 0, .int .u8 0, .int .u8 0, .int .u8 0, .int .u8 0, .int .u8 0, .int .u8 0, .int .u8 0, .int .u8 0, .int .u8 0, .int .u8 0, .int .u8 0] 5)) (.cells #[.int .i64 (k : Int), .slice none 0 0, .int .u64 0, .slice (some ⟨w.heap.size, 0, none⟩) 32 32] 81)
      rw [show (w.alloc (.cells #[.int .u8 0, .int .u8 0, .int .u8 0, .int .u8 0, .int .u8 0, .int .u8 0, .int .u8 0, .int .u8 0, .int .u8 0, .int .u8 0, .int .u8 0, .int .u8 0, .int .u8 0, .int .u8 0, .int .u8 0, .int .u8 0, .int .u8 0, .int .u8 0, .int .u8 0, .int .u8 0, .int .u8 0, .int .u8 0, .int .u8 0, .int .u8 0, .int .u8 0, .int .u8 0, .int .u8 0, .int .u8 0, .int .u8 0, .int .u8 0, .int .u8 0, .int .u8 0] 5)).heap.size = w.heap.size + 1 by simp] at this
      exact this
end Go.Proofs.YtpndahmlbjhdfaaDoor
