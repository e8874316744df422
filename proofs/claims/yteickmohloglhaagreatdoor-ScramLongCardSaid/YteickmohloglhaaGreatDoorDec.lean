/-
  b64.decode.
-/
import Derived.Test.YteickmohloglhaaGreatDoorRows
import Derived.Test.YteickmohloglhaaGreatDoorVal
import Derived.Test.YteickmohloglhaaGreatDoorKit
import Derived.Test.YteickmohloglhaaGreatDoorGrp
import Derived.Shelf.Abstract
namespace Go.Proofs.YteickmohloglhaaGreatDoor
open Go.RowKit Go.Shelf
set_option maxRecDepth 100000
set_option linter.unusedVariables false
set_option linter.unusedSimpArgs false
attribute [local go_sem] Oper.semAt_some

/-- The number of letters. -/
def bitsN (A : List UInt8) : List UInt8 → Nat := fun g => g.foldl (fun b c => b * 64 + (valL A c).toNat) 0
def grpOk (A g : List UInt8) : Bool := g.all fun c => valL A c != -1
/-- The letters' number, moved up to four letters' place. -/
def grpNum (A g : List UInt8) : Nat := bitsN A g * 2 ^ (6 * (4 - g.length))
def grpOut (A g : List UInt8) : List UInt8 := (List.range (g.length - 1)).map fun j => UInt8.ofNat (grpNum A g / 2 ^ (8 * (2 - j)))
def grpBad (A g : List UInt8) : Bool := decide (g.length < 4) && (grpNum A g % 2 ^ (8 * (4 - g.length)) != 0)
def piece (l : List UInt8) (i : Nat) : List UInt8 := (l.drop (4 * i)).take 4
def decN (A l : List UInt8) (i : Nat) : List UInt8 := (List.range i).flatMap fun j => grpOut A (piece l j)
def codN (A l : List UInt8) : Nat → Nat
  | 0 => 0
  | i + 1 => if grpBad A (piece l i) then 4 else codN A l i
def okN (A l : List UInt8) (i : Nat) : Bool := (List.range i).all fun j => grpOk A (piece l j)
/-- What decode answers. -/
def decR (A l : List UInt8) : List UInt8 × Nat :=
  let n := (l.length + 3) / 4
  if okN A l n then (if codN A l n = 0 then (decN A l n, 0) else ([], codN A l n)) else ([], 5)
theorem decN_succ (A l : List UInt8) (i : Nat) : decN A l (i + 1) = decN A l i ++ grpOut A (piece l i) := by simp [decN, List.range_succ]
theorem okN_succ (A l : List UInt8) (i : Nat) : okN A l (i + 1) = (okN A l i && grpOk A (piece l i)) := by simp [okN, List.range_succ]
theorem okN_false {A l : List UInt8} {i n : Nat} (hi : i < n) (h : okN A l (i + 1) = false) : okN A l n = false := by
  cases hn : okN A l n with
  | false => rfl
  | true =>
    rw [← h]
    simp only [okN, List.all_eq_true, List.mem_range] at hn
    exact (List.all_eq_true.2 fun j hj => hn j (by have := List.mem_range.1 hj; omega)).symm
theorem bitsN_snoc (A g : List UInt8) (c : UInt8) : bitsN A (g ++ [c]) = bitsN A g * 64 + (valL A c).toNat := by simp [bitsN]
theorem valL_range (A : List UInt8) (c : UInt8) : -1 ≤ valL A c ∧ valL A c ≤ 63 := by
  unfold valL valN; have := c.toNat_lt; repeat' split
  all_goals omega
theorem list_snoc_ind {α : Type} {p : List α → Prop} (h0 : p []) (h1 : ∀ l x, p l → p (l ++ [x])) : ∀ l, p l := by
  intro l
  have h : ∀ l : List α, p l.reverse := fun l => by
    induction l with
    | nil => exact h0
    | cons x l ih => rw [List.reverse_cons]; exact h1 _ _ ih
  have := h l.reverse
  rwa [List.reverse_reverse] at this
theorem bitsN_lt (A : List UInt8) : ∀ g : List UInt8, bitsN A g < 64 ^ g.length := by
  refine list_snoc_ind (by simp [bitsN]) fun g c ih => ?_
  have := valL_range A c
  rw [bitsN_snoc, List.length_append, List.length_singleton, Nat.pow_succ]
  omega
theorem decN_len (A l : List UInt8) : ∀ n, (decN A l n).length ≤ 3 * n
  | 0 => by simp [decN]
  | n + 1 => by
    have h1 := decN_len A l n
    have h2 : (grpOut A (piece l n)).length ≤ 3 := by simp [grpOut, piece]; omega
    rw [decN_succ, List.length_append]; omega

theorem grpOut_take (A g : List UInt8) (j : Nat) (hj : j + 1 < g.length) : (grpOut A g).take (j + 1) = (grpOut A g).take j ++ [UInt8.ofNat (grpNum A g / 2 ^ (8 * (2 - j)))] := by
  have h : j < (grpOut A g).length := by simp [grpOut]; omega
  rw [List.take_succ_eq_append_getElem h]
  simp [grpOut]
/-- What the round keeps: the boxes at s (alphabet), s + 1 (the bytes), s + 2 (the code). -/
structure DI (s : Nat) (A : List UInt8) (w W2 : World) (own : Nat → Prop) (out : List UInt8) (code : Int) (v : Value) (W : World) : Prop where
  h0 : W.heap[s]? = some (.cells #[Str A] 9 (0, 0))
  h1 : W.heap[s + 1]? = some (.cells #[v] 25 (0, 0))
  h2 : W.heap[s + 2]? = some (.cells #[.int .i64 code] 29 (0, 0))
  row : W.ownsRow (s + 5) 5 1 v out.length (out.map Byt)
  bel : Below s w W
  kp : Kp (s + 5) own W2 W
  size : s + 5 ≤ W.heap.size
theorem DI.code {s : Nat} {A : List UInt8} {w W2 : World} {own : Nat → Prop} {out : List UInt8} {code : Int} {v : Value} {W : World} (h : DI s A w W2 own out code v W) (hs : s = w.heap.size) (ho : ∀ k, own k → k = s + 3 ∨ k = s + 4) (c : Int) :
    DI s A w W2 own out c v (W.setCell ⟨s + 2, 0, none⟩ (.int .i64 c)) := by
  have hsz := h.size
  have hc := Chg.setCell W ⟨s + 2, 0, none⟩ (.int .i64 c)
  refine ⟨(hc.block s (by omega) (by simp)).trans h.h0, (hc.block (s + 1) (by omega) (by simp)).trans h.h1, one_setCell h.h2, own_keep h.row fun g _ hg hk => hc.block g (kind_lt hk) (by simp; omega), below_chg h.bel hc (by simp; try omega) (by omega), h.kp.trans (Kp.of_chg hc (fun k hk => ?_) (fun k hk hB => ?_)), Nat.le_trans hsz hc.size⟩
  · have := ho k hk; simp; omega
  · simp at hk; omega
theorem DI.push {s : Nat} {A : List UInt8} {w W2 : World} {own : Nat → Prop} {out : List UInt8} {code : Int} {v : Value} {W : World} (h : DI s A w W2 own out code v W) (hs : s = w.heap.size) (ho : ∀ k, own k → k = s + 3 ∨ k = s + 4) {y : UInt8} {v' : Value} {w1 : World}
    (hown : w1.ownsRow (s + 5) 5 1 v' (out.length + 1) (out.map Byt ++ [Byt y])) (hg : W.grownBy w1 v.ownBlock) :
    w1.cell? ⟨s + 1, 0, none⟩ = some v ∧ w1.frozen? ⟨s + 1, 0, none⟩ = false ∧ DI s A w W2 own (out ++ [y]) code v' (w1.setCell ⟨s + 1, 0, none⟩ v') := by
  have hsz := h.size
  have hrow : ∀ k, v.ownBlock = some k → s + 5 ≤ k := fun k hk => (h.row.lt k hk).1
  have hlow : ∀ k, k < s + 5 → w1.heap[k]? = W.heap[k]? := fun k hk => hg.block k (by omega) (fun e => by have := hrow k e.symm; omega)
  have e1 := (hlow (s + 1) (by omega)).trans h.h1
  have hc := Chg.setCell w1 ⟨s + 1, 0, none⟩ v'
  refine ⟨cell_of e1, frozen_of e1, ⟨(hc.block s (by have := hg.size; omega) (by simp)).trans ((hlow s (by omega)).trans h.h0), one_setCell e1, (hc.block (s + 2) (by have := hg.size; omega) (by simp)).trans ((hlow (s + 2) (by omega)).trans h.h2), ?_, ?_, ?_, ?_⟩⟩
  · rw [List.length_append, List.map_append]
    exact own_keep hown fun g _ hg' hk => hc.block g (kind_lt hk) (by simp; omega)
  · exact below_chg (h.bel.grown hg (by have := h.bel.size; omega) (fun k hk => by have := hrow k hk; omega)) hc (by simp; try omega) (by omega)
  · refine h.kp.trans ((Kp.of_grown hg (fun k hk => ⟨by have := ho k hk; omega, fun e => by have := hrow k e; have := ho k hk; omega⟩) (fun k hk => ?_)).trans (Kp.of_chg hc (fun k hk => ?_) (fun k hk hB => ?_)))
    · rcases h.row.2 with ⟨hn, _⟩ | ⟨g, cap, cur, hv, _, hgg, _⟩
      · rw [hn] at hk; simp [Value.ownBlock] at hk
      · rw [hv] at hk; simp [Value.ownBlock] at hk; subst hk; exact ⟨_, kind_of_cells hgg⟩
    · have := ho k hk; have := hg.size; simp; omega
    · simp at hk; omega
  · have := hg.size; have := hc.size; omega

theorem DI.drew {s : Nat} {A : List UInt8} {w W2 : World} {own : Nat → Prop} {out : List UInt8} {code : Int} {v : Value} {W : World} (h : DI s A w W2 own out code v W) : DI s A w W2 own out code v { W with drawn := W.drawn + 1 } :=
  ⟨h.h0, h.h1, h.h2, h.row, ⟨h.bel.os, h.bel.tape, h.bel.output, h.bel.size, h.bel.block⟩, ⟨h.kp.size, h.kp.own, h.kp.other⟩, h.size⟩

theorem groups_any (l : List UInt8) (z : Int) (w : World) :
    Calls Tryz.prog 70 #[Str l, .int .i64 z] w fun e w' => e = .returned (.func (.func 81) #[] #[.pointer (some ⟨w.heap.size, 0, none⟩), .pointer (some ⟨w.heap.size + 1, 0, none⟩)]) ∧
      w' = (w.alloc (.cells #[Str l] 9)).alloc (.cells #[.int .i64 z] 3) := by
  go_enter Tryz.func70, Tryz.ntmps70
  go_wp2
  go_ret
  exact ⟨rfl, rfl⟩

set_option maxHeartbeats 2000000 in
theorem decode_any (A l : List UInt8) (hA : A.length = 64) (w : World) (hl : l.length ≤ 10000) (h4 : l.length % 4 ≠ 1) :
    Calls Tryz.prog 59 #[Str A, Str l] w fun e w' => ∃ v, e = .returned (.tuple #[v, .int .i64 ((decR A l).2 : Int)]) ∧ w'.ownsRow w.heap.size 5 1 v (decR A l).1.length ((decR A l).1.map Byt) ∧ Ext w w' := by
  refine (callsIn_wide (n := 5)).1 (callsIn_of_wp_marks Tryz.func59 rfl trivial (wpIn_wide.2 ?_) rfl)
  simp only [Tryz.ntmps59, List.size_toArray, List.length_cons, List.length_nil, Nat.reduceAdd, Nat.reduceSub, Array.replicate_succ, Array.replicate_zero, List.push_toArray, List.append_toArray, List.nil_append, List.cons_append]
  go_wp2
  go_step3
  go_wp2
  go_step3
  go_wp2_with (go_at_call 70; refine (groups_any _ _ _).mono ?_; rintro e w' ⟨rfl, rfl⟩)
  obtain ⟨W0, hW0⟩ : ∃ W0, ((((w.alloc (.cells #[Str A] 9)).alloc (.cells #[.slice none 0 0] 25)).alloc (.cells #[.int .i64 0] 29)).alloc (.cells #[Str l] 9)).alloc (.cells #[.int .i64 4] 3) = W0 := ⟨_, rfl⟩
  have hW0' : W0 = allocs w [.cells #[Str A] 9, .cells #[.slice none 0 0] 25, .cells #[.int .i64 0] 29, .cells #[Str l] 9, .cells #[.int .i64 4] 3] := hW0.symm
  have b0 : W0.heap[w.heap.size]? = some (.cells #[Str A] 9 (0, 0)) := by rw [hW0']; exact allocs_at w _ 0 _ rfl
  have b1 : W0.heap[w.heap.size + 1]? = some (.cells #[.slice none 0 0] 25 (0, 0)) := by rw [hW0']; exact allocs_at w _ 1 _ rfl
  have b2 : W0.heap[w.heap.size + 2]? = some (.cells #[.int .i64 0] 29 (0, 0)) := by rw [hW0']; exact allocs_at w _ 2 _ rfl
  have b3 : W0.heap[w.heap.size + 3]? = some (.cells #[Str l] 9 (0, 0)) := by rw [hW0']; exact allocs_at w _ 3 _ rfl
  have b4 : W0.heap[w.heap.size + 4]? = some (.cells #[.int .i64 4] 3 (0, 0)) := by rw [hW0']; exact allocs_at w _ 4 _ rfl
  have hext0 : Ext w W0 := by rw [hW0']; exact allocs_ext _ _
  have hsz0 : W0.heap.size = w.heap.size + 5 := by rw [hW0']; exact allocs_size _ _
  rw [hW0]
  clear hW0 hW0'
  have hit := groups_iter l 4 (by omega) (w.heap.size + 3) (w.heap.size + 4) W0 b3 b4
  rw [show gsz 4 l.length = 4 from rfl, show gcnt 4 l.length = (l.length + 3) / 4 from rfl] at hit
  refine wpIn_wide.1 (wpIn_range (n := 5) (P := Tryz.prog) rfl (enters_of Tryz.func81 (by kernel_rfl) rfl) hit (fun k h => by omega) (fun k h => by omega) (fun _ => rfl)
    (fun i W => W.heap[w.heap.size]? = some (.cells #[Str A] 9 (0, 0)) ∧
      (∃ v, W.heap[w.heap.size + 1]? = some (.cells #[v] 25 (0, 0)) ∧ W.ownsRow (w.heap.size + 5) 5 1 v (decN A l i).length ((decN A l i).map Byt)) ∧
      W.heap[w.heap.size + 2]? = some (.cells #[.int .i64 (codN A l i : Nat)] 29 (0, 0)) ∧ okN A l i = true ∧ Below w.heap.size w W ∧ w.heap.size + 5 ≤ W.heap.size)
    (fun c i W => c = .exit 0 ∧ okN A l (i + 1) = false ∧
      W.heap[w.heap.size + 2]? = some (.cells #[.int .i64 5] 29 (0, 0)) ∧ Below w.heap.size w W ∧ w.heap.size + 5 ≤ W.heap.size) ?_ ?_
    ⟨b0, ⟨_, b1, World.ownsRow_nil _ _ _ _⟩, b2, rfl, hext0, by omega⟩ ?_ ?_ ?_)
  · rintro i A' C ⟨h0, ⟨v, h1, hown⟩, h2, hok, hbel, hsz⟩ hm
    exact ⟨hm.keeps h0 (by omega) (by omega), ⟨v, hm.keeps h1 (by omega) (by omega), own_mv hown hm (fun k hk => by omega)⟩, hm.keeps h2 (by omega) (by omega), hok, hm.below hbel (fun k hk => by omega) (by omega) (Nat.le_refl _), Nat.le_trans hsz hm.size⟩
  · rintro c i A' C ⟨h0, hok, h2, hbel, hsz⟩ hm
    exact ⟨h0, hok, hm.keeps h2 (by omega) (by omega), hm.below hbel (fun k hk => by omega) (by omega) (Nat.le_refl _), Nat.le_trans hsz hm.size⟩
  · rintro m lp i W hi ⟨h0, ⟨v, h1, hown⟩, h2, hok, hbel, hsz⟩ hlp hrec
    gi_wp2
    refine ⟨Kp.refl _ _ _, fun W2 hm2 hrec2 => ?_⟩
    replace h0 := hm2.keeps h0 (fun h => h) (by omega)
    replace h1 := hm2.keeps h1 (fun h => h) (by omega)
    replace hown := own_mv hown hm2 (fun k hk => hk.elim)
    replace h2 := hm2.keeps h2 (fun h => h) (by omega)
    replace hbel := hm2.below hbel (fun k hk => hk.elim) (by omega) (Nat.le_refl _)
    replace hsz := Nat.le_trans hsz hm2.size
    clear hm2 hrec hrec2
    have hdn := Lib.hid (decN_succ A l i); have hcn := Lib.hid (show codN A l (i + 1) = if grpBad A (piece l i) then 4 else codN A l i from rfl); have hkn := Lib.hid (okN_succ A l i)
    have hgl : (piece l i).length = min 4 (l.length - 4 * i) := by simp [piece]
    have hdl := decN_len A l i
    rw [show (l.drop (4 * i)).take 4 = piece l i from rfl]
    generalize piece l i = g at *
    have hg2 : g.length = 2 ∨ g.length = 3 ∨ g.length = 4 := by omega
    clear hgl
    obtain ⟨capb, Wb, hconv, hextb, hslb⟩ := bytes_of_str (P := Tryz.prog) W2 9 25 5 g (by unfold maxLen; omega) Tryz.underlying9 Tryz.underlying25 Tryz.underlying5
    gi_wp2
    have hck : ∀ k, k < g.length → Wb.cell? (adr (some ⟨W2.heap.size, 0, none⟩) k) = some (Byt (bt g k)) := by
      obtain ⟨ao, cap, hve, hcap, hmax, hnil, hcell⟩ := hslb
      simp only [List.length_map] at hve; cases hve
      exact fun k hk => hcell k _ (byt_map g k hk)
    have hcapb : g.length ≤ capb := by
      obtain ⟨ao, cap, hve, hcap, hmax, hnil, hcell⟩ := hslb
      simp only [List.length_map] at hve hcap; cases hve
      exact hcap
    have HC := Lib.hid hck; clear hck hslb
    have hix := run_index_adr (P := Tryz.prog) Tryz.underlying25 Tryz.sizeOf5 (ao := some ⟨W2.heap.size, 0, none⟩) (by simp) hcapb
    have hb0 := ext_cell hextb (a := ⟨w.heap.size, 0, none⟩) (v := Str A) (by simp [World.cell?, h0])
    have hkp : Kp W0.heap.size (fun k => k = w.heap.size + 3 ∨ k = w.heap.size + 4) W2 Wb := Kp.of_ext hextb (fun k hk => by omega)
    have Hk := Lib.hid hkp; clear hkp
    have hszb := hextb.size
    have e0 := (hextb.block _ (by omega)).trans h0
    have e1 := (hextb.block _ (by omega)).trans h1
    have e2 := (hextb.block _ (by omega)).trans h2
    have hbelb := hbel.trans (hextb.mono (show w.heap.size ≤ W2.heap.size by omega))
    have D0 : DI w.heap.size A w W2 (fun k => k = w.heap.size + 3 ∨ k = w.heap.size + 4) (decN A l i) (codN A l i : Nat) v Wb := ⟨e0, e1, e2, own_ext hown hextb, hbelb, by rw [← hsz0]; exact Hk.out, by omega⟩
    have hc2 := cell_of e2; have hf2 := frozen_of e2
    clear h0 h1 hown h2 hbel hbelb hextb e0 e1 e2 Hk
    have HD0 := Lib.hid D0; clear D0
    have DIcode := Lib.hid (fun c => HD0.out.code rfl (fun k h => h) c)
    gi_loop [9, 21] (fun b i => ∃ k : Nat, k ≤ g.length ∧ i = .int .i64 k ∧ b = .int .i64 (bitsN A (g.take k) : Nat) ∧ grpOk A (g.take k) = true) (fun _ i => g.length - (intOf i).toNat)
    case atStart => exact ⟨0, by omega, rfl, rfl, rfl⟩
    case round =>
      obtain ⟨k, hk, rfl, rfl, hgo⟩ := hrel
      by_cases h3 : k < g.length
      · have hlt : bitsN A (g.take k) < 262144 := Nat.lt_of_lt_of_le (bitsN_lt A _) (Nat.pow_le_pow_right (n := 64) (by omega) (show (g.take k).length ≤ 3 by simp; omega))
        have Hb := Lib.hid (bitsN_snoc A (g.take k) (bt g k)); rw [← take_snoc g k h3] at Hb
        have Hok := Lib.hid (show grpOk A (g.take k ++ [bt g k]) = (valL A (bt g k) != -1) by simp only [grpOk, List.all_append] at hgo ⊢; rw [hgo]; simp); rw [← take_snoc g k h3] at Hok
        have Hmono := Lib.hid (show grpOk A (g.take (k + 1)) = false → grpOk A g = false by
          intro h; cases hg : grpOk A g with
          | false => rfl
          | true =>
            rw [← h]; simp only [grpOk, List.all_eq_true] at hg ⊢
            exact (List.all_eq_true.2 fun x hx => hg x (List.mem_of_mem_take hx)).symm)
        have hcb := HC.out k h3
        have Hv := Lib.hid (fun W => value_any A hA (bt g k) W)
        have hv := valL_range A (bt g k)
        have hbt := (bt g k).toNat_lt
        generalize bitsN A (g.take k) = b at *
        generalize bt g k = c at *
        clear hgo
        generalize valL A c = v at *
        rcases (show v = -1 ∨ 0 ≤ v by omega) with hneg | hpos
        · subst hneg
          have hf := Hmono.out (by rw [Hok.out]; rfl)
          gi_wp2_with (refine ⟨trivial, fun h => by simp [Fence.wide] at h, ?_⟩; gi_at_call 71; refine (CallsIn.inRound lp (callsIn_wide.2 (Hv.out _))).mono ?_; rintro e W3 ⟨rfl, rfl⟩)
          have D5 := DIcode.out 5
          exact ⟨hsz0 ▸ D5.kp, rfl, by rw [hkn.out, hok, hf]; rfl, D5.h2, D5.bel, D5.size⟩
        · obtain ⟨x, rfl⟩ := Int.eq_ofNat_of_zero_le hpos
          have hor := or_num 6 64 64 b x rfl rfl (by omega) (by omega)
          gi_wp2_with (refine ⟨trivial, fun h => by simp [Fence.wide] at h, ?_⟩; gi_at_call 71; refine (CallsIn.inRound lp (callsIn_wide.2 (Hv.out _))).mono ?_; rintro e W3 ⟨rfl, rfl⟩)
          go_round
          case rel => exact ⟨k + 1, by omega, by go_num, by rw [Hb.out]; go_num, by rw [Hok.out]; simp⟩
          case measure => simp [intOf] <;> omega
      · obtain rfl : k = g.length := by omega
        rw [List.take_length] at hgo ⊢
        have hbl := bitsN_lt A g
        have hok1 : okN A l (i + 1) = true := by rw [hkn.out, hok, hgo]; rfl
        have Hout := Lib.hid (fun j (hj : j + 1 < g.length) => grpOut_take A g j hj)
        have Hall := Lib.hid (show (grpOut A g).take (g.length - 1) = grpOut A g from List.take_of_length_le (by simp [grpOut]))
        have Hbad := Lib.hid (show grpBad A g = (decide (g.length < 4) && (bitsN A g * 2 ^ (6 * (4 - g.length)) % 2 ^ (8 * (4 - g.length)) != 0)) from rfl)
        have Hnum := Lib.hid (show grpNum A g = bitsN A g * 2 ^ (6 * (4 - g.length)) from rfl)
        have HD1 : DI w.heap.size A w W2 (fun k => k = w.heap.size + 3 ∨ k = w.heap.size + 4) (decN A l i) (codN A l (i + 1) : Nat) v (if grpBad A g then Wb.setCell ⟨w.heap.size + 2, 0, none⟩ (.int .i64 4) else Wb) := by
          rw [hcn.out]
          cases grpBad A g
          · exact HD0.out
          · exact DIcode.out 4
        have HD1 := Lib.hid HD1
        clear hgo h3 hk
        generalize bitsN A g = b at *
        rcases hg2 with hl | hl | hl
        · rw [hl] at Hout Hall Hbad Hnum hbl ⊢
          simp only [Nat.reduceSub, Nat.reduceMul, Nat.reducePow, Nat.reduceLT, decide_true, Bool.true_and] at Hbad Hnum hbl
          obtain ⟨x, hx⟩ : ∃ x, x = b * 4096 % 65536 := ⟨_, rfl⟩
          rw [← hx] at Hbad
          have hand : bits BinOp.and .i64 ((b : Int) * 4096) 65535 = (x : Int) := by
            have := and_num 16 65535 65535 (b * 4096) (by omega) rfl rfl (by omega)
            rw [show (2 : Nat) ^ 16 = 65536 from rfl, ← hx] at this
            simpa using this
          clear hx
          obtain ⟨B, hB⟩ : ∃ B, B = b * 4096 := ⟨_, rfl⟩
          rw [← hB] at Hnum
          have hBl : B < 16777216 := by omega
          by_cases hxz : x = 0
          · subst hxz
            gi_wp2
            rw [show (b : Int) * 4096 = (B : Int) by omega]
            have HB := Lib.hid hB; clear hB
            gi_loopw [59] (fun p wr => ∃ (j : Nat) (v : Value), j ≤ 2 - 1 ∧ p = .int .i64 j ∧ DI w.heap.size A w W2 (fun k => k = w.heap.size + 3 ∨ k = w.heap.size + 4) (decN A l i ++ (grpOut A g).take j) (codN A l (i + 1) : Nat) v wr) (fun i _ => 2 - 1 - (intOf i).toNat)
            case atStart =>
              have hs := HD1.out
              rw [Hbad.out] at hs
              simp only [bne_self_eq_false, Bool.false_eq_true, if_true, if_false] at hs
              exact ⟨0, v, by omega, rfl, by rw [List.take_zero, List.append_nil]; exact hs⟩
            case round =>
              obtain ⟨j, v', hj, rfl, hdi⟩ := hrel
              by_cases hjn : j < 2 - 1
              · have hpj := Hout.out j (by omega)
                have c1 : wr.cell? ⟨w.heap.size + 1, 0, none⟩ = some v' := cell_of hdi.h1
                have c1a : ∀ o, (wr.alloc o).cell? ⟨w.heap.size + 1, 0, none⟩ = some v' := fun o => ext_cell ((Below.refl _ _).alloc (Nat.le_refl _) o) c1
                have hlen : (decN A l i ++ (grpOut A g).take j).length ≤ 60000 := by rw [List.length_append, List.length_take]; omega
                have HDI := Lib.hid hdi; clear hdi
                obtain rfl | rfl | rfl : j = 0 ∨ j = 1 ∨ j = 2 := by omega
                · first
                  | (exfalso; omega)
                  | (have hu : Value.int .u8 ((B : Int) / 65536) = Byt (UInt8.ofNat (grpNum A g / 2 ^ (8 * (2 - 0)))) := by
                       simp only [Byt, UInt8.toNat_ofNat']
                       try rw [Hnum.out]
                       try congr 1
                       try simp only [Nat.reduceMul, Nat.reduceSub, Nat.reducePow]
                       try omega
                     have HU := Lib.hid hu; clear hu
                     gi_wp2
                     refine wpIn_region_plain (r := some lp) (by kernel_rfl) (by kernel_rfl) ?_
                     simp only [List.size_toArray, List.length_cons, List.length_nil, Nat.reduceAdd, Array.replicate_succ, Array.replicate_zero, List.push_toArray, List.nil_append, List.cons_append]
                     refine wpAny_take (i := 1) (v := ?_) rfl (by kernel_rfl) (by kernel_rfl) (by kernel_rfl) (fun _ _ _ h => h) (Or.inl ⟨by rfl, ?_⟩) ?_
                     rotate_left 1
                     · (intro _; go_simp; (try go_bits); (try with_reducible rfl))
                     refine wpAny_take (i := 2) (v := ?_) rfl (by kernel_rfl) (by kernel_rfl) (by kernel_rfl) (fun _ _ _ h => h) (Or.inl ⟨by rfl, ?_⟩) ?_
                     rotate_left 1
                     · (intro _; go_simp; (try go_bits); (try with_reducible rfl))
                     refine wpAny_take (i := 3) (v := ?_) rfl (by kernel_rfl) (by kernel_rfl) (by kernel_rfl) (fun _ _ _ h => h) (Or.inl ⟨by rfl, ?_⟩) ?_
                     rotate_left 1
                     · (intro _; go_simp; (try go_bits); (try with_reducible rfl))
                     refine wpAny_take (i := 4) (v := ?_) rfl (by kernel_rfl) (by kernel_rfl) (by kernel_rfl) (fun _ _ _ h => h) (Or.inl ⟨by rfl, ?_⟩) ?_
                     rotate_left 1
                     · (intro _; go_simp; (try go_bits); (try with_reducible rfl))
                     refine wpAny_take (i := 5) (v := ?_) rfl (by kernel_rfl) (by kernel_rfl) (by kernel_rfl) (fun _ _ _ h => h) (Or.inl ⟨by rfl, ?_⟩) ?_
                     rotate_left 1
                     · (intro _; go_simp; (try go_bits); (try with_reducible rfl))
                     refine wpAny_take (i := 6) (v := ?_) rfl (by kernel_rfl) (by kernel_rfl) (by kernel_rfl) (fun _ _ _ h => h) (Or.inl ⟨by rfl, ?_⟩) ?_
                     rotate_left 1
                     · (intro _; go_simp; (try go_bits); (try with_reducible rfl))
                     refine wpAny_ready (rs := [0, 7]) (by kernel_rfl) (by simp) ?_
                     refine AllReady.cons rfl (fun K hK => ?_) ?_
                     · skip
                       go_simp
                       try go_bits
                       refine hK _ _ ?_; clear hK K
                       refine wpAny_ready (rs := [7]) (by kernel_rfl) (by simp) ?_
                       refine AllReady.cons rfl (fun K hK => ?_) ?_
                       · skip
                         go_simp
                         try go_bits
                         refine hK _ _ ?_; clear hK K
                         refine wpAny_ready (rs := [8]) (by kernel_rfl) (by simp) ?_
                         refine AllReady.cons rfl (fun K hK => ?_) ?_
                         · (try rw [drew_alloc]; refine step_push (w.heap.size + 5) rfl _ _ 25 5 rfl Tryz.underlying25 infoByte rfl (by omega) HDI.out.drew.row _ rfl (by omega) HDI.out.size rfl rfl ?_; rintro _ w1 ⟨g1, cap1, rfl⟩ hown1 hgr1; rw [HU.out] at hown1; obtain ⟨q1, q2, q3⟩ := HDI.out.drew.push rfl (fun k h => h) hown1 hgr1; clear hown1 hgr1; generalize (decN A l i ++ (grpOut A g).take 0).length + 1 = q at q1 q2 q3 ⊢; have Q3 := Lib.hid q3; clear q3)
                           try go_simp
                           refine hK _ _ ?_; clear hK K
                           refine wpAny_ready (rs := [9]) (by kernel_rfl) (by simp) ?_
                           refine AllReady.cons rfl (fun K hK => ?_) ?_
                           · skip
                             go_simp
                             try go_bits
                             refine hK _ _ ?_; clear hK K
                             refine wpAny_done (by kernel_rfl) ?_ _
                             simp only [onlyN]
                             gi_wp2
                             go_roundw
                             case rel => exact ⟨0 + 1, _, by omega, by go_num, by rw [hpj, ← List.append_assoc]; exact Q3.out⟩
                             case measure => simp [intOf] <;> omega
                           exact AllReady.nil
                         exact AllReady.nil
                       exact AllReady.nil
                     refine AllReady.cons rfl (fun K hK => ?_) ?_
                     · skip
                       go_simp
                       try go_bits
                       refine hK _ _ ?_; clear hK K
                       refine wpAny_ready (rs := [0]) (by kernel_rfl) (by simp) ?_
                       refine AllReady.cons rfl (fun K hK => ?_) ?_
                       · skip
                         go_simp
                         try go_bits
                         refine hK _ _ ?_; clear hK K
                         refine wpAny_ready (rs := [8]) (by kernel_rfl) (by simp) ?_
                         refine AllReady.cons rfl (fun K hK => ?_) ?_
                         · (try rw [drew_alloc]; refine step_push (w.heap.size + 5) rfl _ _ 25 5 rfl Tryz.underlying25 infoByte rfl (by omega) HDI.out.drew.row _ rfl (by omega) HDI.out.size rfl rfl ?_; rintro _ w1 ⟨g1, cap1, rfl⟩ hown1 hgr1; rw [HU.out] at hown1; obtain ⟨q1, q2, q3⟩ := HDI.out.drew.push rfl (fun k h => h) hown1 hgr1; clear hown1 hgr1; generalize (decN A l i ++ (grpOut A g).take 0).length + 1 = q at q1 q2 q3 ⊢; have Q3 := Lib.hid q3; clear q3)
                           try go_simp
                           refine hK _ _ ?_; clear hK K
                           refine wpAny_ready (rs := [9]) (by kernel_rfl) (by simp) ?_
                           refine AllReady.cons rfl (fun K hK => ?_) ?_
                           · skip
                             go_simp
                             try go_bits
                             refine hK _ _ ?_; clear hK K
                             refine wpAny_done (by kernel_rfl) ?_ _
                             simp only [onlyN]
                             gi_wp2
                             go_roundw
                             case rel => exact ⟨0 + 1, _, by omega, by go_num, by rw [hpj, ← List.append_assoc]; exact Q3.out⟩
                             case measure => simp [intOf] <;> omega
                           exact AllReady.nil
                         exact AllReady.nil
                       exact AllReady.nil
                     exact AllReady.nil
                     )
                · first
                  | (exfalso; omega)
                  | (have hu : Value.int .u8 ((B : Int) / 256 % 256) = Byt (UInt8.ofNat (grpNum A g / 2 ^ (8 * (2 - 1)))) := by
                       simp only [Byt, UInt8.toNat_ofNat']
                       try rw [Hnum.out]
                       try congr 1
                       try simp only [Nat.reduceMul, Nat.reduceSub, Nat.reducePow]
                       try omega
                     have HU := Lib.hid hu; clear hu
                     gi_wp2
                     refine wpIn_region_plain (r := some lp) (by kernel_rfl) (by kernel_rfl) ?_
                     simp only [List.size_toArray, List.length_cons, List.length_nil, Nat.reduceAdd, Array.replicate_succ, Array.replicate_zero, List.push_toArray, List.nil_append, List.cons_append]
                     refine wpAny_take (i := 1) (v := ?_) rfl (by kernel_rfl) (by kernel_rfl) (by kernel_rfl) (fun _ _ _ h => h) (Or.inl ⟨by rfl, ?_⟩) ?_
                     rotate_left 1
                     · (intro _; go_simp; (try go_bits); (try with_reducible rfl))
                     refine wpAny_take (i := 2) (v := ?_) rfl (by kernel_rfl) (by kernel_rfl) (by kernel_rfl) (fun _ _ _ h => h) (Or.inl ⟨by rfl, ?_⟩) ?_
                     rotate_left 1
                     · (intro _; go_simp; (try go_bits); (try with_reducible rfl))
                     refine wpAny_take (i := 3) (v := ?_) rfl (by kernel_rfl) (by kernel_rfl) (by kernel_rfl) (fun _ _ _ h => h) (Or.inl ⟨by rfl, ?_⟩) ?_
                     rotate_left 1
                     · (intro _; go_simp; (try go_bits); (try with_reducible rfl))
                     refine wpAny_take (i := 4) (v := ?_) rfl (by kernel_rfl) (by kernel_rfl) (by kernel_rfl) (fun _ _ _ h => h) (Or.inl ⟨by rfl, ?_⟩) ?_
                     rotate_left 1
                     · (intro _; go_simp; (try go_bits); (try with_reducible rfl))
                     refine wpAny_take (i := 5) (v := ?_) rfl (by kernel_rfl) (by kernel_rfl) (by kernel_rfl) (fun _ _ _ h => h) (Or.inl ⟨by rfl, ?_⟩) ?_
                     rotate_left 1
                     · (intro _; go_simp; (try go_bits); (try with_reducible rfl))
                     refine wpAny_take (i := 6) (v := ?_) rfl (by kernel_rfl) (by kernel_rfl) (by kernel_rfl) (fun _ _ _ h => h) (Or.inl ⟨by rfl, ?_⟩) ?_
                     rotate_left 1
                     · (intro _; go_simp; (try go_bits); (try with_reducible rfl))
                     refine wpAny_ready (rs := [0, 7]) (by kernel_rfl) (by simp) ?_
                     refine AllReady.cons rfl (fun K hK => ?_) ?_
                     · skip
                       go_simp
                       try go_bits
                       refine hK _ _ ?_; clear hK K
                       refine wpAny_ready (rs := [7]) (by kernel_rfl) (by simp) ?_
                       refine AllReady.cons rfl (fun K hK => ?_) ?_
                       · skip
                         go_simp
                         try go_bits
                         refine hK _ _ ?_; clear hK K
                         refine wpAny_ready (rs := [8]) (by kernel_rfl) (by simp) ?_
                         refine AllReady.cons rfl (fun K hK => ?_) ?_
                         · (try rw [drew_alloc]; refine step_push (w.heap.size + 5) rfl _ _ 25 5 rfl Tryz.underlying25 infoByte rfl (by omega) HDI.out.drew.row _ rfl (by omega) HDI.out.size rfl rfl ?_; rintro _ w1 ⟨g1, cap1, rfl⟩ hown1 hgr1; rw [HU.out] at hown1; obtain ⟨q1, q2, q3⟩ := HDI.out.drew.push rfl (fun k h => h) hown1 hgr1; clear hown1 hgr1; generalize (decN A l i ++ (grpOut A g).take 1).length + 1 = q at q1 q2 q3 ⊢; have Q3 := Lib.hid q3; clear q3)
                           try go_simp
                           refine hK _ _ ?_; clear hK K
                           refine wpAny_ready (rs := [9]) (by kernel_rfl) (by simp) ?_
                           refine AllReady.cons rfl (fun K hK => ?_) ?_
                           · skip
                             go_simp
                             try go_bits
                             refine hK _ _ ?_; clear hK K
                             refine wpAny_done (by kernel_rfl) ?_ _
                             simp only [onlyN]
                             gi_wp2
                             go_roundw
                             case rel => exact ⟨1 + 1, _, by omega, by go_num, by rw [hpj, ← List.append_assoc]; exact Q3.out⟩
                             case measure => simp [intOf] <;> omega
                           exact AllReady.nil
                         exact AllReady.nil
                       exact AllReady.nil
                     refine AllReady.cons rfl (fun K hK => ?_) ?_
                     · skip
                       go_simp
                       try go_bits
                       refine hK _ _ ?_; clear hK K
                       refine wpAny_ready (rs := [0]) (by kernel_rfl) (by simp) ?_
                       refine AllReady.cons rfl (fun K hK => ?_) ?_
                       · skip
                         go_simp
                         try go_bits
                         refine hK _ _ ?_; clear hK K
                         refine wpAny_ready (rs := [8]) (by kernel_rfl) (by simp) ?_
                         refine AllReady.cons rfl (fun K hK => ?_) ?_
                         · (try rw [drew_alloc]; refine step_push (w.heap.size + 5) rfl _ _ 25 5 rfl Tryz.underlying25 infoByte rfl (by omega) HDI.out.drew.row _ rfl (by omega) HDI.out.size rfl rfl ?_; rintro _ w1 ⟨g1, cap1, rfl⟩ hown1 hgr1; rw [HU.out] at hown1; obtain ⟨q1, q2, q3⟩ := HDI.out.drew.push rfl (fun k h => h) hown1 hgr1; clear hown1 hgr1; generalize (decN A l i ++ (grpOut A g).take 1).length + 1 = q at q1 q2 q3 ⊢; have Q3 := Lib.hid q3; clear q3)
                           try go_simp
                           refine hK _ _ ?_; clear hK K
                           refine wpAny_ready (rs := [9]) (by kernel_rfl) (by simp) ?_
                           refine AllReady.cons rfl (fun K hK => ?_) ?_
                           · skip
                             go_simp
                             try go_bits
                             refine hK _ _ ?_; clear hK K
                             refine wpAny_done (by kernel_rfl) ?_ _
                             simp only [onlyN]
                             gi_wp2
                             go_roundw
                             case rel => exact ⟨1 + 1, _, by omega, by go_num, by rw [hpj, ← List.append_assoc]; exact Q3.out⟩
                             case measure => simp [intOf] <;> omega
                           exact AllReady.nil
                         exact AllReady.nil
                       exact AllReady.nil
                     exact AllReady.nil
                     )
                · first
                  | (exfalso; omega)
                  | (have hu : Value.int .u8 ((B : Int) % 256) = Byt (UInt8.ofNat (grpNum A g / 2 ^ (8 * (2 - 2)))) := by
                       simp only [Byt, UInt8.toNat_ofNat']
                       try rw [Hnum.out]
                       try congr 1
                       try simp only [Nat.reduceMul, Nat.reduceSub, Nat.reducePow]
                       try omega
                     have HU := Lib.hid hu; clear hu
                     gi_wp2
                     refine wpIn_region_plain (r := some lp) (by kernel_rfl) (by kernel_rfl) ?_
                     simp only [List.size_toArray, List.length_cons, List.length_nil, Nat.reduceAdd, Array.replicate_succ, Array.replicate_zero, List.push_toArray, List.nil_append, List.cons_append]
                     refine wpAny_take (i := 1) (v := ?_) rfl (by kernel_rfl) (by kernel_rfl) (by kernel_rfl) (fun _ _ _ h => h) (Or.inl ⟨by rfl, ?_⟩) ?_
                     rotate_left 1
                     · (intro _; go_simp; (try go_bits); (try with_reducible rfl))
                     refine wpAny_take (i := 2) (v := ?_) rfl (by kernel_rfl) (by kernel_rfl) (by kernel_rfl) (fun _ _ _ h => h) (Or.inl ⟨by rfl, ?_⟩) ?_
                     rotate_left 1
                     · (intro _; go_simp; (try go_bits); (try with_reducible rfl))
                     refine wpAny_take (i := 3) (v := ?_) rfl (by kernel_rfl) (by kernel_rfl) (by kernel_rfl) (fun _ _ _ h => h) (Or.inl ⟨by rfl, ?_⟩) ?_
                     rotate_left 1
                     · (intro _; go_simp; (try go_bits); (try with_reducible rfl))
                     refine wpAny_take (i := 4) (v := ?_) rfl (by kernel_rfl) (by kernel_rfl) (by kernel_rfl) (fun _ _ _ h => h) (Or.inl ⟨by rfl, ?_⟩) ?_
                     rotate_left 1
                     · (intro _; go_simp; (try go_bits); (try with_reducible rfl))
                     refine wpAny_take (i := 5) (v := ?_) rfl (by kernel_rfl) (by kernel_rfl) (by kernel_rfl) (fun _ _ _ h => h) (Or.inl ⟨by rfl, ?_⟩) ?_
                     rotate_left 1
                     · (intro _; go_simp; (try go_bits); (try with_reducible rfl))
                     refine wpAny_take (i := 6) (v := ?_) rfl (by kernel_rfl) (by kernel_rfl) (by kernel_rfl) (fun _ _ _ h => h) (Or.inl ⟨by rfl, ?_⟩) ?_
                     rotate_left 1
                     · (intro _; go_simp; (try go_bits); (try with_reducible rfl))
                     refine wpAny_ready (rs := [0, 7]) (by kernel_rfl) (by simp) ?_
                     refine AllReady.cons rfl (fun K hK => ?_) ?_
                     · skip
                       go_simp
                       try go_bits
                       refine hK _ _ ?_; clear hK K
                       refine wpAny_ready (rs := [7]) (by kernel_rfl) (by simp) ?_
                       refine AllReady.cons rfl (fun K hK => ?_) ?_
                       · skip
                         go_simp
                         try go_bits
                         refine hK _ _ ?_; clear hK K
                         refine wpAny_ready (rs := [8]) (by kernel_rfl) (by simp) ?_
                         refine AllReady.cons rfl (fun K hK => ?_) ?_
                         · (try rw [drew_alloc]; refine step_push (w.heap.size + 5) rfl _ _ 25 5 rfl Tryz.underlying25 infoByte rfl (by omega) HDI.out.drew.row _ rfl (by omega) HDI.out.size rfl rfl ?_; rintro _ w1 ⟨g1, cap1, rfl⟩ hown1 hgr1; rw [HU.out] at hown1; obtain ⟨q1, q2, q3⟩ := HDI.out.drew.push rfl (fun k h => h) hown1 hgr1; clear hown1 hgr1; generalize (decN A l i ++ (grpOut A g).take 2).length + 1 = q at q1 q2 q3 ⊢; have Q3 := Lib.hid q3; clear q3)
                           try go_simp
                           refine hK _ _ ?_; clear hK K
                           refine wpAny_ready (rs := [9]) (by kernel_rfl) (by simp) ?_
                           refine AllReady.cons rfl (fun K hK => ?_) ?_
                           · skip
                             go_simp
                             try go_bits
                             refine hK _ _ ?_; clear hK K
                             refine wpAny_done (by kernel_rfl) ?_ _
                             simp only [onlyN]
                             gi_wp2
                             go_roundw
                             case rel => exact ⟨2 + 1, _, by omega, by go_num, by rw [hpj, ← List.append_assoc]; exact Q3.out⟩
                             case measure => simp [intOf] <;> omega
                           exact AllReady.nil
                         exact AllReady.nil
                       exact AllReady.nil
                     refine AllReady.cons rfl (fun K hK => ?_) ?_
                     · skip
                       go_simp
                       try go_bits
                       refine hK _ _ ?_; clear hK K
                       refine wpAny_ready (rs := [0]) (by kernel_rfl) (by simp) ?_
                       refine AllReady.cons rfl (fun K hK => ?_) ?_
                       · skip
                         go_simp
                         try go_bits
                         refine hK _ _ ?_; clear hK K
                         refine wpAny_ready (rs := [8]) (by kernel_rfl) (by simp) ?_
                         refine AllReady.cons rfl (fun K hK => ?_) ?_
                         · (try rw [drew_alloc]; refine step_push (w.heap.size + 5) rfl _ _ 25 5 rfl Tryz.underlying25 infoByte rfl (by omega) HDI.out.drew.row _ rfl (by omega) HDI.out.size rfl rfl ?_; rintro _ w1 ⟨g1, cap1, rfl⟩ hown1 hgr1; rw [HU.out] at hown1; obtain ⟨q1, q2, q3⟩ := HDI.out.drew.push rfl (fun k h => h) hown1 hgr1; clear hown1 hgr1; generalize (decN A l i ++ (grpOut A g).take 2).length + 1 = q at q1 q2 q3 ⊢; have Q3 := Lib.hid q3; clear q3)
                           try go_simp
                           refine hK _ _ ?_; clear hK K
                           refine wpAny_ready (rs := [9]) (by kernel_rfl) (by simp) ?_
                           refine AllReady.cons rfl (fun K hK => ?_) ?_
                           · skip
                             go_simp
                             try go_bits
                             refine hK _ _ ?_; clear hK K
                             refine wpAny_done (by kernel_rfl) ?_ _
                             simp only [onlyN]
                             gi_wp2
                             go_roundw
                             case rel => exact ⟨2 + 1, _, by omega, by go_num, by rw [hpj, ← List.append_assoc]; exact Q3.out⟩
                             case measure => simp [intOf] <;> omega
                           exact AllReady.nil
                         exact AllReady.nil
                       exact AllReady.nil
                     exact AllReady.nil
                     )
              · obtain rfl : j = 2 - 1 := by omega
                rw [Hall.out, ← hdn.out] at hdi
                have HDI := Lib.hid hdi; clear hdi
                gi_wp2
                exact ⟨hsz0 ▸ HDI.out.kp, HDI.out.h0, ⟨_, HDI.out.h1, HDI.out.row⟩, HDI.out.h2, hok1, HDI.out.bel, HDI.out.size⟩
          · have hxb : ((x : Int) != 0) = true := by simp; omega
            gi_wp2
            rw [show (b : Int) * 4096 = (B : Int) by omega]
            have HB := Lib.hid hB; clear hB
            gi_loopw [59] (fun p wr => ∃ (j : Nat) (v : Value), j ≤ 2 - 1 ∧ p = .int .i64 j ∧ DI w.heap.size A w W2 (fun k => k = w.heap.size + 3 ∨ k = w.heap.size + 4) (decN A l i ++ (grpOut A g).take j) (codN A l (i + 1) : Nat) v wr) (fun i _ => 2 - 1 - (intOf i).toNat)
            case atStart =>
              have hs := HD1.out
              rw [Hbad.out] at hs
              simp only [show ((x != 0) = true) by simpa using hxz, if_true, if_false] at hs
              exact ⟨0, v, by omega, rfl, by rw [List.take_zero, List.append_nil]; exact hs⟩
            case round =>
              obtain ⟨j, v', hj, rfl, hdi⟩ := hrel
              by_cases hjn : j < 2 - 1
              · have hpj := Hout.out j (by omega)
                have c1 : wr.cell? ⟨w.heap.size + 1, 0, none⟩ = some v' := cell_of hdi.h1
                have c1a : ∀ o, (wr.alloc o).cell? ⟨w.heap.size + 1, 0, none⟩ = some v' := fun o => ext_cell ((Below.refl _ _).alloc (Nat.le_refl _) o) c1
                have hlen : (decN A l i ++ (grpOut A g).take j).length ≤ 60000 := by rw [List.length_append, List.length_take]; omega
                have HDI := Lib.hid hdi; clear hdi
                obtain rfl | rfl | rfl : j = 0 ∨ j = 1 ∨ j = 2 := by omega
                · first
                  | (exfalso; omega)
                  | (have hu : Value.int .u8 ((B : Int) / 65536) = Byt (UInt8.ofNat (grpNum A g / 2 ^ (8 * (2 - 0)))) := by
                       simp only [Byt, UInt8.toNat_ofNat']
                       try rw [Hnum.out]
                       try congr 1
                       try simp only [Nat.reduceMul, Nat.reduceSub, Nat.reducePow]
                       try omega
                     have HU := Lib.hid hu; clear hu
                     gi_wp2
                     refine wpIn_region_plain (r := some lp) (by kernel_rfl) (by kernel_rfl) ?_
                     simp only [List.size_toArray, List.length_cons, List.length_nil, Nat.reduceAdd, Array.replicate_succ, Array.replicate_zero, List.push_toArray, List.nil_append, List.cons_append]
                     refine wpAny_take (i := 1) (v := ?_) rfl (by kernel_rfl) (by kernel_rfl) (by kernel_rfl) (fun _ _ _ h => h) (Or.inl ⟨by rfl, ?_⟩) ?_
                     rotate_left 1
                     · (intro _; go_simp; (try go_bits); (try with_reducible rfl))
                     refine wpAny_take (i := 2) (v := ?_) rfl (by kernel_rfl) (by kernel_rfl) (by kernel_rfl) (fun _ _ _ h => h) (Or.inl ⟨by rfl, ?_⟩) ?_
                     rotate_left 1
                     · (intro _; go_simp; (try go_bits); (try with_reducible rfl))
                     refine wpAny_take (i := 3) (v := ?_) rfl (by kernel_rfl) (by kernel_rfl) (by kernel_rfl) (fun _ _ _ h => h) (Or.inl ⟨by rfl, ?_⟩) ?_
                     rotate_left 1
                     · (intro _; go_simp; (try go_bits); (try with_reducible rfl))
                     refine wpAny_take (i := 4) (v := ?_) rfl (by kernel_rfl) (by kernel_rfl) (by kernel_rfl) (fun _ _ _ h => h) (Or.inl ⟨by rfl, ?_⟩) ?_
                     rotate_left 1
                     · (intro _; go_simp; (try go_bits); (try with_reducible rfl))
                     refine wpAny_take (i := 5) (v := ?_) rfl (by kernel_rfl) (by kernel_rfl) (by kernel_rfl) (fun _ _ _ h => h) (Or.inl ⟨by rfl, ?_⟩) ?_
                     rotate_left 1
                     · (intro _; go_simp; (try go_bits); (try with_reducible rfl))
                     refine wpAny_take (i := 6) (v := ?_) rfl (by kernel_rfl) (by kernel_rfl) (by kernel_rfl) (fun _ _ _ h => h) (Or.inl ⟨by rfl, ?_⟩) ?_
                     rotate_left 1
                     · (intro _; go_simp; (try go_bits); (try with_reducible rfl))
                     refine wpAny_ready (rs := [0, 7]) (by kernel_rfl) (by simp) ?_
                     refine AllReady.cons rfl (fun K hK => ?_) ?_
                     · skip
                       go_simp
                       try go_bits
                       refine hK _ _ ?_; clear hK K
                       refine wpAny_ready (rs := [7]) (by kernel_rfl) (by simp) ?_
                       refine AllReady.cons rfl (fun K hK => ?_) ?_
                       · skip
                         go_simp
                         try go_bits
                         refine hK _ _ ?_; clear hK K
                         refine wpAny_ready (rs := [8]) (by kernel_rfl) (by simp) ?_
                         refine AllReady.cons rfl (fun K hK => ?_) ?_
                         · (try rw [drew_alloc]; refine step_push (w.heap.size + 5) rfl _ _ 25 5 rfl Tryz.underlying25 infoByte rfl (by omega) HDI.out.drew.row _ rfl (by omega) HDI.out.size rfl rfl ?_; rintro _ w1 ⟨g1, cap1, rfl⟩ hown1 hgr1; rw [HU.out] at hown1; obtain ⟨q1, q2, q3⟩ := HDI.out.drew.push rfl (fun k h => h) hown1 hgr1; clear hown1 hgr1; generalize (decN A l i ++ (grpOut A g).take 0).length + 1 = q at q1 q2 q3 ⊢; have Q3 := Lib.hid q3; clear q3)
                           try go_simp
                           refine hK _ _ ?_; clear hK K
                           refine wpAny_ready (rs := [9]) (by kernel_rfl) (by simp) ?_
                           refine AllReady.cons rfl (fun K hK => ?_) ?_
                           · skip
                             go_simp
                             try go_bits
                             refine hK _ _ ?_; clear hK K
                             refine wpAny_done (by kernel_rfl) ?_ _
                             simp only [onlyN]
                             gi_wp2
                             go_roundw
                             case rel => exact ⟨0 + 1, _, by omega, by go_num, by rw [hpj, ← List.append_assoc]; exact Q3.out⟩
                             case measure => simp [intOf] <;> omega
                           exact AllReady.nil
                         exact AllReady.nil
                       exact AllReady.nil
                     refine AllReady.cons rfl (fun K hK => ?_) ?_
                     · skip
                       go_simp
                       try go_bits
                       refine hK _ _ ?_; clear hK K
                       refine wpAny_ready (rs := [0]) (by kernel_rfl) (by simp) ?_
                       refine AllReady.cons rfl (fun K hK => ?_) ?_
                       · skip
                         go_simp
                         try go_bits
                         refine hK _ _ ?_; clear hK K
                         refine wpAny_ready (rs := [8]) (by kernel_rfl) (by simp) ?_
                         refine AllReady.cons rfl (fun K hK => ?_) ?_
                         · (try rw [drew_alloc]; refine step_push (w.heap.size + 5) rfl _ _ 25 5 rfl Tryz.underlying25 infoByte rfl (by omega) HDI.out.drew.row _ rfl (by omega) HDI.out.size rfl rfl ?_; rintro _ w1 ⟨g1, cap1, rfl⟩ hown1 hgr1; rw [HU.out] at hown1; obtain ⟨q1, q2, q3⟩ := HDI.out.drew.push rfl (fun k h => h) hown1 hgr1; clear hown1 hgr1; generalize (decN A l i ++ (grpOut A g).take 0).length + 1 = q at q1 q2 q3 ⊢; have Q3 := Lib.hid q3; clear q3)
                           try go_simp
                           refine hK _ _ ?_; clear hK K
                           refine wpAny_ready (rs := [9]) (by kernel_rfl) (by simp) ?_
                           refine AllReady.cons rfl (fun K hK => ?_) ?_
                           · skip
                             go_simp
                             try go_bits
                             refine hK _ _ ?_; clear hK K
                             refine wpAny_done (by kernel_rfl) ?_ _
                             simp only [onlyN]
                             gi_wp2
                             go_roundw
                             case rel => exact ⟨0 + 1, _, by omega, by go_num, by rw [hpj, ← List.append_assoc]; exact Q3.out⟩
                             case measure => simp [intOf] <;> omega
                           exact AllReady.nil
                         exact AllReady.nil
                       exact AllReady.nil
                     exact AllReady.nil
                     )
                · first
                  | (exfalso; omega)
                  | (have hu : Value.int .u8 ((B : Int) / 256 % 256) = Byt (UInt8.ofNat (grpNum A g / 2 ^ (8 * (2 - 1)))) := by
                       simp only [Byt, UInt8.toNat_ofNat']
                       try rw [Hnum.out]
                       try congr 1
                       try simp only [Nat.reduceMul, Nat.reduceSub, Nat.reducePow]
                       try omega
                     have HU := Lib.hid hu; clear hu
                     gi_wp2
                     refine wpIn_region_plain (r := some lp) (by kernel_rfl) (by kernel_rfl) ?_
                     simp only [List.size_toArray, List.length_cons, List.length_nil, Nat.reduceAdd, Array.replicate_succ, Array.replicate_zero, List.push_toArray, List.nil_append, List.cons_append]
                     refine wpAny_take (i := 1) (v := ?_) rfl (by kernel_rfl) (by kernel_rfl) (by kernel_rfl) (fun _ _ _ h => h) (Or.inl ⟨by rfl, ?_⟩) ?_
                     rotate_left 1
                     · (intro _; go_simp; (try go_bits); (try with_reducible rfl))
                     refine wpAny_take (i := 2) (v := ?_) rfl (by kernel_rfl) (by kernel_rfl) (by kernel_rfl) (fun _ _ _ h => h) (Or.inl ⟨by rfl, ?_⟩) ?_
                     rotate_left 1
                     · (intro _; go_simp; (try go_bits); (try with_reducible rfl))
                     refine wpAny_take (i := 3) (v := ?_) rfl (by kernel_rfl) (by kernel_rfl) (by kernel_rfl) (fun _ _ _ h => h) (Or.inl ⟨by rfl, ?_⟩) ?_
                     rotate_left 1
                     · (intro _; go_simp; (try go_bits); (try with_reducible rfl))
                     refine wpAny_take (i := 4) (v := ?_) rfl (by kernel_rfl) (by kernel_rfl) (by kernel_rfl) (fun _ _ _ h => h) (Or.inl ⟨by rfl, ?_⟩) ?_
                     rotate_left 1
                     · (intro _; go_simp; (try go_bits); (try with_reducible rfl))
                     refine wpAny_take (i := 5) (v := ?_) rfl (by kernel_rfl) (by kernel_rfl) (by kernel_rfl) (fun _ _ _ h => h) (Or.inl ⟨by rfl, ?_⟩) ?_
                     rotate_left 1
                     · (intro _; go_simp; (try go_bits); (try with_reducible rfl))
                     refine wpAny_take (i := 6) (v := ?_) rfl (by kernel_rfl) (by kernel_rfl) (by kernel_rfl) (fun _ _ _ h => h) (Or.inl ⟨by rfl, ?_⟩) ?_
                     rotate_left 1
                     · (intro _; go_simp; (try go_bits); (try with_reducible rfl))
                     refine wpAny_ready (rs := [0, 7]) (by kernel_rfl) (by simp) ?_
                     refine AllReady.cons rfl (fun K hK => ?_) ?_
                     · skip
                       go_simp
                       try go_bits
                       refine hK _ _ ?_; clear hK K
                       refine wpAny_ready (rs := [7]) (by kernel_rfl) (by simp) ?_
                       refine AllReady.cons rfl (fun K hK => ?_) ?_
                       · skip
                         go_simp
                         try go_bits
                         refine hK _ _ ?_; clear hK K
                         refine wpAny_ready (rs := [8]) (by kernel_rfl) (by simp) ?_
                         refine AllReady.cons rfl (fun K hK => ?_) ?_
                         · (try rw [drew_alloc]; refine step_push (w.heap.size + 5) rfl _ _ 25 5 rfl Tryz.underlying25 infoByte rfl (by omega) HDI.out.drew.row _ rfl (by omega) HDI.out.size rfl rfl ?_; rintro _ w1 ⟨g1, cap1, rfl⟩ hown1 hgr1; rw [HU.out] at hown1; obtain ⟨q1, q2, q3⟩ := HDI.out.drew.push rfl (fun k h => h) hown1 hgr1; clear hown1 hgr1; generalize (decN A l i ++ (grpOut A g).take 1).length + 1 = q at q1 q2 q3 ⊢; have Q3 := Lib.hid q3; clear q3)
                           try go_simp
                           refine hK _ _ ?_; clear hK K
                           refine wpAny_ready (rs := [9]) (by kernel_rfl) (by simp) ?_
                           refine AllReady.cons rfl (fun K hK => ?_) ?_
                           · skip
                             go_simp
                             try go_bits
                             refine hK _ _ ?_; clear hK K
                             refine wpAny_done (by kernel_rfl) ?_ _
                             simp only [onlyN]
                             gi_wp2
                             go_roundw
                             case rel => exact ⟨1 + 1, _, by omega, by go_num, by rw [hpj, ← List.append_assoc]; exact Q3.out⟩
                             case measure => simp [intOf] <;> omega
                           exact AllReady.nil
                         exact AllReady.nil
                       exact AllReady.nil
                     refine AllReady.cons rfl (fun K hK => ?_) ?_
                     · skip
                       go_simp
                       try go_bits
                       refine hK _ _ ?_; clear hK K
                       refine wpAny_ready (rs := [0]) (by kernel_rfl) (by simp) ?_
                       refine AllReady.cons rfl (fun K hK => ?_) ?_
                       · skip
                         go_simp
                         try go_bits
                         refine hK _ _ ?_; clear hK K
                         refine wpAny_ready (rs := [8]) (by kernel_rfl) (by simp) ?_
                         refine AllReady.cons rfl (fun K hK => ?_) ?_
                         · (try rw [drew_alloc]; refine step_push (w.heap.size + 5) rfl _ _ 25 5 rfl Tryz.underlying25 infoByte rfl (by omega) HDI.out.drew.row _ rfl (by omega) HDI.out.size rfl rfl ?_; rintro _ w1 ⟨g1, cap1, rfl⟩ hown1 hgr1; rw [HU.out] at hown1; obtain ⟨q1, q2, q3⟩ := HDI.out.drew.push rfl (fun k h => h) hown1 hgr1; clear hown1 hgr1; generalize (decN A l i ++ (grpOut A g).take 1).length + 1 = q at q1 q2 q3 ⊢; have Q3 := Lib.hid q3; clear q3)
                           try go_simp
                           refine hK _ _ ?_; clear hK K
                           refine wpAny_ready (rs := [9]) (by kernel_rfl) (by simp) ?_
                           refine AllReady.cons rfl (fun K hK => ?_) ?_
                           · skip
                             go_simp
                             try go_bits
                             refine hK _ _ ?_; clear hK K
                             refine wpAny_done (by kernel_rfl) ?_ _
                             simp only [onlyN]
                             gi_wp2
                             go_roundw
                             case rel => exact ⟨1 + 1, _, by omega, by go_num, by rw [hpj, ← List.append_assoc]; exact Q3.out⟩
                             case measure => simp [intOf] <;> omega
                           exact AllReady.nil
                         exact AllReady.nil
                       exact AllReady.nil
                     exact AllReady.nil
                     )
                · first
                  | (exfalso; omega)
                  | (have hu : Value.int .u8 ((B : Int) % 256) = Byt (UInt8.ofNat (grpNum A g / 2 ^ (8 * (2 - 2)))) := by
                       simp only [Byt, UInt8.toNat_ofNat']
                       try rw [Hnum.out]
                       try congr 1
                       try simp only [Nat.reduceMul, Nat.reduceSub, Nat.reducePow]
                       try omega
                     have HU := Lib.hid hu; clear hu
                     gi_wp2
                     refine wpIn_region_plain (r := some lp) (by kernel_rfl) (by kernel_rfl) ?_
                     simp only [List.size_toArray, List.length_cons, List.length_nil, Nat.reduceAdd, Array.replicate_succ, Array.replicate_zero, List.push_toArray, List.nil_append, List.cons_append]
                     refine wpAny_take (i := 1) (v := ?_) rfl (by kernel_rfl) (by kernel_rfl) (by kernel_rfl) (fun _ _ _ h => h) (Or.inl ⟨by rfl, ?_⟩) ?_
                     rotate_left 1
                     · (intro _; go_simp; (try go_bits); (try with_reducible rfl))
                     refine wpAny_take (i := 2) (v := ?_) rfl (by kernel_rfl) (by kernel_rfl) (by kernel_rfl) (fun _ _ _ h => h) (Or.inl ⟨by rfl, ?_⟩) ?_
                     rotate_left 1
                     · (intro _; go_simp; (try go_bits); (try with_reducible rfl))
                     refine wpAny_take (i := 3) (v := ?_) rfl (by kernel_rfl) (by kernel_rfl) (by kernel_rfl) (fun _ _ _ h => h) (Or.inl ⟨by rfl, ?_⟩) ?_
                     rotate_left 1
                     · (intro _; go_simp; (try go_bits); (try with_reducible rfl))
                     refine wpAny_take (i := 4) (v := ?_) rfl (by kernel_rfl) (by kernel_rfl) (by kernel_rfl) (fun _ _ _ h => h) (Or.inl ⟨by rfl, ?_⟩) ?_
                     rotate_left 1
                     · (intro _; go_simp; (try go_bits); (try with_reducible rfl))
                     refine wpAny_take (i := 5) (v := ?_) rfl (by kernel_rfl) (by kernel_rfl) (by kernel_rfl) (fun _ _ _ h => h) (Or.inl ⟨by rfl, ?_⟩) ?_
                     rotate_left 1
                     · (intro _; go_simp; (try go_bits); (try with_reducible rfl))
                     refine wpAny_take (i := 6) (v := ?_) rfl (by kernel_rfl) (by kernel_rfl) (by kernel_rfl) (fun _ _ _ h => h) (Or.inl ⟨by rfl, ?_⟩) ?_
                     rotate_left 1
                     · (intro _; go_simp; (try go_bits); (try with_reducible rfl))
                     refine wpAny_ready (rs := [0, 7]) (by kernel_rfl) (by simp) ?_
                     refine AllReady.cons rfl (fun K hK => ?_) ?_
                     · skip
                       go_simp
                       try go_bits
                       refine hK _ _ ?_; clear hK K
                       refine wpAny_ready (rs := [7]) (by kernel_rfl) (by simp) ?_
                       refine AllReady.cons rfl (fun K hK => ?_) ?_
                       · skip
                         go_simp
                         try go_bits
                         refine hK _ _ ?_; clear hK K
                         refine wpAny_ready (rs := [8]) (by kernel_rfl) (by simp) ?_
                         refine AllReady.cons rfl (fun K hK => ?_) ?_
                         · (try rw [drew_alloc]; refine step_push (w.heap.size + 5) rfl _ _ 25 5 rfl Tryz.underlying25 infoByte rfl (by omega) HDI.out.drew.row _ rfl (by omega) HDI.out.size rfl rfl ?_; rintro _ w1 ⟨g1, cap1, rfl⟩ hown1 hgr1; rw [HU.out] at hown1; obtain ⟨q1, q2, q3⟩ := HDI.out.drew.push rfl (fun k h => h) hown1 hgr1; clear hown1 hgr1; generalize (decN A l i ++ (grpOut A g).take 2).length + 1 = q at q1 q2 q3 ⊢; have Q3 := Lib.hid q3; clear q3)
                           try go_simp
                           refine hK _ _ ?_; clear hK K
                           refine wpAny_ready (rs := [9]) (by kernel_rfl) (by simp) ?_
                           refine AllReady.cons rfl (fun K hK => ?_) ?_
                           · skip
                             go_simp
                             try go_bits
                             refine hK _ _ ?_; clear hK K
                             refine wpAny_done (by kernel_rfl) ?_ _
                             simp only [onlyN]
                             gi_wp2
                             go_roundw
                             case rel => exact ⟨2 + 1, _, by omega, by go_num, by rw [hpj, ← List.append_assoc]; exact Q3.out⟩
                             case measure => simp [intOf] <;> omega
                           exact AllReady.nil
                         exact AllReady.nil
                       exact AllReady.nil
                     refine AllReady.cons rfl (fun K hK => ?_) ?_
                     · skip
                       go_simp
                       try go_bits
                       refine hK _ _ ?_; clear hK K
                       refine wpAny_ready (rs := [0]) (by kernel_rfl) (by simp) ?_
                       refine AllReady.cons rfl (fun K hK => ?_) ?_
                       · skip
                         go_simp
                         try go_bits
                         refine hK _ _ ?_; clear hK K
                         refine wpAny_ready (rs := [8]) (by kernel_rfl) (by simp) ?_
                         refine AllReady.cons rfl (fun K hK => ?_) ?_
                         · (try rw [drew_alloc]; refine step_push (w.heap.size + 5) rfl _ _ 25 5 rfl Tryz.underlying25 infoByte rfl (by omega) HDI.out.drew.row _ rfl (by omega) HDI.out.size rfl rfl ?_; rintro _ w1 ⟨g1, cap1, rfl⟩ hown1 hgr1; rw [HU.out] at hown1; obtain ⟨q1, q2, q3⟩ := HDI.out.drew.push rfl (fun k h => h) hown1 hgr1; clear hown1 hgr1; generalize (decN A l i ++ (grpOut A g).take 2).length + 1 = q at q1 q2 q3 ⊢; have Q3 := Lib.hid q3; clear q3)
                           try go_simp
                           refine hK _ _ ?_; clear hK K
                           refine wpAny_ready (rs := [9]) (by kernel_rfl) (by simp) ?_
                           refine AllReady.cons rfl (fun K hK => ?_) ?_
                           · skip
                             go_simp
                             try go_bits
                             refine hK _ _ ?_; clear hK K
                             refine wpAny_done (by kernel_rfl) ?_ _
                             simp only [onlyN]
                             gi_wp2
                             go_roundw
                             case rel => exact ⟨2 + 1, _, by omega, by go_num, by rw [hpj, ← List.append_assoc]; exact Q3.out⟩
                             case measure => simp [intOf] <;> omega
                           exact AllReady.nil
                         exact AllReady.nil
                       exact AllReady.nil
                     exact AllReady.nil
                     )
              · obtain rfl : j = 2 - 1 := by omega
                rw [Hall.out, ← hdn.out] at hdi
                have HDI := Lib.hid hdi; clear hdi
                gi_wp2
                exact ⟨hsz0 ▸ HDI.out.kp, HDI.out.h0, ⟨_, HDI.out.h1, HDI.out.row⟩, HDI.out.h2, hok1, HDI.out.bel, HDI.out.size⟩
        · rw [hl] at Hout Hall Hbad Hnum hbl ⊢
          simp only [Nat.reduceSub, Nat.reduceMul, Nat.reducePow, Nat.reduceLT, decide_true, Bool.true_and] at Hbad Hnum hbl
          obtain ⟨x, hx⟩ : ∃ x, x = b * 64 % 256 := ⟨_, rfl⟩
          rw [← hx] at Hbad
          have hand : bits BinOp.and .i64 ((b : Int) * 64) 255 = (x : Int) := by
            have := and_num 8 255 255 (b * 64) (by omega) rfl rfl (by omega)
            rw [show (2 : Nat) ^ 8 = 256 from rfl, ← hx] at this
            simpa using this
          clear hx
          obtain ⟨B, hB⟩ : ∃ B, B = b * 64 := ⟨_, rfl⟩
          rw [← hB] at Hnum
          have hBl : B < 16777216 := by omega
          by_cases hxz : x = 0
          · subst hxz
            gi_wp2
            rw [show (b : Int) * 64 = (B : Int) by omega]
            have HB := Lib.hid hB; clear hB
            gi_loopw [59] (fun p wr => ∃ (j : Nat) (v : Value), j ≤ 3 - 1 ∧ p = .int .i64 j ∧ DI w.heap.size A w W2 (fun k => k = w.heap.size + 3 ∨ k = w.heap.size + 4) (decN A l i ++ (grpOut A g).take j) (codN A l (i + 1) : Nat) v wr) (fun i _ => 3 - 1 - (intOf i).toNat)
            case atStart =>
              have hs := HD1.out
              rw [Hbad.out] at hs
              simp only [bne_self_eq_false, Bool.false_eq_true, if_true, if_false] at hs
              exact ⟨0, v, by omega, rfl, by rw [List.take_zero, List.append_nil]; exact hs⟩
            case round =>
              obtain ⟨j, v', hj, rfl, hdi⟩ := hrel
              by_cases hjn : j < 3 - 1
              · have hpj := Hout.out j (by omega)
                have c1 : wr.cell? ⟨w.heap.size + 1, 0, none⟩ = some v' := cell_of hdi.h1
                have c1a : ∀ o, (wr.alloc o).cell? ⟨w.heap.size + 1, 0, none⟩ = some v' := fun o => ext_cell ((Below.refl _ _).alloc (Nat.le_refl _) o) c1
                have hlen : (decN A l i ++ (grpOut A g).take j).length ≤ 60000 := by rw [List.length_append, List.length_take]; omega
                have HDI := Lib.hid hdi; clear hdi
                obtain rfl | rfl | rfl : j = 0 ∨ j = 1 ∨ j = 2 := by omega
                · first
                  | (exfalso; omega)
                  | (have hu : Value.int .u8 ((B : Int) / 65536) = Byt (UInt8.ofNat (grpNum A g / 2 ^ (8 * (2 - 0)))) := by
                       simp only [Byt, UInt8.toNat_ofNat']
                       try rw [Hnum.out]
                       try congr 1
                       try simp only [Nat.reduceMul, Nat.reduceSub, Nat.reducePow]
                       try omega
                     have HU := Lib.hid hu; clear hu
                     gi_wp2
                     refine wpIn_region_plain (r := some lp) (by kernel_rfl) (by kernel_rfl) ?_
                     simp only [List.size_toArray, List.length_cons, List.length_nil, Nat.reduceAdd, Array.replicate_succ, Array.replicate_zero, List.push_toArray, List.nil_append, List.cons_append]
                     refine wpAny_take (i := 1) (v := ?_) rfl (by kernel_rfl) (by kernel_rfl) (by kernel_rfl) (fun _ _ _ h => h) (Or.inl ⟨by rfl, ?_⟩) ?_
                     rotate_left 1
                     · (intro _; go_simp; (try go_bits); (try with_reducible rfl))
                     refine wpAny_take (i := 2) (v := ?_) rfl (by kernel_rfl) (by kernel_rfl) (by kernel_rfl) (fun _ _ _ h => h) (Or.inl ⟨by rfl, ?_⟩) ?_
                     rotate_left 1
                     · (intro _; go_simp; (try go_bits); (try with_reducible rfl))
                     refine wpAny_take (i := 3) (v := ?_) rfl (by kernel_rfl) (by kernel_rfl) (by kernel_rfl) (fun _ _ _ h => h) (Or.inl ⟨by rfl, ?_⟩) ?_
                     rotate_left 1
                     · (intro _; go_simp; (try go_bits); (try with_reducible rfl))
                     refine wpAny_take (i := 4) (v := ?_) rfl (by kernel_rfl) (by kernel_rfl) (by kernel_rfl) (fun _ _ _ h => h) (Or.inl ⟨by rfl, ?_⟩) ?_
                     rotate_left 1
                     · (intro _; go_simp; (try go_bits); (try with_reducible rfl))
                     refine wpAny_take (i := 5) (v := ?_) rfl (by kernel_rfl) (by kernel_rfl) (by kernel_rfl) (fun _ _ _ h => h) (Or.inl ⟨by rfl, ?_⟩) ?_
                     rotate_left 1
                     · (intro _; go_simp; (try go_bits); (try with_reducible rfl))
                     refine wpAny_take (i := 6) (v := ?_) rfl (by kernel_rfl) (by kernel_rfl) (by kernel_rfl) (fun _ _ _ h => h) (Or.inl ⟨by rfl, ?_⟩) ?_
                     rotate_left 1
                     · (intro _; go_simp; (try go_bits); (try with_reducible rfl))
                     refine wpAny_ready (rs := [0, 7]) (by kernel_rfl) (by simp) ?_
                     refine AllReady.cons rfl (fun K hK => ?_) ?_
                     · skip
                       go_simp
                       try go_bits
                       refine hK _ _ ?_; clear hK K
                       refine wpAny_ready (rs := [7]) (by kernel_rfl) (by simp) ?_
                       refine AllReady.cons rfl (fun K hK => ?_) ?_
                       · skip
                         go_simp
                         try go_bits
                         refine hK _ _ ?_; clear hK K
                         refine wpAny_ready (rs := [8]) (by kernel_rfl) (by simp) ?_
                         refine AllReady.cons rfl (fun K hK => ?_) ?_
                         · (try rw [drew_alloc]; refine step_push (w.heap.size + 5) rfl _ _ 25 5 rfl Tryz.underlying25 infoByte rfl (by omega) HDI.out.drew.row _ rfl (by omega) HDI.out.size rfl rfl ?_; rintro _ w1 ⟨g1, cap1, rfl⟩ hown1 hgr1; rw [HU.out] at hown1; obtain ⟨q1, q2, q3⟩ := HDI.out.drew.push rfl (fun k h => h) hown1 hgr1; clear hown1 hgr1; generalize (decN A l i ++ (grpOut A g).take 0).length + 1 = q at q1 q2 q3 ⊢; have Q3 := Lib.hid q3; clear q3)
                           try go_simp
                           refine hK _ _ ?_; clear hK K
                           refine wpAny_ready (rs := [9]) (by kernel_rfl) (by simp) ?_
                           refine AllReady.cons rfl (fun K hK => ?_) ?_
                           · skip
                             go_simp
                             try go_bits
                             refine hK _ _ ?_; clear hK K
                             refine wpAny_done (by kernel_rfl) ?_ _
                             simp only [onlyN]
                             gi_wp2
                             go_roundw
                             case rel => exact ⟨0 + 1, _, by omega, by go_num, by rw [hpj, ← List.append_assoc]; exact Q3.out⟩
                             case measure => simp [intOf] <;> omega
                           exact AllReady.nil
                         exact AllReady.nil
                       exact AllReady.nil
                     refine AllReady.cons rfl (fun K hK => ?_) ?_
                     · skip
                       go_simp
                       try go_bits
                       refine hK _ _ ?_; clear hK K
                       refine wpAny_ready (rs := [0]) (by kernel_rfl) (by simp) ?_
                       refine AllReady.cons rfl (fun K hK => ?_) ?_
                       · skip
                         go_simp
                         try go_bits
                         refine hK _ _ ?_; clear hK K
                         refine wpAny_ready (rs := [8]) (by kernel_rfl) (by simp) ?_
                         refine AllReady.cons rfl (fun K hK => ?_) ?_
                         · (try rw [drew_alloc]; refine step_push (w.heap.size + 5) rfl _ _ 25 5 rfl Tryz.underlying25 infoByte rfl (by omega) HDI.out.drew.row _ rfl (by omega) HDI.out.size rfl rfl ?_; rintro _ w1 ⟨g1, cap1, rfl⟩ hown1 hgr1; rw [HU.out] at hown1; obtain ⟨q1, q2, q3⟩ := HDI.out.drew.push rfl (fun k h => h) hown1 hgr1; clear hown1 hgr1; generalize (decN A l i ++ (grpOut A g).take 0).length + 1 = q at q1 q2 q3 ⊢; have Q3 := Lib.hid q3; clear q3)
                           try go_simp
                           refine hK _ _ ?_; clear hK K
                           refine wpAny_ready (rs := [9]) (by kernel_rfl) (by simp) ?_
                           refine AllReady.cons rfl (fun K hK => ?_) ?_
                           · skip
                             go_simp
                             try go_bits
                             refine hK _ _ ?_; clear hK K
                             refine wpAny_done (by kernel_rfl) ?_ _
                             simp only [onlyN]
                             gi_wp2
                             go_roundw
                             case rel => exact ⟨0 + 1, _, by omega, by go_num, by rw [hpj, ← List.append_assoc]; exact Q3.out⟩
                             case measure => simp [intOf] <;> omega
                           exact AllReady.nil
                         exact AllReady.nil
                       exact AllReady.nil
                     exact AllReady.nil
                     )
                · first
                  | (exfalso; omega)
                  | (have hu : Value.int .u8 ((B : Int) / 256 % 256) = Byt (UInt8.ofNat (grpNum A g / 2 ^ (8 * (2 - 1)))) := by
                       simp only [Byt, UInt8.toNat_ofNat']
                       try rw [Hnum.out]
                       try congr 1
                       try simp only [Nat.reduceMul, Nat.reduceSub, Nat.reducePow]
                       try omega
                     have HU := Lib.hid hu; clear hu
                     gi_wp2
                     refine wpIn_region_plain (r := some lp) (by kernel_rfl) (by kernel_rfl) ?_
                     simp only [List.size_toArray, List.length_cons, List.length_nil, Nat.reduceAdd, Array.replicate_succ, Array.replicate_zero, List.push_toArray, List.nil_append, List.cons_append]
                     refine wpAny_take (i := 1) (v := ?_) rfl (by kernel_rfl) (by kernel_rfl) (by kernel_rfl) (fun _ _ _ h => h) (Or.inl ⟨by rfl, ?_⟩) ?_
                     rotate_left 1
                     · (intro _; go_simp; (try go_bits); (try with_reducible rfl))
                     refine wpAny_take (i := 2) (v := ?_) rfl (by kernel_rfl) (by kernel_rfl) (by kernel_rfl) (fun _ _ _ h => h) (Or.inl ⟨by rfl, ?_⟩) ?_
                     rotate_left 1
                     · (intro _; go_simp; (try go_bits); (try with_reducible rfl))
                     refine wpAny_take (i := 3) (v := ?_) rfl (by kernel_rfl) (by kernel_rfl) (by kernel_rfl) (fun _ _ _ h => h) (Or.inl ⟨by rfl, ?_⟩) ?_
                     rotate_left 1
                     · (intro _; go_simp; (try go_bits); (try with_reducible rfl))
                     refine wpAny_take (i := 4) (v := ?_) rfl (by kernel_rfl) (by kernel_rfl) (by kernel_rfl) (fun _ _ _ h => h) (Or.inl ⟨by rfl, ?_⟩) ?_
                     rotate_left 1
                     · (intro _; go_simp; (try go_bits); (try with_reducible rfl))
                     refine wpAny_take (i := 5) (v := ?_) rfl (by kernel_rfl) (by kernel_rfl) (by kernel_rfl) (fun _ _ _ h => h) (Or.inl ⟨by rfl, ?_⟩) ?_
                     rotate_left 1
                     · (intro _; go_simp; (try go_bits); (try with_reducible rfl))
                     refine wpAny_take (i := 6) (v := ?_) rfl (by kernel_rfl) (by kernel_rfl) (by kernel_rfl) (fun _ _ _ h => h) (Or.inl ⟨by rfl, ?_⟩) ?_
                     rotate_left 1
                     · (intro _; go_simp; (try go_bits); (try with_reducible rfl))
                     refine wpAny_ready (rs := [0, 7]) (by kernel_rfl) (by simp) ?_
                     refine AllReady.cons rfl (fun K hK => ?_) ?_
                     · skip
                       go_simp
                       try go_bits
                       refine hK _ _ ?_; clear hK K
                       refine wpAny_ready (rs := [7]) (by kernel_rfl) (by simp) ?_
                       refine AllReady.cons rfl (fun K hK => ?_) ?_
                       · skip
                         go_simp
                         try go_bits
                         refine hK _ _ ?_; clear hK K
                         refine wpAny_ready (rs := [8]) (by kernel_rfl) (by simp) ?_
                         refine AllReady.cons rfl (fun K hK => ?_) ?_
                         · (try rw [drew_alloc]; refine step_push (w.heap.size + 5) rfl _ _ 25 5 rfl Tryz.underlying25 infoByte rfl (by omega) HDI.out.drew.row _ rfl (by omega) HDI.out.size rfl rfl ?_; rintro _ w1 ⟨g1, cap1, rfl⟩ hown1 hgr1; rw [HU.out] at hown1; obtain ⟨q1, q2, q3⟩ := HDI.out.drew.push rfl (fun k h => h) hown1 hgr1; clear hown1 hgr1; generalize (decN A l i ++ (grpOut A g).take 1).length + 1 = q at q1 q2 q3 ⊢; have Q3 := Lib.hid q3; clear q3)
                           try go_simp
                           refine hK _ _ ?_; clear hK K
                           refine wpAny_ready (rs := [9]) (by kernel_rfl) (by simp) ?_
                           refine AllReady.cons rfl (fun K hK => ?_) ?_
                           · skip
                             go_simp
                             try go_bits
                             refine hK _ _ ?_; clear hK K
                             refine wpAny_done (by kernel_rfl) ?_ _
                             simp only [onlyN]
                             gi_wp2
                             go_roundw
                             case rel => exact ⟨1 + 1, _, by omega, by go_num, by rw [hpj, ← List.append_assoc]; exact Q3.out⟩
                             case measure => simp [intOf] <;> omega
                           exact AllReady.nil
                         exact AllReady.nil
                       exact AllReady.nil
                     refine AllReady.cons rfl (fun K hK => ?_) ?_
                     · skip
                       go_simp
                       try go_bits
                       refine hK _ _ ?_; clear hK K
                       refine wpAny_ready (rs := [0]) (by kernel_rfl) (by simp) ?_
                       refine AllReady.cons rfl (fun K hK => ?_) ?_
                       · skip
                         go_simp
                         try go_bits
                         refine hK _ _ ?_; clear hK K
                         refine wpAny_ready (rs := [8]) (by kernel_rfl) (by simp) ?_
                         refine AllReady.cons rfl (fun K hK => ?_) ?_
                         · (try rw [drew_alloc]; refine step_push (w.heap.size + 5) rfl _ _ 25 5 rfl Tryz.underlying25 infoByte rfl (by omega) HDI.out.drew.row _ rfl (by omega) HDI.out.size rfl rfl ?_; rintro _ w1 ⟨g1, cap1, rfl⟩ hown1 hgr1; rw [HU.out] at hown1; obtain ⟨q1, q2, q3⟩ := HDI.out.drew.push rfl (fun k h => h) hown1 hgr1; clear hown1 hgr1; generalize (decN A l i ++ (grpOut A g).take 1).length + 1 = q at q1 q2 q3 ⊢; have Q3 := Lib.hid q3; clear q3)
                           try go_simp
                           refine hK _ _ ?_; clear hK K
                           refine wpAny_ready (rs := [9]) (by kernel_rfl) (by simp) ?_
                           refine AllReady.cons rfl (fun K hK => ?_) ?_
                           · skip
                             go_simp
                             try go_bits
                             refine hK _ _ ?_; clear hK K
                             refine wpAny_done (by kernel_rfl) ?_ _
                             simp only [onlyN]
                             gi_wp2
                             go_roundw
                             case rel => exact ⟨1 + 1, _, by omega, by go_num, by rw [hpj, ← List.append_assoc]; exact Q3.out⟩
                             case measure => simp [intOf] <;> omega
                           exact AllReady.nil
                         exact AllReady.nil
                       exact AllReady.nil
                     exact AllReady.nil
                     )
                · first
                  | (exfalso; omega)
                  | (have hu : Value.int .u8 ((B : Int) % 256) = Byt (UInt8.ofNat (grpNum A g / 2 ^ (8 * (2 - 2)))) := by
                       simp only [Byt, UInt8.toNat_ofNat']
                       try rw [Hnum.out]
                       try congr 1
                       try simp only [Nat.reduceMul, Nat.reduceSub, Nat.reducePow]
                       try omega
                     have HU := Lib.hid hu; clear hu
                     gi_wp2
                     refine wpIn_region_plain (r := some lp) (by kernel_rfl) (by kernel_rfl) ?_
                     simp only [List.size_toArray, List.length_cons, List.length_nil, Nat.reduceAdd, Array.replicate_succ, Array.replicate_zero, List.push_toArray, List.nil_append, List.cons_append]
                     refine wpAny_take (i := 1) (v := ?_) rfl (by kernel_rfl) (by kernel_rfl) (by kernel_rfl) (fun _ _ _ h => h) (Or.inl ⟨by rfl, ?_⟩) ?_
                     rotate_left 1
                     · (intro _; go_simp; (try go_bits); (try with_reducible rfl))
                     refine wpAny_take (i := 2) (v := ?_) rfl (by kernel_rfl) (by kernel_rfl) (by kernel_rfl) (fun _ _ _ h => h) (Or.inl ⟨by rfl, ?_⟩) ?_
                     rotate_left 1
                     · (intro _; go_simp; (try go_bits); (try with_reducible rfl))
                     refine wpAny_take (i := 3) (v := ?_) rfl (by kernel_rfl) (by kernel_rfl) (by kernel_rfl) (fun _ _ _ h => h) (Or.inl ⟨by rfl, ?_⟩) ?_
                     rotate_left 1
                     · (intro _; go_simp; (try go_bits); (try with_reducible rfl))
                     refine wpAny_take (i := 4) (v := ?_) rfl (by kernel_rfl) (by kernel_rfl) (by kernel_rfl) (fun _ _ _ h => h) (Or.inl ⟨by rfl, ?_⟩) ?_
                     rotate_left 1
                     · (intro _; go_simp; (try go_bits); (try with_reducible rfl))
                     refine wpAny_take (i := 5) (v := ?_) rfl (by kernel_rfl) (by kernel_rfl) (by kernel_rfl) (fun _ _ _ h => h) (Or.inl ⟨by rfl, ?_⟩) ?_
                     rotate_left 1
                     · (intro _; go_simp; (try go_bits); (try with_reducible rfl))
                     refine wpAny_take (i := 6) (v := ?_) rfl (by kernel_rfl) (by kernel_rfl) (by kernel_rfl) (fun _ _ _ h => h) (Or.inl ⟨by rfl, ?_⟩) ?_
                     rotate_left 1
                     · (intro _; go_simp; (try go_bits); (try with_reducible rfl))
                     refine wpAny_ready (rs := [0, 7]) (by kernel_rfl) (by simp) ?_
                     refine AllReady.cons rfl (fun K hK => ?_) ?_
                     · skip
                       go_simp
                       try go_bits
                       refine hK _ _ ?_; clear hK K
                       refine wpAny_ready (rs := [7]) (by kernel_rfl) (by simp) ?_
                       refine AllReady.cons rfl (fun K hK => ?_) ?_
                       · skip
                         go_simp
                         try go_bits
                         refine hK _ _ ?_; clear hK K
                         refine wpAny_ready (rs := [8]) (by kernel_rfl) (by simp) ?_
                         refine AllReady.cons rfl (fun K hK => ?_) ?_
                         · (try rw [drew_alloc]; refine step_push (w.heap.size + 5) rfl _ _ 25 5 rfl Tryz.underlying25 infoByte rfl (by omega) HDI.out.drew.row _ rfl (by omega) HDI.out.size rfl rfl ?_; rintro _ w1 ⟨g1, cap1, rfl⟩ hown1 hgr1; rw [HU.out] at hown1; obtain ⟨q1, q2, q3⟩ := HDI.out.drew.push rfl (fun k h => h) hown1 hgr1; clear hown1 hgr1; generalize (decN A l i ++ (grpOut A g).take 2).length + 1 = q at q1 q2 q3 ⊢; have Q3 := Lib.hid q3; clear q3)
                           try go_simp
                           refine hK _ _ ?_; clear hK K
                           refine wpAny_ready (rs := [9]) (by kernel_rfl) (by simp) ?_
                           refine AllReady.cons rfl (fun K hK => ?_) ?_
                           · skip
                             go_simp
                             try go_bits
                             refine hK _ _ ?_; clear hK K
                             refine wpAny_done (by kernel_rfl) ?_ _
                             simp only [onlyN]
                             gi_wp2
                             go_roundw
                             case rel => exact ⟨2 + 1, _, by omega, by go_num, by rw [hpj, ← List.append_assoc]; exact Q3.out⟩
                             case measure => simp [intOf] <;> omega
                           exact AllReady.nil
                         exact AllReady.nil
                       exact AllReady.nil
                     refine AllReady.cons rfl (fun K hK => ?_) ?_
                     · skip
                       go_simp
                       try go_bits
                       refine hK _ _ ?_; clear hK K
                       refine wpAny_ready (rs := [0]) (by kernel_rfl) (by simp) ?_
                       refine AllReady.cons rfl (fun K hK => ?_) ?_
                       · skip
                         go_simp
                         try go_bits
                         refine hK _ _ ?_; clear hK K
                         refine wpAny_ready (rs := [8]) (by kernel_rfl) (by simp) ?_
                         refine AllReady.cons rfl (fun K hK => ?_) ?_
                         · (try rw [drew_alloc]; refine step_push (w.heap.size + 5) rfl _ _ 25 5 rfl Tryz.underlying25 infoByte rfl (by omega) HDI.out.drew.row _ rfl (by omega) HDI.out.size rfl rfl ?_; rintro _ w1 ⟨g1, cap1, rfl⟩ hown1 hgr1; rw [HU.out] at hown1; obtain ⟨q1, q2, q3⟩ := HDI.out.drew.push rfl (fun k h => h) hown1 hgr1; clear hown1 hgr1; generalize (decN A l i ++ (grpOut A g).take 2).length + 1 = q at q1 q2 q3 ⊢; have Q3 := Lib.hid q3; clear q3)
                           try go_simp
                           refine hK _ _ ?_; clear hK K
                           refine wpAny_ready (rs := [9]) (by kernel_rfl) (by simp) ?_
                           refine AllReady.cons rfl (fun K hK => ?_) ?_
                           · skip
                             go_simp
                             try go_bits
                             refine hK _ _ ?_; clear hK K
                             refine wpAny_done (by kernel_rfl) ?_ _
                             simp only [onlyN]
                             gi_wp2
                             go_roundw
                             case rel => exact ⟨2 + 1, _, by omega, by go_num, by rw [hpj, ← List.append_assoc]; exact Q3.out⟩
                             case measure => simp [intOf] <;> omega
                           exact AllReady.nil
                         exact AllReady.nil
                       exact AllReady.nil
                     exact AllReady.nil
                     )
              · obtain rfl : j = 3 - 1 := by omega
                rw [Hall.out, ← hdn.out] at hdi
                have HDI := Lib.hid hdi; clear hdi
                gi_wp2
                exact ⟨hsz0 ▸ HDI.out.kp, HDI.out.h0, ⟨_, HDI.out.h1, HDI.out.row⟩, HDI.out.h2, hok1, HDI.out.bel, HDI.out.size⟩
          · have hxb : ((x : Int) != 0) = true := by simp; omega
            gi_wp2
            rw [show (b : Int) * 64 = (B : Int) by omega]
            have HB := Lib.hid hB; clear hB
            gi_loopw [59] (fun p wr => ∃ (j : Nat) (v : Value), j ≤ 3 - 1 ∧ p = .int .i64 j ∧ DI w.heap.size A w W2 (fun k => k = w.heap.size + 3 ∨ k = w.heap.size + 4) (decN A l i ++ (grpOut A g).take j) (codN A l (i + 1) : Nat) v wr) (fun i _ => 3 - 1 - (intOf i).toNat)
            case atStart =>
              have hs := HD1.out
              rw [Hbad.out] at hs
              simp only [show ((x != 0) = true) by simpa using hxz, if_true, if_false] at hs
              exact ⟨0, v, by omega, rfl, by rw [List.take_zero, List.append_nil]; exact hs⟩
            case round =>
              obtain ⟨j, v', hj, rfl, hdi⟩ := hrel
              by_cases hjn : j < 3 - 1
              · have hpj := Hout.out j (by omega)
                have c1 : wr.cell? ⟨w.heap.size + 1, 0, none⟩ = some v' := cell_of hdi.h1
                have c1a : ∀ o, (wr.alloc o).cell? ⟨w.heap.size + 1, 0, none⟩ = some v' := fun o => ext_cell ((Below.refl _ _).alloc (Nat.le_refl _) o) c1
                have hlen : (decN A l i ++ (grpOut A g).take j).length ≤ 60000 := by rw [List.length_append, List.length_take]; omega
                have HDI := Lib.hid hdi; clear hdi
                obtain rfl | rfl | rfl : j = 0 ∨ j = 1 ∨ j = 2 := by omega
                · first
                  | (exfalso; omega)
                  | (have hu : Value.int .u8 ((B : Int) / 65536) = Byt (UInt8.ofNat (grpNum A g / 2 ^ (8 * (2 - 0)))) := by
                       simp only [Byt, UInt8.toNat_ofNat']
                       try rw [Hnum.out]
                       try congr 1
                       try simp only [Nat.reduceMul, Nat.reduceSub, Nat.reducePow]
                       try omega
                     have HU := Lib.hid hu; clear hu
                     gi_wp2
                     refine wpIn_region_plain (r := some lp) (by kernel_rfl) (by kernel_rfl) ?_
                     simp only [List.size_toArray, List.length_cons, List.length_nil, Nat.reduceAdd, Array.replicate_succ, Array.replicate_zero, List.push_toArray, List.nil_append, List.cons_append]
                     refine wpAny_take (i := 1) (v := ?_) rfl (by kernel_rfl) (by kernel_rfl) (by kernel_rfl) (fun _ _ _ h => h) (Or.inl ⟨by rfl, ?_⟩) ?_
                     rotate_left 1
                     · (intro _; go_simp; (try go_bits); (try with_reducible rfl))
                     refine wpAny_take (i := 2) (v := ?_) rfl (by kernel_rfl) (by kernel_rfl) (by kernel_rfl) (fun _ _ _ h => h) (Or.inl ⟨by rfl, ?_⟩) ?_
                     rotate_left 1
                     · (intro _; go_simp; (try go_bits); (try with_reducible rfl))
                     refine wpAny_take (i := 3) (v := ?_) rfl (by kernel_rfl) (by kernel_rfl) (by kernel_rfl) (fun _ _ _ h => h) (Or.inl ⟨by rfl, ?_⟩) ?_
                     rotate_left 1
                     · (intro _; go_simp; (try go_bits); (try with_reducible rfl))
                     refine wpAny_take (i := 4) (v := ?_) rfl (by kernel_rfl) (by kernel_rfl) (by kernel_rfl) (fun _ _ _ h => h) (Or.inl ⟨by rfl, ?_⟩) ?_
                     rotate_left 1
                     · (intro _; go_simp; (try go_bits); (try with_reducible rfl))
                     refine wpAny_take (i := 5) (v := ?_) rfl (by kernel_rfl) (by kernel_rfl) (by kernel_rfl) (fun _ _ _ h => h) (Or.inl ⟨by rfl, ?_⟩) ?_
                     rotate_left 1
                     · (intro _; go_simp; (try go_bits); (try with_reducible rfl))
                     refine wpAny_take (i := 6) (v := ?_) rfl (by kernel_rfl) (by kernel_rfl) (by kernel_rfl) (fun _ _ _ h => h) (Or.inl ⟨by rfl, ?_⟩) ?_
                     rotate_left 1
                     · (intro _; go_simp; (try go_bits); (try with_reducible rfl))
                     refine wpAny_ready (rs := [0, 7]) (by kernel_rfl) (by simp) ?_
                     refine AllReady.cons rfl (fun K hK => ?_) ?_
                     · skip
                       go_simp
                       try go_bits
                       refine hK _ _ ?_; clear hK K
                       refine wpAny_ready (rs := [7]) (by kernel_rfl) (by simp) ?_
                       refine AllReady.cons rfl (fun K hK => ?_) ?_
                       · skip
                         go_simp
                         try go_bits
                         refine hK _ _ ?_; clear hK K
                         refine wpAny_ready (rs := [8]) (by kernel_rfl) (by simp) ?_
                         refine AllReady.cons rfl (fun K hK => ?_) ?_
                         · (try rw [drew_alloc]; refine step_push (w.heap.size + 5) rfl _ _ 25 5 rfl Tryz.underlying25 infoByte rfl (by omega) HDI.out.drew.row _ rfl (by omega) HDI.out.size rfl rfl ?_; rintro _ w1 ⟨g1, cap1, rfl⟩ hown1 hgr1; rw [HU.out] at hown1; obtain ⟨q1, q2, q3⟩ := HDI.out.drew.push rfl (fun k h => h) hown1 hgr1; clear hown1 hgr1; generalize (decN A l i ++ (grpOut A g).take 0).length + 1 = q at q1 q2 q3 ⊢; have Q3 := Lib.hid q3; clear q3)
                           try go_simp
                           refine hK _ _ ?_; clear hK K
                           refine wpAny_ready (rs := [9]) (by kernel_rfl) (by simp) ?_
                           refine AllReady.cons rfl (fun K hK => ?_) ?_
                           · skip
                             go_simp
                             try go_bits
                             refine hK _ _ ?_; clear hK K
                             refine wpAny_done (by kernel_rfl) ?_ _
                             simp only [onlyN]
                             gi_wp2
                             go_roundw
                             case rel => exact ⟨0 + 1, _, by omega, by go_num, by rw [hpj, ← List.append_assoc]; exact Q3.out⟩
                             case measure => simp [intOf] <;> omega
                           exact AllReady.nil
                         exact AllReady.nil
                       exact AllReady.nil
                     refine AllReady.cons rfl (fun K hK => ?_) ?_
                     · skip
                       go_simp
                       try go_bits
                       refine hK _ _ ?_; clear hK K
                       refine wpAny_ready (rs := [0]) (by kernel_rfl) (by simp) ?_
                       refine AllReady.cons rfl (fun K hK => ?_) ?_
                       · skip
                         go_simp
                         try go_bits
                         refine hK _ _ ?_; clear hK K
                         refine wpAny_ready (rs := [8]) (by kernel_rfl) (by simp) ?_
                         refine AllReady.cons rfl (fun K hK => ?_) ?_
                         · (try rw [drew_alloc]; refine step_push (w.heap.size + 5) rfl _ _ 25 5 rfl Tryz.underlying25 infoByte rfl (by omega) HDI.out.drew.row _ rfl (by omega) HDI.out.size rfl rfl ?_; rintro _ w1 ⟨g1, cap1, rfl⟩ hown1 hgr1; rw [HU.out] at hown1; obtain ⟨q1, q2, q3⟩ := HDI.out.drew.push rfl (fun k h => h) hown1 hgr1; clear hown1 hgr1; generalize (decN A l i ++ (grpOut A g).take 0).length + 1 = q at q1 q2 q3 ⊢; have Q3 := Lib.hid q3; clear q3)
                           try go_simp
                           refine hK _ _ ?_; clear hK K
                           refine wpAny_ready (rs := [9]) (by kernel_rfl) (by simp) ?_
                           refine AllReady.cons rfl (fun K hK => ?_) ?_
                           · skip
                             go_simp
                             try go_bits
                             refine hK _ _ ?_; clear hK K
                             refine wpAny_done (by kernel_rfl) ?_ _
                             simp only [onlyN]
                             gi_wp2
                             go_roundw
                             case rel => exact ⟨0 + 1, _, by omega, by go_num, by rw [hpj, ← List.append_assoc]; exact Q3.out⟩
                             case measure => simp [intOf] <;> omega
                           exact AllReady.nil
                         exact AllReady.nil
                       exact AllReady.nil
                     exact AllReady.nil
                     )
                · first
                  | (exfalso; omega)
                  | (have hu : Value.int .u8 ((B : Int) / 256 % 256) = Byt (UInt8.ofNat (grpNum A g / 2 ^ (8 * (2 - 1)))) := by
                       simp only [Byt, UInt8.toNat_ofNat']
                       try rw [Hnum.out]
                       try congr 1
                       try simp only [Nat.reduceMul, Nat.reduceSub, Nat.reducePow]
                       try omega
                     have HU := Lib.hid hu; clear hu
                     gi_wp2
                     refine wpIn_region_plain (r := some lp) (by kernel_rfl) (by kernel_rfl) ?_
                     simp only [List.size_toArray, List.length_cons, List.length_nil, Nat.reduceAdd, Array.replicate_succ, Array.replicate_zero, List.push_toArray, List.nil_append, List.cons_append]
                     refine wpAny_take (i := 1) (v := ?_) rfl (by kernel_rfl) (by kernel_rfl) (by kernel_rfl) (fun _ _ _ h => h) (Or.inl ⟨by rfl, ?_⟩) ?_
                     rotate_left 1
                     · (intro _; go_simp; (try go_bits); (try with_reducible rfl))
                     refine wpAny_take (i := 2) (v := ?_) rfl (by kernel_rfl) (by kernel_rfl) (by kernel_rfl) (fun _ _ _ h => h) (Or.inl ⟨by rfl, ?_⟩) ?_
                     rotate_left 1
                     · (intro _; go_simp; (try go_bits); (try with_reducible rfl))
                     refine wpAny_take (i := 3) (v := ?_) rfl (by kernel_rfl) (by kernel_rfl) (by kernel_rfl) (fun _ _ _ h => h) (Or.inl ⟨by rfl, ?_⟩) ?_
                     rotate_left 1
                     · (intro _; go_simp; (try go_bits); (try with_reducible rfl))
                     refine wpAny_take (i := 4) (v := ?_) rfl (by kernel_rfl) (by kernel_rfl) (by kernel_rfl) (fun _ _ _ h => h) (Or.inl ⟨by rfl, ?_⟩) ?_
                     rotate_left 1
                     · (intro _; go_simp; (try go_bits); (try with_reducible rfl))
                     refine wpAny_take (i := 5) (v := ?_) rfl (by kernel_rfl) (by kernel_rfl) (by kernel_rfl) (fun _ _ _ h => h) (Or.inl ⟨by rfl, ?_⟩) ?_
                     rotate_left 1
                     · (intro _; go_simp; (try go_bits); (try with_reducible rfl))
                     refine wpAny_take (i := 6) (v := ?_) rfl (by kernel_rfl) (by kernel_rfl) (by kernel_rfl) (fun _ _ _ h => h) (Or.inl ⟨by rfl, ?_⟩) ?_
                     rotate_left 1
                     · (intro _; go_simp; (try go_bits); (try with_reducible rfl))
                     refine wpAny_ready (rs := [0, 7]) (by kernel_rfl) (by simp) ?_
                     refine AllReady.cons rfl (fun K hK => ?_) ?_
                     · skip
                       go_simp
                       try go_bits
                       refine hK _ _ ?_; clear hK K
                       refine wpAny_ready (rs := [7]) (by kernel_rfl) (by simp) ?_
                       refine AllReady.cons rfl (fun K hK => ?_) ?_
                       · skip
                         go_simp
                         try go_bits
                         refine hK _ _ ?_; clear hK K
                         refine wpAny_ready (rs := [8]) (by kernel_rfl) (by simp) ?_
                         refine AllReady.cons rfl (fun K hK => ?_) ?_
                         · (try rw [drew_alloc]; refine step_push (w.heap.size + 5) rfl _ _ 25 5 rfl Tryz.underlying25 infoByte rfl (by omega) HDI.out.drew.row _ rfl (by omega) HDI.out.size rfl rfl ?_; rintro _ w1 ⟨g1, cap1, rfl⟩ hown1 hgr1; rw [HU.out] at hown1; obtain ⟨q1, q2, q3⟩ := HDI.out.drew.push rfl (fun k h => h) hown1 hgr1; clear hown1 hgr1; generalize (decN A l i ++ (grpOut A g).take 1).length + 1 = q at q1 q2 q3 ⊢; have Q3 := Lib.hid q3; clear q3)
                           try go_simp
                           refine hK _ _ ?_; clear hK K
                           refine wpAny_ready (rs := [9]) (by kernel_rfl) (by simp) ?_
                           refine AllReady.cons rfl (fun K hK => ?_) ?_
                           · skip
                             go_simp
                             try go_bits
                             refine hK _ _ ?_; clear hK K
                             refine wpAny_done (by kernel_rfl) ?_ _
                             simp only [onlyN]
                             gi_wp2
                             go_roundw
                             case rel => exact ⟨1 + 1, _, by omega, by go_num, by rw [hpj, ← List.append_assoc]; exact Q3.out⟩
                             case measure => simp [intOf] <;> omega
                           exact AllReady.nil
                         exact AllReady.nil
                       exact AllReady.nil
                     refine AllReady.cons rfl (fun K hK => ?_) ?_
                     · skip
                       go_simp
                       try go_bits
                       refine hK _ _ ?_; clear hK K
                       refine wpAny_ready (rs := [0]) (by kernel_rfl) (by simp) ?_
                       refine AllReady.cons rfl (fun K hK => ?_) ?_
                       · skip
                         go_simp
                         try go_bits
                         refine hK _ _ ?_; clear hK K
                         refine wpAny_ready (rs := [8]) (by kernel_rfl) (by simp) ?_
                         refine AllReady.cons rfl (fun K hK => ?_) ?_
                         · (try rw [drew_alloc]; refine step_push (w.heap.size + 5) rfl _ _ 25 5 rfl Tryz.underlying25 infoByte rfl (by omega) HDI.out.drew.row _ rfl (by omega) HDI.out.size rfl rfl ?_; rintro _ w1 ⟨g1, cap1, rfl⟩ hown1 hgr1; rw [HU.out] at hown1; obtain ⟨q1, q2, q3⟩ := HDI.out.drew.push rfl (fun k h => h) hown1 hgr1; clear hown1 hgr1; generalize (decN A l i ++ (grpOut A g).take 1).length + 1 = q at q1 q2 q3 ⊢; have Q3 := Lib.hid q3; clear q3)
                           try go_simp
                           refine hK _ _ ?_; clear hK K
                           refine wpAny_ready (rs := [9]) (by kernel_rfl) (by simp) ?_
                           refine AllReady.cons rfl (fun K hK => ?_) ?_
                           · skip
                             go_simp
                             try go_bits
                             refine hK _ _ ?_; clear hK K
                             refine wpAny_done (by kernel_rfl) ?_ _
                             simp only [onlyN]
                             gi_wp2
                             go_roundw
                             case rel => exact ⟨1 + 1, _, by omega, by go_num, by rw [hpj, ← List.append_assoc]; exact Q3.out⟩
                             case measure => simp [intOf] <;> omega
                           exact AllReady.nil
                         exact AllReady.nil
                       exact AllReady.nil
                     exact AllReady.nil
                     )
                · first
                  | (exfalso; omega)
                  | (have hu : Value.int .u8 ((B : Int) % 256) = Byt (UInt8.ofNat (grpNum A g / 2 ^ (8 * (2 - 2)))) := by
                       simp only [Byt, UInt8.toNat_ofNat']
                       try rw [Hnum.out]
                       try congr 1
                       try simp only [Nat.reduceMul, Nat.reduceSub, Nat.reducePow]
                       try omega
                     have HU := Lib.hid hu; clear hu
                     gi_wp2
                     refine wpIn_region_plain (r := some lp) (by kernel_rfl) (by kernel_rfl) ?_
                     simp only [List.size_toArray, List.length_cons, List.length_nil, Nat.reduceAdd, Array.replicate_succ, Array.replicate_zero, List.push_toArray, List.nil_append, List.cons_append]
                     refine wpAny_take (i := 1) (v := ?_) rfl (by kernel_rfl) (by kernel_rfl) (by kernel_rfl) (fun _ _ _ h => h) (Or.inl ⟨by rfl, ?_⟩) ?_
                     rotate_left 1
                     · (intro _; go_simp; (try go_bits); (try with_reducible rfl))
                     refine wpAny_take (i := 2) (v := ?_) rfl (by kernel_rfl) (by kernel_rfl) (by kernel_rfl) (fun _ _ _ h => h) (Or.inl ⟨by rfl, ?_⟩) ?_
                     rotate_left 1
                     · (intro _; go_simp; (try go_bits); (try with_reducible rfl))
                     refine wpAny_take (i := 3) (v := ?_) rfl (by kernel_rfl) (by kernel_rfl) (by kernel_rfl) (fun _ _ _ h => h) (Or.inl ⟨by rfl, ?_⟩) ?_
                     rotate_left 1
                     · (intro _; go_simp; (try go_bits); (try with_reducible rfl))
                     refine wpAny_take (i := 4) (v := ?_) rfl (by kernel_rfl) (by kernel_rfl) (by kernel_rfl) (fun _ _ _ h => h) (Or.inl ⟨by rfl, ?_⟩) ?_
                     rotate_left 1
                     · (intro _; go_simp; (try go_bits); (try with_reducible rfl))
                     refine wpAny_take (i := 5) (v := ?_) rfl (by kernel_rfl) (by kernel_rfl) (by kernel_rfl) (fun _ _ _ h => h) (Or.inl ⟨by rfl, ?_⟩) ?_
                     rotate_left 1
                     · (intro _; go_simp; (try go_bits); (try with_reducible rfl))
                     refine wpAny_take (i := 6) (v := ?_) rfl (by kernel_rfl) (by kernel_rfl) (by kernel_rfl) (fun _ _ _ h => h) (Or.inl ⟨by rfl, ?_⟩) ?_
                     rotate_left 1
                     · (intro _; go_simp; (try go_bits); (try with_reducible rfl))
                     refine wpAny_ready (rs := [0, 7]) (by kernel_rfl) (by simp) ?_
                     refine AllReady.cons rfl (fun K hK => ?_) ?_
                     · skip
                       go_simp
                       try go_bits
                       refine hK _ _ ?_; clear hK K
                       refine wpAny_ready (rs := [7]) (by kernel_rfl) (by simp) ?_
                       refine AllReady.cons rfl (fun K hK => ?_) ?_
                       · skip
                         go_simp
                         try go_bits
                         refine hK _ _ ?_; clear hK K
                         refine wpAny_ready (rs := [8]) (by kernel_rfl) (by simp) ?_
                         refine AllReady.cons rfl (fun K hK => ?_) ?_
                         · (try rw [drew_alloc]; refine step_push (w.heap.size + 5) rfl _ _ 25 5 rfl Tryz.underlying25 infoByte rfl (by omega) HDI.out.drew.row _ rfl (by omega) HDI.out.size rfl rfl ?_; rintro _ w1 ⟨g1, cap1, rfl⟩ hown1 hgr1; rw [HU.out] at hown1; obtain ⟨q1, q2, q3⟩ := HDI.out.drew.push rfl (fun k h => h) hown1 hgr1; clear hown1 hgr1; generalize (decN A l i ++ (grpOut A g).take 2).length + 1 = q at q1 q2 q3 ⊢; have Q3 := Lib.hid q3; clear q3)
                           try go_simp
                           refine hK _ _ ?_; clear hK K
                           refine wpAny_ready (rs := [9]) (by kernel_rfl) (by simp) ?_
                           refine AllReady.cons rfl (fun K hK => ?_) ?_
                           · skip
                             go_simp
                             try go_bits
                             refine hK _ _ ?_; clear hK K
                             refine wpAny_done (by kernel_rfl) ?_ _
                             simp only [onlyN]
                             gi_wp2
                             go_roundw
                             case rel => exact ⟨2 + 1, _, by omega, by go_num, by rw [hpj, ← List.append_assoc]; exact Q3.out⟩
                             case measure => simp [intOf] <;> omega
                           exact AllReady.nil
                         exact AllReady.nil
                       exact AllReady.nil
                     refine AllReady.cons rfl (fun K hK => ?_) ?_
                     · skip
                       go_simp
                       try go_bits
                       refine hK _ _ ?_; clear hK K
                       refine wpAny_ready (rs := [0]) (by kernel_rfl) (by simp) ?_
                       refine AllReady.cons rfl (fun K hK => ?_) ?_
                       · skip
                         go_simp
                         try go_bits
                         refine hK _ _ ?_; clear hK K
                         refine wpAny_ready (rs := [8]) (by kernel_rfl) (by simp) ?_
                         refine AllReady.cons rfl (fun K hK => ?_) ?_
                         · (try rw [drew_alloc]; refine step_push (w.heap.size + 5) rfl _ _ 25 5 rfl Tryz.underlying25 infoByte rfl (by omega) HDI.out.drew.row _ rfl (by omega) HDI.out.size rfl rfl ?_; rintro _ w1 ⟨g1, cap1, rfl⟩ hown1 hgr1; rw [HU.out] at hown1; obtain ⟨q1, q2, q3⟩ := HDI.out.drew.push rfl (fun k h => h) hown1 hgr1; clear hown1 hgr1; generalize (decN A l i ++ (grpOut A g).take 2).length + 1 = q at q1 q2 q3 ⊢; have Q3 := Lib.hid q3; clear q3)
                           try go_simp
                           refine hK _ _ ?_; clear hK K
                           refine wpAny_ready (rs := [9]) (by kernel_rfl) (by simp) ?_
                           refine AllReady.cons rfl (fun K hK => ?_) ?_
                           · skip
                             go_simp
                             try go_bits
                             refine hK _ _ ?_; clear hK K
                             refine wpAny_done (by kernel_rfl) ?_ _
                             simp only [onlyN]
                             gi_wp2
                             go_roundw
                             case rel => exact ⟨2 + 1, _, by omega, by go_num, by rw [hpj, ← List.append_assoc]; exact Q3.out⟩
                             case measure => simp [intOf] <;> omega
                           exact AllReady.nil
                         exact AllReady.nil
                       exact AllReady.nil
                     exact AllReady.nil
                     )
              · obtain rfl : j = 3 - 1 := by omega
                rw [Hall.out, ← hdn.out] at hdi
                have HDI := Lib.hid hdi; clear hdi
                gi_wp2
                exact ⟨hsz0 ▸ HDI.out.kp, HDI.out.h0, ⟨_, HDI.out.h1, HDI.out.row⟩, HDI.out.h2, hok1, HDI.out.bel, HDI.out.size⟩
        · rw [hl] at Hout Hall Hbad Hnum hbl ⊢
          simp only [Nat.reduceSub, Nat.reduceMul, Nat.reducePow, Nat.lt_irrefl, decide_false, Bool.false_and, Nat.mul_one, Nat.mul_zero, Nat.pow_zero] at Hbad Hnum hbl
          have hand : bits BinOp.and .i64 (b : Int) 0 = 0 := by
            have := and_num 0 0 0 b (by omega) rfl rfl (by omega)
            simpa [Nat.mod_one] using this
          obtain ⟨B, hB⟩ : ∃ B, B = b := ⟨_, rfl⟩
          rw [← hB] at Hnum
          have hBl : B < 16777216 := by omega
          gi_wp2
          rw [show (b : Int) = (B : Int) by omega]
          have HB := Lib.hid hB; clear hB
          gi_loopw [59] (fun p wr => ∃ (j : Nat) (v : Value), j ≤ 4 - 1 ∧ p = .int .i64 j ∧ DI w.heap.size A w W2 (fun k => k = w.heap.size + 3 ∨ k = w.heap.size + 4) (decN A l i ++ (grpOut A g).take j) (codN A l (i + 1) : Nat) v wr) (fun i _ => 4 - 1 - (intOf i).toNat)
          case atStart =>
            have hs := HD1.out
            rw [Hbad.out] at hs
            simp only [Bool.false_eq_true, if_false] at hs
            exact ⟨0, v, by omega, rfl, by rw [List.take_zero, List.append_nil]; exact hs⟩
          case round =>
            obtain ⟨j, v', hj, rfl, hdi⟩ := hrel
            by_cases hjn : j < 4 - 1
            · have hpj := Hout.out j (by omega)
              have c1 : wr.cell? ⟨w.heap.size + 1, 0, none⟩ = some v' := cell_of hdi.h1
              have c1a : ∀ o, (wr.alloc o).cell? ⟨w.heap.size + 1, 0, none⟩ = some v' := fun o => ext_cell ((Below.refl _ _).alloc (Nat.le_refl _) o) c1
              have hlen : (decN A l i ++ (grpOut A g).take j).length ≤ 60000 := by rw [List.length_append, List.length_take]; omega
              have HDI := Lib.hid hdi; clear hdi
              obtain rfl | rfl | rfl : j = 0 ∨ j = 1 ∨ j = 2 := by omega
              · first
                | (exfalso; omega)
                | (have hu : Value.int .u8 ((B : Int) / 65536) = Byt (UInt8.ofNat (grpNum A g / 2 ^ (8 * (2 - 0)))) := by
                     simp only [Byt, UInt8.toNat_ofNat']
                     rw [Hnum.out]
                     try congr 1
                     try simp only [Nat.reduceMul, Nat.reduceSub, Nat.reducePow]
                     try omega
                   have HU := Lib.hid hu; clear hu
                   gi_wp2
                   refine wpIn_region_plain (r := some lp) (by kernel_rfl) (by kernel_rfl) ?_
                   simp only [List.size_toArray, List.length_cons, List.length_nil, Nat.reduceAdd, Array.replicate_succ, Array.replicate_zero, List.push_toArray, List.nil_append, List.cons_append]
                   refine wpAny_take (i := 1) (v := ?_) rfl (by kernel_rfl) (by kernel_rfl) (by kernel_rfl) (fun _ _ _ h => h) (Or.inl ⟨by rfl, ?_⟩) ?_
                   rotate_left 1
                   · (intro _; go_simp; (try go_bits); (try with_reducible rfl))
                   refine wpAny_take (i := 2) (v := ?_) rfl (by kernel_rfl) (by kernel_rfl) (by kernel_rfl) (fun _ _ _ h => h) (Or.inl ⟨by rfl, ?_⟩) ?_
                   rotate_left 1
                   · (intro _; go_simp; (try go_bits); (try with_reducible rfl))
                   refine wpAny_take (i := 3) (v := ?_) rfl (by kernel_rfl) (by kernel_rfl) (by kernel_rfl) (fun _ _ _ h => h) (Or.inl ⟨by rfl, ?_⟩) ?_
                   rotate_left 1
                   · (intro _; go_simp; (try go_bits); (try with_reducible rfl))
                   refine wpAny_take (i := 4) (v := ?_) rfl (by kernel_rfl) (by kernel_rfl) (by kernel_rfl) (fun _ _ _ h => h) (Or.inl ⟨by rfl, ?_⟩) ?_
                   rotate_left 1
                   · (intro _; go_simp; (try go_bits); (try with_reducible rfl))
                   refine wpAny_take (i := 5) (v := ?_) rfl (by kernel_rfl) (by kernel_rfl) (by kernel_rfl) (fun _ _ _ h => h) (Or.inl ⟨by rfl, ?_⟩) ?_
                   rotate_left 1
                   · (intro _; go_simp; (try go_bits); (try with_reducible rfl))
                   refine wpAny_take (i := 6) (v := ?_) rfl (by kernel_rfl) (by kernel_rfl) (by kernel_rfl) (fun _ _ _ h => h) (Or.inl ⟨by rfl, ?_⟩) ?_
                   rotate_left 1
                   · (intro _; go_simp; (try go_bits); (try with_reducible rfl))
                   refine wpAny_ready (rs := [0, 7]) (by kernel_rfl) (by simp) ?_
                   refine AllReady.cons rfl (fun K hK => ?_) ?_
                   · skip
                     go_simp
                     try go_bits
                     refine hK _ _ ?_; clear hK K
                     refine wpAny_ready (rs := [7]) (by kernel_rfl) (by simp) ?_
                     refine AllReady.cons rfl (fun K hK => ?_) ?_
                     · skip
                       go_simp
                       try go_bits
                       refine hK _ _ ?_; clear hK K
                       refine wpAny_ready (rs := [8]) (by kernel_rfl) (by simp) ?_
                       refine AllReady.cons rfl (fun K hK => ?_) ?_
                       · (try rw [drew_alloc]; refine step_push (w.heap.size + 5) rfl _ _ 25 5 rfl Tryz.underlying25 infoByte rfl (by omega) HDI.out.drew.row _ rfl (by omega) HDI.out.size rfl rfl ?_; rintro _ w1 ⟨g1, cap1, rfl⟩ hown1 hgr1; rw [HU.out] at hown1; obtain ⟨q1, q2, q3⟩ := HDI.out.drew.push rfl (fun k h => h) hown1 hgr1; clear hown1 hgr1; generalize (decN A l i ++ (grpOut A g).take 0).length + 1 = q at q1 q2 q3 ⊢; have Q3 := Lib.hid q3; clear q3)
                         try go_simp
                         refine hK _ _ ?_; clear hK K
                         refine wpAny_ready (rs := [9]) (by kernel_rfl) (by simp) ?_
                         refine AllReady.cons rfl (fun K hK => ?_) ?_
                         · skip
                           go_simp
                           try go_bits
                           refine hK _ _ ?_; clear hK K
                           refine wpAny_done (by kernel_rfl) ?_ _
                           simp only [onlyN]
                           gi_wp2
                           go_roundw
                           case rel => exact ⟨0 + 1, _, by omega, by go_num, by rw [hpj, ← List.append_assoc]; exact Q3.out⟩
                           case measure => simp [intOf] <;> omega
                         exact AllReady.nil
                       exact AllReady.nil
                     exact AllReady.nil
                   refine AllReady.cons rfl (fun K hK => ?_) ?_
                   · skip
                     go_simp
                     try go_bits
                     refine hK _ _ ?_; clear hK K
                     refine wpAny_ready (rs := [0]) (by kernel_rfl) (by simp) ?_
                     refine AllReady.cons rfl (fun K hK => ?_) ?_
                     · skip
                       go_simp
                       try go_bits
                       refine hK _ _ ?_; clear hK K
                       refine wpAny_ready (rs := [8]) (by kernel_rfl) (by simp) ?_
                       refine AllReady.cons rfl (fun K hK => ?_) ?_
                       · (try rw [drew_alloc]; refine step_push (w.heap.size + 5) rfl _ _ 25 5 rfl Tryz.underlying25 infoByte rfl (by omega) HDI.out.drew.row _ rfl (by omega) HDI.out.size rfl rfl ?_; rintro _ w1 ⟨g1, cap1, rfl⟩ hown1 hgr1; rw [HU.out] at hown1; obtain ⟨q1, q2, q3⟩ := HDI.out.drew.push rfl (fun k h => h) hown1 hgr1; clear hown1 hgr1; generalize (decN A l i ++ (grpOut A g).take 0).length + 1 = q at q1 q2 q3 ⊢; have Q3 := Lib.hid q3; clear q3)
                         try go_simp
                         refine hK _ _ ?_; clear hK K
                         refine wpAny_ready (rs := [9]) (by kernel_rfl) (by simp) ?_
                         refine AllReady.cons rfl (fun K hK => ?_) ?_
                         · skip
                           go_simp
                           try go_bits
                           refine hK _ _ ?_; clear hK K
                           refine wpAny_done (by kernel_rfl) ?_ _
                           simp only [onlyN]
                           gi_wp2
                           go_roundw
                           case rel => exact ⟨0 + 1, _, by omega, by go_num, by rw [hpj, ← List.append_assoc]; exact Q3.out⟩
                           case measure => simp [intOf] <;> omega
                         exact AllReady.nil
                       exact AllReady.nil
                     exact AllReady.nil
                   exact AllReady.nil
                   )
              · first
                | (exfalso; omega)
                | (have hu : Value.int .u8 ((B : Int) / 256 % 256) = Byt (UInt8.ofNat (grpNum A g / 2 ^ (8 * (2 - 1)))) := by
                     simp only [Byt, UInt8.toNat_ofNat']
                     rw [Hnum.out]
                     try congr 1
                     try simp only [Nat.reduceMul, Nat.reduceSub, Nat.reducePow]
                     try omega
                   have HU := Lib.hid hu; clear hu
                   gi_wp2
                   refine wpIn_region_plain (r := some lp) (by kernel_rfl) (by kernel_rfl) ?_
                   simp only [List.size_toArray, List.length_cons, List.length_nil, Nat.reduceAdd, Array.replicate_succ, Array.replicate_zero, List.push_toArray, List.nil_append, List.cons_append]
                   refine wpAny_take (i := 1) (v := ?_) rfl (by kernel_rfl) (by kernel_rfl) (by kernel_rfl) (fun _ _ _ h => h) (Or.inl ⟨by rfl, ?_⟩) ?_
                   rotate_left 1
                   · (intro _; go_simp; (try go_bits); (try with_reducible rfl))
                   refine wpAny_take (i := 2) (v := ?_) rfl (by kernel_rfl) (by kernel_rfl) (by kernel_rfl) (fun _ _ _ h => h) (Or.inl ⟨by rfl, ?_⟩) ?_
                   rotate_left 1
                   · (intro _; go_simp; (try go_bits); (try with_reducible rfl))
                   refine wpAny_take (i := 3) (v := ?_) rfl (by kernel_rfl) (by kernel_rfl) (by kernel_rfl) (fun _ _ _ h => h) (Or.inl ⟨by rfl, ?_⟩) ?_
                   rotate_left 1
                   · (intro _; go_simp; (try go_bits); (try with_reducible rfl))
                   refine wpAny_take (i := 4) (v := ?_) rfl (by kernel_rfl) (by kernel_rfl) (by kernel_rfl) (fun _ _ _ h => h) (Or.inl ⟨by rfl, ?_⟩) ?_
                   rotate_left 1
                   · (intro _; go_simp; (try go_bits); (try with_reducible rfl))
                   refine wpAny_take (i := 5) (v := ?_) rfl (by kernel_rfl) (by kernel_rfl) (by kernel_rfl) (fun _ _ _ h => h) (Or.inl ⟨by rfl, ?_⟩) ?_
                   rotate_left 1
                   · (intro _; go_simp; (try go_bits); (try with_reducible rfl))
                   refine wpAny_take (i := 6) (v := ?_) rfl (by kernel_rfl) (by kernel_rfl) (by kernel_rfl) (fun _ _ _ h => h) (Or.inl ⟨by rfl, ?_⟩) ?_
                   rotate_left 1
                   · (intro _; go_simp; (try go_bits); (try with_reducible rfl))
                   refine wpAny_ready (rs := [0, 7]) (by kernel_rfl) (by simp) ?_
                   refine AllReady.cons rfl (fun K hK => ?_) ?_
                   · skip
                     go_simp
                     try go_bits
                     refine hK _ _ ?_; clear hK K
                     refine wpAny_ready (rs := [7]) (by kernel_rfl) (by simp) ?_
                     refine AllReady.cons rfl (fun K hK => ?_) ?_
                     · skip
                       go_simp
                       try go_bits
                       refine hK _ _ ?_; clear hK K
                       refine wpAny_ready (rs := [8]) (by kernel_rfl) (by simp) ?_
                       refine AllReady.cons rfl (fun K hK => ?_) ?_
                       · (try rw [drew_alloc]; refine step_push (w.heap.size + 5) rfl _ _ 25 5 rfl Tryz.underlying25 infoByte rfl (by omega) HDI.out.drew.row _ rfl (by omega) HDI.out.size rfl rfl ?_; rintro _ w1 ⟨g1, cap1, rfl⟩ hown1 hgr1; rw [HU.out] at hown1; obtain ⟨q1, q2, q3⟩ := HDI.out.drew.push rfl (fun k h => h) hown1 hgr1; clear hown1 hgr1; generalize (decN A l i ++ (grpOut A g).take 1).length + 1 = q at q1 q2 q3 ⊢; have Q3 := Lib.hid q3; clear q3)
                         try go_simp
                         refine hK _ _ ?_; clear hK K
                         refine wpAny_ready (rs := [9]) (by kernel_rfl) (by simp) ?_
                         refine AllReady.cons rfl (fun K hK => ?_) ?_
                         · skip
                           go_simp
                           try go_bits
                           refine hK _ _ ?_; clear hK K
                           refine wpAny_done (by kernel_rfl) ?_ _
                           simp only [onlyN]
                           gi_wp2
                           go_roundw
                           case rel => exact ⟨1 + 1, _, by omega, by go_num, by rw [hpj, ← List.append_assoc]; exact Q3.out⟩
                           case measure => simp [intOf] <;> omega
                         exact AllReady.nil
                       exact AllReady.nil
                     exact AllReady.nil
                   refine AllReady.cons rfl (fun K hK => ?_) ?_
                   · skip
                     go_simp
                     try go_bits
                     refine hK _ _ ?_; clear hK K
                     refine wpAny_ready (rs := [0]) (by kernel_rfl) (by simp) ?_
                     refine AllReady.cons rfl (fun K hK => ?_) ?_
                     · skip
                       go_simp
                       try go_bits
                       refine hK _ _ ?_; clear hK K
                       refine wpAny_ready (rs := [8]) (by kernel_rfl) (by simp) ?_
                       refine AllReady.cons rfl (fun K hK => ?_) ?_
                       · (try rw [drew_alloc]; refine step_push (w.heap.size + 5) rfl _ _ 25 5 rfl Tryz.underlying25 infoByte rfl (by omega) HDI.out.drew.row _ rfl (by omega) HDI.out.size rfl rfl ?_; rintro _ w1 ⟨g1, cap1, rfl⟩ hown1 hgr1; rw [HU.out] at hown1; obtain ⟨q1, q2, q3⟩ := HDI.out.drew.push rfl (fun k h => h) hown1 hgr1; clear hown1 hgr1; generalize (decN A l i ++ (grpOut A g).take 1).length + 1 = q at q1 q2 q3 ⊢; have Q3 := Lib.hid q3; clear q3)
                         try go_simp
                         refine hK _ _ ?_; clear hK K
                         refine wpAny_ready (rs := [9]) (by kernel_rfl) (by simp) ?_
                         refine AllReady.cons rfl (fun K hK => ?_) ?_
                         · skip
                           go_simp
                           try go_bits
                           refine hK _ _ ?_; clear hK K
                           refine wpAny_done (by kernel_rfl) ?_ _
                           simp only [onlyN]
                           gi_wp2
                           go_roundw
                           case rel => exact ⟨1 + 1, _, by omega, by go_num, by rw [hpj, ← List.append_assoc]; exact Q3.out⟩
                           case measure => simp [intOf] <;> omega
                         exact AllReady.nil
                       exact AllReady.nil
                     exact AllReady.nil
                   exact AllReady.nil
                   )
              · first
                | (exfalso; omega)
                | (have hu : Value.int .u8 ((B : Int) % 256) = Byt (UInt8.ofNat (grpNum A g / 2 ^ (8 * (2 - 2)))) := by
                     simp only [Byt, UInt8.toNat_ofNat']
                     rw [Hnum.out]
                     try congr 1
                     try simp only [Nat.reduceMul, Nat.reduceSub, Nat.reducePow]
                     try omega
                   have HU := Lib.hid hu; clear hu
                   gi_wp2
                   refine wpIn_region_plain (r := some lp) (by kernel_rfl) (by kernel_rfl) ?_
                   simp only [List.size_toArray, List.length_cons, List.length_nil, Nat.reduceAdd, Array.replicate_succ, Array.replicate_zero, List.push_toArray, List.nil_append, List.cons_append]
                   refine wpAny_take (i := 1) (v := ?_) rfl (by kernel_rfl) (by kernel_rfl) (by kernel_rfl) (fun _ _ _ h => h) (Or.inl ⟨by rfl, ?_⟩) ?_
                   rotate_left 1
                   · (intro _; go_simp; (try go_bits); (try with_reducible rfl))
                   refine wpAny_take (i := 2) (v := ?_) rfl (by kernel_rfl) (by kernel_rfl) (by kernel_rfl) (fun _ _ _ h => h) (Or.inl ⟨by rfl, ?_⟩) ?_
                   rotate_left 1
                   · (intro _; go_simp; (try go_bits); (try with_reducible rfl))
                   refine wpAny_take (i := 3) (v := ?_) rfl (by kernel_rfl) (by kernel_rfl) (by kernel_rfl) (fun _ _ _ h => h) (Or.inl ⟨by rfl, ?_⟩) ?_
                   rotate_left 1
                   · (intro _; go_simp; (try go_bits); (try with_reducible rfl))
                   refine wpAny_take (i := 4) (v := ?_) rfl (by kernel_rfl) (by kernel_rfl) (by kernel_rfl) (fun _ _ _ h => h) (Or.inl ⟨by rfl, ?_⟩) ?_
                   rotate_left 1
                   · (intro _; go_simp; (try go_bits); (try with_reducible rfl))
                   refine wpAny_take (i := 5) (v := ?_) rfl (by kernel_rfl) (by kernel_rfl) (by kernel_rfl) (fun _ _ _ h => h) (Or.inl ⟨by rfl, ?_⟩) ?_
                   rotate_left 1
                   · (intro _; go_simp; (try go_bits); (try with_reducible rfl))
                   refine wpAny_take (i := 6) (v := ?_) rfl (by kernel_rfl) (by kernel_rfl) (by kernel_rfl) (fun _ _ _ h => h) (Or.inl ⟨by rfl, ?_⟩) ?_
                   rotate_left 1
                   · (intro _; go_simp; (try go_bits); (try with_reducible rfl))
                   refine wpAny_ready (rs := [0, 7]) (by kernel_rfl) (by simp) ?_
                   refine AllReady.cons rfl (fun K hK => ?_) ?_
                   · skip
                     go_simp
                     try go_bits
                     refine hK _ _ ?_; clear hK K
                     refine wpAny_ready (rs := [7]) (by kernel_rfl) (by simp) ?_
                     refine AllReady.cons rfl (fun K hK => ?_) ?_
                     · skip
                       go_simp
                       try go_bits
                       refine hK _ _ ?_; clear hK K
                       refine wpAny_ready (rs := [8]) (by kernel_rfl) (by simp) ?_
                       refine AllReady.cons rfl (fun K hK => ?_) ?_
                       · (try rw [drew_alloc]; refine step_push (w.heap.size + 5) rfl _ _ 25 5 rfl Tryz.underlying25 infoByte rfl (by omega) HDI.out.drew.row _ rfl (by omega) HDI.out.size rfl rfl ?_; rintro _ w1 ⟨g1, cap1, rfl⟩ hown1 hgr1; rw [HU.out] at hown1; obtain ⟨q1, q2, q3⟩ := HDI.out.drew.push rfl (fun k h => h) hown1 hgr1; clear hown1 hgr1; generalize (decN A l i ++ (grpOut A g).take 2).length + 1 = q at q1 q2 q3 ⊢; have Q3 := Lib.hid q3; clear q3)
                         try go_simp
                         refine hK _ _ ?_; clear hK K
                         refine wpAny_ready (rs := [9]) (by kernel_rfl) (by simp) ?_
                         refine AllReady.cons rfl (fun K hK => ?_) ?_
                         · skip
                           go_simp
                           try go_bits
                           refine hK _ _ ?_; clear hK K
                           refine wpAny_done (by kernel_rfl) ?_ _
                           simp only [onlyN]
                           gi_wp2
                           go_roundw
                           case rel => exact ⟨2 + 1, _, by omega, by go_num, by rw [hpj, ← List.append_assoc]; exact Q3.out⟩
                           case measure => simp [intOf] <;> omega
                         exact AllReady.nil
                       exact AllReady.nil
                     exact AllReady.nil
                   refine AllReady.cons rfl (fun K hK => ?_) ?_
                   · skip
                     go_simp
                     try go_bits
                     refine hK _ _ ?_; clear hK K
                     refine wpAny_ready (rs := [0]) (by kernel_rfl) (by simp) ?_
                     refine AllReady.cons rfl (fun K hK => ?_) ?_
                     · skip
                       go_simp
                       try go_bits
                       refine hK _ _ ?_; clear hK K
                       refine wpAny_ready (rs := [8]) (by kernel_rfl) (by simp) ?_
                       refine AllReady.cons rfl (fun K hK => ?_) ?_
                       · (try rw [drew_alloc]; refine step_push (w.heap.size + 5) rfl _ _ 25 5 rfl Tryz.underlying25 infoByte rfl (by omega) HDI.out.drew.row _ rfl (by omega) HDI.out.size rfl rfl ?_; rintro _ w1 ⟨g1, cap1, rfl⟩ hown1 hgr1; rw [HU.out] at hown1; obtain ⟨q1, q2, q3⟩ := HDI.out.drew.push rfl (fun k h => h) hown1 hgr1; clear hown1 hgr1; generalize (decN A l i ++ (grpOut A g).take 2).length + 1 = q at q1 q2 q3 ⊢; have Q3 := Lib.hid q3; clear q3)
                         try go_simp
                         refine hK _ _ ?_; clear hK K
                         refine wpAny_ready (rs := [9]) (by kernel_rfl) (by simp) ?_
                         refine AllReady.cons rfl (fun K hK => ?_) ?_
                         · skip
                           go_simp
                           try go_bits
                           refine hK _ _ ?_; clear hK K
                           refine wpAny_done (by kernel_rfl) ?_ _
                           simp only [onlyN]
                           gi_wp2
                           go_roundw
                           case rel => exact ⟨2 + 1, _, by omega, by go_num, by rw [hpj, ← List.append_assoc]; exact Q3.out⟩
                           case measure => simp [intOf] <;> omega
                         exact AllReady.nil
                       exact AllReady.nil
                     exact AllReady.nil
                   exact AllReady.nil
                   )
            · obtain rfl : j = 4 - 1 := by omega
              rw [Hall.out, ← hdn.out] at hdi
              have HDI := Lib.hid hdi; clear hdi
              gi_wp2
              exact ⟨hsz0 ▸ HDI.out.kp, HDI.out.h0, ⟨_, HDI.out.h1, HDI.out.row⟩, HDI.out.h2, hok1, HDI.out.bel, HDI.out.size⟩
  · rintro D W hD ⟨h0, ⟨v, h1, hown⟩, h2, hok, hbel, hsz⟩ hdef
    have c1 : W.cell? ⟨w.heap.size + 1, 0, none⟩ = some v := by simp [World.cell?, h1]
    have c2 : W.cell? ⟨w.heap.size + 2, 0, none⟩ = some (.int .i64 (codN A l ((l.length + 3) / 4) : Nat)) := by simp [World.cell?, h2]
    have hres := Lib.hid (show decR A l = _ from if_pos hok)
    by_cases hc : codN A l ((l.length + 3) / 4) = 0
    · rw [if_pos hc] at hres
      rw [hc] at c2
      clear hc h2 h1 h0
      have Hb := Lib.hid (below_mark hbel (by omega) hdef); clear hbel
      go_wp2
      refine marks_ret hdef (results_tmp2 rfl _ _) ⟨v, by rw [hres.out]; rfl, ?_, Hb.out⟩
      rw [hres.out]
      exact own_base (own_put hown hdef) (by omega)
    · rw [if_neg hc] at hres
      have hcp : 0 < codN A l ((l.length + 3) / 4) := by omega
      have hcb : (((codN A l ((l.length + 3) / 4) : Nat) : Int) != 0) = true := by simp; omega
      clear hc h2 h1 h0
      have Hb := Lib.hid hbel; clear hbel
      go_wp2
      refine wp_region_quiet_lit (by kernel_rfl) (by kernel_rfl) ?_
      repeat (first
        | go_big_quiet_skip
        | (go_big_quiet_want; go_big_quiet_op; (try go_bits); first | go_big_quiet_on | go_big_quiet_call (fail)))
      refine wpQuiet_nil ?_
      intro _ hw'
      obtain ⟨nq, hw''⟩ := hw'
      subst hw''
      go_wp2
      refine marks_ret (D := D) hdef (results_tmp2 rfl _ _) ⟨.slice none 0 0, by rw [hres.out]; rfl, ?_, below_mark (Below.drewN Hb.out nq) (by omega) hdef⟩
      rw [hres.out]
      exact World.ownsRow_nil _ _ _ _
  · rintro D c i W hD hi ⟨rfl, hok, h2, hbel, hsz⟩ hdef
    have c2 : W.cell? ⟨w.heap.size + 2, 0, none⟩ = some (.int .i64 5) := by simp [World.cell?, h2]
    have hokf : okN A l ((l.length + 3) / 4) = false := okN_false hi hok
    have hres := Lib.hid (show decR A l = _ from if_neg (by rw [hokf]; simp))
    have Hb := Lib.hid hbel; clear hbel h2 hok hokf
    refine wpIn_wide.2 ?_
    go_wp2
    refine wp_region_quiet_lit (by kernel_rfl) (by kernel_rfl) ?_
    repeat (first
      | go_big_quiet_skip
      | (go_big_quiet_want; go_big_quiet_op; (try go_bits); first | go_big_quiet_on | go_big_quiet_call (fail)))
    refine wpQuiet_nil ?_
    intro _ hw'
    obtain ⟨nq, hw''⟩ := hw'
    subst hw''
    go_wp2
    refine marks_ret (D := D) hdef (results_tmp2 rfl _ _) ⟨.slice none 0 0, by rw [hres.out]; rfl, ?_, below_mark (Below.drewN Hb.out nq) (by omega) hdef⟩
    rw [hres.out]
    exact World.ownsRow_nil _ _ _ _
end Go.Proofs.YteickmohloglhaaGreatDoor
