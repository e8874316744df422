/-
  b64.Unhex.
-/
import Derived.Test.YtpndahmlbjhdfaaDoorRows
import Derived.Test.YtpndahmlbjhdfaaDoorDec
import Derived.Test.YtpndahmlbjhdfaaDoorIdx
import Derived.Test.YtpndahmlbjhdfaaDoorHexr
import Derived.Shelf.Abstract
namespace Go.Proofs.YtpndahmlbjhdfaaDoor
open Go.RowKit Go.Shelf
attribute [local go_sem] Oper.semAt_some
set_option maxRecDepth 100000
set_option linter.unusedVariables false
set_option linter.unusedSimpArgs false

theorem agg22 : ∀ w, (isAgg 45).run Tryd.prog w = .ok false w := fun w => by simp [isAgg, run_underlying Tryd.underlying45, Result.andThen]
theorem agg36 : ∀ w, (isAgg 51).run Tryd.prog w = .ok false w := fun w => by simp [isAgg, run_underlying Tryd.underlying51, Result.andThen]

def hexI (c : UInt8) : Int := Lib.indexByte hexd c
theorem hexI_all : ∀ n, n < 256 → -1 ≤ Lib.indexByte hexd (UInt8.ofNat n) ∧ Lib.indexByte hexd (UInt8.ofNat n) ≤ 15 := by decide +kernel
theorem hexI_range (c : UInt8) : -1 ≤ hexI c ∧ hexI c ≤ 15 := by
  have h := hexI_all c.toNat c.toNat_lt
  rwa [UInt8.ofNat_toNat] at h
def grpH (g : List UInt8) : Bool := g.all fun c => hexI c != -1
def numH (g : List UInt8) : Nat := g.foldl (fun b c => b * 16 + (hexI c).toNat) 0
def pc (l : List UInt8) (i : Nat) : List UInt8 := (l.drop (2 * i)).take 2
def unhN (l : List UInt8) (i : Nat) : List UInt8 := (List.range i).map fun j => UInt8.ofNat (numH (pc l j))
def okH (l : List UInt8) (i : Nat) : Bool := (List.range i).all fun j => grpH (pc l j)
/-- What Unhex answers. -/
def unhR (l : List UInt8) : List UInt8 × Nat :=
  if l.length % 2 = 0 then (if okH l ((l.length + 1) / 2) then (unhN l ((l.length + 1) / 2), 0) else ([], 5)) else ([], 2)
theorem unhN_succ (l : List UInt8) (i : Nat) : unhN l (i + 1) = unhN l i ++ [UInt8.ofNat (numH (pc l i))] := by simp [unhN, List.range_succ]
theorem okH_succ (l : List UInt8) (i : Nat) : okH l (i + 1) = (okH l i && grpH (pc l i)) := by simp [okH, List.range_succ]
theorem okH_false {l : List UInt8} {i n : Nat} (hi : i < n) (h : okH l (i + 1) = false) : okH l n = false := by
  cases hn : okH l n with
  | false => rfl
  | true =>
    rw [← h]
    simp only [okH, List.all_eq_true, List.mem_range] at hn
    exact (List.all_eq_true.2 fun j hj => hn j (by have := List.mem_range.1 hj; omega)).symm
theorem numH_snoc (g : List UInt8) (c : UInt8) : numH (g ++ [c]) = numH g * 16 + (hexI c).toNat := by simp [numH]
theorem numH_lt : ∀ g : List UInt8, numH g < 16 ^ g.length := by
  refine list_snoc_ind (by simp [numH]) fun g c ih => ?_
  have := hexI_range c
  rw [numH_snoc, List.length_append, List.length_singleton, Nat.pow_succ]
  omega

/-- What the round keeps: the boxes at s, s + 1 (the results), s + 2 (the bytes). -/
structure DH (s : Nat) (w W2 : World) (own : Nat → Prop) (out : List UInt8) (v : Value) (W : World) : Prop where
  h0 : W.heap[s]? = some (.cells #[.slice none 0 0] 45 (0, 0))
  h1 : W.heap[s + 1]? = some (.cells #[.int .i64 0] 51 (0, 0))
  h2 : W.heap[s + 2]? = some (.cells #[v] 45 (0, 0))
  row : W.ownsRow (s + 5) 5 1 v out.length (out.map Byt)
  bel : Below s w W
  kp : Kp (s + 5) own W2 W
  size : s + 5 ≤ W.heap.size
theorem DH.push {s : Nat} {w W2 : World} {own : Nat → Prop} {out : List UInt8} {v : Value} {W : World} (h : DH s w W2 own out v W) (hs : s = w.heap.size) (ho : ∀ k, own k → k = s + 3 ∨ k = s + 4) {y : UInt8} {v' : Value} {w1 : World}
    (hown : w1.ownsRow (s + 5) 5 1 v' (out.length + 1) (out.map Byt ++ [Byt y])) (hg : W.grownBy w1 v.ownBlock) :
    w1.cell? ⟨s + 2, 0, none⟩ = some v ∧ w1.frozen? ⟨s + 2, 0, none⟩ = false ∧ DH s w W2 own (out ++ [y]) v' (w1.setCell ⟨s + 2, 0, none⟩ v') := by
  have hsz := h.size
  have hrow : ∀ k, v.ownBlock = some k → s + 5 ≤ k := fun k hk => (h.row.lt k hk).1
  have hlow : ∀ k, k < s + 5 → w1.heap[k]? = W.heap[k]? := fun k hk => hg.block k (by omega) (fun e => by have := hrow k e.symm; omega)
  have e1 := (hlow (s + 2) (by omega)).trans h.h2
  have hc := Chg.setCell w1 ⟨s + 2, 0, none⟩ v'
  refine ⟨cell_of e1, frozen_of e1, ⟨(hc.block s (by have := hg.size; omega) (by simp)).trans ((hlow s (by omega)).trans h.h0), (hc.block (s + 1) (by have := hg.size; omega) (by simp)).trans ((hlow (s + 1) (by omega)).trans h.h1), one_setCell e1, ?_, ?_, ?_, ?_⟩⟩
  · rw [List.length_append, List.map_append]
    exact own_keep hown fun g _ hg' hk => hc.block g (kind_lt hk) (by simp; omega)
  · exact below_chg (h.bel.grown hg (by have := h.bel.size; omega) (fun k hk => by have := hrow k hk; omega)) hc (by simp; try omega) (by omega)
  · refine h.kp.trans ((Kp.of_grown hg (fun k hk => ⟨by have := ho k hk; omega, fun e => by have := hrow k e; have := ho k hk; omega⟩) (fun k hk => ?_)).trans (Kp.of_chg hc (fun k hk => ?_) (fun k hk hB => ?_)))
    · rcases h.row.2 with ⟨hn, _⟩ | ⟨g, cap, cur, hv, _, hgg, _⟩
      · rw [hn] at hk; simp [Value.ownBlock] at hk
      · rw [hv] at hk; simp [Value.ownBlock] at hk; subst hk; exact ⟨_, kind_of_cells hgg⟩
    · have := ho k hk; have := hg.size; simp; omega
    · simp at hk; omega
  · have := hg.size; have := hc.size; omega
theorem own_form'' {w : World} {base e : Nat} {v : Value} {n : Nat} {l : List UInt8} (h : w.ownsRow base e 1 v n (l.map Byt)) : ∃ ao cap, v = .slice ao l.length cap ∧ l.length ≤ cap ∧ (ao = none → cap = 0) := by
  obtain ⟨ao, cap, hv, h1, _, h3, _⟩ := sl_of_own h
  rw [List.length_map] at hv h1
  exact ⟨ao, cap, hv, h1, h3⟩
theorem set2 {W : World} {s : Nat} {a b u0 u1 : Value} {t0 t1 : TypeId} (h0 : W.heap[s]? = some (.cells #[a] t0 (0, 0))) (h1 : W.heap[s + 1]? = some (.cells #[b] t1 (0, 0))) :
    ((W.setCell ⟨s, 0, none⟩ u0).setCell ⟨s + 1, 0, none⟩ u1).heap[s]? = some (.cells #[u0] t0 (0, 0)) ∧ ((W.setCell ⟨s, 0, none⟩ u0).setCell ⟨s + 1, 0, none⟩ u1).heap[s + 1]? = some (.cells #[u1] t1 (0, 0)) ∧
      Chg (fun k => k = s ∨ k = s + 1) W ((W.setCell ⟨s, 0, none⟩ u0).setCell ⟨s + 1, 0, none⟩ u1) := by
  refine ⟨?_, one_setCell (by rw [Below.heap_setCell _ _ _ _ (by simp)]; exact h1), ((Chg.setCell W ⟨s, 0, none⟩ u0).mono fun k h => .inl h).trans ((Chg.setCell _ ⟨s + 1, 0, none⟩ u1).mono fun k h => .inr h)⟩
  rw [Below.heap_setCell _ _ _ _ (by simp)]
  exact one_setCell h0
set_option maxHeartbeats 2000000 in
theorem unhex_any (l : List UInt8) (w : World) (hl : l.length ≤ 10000) :
    Calls Tryd.prog 57 #[Str l] w fun e w' => ∃ v, e = .returned (.tuple #[v, .int .i64 ((unhR l).2 : Int)]) ∧ w'.ownsRow w.heap.size 5 1 v (unhR l).1.length ((unhR l).1.map Byt) ∧ Ext w w' := by
  have hf := Lib.hid (show unhR l = if l.length % 2 = 0 then (if okH l ((l.length + 1) / 2) then (unhN l ((l.length + 1) / 2), 0) else ([], 5)) else ([], 2) from rfl)
  refine (callsIn_wide (n := 5)).1 (callsIn_of_wp_marks Tryd.func57 rfl trivial (wpIn_wide.2 ?_) rfl)
  simp only [Tryd.ntmps57, List.size_toArray, List.length_cons, List.length_nil, Nat.reduceAdd, Nat.reduceSub, Array.replicate_succ, Array.replicate_zero, List.push_toArray, List.append_toArray, List.nil_append, List.cons_append]
  by_cases hev : l.length % 2 = 0
  · rw [if_pos hev] at hf
    go_wp2_with (go_at_call 78; refine (groups_any _ _ _).mono ?_; rintro e w' ⟨rfl, rfl⟩)
    obtain ⟨W0, hW0⟩ : ∃ W0, ((((w.alloc (.cells #[.slice none 0 0] 45)).alloc (.cells #[.int .i64 0] 51)).alloc (.cells #[.slice none 0 0] 45)).alloc (.cells #[Str l] 9)).alloc (.cells #[.int .i64 2] 3) = W0 := ⟨_, rfl⟩
    have hW0' : W0 = allocs w [.cells #[.slice none 0 0] 45, .cells #[.int .i64 0] 51, .cells #[.slice none 0 0] 45, .cells #[Str l] 9, .cells #[.int .i64 2] 3] := hW0.symm
    have b0 : W0.heap[w.heap.size]? = some (.cells #[.slice none 0 0] 45 (0, 0)) := by rw [hW0']; exact allocs_at w _ 0 _ rfl
    have b1 : W0.heap[w.heap.size + 1]? = some (.cells #[.int .i64 0] 51 (0, 0)) := by rw [hW0']; exact allocs_at w _ 1 _ rfl
    have b2 : W0.heap[w.heap.size + 2]? = some (.cells #[.slice none 0 0] 45 (0, 0)) := by rw [hW0']; exact allocs_at w _ 2 _ rfl
    have b3 : W0.heap[w.heap.size + 3]? = some (.cells #[Str l] 9 (0, 0)) := by rw [hW0']; exact allocs_at w _ 3 _ rfl
    have b4 : W0.heap[w.heap.size + 4]? = some (.cells #[.int .i64 2] 3 (0, 0)) := by rw [hW0']; exact allocs_at w _ 4 _ rfl
    have hext0 : Ext w W0 := by rw [hW0']; exact allocs_ext _ _
    have hsz0 : W0.heap.size = w.heap.size + 5 := by rw [hW0']; exact allocs_size _ _
    rw [hW0]
    clear hW0 hW0'
    have hit := groups_iter l 2 (by omega) (w.heap.size + 3) (w.heap.size + 4) W0 b3 b4
    rw [show gsz 2 l.length = 2 from rfl, show gcnt 2 l.length = (l.length + 1) / 2 from rfl] at hit
    refine wpIn_wide.1 (wpIn_range (n := 5) (P := Tryd.prog) rfl (enters_of Tryd.func99 (by kernel_rfl) rfl) hit (fun k h => by omega) (fun k h => by omega) (fun _ => rfl)
      (fun i W => okH l i = true ∧ ∃ v, W.heap[w.heap.size]? = some (.cells #[.slice none 0 0] 45 (0, 0)) ∧ W.heap[w.heap.size + 1]? = some (.cells #[.int .i64 0] 51 (0, 0)) ∧
        W.heap[w.heap.size + 2]? = some (.cells #[v] 45 (0, 0)) ∧ W.ownsRow (w.heap.size + 5) 5 1 v (unhN l i).length ((unhN l i).map Byt) ∧ Below w.heap.size w W ∧ w.heap.size + 5 ≤ W.heap.size)
      (fun c i W => c = .ret ∧ okH l (i + 1) = false ∧ W.heap[w.heap.size]? = some (.cells #[.slice none 0 0] 45 (0, 0)) ∧
        W.heap[w.heap.size + 1]? = some (.cells #[.int .i64 5] 51 (0, 0)) ∧ Below w.heap.size w W ∧ w.heap.size + 5 ≤ W.heap.size) ?_ ?_
      ⟨rfl, _, b0, b1, b2, World.ownsRow_nil _ _ _ _, hext0, by omega⟩ ?_ ?_ ?_)
    · rintro i A' C ⟨hok, v, h0, h1, h2, hown, hbel, hsz⟩ hm
      exact ⟨hok, v, hm.keeps h0 (by omega) (by omega), hm.keeps h1 (by omega) (by omega), hm.keeps h2 (by omega) (by omega), own_mv hown hm (fun k hk => by omega), hm.below hbel (fun k hk => by omega) (by omega) (Nat.le_refl _), Nat.le_trans hsz hm.size⟩
    · rintro c i A' C ⟨hc, hok, h0, h1, hbel, hsz⟩ hm
      exact ⟨hc, hok, hm.keeps h0 (by omega) (by omega), hm.keeps h1 (by omega) (by omega), hm.below hbel (fun k hk => by omega) (by omega) (Nat.le_refl _), Nat.le_trans hsz hm.size⟩
    · rintro m lp i W hi ⟨hok, v, h0, h1, h2, hown, hbel, hsz⟩ hlp hrec
      gi_wp2
      refine ⟨Kp.refl _ _ _, fun W2 hm2 hrec2 => ?_⟩
      replace h0 := hm2.keeps h0 (fun h => h) (by omega)
      replace h1 := hm2.keeps h1 (fun h => h) (by omega)
      replace h2 := hm2.keeps h2 (fun h => h) (by omega)
      replace hown := own_mv hown hm2 (fun k hk => hk.elim)
      replace hbel := hm2.below hbel (fun k hk => hk.elim) (by omega) (Nat.le_refl _)
      replace hsz := Nat.le_trans hsz hm2.size
      clear hm2 hrec hrec2
      have hdn := Lib.hid (unhN_succ l i); have hkn := Lib.hid (okH_succ l i)
      have hg2 : (pc l i).length = 2 := by simp [pc]; omega
      have hdl : (unhN l i).length ≤ 10000 := by simp [unhN]; omega
      rw [show (l.drop (2 * i)).take 2 = pc l i from rfl]
      generalize pc l i = g at *
      obtain ⟨capb, Wb, hconv, hextb, hslb⟩ := bytes_of_str (P := Tryd.prog) W2 9 45 5 g (by unfold maxLen; omega) Tryd.underlying9 Tryd.underlying45 Tryd.underlying5
      gi_wp2
      have hck : ∀ k, k < g.length → Wb.cell? (adr (some ⟨W2.heap.size, 0, none⟩) k) = some (Byt (bt g k)) := by
        obtain ⟨ao, cap, hve, hcap, hmax, hnil, hcell⟩ := hslb
        simp only [List.length_map] at hve; cases hve
        exact fun k hk => hcell k _ (byt_map g k hk)
      have hcapb : g.length ≤ capb := by
        obtain ⟨ao, cap, hve, hcap, hmax, hnil, hcell⟩ := hslb
        simp only [List.length_map] at hve hcap; cases hve
        exact hcap
      have HC := Lib.hid hck; clear hck hslb
      have hix := run_index_adr (P := Tryd.prog) Tryd.underlying45 Tryd.sizeOf5 (ao := some ⟨W2.heap.size, 0, none⟩) (by simp) hcapb
      rw [hg2] at hix hcapb
      have hszb := hextb.size
      have e0 := (hextb.block _ (by omega)).trans h0
      have e1 := (hextb.block _ (by omega)).trans h1
      have e2 := (hextb.block _ (by omega)).trans h2
      have D0 : DH w.heap.size w W2 (fun k => k = w.heap.size + 3 ∨ k = w.heap.size + 4) (unhN l i) v Wb := ⟨e0, e1, e2, own_ext hown hextb, hbel.trans (hextb.mono (show w.heap.size ≤ W2.heap.size by omega)), Kp.of_ext hextb (fun k hk => by omega), by omega⟩
      have hc0 := cell_of e0; have hf0 := frozen_of e0
      have hc1 := cell_of e1; have hf1 := frozen_of e1
      clear h0 h1 hown h2 hbel hextb e0 e1 e2
      have HD0 := Lib.hid D0; clear D0
      gi_loop [6, 20] (fun b i => ∃ k : Nat, k ≤ 2 ∧ i = .int .i64 k ∧ b = .int .i64 (numH (g.take k) : Nat) ∧ grpH (g.take k) = true) (fun _ i => 2 - (intOf i).toNat)
      case atStart => exact ⟨0, by omega, rfl, rfl, rfl⟩
      case round =>
        obtain ⟨k, hk, rfl, rfl, hgo⟩ := hrel
        by_cases h3 : k < 2
        · have h3' : k < g.length := by omega
          have hlt : numH (g.take k) < 256 := Nat.lt_of_lt_of_le (numH_lt _) (Nat.pow_le_pow_right (n := 16) (by omega) (show (g.take k).length ≤ 2 by simp; omega))
          have Hb := Lib.hid (numH_snoc (g.take k) (bt g k)); rw [← take_snoc g k h3'] at Hb
          have Hok := Lib.hid (show grpH (g.take k ++ [bt g k]) = (hexI (bt g k) != -1) by simp only [grpH, List.all_append] at hgo ⊢; rw [hgo]; simp); rw [← take_snoc g k h3'] at Hok
          have Hmono := Lib.hid (show grpH (g.take (k + 1)) = false → grpH g = false by
            intro h; cases hg : grpH g with
            | false => rfl
            | true =>
              rw [← h]; simp only [grpH, List.all_eq_true] at hg ⊢
              exact (List.all_eq_true.2 fun x hx => hg x (List.mem_of_mem_take hx)).symm)
          have hcb := HC.out k h3'
          have Hv := Lib.hid (fun W => indexb_any hexd (bt g k) W)
          rw [show Lib.indexByte hexd (bt g k) = hexI (bt g k) from rfl] at Hv
          have hv := hexI_range (bt g k)
          have hbt := (bt g k).toNat_lt
          generalize numH (g.take k) = b at *
          generalize bt g k = c at *
          clear hgo
          generalize hexI c = v0 at *
          rcases (show v0 = -1 ∨ 0 ≤ v0 by omega) with hneg | hpos
          · subst hneg
            have hf2 := Hmono.out (by rw [Hok.out]; rfl)
            gi_wp2_with (refine ⟨trivial, fun h => by simp [Fence.wide] at h, ?_⟩; gi_at_call 79; refine (CallsIn.inRound lp (callsIn_wide.2 (Hv.out _))).mono ?_; rintro e W3 ⟨rfl, rfl⟩)
            obtain ⟨g0, g1, gc⟩ := set2 (u0 := .slice none 0 0) (u1 := .int .i64 5) HD0.out.h0 HD0.out.h1
            refine ⟨?_, rfl, by rw [hkn.out, hok, hf2]; rfl, g0, g1, below_chg HD0.out.bel gc (fun k hk => by omega) (Nat.le_refl _), Nat.le_trans HD0.out.size gc.size⟩
            rw [hsz0]
            exact HD0.out.kp.trans (Kp.of_chg gc (fun k hk => ⟨by have := HD0.out.size; omega, by omega⟩) (fun k hk hB => by omega))
          · obtain ⟨x, rfl⟩ := Int.eq_ofNat_of_zero_le hpos
            have hor := or_num 4 16 16 b x rfl rfl (by omega) (by omega)
            gi_wp2_with (refine ⟨trivial, fun h => by simp [Fence.wide] at h, ?_⟩; gi_at_call 79; refine (CallsIn.inRound lp (callsIn_wide.2 (Hv.out _))).mono ?_; rintro e W3 ⟨rfl, rfl⟩)
            go_round
            case rel => exact ⟨k + 1, by omega, by go_num, by rw [Hb.out]; go_num, by rw [Hok.out]; simp⟩
            case measure => simp [intOf] <;> omega
        · obtain rfl : k = 2 := by omega
          rw [List.take_of_length_le (by omega)] at hgo ⊢
          have hnl : numH g < 256 := by have := numH_lt g; rw [hg2] at this; exact this
          have hok1 : okH l (i + 1) = true := by rw [hkn.out, hok, hgo]; rfl
          have hc2 := cell_of HD0.out.h2
          clear h3 hk hgo
          generalize numH g = b at *
          have hu : Value.int .u8 (b : Int) = Byt (UInt8.ofNat b) := by simp only [Byt, UInt8.toNat_ofNat']; congr 1; omega
          have HU := Lib.hid hu; clear hu
          gi_wp2_with (gi_at_builtin; refine wpListIn_push (w.heap.size + 5) rfl _ _ 45 5 rfl Tryd.underlying45 infoByte rfl (by omega) HD0.out.row _ rfl (by omega) HD0.out.size rfl rfl ?_; rintro _ w1 ⟨g1, cap1, rfl⟩ hown1 hgr1; rw [HU.out] at hown1; obtain ⟨q1, q2, q3⟩ := HD0.out.push rfl (fun k h => h) hown1 hgr1; clear hown1 hgr1; have Q3 := Lib.hid q3; clear q3)
          exact ⟨Q3.out.kp, hok1, Q3.out.h0, Q3.out.h1, _, Q3.out.h2, by rw [hdn.out]; exact Q3.out.row, Q3.out.bel, Q3.out.size⟩
    · rintro D W hD ⟨hok, v, h0, h1, h2, hown, hbel, hsz⟩ hdef
      have hc0 := cell_of h0; have hf0 := frozen_of h0
      have hc1 := cell_of h1; have hf1 := frozen_of h1
      have hc2 := cell_of h2
      rw [if_pos hok] at hf
      obtain ⟨ao, cap, hve, _, _⟩ := own_form'' hown
      have Hown := Lib.hid hown; clear hown
      subst hve
      go_wp2
      obtain ⟨g0, g1, gc⟩ := set2 (u0 := .slice ao (unhN l ((l.length + 1) / 2)).length cap) (u1 := .int .i64 0) h0 h1
      have hne : ∀ k, k ≤ w.heap.size + 1 → k ≠ D := fun k hk => by omega
      have hdef2 := (gc.block D (Array.getElem?_eq_some_iff.1 hdef).1 (by omega)).trans hdef
      refine marks_ret_at hdef2 (results_cells rfl _ _ _ rfl rfl agg22 agg36 (cell_of ((World.putObj_heap_other (hne _ (by omega))).trans g0)) (cell_of ((World.putObj_heap_other (hne _ (by omega))).trans g1))) ⟨_, by rw [hf.out]; rfl, ?_, below_mark (below_chg hbel gc (fun k hk => by omega) (Nat.le_refl _)) (by omega) hdef2⟩
      rw [hf.out]
      refine own_base (own_put ?_ hdef2) (show w.heap.size ≤ w.heap.size + 5 by omega)
      exact own_keep Hown.out fun g _ hg hk => gc.block g (kind_lt hk) (by omega)
    · rintro D c i W hD hi ⟨rfl, hok, h0, h1, hbel, hsz⟩ hdef
      rw [if_neg (by rw [okH_false hi hok]; simp)] at hf
      refine wpIn_wide.2 ?_
      go_wp2
      have hne : ∀ k, k ≤ w.heap.size + 1 → k ≠ D := fun k hk => by omega
      refine marks_ret_at (D := D) hdef (results_cells rfl _ _ _ rfl rfl agg22 agg36 (cell_of ((World.putObj_heap_other (hne _ (by omega))).trans h0)) (cell_of ((World.putObj_heap_other (hne _ (by omega))).trans h1))) ⟨_, by rw [hf.out]; rfl, ?_, below_mark hbel (by omega) hdef⟩
      rw [hf.out]
      exact World.ownsRow_nil _ _ _ _
  · rw [if_neg hev] at hf
    go_wp2
    obtain ⟨W0, hW0⟩ : ∃ W0, (w.alloc (.cells #[.slice none 0 0] 45)).alloc (.cells #[.int .i64 2] 51) = W0 := ⟨_, rfl⟩
    have b0 : W0.heap[w.heap.size]? = some (.cells #[.slice none 0 0] 45 (0, 0)) := by rw [← hW0]; exact allocs_at w [.cells #[.slice none 0 0] 45, .cells #[.int .i64 2] 51] 0 _ rfl
    have b1 : W0.heap[w.heap.size + 1]? = some (.cells #[.int .i64 2] 51 (0, 0)) := by rw [← hW0]; exact allocs_at w [.cells #[.slice none 0 0] 45, .cells #[.int .i64 2] 51] 1 _ rfl
    have hext0 : Ext w W0 := by rw [← hW0]; exact allocs_ext w [.cells #[.slice none 0 0] 45, .cells #[.int .i64 2] 51]
    rw [hW0]
    refine ⟨_, results_cells rfl _ _ _ rfl rfl agg22 agg36 (cell_of b0) (cell_of b1), _, by rw [hf.out]; rfl, ?_, hext0⟩
    rw [hf.out]
    exact World.ownsRow_nil _ _ _ _
end Go.Proofs.YtpndahmlbjhdfaaDoor
