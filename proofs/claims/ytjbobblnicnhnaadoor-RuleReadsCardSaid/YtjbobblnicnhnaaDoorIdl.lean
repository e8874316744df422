/-
  (*rule.Policy).Len, Idle.
-/
import Derived.BigGuardPart
import Derived.WalkMore
import Derived.Test.YtjbobblnicnhnaaDoorRows
import Derived.Test.YtjbobblnicnhnaaDoorRli
import Derived.Test.YtjbobblnicnhnaaDoorCov
import Derived.Test.YtjbobblnicnhnaaDoorCln
import Derived.Test.YtjbobblnicnhnaaDoorKit
import Derived.Shelf.Abstract
namespace Go.Proofs.YtjbobblnicnhnaaDoor
open Go.RowKit Go.Shelf
set_option maxRecDepth 100000
attribute [local go_sem] Oper.semAt_some
set_option linter.unusedVariables false
set_option linter.unusedSimpArgs false

theorem len_any (po : Option Addr) (rs : List Ru) (hl : rs.length ≤ 100000) (w : World) (hp : PolV w po rs) :
    Calls Tryd.prog 23 #[.pointer po] w fun e w' => e = .returned (.int .i64 (rs.length : Int)) ∧ w' = w := by
  rcases hp with ⟨rfl, rfl⟩ | ⟨b, rfl, v, hb, hr⟩
  · go_enter Tryd.func23, Tryd.ntmps23
    go_wp2
    go_ret
    exact ⟨rfl, rfl⟩
  · have hc := cell_of hb
    obtain ⟨ao, cap, hv, _⟩ := hr
    subst hv
    clear hb
    go_enter Tryd.func23, Tryd.ntmps23
    go_wp2
    go_ret
    exact ⟨rfl, rfl⟩

/-- Does one ahead of it cover it? -/
def idleB (rs : List Ru) (i : Nat) : Bool := (rs.take i).any fun o => coverB o (rs.getD i ruD)
/-- Those among the first n that one ahead of them covers. -/
def idleL (rs : List Ru) (n : Nat) : List Nat := (List.range n).filter (idleB rs)
@[reducible] def Nt (k : Nat) : Value := .int .i64 (k : Int)
theorem idleL_succ (rs : List Ru) (n : Nat) : idleL rs (n + 1) = idleL rs n ++ if idleB rs n then [n] else [] := by
  unfold idleL
  rw [List.range_succ, List.filter_append]
  congr 1
  simp only [List.filter_cons, List.filter_nil]
theorem idleL_len (rs : List Ru) (n : Nat) : (idleL rs n).length ≤ n := by
  unfold idleL
  exact Nat.le_trans (List.length_filter_le _ _) (by simp)
theorem infoInt : (Tryd.prog.info? 3).map (fun i => (i.zero, i.size, i.bytes)) = some (some (.int .i64 0), 1, 8) := by kernel_rfl
theorem kp_mv {B B' : Nat} {own mu : Nat → Prop} {W A C : World} (h : Kp B own W A) (hm : Mv B' mu A C) (hmu : ∀ k, ¬ mu k) (hB : W.heap.size ≤ B') (hown : ∀ k, own k → k < W.heap.size) : Kp B own W C :=
  ⟨Nat.le_trans h.size hm.size, fun k hk => (hm.block k (by have := hown k hk; have := h.size; omega) (hmu k) (.inl (by have := hown k hk; omega))).trans (h.own k hk),
    fun k hk hb hn => (hm.block k (by have := h.size; omega) (hmu k) (.inl (by omega))).trans (h.other k hk hb hn)⟩
theorem kp_ext {B : Nat} {own : Nat → Prop} {W A C : World} (h : Kp B own W A) (he : Ext A C) (hown : ∀ k, own k → k < W.heap.size) : Kp B own W C :=
  h.trans (Kp.of_ext he fun k hk => by have := hown k hk; have := h.size; omega)

set_option maxHeartbeats 4000000 in
theorem idle_any (po : Option Addr) (rs : List Ru) (hl : rs.length ≤ 100000) (hrb : ∀ r ∈ rs, RuB r) (w : World) (hL : Lb w) (hp : PolV w po rs) :
    Calls Tryd.prog 24 #[.pointer po] w fun e w' => ∃ v, e = .returned v ∧ w'.ownsRow w.heap.size 3 1 v (idleL rs rs.length).length ((idleL rs rs.length).map Nt) ∧ Ext w w' := by
  refine (callsIn_wide (n := 5)).1 (callsIn_of_wp_marks Tryd.func24 rfl trivial (wpIn_wide.2 ?_) rfl)
  simp only [Tryd.ntmps24, List.size_toArray, List.length_cons, List.length_nil, Nat.reduceAdd, Nat.reduceSub, Array.replicate_succ, Array.replicate_zero, List.push_toArray, List.append_toArray, List.nil_append, List.cons_append]
  have HL := Lib.hid hL; have HP := Lib.hid hp; have HRB := Lib.hid hrb
  have hlt : ∀ k, libB k → k < w.heap.size := fun k hk => hL.lt hk
  clear hL hrb
  go_wp2
  go_step3
  go_wp2
  go_step3
  go_wp2_with (go_at_call 47; refine (rules_any _ _).mono ?_; rintro e w' ⟨rfl, rfl⟩)
  obtain ⟨W0, hW0⟩ : ∃ W0, allocs w [.cells #[.pointer po] 37, .cells #[.slice none 0 0] 46, .cells #[.pointer po] 37] = W0 := ⟨_, rfl⟩
  have b0 : W0.heap[w.heap.size]? = some (.cells #[.pointer po] 37 (0, 0)) := by rw [← hW0]; exact allocs_at w _ 0 _ rfl
  have b1 : W0.heap[w.heap.size + 1]? = some (.cells #[.slice none 0 0] 46 (0, 0)) := by rw [← hW0]; exact allocs_at w _ 1 _ rfl
  have b2 : W0.heap[w.heap.size + 2]? = some (.cells #[.pointer po] 37 (0, 0)) := by rw [← hW0]; exact allocs_at w _ 2 _ rfl
  have hext0 : Ext w W0 := by rw [← hW0]; exact allocs_ext _ _
  have hsz0' : W0.heap.size = w.heap.size + 3 := by rw [← hW0]; exact allocs_size _ _
  have hsz0 : W0.heap.size ≤ w.heap.size + 3 ∧ w.heap.size + 3 ≤ W0.heap.size := by omega
  clear hsz0'
  simp only [allocs, List.foldl_cons, List.foldl_nil] at hW0
  simp only [Nat.add_assoc, Nat.reduceAdd]
  rw [hW0]
  clear hW0
  obtain ⟨own, hown, hit⟩ := rulesV_iter po rs hl (w.heap.size + 2) w W0 hext0 hp b2
  clear hp
  refine wpIn_wide.1 (wpIn_range (n := 5) (P := Tryd.prog) rfl (enters_of Tryd.func67 (by kernel_rfl) rfl) hit (fun k h => by rcases hown k h with h | h <;> omega) (fun k h => h.elim) (fun _ => rfl)
    (fun i W => W.heap[w.heap.size]? = some (.cells #[.pointer po] 37 (0, 0)) ∧ (∃ v, W.heap[w.heap.size + 1]? = some (.cells #[v] 46 (0, 0)) ∧ W.ownsRow (w.heap.size + 3) 3 1 v (idleL rs i).length ((idleL rs i).map Nt)) ∧ Below w.heap.size w W ∧ w.heap.size + 3 ≤ W.heap.size)
    (fun c i W => False) ?_ (fun _ _ _ _ h _ => h.elim)
    ⟨b0, ⟨_, b1, World.ownsRow_nil _ _ _ _⟩, hext0, by omega⟩ ?_ ?_ (fun _ _ _ _ _ _ h _ => h.elim))
  · rintro i A' C ⟨h0, ⟨v, h1, hrow⟩, hbel, hsz⟩ hm
    exact ⟨hm.keeps h0 id (by omega), ⟨v, hm.keeps h1 id (by omega), own_mv hrow hm (fun k hk => hk.elim)⟩, hm.below hbel (fun k hk => hk.elim) (by omega) (Nat.le_refl _), Nat.le_trans hsz hm.size⟩
  · rintro m lp i W hi ⟨h0, ⟨v, h1, hrow⟩, hbel, hsz⟩ hlp hrec
    have HS := Lib.hid (idleL_succ rs i)
    have hil := idleL_len rs i
    have HIB := Lib.hid (show idleB rs i = (rs.take i).any fun o => coverB o (rs.getD i ruD) from rfl)
    have HRBX := Lib.hid (HRB.out (rs.getD i ruD) (by simp [List.getD, hi]))
    generalize idleB rs i = ib at *
    obtain ⟨F1, hF1⟩ : ∃ F1, idleL rs (i + 1) = F1 := ⟨_, rfl⟩
    rw [hF1] at HS
    have HF1 := Lib.hid hF1
    clear hF1
    generalize idleL rs i = F0 at *
    obtain ⟨r, hre⟩ : ∃ r, rs.getD i ruD = r := ⟨_, rfl⟩
    rw [hre] at HIB HRBX ⊢
    clear hre
    gi_wp2
    obtain ⟨W1, hW1⟩ : ∃ W1, allocs W [.cells #[.int .i64 (i : Int)] 3, .cells #[.bool r.al, Str r.ro, Str r.te, Str r.ho, .int .i64 r.fr, .int .i64 r.to] 28] = W1 := ⟨_, rfl⟩
    have hx1 : Ext W W1 := by rw [← hW1]; exact allocs_ext _ _
    have n0 : W1.heap[W.heap.size]? = some (.cells #[.int .i64 (i : Int)] 3 (0, 0)) := by rw [← hW1]; exact allocs_at W _ 0 _ rfl
    have n1 : W1.heap[W.heap.size + 1]? = some (.cells #[.bool r.al, Str r.ro, Str r.te, Str r.ho, .int .i64 r.fr, .int .i64 r.to] 28 (0, 0)) := by rw [← hW1]; exact allocs_at W _ 1 _ rfl
    have hs1 : W1.heap.size = W.heap.size + 2 := by rw [← hW1]; exact allocs_size _ _
    simp only [allocs, List.foldl_cons, List.foldl_nil] at hW1
    rw [hW1]
    clear hW1
    have hlow : ∀ k, own k → k < w.heap.size ∨ k = w.heap.size + 2 := fun k hk => by rcases hown k hk with h | h <;> omega
    refine ⟨Kp.of_ext hx1 (fun k hk => by have := hlow k hk; omega), fun W2 hm2 hrec2 => ?_⟩
    replace n0 := (hm2.block _ (Array.getElem?_eq_some_iff.1 n0).1 id (.inr ⟨_, kind_of_cells n0⟩)).trans n0
    replace n1 := (hm2.block _ (Array.getElem?_eq_some_iff.1 n1).1 id (.inr ⟨_, kind_of_cells n1⟩)).trans n1
    replace h0 := hm2.keeps ((hx1.block _ (by omega)).trans h0) id (by omega)
    replace h1 := hm2.keeps ((hx1.block _ (by omega)).trans h1) id (by omega)
    replace hrow := own_mv (own_ext hrow hx1) hm2 (fun k hk => hk.elim)
    replace hbel := hm2.below (hbel.trans (hx1.mono (by omega))) (fun k hk => hk.elim) (by omega) (Nat.le_refl _)
    have hgg : w.heap.size + 3 ≤ W.heap.size := hsz
    replace hsz : W.heap.size + 2 ≤ W2.heap.size := by have := hm2.size; omega
    generalize W.heap.size = gg at *
    clear hm2 hrec hx1 hs1 hown
    have c0 := cell_of h0
    have H0 := Lib.hid h0; have H1 := Lib.hid h1; have HR := Lib.hid hrow; have HB := Lib.hid hbel; have N0 := Lib.hid n0; have N1 := Lib.hid n1; have HLOW := Lib.hid hlow
    clear h0 h1 hrow hbel n0 n1 hlow
    gi_wp2_with (refine ⟨trivial, fun h => by simp [Fence.wide] at h, ?_⟩; gi_at_call 47; refine (CallsIn.inRound lp (callsIn_wide.2 (rules_any _ _))).mono ?_; rintro e w' ⟨rfl, rfl⟩)
    obtain ⟨W3, hW3⟩ : ∃ W3, W2.alloc (.cells #[.pointer po] 37) = W3 := ⟨_, rfl⟩
    have hx3 : Ext W2 W3 := by rw [← hW3]; exact Below.alloc (Below.refl _ _) (Nat.le_refl _) _
    have hs3 : W3.heap.size ≤ W2.heap.size + 1 ∧ W2.heap.size + 1 ≤ W3.heap.size := by rw [← hW3]; simp
    have m0 : W3.heap[W2.heap.size]? = some (.cells #[.pointer po] 37 (0, 0)) := by rw [← hW3]; exact Array.getElem?_push_size
    rw [hW3]
    clear hW3
    have hrec3 : ∃ r, W3.heap[lp]? = some (.loop r) := by obtain ⟨r, hr⟩ := hrec2; exact ⟨r, (hx3.block _ (Array.getElem?_eq_some_iff.1 hr).1).trans hr⟩
    have hbel3 := HB.out.trans (hx3.mono (by omega))
    obtain ⟨own2, hown2, hit2⟩ := rulesV_iter po rs hl W2.heap.size w W3 hbel3 HP.out m0
    have KP3 := Lib.hid (Kp.of_ext (B := W0.heap.size) (own := own) hx3 (fun k hk => by have := HLOW.out k hk; omega))
    refine wpIn_range_in (P := Tryd.prog) hrec3 rfl (enters_of Tryd.func67 (by kernel_rfl) rfl) hit2 (fun k h => by rcases hown2 k h with h | h <;> omega) (fun k h => h.elim) (fun _ => rfl)
      (fun k W => k ≤ i ∧ (∀ o ∈ rs.take k, coverB o r = false) ∧ W.heap[w.heap.size]? = some (.cells #[.pointer po] 37 (0, 0)) ∧ W.heap[w.heap.size + 1]? = some (.cells #[v] 46 (0, 0)) ∧ W.ownsRow (w.heap.size + 3) 3 1 v F0.length (F0.map Nt) ∧ Below w.heap.size w W ∧
        W.heap[gg]? = some (.cells #[.int .i64 (i : Int)] 3 (0, 0)) ∧ W.heap[gg + 1]? = some (.cells #[.bool r.al, Str r.ro, Str r.te, Str r.ho, .int .i64 r.fr, .int .i64 r.to] 28 (0, 0)) ∧ Kp W0.heap.size own W2 W ∧ W3.heap.size ≤ W.heap.size)
      (fun c k W => c = .exit 1 ∧ W.heap[w.heap.size]? = some (.cells #[.pointer po] 37 (0, 0)) ∧ (∃ v', W.heap[w.heap.size + 1]? = some (.cells #[v'] 46 (0, 0)) ∧ W.ownsRow (w.heap.size + 3) 3 1 v' F1.length (F1.map Nt)) ∧ Below w.heap.size w W ∧ Kp W0.heap.size own W2 W ∧ W3.heap.size ≤ W.heap.size)
      ?_ ?_ ⟨Nat.zero_le _, fun o ho => by simp at ho, (hx3.block _ (by omega)).trans H0.out, (hx3.block _ (by omega)).trans H1.out, own_ext HR.out hx3, hbel3, (hx3.block _ (by omega)).trans N0.out, (hx3.block _ (by omega)).trans N1.out, KP3.out, Nat.le_refl _⟩ ?_ ?_ ?_
    · rintro k A' C ⟨hk, hno, h0, h1, hrow, hbel, n0, n1, hkp, hsz'⟩ hm
      exact ⟨hk, hno, hm.keeps h0 id (by omega), hm.keeps h1 id (by omega), own_mv hrow hm (fun k hk => hk.elim), hm.below hbel (fun k hk => hk.elim) (by omega) (Nat.le_refl _), hm.keeps n0 id (by omega), hm.keeps n1 id (by omega), kp_mv hkp hm (fun _ h => h) (by omega) (fun k hk => by have := HLOW.out k hk; omega), Nat.le_trans hsz' hm.size⟩
    · rintro c k A' C ⟨hc, h0, ⟨v', h1, hrow⟩, hbel, hkp, hsz'⟩ hm
      exact ⟨hc, hm.keeps h0 id (by omega), ⟨v', hm.keeps h1 id (by omega), own_mv hrow hm (fun k hk => hk.elim)⟩, hm.below hbel (fun k hk => hk.elim) (by omega) (Nat.le_refl _), kp_mv hkp hm (fun _ h => h) (by omega) (fun k hk => by have := HLOW.out k hk; omega), Nat.le_trans hsz' hm.size⟩
    · rintro m' lp' k W hklt ⟨hk, hno, h0, h1, hrow, hbel, n0, n1, hkp, hsz'⟩ hlp' hrec'
      have htk : rs.take (k + 1) = rs.take k ++ [rs.getD k ruD] := by rw [List.take_succ_eq_append_getElem hklt]; simp [List.getD, hklt]
      have HOBX := Lib.hid (HRB.out (rs.getD k ruD) (by simp [List.getD, hklt]))
      have HMEM := Lib.hid (fun (h : k < i) => (show rs.getD k ruD ∈ rs.take i by rw [List.mem_take_iff_getElem]; exact ⟨k, by omega, by simp [List.getD, hklt]⟩))
      obtain ⟨q, hqe⟩ : ∃ q, rs.getD k ruD = q := ⟨_, rfl⟩
      rw [hqe] at htk HOBX HMEM ⊢
      have HTK := Lib.hid htk; have HNO := Lib.hid hno
      clear hqe htk hno
      gi_wp2
      obtain ⟨W4, hW4⟩ : ∃ W4, W.alloc (.cells #[.bool q.al, Str q.ro, Str q.te, Str q.ho, .int .i64 q.fr, .int .i64 q.to] 28) = W4 := ⟨_, rfl⟩
      have hx4 : Ext W W4 := by rw [← hW4]; exact Below.alloc (Below.refl _ _) (Nat.le_refl _) _
      have m0 : W4.heap[W.heap.size]? = some (.cells #[.bool q.al, Str q.ro, Str q.te, Str q.ho, .int .i64 q.fr, .int .i64 q.to] 28 (0, 0)) := by rw [← hW4]; exact Array.getElem?_push_size
      rw [hW4]
      clear hW4
      have hs4 := hx4.size
      have hlow2 : ∀ k, own2 k → k < w.heap.size ∨ k = W2.heap.size := fun k hk => by rcases hown2 k hk with h | h <;> omega
      refine ⟨Kp.of_ext hx4 (fun k hk => by have := hlow2 k hk; omega), fun W5 hm5 hrec5 => ?_⟩
      replace m0 := (hm5.block _ (Array.getElem?_eq_some_iff.1 m0).1 id (.inr ⟨_, kind_of_cells m0⟩)).trans m0
      replace h0 := hm5.keeps ((hx4.block _ (by omega)).trans h0) id (by omega)
      replace h1 := hm5.keeps ((hx4.block _ (by omega)).trans h1) id (by omega)
      replace n0 := hm5.keeps ((hx4.block _ (by omega)).trans n0) id (by omega)
      replace n1 := hm5.keeps ((hx4.block _ (by omega)).trans n1) id (by omega)
      replace hrow := own_mv (own_ext hrow hx4) hm5 (fun k hk => hk.elim)
      replace hbel := hm5.below (hbel.trans (hx4.mono (by omega))) (fun k hk => hk.elim) (by omega) (Nat.le_refl _)
      replace hkp := kp_mv (kp_ext hkp hx4 (fun k hk => by have := HLOW.out k hk; omega)) hm5 (fun _ h => h) (by omega) (fun k hk => by have := HLOW.out k hk; omega)
      replace hsz' : W3.heap.size ≤ W5.heap.size := by have := hm5.size; omega
      generalize W.heap.size = gm at *
      clear hm5 hrec' hx4 hs4
      have c0 := cell_of n0
      have k1 := cell_of h1
      obtain ⟨d0, d1, d2, d3, d4, d5⟩ := cells6 n1
      obtain ⟨e0, e1, e2, e3, e4, e5⟩ := cells6 m0
      have H0' := Lib.hid h0; have H1' := Lib.hid h1; have HR' := Lib.hid hrow; have HB' := Lib.hid hbel; have N0' := Lib.hid n0; have N1' := Lib.hid n1; have HKP := Lib.hid hkp; have HLOW2 := Lib.hid hlow2
      clear h0 h1 hrow hbel n0 n1 hkp hlow2 m0
      by_cases hki : k = i
      · subst hki
        have t1 : ((k : Int) == (k : Int)) = true := by simp
        have FIN : Hid (F1 = F0) := Lib.hid (by
          rw [HS.out, HIB.out, if_neg, List.append_nil]
          rw [Bool.not_eq_true, List.any_eq_false]
          intro o ho
          rw [HNO.out o ho]; simp)
        gi_wp2
        exact ⟨Kp.refl _ _ _, rfl, H0'.out, ⟨v, H1'.out, by rw [FIN.out]; exact HR'.out⟩, HB'.out, HKP.out, hsz'⟩
      · have t1 : ((k : Int) == (i : Int)) = false := by simp; omega
        have hki2 : k < i := by omega
        have HCV := Lib.hid (covers_any q r HOBX.out HRBX.out W5 (HL.out.keep fun j hj => HB'.out.block j (hlt j hj)))
        obtain ⟨cb, hcb⟩ : ∃ cb, coverB q r = cb := ⟨_, rfl⟩
        rw [hcb] at HCV
        have HCB := Lib.hid hcb
        clear hcb
        obtain ⟨al, ro, te, ho, fr, to⟩ := r
        obtain ⟨bl, so, ue, io, gr, uo⟩ := q
        gi_wp2_with (refine ⟨trivial, fun h => by simp [Fence.wide] at h, ?_⟩; gi_at_call 14; refine (CallsIn.inRound lp' (callsIn_wide.2 HCV.out)).mono ?_; rintro e W6 ⟨he, hx6⟩; subst he; have HX6 := Lib.hid hx6; clear hx6; refine Hid.out ?_)
        refine Lib.hid ?_
        have hs6 := HX6.out.size
        cases cb with
        | false =>
          have FIN := Lib.hid (show ∀ o ∈ rs.take (k + 1), coverB o ⟨al, ro, te, ho, fr, to⟩ = false from fun o h => by
            rw [HTK.out] at h
            rcases List.mem_append.1 h with h | h
            · exact HNO.out o h
            · rw [List.mem_singleton.1 h]; exact HCB.out)
          have KK := Lib.hid (Kp.of_ext (B := W3.heap.size) (own := own2) HX6.out (fun k hk => by have := HLOW2.out k hk; omega))
          have GG : Hid (k + 1 ≤ i ∧ (∀ o ∈ rs.take (k + 1), coverB o ⟨al, ro, te, ho, fr, to⟩ = false) ∧ W6.heap[w.heap.size]? = some (.cells #[.pointer po] 37 (0, 0)) ∧ W6.heap[w.heap.size + 1]? = some (.cells #[v] 46 (0, 0)) ∧ W6.ownsRow (w.heap.size + 3) 3 1 v F0.length (F0.map Nt) ∧ Below w.heap.size w W6 ∧
              W6.heap[gg]? = some (.cells #[.int .i64 (i : Int)] 3 (0, 0)) ∧ W6.heap[gg + 1]? = some (.cells #[.bool al, Str ro, Str te, Str ho, .int .i64 fr, .int .i64 to] 28 (0, 0)) ∧ Kp W0.heap.size own W2 W6 ∧ W3.heap.size ≤ W6.heap.size) := Lib.hid
            ⟨by omega, FIN.out, (HX6.out.block _ (by omega)).trans H0'.out, (HX6.out.block _ (by omega)).trans H1'.out, own_ext HR'.out HX6.out, HB'.out.trans (HX6.out.mono (by omega)), (HX6.out.block _ (by omega)).trans N0'.out, (HX6.out.block _ (by omega)).trans N1'.out, kp_ext HKP.out HX6.out (fun k hk => by have := HLOW.out k hk; omega), by omega⟩
          clear c0 k1 d0 d1 d2 d3 d4 d5 e0 e1 e2 e3 e4 e5 t1
          gi_wp2
          exact ⟨KK.out, GG.out⟩
        | true =>
          have FIN : Hid (F1 = F0 ++ [i]) := Lib.hid (by
            rw [HS.out, HIB.out, if_pos]
            rw [List.any_eq_true]
            exact ⟨_, HMEM.out hki2, HCB.out⟩)
          replace c0 := ext_cell HX6.out c0; replace k1 := ext_cell HX6.out k1
          have H16 := Lib.hid ((HX6.out.block _ (by omega)).trans H1'.out); have HR6 := Lib.hid (own_ext HR'.out HX6.out)
          clear d0 d1 d2 d3 d4 d5 e0 e1 e2 e3 e4 e5 t1
          gi_wp2_with (gi_at_builtin; refine wpListIn_push (w.heap.size + 3) rfl _ _ 46 3 rfl Tryd.underlying46 infoInt rfl (by omega) HR6.out _ rfl (by omega) (by omega) rfl rfl ?_; rintro _ w1 ⟨g1, cap1, rfl⟩ hown1 hgr1; have HO1 := Lib.hid hown1; have HG1 := Lib.hid hgr1; clear hown1 hgr1; have hlv : ∀ j, v.ownBlock = some j → w.heap.size + 3 ≤ j := fun j hj => (HR6.out.lt j hj).1; have hm1 := (HG1.out.block (w.heap.size + 1) (by omega) (fun e => by have := hlv _ e.symm; omega)).trans H16.out; have k1' := cell_of hm1; have f1' := frozen_of hm1; have HM1 := Lib.hid hm1; have HLV := Lib.hid hlv; clear hlv hm1 k1 c0)
          have hkv : ∀ j, v.ownBlock = some j → ∃ e, kind? W6 j = some e := fun j hj => by
            rcases HR6.out.2 with ⟨hn, _⟩ | ⟨g, cap, cur, hv, _, hg, _⟩
            · rw [hn] at hj; simp [Value.ownBlock] at hj
            · rw [hv] at hj; simp [Value.ownBlock] at hj; subst hj; exact ⟨_, kind_of_cells hg⟩
          have hvlt : ∀ j, v.ownBlock = some j → j < W2.heap.size := fun j hj => (HR.out.lt j hj).2
          have hch := Chg.setCell w1 ⟨w.heap.size + 1, 0, none⟩ (.slice (some ⟨g1, 0, none⟩) (F0.length + 1) cap1)
          have hgs := HG1.out.size
          have KPI := (Kp.of_ext (B := W3.heap.size) (own := own2) HX6.out (fun k hk => by have := HLOW2.out k hk; omega)).trans
            ((Kp.of_grown HG1.out (fun k hk => ⟨by have := HLOW2.out k hk; omega, fun e => by have := HLV.out _ e; have := hvlt _ e; have := HLOW2.out k hk; omega⟩) hkv).trans
              (Kp.of_chg hch (fun k hk => ⟨by have := HLOW2.out k hk; omega, by have := HLOW2.out k hk; show ¬ k = w.heap.size + 1; omega⟩) (fun k hk hB => by have hk' : k = w.heap.size + 1 := hk; omega)))
          have KPO := (kp_ext HKP.out HX6.out (fun k hk => by have := HLOW.out k hk; omega)).trans
            ((Kp.of_grown HG1.out (fun k hk => ⟨by have := HLOW.out k hk; omega, fun e => by have := HLV.out _ e; have := HLOW.out k hk; omega⟩) hkv).trans
              (Kp.of_chg hch (fun k hk => ⟨by have := HLOW.out k hk; omega, by have := HLOW.out k hk; show ¬ k = w.heap.size + 1; omega⟩) (fun k hk hB => by have hk' : k = w.heap.size + 1 := hk; omega)))
          refine ⟨KPI, rfl, ?_, ⟨_, one_setCell HM1.out, ?_⟩, ?_, KPO, Nat.le_trans (by omega) (Nat.le_trans hgs hch.size)⟩
          · rw [Below.heap_setCell _ _ _ _ (by simp)]
            exact (HG1.out.block w.heap.size (by omega) (fun e => by have := HLV.out _ e.symm; omega)).trans ((HX6.out.block _ (by omega)).trans H0'.out)
          · rw [FIN.out, List.length_append, List.map_append]
            exact own_keep HO1.out fun g _ hg hk => hch.block g (kind_lt hk) (by show ¬ g = w.heap.size + 1; omega)
          · exact ((HB'.out.trans (HX6.out.mono (by omega))).grown HG1.out (by omega) (fun k hk => by have := HLV.out k hk; omega)).setCell (by show w.heap.size ≤ w.heap.size + 1; omega) _
    · rintro W ⟨hk, _⟩
      omega
    · rintro c k W hk ⟨rfl, h0, hv', hbel, hkp, hsz'⟩
      have HV := Lib.hid hv'; have H0' := Lib.hid h0; have HKP := Lib.hid hkp; have HB' := Lib.hid hbel
      clear hv' h0 hkp hbel
      gi_wp2
      exact ⟨HKP.out, H0'.out, by rw [HF1.out]; exact HV.out, HB'.out, by omega⟩
  · rintro D W hD ⟨h0, ⟨v, h1, hrow⟩, hbel, hsz⟩ hdef
    have c1 := cell_of h1
    have HO := Lib.hid hrow; have HB := Lib.hid hbel
    clear hrow hbel h0 h1
    go_wp2
    simp only [Exit.noGoto]
    refine marks_ret hdef (results_tmp rfl _ _) ⟨v, rfl, ?_, below_mark HB.out (by omega) hdef⟩
    exact own_base (own_put HO.out hdef) (by omega)
end Go.Proofs.YtjbobblnicnhnaaDoor
