/-
  head.take.
-/
import Derived.WalkMore
import Derived.BigQuiet
import Derived.Lib.SlBytesConst
import Derived.Lib.CutLaws
import Derived.Test.YtmflnffjhfejhaaGreatDoorRows
import Derived.Test.YtmflnffjhfejhaaGreatDoorHli
import Derived.Test.YtmflnffjhfejhaaGreatDoorHfl
import Derived.Test.YtmflnffjhfejhaaGreatDoorKit
import Derived.Shelf.Abstract
namespace Go.Proofs.YtmflnffjhfejhaaGreatDoor
open Go.RowKit Go.Shelf
set_option maxRecDepth 100000
attribute [local go_sem] Oper.semAt_some
set_option linter.unusedVariables false
set_option linter.unusedSimpArgs false

def crlf2 : List UInt8 := [13, 10, 13, 10]
def tkN (l : List UInt8) : Int := Lib.index (l.take 4096) [13, 10, 13, 10]
theorem tkN_cases (l : List UInt8) : tkN l = -1 ∨ ∃ n : Nat, tkN l = n ∧ n + 4 ≤ l.length ∧ n + 4 ≤ 4096 := by
  have h := Lib.indexB_cases ⟨(l.take 4096).toArray⟩ ⟨#[13, 10, 13, 10]⟩
  rcases h with h | ⟨i, h, hi⟩
  · exact .inl h
  · refine .inr ⟨i, h, ?_⟩
    have h4 : (⟨#[13, 10, 13, 10]⟩ : ByteArray).size = 4 := rfl
    rw [h4, size_list, List.length_take] at hi
    omega
def tkL (l : List UInt8) (n : Nat) : List (List UInt8 × Bool) := hlines (l.take (n + 2))
theorem tkL_pos (l : List UInt8) (n : Nat) (h : n + 4 ≤ l.length) : 0 < (tkL l n).length := by
  have hne : l.take (n + 2) ≠ [] := fun e => by have := congrArg List.length e; rw [List.length_take, List.length_nil] at this; omega
  unfold tkL
  rw [(hlines_step _ hne).1]; simp
def tkA (x : List UInt8 × Bool) : Bool := fldB x.1
def tkF (x : List UInt8 × Bool) : Pr := fldP x.1
/-- What take answers. -/
def TakeQ (L : List (List UInt8 × Bool)) (f0 : List UInt8) (n : Nat) (B : Nat) (w' : World) (e : Ending) : Prop :=
  ∃ ao m cap,
    (L.tail.all tkA = true ∧ m = (L.tail.map tkF).length ∧ w'.ownsRow B 53 2 (.slice ao m cap) m ((L.tail.map tkF).flatMap prC) ∧
        e = .returned (.tuple #[Str f0, .slice ao m cap, .int .i64 ((n : Int) + 4), .int .i64 0])) ∨
      (L.tail.all tkA = false ∧ e = .returned (.tuple #[Str f0, .slice ao m cap, .int .i64 ((n : Int) + 4), .int .i64 4]))
def TakeR (l : List UInt8) (w w' : World) (e : Ending) : Prop :=
  (tkN l = -1 ∧ e = .returned (.tuple #[Str [], .slice none 0 0, .int .i64 0, .int .i64 (if l.length < 4096 then 2 else 3)])) ∨
  ∃ n : Nat, tkN l = n ∧ n + 4 ≤ l.length ∧ TakeQ (tkL l n) ((tkL l n).getD 0 ([], false)).1 n w.heap.size w' e
theorem ownz_shape {w : World} {base e z : Nat} {v : Value} {n : Nat} {xs : List Value} (h : w.ownsRow base e z v n xs) : ∃ ao cap, v = .slice ao n cap ∧ n ≤ cap := by
  rcases h.2 with ⟨hn, h0⟩ | ⟨g, cap, cur, hv, _, _, hn, _⟩
  · exact ⟨none, 0, by rw [hn, h0], by omega⟩
  · exact ⟨_, cap, hv, hn⟩
theorem tail_snoc {α : Type} (L : List α) (d : α) (i : Nat) (hi : i < L.length) (h0 : 0 < i) : (L.take (i + 1)).tail = (L.take i).tail ++ [L.getD i d] := by
  rw [List.take_succ_eq_append_getElem hi]
  have : L.take i ≠ [] := fun e => by have := congrArg List.length e; rw [List.length_take, List.length_nil] at this; omega
  rw [List.tail_append_of_ne_nil this]
  simp [List.getD, hi]
theorem tail_one {α : Type} (L : List α) : (L.take 1).tail = [] := by cases L <;> rfl
theorem all_tail_false {α : Type} (L : List α) (d : α) (p : α → Bool) (i : Nat) (hi : i < L.length) (h0 : 0 < i) (h : p (L.getD i d) = false) : L.tail.all p = false := by
  rw [Bool.eq_false_iff]
  intro ha
  rw [List.all_eq_true] at ha
  have hm : L.getD i d ∈ L.tail := by
    rw [List.mem_iff_getElem]
    exact ⟨i - 1, by simp; omega, by simp [List.getD, hi, show i - 1 + 1 = i by omega]⟩
  have := ha _ hm
  rw [h] at this; cases this

theorem headm_some (a : Addr) (n cap k : Nat) : headm (.slice (some a) n cap) k = .slice (some a) k cap := by
  rw [headm_shape]
  have : a.add 0 = a := by cases a; simp [Addr.add]
  split
  · rfl
  · simp [this]
set_option maxHeartbeats 1000000 in
theorem take_any (a : Addr) (cap : Nat) (l : List UInt8) (hl : l.length ≤ 10000) (w : World) (hL : Lb w) (hv : SlB w (.slice (some a) l.length cap) l) :
    Calls Tryz.prog 30 #[.slice (some a) l.length cap] w fun e w' => TakeR l w w' e ∧ Ext w w' := by
  refine (callsIn_wide (n := 5)).1 (callsIn_of_wp_marks Tryz.func30 rfl trivial (wpIn_wide.2 ?_) rfl)
  simp only [Tryz.ntmps30, List.size_toArray, List.length_cons, List.length_nil, Nat.reduceAdd, Nat.reduceSub, Array.replicate_succ, Array.replicate_zero, List.push_toArray, List.append_toArray, List.nil_append, List.cons_append]
  have HL := Lib.hid hL
  have hcap : l.length ≤ cap := by
    obtain ⟨ao, c, he, hc, _⟩ := hv
    simp only [List.length_map, Value.slice.injEq] at he hc
    omega
  have hrun := run_headm (P := Tryz.prog) Tryz.underlying22 Tryz.sizeOf5 (ao := some a) hcap
  have hmin := run_min_nat Tryz.prog l.length 4096 4096 rfl
  have hle : min l.length 4096 ≤ l.length := Nat.min_le_left _ _
  have hbx : ∀ W, Ext w W → W.heap[w.heap.size]? = some (.cells #[.int .u8 13, .int .u8 10, .int .u8 13, .int .u8 10] 5 (4, 5)) → Calls Tryz.prog 45 #[.slice (some a) (min l.length 4096) cap, .slice (some ⟨w.heap.size, 0, none⟩) 4 4] W fun e w' => e = .returned (.int .i64 (tkN l)) ∧ Ext W w' := by
    intro W hx hc
    have h1 := (hv.ext hx).headm (k := min l.length 4096) (by simp; omega)
    rw [headm_some, ← List.map_take, show l.take (min l.length 4096) = l.take 4096 by rw [Nat.min_comm, List.take_eq_take_iff]; omega] at h1
    refine bindex_any _ _ (l.take 4096) [13, 10, 13, 10] (by simp; omega) (by simp) W (HL.out.ext hx) h1 ?_ (by simp) ?_
    · refine ⟨some ⟨w.heap.size, 0, none⟩, 4, rfl, by simp, by simp [maxLen], by simp, fun j u hu => ?_⟩
      rw [adr_some]
      match j, hu with
      | 0, hu => simp at hu; subst hu; simp [World.cell?, hc]
      | 1, hu => simp at hu; subst hu; simp [World.cell?, hc]
      | 2, hu => simp at hu; subst hu; simp [World.cell?, hc]
      | 3, hu => simp at hu; subst hu; simp [World.cell?, hc]
      | n + 4, hu => simp at hu
    · exact ⟨a, _, _, rfl⟩
  have HBX := Lib.hid hbx; have HV := Lib.hid hv
  simp only [headm_some] at hrun
  clear hbx hv hL
  have kc := fun (w : World) (C : Array Value) (n c : Nat) => Lib.run_convert_bytes_const (P := Tryz.prog) w 22 5 C n c Tryz.underlying22 Tryz.underlying5
  generalize min l.length 4096 = mm at *
  go_wp2_with fail
  go_step3
  go_wp2_with fail
  obtain ⟨W1, hW1⟩ : ∃ W1, w.alloc (.cells #[.int .u8 13, .int .u8 10, .int .u8 13, .int .u8 10] 5 (4, 5)) = W1 := ⟨_, rfl⟩
  have hx1 : Ext w W1 := by rw [← hW1]; exact Below.alloc (Below.refl _ _) (Nat.le_refl _) _
  have hc1 : W1.heap[w.heap.size]? = some (.cells #[.int .u8 13, .int .u8 10, .int .u8 13, .int .u8 10] 5 (4, 5)) := by rw [← hW1]; exact Array.getElem?_push_size
  rw [hW1]
  clear kc hW1
  refine (HBX.out W1 hx1 hc1).mono ?_
  rintro e W2 ⟨he, hx2'⟩
  subst he
  have hx2 := ext_trans hx1 hx2'
  clear hx1 hc1 hx2' HBX
  have HX2 := Lib.hid hx2
  rcases tkN_cases l with hn | ⟨n, hn, hn4, hn5⟩
  · rw [hn]
    have HN := Lib.hid hn
    clear hn hx2
    by_cases h4 : l.length < 4096
    · have t1 : decide ((l.length : Int) < 4096) = true := by simp; omega
      go_wp2_with fail
      simp only [Exit.noGoto]
      refine ⟨.tuple #[Str [], .slice none 0 0, .int .i64 0, .int .i64 2], by simp [results, Tryz.results30, Str], .inl ⟨HN.out, by rw [if_pos h4]⟩, HX2.out⟩
    · have t1 : decide ((l.length : Int) < 4096) = false := by simp; omega
      go_wp2_with fail
      simp only [Exit.noGoto]
      refine ⟨.tuple #[Str [], .slice none 0 0, .int .i64 0, .int .i64 3], by simp [results, Tryz.results30, Str], .inl ⟨HN.out, by rw [if_neg h4]⟩, HX2.out⟩
  · rw [hn]
    have HN := Lib.hid hn
    clear hn hx2
    have t0 : decide ((n : Int) < 0) = false := by simp
    go_wp2_with fail
    go_step3
    go_wp2_with (go_at_call 46; refine (headLines_any _ _ _ _).mono ?_; rintro e w' ⟨rfl, rfl⟩)
    obtain ⟨W0, hW0⟩ : ∃ W0, allocs W2 [.cells #[Str []] 9, .cells #[.bool false] 4, .cells #[.slice none 0 0] 27, .cells #[.int .i64 0] 30, .cells #[.slice (some a) (n + 2) cap] 22] = W0 := ⟨_, rfl⟩
    have b0 : W0.heap[W2.heap.size]? = some (.cells #[Str []] 9 (0, 0)) := by rw [← hW0]; exact allocs_at W2 _ 0 _ rfl
    have b1 : W0.heap[W2.heap.size + 1]? = some (.cells #[.bool false] 4 (0, 0)) := by rw [← hW0]; exact allocs_at W2 _ 1 _ rfl
    have b2 : W0.heap[W2.heap.size + 2]? = some (.cells #[.slice none 0 0] 27 (0, 0)) := by rw [← hW0]; exact allocs_at W2 _ 2 _ rfl
    have b3 : W0.heap[W2.heap.size + 3]? = some (.cells #[.int .i64 0] 30 (0, 0)) := by rw [← hW0]; exact allocs_at W2 _ 3 _ rfl
    have b4 : W0.heap[W2.heap.size + 4]? = some (.cells #[.slice (some a) (n + 2) cap] 22 (0, 0)) := by rw [← hW0]; exact allocs_at W2 _ 4 _ rfl
    have hext2 : Ext W2 W0 := by rw [← hW0]; exact allocs_ext _ _
    have hsz0' : W0.heap.size = W2.heap.size + 5 := by rw [← hW0]; exact allocs_size _ _
    have hsz0 : W0.heap.size ≤ W2.heap.size + 5 ∧ W2.heap.size + 5 ≤ W0.heap.size := by omega
    simp only [allocs, List.foldl_cons, List.foldl_nil] at hW0
    simp only [Nat.add_assoc, Nat.reduceAdd]
    rw [hW0]
    clear hW0 hsz0'
    have hws := HX2.out.size
    have hext0 : Ext w W0 := ext_trans HX2.out hext2
    have hlt : ∀ k, libB k → k < w.heap.size := fun k hk => HL.out.lt hk
    have hsv : SlB w (.slice (some a) (n + 2) cap) (l.take (n + 2)) := by
      have h1 := HV.out.headm (k := n + 2) (by simp; omega)
      rw [headm_some, ← List.map_take] at h1
      exact h1
    have hit := hlines_iter _ (l.take (n + 2)) (by simp; omega) (W2.heap.size + 4) W0 b4 (hsv.ext hext0) (HL.out.ext hext0)
    have hslt : ∀ k, sblk (.slice (some a) (n + 2) cap) (l.take (n + 2)).length k → k < w.heap.size := fun k hk => sblk_lt hsv (by simpa using hk)
    have hpos := tkL_pos l n hn4
    have hpart : ∀ x ∈ tkL l n, x.1.length ≤ 10000 := fun x hx => Nat.le_trans (hlines_part _ _ (Nat.le_refl _) x hx) (by simp; omega)
    have hlen : (tkL l n).length ≤ 10000 := Nat.le_trans (hlines_len _ _ (Nat.le_refl _)) (by simp; omega)
    have hTK : tkL l n = hlines (l.take (n + 2)) := rfl
    rw [← hTK] at hit
    have HTR := Lib.hid (fun (w' : World) (e : Ending) (h : TakeQ (tkL l n) ((tkL l n).getD 0 ([], false)).1 n w.heap.size w' e) => (show TakeR l w w' e from .inr ⟨n, HN.out, hn4, h⟩))
    clear hTK hsv
    generalize tkL l n = L at *
    generalize (l.take (n + 2)).length = ln at *
    obtain ⟨own, hown⟩ : ∃ own : Nat → Prop, own = fun k => k = W2.heap.size + 4 ∨ sblk (.slice (some a) (n + 2) cap) ln k ∨ libB k := ⟨_, rfl⟩
    rw [← hown] at hit
    have hownl : ∀ k, own k → k < w.heap.size ∨ k = W2.heap.size + 4 := fun k hk => by
      rw [hown] at hk
      rcases hk with hk | hk | hk
      · exact .inr hk
      · exact .inl (hslt k hk)
      · exact .inl (hlt k hk)
    have HPT := Lib.hid hpart
    obtain ⟨f0, hf0⟩ : ∃ f0, (L.getD 0 ([], false)).1 = f0 := ⟨_, rfl⟩
    rw [hf0] at HTR
    have HF0 := Lib.hid hf0
    clear hpart hown hslt hf0 hrun hmin
    refine wpIn_wide.1 (wpIn_range (n := 5) (P := Tryz.prog) rfl (enters_of Tryz.func64 (by kernel_rfl) rfl) hit (fun k h => by rcases hownl k h with h | h <;> omega) (fun k h => h.elim) (fun _ => rfl)
      (fun i W => ((L.take i).tail.all tkA = true) ∧ W.heap[W2.heap.size]? = some (.cells #[Str (if i = 0 then [] else f0)] 9 (0, 0)) ∧ W.heap[W2.heap.size + 1]? = some (.cells #[.bool (decide (0 < i))] 4 (0, 0)) ∧ (∃ v, W.heap[W2.heap.size + 2]? = some (.cells #[v] 27 (0, 0)) ∧ W.ownsRow (W2.heap.size + 5) 53 2 v ((L.take i).tail.map tkF).length (((L.take i).tail.map tkF).flatMap prC)) ∧ W.heap[W2.heap.size + 3]? = some (.cells #[.int .i64 0] 30 (0, 0)) ∧ Below w.heap.size w W ∧ W2.heap.size + 5 ≤ W.heap.size)
      (fun c i W => c = .exit 1 ∧ L.tail.all tkA = false ∧ W.heap[W2.heap.size]? = some (.cells #[Str f0] 9 (0, 0)) ∧ (∃ ao m cap, W.heap[W2.heap.size + 2]? = some (.cells #[.slice ao m cap] 27 (0, 0))) ∧ W.heap[W2.heap.size + 3]? = some (.cells #[.int .i64 4] 30 (0, 0)) ∧ Below w.heap.size w W ∧ W2.heap.size + 5 ≤ W.heap.size) ?_ ?_
      ⟨rfl, by simpa using b0, by simpa using b1, ⟨_, b2, by simpa using World.ownsRow_nil _ _ _ _⟩, b3, hext0, hsz0.2⟩ ?_ ?_ ?_)
    · rintro i A' C ⟨hok, h0, h1, ⟨v, h2, hrow⟩, h3, hbel, hsz⟩ hm
      exact ⟨hok, hm.keeps h0 id (by omega), hm.keeps h1 id (by omega), ⟨v, hm.keeps h2 id (by omega), ownz_mv hrow hm (fun k hk => hk.elim)⟩, hm.keeps h3 id (by omega), hm.below hbel (fun k hk => hk.elim) (by omega) (Nat.le_refl _), Nat.le_trans hsz hm.size⟩
    · rintro c i A' C ⟨hc, hok, h0, ⟨ao, m, cp, h2⟩, h3, hbel, hsz⟩ hm
      exact ⟨hc, hok, hm.keeps h0 id (by omega), ⟨ao, m, cp, hm.keeps h2 id (by omega)⟩, hm.keeps h3 id (by omega), hm.below hbel (fun k hk => hk.elim) (by omega) (Nat.le_refl _), Nat.le_trans hsz hm.size⟩
    · rintro m lp i W hi ⟨hok, h0, h1, ⟨v, h2, hrow⟩, h3, hbel, hsz⟩ hlp hrec
      have hmem : L.getD i ([], false) ∈ L := by simp [List.getD, hi]
      have hxl := HPT.out _ hmem
      have HSN := Lib.hid (fun h => tail_snoc L ([], false) i hi h)
      have HTF := Lib.hid (fun h hf => all_tail_false L ([], false) tkA i hi h hf)
      have HAX := Lib.hid (show tkA (L.getD i ([], false)) = fldB (L.getD i ([], false)).1 from rfl)
      have HFX := Lib.hid (show tkF (L.getD i ([], false)) = fldP (L.getD i ([], false)).1 from rfl)
      have HF0i := Lib.hid (show i = 0 → (L.getD i ([], false)).1 = f0 from fun h => by rw [h]; exact HF0.out)
      generalize L.getD i ([], false) = xp at *
      obtain ⟨x, xe⟩ := xp
      simp only at hxl HAX HFX HF0i ⊢
      have hil : ((L.take i).tail.map tkF).length ≤ 10000 := by rw [List.length_map, List.length_tail, List.length_take]; omega
      clear hmem hit
      gi_wp2
      refine ⟨Kp.refl _ _ _, fun W3 hm3 hrec3 => ?_⟩
      replace h0 := hm3.keeps h0 id (by omega)
      replace h1 := hm3.keeps h1 id (by omega)
      replace h2 := hm3.keeps h2 id (by omega)
      replace h3 := hm3.keeps h3 id (by omega)
      replace hrow := ownz_mv hrow hm3 (fun k hk => hk.elim)
      replace hbel := hm3.below hbel (fun k hk => hk.elim) (by omega) (Nat.le_refl _)
      replace hsz := Nat.le_trans hsz hm3.size
      clear hm3 hrec hrec3
      have hL3 : Lb W3 := HL.out.ext hbel
      by_cases hi0 : i = 0
      · have hd : decide (0 < i) = false := by simp [hi0]
        rw [hd] at h1
        rw [if_pos hi0] at h0
        have hx0 := HF0i.out hi0
        subst hx0
        have hc0 := cell_of h0; have hc1 := cell_of h1; have hf0 := frozen_of h0; have hf1 := frozen_of h1
        have q0 := one_setCell (u := Str x) h0
        have q1 := one_setCell (u := .bool true) ((Chg.setCell W3 ⟨W2.heap.size, 0, none⟩ (Str x)).block (W2.heap.size + 1) (Array.getElem?_eq_some_iff.1 h1).1 (by show ¬ W2.heap.size + 1 = W2.heap.size; omega) |>.trans h1)
        have hch : Chg (fun k => k = W2.heap.size ∨ k = W2.heap.size + 1) W3 ((W3.setCell ⟨W2.heap.size, 0, none⟩ (Str x)).setCell ⟨W2.heap.size + 1, 0, none⟩ (.bool true)) := ((Chg.setCell W3 ⟨W2.heap.size, 0, none⟩ (Str x)).mono fun k h => .inl h).trans ((Chg.setCell _ ⟨W2.heap.size + 1, 0, none⟩ (.bool true)).mono fun k h => .inr h)
        have q0' := ((Chg.setCell (W3.setCell ⟨W2.heap.size, 0, none⟩ (Str x)) ⟨W2.heap.size + 1, 0, none⟩ (.bool true)).block W2.heap.size (Array.getElem?_eq_some_iff.1 q0).1 (by show ¬ W2.heap.size = W2.heap.size + 1; omega)).trans q0
        obtain ⟨Y, hY⟩ : ∃ Y, (W3.setCell ⟨W2.heap.size, 0, none⟩ (Str x)).setCell ⟨W2.heap.size + 1, 0, none⟩ (.bool true) = Y := ⟨_, rfl⟩
        have hs5 : W2.heap.size + 5 ≤ Y.heap.size := by have := hch.size; rw [hY] at this; omega
        rw [hY] at q1 hch q0'
        have FIN := Lib.hid (show Kp W0.heap.size own W3 Y ∧ ((L.take (i + 1)).tail.all tkA = true) ∧ Y.heap[W2.heap.size]? = some (.cells #[Str (if i + 1 = 0 then [] else x)] 9 (0, 0)) ∧ Y.heap[W2.heap.size + 1]? = some (.cells #[.bool (decide (0 < i + 1))] 4 (0, 0)) ∧ (∃ v, Y.heap[W2.heap.size + 2]? = some (.cells #[v] 27 (0, 0)) ∧ Y.ownsRow (W2.heap.size + 5) 53 2 v ((L.take (i + 1)).tail.map tkF).length (((L.take (i + 1)).tail.map tkF).flatMap prC)) ∧ Y.heap[W2.heap.size + 3]? = some (.cells #[.int .i64 0] 30 (0, 0)) ∧ Below w.heap.size w Y ∧ W2.heap.size + 5 ≤ Y.heap.size from by
          subst hi0
          have ht : (L.take (0 + 1)).tail = (L.take 0).tail := by rw [show 0 + 1 = 1 from rfl, tail_one]; rfl
          refine ⟨Kp.of_chg hch (fun k hk => ?_) (fun k hk hB => ?_), by rw [ht]; exact hok, by rw [if_neg (by omega)]; exact q0', by simpa using q1, ⟨v, (hch.block _ (Array.getElem?_eq_some_iff.1 h2).1 (by show ¬ (_ ∨ _); omega)).trans h2, ?_⟩, (hch.block _ (Array.getElem?_eq_some_iff.1 h3).1 (by show ¬ (_ ∨ _); omega)).trans h3, below_chg hbel hch (fun k hk => by rcases hk with hk | hk <;> omega) (Nat.le_refl _), hs5⟩
          · have := hownl k hk
            exact ⟨by omega, by show ¬ (_ ∨ _); omega⟩
          · rcases hk with hk | hk <;> omega
          · rw [ht]
            exact ownz_keep hrow fun g _ hg hk => hch.block g (kind_lt hk) (by show ¬ (_ ∨ _); omega))
        have HY := Lib.hid hY
        clear h0 h1 h2 h3 hrow hbel q0 q1 q0' hch hok hs5 HF0i hY
        gi_wp2
        have hfin := FIN.out
        rw [← HY.out] at hfin
        exact hfin
      · have hd : decide (0 < i) = true := by simp; omega
        rw [hd] at h1
        rw [if_neg hi0] at h0
        have HFL := Lib.hid (field_any x hxl W3 hL3)
        have hc1 := cell_of h1
        have H0 := Lib.hid h0; have H1 := Lib.hid h1; have H2 := Lib.hid h2; have H3 := Lib.hid h3; have HR := Lib.hid hrow; have HB := Lib.hid hbel; have HOK := Lib.hid hok
        clear h0 h1 h2 h3 hrow hbel hok
        have hfe : fldP x = ⟨(fldP x).n, (fldP x).v⟩ := rfl
        obtain ⟨pn, hpn⟩ : ∃ pn, (fldP x).n = pn := ⟨_, rfl⟩
        obtain ⟨pv, hpv⟩ : ∃ pv, (fldP x).v = pv := ⟨_, rfl⟩
        rw [hpn, hpv] at hfe
        rw [hfe] at HFL HFX
        clear hpn hpv hfe
        gi_wp2_with (refine ⟨trivial, fun h => by simp [Fence.wide] at h, ?_⟩; gi_at_call 47; refine (CallsIn.inRound lp (callsIn_wide.2 HFL.out)).mono ?_; rintro e W4 ⟨he, hx4⟩; subst he; have HX4 := Lib.hid hx4; clear hx4; refine Hid.out ?_)
        refine Lib.hid ?_
        have hs4 := HX4.out.size
        have HRU := Lib.hid (ext_at HX4.out H0.out)
        have h0 := ext_at HX4.out H0.out; have h1 := ext_at HX4.out H1.out; have h2 := ext_at HX4.out H2.out; have h3 := ext_at HX4.out H3.out
        have hrow := ownz_ext HR.out HX4.out
        have hbel := HB.out.trans (HX4.out.mono (by omega))
        have hkp : Kp W0.heap.size own W3 W4 := Kp.of_ext HX4.out (fun k hk => by have := hownl k hk; omega)
        have hw4 : W2.heap.size + 5 ≤ W4.heap.size := by omega
        clear H0 H1 H2 H3 HR HB HX4 HRU hs4
        cases hbx : fldB x with
        | false =>
          have HALL := Lib.hid (HTF.out (by omega) (by rw [HAX.out]; exact hbx))
          obtain ⟨ao, cp, hvs, _⟩ := ownz_shape hrow
          subst hvs
          have hch := Chg.setCell W4 ⟨W2.heap.size + 3, 0, none⟩ (.int .i64 4)
          have q3 := one_setCell (u := .int .i64 4) h3
          obtain ⟨V, hV⟩ : ∃ V, W4.setCell ⟨W2.heap.size + 3, 0, none⟩ (.int .i64 4) = V := ⟨_, rfl⟩
          rw [hV] at hch q3
          have hvs := hch.size
          have g0 := (hch.block _ (Array.getElem?_eq_some_iff.1 h0).1 (by show ¬ W2.heap.size = W2.heap.size + 3; omega)).trans h0
          have g2 := (hch.block _ (Array.getElem?_eq_some_iff.1 h2).1 (by show ¬ W2.heap.size + 2 = W2.heap.size + 3; omega)).trans h2
          obtain ⟨Y, hY⟩ : ∃ Y, V.alloc (.cells #[Str pn, Str pv] 53) = Y := ⟨_, rfl⟩
          have hx5 : Ext V Y := by rw [← hY]; exact Below.alloc (Below.refl _ _) (Nat.le_refl _) _
          have hys := hx5.size
          have FIN := Lib.hid (show Kp W0.heap.size own W3 Y ∧ L.tail.all tkA = false ∧ Y.heap[W2.heap.size]? = some (.cells #[Str f0] 9 (0, 0)) ∧ (∃ ao m cap, Y.heap[W2.heap.size + 2]? = some (.cells #[.slice ao m cap] 27 (0, 0))) ∧ Y.heap[W2.heap.size + 3]? = some (.cells #[.int .i64 4] 30 (0, 0)) ∧ Below w.heap.size w Y ∧ W2.heap.size + 5 ≤ Y.heap.size from by
            refine ⟨hkp.trans ((Kp.of_chg hch (fun k hk => ?_) (fun k hk hB => ?_)).trans (Kp.of_ext hx5 (fun k hk => by have := hownl k hk; omega))), HALL.out, ext_at hx5 g0, ⟨_, _, _, ext_at hx5 g2⟩, ext_at hx5 q3, (below_chg hbel hch (fun k hk => by have hk' : k = W2.heap.size + 3 := hk; omega) (Nat.le_refl _)).trans (hx5.mono (by omega)), by omega⟩
            · have := hownl k hk
              exact ⟨by omega, by show ¬ k = W2.heap.size + 3; omega⟩
            · have hk' : k = W2.heap.size + 3 := hk; omega)
          have hgg : W2.heap.size + 3 < W4.heap.size := by omega
          have c3 := cell_of h3; have f3 := frozen_of h3
          have z3 : ∀ o, (W4.alloc o).frozen? ⟨W2.heap.size + 3, 0, none⟩ = false := fun o => by
            have := frozen_of h3
            simp only [World.frozen?, Below.heap_alloc W4 o (W2.heap.size + 3) (by omega)] at this ⊢
            exact this
          have HV' := Lib.hid hV; have HY := Lib.hid hY
          clear hbx h0 h1 h2 h3 hrow hbel hkp hch q3 hys g0 g2 hx5 hV hY hvs
          gi_wp2
          have hfin := FIN.out
          rw [← HY.out, ← HV'.out] at hfin
          exact ⟨hfin.1, rfl, hfin.2⟩
        | true =>
          have HALL := Lib.hid (show (L.take (i + 1)).tail.all tkA = true by rw [HSN.out (by omega), List.all_append, HOK.out]; simp [HAX.out, hbx])
          have HMP := Lib.hid (show (L.take (i + 1)).tail.map tkF = (L.take i).tail.map tkF ++ [⟨pn, pv⟩] by rw [HSN.out (by omega), List.map_append, List.map_singleton, HFX.out])
          obtain ⟨W5, hW5⟩ : ∃ W5, W4.alloc (.cells #[Str pn, Str pv] 53) = W5 := ⟨_, rfl⟩
          have hx5 : Ext W4 W5 := by rw [← hW5]; exact Below.alloc (Below.refl _ _) (Nat.le_refl _) _
          have n1 : W5.heap[W4.heap.size]? = some (.cells #[Str pn, Str pv] 53 (0, 0)) := by rw [← hW5]; exact Array.getElem?_push_size
          have hs5 := hx5.size
          replace h0 := ext_at hx5 h0; replace h1 := ext_at hx5 h1; replace h2 := ext_at hx5 h2; replace h3 := ext_at hx5 h3
          replace hrow := ownz_ext hrow hx5
          replace hbel := hbel.trans (hx5.mono (by omega))
          replace hkp := hkp.trans (Kp.of_ext (B := W0.heap.size) (own := own) hx5 (fun k hk => by have := hownl k hk; omega))
          replace hw4 : W2.heap.size + 5 ≤ W5.heap.size := by omega
          obtain ⟨ao, cp, hvs, _⟩ := ownz_shape hrow
          subst hvs
          obtain ⟨d0, d1⟩ := cells2 n1
          generalize ((L.take i).tail.map tkF) = fs at *
          have hlw : ∀ k, own k → k < W2.heap.size + 5 ∧ k ≠ W2.heap.size + 2 ∧ k < W5.heap.size := fun k hk => by have := hownl k hk; omega
          have c2 := cell_of h2
          have H0 := Lib.hid h0; have H1 := Lib.hid h1; have H2 := Lib.hid h2; have H3 := Lib.hid h3; have HR := Lib.hid hrow; have HB := Lib.hid hbel; have HKP := Lib.hid hkp
          have HLW := Lib.hid hlw
          clear hbx h0 h1 h2 h3 hrow hbel hkp hx5 n1 hlw
          have hsz5 : W2.heap.size + 5 ≤ W5.heap.size := hw4
          gi_wp2_with (gi_at_builtin; refine wpListIn_pushz (W2.heap.size + 5) rfl _ _ 27 53 rfl Tryz.underlying27 infoPair rfl (by omega) (by omega) HR.out (prC ⟨pn, pv⟩) rfl (prC_one ⟨pn, pv⟩) (by omega) hsz5 rfl rfl ?_; rintro _ w1 ⟨g1, cap1, rfl⟩ hown1 hgr1; obtain ⟨q1, q2, q3, q4, q5, q6, q7, q8, q9⟩ := boxz_push (own := own) (by omega) H2.out HR.out hown1 hgr1 (fun k hk => HLW.out k hk); clear hown1 hgr1; have Q3 := Lib.hid q3; have Q4 := Lib.hid q4; have Q5 := Lib.hid q5; have Q6 := Lib.hid q6; have Q7 := Lib.hid q7; have Q8 := Lib.hid q8; clear q3 q4 q5 q6 q7 q8 q9)
          refine ⟨?_, HALL.out, ?_, ?_, ⟨_, Q3.out, ?_⟩, ?_, Q6.out w.heap.size w (by omega) HB.out, Nat.le_trans hsz5 Q7.out⟩
          · have h5 := Q5.out
            rw [show W2.heap.size + 5 = W0.heap.size by omega] at h5
            exact HKP.out.trans h5
          · rw [if_neg (by omega)]
            exact (Q8.out _ (by omega) (by omega) (by omega)).trans H0.out
          · rw [show decide (0 < i + 1) = true by simp]
            exact (Q8.out _ (by omega) (by omega) (by omega)).trans H1.out
          · rw [HMP.out, List.length_append, List.flatMap_append]
            simpa using Q4.out
          · exact (Q8.out _ (by omega) (by omega) (by omega)).trans H3.out
    · rintro D W hD ⟨hok, h0, h1, ⟨v, h2, hrow⟩, h3, hbel, hsz⟩ hdef
      rw [List.take_length] at hrow hok
      rw [if_neg (by omega)] at h0
      obtain ⟨ao, cp, hv, _⟩ := ownz_shape hrow
      subst hv
      have c0 := cell_of h0; have c2 := cell_of h2; have c3 := cell_of h3
      have HO := Lib.hid hrow; have HB := Lib.hid hbel; have HD := Lib.hid hdef
      have HBL := Lib.hid (fun q => below_mark (W := W.drewN q) (ext_drewN hbel q) (by omega) hdef)
      have HOW := Lib.hid (ownz_base (ownz_put hrow hdef (o' := .deferred none)) (show w.heap.size ≤ W2.heap.size + 5 by omega))
      have HOK := Lib.hid hok
      clear hrow hbel h0 h1 h2 h3 hdef hit hok
      go_wp2
      refine wp_region_quiet_lit (by kernel_rfl) (by kernel_rfl) ?_
      repeat (first
        | go_big_quiet_skip
        | (go_big_quiet_want; go_big_quiet_op; (try go_bits); first | go_big_quiet_on | go_big_quiet_call (fail)))
      refine wpQuiet_nil ?_
      intro _ hw'
      obtain ⟨nq, hw''⟩ := hw'
      subst hw''
      go_simp
      go_wp2
      simp only [Exit.noGoto]
      refine marks_ret_at HD.out (v := .tuple #[Str f0, .slice ao (L.tail.map tkF).length cp, .int .i64 ((n : Int) + 4), .int .i64 0]) (by simp [results, Tryz.results30]) ⟨HTR.out _ _ ⟨_, _, _, .inl ⟨HOK.out, rfl, HOW.out, rfl⟩⟩, HBL.out _⟩
    · rintro D c i W hD hi ⟨rfl, hok, h0, ⟨ao, m, cp, h2⟩, h3, hbel, hsz⟩ hdef
      have c0 := cell_of h0; have c2 := cell_of h2; have c3 := cell_of h3
      have HD := Lib.hid hdef
      have HBL := Lib.hid (fun q => below_mark (W := W.drewN q) (ext_drewN hbel q) (by omega) hdef)
      have HOK := Lib.hid hok
      clear hbel h0 h2 h3 hdef hit hok
      refine wpIn_wide.2 ?_
      go_wp2
      refine wp_region_quiet_lit (by kernel_rfl) (by kernel_rfl) ?_
      repeat (first
        | go_big_quiet_skip
        | (go_big_quiet_want; go_big_quiet_op; (try go_bits); first | go_big_quiet_on | go_big_quiet_call (fail)))
      refine wpQuiet_nil ?_
      intro _ hw'
      obtain ⟨nq, hw''⟩ := hw'
      subst hw''
      go_simp
      go_wp2
      simp only [Exit.noGoto]
      refine marks_ret_at (D := D) HD.out (v := .tuple #[Str f0, .slice ao m cp, .int .i64 ((n : Int) + 4), .int .i64 4]) (by simp [results, Tryz.results30]) ⟨HTR.out _ _ ⟨_, _, _, .inr ⟨HOK.out, rfl⟩⟩, HBL.out _⟩
end Go.Proofs.YtmflnffjhfejhaaGreatDoor
