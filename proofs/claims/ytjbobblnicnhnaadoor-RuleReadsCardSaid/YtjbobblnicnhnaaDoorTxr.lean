/-
  ref16.Text; (*Policy).Text; slices.Equal over rows of the document's rules.
-/
import Derived.BigGuardPart
import Derived.Deep.Quiet
import Derived.Test.YtjbobblnicnhnaaDoorRows
import Derived.Test.YtjbobblnicnhnaaDoorTxt
import Derived.Test.YtjbobblnicnhnaaDoorRll
import Derived.Test.YtjbobblnicnhnaaDoorHlr
import Derived.Shelf.Abstract
namespace Go.Proofs.YtjbobblnicnhnaaDoor
open Go.RowKit Go.Shelf
set_option maxRecDepth 100000
attribute [local go_sem] Oper.semAt_some
set_option linter.unusedVariables false
set_option linter.unusedSimpArgs false

theorem itoa_nat (n : Nat) : Lib.itoa (n : Int) = Lib.decDigits n := by
  unfold Lib.itoa
  rw [if_neg (by omega)]; simp
set_option maxHeartbeats 4000000 in
theorem textRef_any (r : Ru) (hb : RuB r) (w : World) :
    Calls Tryd.prog 34 #[ruV r] w fun e w' => (e = .returned (if ruOk r then .tuple #[Str (textR r), .int .i64 0] else .tuple #[Str [], .int .i64 4])) ∧ Ext w w' := by
  have HR := Lib.hid (fun W => rightR_any r hb W)
  have HT := Lib.hid (show textR r = verbL r.al ++ [32] ++ r.ro ++ [32] ++ r.te ++ [32] ++ r.ho ++ [32] ++ portsL r from rfl)
  have HP := Lib.hid (show portsL r = if r.fr = 1 ∧ r.to = 65535 then [42] else if r.fr = r.to then Lib.itoa r.fr else Lib.itoa r.fr ++ [45] ++ Lib.itoa r.to from rfl)
  have h1 := hb.ro; have h2 := hb.te; have h3 := hb.ho
  cases hok : ruOk r with
  | false =>
    rw [hok] at HR
    obtain ⟨al, ro, te, ho, fr, to⟩ := r
    go_enter Tryd.func34, Tryd.ntmps34
    go_wp2_with fail
    obtain ⟨W1, hW1⟩ : ∃ W1, w.alloc (.cells #[.bool al, Str ro, Str te, Str ho, .int .i64 fr, .int .i64 to] 26) = W1 := ⟨_, rfl⟩
    have hx : Ext w W1 := by rw [← hW1]; exact Below.alloc (Below.refl _ _) (Nat.le_refl _) _
    rw [hW1]
    refine (HR.out _).mono ?_
    rintro e W2 ⟨he, hx2⟩
    subst he
    have HX := Lib.hid (ext_trans hx hx2)
    clear hx hx2 hW1
    go_wp2
    go_ret2
    exact ⟨rfl, HX.out⟩
  | true =>
    rw [hok] at HR
    have hbd := ruOk_b hok
    clear hok
    obtain ⟨al, ro, te, ho, fr, to⟩ := r
    simp only at hbd h1 h2 h3 HT HP
    obtain ⟨f, rfl⟩ : ∃ f : Nat, fr = (f : Int) := ⟨fr.toNat, by omega⟩
    obtain ⟨t, rfl⟩ : ∃ t : Nat, to = (t : Int) := ⟨to.toNat, by omega⟩
    have hf1 : f ≤ 65535 := by omega
    have ht1 : t ≤ 65535 := by omega
    have hf0 : (0 : Int) ≤ (f : Int) := by omega
    have ht0 : (0 : Int) ≤ (t : Int) := by omega
    rw [itoa_nat, itoa_nat] at HP
    have HD1 := Lib.hid (fun W => dec15_any f (by omega) W)
    have HD2 := Lib.hid (fun W => dec15_any t (by omega) W)
    have hlA := dec_len 17 f (by omega) (by omega)
    have hlB := dec_len 17 t (by omega) (by omega)
    generalize Lib.decDigits f = A at *
    generalize Lib.decDigits t = B at *
    clear hbd
    have hcase : (((f : Int) == 1) = true ∧ ((t : Int) == 65535) = true ∧ portsL ⟨al, ro, te, ho, (f : Int), (t : Int)⟩ = [42]) ∨
        ((((f : Int) == 1) = false ∨ (((f : Int) == 1) = true ∧ ((t : Int) == 65535) = false)) ∧ ((((f : Int) != (t : Int)) = false ∧ portsL ⟨al, ro, te, ho, (f : Int), (t : Int)⟩ = A) ∨ (((f : Int) != (t : Int)) = true ∧ portsL ⟨al, ro, te, ho, (f : Int), (t : Int)⟩ = A ++ [45] ++ B))) := by
      by_cases hs : (f : Int) = 1 ∧ (t : Int) = 65535
      · exact .inl ⟨by simp [hs.1], by simp [hs.2], by rw [HP.out, if_pos hs]⟩
      · refine .inr ⟨?_, ?_⟩
        · by_cases h : (f : Int) = 1
          · right; exact ⟨by simp [h], by simp; intro h2; exact hs ⟨h, by omega⟩⟩
          · left; simp; omega
        · by_cases h : (f : Int) = (t : Int)
          · left; exact ⟨by simp [h], by rw [HP.out, if_neg hs, if_pos h]⟩
          · right; exact ⟨by simp; omega, by rw [HP.out, if_neg hs, if_neg h]⟩
    clear HP
    cases al
    · rcases hcase with ⟨t1, t2, hp⟩ | ⟨t1 | ⟨t1, t2⟩, ⟨t3, hp⟩ | ⟨t3, hp⟩⟩
      all_goals
        rw [hp] at HT
        clear hp
        go_enter Tryd.func34, Tryd.ntmps34
        go_wp2_with fail
        obtain ⟨W1, hW1⟩ : ∃ W1, w.alloc (.cells #[.bool false, Str ro, Str te, Str ho, .int .i64 (f : Int), .int .i64 (t : Int)] 26) = W1 := ⟨_, rfl⟩
        have hx : Ext w W1 := by rw [← hW1]; exact Below.alloc (Below.refl _ _) (Nat.le_refl _) _
        have hc : W1.heap[w.heap.size]? = some (.cells #[.bool false, Str ro, Str te, Str ho, .int .i64 (f : Int), .int .i64 (t : Int)] 26 (0, 0)) := by rw [← hW1]; exact Array.getElem?_push_size
        rw [hW1]
        refine (HR.out _).mono ?_
        rintro e W2 ⟨he, hx2⟩
        subst he
        have HX := Lib.hid (ext_trans hx hx2)
        obtain ⟨c0, c1, c2, c3, c4, c5⟩ := cells6 ((hx2.block _ (Array.getElem?_eq_some_iff.1 hc).1).trans hc)
        clear hx hx2 hW1 hc
        go_wp2_with fail
        try (refine (HD1.out _).mono ?_; rintro e W3 ⟨he, hw⟩; subst he; subst W3; go_wp2_with fail)
        try (refine (HD2.out _).mono ?_; rintro e W3 ⟨he, hw⟩; subst he; subst W3; go_wp2_with fail)
        go_ret2
        exact ⟨by rw [HT.out]; simp [Str, verbL], HX.out⟩
    · rcases hcase with ⟨t1, t2, hp⟩ | ⟨t1 | ⟨t1, t2⟩, ⟨t3, hp⟩ | ⟨t3, hp⟩⟩
      all_goals
        rw [hp] at HT
        clear hp
        go_enter Tryd.func34, Tryd.ntmps34
        go_wp2_with fail
        obtain ⟨W1, hW1⟩ : ∃ W1, w.alloc (.cells #[.bool true, Str ro, Str te, Str ho, .int .i64 (f : Int), .int .i64 (t : Int)] 26) = W1 := ⟨_, rfl⟩
        have hx : Ext w W1 := by rw [← hW1]; exact Below.alloc (Below.refl _ _) (Nat.le_refl _) _
        have hc : W1.heap[w.heap.size]? = some (.cells #[.bool true, Str ro, Str te, Str ho, .int .i64 (f : Int), .int .i64 (t : Int)] 26 (0, 0)) := by rw [← hW1]; exact Array.getElem?_push_size
        rw [hW1]
        refine (HR.out _).mono ?_
        rintro e W2 ⟨he, hx2⟩
        subst he
        have HX := Lib.hid (ext_trans hx hx2)
        obtain ⟨c0, c1, c2, c3, c4, c5⟩ := cells6 ((hx2.block _ (Array.getElem?_eq_some_iff.1 hc).1).trans hc)
        clear hx hx2 hW1 hc
        go_wp2_with fail
        try (refine (HD1.out _).mono ?_; rintro e W3 ⟨he, hw⟩; subst he; subst W3; go_wp2_with fail)
        try (refine (HD2.out _).mono ?_; rintro e W3 ⟨he, hw⟩; subst he; subst W3; go_wp2_with fail)
        go_ret2
        exact ⟨by rw [HT.out]; simp [Str, verbL], HX.out⟩

/-- A policy's text. -/
def lineT (r : Ru) : List UInt8 := (if ruOk r then textR r else []) ++ [10]
def polT (rs : List Ru) : List UInt8 := rs.flatMap lineT
theorem textR_len (r : Ru) (hb : RuB r) : (textR r).length ≤ 40000 := by
  have hpl := portsL_len r ⟨hb.f0, hb.f1⟩ ⟨hb.t0, hb.t1⟩
  have h1 := hb.ro; have h2 := hb.te; have h3 := hb.ho
  unfold textR verbL
  split <;> simp <;> omega
theorem lineT_len (r : Ru) (hb : RuB r) : (lineT r).length ≤ 40001 := by
  have := textR_len r hb
  unfold lineT
  split <;> simp <;> omega
theorem polT_len : ∀ (rs : List Ru), (∀ r ∈ rs, RuB r) → (polT rs).length ≤ 40001 * rs.length
  | [], _ => by simp [polT]
  | r :: rs, h => by
    have h1 := lineT_len r (h r (by simp)); have h2 := polT_len rs (fun x hx => h x (by simp [hx]))
    unfold polT at *
    rw [List.flatMap_cons, List.length_append, List.length_cons]
    omega
theorem polT_snoc (rs : List Ru) (i : Nat) (h : i < rs.length) : polT (rs.take (i + 1)) = polT (rs.take i) ++ lineT (rs.getD i ruD) := by
  have hd : rs.getD i ruD = rs[i] := by simp [List.getD, h]
  rw [hd, List.take_succ_eq_append_getElem h]
  unfold polT
  rw [List.flatMap_append]
  simp only [List.flatMap_cons, List.flatMap_nil, List.append_nil]
set_option maxHeartbeats 4000000 in
theorem polText_any (po : Option Addr) (rs : List Ru) (hl : rs.length ≤ 1000) (hrb : ∀ r ∈ rs, RuB r) (w : World) (hL : Lb w) (hp : PolV w po rs) :
    Calls Tryd.prog 32 #[.pointer po] w fun e w' => e = .returned (Str (polT rs)) ∧ Ext w w' := by
  refine (callsIn_wide (n := 5)).1 (callsIn_of_wp_marks Tryd.func32 rfl trivial (wpIn_wide.2 ?_) rfl)
  simp only [Tryd.ntmps32, List.size_toArray, List.length_cons, List.length_nil, Nat.reduceAdd, Nat.reduceSub, Array.replicate_succ, Array.replicate_zero, List.push_toArray, List.append_toArray, List.nil_append, List.cons_append]
  have HL := Lib.hid hL; have HRB := Lib.hid hrb
  have hlt : ∀ k, libB k → k < w.heap.size := fun k hk => hL.lt hk
  clear hL hrb
  go_wp2_with (go_at_call 47; refine (rules_any _ _).mono ?_; rintro e w' ⟨rfl, rfl⟩)
  obtain ⟨W0, hW0⟩ : ∃ W0, allocs w [.cells #[.pointer none, .slice none 0 0] 91, .cells #[.pointer po] 37] = W0 := ⟨_, rfl⟩
  have b0 : Bld (w.heap.size + 2) W0 w.heap.size [] := by
    have := bld_new (w.heap.size + 2) w
    rw [← hW0]; exact this.ext ((Below.refl _ _).alloc (Nat.le_refl _) _)
  have b1 : W0.heap[w.heap.size + 1]? = some (.cells #[.pointer po] 37 (0, 0)) := by rw [← hW0]; exact allocs_at w _ 1 _ rfl
  have hext0 : Ext w W0 := by rw [← hW0]; exact allocs_ext _ _
  have hsz0' : W0.heap.size = w.heap.size + 2 := by rw [← hW0]; exact allocs_size _ _
  have hsz0 : W0.heap.size ≤ w.heap.size + 2 ∧ w.heap.size + 2 ≤ W0.heap.size := by omega
  simp only [allocs, List.foldl_cons, List.foldl_nil] at hW0
  rw [hW0]
  clear hW0
  obtain ⟨own, hown, hit⟩ := rulesV_iter po rs (by omega) (w.heap.size + 1) w W0 hext0 hp b1
  clear hp
  refine wpIn_wide.1 (wpIn_range (n := 5) (P := Tryd.prog) rfl (enters_of Tryd.func67 (by kernel_rfl) rfl) hit (fun k h => by rcases hown k h with h | h <;> omega) (fun k h => h.elim) (fun _ => rfl)
    (fun i W => Bld (w.heap.size + 2) W w.heap.size (polT (rs.take i)) ∧ Below w.heap.size w W ∧ w.heap.size + 2 ≤ W.heap.size)
    (fun c i W => False) ?_ (fun _ _ _ _ h _ => h.elim)
    ⟨b0, hext0, by omega⟩ ?_ ?_ (fun _ _ _ _ _ _ h _ => h.elim))
  · rintro i A' C ⟨h1, hbel, hsz⟩ hm
    exact ⟨h1.mv hm (fun k hk => hk.elim), hm.below hbel (fun k hk => hk.elim) (by omega) (Nat.le_refl _), Nat.le_trans hsz hm.size⟩
  · rintro m lp i W hi ⟨h1, hbel, hsz⟩ hlp hrec
    have hsn := polT_snoc rs i hi
    have hpl := polT_len (rs.take i) (fun r hr => HRB.out r (List.mem_of_mem_take hr))
    have hil : (rs.take i).length ≤ i := List.length_take_le _ _
    have hrx : RuB (rs.getD i ruD) := HRB.out _ (by simp [List.getD, hi])
    have hlt1 := lineT_len (rs.getD i ruD) hrx
    have hbnd : (polT (rs.take i)).length ≤ 50000000 := by omega
    obtain ⟨r, hre⟩ : ∃ r, rs.getD i ruD = r := ⟨_, rfl⟩
    rw [hre] at hsn hrx hlt1 ⊢
    have HSN := Lib.hid hsn; have HRX := Lib.hid hrx
    clear hre hsn hpl hil hrx
    gi_wp2
    obtain ⟨W1, hW1⟩ : ∃ W1, W.alloc (.cells #[.bool r.al, Str r.ro, Str r.te, Str r.ho, .int .i64 r.fr, .int .i64 r.to] 28) = W1 := ⟨_, rfl⟩
    have hx1 : Ext W W1 := by rw [← hW1]; exact Below.alloc (Below.refl _ _) (Nat.le_refl _) _
    have hb1 : W1.heap[W.heap.size]? = some (.cells #[.bool r.al, Str r.ro, Str r.te, Str r.ho, .int .i64 r.fr, .int .i64 r.to] 28 (0, 0)) := by rw [← hW1]; exact Array.getElem?_push_size
    rw [hW1]
    have hs1 := hx1.size
    have hlow : ∀ k, own k → k < w.heap.size ∨ k = w.heap.size + 1 := fun k hk => by rcases hown k hk with h | h <;> omega
    refine ⟨Kp.of_ext hx1 (fun k hk => by have := hlow k hk; omega), fun W2 hm2 hrec2 => ?_⟩
    have n1 := (hm2.block _ (Array.getElem?_eq_some_iff.1 hb1).1 id (.inr ⟨_, kind_of_cells hb1⟩)).trans hb1
    replace h1 := (h1.ext hx1).mv hm2 (fun k hk => hk.elim)
    replace hbel := hm2.below (hbel.trans (hx1.mono (by omega))) (fun k hk => hk.elim) (by omega) (Nat.le_refl _)
    replace hsz : w.heap.size + 2 ≤ W2.heap.size := by have := hm2.size; omega
    have hL2 : Lb W2 := HL.out.keep fun k hk => hbel.block k (hlt k hk)
    generalize W.heap.size = gg at *
    clear hm2 hrec hrec2 hx1 hb1 hs1 hown hW1
    have fin : ∀ Wn, BFr (w.heap.size + 2) w.heap.size W2 Wn → Bld (w.heap.size + 2) Wn w.heap.size (polT (rs.take (i + 1))) →
        Kp W0.heap.size own W2 Wn ∧ Bld (w.heap.size + 2) Wn w.heap.size (polT (rs.take (i + 1))) ∧ Below w.heap.size w Wn ∧ w.heap.size + 2 ≤ Wn.heap.size := by
      intro Wn hfr hB
      rw [show W0.heap.size = w.heap.size + 2 by omega]
      exact ⟨hfr.kp (fun k hk => by have := hlow k hk; exact ⟨by omega, by omega, .inl (by omega)⟩) (by rw [h1.kind]; simp), hB, hbel.trans (hfr.below (by omega) (by omega) (by omega)), Nat.le_trans hsz hfr.size⟩
    have FIN := Lib.hid fin
    clear fin
    obtain ⟨k0, k1, k2, k3, k4, k5⟩ := cells6 n1
    have HTX := Lib.hid (text_any r HRX.out W2 hL2)
    have HB := Lib.hid h1
    have hlT : Hid (lineT r = (if ruOk r then textR r else []) ++ [10]) := Lib.hid rfl
    have htl := textR_len r HRX.out
    clear h1 hbel n1 hlow hL2
    generalize textR r = tx at *
    generalize ruOk r = ok at *
    cases ok
    · gi_wp2_with (refine ⟨trivial, fun h => by simp [Fence.wide] at h, ?_⟩; gi_at_call 33; refine (CallsIn.inRound lp (callsIn_wide.2 HTX.out)).mono ?_; rintro e W3 ⟨he, hx3⟩; subst he; have HX3 := Lib.hid hx3; clear hx3; refine Hid.out ?_)
      refine Lib.hid ?_
      have hs3 := HX3.out.size
      try simp only [Bool.false_eq_true, if_true, if_false]
      gi_wp2
      have HW := Lib.hid (WriteString_any (w.heap.size + 2) w.heap.size (polT (rs.take i)) ([] ++ [10]) W3 (HB.out.ext HX3.out) (by simp; omega) (by omega))
      refine ⟨trivial, fun h => by simp [Fence.wide] at h, (CallsIn.inRound lp (callsIn_wide.2 HW.out)).mono ?_⟩
      rintro e W4 ⟨he, hB4, hfr4⟩
      subst he
      have HF4 := Lib.hid ((BFr.ext HX3.out).trans hfr4)
      have HB4 := Lib.hid (show Bld (w.heap.size + 2) W4 w.heap.size (polT (rs.take (i + 1))) by rw [HSN.out, hlT.out]; exact hB4)
      clear hB4 hfr4 HW
      gi_wp2
      exact FIN.out W4 HF4.out HB4.out
    · gi_wp2_with (refine ⟨trivial, fun h => by simp [Fence.wide] at h, ?_⟩; gi_at_call 33; refine (CallsIn.inRound lp (callsIn_wide.2 HTX.out)).mono ?_; rintro e W3 ⟨he, hx3⟩; subst he; have HX3 := Lib.hid hx3; clear hx3; refine Hid.out ?_)
      refine Lib.hid ?_
      have hs3 := HX3.out.size
      try simp only [Bool.false_eq_true, if_true, if_false]
      gi_wp2
      have HW := Lib.hid (WriteString_any (w.heap.size + 2) w.heap.size (polT (rs.take i)) (tx ++ [10]) W3 (HB.out.ext HX3.out) (by simp; omega) (by omega))
      refine ⟨trivial, fun h => by simp [Fence.wide] at h, (CallsIn.inRound lp (callsIn_wide.2 HW.out)).mono ?_⟩
      rintro e W4 ⟨he, hB4, hfr4⟩
      subst he
      have HF4 := Lib.hid ((BFr.ext HX3.out).trans hfr4)
      have HB4 := Lib.hid (show Bld (w.heap.size + 2) W4 w.heap.size (polT (rs.take (i + 1))) by rw [HSN.out, hlT.out]; exact hB4)
      clear hB4 hfr4 HW
      gi_wp2
      exact FIN.out W4 HF4.out HB4.out
  · rintro D W hD ⟨h1, hbel, hsz⟩ hdef
    rw [List.take_length] at h1
    have HB := Lib.hid h1; have HBE := Lib.hid hbel; have HD := Lib.hid hdef
    clear h1 hbel hdef
    go_wp2_with fail
    refine (String_any (w.heap.size + 2) w.heap.size _ W HB.out).mono ?_
    rintro e W7 ⟨he, hb7⟩
    subst he
    have hd7 : W7.heap[D]? = some (.deferred (some [])) := (hb7.block _ (Array.getElem?_eq_some_iff.1 HD.out).1 (by omega) (.inr (by rw [kind_none HD.out rfl]; simp))).trans HD.out
    have HD7 := Lib.hid hd7
    have HBL := Lib.hid (below_mark (HBE.out.trans (hb7.below (by omega) (by omega) (by omega))) (by omega) hd7)
    clear hd7 hb7
    go_wp2
    refine marks_ret HD7.out (results_tmp rfl _ _) ⟨rfl, HBL.out⟩
end Go.Proofs.YtjbobblnicnhnaaDoor
