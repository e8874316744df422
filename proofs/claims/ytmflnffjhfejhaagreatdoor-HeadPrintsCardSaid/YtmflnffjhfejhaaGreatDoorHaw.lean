/-
  The head laws' awake; HeadSplits.
-/
import Derived.BigGuardPart
import Derived.Lib.SlBytesConst
import Derived.Test.YtmflnffjhfejhaaGreatDoorRows
import Derived.Test.YtmflnffjhfejhaaGreatDoorHpr
import Derived.Test.YtmflnffjhfejhaaGreatDoorHsp
import Derived.Test.YtmflnffjhfejhaaGreatDoorHsr
import Derived.Test.YtmflnffjhfejhaaGreatDoorKit
namespace Go.Proofs.YtmflnffjhfejhaaGreatDoor
open Go.RowKit
set_option maxRecDepth 100000
set_option linter.unusedVariables false
set_option linter.unusedSimpArgs false

/-- The document's example. -/
def awkL : List UInt8 := [71, 69, 84, 32, 47, 32, 72, 84, 84, 80, 47, 49, 46, 49, 13, 10, 72, 111, 115, 116, 58, 32, 97, 13, 10, 13, 10, 120]
theorem awk_n : tkN awkL = (23 : Nat) := by decide +kernel
theorem awk_l : tkL awkL 23 = [([71, 69, 84, 32, 47, 32, 72, 84, 84, 80, 47, 49, 46, 49], true), ([72, 111, 115, 116, 58, 32, 97], true)] := by decide +kernel
theorem awk_a : (tkL awkL 23).tail.all tkA = true := by decide +kernel
theorem awk_f : (tkL awkL 23).tail.map tkF = [⟨[72, 111, 115, 116], [97]⟩] := by decide +kernel
theorem awk_s : spb 32 ((tkL awkL 23).getD 0 ([], false)).1 = [[71, 69, 84], [47], verL] := by decide +kernel
theorem awk_r : rightB ((tkL awkL 23).getD 0 ([], false)).1 = true := by decide +kernel
theorem awk_split : splitO [97, 46, 98, 58, 56, 48] = some ([97, 46, 98], 80) := by decide +kernel
/-- A head that is read. -/
theorem prq_ok {l : List UInt8} {w w' : World} {e : Ending} (h : PrqR l w w' e) {n : Nat} (hn : tkN l = n) (ha : (tkL l n).tail.all tkA = true) (hr : rightB ((tkL l n).getD 0 ([], false)).1 = true) {a b : List UInt8} (hs : spb 32 ((tkL l n).getD 0 ([], false)).1 = [a, b, verL]) (hm : ((tkL l n).tail.map tkF).length ≤ 24) :
    ∃ ao cap, e = .returned (.tuple #[.agg #[Str a, Str b, .slice ao ((tkL l n).tail.map tkF).length cap], .int .i64 ((n : Int) + 4), .int .i64 0]) ∧ w'.ownsRow w.heap.size 53 2 (.slice ao ((tkL l n).tail.map tkF).length cap) ((tkL l n).tail.map tkF).length (((tkL l n).tail.map tkF).flatMap prC) := by
  obtain ⟨W1, w2, f0, ao, m, cap, k, e0, hx1, hs1, ht, hch, hq⟩ := h
  rcases ht with ⟨hn1, _⟩ | ⟨n', hn', hn4, ao', m', cap', ht⟩
  · rw [hn1] at hn; omega
  · obtain rfl : n' = n := by rw [hn'] at hn; exact_mod_cast hn
    rcases ht with ⟨hal, hml, hrow, he⟩ | ⟨hal, _⟩
    · simp only [Ending.returned.injEq, Value.tuple.injEq, Array.mk.injEq, List.cons.injEq, Value.slice.injEq, Value.int.injEq, true_and, and_true, Str, Value.string.injEq, ByteArray.mk.injEq] at he
      obtain ⟨hf, ⟨rfl, rfl, rfl⟩, rfl, rfl⟩ := he
      have hf' : f0 = ((tkL l n').getD 0 ([], false)).1 := by simpa using hf
      subst hf'
      rw [hml] at hrow
      have hc0 : cnt 0 (rightB ((tkL l n').getD 0 ([], false)).1) m = 0 := by
        rw [hr]; unfold cnt; simp; omega
      rcases hq with ⟨hne, _⟩ | ⟨_, a', b', hs', he'⟩
      · exact absurd hc0 hne
      · rw [hs] at hs'
        simp only [List.cons.injEq, and_true] at hs'
        obtain ⟨rfl, rfl⟩ := hs'
        subst hml
        exact ⟨_, _, he', ownz_base (ownz_keep hrow fun g _ hg hk => hch.block g (kind_lt hk) (by show ¬ g = w.heap.size; omega)) (by omega)⟩
    · rw [ha] at hal; cases hal
/-- A head that has no end. -/
theorem prq_none {l : List UInt8} {w w' : World} {e : Ending} (h : PrqR l w w' e) (hn : tkN l = -1) :
    e = .returned (.tuple #[.agg #[Str [], Str [], .slice none 0 0], .int .i64 0, .int .i64 (if l.length < 4096 then 2 else 3)]) := by
  obtain ⟨W1, w2, f0, ao, m, cap, k, e0, hx1, hs1, ht, hch, hq⟩ := h
  rcases ht with ⟨_, he⟩ | ⟨n', hn', _⟩
  · simp only [Ending.returned.injEq, Value.tuple.injEq, Array.mk.injEq, List.cons.injEq, Value.int.injEq, true_and, and_true] at he
    obtain ⟨_, _, _, rfl⟩ := he
    have hc : ∀ r, cnt (if l.length < 4096 then 2 else 3) r m = if l.length < 4096 then 2 else 3 := fun r => by unfold cnt; split <;> simp
    rcases hq with ⟨_, he⟩ | ⟨h0, _⟩
    · rw [hc] at he; exact he
    · rw [hc] at h0; split at h0 <;> omega
  · rw [hn'] at hn; omega
theorem slb_marked {W : World} {g : Nat} {l : List UInt8} {f : Nat × Nat} (hc : W.heap[g]? = some (.cells (l.map Byt).toArray 5 f)) (hl : l.length ≤ 100000) : SlB W (.slice (some ⟨g, 0, none⟩) l.length l.length) l := by
  refine ⟨some ⟨g, 0, none⟩, l.length, by simp, by simp, by unfold maxLen; omega, by simp, fun j u hu => ?_⟩
  rw [adr_some]
  simp only [World.cell?, hc]
  simpa using hu
set_option maxHeartbeats 1000000 in
theorem awake_law (w : World) (hL : Lb w) : Calls Tryz.prog 6 #[] w fun e w' => e = .returned (.bool true) ∧ Ext w w' := by
  have HL := Lib.hid hL
  have kc := fun (w : World) (C : Array Value) (n c : Nat) => Lib.run_convert_bytes_const (P := Tryz.prog) w 22 5 C n c Tryz.underlying22 Tryz.underlying5
  go_enter Tryz.func6, Tryz.ntmps6
  go_wp2_with fail
  obtain ⟨W1, hW1⟩ : ∃ W1, w.alloc (.cells (awkL.map Byt).toArray 5 (28, 29)) = W1 := ⟨_, rfl⟩
  have hx1 : Ext w W1 := by rw [← hW1]; exact Below.alloc (Below.refl _ _) (Nat.le_refl _) _
  have hc1 : W1.heap[w.heap.size]? = some (.cells (awkL.map Byt).toArray 5 (28, 29)) := by rw [← hW1]; exact Array.getElem?_push_size
  have hP := preq_any ⟨w.heap.size, 0, none⟩ 28 awkL (by simp [awkL]) W1 (hL.ext hx1) (slb_marked hc1 (by simp [awkL]))
  change Calls Tryz.prog 16 #[.slice (some ⟨w.heap.size, 0, none⟩) 28 28] (w.alloc (.cells (awkL.map Byt).toArray 5 (28, 29))) _
  rw [hW1]
  refine Calls.mono hP ?_
  rintro e W2 ⟨hq, hx2⟩
  obtain ⟨ao, cap, he, hrow⟩ := prq_ok hq awk_n awk_a awk_r awk_s (by rw [awk_f]; simp)
  rw [awk_f] at he hrow
  subst he
  obtain ⟨ao', cap', hv, _, _, _, hcc⟩ := rowC_of_own prC_len hrow
  obtain ⟨g, o, hao, hcell⟩ := hcc (by simp)
  simp only [Value.slice.injEq] at hv
  obtain ⟨rfl, _, rfl⟩ := hv
  subst hao
  have hcA := hcell 0 _ rfl 1 (Str [97]) rfl
  simp only [Nat.mul_zero, Nat.zero_add] at hcA
  have hL2 := hL.ext (ext_trans hx1 hx2)
  have HX2 := Lib.hid (ext_trans hx1 hx2)
  simp only [List.length_cons, List.length_nil, Nat.reduceAdd]
  clear hq hrow hcell hcc hP hc1 hW1 kc hL hx1 hx2
  go_wp2_with fail
  obtain ⟨W3, hW3⟩ : ∃ W3, W2.alloc (.cells #[Str [71, 69, 84], Str [47], .slice (some ⟨g, o, none⟩) 1 cap] 47) = W3 := ⟨_, rfl⟩
  have hx3 : Ext W2 W3 := by rw [← hW3]; exact Below.alloc (Below.refl _ _) (Nat.le_refl _) _
  have hc3 : W3.heap[W2.heap.size]? = some (.cells #[Str [71, 69, 84], Str [47], .slice (some ⟨g, o, none⟩) 1 cap] 47 (0, 0)) := by rw [← hW3]; exact Array.getElem?_push_size
  rw [hW3]
  have hS := split_head [97, 46, 98, 58, 56, 48] (by simp) W3 (hL2.ext hx3)
  rw [awk_split] at hS
  refine Calls.mono hS ?_
  rintro e W4 ⟨he, hx4⟩
  have he' : e = .returned (.tuple #[Str [97, 46, 98], .int .i64 80, .bool true]) := he
  subst he'
  obtain ⟨d0, d1, d2⟩ := cells3 (ext_at hx4 hc3)
  have dA := ext_cell (ext_trans hx3 hx4) hcA
  have HX4 := Lib.hid (ext_trans HX2.out (ext_trans hx3 hx4))
  clear hcA hc3 hx3 hx4 hS hW3
  go_wp2
  go_ret
  exact ⟨rfl, HX4.out⟩

end Go.Proofs.YtmflnffjhfejhaaGreatDoor
