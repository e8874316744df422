/-
  rule.port, rule.span.
-/
import Derived.BigGuardPart
import Derived.Test.YtjbobblnicnhnaaDoorRows
import Derived.Test.YtjbobblnicnhnaaDoorLbk
import Derived.Test.YtjbobblnicnhnaaDoorDcm
import Derived.Test.YtjbobblnicnhnaaDoorChr
namespace Go.Proofs.YtjbobblnicnhnaaDoor
open Go.RowKit
set_option maxRecDepth 100000
set_option linter.unusedVariables false
set_option linter.unusedSimpArgs false

/-- A port's number; none: it is none. -/
def portO (l : List UInt8) : Option Nat := if canB l && (decide (1 ≤ valD 0 l) && decide (valD 0 l ≤ 65535)) then some (valD 0 l) else none
theorem portO_spec (l : List UInt8) : (portO l).isSome = (atoiOk l && (decide (1 ≤ atoiV l) && (decide (atoiV l ≤ 65535) && (Lib.itoa (atoiV l) == l)))) ∧ ∀ n, portO l = some n → atoiV l = n ∧ 1 ≤ n ∧ n ≤ 65535 := by
  have hd : ∀ n, portO l = some n → canB l = true ∧ n = valD 0 l ∧ 1 ≤ n ∧ n ≤ 65535 := fun n h => by
    unfold portO at h
    split at h
    · rename_i h2
      simp only [Bool.and_eq_true, decide_eq_true_eq] at h2
      injection h with h
      subst h
      exact ⟨h2.1, rfl, h2.2.1, h2.2.2⟩
    · cases h
  have hv : ∀ n, portO l = some n → Lib.atoiAll l = .ok (n : Int) ∧ Lib.itoa (n : Int) = l := fun n h => by
    obtain ⟨h1, h2, h3, h4⟩ := hd n h
    exact (atoi_itoa l n (by omega)).2 ⟨h1, by rw [h2], by omega⟩
  have hva : ∀ n, portO l = some n → atoiV l = n := fun n h => by simp [atoiV, (hv n h).1]
  refine ⟨?_, fun n h => ⟨hva n h, (hd n h).2.2⟩⟩
  rw [Bool.eq_iff_iff, Option.isSome_iff_exists]
  simp only [Bool.and_eq_true, decide_eq_true_eq, beq_iff_eq]
  constructor
  · rintro ⟨n, h⟩
    obtain ⟨h1, h2, h3, h4⟩ := hd n h
    rw [hva n h]
    exact ⟨by simp [atoiOk, (hv n h).1], by omega, by omega, (hv n h).2⟩
  · rintro ⟨h1, h2, h3, h4⟩
    have h5 : Lib.atoiAll l = .ok (atoiV l) := by
      unfold atoiOk at h1
      unfold atoiV
      split at h1
      · rename_i v e; rw [e]
      · cases h1
    obtain ⟨q1, q2, q3⟩ := (atoi_itoa l (atoiV l) (by omega)).1 ⟨h5, h4⟩
    refine ⟨valD 0 l, ?_⟩
    unfold portO
    rw [if_pos]
    simp only [Bool.and_eq_true, decide_eq_true_eq]
    exact ⟨q1, by omega, by omega⟩

set_option maxHeartbeats 1000000 in
theorem port_any (l : List UInt8) (hl : l.length ≤ 100000) (w : World) (hL : Lb w) :
    Calls Tryd.prog 83 #[Str l] w fun e w' => (e = .returned (.tuple #[.int .i64 (atoiV l), .bool (portO l).isSome])) ∧ Ext w w' := by
  have hs := (portO_spec l).1
  have hA := Lib.hid (atoi_any l hl w hL)
  have hvb := atoiV_bounds l
  have hI := Lib.hid (fun W hW => itoa_any (atoiV l) hvb.1 hvb.2 W hW)
  have hb := Lib.hid (str_beq (Lib.itoa (atoiV l)) l)
  have HL := Lib.hid hL; clear hL
  generalize atoiOk l = ok at *
  generalize atoiV l = v at *
  have HS := Lib.hid hs; clear hs
  go_enter Tryd.func83, Tryd.ntmps83
  go_wp2_with fail
  refine hA.out.mono ?_
  rintro e W1 ⟨⟨ev, he, hev⟩, hx1⟩
  subst he
  have HX1 := Lib.hid hx1; clear hx1
  rcases hev with ⟨hok, rfl⟩ | ⟨hok, t, p, rfl⟩
  · have HS1 : Hid ((portO l).isSome = (decide (1 ≤ v) && (decide (v ≤ 65535) && (Lib.itoa v == l)))) := Lib.hid (by rw [HS.out, hok, Bool.true_and])
    clear hok HS
    by_cases h1 : 1 ≤ v
    · by_cases h2 : v ≤ 65535
      · have t1 : decide (1 ≤ v) = true := by simpa using h1
        have t2 : decide (v ≤ 65535) = true := by simpa using h2
        have HS2 : Hid ((portO l).isSome = (Lib.itoa v == l)) := Lib.hid (by rw [HS1.out, t1, t2]; rfl)
        clear HS1
        go_wp2_with fail
        refine (hI.out _ (HL.out.ext HX1.out)).mono ?_
        rintro e W2 ⟨he, hx2⟩
        subst he
        have HX2 := Lib.hid (ext_trans HX1.out hx2); clear hx2
        have hb2 := hb.out
        go_wp2
        go_ret2
        exact ⟨by rw [HS2.out]; rfl, HX2.out⟩
      · have t1 : decide (1 ≤ v) = true := by simpa using h1
        have t2 : decide (v ≤ 65535) = false := by simpa using h2
        have HS2 : Hid ((portO l).isSome = false) := Lib.hid (by rw [HS1.out, t1, t2]; rfl)
        clear HS1
        go_wp2
        go_ret2
        exact ⟨by rw [HS2.out]; rfl, HX1.out⟩
    · have t1 : decide (1 ≤ v) = false := by simpa using h1
      have HS2 : Hid ((portO l).isSome = false) := Lib.hid (by rw [HS1.out, t1]; rfl)
      clear HS1
      go_wp2
      go_ret2
      exact ⟨by rw [HS2.out]; rfl, HX1.out⟩
  · have HS2 : Hid ((portO l).isSome = false) := Lib.hid (by rw [HS.out, hok]; rfl)
    clear HS hok
    go_wp2
    go_ret2
    exact ⟨by rw [HS2.out]; rfl, HX1.out⟩

/-- A span out of one port, or of two. -/
def spanJ : Bool → Option Nat → Option Nat → Option (Nat × Nat)
  | true, some a, some b => if a ≤ b then some (a, b) else none
  | true, _, _ => none
  | false, some a, _ => some (a, a)
  | false, none, _ => none
/-- A span of ports; none: it is none. -/
def spanO (l : List UInt8) : Option (Nat × Nat) :=
  if l = [42] then some (1, 65535) else spanJ (Lib.cut l [45]).2.2 (portO (Lib.cut l [45]).1) (portO (Lib.cut l [45]).2.1)
theorem spanO_bounds (l : List UInt8) (a b : Nat) (h : spanO l = some (a, b)) : 1 ≤ a ∧ a ≤ b ∧ b ≤ 65535 := by
  unfold spanO at h
  split at h
  · injection h with h; injection h with h1 h2; omega
  · generalize (Lib.cut l [45]).2.2 = f at h
    cases f with
    | true =>
      cases e1 : portO (Lib.cut l [45]).1 with
      | none => rw [e1] at h; simp [spanJ] at h
      | some x =>
        cases e2 : portO (Lib.cut l [45]).2.1 with
        | none => rw [e1, e2] at h; simp [spanJ] at h
        | some y =>
          rw [e1, e2] at h
          simp only [spanJ] at h
          have := (portO_spec _).2 x e1; have := (portO_spec _).2 y e2
          split at h
          · injection h with h; injection h with h1 h2; omega
          · cases h
    | false =>
      cases e1 : portO (Lib.cut l [45]).1 with
      | none => rw [e1] at h; simp [spanJ] at h
      | some x =>
        rw [e1] at h
        simp only [spanJ] at h
        have := (portO_spec _).2 x e1
        injection h with h; injection h with h1 h2; omega
def I64 (n : Int) : Prop := -9223372036854775808 ≤ n ∧ n ≤ 9223372036854775807
/-- What a span answers. -/
def SpanR (l : List UInt8) (e : Ending) : Prop := ∃ f t : Int, e = .returned (.tuple #[.int .i64 f, .int .i64 t, .bool (spanO l).isSome]) ∧ I64 f ∧ I64 t ∧ ∀ a b, spanO l = some (a, b) → f = (a : Int) ∧ t = (b : Int)
theorem spanR_of {l : List UInt8} {f t : Int} {r : Bool} {e : Ending} (he : e = .returned (.tuple #[.int .i64 f, .int .i64 t, .bool r])) (hr : (spanO l).isSome = r) (h1 : I64 f) (h2 : I64 t) (h : ∀ a b, spanO l = some (a, b) → f = (a : Int) ∧ t = (b : Int)) : SpanR l e := ⟨f, t, by rw [he, hr], h1, h2, h⟩
set_option maxHeartbeats 1000000 in
theorem span_any (l : List UInt8) (hl : l.length ≤ 100000) (w : World) (hL : Lb w) :
    Calls Tryd.prog 71 #[Str l] w fun e w' => SpanR l e ∧ Ext w w' := by
  have HL := Lib.hid hL; clear hL
  by_cases hs : l = [42]
  · have ht : (l == [42]) = true := by simpa using hs
    have R := Lib.hid (show spanO l = some (1, 65535) by unfold spanO; rw [if_pos hs])
    clear hs
    go_enter Tryd.func71, Tryd.ntmps71
    go_wp2
    go_ret3
    exact ⟨spanR_of rfl (by rw [R.out]; rfl) ⟨by omega, by omega⟩ ⟨by omega, by omega⟩ (fun a b h => by rw [R.out] at h; injection h with h; injection h with h1 h2; omega), ext_refl w⟩
  · have ht : (l == [42]) = false := by simpa using hs
    have R := Lib.hid (show spanO l = spanJ (Lib.cut l [45]).2.2 (portO (Lib.cut l [45]).1) (portO (Lib.cut l [45]).2.1) by unfold spanO; rw [if_neg hs])
    have HC := Lib.hid (scut_any l [45] hl w HL.out)
    have hlen : (Lib.cut l [45]).1.length ≤ 100000 ∧ (Lib.cut l [45]).2.1.length ≤ 100000 := by
      unfold Lib.cut
      split
      · simp; omega
      · simp; omega
    obtain ⟨p, q, f, hcut⟩ : ∃ a b f, Lib.cut l [45] = (a, b, f) := ⟨_, _, _, rfl⟩
    rw [hcut] at HC R hlen
    simp only at HC R hlen
    have HP := Lib.hid (fun W hW => port_any p hlen.1 W hW)
    have HQ := Lib.hid (fun W hW => port_any q hlen.2 W hW)
    have hp := (portO_spec p).2; have hq := (portO_spec q).2
    have b1 := atoiV_bounds p; have b2 := atoiV_bounds q
    have HPP := Lib.hid hp; have HQQ := Lib.hid hq
    clear hs hcut hp hq
    generalize portO p = op at *
    generalize portO q = oq at *
    generalize atoiV p = vp at *
    generalize atoiV q = vq at *
    go_enter Tryd.func71, Tryd.ntmps71
    go_wp2_with fail
    refine HC.out.mono ?_
    rintro e W1 ⟨he, hx1⟩
    subst he
    have HX1 := Lib.hid hx1; clear hx1
    go_wp2_with fail
    refine (HP.out _ (HL.out.ext HX1.out)).mono ?_
    rintro e W2 ⟨he, hx2⟩
    subst he
    have HX2 := Lib.hid (ext_trans HX1.out hx2); clear hx2
    cases f with
    | false =>
      clear HQ HP HC
      cases op with
      | none =>
        go_wp2
        go_ret3
        exact ⟨spanR_of rfl (by rw [R.out]; rfl) b1 b1 (fun a b h => by rw [R.out] at h; cases h), HX2.out⟩
      | some n =>
        go_wp2
        go_ret3
        exact ⟨spanR_of rfl (by rw [R.out]; rfl) b1 b1 (fun a b h => by
          rw [R.out] at h; injection h with h; injection h with h1 h2; have := (HPP.out n rfl).1; omega), HX2.out⟩
    | true =>
      go_wp2_with fail
      refine (HQ.out _ (HL.out.ext HX2.out)).mono ?_
      rintro e W3 ⟨he, hx3⟩
      subst he
      have HX3 := Lib.hid (ext_trans HX2.out hx3); clear hx3 HQ HP HC HX1 HX2
      cases op with
      | none =>
        go_wp2
        go_ret3
        exact ⟨spanR_of rfl (by rw [R.out]; rfl) b1 b2 (fun a b h => by rw [R.out] at h; cases h), HX3.out⟩
      | some n =>
        cases oq with
        | none =>
          go_wp2
          go_ret3
          exact ⟨spanR_of rfl (by rw [R.out]; rfl) b1 b2 (fun a b h => by rw [R.out] at h; cases h), HX3.out⟩
        | some m =>
          have hn := (HPP.out n rfl).1; have hm := (HQQ.out m rfl).1
          by_cases hnm : n ≤ m
          · have t1 : decide (vp ≤ vq) = true := by simp; omega
            have R2 := Lib.hid (show spanO l = some (n, m) by rw [R.out]; simp [spanJ, hnm])
            clear R hnm
            have HN := Lib.hid hn; have HM := Lib.hid hm; clear hn hm
            go_wp2
            go_ret3
            exact ⟨spanR_of rfl (by rw [R2.out]; rfl) b1 b2 (fun a b h => by
              rw [R2.out] at h; injection h with h; injection h with h1 h2; have := HN.out; have := HM.out; omega), HX3.out⟩
          · have t1 : decide (vp ≤ vq) = false := by simp; omega
            have R2 := Lib.hid (show spanO l = none by rw [R.out]; simp [spanJ, hnm])
            clear R hnm hn hm
            go_wp2
            go_ret3
            exact ⟨spanR_of rfl (by rw [R2.out]; rfl) b1 b2 (fun a b h => by rw [R2.out] at h; cases h), HX3.out⟩
end Go.Proofs.YtjbobblnicnhnaaDoor
