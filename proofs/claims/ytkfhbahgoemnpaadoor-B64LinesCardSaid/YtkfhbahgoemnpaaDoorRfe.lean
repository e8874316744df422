/-
  ref03.letter, ref03.Encode.
-/
import Derived.Test.YtkfhbahgoemnpaaDoorRows
import Derived.Test.YtkfhbahgoemnpaaDoorStr
import Derived.Test.YtkfhbahgoemnpaaDoorCod
namespace Go.Proofs.YtkfhbahgoemnpaaDoor
open Go.RowKit
set_option linter.unusedVariables false
set_option linter.unusedSimpArgs false

def alph (url : Bool) : List UInt8 := if url then other else plain
theorem alph_at (url : Bool) : ∀ n, n < 64 → ((bt (alph url) n).toNat : Int) = if n < 26 then 65 + (n : Int) else if n < 52 then 97 + (n : Int) - 26 else if n < 62 then 48 + (n : Int) - 52 else if n = 62 then (if url then 45 else 43) else (if url then 95 else 47) := by
  cases url <;> decide +kernel
set_option maxHeartbeats 400000 in
theorem letter_any (url : Bool) (n : Nat) (hn : n < 64) (w : World) :
    Calls Tryd.prog 22 #[.int .i64 (n : Int), .bool url] w fun e w' => e = .returned (Byt (bt (alph url) n)) ∧ w' = w := by
  have ha := alph_at url n hn
  have hfin : ∀ z : Int, ((bt (alph url) n).toNat : Int) = z → Ending.returned (.int .u8 z) = Ending.returned (Byt (bt (alph url) n)) := fun z h => by simp only [Byt, h]
  rcases (show n < 26 ∨ (26 ≤ n ∧ n < 52) ∨ (52 ≤ n ∧ n < 62) ∨ n = 62 ∨ n = 63 by omega) with h | h | h | h | h
  · have H := Lib.hid hfin; have HA := Lib.hid ha; clear hfin ha
    go_enter Tryd.func22, Tryd.ntmps22
    go_wp2
    go_ret
    refine ⟨H.out _ ?_, rfl⟩
    rw [HA.out]
    repeat' split
    all_goals omega
  · have H := Lib.hid hfin; have HA := Lib.hid ha; clear hfin ha
    go_enter Tryd.func22, Tryd.ntmps22
    go_wp2
    go_ret
    refine ⟨H.out _ ?_, rfl⟩
    rw [HA.out]
    repeat' split
    all_goals omega
  · have H := Lib.hid hfin; have HA := Lib.hid ha; clear hfin ha
    go_enter Tryd.func22, Tryd.ntmps22
    go_wp2
    go_ret
    refine ⟨H.out _ ?_, rfl⟩
    rw [HA.out]
    repeat' split
    all_goals omega
  · subst h
    cases url
    · have H := Lib.hid hfin; have HA := Lib.hid ha; clear hfin ha
      go_enter Tryd.func22, Tryd.ntmps22
      go_wp2
      go_ret
      refine ⟨H.out _ ?_, rfl⟩
      rw [HA.out]
      rfl
    · have H := Lib.hid hfin; have HA := Lib.hid ha; clear hfin ha
      go_enter Tryd.func22, Tryd.ntmps22
      go_wp2
      go_ret
      refine ⟨H.out _ ?_, rfl⟩
      rw [HA.out]
      rfl
  · subst h
    cases url
    · have H := Lib.hid hfin; have HA := Lib.hid ha; clear hfin ha
      go_enter Tryd.func22, Tryd.ntmps22
      go_wp2
      go_ret
      refine ⟨H.out _ ?_, rfl⟩
      rw [HA.out]
      rfl
    · have H := Lib.hid hfin; have HA := Lib.hid ha; clear hfin ha
      go_enter Tryd.func22, Tryd.ntmps22
      go_wp2
      go_ret
      refine ⟨H.out _ ?_, rfl⟩
      rw [HA.out]
      rfl

def bitAt (l : List UInt8) (i : Nat) : Nat := (bt l (i / 8)).toNat / 2 ^ (7 - i % 8) % 2
def sixN (l : List UInt8) (a : Nat) : Nat → Nat
  | 0 => 0
  | k + 1 => 2 * sixN l a k + bitAt l (a + k)
def refN (A l : List UInt8) (n : Nat) : List UInt8 := (List.range n).map fun j => bt A (sixN l (6 * j) 6)
def refEnc (A : List UInt8) (f : Bool) (l : List UInt8) : List UInt8 :=
  let o := refN A l ((8 * l.length + 5) / 6)
  o ++ List.replicate (if f then (4 - o.length % 4) % 4 else 0) 61
theorem sixN_lt (l : List UInt8) (a : Nat) : ∀ k, sixN l a k < 2 ^ k
  | 0 => by simp [sixN]
  | k + 1 => by
    have := sixN_lt l a k
    have hb : bitAt l (a + k) < 2 := Nat.mod_lt _ (by omega)
    simp only [sixN, Nat.pow_succ]; omega
theorem refN_succ (A l : List UInt8) (n : Nat) : refN A l (n + 1) = refN A l n ++ [bt A (sixN l (6 * n) 6)] := by simp [refN, List.range_succ]
theorem refN_len (A l : List UInt8) (n : Nat) : (refN A l n).length = n := by simp [refN]

theorem u8_and1 : ∀ x : Nat, x < 256 → bits .and .u8 (x : Int) 1 = ((x % 2 : Nat) : Int) := by decide +kernel
theorem own_form' {w : World} {base e : Nat} {v : Value} {n : Nat} {l : List UInt8} (h : w.ownsRow base e 1 v n (l.map Byt)) : ∃ ao cap, v = .slice ao l.length cap ∧ l.length ≤ cap ∧ (ao = none → cap = 0) := by
  obtain ⟨ao, cap, hv, h1, _, h3, _⟩ := sl_of_own h
  rw [List.length_map] at hv h1
  exact ⟨ao, cap, hv, h1, h3⟩
def sliceLen : Value → Nat
  | .slice _ n _ => n
  | _ => 0
end Go.Proofs.YtkfhbahgoemnpaaDoor
