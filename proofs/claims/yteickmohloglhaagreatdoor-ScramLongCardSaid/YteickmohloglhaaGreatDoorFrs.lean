/-
  scram.escaped at plain texts, scram.Nonce, ref07.Nonce, letter, flag.
-/
import Derived.Test.YteickmohloglhaaGreatDoorRows
import Derived.Test.YteickmohloglhaaGreatDoorShf
import Derived.Test.YteickmohloglhaaGreatDoorVls
namespace Go.Proofs.YteickmohloglhaaGreatDoor
open Go.RowKit Go.Shelf
set_option maxRecDepth 100000
set_option linter.unusedVariables false
set_option linter.unusedSimpArgs false

theorem escaped_pln (l : List UInt8) (hl : l.length ≤ 10000) (h0 : l ≠ []) (hp : pln l) (w : World) (hF : FormsAt w) :
    Calls Tryz.prog 19 #[Str l] w fun e w' => e = .returned (.tuple #[Str l, .bool true]) ∧ Ext w w' := by
  have HU := Lib.hid (Unescape_pln l hl hp w)
  go_enter Tryz.func19, Tryz.ntmps19
  go_wp2_with fail
  refine HU.out.mono ?_
  rintro e W1 ⟨he, hx⟩
  subst he
  have HV := Lib.hid (value_pln l hl h0 hp W1 (hF.ext hx))
  go_wp2_with fail
  refine HV.out.mono ?_
  rintro e W2 ⟨he, hx2⟩
  subst he
  go_wp2_with fail
  go_ret2
  exact ⟨rfl, hx.trans (hx2.mono hx.size)⟩

def nonB (c : UInt8) : Bool := decide (33 ≤ c.toNat) && (decide (c.toNat ≤ 126) && (c.toNat != 44))
/-- Is a text a nonce? -/
def nonF (l : List UInt8) : Bool := l.all nonB && (decide (0 < l.length) && decide (l.length ≤ 64))
theorem all_snoc (l : List UInt8) (k : Nat) (h : k < l.length) : (l.take (k + 1)).all nonB = ((l.take k).all nonB && nonB (bt l k)) := by rw [take_snoc l k h]; simp
theorem all_take (l : List UInt8) (k : Nat) (h : (l.take k).all nonB = false) : l.all nonB = false := by
  cases hg : l.all nonB with
  | false => rfl
  | true =>
    rw [← h]; simp only [List.all_eq_true] at hg ⊢
    exact (List.all_eq_true.2 fun x hx => hg x (List.mem_of_mem_take hx)).symm
set_option maxHeartbeats 1000000 in
theorem nonce_scram (l : List UInt8) (hl : l.length ≤ 100000) (w : World) :
    Calls Tryz.prog 40 #[Str l] w fun e w' => e = .returned (.bool (nonF l)) ∧ w' = w := by
  have hixl : ∀ i, i < l.length → ∀ W, (Instr.index 9 (Str l) (.int .i64 (i : Int))).run Tryz.prog W = .ok (Byt (bt l i)) W := fun i hi W => run_index_str Tryz.underlying9 l i _ rfl hi W
  have HI := Lib.hid hixl; clear hixl
  have hnf := Lib.hid (show nonF l = (l.all nonB && (decide (0 < l.length) && decide (l.length ≤ 64))) from rfl)
  go_enter Tryz.func40, Tryz.ntmps40
  go_wp2
  go_loop [6] (fun i => ∃ k : Nat, k ≤ l.length ∧ i = .int .i64 k ∧ (l.take k).all nonB = true) (fun i => l.length - (intOf i).toNat)
  case atStart => exact ⟨0, by omega, rfl, by simp⟩
  case round =>
    obtain ⟨k, hk, rfl, hall⟩ := hrel
    by_cases h3 : k < l.length
    · have hix := HI.out k h3
      have hs := all_snoc l k h3
      rw [hall, Bool.true_and] at hs
      have HB := Lib.hid (all_take l (k + 1))
      have HS := Lib.hid hs
      clear hs hall
      generalize bt l k = c at *
      have hcb := c.toNat_lt
      cases hc : nonB c with
      | true =>
        have h1 : 33 ≤ c.toNat ∧ c.toNat ≤ 126 ∧ c.toNat ≠ 44 := by simpa [nonB] using hc
        have HC := Lib.hid (HS.out.trans hc)
        have t1 : decide ((c.toNat : Int) < 33) = false := by simp; omega
        have t2 : decide ((126 : Int) < (c.toNat : Int)) = false := by simp; omega
        have t3 : ((c.toNat : Int) == 44) = false := by simp; omega
        clear hc h1
        go_wp2
        go_round
        case rel => exact ⟨k + 1, by omega, by go_num, HC.out⟩
        case measure => simp [intOf] <;> omega
      | false =>
        have HF := Lib.hid (HB.out (HS.out.trans hc))
        have h1 : c.toNat < 33 ∨ (33 ≤ c.toNat ∧ 126 < c.toNat) ∨ c.toNat = 44 := by
          simp [nonB] at hc; omega
        clear hc
        rcases h1 with h1 | ⟨h1, h2⟩ | h1
        · have t1 : decide ((c.toNat : Int) < 33) = true := by simp; omega
          go_wp2
          go_ret
          exact ⟨by rw [hnf.out, HF.out]; rfl, rfl⟩
        · have t1 : decide ((c.toNat : Int) < 33) = false := by simp; omega
          have t2 : decide ((126 : Int) < (c.toNat : Int)) = true := by simp; omega
          go_wp2
          go_ret
          exact ⟨by rw [hnf.out, HF.out]; rfl, rfl⟩
        · have t1 : decide ((c.toNat : Int) < 33) = false := by simp; omega
          have t2 : decide ((126 : Int) < (c.toNat : Int)) = false := by simp; omega
          have t3 : ((c.toNat : Int) == 44) = true := by simp; omega
          go_wp2
          go_ret
          exact ⟨by rw [hnf.out, HF.out]; rfl, rfl⟩
    · have hkl : k = l.length := by omega
      subst hkl
      rw [List.take_length] at hall
      rw [hall, Bool.true_and] at hnf
      have hne : (l == []) = !decide (0 < l.length) := by cases l <;> simp
      clear hall
      by_cases e1 : 0 < l.length
      · have u1 : (l == []) = false := by rw [hne]; simp [e1]
        by_cases e2 : l.length ≤ 64
        · have u3 : decide (64 < (l.length : Int)) = false := by simp; omega
          have u2 : decide ((l.length : Int) ≤ 64) = true := by simp; omega
          have u4 : decide ((1 : Int) ≤ (l.length : Int)) = true := by simp; omega
          have R := Lib.hid (show nonF l = true by rw [hnf.out]; simp [e1, e2])
          clear hne hnf
          go_wp2
          go_ret
          exact ⟨by rw [R.out]; rfl, rfl⟩
        · have u2 : decide ((l.length : Int) ≤ 64) = false := by simp; omega
          have u4 : decide ((1 : Int) ≤ (l.length : Int)) = true := by simp; omega
          have R := Lib.hid (show nonF l = false by rw [hnf.out]; simp [e2])
          clear hne hnf
          go_wp2
          go_ret
          exact ⟨by rw [R.out]; rfl, rfl⟩
      · have u1 : (l == []) = true := by rw [hne]; simp [e1]
        have u4 : decide ((1 : Int) ≤ (l.length : Int)) = false := by simp; omega
        have R := Lib.hid (show nonF l = false by rw [hnf.out]; simp [e1])
        clear hne hnf
        go_wp2
        go_ret
        exact ⟨by rw [R.out]; rfl, rfl⟩
end Go.Proofs.YteickmohloglhaaGreatDoor
