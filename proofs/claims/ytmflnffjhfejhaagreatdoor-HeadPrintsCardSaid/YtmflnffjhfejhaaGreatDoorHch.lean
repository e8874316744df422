/-
  Bytes and words of heads: seen, text, target, tchar, Token, small, host, at: the program's and the document's.
-/
import Derived.BigGuardPart
import Derived.Test.YtmflnffjhfejhaaGreatDoorRows
import Derived.Test.YtmflnffjhfejhaaGreatDoorChr
import Derived.Test.YtmflnffjhfejhaaGreatDoorPrt
import Derived.Test.YtmflnffjhfejhaaGreatDoorShf
namespace Go.Proofs.YtmflnffjhfejhaaGreatDoor
open Go.RowKit
set_option maxRecDepth 100000
set_option linter.unusedVariables false
set_option linter.unusedSimpArgs false

def seenC (c : UInt8) : Bool := decide (33 ≤ c.toNat ∧ c.toNat ≠ 127)
def textC (c : UInt8) : Bool := decide ((33 ≤ c.toNat ∧ c.toNat ≠ 127) ∨ c.toNat = 32 ∨ c.toNat = 9)
def signL : List UInt8 := [33, 35, 36, 37, 38, 39, 42, 43, 45, 46, 94, 95, 124, 126, 96]
def tchC (c : UInt8) : Bool := decide ((97 ≤ c.toNat ∧ c.toNat ≤ 122) ∨ (65 ≤ c.toNat ∧ c.toNat ≤ 90) ∨ (48 ≤ c.toNat ∧ c.toNat ≤ 57)) || signL.contains c
def hostC (c : UInt8) : Bool := decide ((97 ≤ c.toNat ∧ c.toNat ≤ 122) ∨ (65 ≤ c.toNat ∧ c.toNat ≤ 90) ∨ (48 ≤ c.toNat ∧ c.toNat ≤ 57) ∨ c.toNat = 46 ∨ c.toNat = 45 ∨ c.toNat = 95)
def textB (l : List UInt8) : Bool := l.all textC
def targetB (l : List UInt8) : Bool := l.all seenC && decide (0 < l.length)
def tokenB (l : List UInt8) : Bool := l.all tchC && decide (0 < l.length)
def hostB (l : List UInt8) : Bool := l.all hostC && (decide (0 < l.length) && decide (l.length ≤ 32))
theorem seen_any (c : UInt8) (w : World) : Calls Tryz.prog 50 #[.int .u8 (c.toNat : Int)] w fun e w' => e = .returned (.bool (seenC c)) ∧ w' = w := by
  have hc := c.toNat_lt
  have hs := Lib.hid (show seenC c = decide (33 ≤ c.toNat ∧ c.toNat ≠ 127) from rfl)
  go_enter Tryz.func50, Tryz.ntmps50
  go_wp2
  all_goals
    go_ret
    exact ⟨ret_bool (by rw [hs.out]; first | (symm; apply decide_eq_true; first | omega | (simp at *; omega)) | (symm; apply decide_eq_false; first | omega | (simp at *; omega)) | (rw [Bool.eq_iff_iff]; simp; omega)), rfl⟩
theorem seenR_any (c : UInt8) (w : World) : Calls Tryz.prog 42 #[.int .u8 (c.toNat : Int)] w fun e w' => e = .returned (.bool (seenC c)) ∧ w' = w := by
  have hc := c.toNat_lt
  have hs := Lib.hid (show seenC c = decide (33 ≤ c.toNat ∧ c.toNat ≠ 127) from rfl)
  go_enter Tryz.func42, Tryz.ntmps42
  go_wp2
  all_goals
    go_ret
    exact ⟨ret_bool (by rw [hs.out]; first | (symm; apply decide_eq_true; first | omega | (simp at *; omega)) | (symm; apply decide_eq_false; first | omega | (simp at *; omega)) | (rw [Bool.eq_iff_iff]; simp; omega)), rfl⟩
theorem sign_index (c : UInt8) : decide (0 ≤ Lib.index signL [c]) = signL.contains c := by
  have : ∀ n, n < 256 → decide (0 ≤ Lib.index signL [UInt8.ofNat n]) = signL.contains (UInt8.ofNat n) := by decide +kernel
  have h := this c.toNat c.toNat_lt
  rwa [UInt8.ofNat_toNat] at h
theorem sign_nat (c : UInt8) : signL.contains c = decide (c.toNat = 33 ∨ c.toNat = 35 ∨ c.toNat = 36 ∨ c.toNat = 37 ∨ c.toNat = 38 ∨ c.toNat = 39 ∨ c.toNat = 42 ∨ c.toNat = 43 ∨ c.toNat = 45 ∨ c.toNat = 46 ∨ c.toNat = 94 ∨ c.toNat = 95 ∨ c.toNat = 124 ∨ c.toNat = 126 ∨ c.toNat = 96) := by
  have : ∀ n, n < 256 → signL.contains (UInt8.ofNat n) = decide (n = 33 ∨ n = 35 ∨ n = 36 ∨ n = 37 ∨ n = 38 ∨ n = 39 ∨ n = 42 ∨ n = 43 ∨ n = 45 ∨ n = 46 ∨ n = 94 ∨ n = 95 ∨ n = 124 ∨ n = 126 ∨ n = 96) := by decide +kernel
  have h := this c.toNat c.toNat_lt
  rwa [UInt8.ofNat_toNat] at h
theorem tchar_any (c : UInt8) (w : World) : Calls Tryz.prog 49 #[.int .u8 (c.toNat : Int)] w fun e w' => e = .returned (.bool (tchC c)) ∧ w' = w := by
  have hc := c.toNat_lt
  have hs := Lib.hid (show tchC c = (decide ((97 ≤ c.toNat ∧ c.toNat ≤ 122) ∨ (65 ≤ c.toNat ∧ c.toNat ≤ 90) ∨ (48 ≤ c.toNat ∧ c.toNat ≤ 57)) || signL.contains c) from rfl)
  have hi := sign_index c
  have HI : Hid (∀ W, Calls Tryz.prog 69 #[.string ⟨signL.toArray⟩, .int .u8 (c.toNat : Int)] W fun e w' => e = .returned (.int .i64 (Lib.index signL [c])) ∧ w' = W) := Lib.hid (fun W => by
    have := Tryz.strings_IndexByte ⟨signL.toArray⟩ (c.toNat : Int) W
    have e : Lib.indexByte (⟨signL.toArray⟩ : ByteArray).data.toList ((c.toNat : Int).toNat.toUInt8) = Lib.index signL [c] := by
      have h2 : ((c.toNat : Int).toNat.toUInt8) = c := by simp
      rw [h2]
      have h3 : ∀ n, n < 256 → Lib.indexByte signL (UInt8.ofNat n) = Lib.index signL [UInt8.ofNat n] := by decide +kernel
      have := h3 c.toNat c.toNat_lt
      rwa [UInt8.ofNat_toNat] at this
    rw [e] at this
    exact this)
  generalize Lib.index signL [c] = x at *
  generalize signL.contains c = b at *
  by_cases hl : (97 ≤ c.toNat ∧ c.toNat ≤ 122) ∨ (65 ≤ c.toNat ∧ c.toNat ≤ 90) ∨ (48 ≤ c.toNat ∧ c.toNat ≤ 57)
  · have HT := Lib.hid (show tchC c = true by rw [hs.out, decide_eq_true hl]; rfl)
    clear hs hi
    go_enter Tryz.func49, Tryz.ntmps49
    go_wp2_with (go_at_call 69; refine (HI.out _).mono ?_; rintro e w' ⟨rfl, rfl⟩)
    all_goals first
      | omega
      | (go_ret; exact ⟨by rw [HT.out]; rfl, rfl⟩)
  · have HT := Lib.hid (show tchC c = b by rw [hs.out, decide_eq_false hl]; rfl)
    clear hs
    go_enter Tryz.func49, Tryz.ntmps49
    go_wp2_with (go_at_call 69; refine (HI.out _).mono ?_; rintro e w' ⟨rfl, rfl⟩)
    all_goals first
      | omega
      | (go_ret; exact ⟨ret_bool (by rw [HT.out, ← hi]), rfl⟩)
      | (exfalso; omega)
theorem tchC_dec (c : UInt8) : tchC c = decide (((97 ≤ c.toNat ∧ c.toNat ≤ 122) ∨ (65 ≤ c.toNat ∧ c.toNat ≤ 90) ∨ (48 ≤ c.toNat ∧ c.toNat ≤ 57)) ∨ (c.toNat = 33 ∨ c.toNat = 35 ∨ c.toNat = 36 ∨ c.toNat = 37 ∨ c.toNat = 38 ∨ c.toNat = 39 ∨ c.toNat = 42 ∨ c.toNat = 43 ∨ c.toNat = 45 ∨ c.toNat = 46 ∨ c.toNat = 94 ∨ c.toNat = 95 ∨ c.toNat = 124 ∨ c.toNat = 126 ∨ c.toNat = 96)) := by
  unfold tchC
  rw [sign_nat, Bool.eq_iff_iff]
  simp only [Bool.or_eq_true, decide_eq_true_eq]
set_option maxHeartbeats 2000000 in
theorem tcharR_any (c : UInt8) (w : World) : Calls Tryz.prog 41 #[.int .u8 (c.toNat : Int)] w fun e w' => e = .returned (.bool (tchC c)) ∧ w' = w := by
  have hc := c.toNat_lt
  have hs := Lib.hid (tchC_dec c)
  go_enter Tryz.func41, Tryz.ntmps41
  go_wp2
  all_goals
    go_ret
    exact ⟨ret_bool (by rw [hs.out]; first | (symm; apply decide_eq_true; first | omega | (simp at *; omega)) | (symm; apply decide_eq_false; first | omega | (simp at *; omega))), rfl⟩
set_option maxHeartbeats 1000000 in
theorem target_any (l : List UInt8) (hl : l.length ≤ 100000) (w : World) :
    Calls Tryz.prog 33 #[Str l] w fun e w' => e = .returned (.bool (targetB l)) ∧ w' = w := by
  have hixl : ∀ i, i < l.length → ∀ W, (Instr.index 9 (Str l) (.int .i64 (i : Int))).run Tryz.prog W = .ok (Byt (bt l i)) W := fun i hi W => run_index_str Tryz.underlying9 l i _ rfl hi W
  have HI := Lib.hid hixl; clear hixl
  have HS := Lib.hid (fun c W => seen_any c W)
  have hnf := Lib.hid (show targetB l = (l.all seenC && decide (0 < l.length)) from rfl)
  go_enter Tryz.func33, Tryz.ntmps33
  go_wp2
  go_loop [6] (fun i => ∃ k : Nat, k ≤ l.length ∧ i = .int .i64 k ∧ (l.take k).all seenC = true) (fun i => l.length - (intOf i).toNat)
  case atStart => exact ⟨0, by omega, rfl, by simp⟩
  case round =>
    obtain ⟨k, hk, rfl, hall⟩ := hrel
    by_cases h3 : k < l.length
    · have hix := HI.out k h3
      have HB := Lib.hid (all_step seenC l k h3 hall)
      clear hall
      have HC := Lib.hid (HS.out (bt l k))
      generalize bt l k = c at *
      have hcb := c.toNat_lt
      generalize seenC c = b at *
      cases b with
      | true =>
        go_wp2_with (go_at_call 50; refine (HC.out _).mono ?_; rintro e w' ⟨rfl, rfl⟩)
        go_round
        case rel => exact ⟨k + 1, by omega, by go_num, HB.out.1 (by simp)⟩
        case measure => simp [intOf] <;> omega
      | false =>
        go_wp2_with (go_at_call 50; refine (HC.out _).mono ?_; rintro e w' ⟨rfl, rfl⟩)
        go_ret
        exact ⟨by rw [hnf.out, HB.out.2 (by simp)]; rfl, rfl⟩
    · have hkl : k = l.length := by omega
      subst hkl
      rw [List.take_length] at hall
      rw [hall, Bool.true_and] at hnf
      clear hall
      go_wp2
      all_goals
        go_ret
        exact ⟨ret_bool (by rw [hnf.out, Bool.eq_iff_iff]; try simp [List.length_pos_iff]; try omega), rfl⟩
set_option maxHeartbeats 1000000 in
theorem targetR_any (l : List UInt8) (hl : l.length ≤ 100000) (w : World) :
    Calls Tryz.prog 26 #[Str l] w fun e w' => e = .returned (.bool (targetB l)) ∧ w' = w := by
  have hixl : ∀ i, i < l.length → ∀ W, (Instr.index 9 (Str l) (.int .i64 (i : Int))).run Tryz.prog W = .ok (Byt (bt l i)) W := fun i hi W => run_index_str Tryz.underlying9 l i _ rfl hi W
  have HI := Lib.hid hixl; clear hixl
  have HS := Lib.hid (fun c W => seenR_any c W)
  have hnf := Lib.hid (show targetB l = (l.all seenC && decide (0 < l.length)) from rfl)
  go_enter Tryz.func26, Tryz.ntmps26
  go_wp2
  go_loop [3] (fun i => ∃ k : Nat, k ≤ l.length ∧ i = .int .i64 k ∧ (l.take k).all seenC = true) (fun i => l.length - (intOf i).toNat)
  case atStart => exact ⟨0, by omega, rfl, by simp⟩
  case round =>
    obtain ⟨k, hk, rfl, hall⟩ := hrel
    by_cases h3 : k < l.length
    · have hix := HI.out k h3
      have HB := Lib.hid (all_step seenC l k h3 hall)
      clear hall
      have HC := Lib.hid (HS.out (bt l k))
      generalize bt l k = c at *
      have hcb := c.toNat_lt
      generalize seenC c = b at *
      cases b with
      | true =>
        go_wp2_with (go_at_call 42; refine (HC.out _).mono ?_; rintro e w' ⟨rfl, rfl⟩)
        go_round
        case rel => exact ⟨k + 1, by omega, by go_num, HB.out.1 (by simp)⟩
        case measure => simp [intOf] <;> omega
      | false =>
        go_wp2_with (go_at_call 42; refine (HC.out _).mono ?_; rintro e w' ⟨rfl, rfl⟩)
        go_ret
        exact ⟨by rw [hnf.out, HB.out.2 (by simp)]; rfl, rfl⟩
    · have hkl : k = l.length := by omega
      subst hkl
      rw [List.take_length] at hall
      rw [hall, Bool.true_and] at hnf
      clear hall
      go_wp2
      all_goals
        go_ret
        exact ⟨ret_bool (by rw [hnf.out, Bool.eq_iff_iff]; try simp [List.length_pos_iff]; try omega), rfl⟩
set_option maxHeartbeats 1000000 in
theorem token_any (l : List UInt8) (hl : l.length ≤ 100000) (w : World) :
    Calls Tryz.prog 32 #[Str l] w fun e w' => e = .returned (.bool (tokenB l)) ∧ w' = w := by
  have hixl : ∀ i, i < l.length → ∀ W, (Instr.index 9 (Str l) (.int .i64 (i : Int))).run Tryz.prog W = .ok (Byt (bt l i)) W := fun i hi W => run_index_str Tryz.underlying9 l i _ rfl hi W
  have HI := Lib.hid hixl; clear hixl
  have HS := Lib.hid (fun c W => tchar_any c W)
  have hnf := Lib.hid (show tokenB l = (l.all tchC && decide (0 < l.length)) from rfl)
  go_enter Tryz.func32, Tryz.ntmps32
  go_wp2
  go_loop [6] (fun i => ∃ k : Nat, k ≤ l.length ∧ i = .int .i64 k ∧ (l.take k).all tchC = true) (fun i => l.length - (intOf i).toNat)
  case atStart => exact ⟨0, by omega, rfl, by simp⟩
  case round =>
    obtain ⟨k, hk, rfl, hall⟩ := hrel
    by_cases h3 : k < l.length
    · have hix := HI.out k h3
      have HB := Lib.hid (all_step tchC l k h3 hall)
      clear hall
      have HC := Lib.hid (HS.out (bt l k))
      generalize bt l k = c at *
      have hcb := c.toNat_lt
      generalize tchC c = b at *
      cases b with
      | true =>
        go_wp2_with (go_at_call 49; refine (HC.out _).mono ?_; rintro e w' ⟨rfl, rfl⟩)
        go_round
        case rel => exact ⟨k + 1, by omega, by go_num, HB.out.1 (by simp)⟩
        case measure => simp [intOf] <;> omega
      | false =>
        go_wp2_with (go_at_call 49; refine (HC.out _).mono ?_; rintro e w' ⟨rfl, rfl⟩)
        go_ret
        exact ⟨by rw [hnf.out, HB.out.2 (by simp)]; rfl, rfl⟩
    · have hkl : k = l.length := by omega
      subst hkl
      rw [List.take_length] at hall
      rw [hall, Bool.true_and] at hnf
      clear hall
      go_wp2
      all_goals
        go_ret
        exact ⟨ret_bool (by rw [hnf.out, Bool.eq_iff_iff]; try simp [List.length_pos_iff]; try omega), rfl⟩
set_option maxHeartbeats 1000000 in
theorem tokenR_any (l : List UInt8) (hl : l.length ≤ 100000) (w : World) :
    Calls Tryz.prog 23 #[Str l] w fun e w' => e = .returned (.bool (tokenB l)) ∧ w' = w := by
  have hixl : ∀ i, i < l.length → ∀ W, (Instr.index 9 (Str l) (.int .i64 (i : Int))).run Tryz.prog W = .ok (Byt (bt l i)) W := fun i hi W => run_index_str Tryz.underlying9 l i _ rfl hi W
  have HI := Lib.hid hixl; clear hixl
  have HS := Lib.hid (fun c W => tcharR_any c W)
  have hnf := Lib.hid (show tokenB l = (l.all tchC && decide (0 < l.length)) from rfl)
  go_enter Tryz.func23, Tryz.ntmps23
  go_wp2
  go_loop [3] (fun i => ∃ k : Nat, k ≤ l.length ∧ i = .int .i64 k ∧ (l.take k).all tchC = true) (fun i => l.length - (intOf i).toNat)
  case atStart => exact ⟨0, by omega, rfl, by simp⟩
  case round =>
    obtain ⟨k, hk, rfl, hall⟩ := hrel
    by_cases h3 : k < l.length
    · have hix := HI.out k h3
      have HB := Lib.hid (all_step tchC l k h3 hall)
      clear hall
      have HC := Lib.hid (HS.out (bt l k))
      generalize bt l k = c at *
      have hcb := c.toNat_lt
      generalize tchC c = b at *
      cases b with
      | true =>
        go_wp2_with (go_at_call 41; refine (HC.out _).mono ?_; rintro e w' ⟨rfl, rfl⟩)
        go_round
        case rel => exact ⟨k + 1, by omega, by go_num, HB.out.1 (by simp)⟩
        case measure => simp [intOf] <;> omega
      | false =>
        go_wp2_with (go_at_call 41; refine (HC.out _).mono ?_; rintro e w' ⟨rfl, rfl⟩)
        go_ret
        exact ⟨by rw [hnf.out, HB.out.2 (by simp)]; rfl, rfl⟩
    · have hkl : k = l.length := by omega
      subst hkl
      rw [List.take_length] at hall
      rw [hall, Bool.true_and] at hnf
      clear hall
      go_wp2
      all_goals
        go_ret
        exact ⟨ret_bool (by rw [hnf.out, Bool.eq_iff_iff]; try simp [List.length_pos_iff]; try omega), rfl⟩
set_option maxHeartbeats 1000000 in
theorem text_any (l : List UInt8) (hl : l.length ≤ 100000) (w : World) :
    Calls Tryz.prog 40 #[Str l] w fun e w' => e = .returned (.bool (textB l)) ∧ w' = w := by
  have hixl : ∀ i, i < l.length → ∀ W, (Instr.index 9 (Str l) (.int .i64 (i : Int))).run Tryz.prog W = .ok (Byt (bt l i)) W := fun i hi W => run_index_str Tryz.underlying9 l i _ rfl hi W
  have HI := Lib.hid hixl; clear hixl
  have HS := Lib.hid (fun c W => seen_any c W)
  have hnf := Lib.hid (show textB l = l.all textC from rfl)
  go_enter Tryz.func40, Tryz.ntmps40
  go_wp2
  go_loop [6] (fun i => ∃ k : Nat, k ≤ l.length ∧ i = .int .i64 k ∧ (l.take k).all textC = true) (fun i => l.length - (intOf i).toNat)
  case atStart => exact ⟨0, by omega, rfl, by simp⟩
  case round =>
    obtain ⟨k, hk, rfl, hall⟩ := hrel
    by_cases h3 : k < l.length
    · have hix := HI.out k h3
      have HB := Lib.hid (all_step textC l k h3 hall)
      clear hall
      have HC := Lib.hid (HS.out (bt l k))
      generalize bt l k = c at *
      have hcb := c.toNat_lt
      have hse : seenC c = decide (33 ≤ c.toNat ∧ c.toNat ≠ 127) := rfl
      by_cases hs : 33 ≤ c.toNat ∧ c.toNat ≠ 127
      · rw [decide_eq_true hs] at hse
        rw [hse] at HC
        have HT := Lib.hid (HB.out.1 (decide_eq_true (.inl hs)))
        clear hse HB
        go_wp2_with (go_at_call 50; refine (HC.out _).mono ?_; rintro e w' ⟨rfl, rfl⟩)
        go_round
        case rel => exact ⟨k + 1, by omega, by go_num, HT.out⟩
        case measure => simp [intOf] <;> omega
      · rw [decide_eq_false hs] at hse
        rw [hse] at HC
        clear hse
        go_wp2_with (go_at_call 50; refine (HC.out _).mono ?_; rintro e w' ⟨rfl, rfl⟩)
        all_goals first
          | (go_round
             case rel => exact ⟨k + 1, by omega, by go_num, HB.out.1 (decide_eq_true (by first | omega | (simp at *; omega)))⟩
             case measure => simp [intOf] <;> omega)
          | (go_ret
             exact ⟨by rw [hnf.out, HB.out.2 (decide_eq_false (by first | omega | (simp at *; omega)))]; rfl, rfl⟩)
    · have hkl : k = l.length := by omega
      subst hkl
      rw [List.take_length] at hall
      have HN := Lib.hid (hnf.out.trans hall)
      clear hall hnf
      go_wp2
      go_ret
      exact ⟨by rw [HN.out]; rfl, rfl⟩
set_option maxHeartbeats 1000000 in
theorem textR_any (l : List UInt8) (hl : l.length ≤ 100000) (w : World) :
    Calls Tryz.prog 24 #[Str l] w fun e w' => e = .returned (.bool (textB l)) ∧ w' = w := by
  have hixl : ∀ i, i < l.length → ∀ W, (Instr.index 9 (Str l) (.int .i64 (i : Int))).run Tryz.prog W = .ok (Byt (bt l i)) W := fun i hi W => run_index_str Tryz.underlying9 l i _ rfl hi W
  have HI := Lib.hid hixl; clear hixl
  have HS := Lib.hid (fun c W => seenR_any c W)
  have hnf := Lib.hid (show textB l = l.all textC from rfl)
  go_enter Tryz.func24, Tryz.ntmps24
  go_wp2
  go_loop [3] (fun i => ∃ k : Nat, k ≤ l.length ∧ i = .int .i64 k ∧ (l.take k).all textC = true) (fun i => l.length - (intOf i).toNat)
  case atStart => exact ⟨0, by omega, rfl, by simp⟩
  case round =>
    obtain ⟨k, hk, rfl, hall⟩ := hrel
    by_cases h3 : k < l.length
    · have hix := HI.out k h3
      have HB := Lib.hid (all_step textC l k h3 hall)
      clear hall
      have HC := Lib.hid (HS.out (bt l k))
      generalize bt l k = c at *
      have hcb := c.toNat_lt
      have hse : seenC c = decide (33 ≤ c.toNat ∧ c.toNat ≠ 127) := rfl
      by_cases hs : 33 ≤ c.toNat ∧ c.toNat ≠ 127
      · rw [decide_eq_true hs] at hse
        rw [hse] at HC
        have HT := Lib.hid (HB.out.1 (decide_eq_true (.inl hs)))
        clear hse HB
        go_wp2_with (go_at_call 42; refine (HC.out _).mono ?_; rintro e w' ⟨rfl, rfl⟩)
        go_round
        case rel => exact ⟨k + 1, by omega, by go_num, HT.out⟩
        case measure => simp [intOf] <;> omega
      · rw [decide_eq_false hs] at hse
        rw [hse] at HC
        clear hse
        go_wp2_with (go_at_call 42; refine (HC.out _).mono ?_; rintro e w' ⟨rfl, rfl⟩)
        all_goals first
          | (go_round
             case rel => exact ⟨k + 1, by omega, by go_num, HB.out.1 (decide_eq_true (by first | omega | (simp at *; omega)))⟩
             case measure => simp [intOf] <;> omega)
          | (go_ret
             exact ⟨by rw [hnf.out, HB.out.2 (decide_eq_false (by first | omega | (simp at *; omega)))]; rfl, rfl⟩)
    · have hkl : k = l.length := by omega
      subst hkl
      rw [List.take_length] at hall
      have HN := Lib.hid (hnf.out.trans hall)
      clear hall hnf
      go_wp2
      go_ret
      exact ⟨by rw [HN.out]; rfl, rfl⟩
theorem headsmall_any (c : UInt8) (w : World) : Calls Tryz.prog 54 #[.int .u8 (c.toNat : Int)] w fun e w' => e = .returned (.int .u8 ((lowB c).toNat : Int)) ∧ w' = w := by
  have hc := c.toNat_lt
  by_cases h1 : 65 ≤ c.toNat ∧ c.toNat ≤ 90
  · have HL := Lib.hid (show ((lowB c).toNat : Int) = (c.toNat : Int) - 65 + 97 by unfold lowB; rw [if_pos h1, UInt8.toNat_ofNat']; omega)
    have t1 : decide ((65 : Int) ≤ (c.toNat : Int)) = true := by simp; omega
    have t2 : decide ((c.toNat : Int) ≤ 90) = true := by simp; omega
    go_enter Tryz.func54, Tryz.ntmps54
    go_wp2
    go_ret
    exact ⟨by rw [HL.out]; first | rfl | go_num, rfl⟩
  · have HL := Lib.hid (show lowB c = c by unfold lowB; rw [if_neg h1])
    go_enter Tryz.func54, Tryz.ntmps54
    go_wp2
    all_goals first
      | omega
      | (go_ret; exact ⟨by rw [HL.out]; rfl, rfl⟩)
theorem low_host (c : UInt8) : hostC c = decide ((97 ≤ (lowB c).toNat ∧ (lowB c).toNat ≤ 122) ∨ (48 ≤ (lowB c).toNat ∧ (lowB c).toNat ≤ 57) ∨ (lowB c).toNat = 46 ∨ (lowB c).toNat = 45 ∨ (lowB c).toNat = 95) := by
  have : ∀ n, n < 256 → hostC (UInt8.ofNat n) = decide ((97 ≤ (lowB (UInt8.ofNat n)).toNat ∧ (lowB (UInt8.ofNat n)).toNat ≤ 122) ∨ (48 ≤ (lowB (UInt8.ofNat n)).toNat ∧ (lowB (UInt8.ofNat n)).toNat ≤ 57) ∨ (lowB (UInt8.ofNat n)).toNat = 46 ∨ (lowB (UInt8.ofNat n)).toNat = 45 ∨ (lowB (UInt8.ofNat n)).toNat = 95) := by decide +kernel
  have h := this c.toNat c.toNat_lt
  rwa [UInt8.ofNat_toNat] at h
set_option maxHeartbeats 1000000 in
theorem host_any (l : List UInt8) (hl : l.length ≤ 100000) (w : World) :
    Calls Tryz.prog 37 #[Str l] w fun e w' => e = .returned (.bool (hostB l)) ∧ w' = w := by
  have hixl : ∀ i, i < l.length → ∀ W, (Instr.index 9 (Str l) (.int .i64 (i : Int))).run Tryz.prog W = .ok (Byt (bt l i)) W := fun i hi W => run_index_str Tryz.underlying9 l i _ rfl hi W
  have HI := Lib.hid hixl; clear hixl
  have hnf := Lib.hid (show hostB l = (l.all hostC && (decide (0 < l.length) && decide (l.length ≤ 32))) from rfl)
  go_enter Tryz.func37, Tryz.ntmps37
  go_wp2
  go_loop [7] (fun i => ∃ k : Nat, k ≤ l.length ∧ i = .int .i64 k ∧ (l.take k).all hostC = true) (fun i => l.length - (intOf i).toNat)
  case atStart => exact ⟨0, by omega, rfl, by simp⟩
  case round =>
    obtain ⟨k, hk, rfl, hall⟩ := hrel
    by_cases h3 : k < l.length
    · have hix := HI.out k h3
      have hb := all_step hostC l k h3 hall
      rw [low_host] at hb
      have HB := Lib.hid hb
      clear hall hb
      have HC := Lib.hid (headsmall_any (bt l k))
      have hcb := (lowB (bt l k)).toNat_lt
      generalize lowB (bt l k) = d at *
      go_wp2_with (go_at_call 54; refine (HC.out _).mono ?_; rintro e w' ⟨rfl, rfl⟩)
      all_goals first
        | (go_round
           case rel => exact ⟨k + 1, by omega, by go_num, HB.out.1 (decide_eq_true (by first | omega | (simp at *; omega)))⟩
           case measure => simp [intOf] <;> omega)
        | (go_ret
           exact ⟨by rw [hnf.out, HB.out.2 (decide_eq_false (by first | omega | (simp at *; omega)))]; rfl, rfl⟩)
    · have hkl : k = l.length := by omega
      subst hkl
      rw [List.take_length] at hall
      rw [hall, Bool.true_and] at hnf
      clear hall
      by_cases h0 : l = []
      · subst h0
        go_wp2
        go_ret
        exact ⟨by rw [hnf.out]; rfl, rfl⟩
      · have hpos : 0 < l.length := List.length_pos_iff.2 h0
        have hie : l.isEmpty = false := by simpa using h0
        go_wp2
        all_goals
          go_ret
          exact ⟨ret_bool (by rw [hnf.out, Bool.eq_iff_iff]; simp; first | omega | (intros; omega)), rfl⟩
/-- Where a byte is first. -/
def atI (l : List UInt8) (b : UInt8) : Int := Lib.index l [b]
set_option maxHeartbeats 1000000 in
theorem at_any (l : List UInt8) (b : UInt8) (hl : l.length ≤ 100000) (w : World) :
    Calls Tryz.prog 22 #[Str l, .int .u8 (b.toNat : Int)] w fun e w' => e = .returned (.int .i64 (atI l b)) ∧ w' = w := by
  have hixl : ∀ i, i < l.length → ∀ W, (Instr.index 9 (Str l) (.int .i64 (i : Int))).run Tryz.prog W = .ok (Byt (bt l i)) W := fun i hi W => run_index_str Tryz.underlying9 l i _ rfl hi W
  have HI := Lib.hid hixl; clear hixl
  have hi := Lib.hid (index_one_cases l b)
  have hb := b.toNat_lt
  go_enter Tryz.func22, Tryz.ntmps22
  go_wp2
  go_loop [5] (fun i => ∃ k : Nat, k ≤ l.length ∧ i = .int .i64 k ∧ b ∉ l.take k) (fun i => l.length - (intOf i).toNat)
  case atStart => exact ⟨0, by omega, rfl, by simp⟩
  case round =>
    obtain ⟨k, hk, rfl, hno⟩ := hrel
    by_cases h3 : k < l.length
    · have hix := HI.out k h3
      have HT := Lib.hid (take_snoc l k h3)
      have HNO := Lib.hid hno
      have HG := Lib.hid (bt_some l k h3)
      clear hno
      by_cases he : bt l k = b
      · have t1 : (((bt l k).toNat : Int) == (b.toNat : Int)) = true := by rw [he]; simp
        have HA : Hid (atI l b = (k : Int)) := Lib.hid (by
          unfold atI
          rcases hi.out with ⟨_, h2⟩ | ⟨i, h1, h2, h4, h5⟩
          · exact absurd (by rw [← he]; have := HG.out; exact List.mem_of_getElem? this) h2
          · rw [h1]
            have : ¬ i < k := fun hik => HNO.out (by
              rw [List.mem_take_iff_getElem]
              refine ⟨i, by omega, ?_⟩
              have h7 : (l.take i ++ b :: l.drop (i + 1))[i]? = some b := by
                rw [List.getElem?_append_right (by simp; omega)]
                simp [Nat.min_eq_left (Nat.le_of_lt h2)]
              have h6 : l[i]? = some b := by rwa [← h4] at h7
              exact (List.getElem?_eq_some_iff.1 h6).2)
            have : ¬ k < i := fun hki => h5 (by
              rw [List.mem_take_iff_getElem]
              exact ⟨k, by omega, by rw [← he, bt_get l k h3]⟩)
            omega)
        clear he
        generalize bt l k = c at *
        go_wp2
        go_ret
        exact ⟨by rw [HA.out]; rfl, rfl⟩
      · have t1 : (((bt l k).toNat : Int) == (b.toNat : Int)) = false := by
          rw [beq_eq_false_iff_ne]; intro h; exact he (UInt8.toNat_inj.1 (by omega))
        have HN : Hid (b ∉ l.take (k + 1)) := Lib.hid (by
          rw [HT.out, List.mem_append, not_or]
          exact ⟨HNO.out, by simp; exact fun h => he h.symm⟩)
        clear he
        generalize bt l k = c at *
        go_wp2
        go_round
        case rel => exact ⟨k + 1, by omega, by go_num, HN.out⟩
        case measure => simp [intOf] <;> omega
    · have hkl : k = l.length := by omega
      subst hkl
      rw [List.take_length] at hno
      have HA : Hid (atI l b = -1) := Lib.hid (by
        unfold atI
        rcases hi.out with ⟨h1, _⟩ | ⟨i, h1, h2, h4, h5⟩
        · exact h1
        · exact absurd (by rw [h4]; simp) hno)
      clear hno
      go_wp2
      go_ret
      exact ⟨by rw [HA.out]; rfl, rfl⟩
end Go.Proofs.YtmflnffjhfejhaaGreatDoor
