/-
  Hexadecimal digits, both ways (plain).
-/
import Derived.Test.YtpndahmlbjhdfaaDoorBkt
namespace Go.Proofs.YtpndahmlbjhdfaaDoor
set_option maxRecDepth 100000
set_option linter.unusedVariables false
set_option linter.unusedSimpArgs false
theorem unhN_cons (a b : UInt8) (l : List UInt8) (n : Nat) : unhN (a :: b :: l) (n + 1) = UInt8.ofNat (numH [a, b]) :: unhN l n := by
  simp only [unhN, List.range_succ_eq_map, List.map_cons, List.map_map]
  refine congr (congrArg _ rfl) (List.map_congr_left fun j _ => ?_)
  simp only [Function.comp, pc]
  rw [show 2 * (j + 1) = 2 * j + 2 by omega]
  rfl
theorem okH_cons (a b : UInt8) (l : List UInt8) (n : Nat) : okH (a :: b :: l) (n + 1) = (grpH [a, b] && okH l n) := by
  simp only [okH, List.range_succ_eq_map, List.all_cons, List.all_map]
  refine congr (congrArg _ rfl) (congrArg (fun f => List.all (List.range n) f) (funext fun j => ?_))
  simp only [Function.comp, pc]
  rw [show 2 * (j + 1) = 2 * j + 2 by omega]
  rfl
theorem hex_all : ∀ n, n < 256 → numH [bt hexd (n / 16), bt hexd (n % 16)] = n ∧ grpH [bt hexd (n / 16), bt hexd (n % 16)] = true := by decide +kernel
theorem unh_hex : ∀ p : List UInt8, unhN (hexL p) p.length = p ∧ okH (hexL p) p.length = true
  | [] => ⟨rfl, rfl⟩
  | c :: p => by
    obtain ⟨h1, h2⟩ := unh_hex p
    obtain ⟨e1, e2⟩ := hex_all c.toNat c.toNat_lt
    simp only [hexL, List.length_cons]
    rw [unhN_cons, okH_cons, h1, h2, e1, e2, UInt8.ofNat_toNat]
    exact ⟨rfl, rfl⟩
theorem unhR_hex (p : List UInt8) : unhR (hexL p) = (p, 0) := by
  obtain ⟨h1, h2⟩ := unh_hex p
  have e : ((hexL p).length + 1) / 2 = p.length := by rw [hexL_len]; omega
  rw [unhR, if_pos (by rw [hexL_len]; omega), e, h1, h2]
  simp

/-! ### Letters -/
theorem hexI_back (c : UInt8) (h : (hexI c != -1) = true) : ∃ v : Nat, v < 16 ∧ hexI c = (v : Int) ∧ bt hexd v = c := by
  have hr := hexI_range c
  have hne : hexI c ≠ -1 := by simpa using h
  obtain ⟨v, hv⟩ := Int.eq_ofNat_of_zero_le (show 0 ≤ hexI c by omega)
  have hv16 : v < 16 := by omega
  exact ⟨v, hv16, hv, (hexI_at v hv16 c).2 hv⟩
theorem hex_canon : ∀ (n : Nat) (s : List UInt8), s.length = 2 * n → okH s n = true → hexL (unhN s n) = s
  | 0, s, h, _ => by
    obtain rfl : s = [] := List.eq_nil_of_length_eq_zero (by omega)
    rfl
  | n + 1, s, h, hok => by
    match s, h, hok with
    | a :: b :: s, h, hok =>
      rw [okH_cons] at hok
      simp only [Bool.and_eq_true, grpH, List.all_cons, List.all_nil, Bool.and_true] at hok
      obtain ⟨⟨h1, h2⟩, h3⟩ := hok
      obtain ⟨va, la, ea, ba⟩ := hexI_back a h1
      obtain ⟨vb, lb, eb, bb⟩ := hexI_back b h2
      rw [unhN_cons]
      simp only [hexL]
      rw [hex_canon n s (by simp only [List.length_cons] at h; omega) h3]
      have e : (UInt8.ofNat (numH [a, b])).toNat = va * 16 + vb := by
        simp only [numH, List.foldl_cons, List.foldl_nil, ea, eb, Int.toNat_natCast]
        rw [UInt8.toNat_ofNat']; omega
      rw [e, show (va * 16 + vb) / 16 = va by omega, show (va * 16 + vb) % 16 = vb by omega, ba, bb]
    | [], h, _ => simp at h
    | [a], h, _ => simp at h; omega
theorem unhR_canon (s : List UInt8) (h : (unhR s).2 = 0) : hexL (unhR s).1 = s := by
  unfold unhR at h ⊢
  by_cases h1 : s.length % 2 = 0
  · by_cases h2 : okH s ((s.length + 1) / 2) = true
    · rw [if_pos h1, if_pos h2]
      exact hex_canon _ s (by omega) h2
    · rw [if_pos h1, if_neg h2] at h; simp at h
  · rw [if_neg h1] at h; simp at h

/-! ### Letters -/
end Go.Proofs.YtpndahmlbjhdfaaDoor
