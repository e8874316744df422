/-
  ref09.trim.
-/
import Derived.BigGuardPart
import Derived.Test.YtmflnffjhfejhaaGreatDoorRows
import Derived.Test.YtmflnffjhfejhaaGreatDoorHfl
import Derived.Test.YtmflnffjhfejhaaGreatDoorHli
namespace Go.Proofs.YtmflnffjhfejhaaGreatDoor
open Go.RowKit
set_option maxRecDepth 100000
set_option linter.unusedVariables false
set_option linter.unusedSimpArgs false

def spC (c : UInt8) : Bool := ([32, 9] : List UInt8).contains c
theorem dropW_all (p s : List UInt8) (h : p.all spC = true) : (p ++ s).dropWhile spC = s.dropWhile spC := by
  induction p with
  | nil => rfl
  | cons a p ih =>
    simp only [List.all_cons, Bool.and_eq_true] at h
    rw [List.cons_append, List.dropWhile_cons, if_pos h.1]
    exact ih h.2
theorem trimL_eq (p s : List UInt8) (h : p.all spC = true) (hs : s = [] ∨ ∃ c t, s = c :: t ∧ spC c = false) : Lib.trimLeftS (p ++ s) [32, 9] = s := by
  show (p ++ s).dropWhile spC = s
  rw [dropW_all p s h]
  rcases hs with rfl | ⟨c, t, rfl, hc⟩
  · rfl
  · rw [List.dropWhile_cons, if_neg (by simp [hc])]
theorem trimR_eq (s q : List UInt8) (h : q.all spC = true) (hs : s = [] ∨ ∃ t c, s = t ++ [c] ∧ spC c = false) : Lib.trimRightS (s ++ q) [32, 9] = s := by
  show ((s ++ q).reverse.dropWhile spC).reverse = s
  rw [List.reverse_append, dropW_all _ _ (by rw [List.all_reverse]; exact h)]
  rcases hs with rfl | ⟨t, c, rfl, hc⟩
  · rfl
  · rw [List.reverse_append, List.reverse_singleton, List.singleton_append, List.dropWhile_cons, if_neg (by simp [hc])]
    simp
theorem all_or (l : List UInt8) : l.all spC = true ∨ ∃ p c s, l = p ++ c :: s ∧ p.all spC = true ∧ spC c = false := by
  induction l with
  | nil => exact .inl rfl
  | cons a l ih =>
    cases ha : spC a with
    | false => exact .inr ⟨[], a, l, rfl, rfl, ha⟩
    | true =>
      rcases ih with h | ⟨p, c, s, rfl, hp, hc⟩
      · left; simp only [List.all_cons, ha, h, Bool.and_self]
      · exact .inr ⟨a :: p, c, s, rfl, by simp only [List.all_cons, ha, hp, Bool.and_self], hc⟩
theorem all_or' (l : List UInt8) : l.all spC = true ∨ ∃ p c s, l = p ++ c :: s ∧ s.all spC = true ∧ spC c = false := by
  rcases all_or l.reverse with h | ⟨p, c, s, he, hp, hc⟩
  · left; rwa [List.all_reverse] at h
  · refine .inr ⟨s.reverse, c, p.reverse, ?_, by rw [List.all_reverse]; exact hp, hc⟩
    have := congrArg List.reverse he
    rw [List.reverse_reverse] at this
    rw [this]; simp
theorem trimS_comm (l : List UInt8) : Lib.trimS l [32, 9] = Lib.trimRightS (Lib.trimLeftS l [32, 9]) [32, 9] := by
  unfold Lib.trimS
  rcases all_or l with h | ⟨p, c, s, rfl, hp, hc⟩
  · have h1 : Lib.trimRightS l [32, 9] = [] := trimR_eq [] l h (.inl rfl)
    have h2 : Lib.trimLeftS l [32, 9] = [] := by have := trimL_eq l [] h (.inl rfl); rwa [List.append_nil] at this
    rw [h1, h2]; rfl
  · have h2 : Lib.trimLeftS (p ++ c :: s) [32, 9] = c :: s := trimL_eq p _ hp (.inr ⟨c, s, rfl, hc⟩)
    rw [h2]
    -- the last that stays
    have key : ∃ m q, c :: s = m ++ q ∧ q.all spC = true ∧ (∃ t d, m = t ++ [d] ∧ spC d = false) ∧ ∃ m', m = c :: m' := by
      rcases all_or' s with h | ⟨p', c', s', rfl, hp', hc'⟩
      · exact ⟨[c], s, rfl, h, ⟨[], c, rfl, hc⟩, [], rfl⟩
      · exact ⟨c :: (p' ++ [c']), s', by simp, hp', ⟨c :: p', c', rfl, hc'⟩, _, rfl⟩
    obtain ⟨m, q, he, hq, hm, m', hm'⟩ := key
    have h3 : Lib.trimRightS (c :: s) [32, 9] = m := by rw [he]; exact trimR_eq m q hq (.inr hm)
    obtain ⟨t, d, hm, hd⟩ := hm
    have h4 : Lib.trimRightS (p ++ c :: s) [32, 9] = p ++ m := by
      rw [he, ← List.append_assoc]
      exact trimR_eq (p ++ m) q hq (.inr ⟨p ++ t, d, by rw [hm]; simp, hd⟩)
    rw [h3, h4, hm']
    exact trimL_eq p _ hp (.inr ⟨c, m', rfl, hc⟩)
theorem spC_dec (c : UInt8) : spC c = (((c.toNat : Int) == 32) || ((c.toNat : Int) == 9)) := by
  have : ∀ n, n < 256 → spC (UInt8.ofNat n) = (((n : Int) == 32) || ((n : Int) == 9)) := by decide +kernel
  have h := this c.toNat c.toNat_lt
  rwa [UInt8.ofNat_toNat] at h
set_option maxHeartbeats 1000000 in
theorem trimR_any (l : List UInt8) (hl : l.length ≤ 100000) (w : World) :
    Calls Tryz.prog 25 #[Str l] w fun e w' => e = .returned (Str (Lib.trimS l [32, 9])) ∧ w' = w := by
  rw [trimS_comm]
  go_enter Tryz.func25, Tryz.ntmps25
  go_wp2
  go_loop [0] (fun v => ∃ p s : List UInt8, v = Str s ∧ l = p ++ s ∧ p.all spC = true) (fun v => strLenV v)
  case atStart => exact ⟨[], l, rfl, rfl, rfl⟩
  case round =>
    obtain ⟨p, s, rfl, hls, hp⟩ := hrel
    have HP := Lib.hid (And.intro hls hp)
    clear hls hp
    cases s with
    | nil =>
      have HT : Hid (Lib.trimLeftS l [32, 9] = []) := Lib.hid (by rw [HP.out.1]; exact trimL_eq p [] HP.out.2 (.inl rfl))
      go_wp2
      go_loop [0] (fun v => ∃ m q : List UInt8, v = Str m ∧ ([] : List UInt8) = m ++ q ∧ q.all spC = true) (fun v => strLenV v)
      case atStart => exact ⟨([] : List UInt8), [], rfl, by simp, rfl⟩
      case round =>
        obtain ⟨m, q, rfl, hmq, hq⟩ := hrel
        have HM := Lib.hid (And.intro hmq hq)
        have hml : m.length ≤ 100000 := by
          have h1 := congrArg List.length HP.out.1
          have h2 := congrArg List.length hmq
          rw [List.length_append] at h1 h2
          omega
        clear hmq hq
        rcases List.eq_nil_or_concat m with rfl | ⟨m', d, hmd⟩
        · have HR : Hid (Lib.trimRightS (([] : List UInt8)) [32, 9] = []) := Lib.hid (by have h := trimR_eq [] q HM.out.2 (.inl rfl); rwa [← HM.out.1] at h)
          go_wp2
          go_ret
          exact ⟨by rw [HT.out, HR.out]; rfl, rfl⟩
        · rw [List.concat_eq_append] at hmd
          subst hmd
          have hml2 : m'.length ≤ 100000 := by rw [List.length_append] at hml; omega
          have hix : ∀ W, (Instr.index 9 (Str (m' ++ [d])) (.int .i64 (m'.length : Int))).run Tryz.prog W = .ok (Byt d) W := fun W => by
            have h := run_index_str (P := Tryz.prog) Tryz.underlying9 (m' ++ [d]) m'.length (m'.length : Int) rfl (by simp) W
            rw [h]; simp [bt, List.getD]
          have hcb := d.toNat_lt
          by_cases h32 : d = 32
          · subst h32
            have hix2 : ∀ W, (Instr.index 9 (Str (m' ++ [32])) (.int .i64 (m'.length : Int))).run Tryz.prog W = .ok (.int .u8 32) W := fun W => by rw [hix W]; rfl
            clear hix
            go_wp2
            go_round
            case rel => exact ⟨m', 32 :: q, rfl, by rw [HM.out.1]; simp, by rw [List.all_cons, HM.out.2]; rfl⟩
            case measure => simp [strLenV, Str, ByteArray.size]
          · by_cases h9 : d = 9
            · subst h9
              have hix2 : ∀ W, (Instr.index 9 (Str (m' ++ [9])) (.int .i64 (m'.length : Int))).run Tryz.prog W = .ok (.int .u8 9) W := fun W => by rw [hix W]; rfl
              clear hix h32
              go_wp2
              go_round
              case rel => exact ⟨m', 9 :: q, rfl, by rw [HM.out.1]; simp, by rw [List.all_cons, HM.out.2]; rfl⟩
              case measure => simp [strLenV, Str, ByteArray.size]
            · have hsp : spC d = false := by simp [spC, h32, h9]
              have HR : Hid (Lib.trimRightS (([] : List UInt8)) [32, 9] = m' ++ [d]) := Lib.hid (by have h := trimR_eq (m' ++ [d]) q HM.out.2 (.inr ⟨m', d, rfl, hsp⟩); rwa [← HM.out.1] at h)
              have t1 : ((d.toNat : Int) == 32) = false := by rw [beq_eq_false_iff_ne]; intro h; exact h32 (UInt8.toNat_inj.1 (by simpa using (by omega : d.toNat = 32)))
              have t2 : ((d.toNat : Int) == 9) = false := by rw [beq_eq_false_iff_ne]; intro h; exact h9 (UInt8.toNat_inj.1 (by simpa using (by omega : d.toNat = 9)))
              clear h32 h9 hsp
              go_wp2
              go_ret
              exact ⟨by rw [HT.out, HR.out]; rfl, rfl⟩
    | cons c s =>
      have hix : ∀ W, (Instr.index 9 (Str (c :: s)) (.int .i64 0)).run Tryz.prog W = .ok (Byt c) W := fun W => run_index_str Tryz.underlying9 (c :: s) 0 _ rfl (by simp) W
      have hcb := c.toNat_lt
      by_cases h32 : c = 32
      · subst h32
        have hix2 : ∀ W, (Instr.index 9 (Str (32 :: s)) (.int .i64 0)).run Tryz.prog W = .ok (.int .u8 32) W := fun W => by rw [hix W]; rfl
        clear hix
        go_wp2
        go_round
        case rel => exact ⟨p ++ [32], s, rfl, by rw [HP.out.1]; simp, by rw [List.all_append, HP.out.2]; rfl⟩
        case measure => simp [strLenV, Str, ByteArray.size]
      · by_cases h9 : c = 9
        · subst h9
          have hix2 : ∀ W, (Instr.index 9 (Str (9 :: s)) (.int .i64 0)).run Tryz.prog W = .ok (.int .u8 9) W := fun W => by rw [hix W]; rfl
          clear hix h32
          go_wp2
          go_round
          case rel => exact ⟨p ++ [9], s, rfl, by rw [HP.out.1]; simp, by rw [List.all_append, HP.out.2]; rfl⟩
          case measure => simp [strLenV, Str, ByteArray.size]
        · have hsp : spC c = false := by simp [spC, h32, h9]
          have HT : Hid (Lib.trimLeftS l [32, 9] = c :: s) := Lib.hid (by rw [HP.out.1]; exact trimL_eq p _ HP.out.2 (.inr ⟨c, s, rfl, hsp⟩))
          have t1 : ((c.toNat : Int) == 32) = false := by rw [beq_eq_false_iff_ne]; intro h; exact h32 (UInt8.toNat_inj.1 (by simpa using (by omega : c.toNat = 32)))
          have t2 : ((c.toNat : Int) == 9) = false := by rw [beq_eq_false_iff_ne]; intro h; exact h9 (UInt8.toNat_inj.1 (by simpa using (by omega : c.toNat = 9)))
          clear h32 h9 hsp
          go_wp2
          go_loop [0] (fun v => ∃ m q : List UInt8, v = Str m ∧ (c :: s) = m ++ q ∧ q.all spC = true) (fun v => strLenV v)
          case atStart => exact ⟨(c :: s), [], rfl, by simp, rfl⟩
          case round =>
            obtain ⟨m, q, rfl, hmq, hq⟩ := hrel
            have HM := Lib.hid (And.intro hmq hq)
            have hml : m.length ≤ 100000 := by
              have h1 := congrArg List.length HP.out.1
              have h2 := congrArg List.length hmq
              rw [List.length_append] at h1 h2
              omega
            clear hmq hq
            rcases List.eq_nil_or_concat m with rfl | ⟨m', d, hmd⟩
            · have HR : Hid (Lib.trimRightS ((c :: s)) [32, 9] = []) := Lib.hid (by have h := trimR_eq [] q HM.out.2 (.inl rfl); rwa [← HM.out.1] at h)
              go_wp2
              go_ret
              exact ⟨by rw [HT.out, HR.out]; rfl, rfl⟩
            · rw [List.concat_eq_append] at hmd
              subst hmd
              have hml2 : m'.length ≤ 100000 := by rw [List.length_append] at hml; omega
              have hix : ∀ W, (Instr.index 9 (Str (m' ++ [d])) (.int .i64 (m'.length : Int))).run Tryz.prog W = .ok (Byt d) W := fun W => by
                have h := run_index_str (P := Tryz.prog) Tryz.underlying9 (m' ++ [d]) m'.length (m'.length : Int) rfl (by simp) W
                rw [h]; simp [bt, List.getD]
              have hcb := d.toNat_lt
              by_cases h32 : d = 32
              · subst h32
                have hix2 : ∀ W, (Instr.index 9 (Str (m' ++ [32])) (.int .i64 (m'.length : Int))).run Tryz.prog W = .ok (.int .u8 32) W := fun W => by rw [hix W]; rfl
                clear hix
                go_wp2
                go_round
                case rel => exact ⟨m', 32 :: q, rfl, by rw [HM.out.1]; simp, by rw [List.all_cons, HM.out.2]; rfl⟩
                case measure => simp [strLenV, Str, ByteArray.size]
              · by_cases h9 : d = 9
                · subst h9
                  have hix2 : ∀ W, (Instr.index 9 (Str (m' ++ [9])) (.int .i64 (m'.length : Int))).run Tryz.prog W = .ok (.int .u8 9) W := fun W => by rw [hix W]; rfl
                  clear hix h32
                  go_wp2
                  go_round
                  case rel => exact ⟨m', 9 :: q, rfl, by rw [HM.out.1]; simp, by rw [List.all_cons, HM.out.2]; rfl⟩
                  case measure => simp [strLenV, Str, ByteArray.size]
                · have hsp : spC d = false := by simp [spC, h32, h9]
                  have HR : Hid (Lib.trimRightS ((c :: s)) [32, 9] = m' ++ [d]) := Lib.hid (by have h := trimR_eq (m' ++ [d]) q HM.out.2 (.inr ⟨m', d, rfl, hsp⟩); rwa [← HM.out.1] at h)
                  have t1 : ((d.toNat : Int) == 32) = false := by rw [beq_eq_false_iff_ne]; intro h; exact h32 (UInt8.toNat_inj.1 (by simpa using (by omega : d.toNat = 32)))
                  have t2 : ((d.toNat : Int) == 9) = false := by rw [beq_eq_false_iff_ne]; intro h; exact h9 (UInt8.toNat_inj.1 (by simpa using (by omega : d.toNat = 9)))
                  clear h32 h9 hsp
                  go_wp2
                  go_ret
                  exact ⟨by rw [HT.out, HR.out]; rfl, rfl⟩
end Go.Proofs.YtmflnffjhfejhaaGreatDoor
