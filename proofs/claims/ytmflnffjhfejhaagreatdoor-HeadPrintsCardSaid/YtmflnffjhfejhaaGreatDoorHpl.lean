/-
  A head's bytes, in plain words: where they end; what is read of them.
-/
import Derived.Test.YtmflnffjhfejhaaGreatDoorRows
import Derived.Test.YtmflnffjhfejhaaGreatDoorHrq
import Derived.Test.YtmflnffjhfejhaaGreatDoorHra
import Derived.Test.YtmflnffjhfejhaaGreatDoorHrt
import Derived.Test.YtmflnffjhfejhaaGreatDoorHrp
namespace Go.Proofs.YtmflnffjhfejhaaGreatDoor
set_option linter.unusedVariables false
set_option linter.unusedSimpArgs false

def crlf : List UInt8 := [13, 10]
/-- Lines, each with its end, and the end of all. -/
def linL (ss : List (List UInt8)) : List UInt8 := ss.flatMap (· ++ [13, 10])
def hdL (ss : List (List UInt8)) : List UInt8 := linL ss ++ [13, 10]
/-- A line: bytes that are no ends, one at least. -/
def LinOk (s : List UInt8) : Prop := s ≠ [] ∧ (13 : UInt8) ∉ s ∧ (10 : UInt8) ∉ s
theorem hdL_cons (s : List UInt8) (ss : List (List UInt8)) : hdL (s :: ss) = s ++ 13 :: 10 :: hdL ss := by simp [hdL, linL]
theorem occ_get {l : List UInt8} {i : Nat} (h : Lib.occAt l [13, 10, 13, 10] i = true) : l[i]? = some 13 ∧ l[i + 1]? = some 10 ∧ l[i + 2]? = some 13 ∧ l[i + 3]? = some 10 := by
  unfold Lib.occAt at h
  obtain ⟨t, ht⟩ := List.isPrefixOf_iff_prefix.1 h
  have hg : ∀ j, l[i + j]? = (l.drop i)[j]? := fun j => by rw [List.getElem?_drop]
  have h0 := hg 0
  rw [Nat.add_zero] at h0
  rw [h0, hg 1, hg 2, hg 3, ← ht]
  exact ⟨rfl, rfl, rfl, rfl⟩
theorem occ_end : ∀ (ss : List (List UInt8)) (behind : List UInt8) (i : Nat), (∀ s ∈ ss, LinOk s) → Lib.occAt (hdL ss ++ behind) [13, 10, 13, 10] i = true → i + 4 ≤ (hdL ss).length → i + 4 = (hdL ss).length
  | [], behind, i, _, h, hi => by simp [hdL, linL] at hi
  | s :: ss, behind, i, hs, h, hi => by
    obtain ⟨g0, g1, g2, g3⟩ := occ_get h
    obtain ⟨hne, h13, h10⟩ := hs s (List.mem_cons_self)
    rw [hdL_cons] at g0 g1 g2 g3 hi ⊢
    rw [List.length_append, List.length_cons, List.length_cons] at hi ⊢
    have hap : (s ++ 13 :: 10 :: hdL ss) ++ behind = s ++ (13 :: 10 :: (hdL ss ++ behind)) := by simp
    rw [hap] at g0 g1 g2 g3
    by_cases h1 : i < s.length
    · rw [List.getElem?_append_left h1] at g0
      exact absurd (List.mem_of_getElem? g0) h13
    · by_cases h2 : i = s.length
      · subst h2
        cases ss with
        | nil => simp [hdL, linL] at hi ⊢
        | cons t ts =>
          rw [List.getElem?_append_right (by omega), show s.length + 2 - s.length = 2 by omega, hdL_cons] at g2
          obtain ⟨tne, t13, _⟩ := hs t (by simp)
          match t, tne with
          | c :: t, _ =>
            simp at g2
            exact absurd (by rw [g2]; simp) t13
      · by_cases h3 : i = s.length + 1
        · subst h3
          rw [List.getElem?_append_right (by omega), show s.length + 1 - s.length = 1 by omega] at g0
          simp at g0
        · have ih := occ_end ss behind (i - (s.length + 2)) (fun s' h' => hs s' (List.mem_cons_of_mem _ h')) (by
            have e : (hdL (s :: ss) ++ behind).drop i = (hdL ss ++ behind).drop (i - (s.length + 2)) := by
              obtain ⟨k, rfl⟩ : ∃ k, i = s.length + 2 + k := ⟨i - (s.length + 2), by omega⟩
              rw [hdL_cons, hap, List.drop_append, List.drop_eq_nil_of_le (by omega), List.nil_append, show s.length + 2 + k - s.length = k + 2 by omega, show s.length + 2 + k - (s.length + 2) = k by omega]
              rfl
            unfold Lib.occAt at h ⊢
            rw [e] at h; exact h) (by omega)
          omega
theorem take_length {l : List UInt8} {k : Nat} (h : k ≤ l.length) : (l.take k).length = k := by rw [List.length_take]; omega
theorem occ_take {l sub : List UInt8} {m j : Nat} (h : Lib.occAt (l.take m) sub j = true) : Lib.occAt l sub j = true := by
  unfold Lib.occAt at *
  rw [List.isPrefixOf_iff_prefix] at *
  refine h.trans ?_
  rw [List.drop_take]; exact List.take_prefix _ _
/-- No beginning of it has an end. -/
theorem tkN_short (ss : List (List UInt8)) (hs : ∀ s ∈ ss, LinOk s) (k : Nat) (hk : k < (hdL ss).length) : tkN ((hdL ss).take k) = -1 := by
  refine Lib.index_none fun j hj => ?_
  rw [Bool.eq_false_iff]
  intro h
  have hr := Lib.occAt_room h
  rw [List.length_take, List.length_take] at hr
  have hr2 : j + 4 ≤ min 4096 (min k (hdL ss).length) := by rcases hr with hr | hr; exact hr; cases hr
  have h2 : Lib.occAt (hdL ss ++ []) [13, 10, 13, 10] j = true := by rw [List.append_nil]; exact occ_take (occ_take h)
  have := occ_end ss [] j hs h2 (by omega)
  omega
theorem hdL_tail (ss : List (List UInt8)) (hne : ss ≠ []) : ∃ y, hdL ss = y ++ [13, 10, 13, 10] := by
  rcases List.eq_nil_or_concat ss with h | ⟨t, s, h⟩
  · exact absurd h hne
  · rw [h, List.concat_eq_append]
    exact ⟨linL t ++ s, by simp [hdL, linL]⟩
theorem tkN_full (ss : List (List UInt8)) (hs : ∀ s ∈ ss, LinOk s) (hne : ss ≠ []) (behind : List UInt8) (hl : (hdL ss).length ≤ 4096) : tkN (hdL ss ++ behind) = ((hdL ss).length : Int) - 4 ∧ 4 ≤ (hdL ss).length := by
  obtain ⟨y, hy⟩ := hdL_tail ss hne
  have hyl : (hdL ss).length = y.length + 4 := by rw [hy]; simp
  refine ⟨?_, by omega⟩
  have hi := tkN_first (hdL ss ++ behind) y.length (by rw [List.length_append]; omega) (by omega) (by rw [hy]; simp [List.take_append]) (fun j hj => by
    rw [Bool.eq_false_iff]
    intro h
    have := occ_end ss behind j hs (occ_take h) (by omega)
    omega)
  rw [hi]; omega
theorem cut_crlf (s r : List UInt8) (h : (13 : UInt8) ∉ s) : Lib.cut (s ++ 13 :: 10 :: r) [13, 10] = (s, r, true) := by
  have hi : Lib.index (s ++ 13 :: 10 :: r) [13, 10] = (s.length : Int) := by
    refine Lib.index_first (by simp) ?_ (fun j hj => ?_)
    · unfold Lib.occAt
      rw [List.drop_append_of_le_length (Nat.le_refl _), List.drop_length]
      rfl
    · rw [Bool.eq_false_iff]
      intro ho
      have := Lib.occAt_head rfl ho
      rw [List.getElem?_append_left hj] at this
      exact h (List.mem_of_getElem? this)
  unfold Lib.cut
  rw [hi]
  simp
theorem hlines_lin : ∀ (ss : List (List UInt8)), (∀ s ∈ ss, LinOk s) → hlines (linL ss) = ss.map fun s => (s, true)
  | [], _ => rfl
  | s :: ss, hs => by
    have he : linL (s :: ss) = s ++ 13 :: 10 :: linL ss := by simp [linL]
    rw [he, (hlines_step _ (by simp)).1, cut_crlf s _ (hs s (by simp)).2.1, List.map_cons]
    rw [hlines_lin ss (fun t ht => hs t (List.mem_cons_of_mem _ ht))]
theorem tkL_full (ss : List (List UInt8)) (hs : ∀ s ∈ ss, LinOk s) (behind : List UInt8) (n : Nat) (hn : n + 4 = (hdL ss).length) : tkL (hdL ss ++ behind) n = ss.map fun s => (s, true) := by
  unfold tkL
  have hll : (hdL ss).length = (linL ss).length + 2 := by simp [hdL]
  have : (hdL ss ++ behind).take (n + 2) = linL ss := by
    rw [show n + 2 = (linL ss).length by omega, hdL, List.append_assoc, List.take_append_of_le_length (Nat.le_refl _), List.take_length]
  rw [this]
  exact hlines_lin ss hs
/-! ### Heads -/
def fldL (p : Pr) : List UInt8 := p.n ++ 58 :: 32 :: p.v
def rightF (p : Pr) : Bool := tokenB p.n && (textB p.v && (Lib.trimS p.v [32, 9] == p.v))
def dig3 (n : Nat) : List UInt8 := [UInt8.ofNat (48 + n / 100), UInt8.ofNat (48 + n / 10 % 10), UInt8.ofNat (48 + n % 10)]
theorem dig3_itoa : ∀ n : Nat, n < 1000 → 100 ≤ n → Lib.itoa (n : Int) = dig3 n ∧ (dig3 n).all digB = true ∧ valD 0 (dig3 n) = n := by decide +kernel
def firstL (asks : Bool) (one two : List UInt8) (st : Int) : List UInt8 := if asks then one ++ 32 :: (two ++ 32 :: verL) else verL ++ 32 :: (dig3 st.toNat ++ 32 :: one)
def rightHd (asks : Bool) (one two : List UInt8) (st : Int) : Bool := if asks then tokenB one && targetB two else decide (100 ≤ st) && (decide (st ≤ 999) && textB one)
def bytesL (first : List UInt8) (fs : List Pr) : List UInt8 := hdL (first :: fs.map fldL)
/-- A head's bytes, or the error. -/
def bytesO (asks : Bool) (one two : List UInt8) (st : Int) (fs : List Pr) : Int ⊕ List UInt8 :=
  if rightHd asks one two st && fs.all rightF then if 4096 < (bytesL (firstL asks one two st) fs).length ∨ 24 < fs.length then .inl 3 else .inr (bytesL (firstL asks one two st) fs) else .inl 4
theorem not_mem_all {p : UInt8 → Bool} {l : List UInt8} {b : UInt8} (h : l.all p = true) (hb : p b = false) : b ∉ l := fun hm => by
  have := List.all_eq_true.1 h b hm
  rw [hb] at this; cases this
theorem token_facts {l : List UInt8} (h : tokenB l = true) : l ≠ [] ∧ (13 : UInt8) ∉ l ∧ (10 : UInt8) ∉ l ∧ (32 : UInt8) ∉ l ∧ (58 : UInt8) ∉ l := by
  unfold tokenB at h
  simp only [Bool.and_eq_true, decide_eq_true_eq] at h
  exact ⟨List.length_pos_iff.1 h.2, not_mem_all h.1 (by decide +kernel), not_mem_all h.1 (by decide +kernel), not_mem_all h.1 (by decide +kernel), not_mem_all h.1 (by decide +kernel)⟩
theorem target_facts {l : List UInt8} (h : targetB l = true) : l ≠ [] ∧ (13 : UInt8) ∉ l ∧ (10 : UInt8) ∉ l ∧ (32 : UInt8) ∉ l := by
  unfold targetB at h
  simp only [Bool.and_eq_true, decide_eq_true_eq] at h
  exact ⟨List.length_pos_iff.1 h.2, not_mem_all h.1 (by decide +kernel), not_mem_all h.1 (by decide +kernel), not_mem_all h.1 (by decide +kernel)⟩
theorem text_facts {l : List UInt8} (h : textB l = true) : (13 : UInt8) ∉ l ∧ (10 : UInt8) ∉ l :=
  ⟨not_mem_all h (by decide +kernel), not_mem_all h (by decide +kernel)⟩
theorem fld_ok {p : Pr} (h : rightF p = true) : LinOk (fldL p) ∧ tkA (fldL p, true) = true ∧ tkF (fldL p, true) = p := by
  unfold rightF at h
  simp only [Bool.and_eq_true, beq_iff_eq] at h
  obtain ⟨h1, h2, h3⟩ := h
  obtain ⟨q0, q1, q2, q3, q4⟩ := token_facts h1
  obtain ⟨r1, r2⟩ := text_facts h2
  refine ⟨⟨by simp [fldL], ?_, ?_⟩, ?_⟩
  · simp only [fldL, List.mem_append, List.mem_cons]; simp [q1, r1]
  · simp only [fldL, List.mem_append, List.mem_cons]; simp [q2, r2]
  · obtain ⟨e1, e2⟩ := tkA_some (fldL p, true) p.n (32 :: p.v) (cut_at p.n _ 58 q4)
    have ht : Lib.trimS (32 :: p.v) [32, 9] = p.v := by
      rw [trimS_comm]
      have : Lib.trimLeftS (32 :: p.v) [32, 9] = Lib.trimLeftS p.v [32, 9] := rfl
      rw [this, ← trimS_comm]; exact h3
    refine ⟨?_, by rw [e2, ht]⟩
    rw [e1, h1, Bool.true_and]
    show (32 :: p.v).all textC = true
    rw [List.all_cons, show p.v.all textC = true from h2]
    rfl
theorem first_ok {asks : Bool} {one two : List UInt8} {st : Int} (h : rightHd asks one two st = true) : LinOk (firstL asks one two st) ∧ firstB asks (firstL asks one two st) = true ∧
    oneL asks (firstL asks one two st) = one ∧ twoL asks (firstL asks one two st) = (if asks then two else []) ∧ stI asks (firstL asks one two st) = (if asks then 0 else st) := by
  cases asks with
  | true =>
    unfold rightHd at h
    simp only [if_true, Bool.and_eq_true] at h
    obtain ⟨q0, q1, q2, q3, q4⟩ := token_facts h.1
    obtain ⟨r0, r1, r2, r3⟩ := target_facts h.2
    obtain ⟨e1, e2⟩ := req_two one two verL q3 r3
    simp only [firstL, if_true]
    refine ⟨⟨by simp, ?_, ?_⟩, ?_, (e2 rfl).1, (e2 rfl).2, rfl⟩
    · simp only [List.mem_append, List.mem_cons]; simp [q1, r1, verL]
    · simp only [List.mem_append, List.mem_cons]; simp [q2, r2, verL]
    · simp only [firstB, if_true]; rw [e1, h.1, h.2]; rfl
  | false =>
    unfold rightHd at h
    simp only [Bool.false_eq_true, if_false, Bool.and_eq_true, decide_eq_true_eq] at h
    obtain ⟨h1, h2, h3⟩ := h
    obtain ⟨n, rfl⟩ : ∃ n : Nat, st = (n : Int) := ⟨st.toNat, by omega⟩
    obtain ⟨_, d1, d2⟩ := dig3_itoa n (by omega) (by omega)
    obtain ⟨r1, r2⟩ := text_facts h3
    have hl : firstL false one two (n : Int) = ver9 ++ (dig3 n ++ 32 :: one) := rfl
    have hg : ansG (ver9 ++ (dig3 n ++ 32 :: one)) := ⟨by simp [ver9, dig3], rfl, rfl⟩
    have hd : ((ver9 ++ (dig3 n ++ 32 :: one)).take 12).drop 9 = dig3 n := rfl
    have hr : (ver9 ++ (dig3 n ++ 32 :: one)).drop 13 = one := rfl
    obtain ⟨e1, e2⟩ := ans_good hg
    rw [hd, hr, d1, d2] at e1
    rw [hd, hr, d2] at e2
    obtain ⟨e3, e4⟩ := e2 d1 (by omega)
    have hdd : ∀ b ∈ dig3 n, b ≠ 13 ∧ b ≠ 10 := fun b hb => by
      have := List.all_eq_true.1 d1 b hb
      constructor <;> (rintro rfl; simp [digB] at this)
    rw [hl]
    refine ⟨⟨by simp [ver9], ?_, ?_⟩, ?_, e3, rfl, by rw [e4]; rfl⟩
    · simp only [List.mem_append, List.mem_cons]; simp [r1, ver9]; exact fun h => (hdd _ h).1 rfl
    · simp only [List.mem_append, List.mem_cons]; simp [r2, ver9]; exact fun h => (hdd _ h).2 rfl
    · simp only [firstB, Bool.false_eq_true, if_false]
      rw [e1, h3, decide_eq_true (by omega : 100 ≤ n)]; rfl
theorem lines_ok {asks : Bool} {one two : List UInt8} {st : Int} {fs : List Pr} (h : rightHd asks one two st = true) (hf : fs.all rightF = true) : ∀ s ∈ firstL asks one two st :: fs.map fldL, LinOk s := by
  intro s hs
  rcases List.mem_cons.1 hs with rfl | hs
  · exact (first_ok h).1
  · obtain ⟨p, hp, rfl⟩ := List.mem_map.1 hs
    exact (fld_ok (List.all_eq_true.1 hf p hp)).1
/-- What is read of a head's bytes, whatever stands behind them. -/
theorem head_read {asks : Bool} {one two : List UInt8} {st : Int} {fs : List Pr} (h : rightHd asks one two st = true) (hf : fs.all rightF = true) (hl : (bytesL (firstL asks one two st) fs).length ≤ 4096) (h24 : fs.length ≤ 24) (behind : List UInt8) :
    headO asks (bytesL (firstL asks one two st) fs ++ behind) = .inr (⟨one, if asks then two else [], if asks then 0 else st, fs⟩, ((bytesL (firstL asks one two st) fs).length : Int)) := by
  have hs := lines_ok h hf
  obtain ⟨hN, h4⟩ := tkN_full _ hs (by simp) behind hl
  obtain ⟨_, f1, f2, f3, f4⟩ := first_ok h
  unfold bytesL at *
  generalize hD : hdL (firstL asks one two st :: fs.map fldL) = D at *
  have hn : D.length - 4 + 4 = (hdL (firstL asks one two st :: fs.map fldL)).length := by rw [hD]; omega
  have hL := tkL_full _ hs behind (D.length - 4) hn
  rw [hD] at hL
  unfold headO
  rw [hN, if_neg (by omega), show ((D.length : Int) - 4).toNat = D.length - 4 by omega, hL, headC_cases]
  have hall : ((fs.map fldL).map fun s => (s, true)).all tkA = true := by
    rw [List.all_eq_true]
    intro x hx
    obtain ⟨s, hs', rfl⟩ := List.mem_map.1 hx
    obtain ⟨p, hp, rfl⟩ := List.mem_map.1 hs'
    exact (fld_ok (List.all_eq_true.1 hf p hp)).2.1
  have hmap : ((fs.map fldL).map fun s => (s, true)).map tkF = fs := by
    rw [List.map_map, List.map_map]
    conv => rhs; rw [← List.map_id fs]
    exact List.map_congr_left fun p hp => (fld_ok (List.all_eq_true.1 hf p hp)).2.2
  simp only [List.map_cons, List.getD_cons_zero, List.tail_cons]
  rw [f1, hall, List.length_map, List.length_map, if_neg (show ¬ 24 < fs.length by omega)]
  simp only [Bool.and_self, if_true]
  unfold headH
  simp only [List.map_cons, List.getD_cons_zero, List.tail_cons]
  rw [f2, f3, f4, hmap]
  congr 2
  omega
theorem bytes_ok {asks : Bool} {one two : List UInt8} {st : Int} {fs : List Pr} {l : List UInt8} (h : bytesO asks one two st fs = .inr l) : l = bytesL (firstL asks one two st) fs ∧ rightHd asks one two st = true ∧ fs.all rightF = true ∧ l.length ≤ 4096 ∧ fs.length ≤ 24 := by
  unfold bytesO at h
  split at h
  · rename_i hr
    simp only [Bool.and_eq_true] at hr
    split at h
    · cases h
    · injection h with h
      subst h
      exact ⟨rfl, hr.1, hr.2, by omega, by omega⟩
  · cases h
end Go.Proofs.YtmflnffjhfejhaaGreatDoor
