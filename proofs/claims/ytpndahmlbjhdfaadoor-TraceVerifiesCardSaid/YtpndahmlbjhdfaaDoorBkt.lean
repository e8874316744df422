/-
  The texts that every chapter uses, in one: Idx, Hexr, Grp, Val, Dec, Unh, Cod, Ruh.
-/
import Derived.Lib.Bytealg
import Derived.WalkKit
import Derived.Test.YtpndahmlbjhdfaaDoorRows
import Derived.Test.YtpndahmlbjhdfaaDoorKit
import Derived.Shelf.Abstract
namespace Go.Proofs.YtpndahmlbjhdfaaDoor
open Go.RowKit
set_option maxRecDepth 100000
set_option linter.unusedVariables false
set_option linter.unusedSimpArgs false

theorem index51_any (l : List UInt8) (c : UInt8) (w : World) :
    Calls Tryd.prog 100 #[Str l, .int .u8 (c.toNat : Int)] w fun e w' => e = .returned (.int .i64 (Lib.indexByte l c)) ∧ w' = w := by
  have hfin : Lib.indexByte (⟨l.toArray⟩ : ByteArray).data.toList ((c.toNat : Int)).toNat.toUInt8 = Lib.indexByte l c := by
    have : ((c.toNat : Int)).toNat.toUInt8 = c := by simp [Nat.toUInt8]
    rw [this]
  go_enter Tryd.func100, Tryd.ntmps100
  go_wp2
  rw [run_callFunc_extern Tryd.func124 (by kernel_rfl) (by kernel_rfl) (by kernel_rfl) (e := Extern.BytealgIndexByte.indexByte) (by kernel_rfl), Lib.run_indexByteString, hfin]
  simp only [Result.andThen]
  rw [Oper.upon_value]
  go_wp2
  go_ret
  exact ⟨rfl, rfl⟩
theorem indexb_any (l : List UInt8) (c : UInt8) (w : World) :
    Calls Tryd.prog 79 #[Str l, .int .u8 (c.toNat : Int)] w fun e w' => e = .returned (.int .i64 (Lib.indexByte l c)) ∧ w' = w := by
  go_enter Tryd.func79, Tryd.ntmps79
  go_wp2_with (go_at_call 100; refine (index51_any _ _ _).mono ?_; rintro e W2 ⟨rfl, rfl⟩)
  go_ret
  exact ⟨rfl, rfl⟩
end Go.Proofs.YtpndahmlbjhdfaaDoor

namespace Go.Proofs.YtpndahmlbjhdfaaDoor
open Go.RowKit

def hexd : List UInt8 := [48, 49, 50, 51, 52, 53, 54, 55, 56, 57, 97, 98, 99, 100, 101, 102]
theorem hexd_lit : (⟨#[48, 49, 50, 51, 52, 53, 54, 55, 56, 57, 97, 98, 99, 100, 101, 102]⟩ : ByteArray) = ⟨hexd.toArray⟩ := rfl
theorem hexd_len : hexd.length = 16 := rfl
def hexL : List UInt8 → List UInt8
  | [] => []
  | b :: l => bt hexd (b.toNat / 16) :: bt hexd (b.toNat % 16) :: hexL l
theorem hexL_snoc (l : List UInt8) (b : UInt8) : hexL (l ++ [b]) = hexL l ++ [bt hexd (b.toNat / 16), bt hexd (b.toNat % 16)] := by
  induction l with
  | nil => rfl
  | cons c l ih => simp [hexL, ih]
theorem hexL_len (l : List UInt8) : (hexL l).length = 2 * l.length := by
  induction l with
  | nil => rfl
  | cons c l ih => simp [hexL, ih]; omega

set_option maxHeartbeats 400000 in
theorem r1hex_any (v : Value) (l : List UInt8) (w : World) (hv : SlB w v l) (hn : l.length ≤ 1000) :
    Calls Tryd.prog 49 #[v] w fun e w' => e = .returned (Str (hexL l)) ∧ Ext w w' := by
  obtain ⟨ao, cap, rfl, hcap, hmax, hnil, hcell⟩ := hv
  simp only [List.length_map] at hcap ⊢
  have HC := Lib.hid hcell; clear hcell
  have hix := run_index_adr (P := Tryd.prog) Tryd.underlying45 Tryd.sizeOf5 hnil hcap
  have hl := hexd_lit; have hll := hexd_len
  go_enter Tryd.func49, Tryd.ntmps49
  go_wp2
  go_loopw [3, 8] (fun v i wr => ∃ k : Nat, k ≤ l.length ∧ i = .int .i64 k ∧ v = Str (hexL (l.take k)) ∧ (∃ m, wr = w.drewN m)) (fun _ i _ => l.length - (intOf i).toNat)
  case atStart => exact ⟨0, by omega, rfl, rfl, 0, rfl⟩
  case round =>
    obtain ⟨k, hk, rfl, rfl, m, rfl⟩ := hrel
    by_cases h3 : k < l.length
    · have hck : w.cell? (adr ao k) = some (Byt (bt l k)) := HC.out k _ (byt_map l k h3)
      have hlen : (hexL (l.take k)).length ≤ 2000 := by rw [hexL_len]; simp; omega
      have Hh := Lib.hid (hexL_snoc (l.take k) (bt l k)); rw [← take_snoc l k h3] at Hh
      have hb := (bt l k).toNat_lt
      generalize bt l k = c at *
      go_wp2
      refine wp_region_quiet_lit (by kernel_rfl) (by kernel_rfl) ?_
      repeat (first
        | go_big_quiet_skip
        | (go_big_quiet_want; go_big_quiet_op; (try go_bits); first | go_big_quiet_on | go_big_quiet_call (fail)))
      refine wpQuiet_nil ?_
      intro _ hw'
      obtain ⟨nq, hw''⟩ := hw'
      subst hw''
      go_wp2
      go_roundw
      case rel => exact ⟨k + 1, by omega, by go_num, by rw [Hh.out, cut_one _ _ (by omega), cut_one _ _ (by omega)]; rfl, _, rfl⟩
      case measure => simp [intOf]; omega
    · go_wp2
      go_ret
      exact ⟨by rw [List.take_of_length_le (by omega)]; rfl, Below.drewN (Below.refl _ _) m⟩

end Go.Proofs.YtpndahmlbjhdfaaDoor

namespace Go.Proofs.YtpndahmlbjhdfaaDoor
open Go.RowKit
attribute [local go_sem] Oper.semAt_some

/-- How long the pieces are. -/
def gsz (z : Int) (n : Nat) : Nat := if 0 < z then z.toNat else max n 1
theorem gsz_pos (z : Int) (n : Nat) : 0 < gsz z n := by unfold gsz; split <;> omega
/-- How many pieces. -/
def gcnt (m n : Nat) : Nat := (n + m - 1) / m
theorem gcnt_lt {m n : Nat} (i : Nat) (hm : 0 < m) : i < gcnt m n ↔ m * i < n := by
  unfold gcnt
  rw [Nat.lt_iff_add_one_le, Nat.le_div_iff_mul_le hm, Nat.add_mul, Nat.one_mul, Nat.mul_comm i m]
  omega
def strLen (w : World) (b : Nat) : Nat := match w.cell? ⟨b, 0, none⟩ with | some (.string s) => s.size | _ => 0

set_option maxHeartbeats 400000 in
theorem groups_iter (l : List UInt8) (z : Int) (hl : l.length ≤ 1000000) (bs bz : Nat) (w0 : World) (hbs : w0.heap[bs]? = some (.cells #[Str l] 9 (0, 0))) (hbz : w0.heap[bz]? = some (.cells #[.int .i64 z] 3 (0, 0))) :
    Iter Tryd.prog 99 #[.pointer (some ⟨bs, 0, none⟩), .pointer (some ⟨bz, 0, none⟩)] (gcnt (gsz z l.length) l.length) (fun i => #[Str ((l.drop (gsz z l.length * i)).take (gsz z l.length))]) (fun k => k = bs ∨ k = bz) (fun k => k = bs) w0 := by
  intro n lp J Jx W hW hsz hJ hJx hY h0
  have hm := gsz_pos z l.length
  have hmz : 0 < z → gsz z l.length = z.toNat := fun h => by simp [gsz, h]
  have hmz' : ¬ 0 < z → gsz z l.length = max l.length 1 := fun h => by simp [gsz, h]
  generalize gsz z l.length = m at *
  have hcnt := @gcnt_lt m l.length
  generalize gcnt m l.length = N at *
  have hne : bz ≠ bs := by rintro rfl; rw [hbs] at hbz; cases hbz
  refine callsIn_of_wp Tryd.func99 rfl trivial ?_ rfl
  simp only [Tryd.ntmps99, List.size_toArray, List.length_cons, List.length_nil, Nat.reduceAdd, Nat.reduceSub, Array.replicate_succ, Array.replicate_zero, List.push_toArray, List.append_toArray, List.nil_append, List.cons_append]
  gi_wp2
  gi_loopw [4] (fun _ wr => ∃ i : Nat, i ≤ N ∧ wr.heap[bs]? = some (.cells #[Str (l.drop (m * i))] 9 (0, 0)) ∧ wr.heap[bz]? = some (.cells #[.int .i64 z] 3 (0, 0)) ∧ J i wr) (fun _ wr => strLen wr bs)
  case atStart => exact ⟨0, by omega, by simpa using (hW bs (.inl rfl)).trans hbs, (hW bz (.inr rfl)).trans hbz, h0⟩
  case round =>
    obtain ⟨i, hi, hb, hz, hJr⟩ := hrel
    have hlenp : strLen wr bs = l.length - m * i := by simp [strLen, World.cell?, hb, size_list]
    have c0 : wr.cell? ⟨bs, 0, none⟩ = some (Str (l.drop (m * i))) := by simp [World.cell?, hb]
    have f0 : wr.frozen? ⟨bs, 0, none⟩ = false := by simp [World.frozen?, hb]
    have cz : wr.cell? ⟨bz, 0, none⟩ = some (.int .i64 z) := by simp [World.cell?, hz]
    by_cases hlt : m * i < l.length
    · obtain ⟨fn, tmps, assign, body, hy, hR⟩ := hY (n - 1) i wr ((hcnt i hm).2 hlt) hJr
      obtain ⟨r, hr⟩ : ∃ r, l.drop (m * i) = r := ⟨_, rfl⟩
      have hrl : r.length = l.length - m * i := by rw [← hr]; simp
      rw [hr] at c0 hy hb
      have hnx : r.drop (min r.length m) = l.drop (m * (i + 1)) := by
        rw [← hr, List.drop_drop, List.length_drop]
        by_cases h : m ≤ l.length - m * i
        · rw [Nat.min_eq_right h, Nat.mul_add, Nat.mul_one]
        · rw [Nat.min_eq_left (by omega), List.drop_of_length_le (by omega), List.drop_of_length_le (by rw [Nat.mul_add]; omega)]
      have hpc : r.take (min r.length m) = r.take m := by
        by_cases h : m ≤ r.length
        · rw [Nat.min_eq_right h]
        · rw [Nat.min_eq_left (by omega), List.take_of_length_le (Nat.le_refl _), List.take_of_length_le (by omega)]
      have hrpos : 0 < r.length := by omega
      obtain ⟨kk, hkk⟩ : ∃ kk, min r.length m = kk := ⟨_, rfl⟩
      have hk1 : kk ≤ r.length := by omega
      have hk2 : 0 < kk := by omega
      have hrs : r.length ≤ 1000000 := by omega
      rw [hkk] at hnx hpc
      rw [← hpc] at hy
      have hmn : 0 < z → ∀ (ts : Array TypeId) (t : TypeId) (W : World), (Builtin.min_ ts t #[.int .i64 (r.length : Int), .int .i64 z]).run Tryd.prog W = .ok (.int .i64 (kk : Int)) W := fun h => by
        rw [← hkk]; exact run_min_nat Tryd.prog r.length m z (by have := hmz h; omega)
      have hkz : ¬ 0 < z → kk = r.length := fun h => by have := hmz' (by omega); have : i = 0 := by
                                                          rcases Nat.eq_zero_or_pos i with h0 | h0
                                                          · exact h0
                                                          · have : m ≤ m * i := Nat.le_mul_of_pos_right m h0
                                                            omega
                                                        subst this; omega
      have Hcnt := Lib.hid hcnt; clear hcnt
      have Hnx := Lib.hid hnx; have Hkk := Lib.hid hkk; have Hr := Lib.hid hr
      clear hnx hkk hpc hr hrl hmz hmz' hY
      have step : ∀ W3, J (i + 1) W3 → wr.heap.size ≤ W3.heap.size → (∀ k, k = bs ∨ k = bz → W3.heap[k]? = wr.heap[k]?) →
          W3.cell? ⟨bs, 0, none⟩ = some (Str r) ∧ W3.frozen? ⟨bs, 0, none⟩ = false ∧ (W3.setCell ⟨bs, 0, none⟩ (Str (r.drop kk))).heap[bs]? = some (.cells #[Str (l.drop (m * (i + 1)))] 9 (0, 0)) ∧
          (W3.setCell ⟨bs, 0, none⟩ (Str (r.drop kk))).heap[bz]? = some (.cells #[.int .i64 z] 3 (0, 0)) ∧ J (i + 1) (W3.setCell ⟨bs, 0, none⟩ (Str (r.drop kk))) ∧
          strLen (W3.setCell ⟨bs, 0, none⟩ (Str (r.drop kk))) bs < strLen wr bs := by
        intro W3 hJ3 hs3 hk3
        have hb3 := (hk3 bs (.inl rfl)).trans hb
        have hz3 := (hk3 bz (.inr rfl)).trans hz
        have hset := one_setCell (u := Str (r.drop kk)) hb3
        refine ⟨by simp [World.cell?, hb3], by simp [World.frozen?, hb3], by rw [hset, Hnx.out], by rw [Below.heap_setCell _ _ _ _ hne]; exact hz3, hJ _ _ _ hJ3 (Chg.setCell W3 ⟨bs, 0, none⟩ _), ?_⟩
        have e1 : strLen (W3.setCell ⟨bs, 0, none⟩ (Str (r.drop kk))) bs = r.length - kk := by simp [strLen, World.cell?, hset, size_list]
        have e2 : strLen wr bs = r.length := by simp [strLen, World.cell?, hb, size_list]
        rw [e1, e2]; omega
      have Step := Lib.hid step
      clear step hb hz hlenp
      by_cases hz0 : 0 < z
      · have hmn' := hmn hz0
        clear hmn hkz
        gi_wp2
        refine ⟨fun h => by simp [Fence.wide] at h, hR.mono ?_⟩
        rintro e W3 (⟨rfl, hJ3, hs3, hk3⟩ | ⟨rfl, hJ3⟩)
        · obtain ⟨c3, f3, E⟩ := Step.out W3 hJ3 hs3 hk3
          have HE := Lib.hid E
          clear c0 f0 cz E hk3 hs3
          gi_wp2
          go_roundw
          case rel => exact ⟨i + 1, by have := (Hcnt.out i hm).2 hlt; omega, HE.out.1, HE.out.2.1, HE.out.2.2.1⟩
          case measure => exact HE.out.2.2.2
        · gi_wp2
          refine bodyPost_ret (results_none rfl _ _ _) rfl ?_
          exact ⟨⟨_, rfl⟩, .inr ⟨i, (Hcnt.out i hm).2 hlt, hJ3⟩⟩
      · have hk := hkz hz0
        clear hmn hkz
        subst hk
        rw [List.take_of_length_le (Nat.le_refl _)] at hy
        have hdr : r.drop r.length = [] := List.drop_length
        rw [hdr] at Step
        gi_wp2
        refine ⟨fun h => by simp [Fence.wide] at h, hR.mono ?_⟩
        rintro e W3 (⟨rfl, hJ3, hs3, hk3⟩ | ⟨rfl, hJ3⟩)
        · obtain ⟨c3, f3, E⟩ := Step.out W3 hJ3 hs3 hk3
          have HE := Lib.hid E
          clear c0 f0 cz E hk3 hs3
          gi_wp2
          go_roundw
          case rel => exact ⟨i + 1, by have := (Hcnt.out i hm).2 hlt; omega, HE.out.1, HE.out.2.1, HE.out.2.2.1⟩
          case measure => exact HE.out.2.2.2
        · gi_wp2
          refine bodyPost_ret (results_none rfl _ _ _) rfl ?_
          exact ⟨⟨_, rfl⟩, .inr ⟨i, (Hcnt.out i hm).2 hlt, hJ3⟩⟩
    · gi_wp2
      refine bodyPost_end (results_none rfl _ _ _) rfl ?_
      have : i = N := by
        rcases Nat.lt_or_ge i N with h | h
        · exact absurd ((hcnt i hm).1 h) hlt
        · omega
      subst this
      exact ⟨⟨_, rfl⟩, .inl hJr⟩
end Go.Proofs.YtpndahmlbjhdfaaDoor

namespace Go.Proofs.YtpndahmlbjhdfaaDoor
open Go.RowKit

def valN (x y c : Nat) : Int :=
  if 65 ≤ c ∧ c ≤ 90 then (c : Int) - 65 else if 97 ≤ c ∧ c ≤ 122 then (c : Int) - 97 + 26 else if 48 ≤ c ∧ c ≤ 57 then (c : Int) - 48 + 52
  else if c = x then 62 else if c = y then 63 else -1
/-- A letter's value; -1: it is none. -/
def valL (A : List UInt8) (c : UInt8) : Int := valN (bt A 62).toNat (bt A 63).toNat c.toNat

end Go.Proofs.YtpndahmlbjhdfaaDoor

namespace Go.Proofs.YtpndahmlbjhdfaaDoor
open Go.RowKit Go.Shelf
set_option linter.unusedVariables false
set_option linter.unusedSimpArgs false
attribute [local go_sem] Oper.semAt_some

/-- The number of letters. -/
def bitsN (A : List UInt8) : List UInt8 → Nat := fun g => g.foldl (fun b c => b * 64 + (valL A c).toNat) 0
def grpOk (A g : List UInt8) : Bool := g.all fun c => valL A c != -1
/-- The letters' number, moved up to four letters' place. -/
def grpNum (A g : List UInt8) : Nat := bitsN A g * 2 ^ (6 * (4 - g.length))
def grpOut (A g : List UInt8) : List UInt8 := (List.range (g.length - 1)).map fun j => UInt8.ofNat (grpNum A g / 2 ^ (8 * (2 - j)))
def grpBad (A g : List UInt8) : Bool := decide (g.length < 4) && (grpNum A g % 2 ^ (8 * (4 - g.length)) != 0)
def piece (l : List UInt8) (i : Nat) : List UInt8 := (l.drop (4 * i)).take 4
def decN (A l : List UInt8) (i : Nat) : List UInt8 := (List.range i).flatMap fun j => grpOut A (piece l j)
def codN (A l : List UInt8) : Nat → Nat
  | 0 => 0
  | i + 1 => if grpBad A (piece l i) then 4 else codN A l i
def okN (A l : List UInt8) (i : Nat) : Bool := (List.range i).all fun j => grpOk A (piece l j)
/-- What decode answers. -/
def decR (A l : List UInt8) : List UInt8 × Nat :=
  let n := (l.length + 3) / 4
  if okN A l n then (if codN A l n = 0 then (decN A l n, 0) else ([], codN A l n)) else ([], 5)
theorem decN_succ (A l : List UInt8) (i : Nat) : decN A l (i + 1) = decN A l i ++ grpOut A (piece l i) := by simp [decN, List.range_succ]
theorem okN_succ (A l : List UInt8) (i : Nat) : okN A l (i + 1) = (okN A l i && grpOk A (piece l i)) := by simp [okN, List.range_succ]
theorem okN_false {A l : List UInt8} {i n : Nat} (hi : i < n) (h : okN A l (i + 1) = false) : okN A l n = false := by
  cases hn : okN A l n with
  | false => rfl
  | true =>
    rw [← h]
    simp only [okN, List.all_eq_true, List.mem_range] at hn
    exact (List.all_eq_true.2 fun j hj => hn j (by have := List.mem_range.1 hj; omega)).symm
theorem bitsN_snoc (A g : List UInt8) (c : UInt8) : bitsN A (g ++ [c]) = bitsN A g * 64 + (valL A c).toNat := by simp [bitsN]
theorem valL_range (A : List UInt8) (c : UInt8) : -1 ≤ valL A c ∧ valL A c ≤ 63 := by
  unfold valL valN; have := c.toNat_lt; repeat' split
  all_goals omega
theorem list_snoc_ind {α : Type} {p : List α → Prop} (h0 : p []) (h1 : ∀ l x, p l → p (l ++ [x])) : ∀ l, p l := by
  intro l
  have h : ∀ l : List α, p l.reverse := fun l => by
    induction l with
    | nil => exact h0
    | cons x l ih => rw [List.reverse_cons]; exact h1 _ _ ih
  have := h l.reverse
  rwa [List.reverse_reverse] at this
theorem bitsN_lt (A : List UInt8) : ∀ g : List UInt8, bitsN A g < 64 ^ g.length := by
  refine list_snoc_ind (by simp [bitsN]) fun g c ih => ?_
  have := valL_range A c
  rw [bitsN_snoc, List.length_append, List.length_singleton, Nat.pow_succ]
  omega
theorem decN_len (A l : List UInt8) : ∀ n, (decN A l n).length ≤ 3 * n
  | 0 => by simp [decN]
  | n + 1 => by
    have h1 := decN_len A l n
    have h2 : (grpOut A (piece l n)).length ≤ 3 := by simp [grpOut, piece]; omega
    rw [decN_succ, List.length_append]; omega

theorem grpOut_take (A g : List UInt8) (j : Nat) (hj : j + 1 < g.length) : (grpOut A g).take (j + 1) = (grpOut A g).take j ++ [UInt8.ofNat (grpNum A g / 2 ^ (8 * (2 - j)))] := by
  have h : j < (grpOut A g).length := by simp [grpOut]; omega
  rw [List.take_succ_eq_append_getElem h]
  simp [grpOut]
/-- What the round keeps: the boxes at s (alphabet), s + 1 (the bytes), s + 2 (the code). -/
structure DI (s : Nat) (A : List UInt8) (w W2 : World) (own : Nat → Prop) (out : List UInt8) (code : Int) (v : Value) (W : World) : Prop where
  h0 : W.heap[s]? = some (.cells #[Str A] 9 (0, 0))
  h1 : W.heap[s + 1]? = some (.cells #[v] 45 (0, 0))
  h2 : W.heap[s + 2]? = some (.cells #[.int .i64 code] 51 (0, 0))
  row : W.ownsRow (s + 5) 5 1 v out.length (out.map Byt)
  bel : Below s w W
  kp : Kp (s + 5) own W2 W
  size : s + 5 ≤ W.heap.size
theorem DI.code {s : Nat} {A : List UInt8} {w W2 : World} {own : Nat → Prop} {out : List UInt8} {code : Int} {v : Value} {W : World} (h : DI s A w W2 own out code v W) (hs : s = w.heap.size) (ho : ∀ k, own k → k = s + 3 ∨ k = s + 4) (c : Int) :
    DI s A w W2 own out c v (W.setCell ⟨s + 2, 0, none⟩ (.int .i64 c)) := by
  have hsz := h.size
  have hc := Chg.setCell W ⟨s + 2, 0, none⟩ (.int .i64 c)
  refine ⟨(hc.block s (by omega) (by simp)).trans h.h0, (hc.block (s + 1) (by omega) (by simp)).trans h.h1, one_setCell h.h2, own_keep h.row fun g _ hg hk => hc.block g (kind_lt hk) (by simp; omega), below_chg h.bel hc (by simp; try omega) (by omega), h.kp.trans (Kp.of_chg hc (fun k hk => ?_) (fun k hk hB => ?_)), Nat.le_trans hsz hc.size⟩
  · have := ho k hk; simp; omega
  · simp at hk; omega
theorem DI.push {s : Nat} {A : List UInt8} {w W2 : World} {own : Nat → Prop} {out : List UInt8} {code : Int} {v : Value} {W : World} (h : DI s A w W2 own out code v W) (hs : s = w.heap.size) (ho : ∀ k, own k → k = s + 3 ∨ k = s + 4) {y : UInt8} {v' : Value} {w1 : World}
    (hown : w1.ownsRow (s + 5) 5 1 v' (out.length + 1) (out.map Byt ++ [Byt y])) (hg : W.grownBy w1 v.ownBlock) :
    w1.cell? ⟨s + 1, 0, none⟩ = some v ∧ w1.frozen? ⟨s + 1, 0, none⟩ = false ∧ DI s A w W2 own (out ++ [y]) code v' (w1.setCell ⟨s + 1, 0, none⟩ v') := by
  have hsz := h.size
  have hrow : ∀ k, v.ownBlock = some k → s + 5 ≤ k := fun k hk => (h.row.lt k hk).1
  have hlow : ∀ k, k < s + 5 → w1.heap[k]? = W.heap[k]? := fun k hk => hg.block k (by omega) (fun e => by have := hrow k e.symm; omega)
  have e1 := (hlow (s + 1) (by omega)).trans h.h1
  have hc := Chg.setCell w1 ⟨s + 1, 0, none⟩ v'
  refine ⟨cell_of e1, frozen_of e1, ⟨(hc.block s (by have := hg.size; omega) (by simp)).trans ((hlow s (by omega)).trans h.h0), one_setCell e1, (hc.block (s + 2) (by have := hg.size; omega) (by simp)).trans ((hlow (s + 2) (by omega)).trans h.h2), ?_, ?_, ?_, ?_⟩⟩
  · rw [List.length_append, List.map_append]
    exact own_keep hown fun g _ hg' hk => hc.block g (kind_lt hk) (by simp; omega)
  · exact below_chg (h.bel.grown hg (by have := h.bel.size; omega) (fun k hk => by have := hrow k hk; omega)) hc (by simp; try omega) (by omega)
  · refine h.kp.trans ((Kp.of_grown hg (fun k hk => ⟨by have := ho k hk; omega, fun e => by have := hrow k e; have := ho k hk; omega⟩) (fun k hk => ?_)).trans (Kp.of_chg hc (fun k hk => ?_) (fun k hk hB => ?_)))
    · rcases h.row.2 with ⟨hn, _⟩ | ⟨g, cap, cur, hv, _, hgg, _⟩
      · rw [hn] at hk; simp [Value.ownBlock] at hk
      · rw [hv] at hk; simp [Value.ownBlock] at hk; subst hk; exact ⟨_, kind_of_cells hgg⟩
    · have := ho k hk; have := hg.size; simp; omega
    · simp at hk; omega
  · have := hg.size; have := hc.size; omega

theorem DI.drew {s : Nat} {A : List UInt8} {w W2 : World} {own : Nat → Prop} {out : List UInt8} {code : Int} {v : Value} {W : World} (h : DI s A w W2 own out code v W) : DI s A w W2 own out code v { W with drawn := W.drawn + 1 } :=
  ⟨h.h0, h.h1, h.h2, h.row, ⟨h.bel.os, h.bel.tape, h.bel.output, h.bel.size, h.bel.block⟩, ⟨h.kp.size, h.kp.own, h.kp.other⟩, h.size⟩

theorem groups_any (l : List UInt8) (z : Int) (w : World) :
    Calls Tryd.prog 78 #[Str l, .int .i64 z] w fun e w' => e = .returned (.func (.func 99) #[] #[.pointer (some ⟨w.heap.size, 0, none⟩), .pointer (some ⟨w.heap.size + 1, 0, none⟩)]) ∧
      w' = (w.alloc (.cells #[Str l] 9)).alloc (.cells #[.int .i64 z] 3) := by
  go_enter Tryd.func78, Tryd.ntmps78
  go_wp2
  go_ret
  exact ⟨rfl, rfl⟩

end Go.Proofs.YtpndahmlbjhdfaaDoor

namespace Go.Proofs.YtpndahmlbjhdfaaDoor
open Go.RowKit Go.Shelf
attribute [local go_sem] Oper.semAt_some
set_option maxRecDepth 100000
set_option linter.unusedVariables false
set_option linter.unusedSimpArgs false

theorem agg22 : ∀ w, (isAgg 45).run Tryd.prog w = .ok false w := fun w => by simp [isAgg, run_underlying Tryd.underlying45, Result.andThen]
theorem agg36 : ∀ w, (isAgg 51).run Tryd.prog w = .ok false w := fun w => by simp [isAgg, run_underlying Tryd.underlying51, Result.andThen]

def hexI (c : UInt8) : Int := Lib.indexByte hexd c
theorem hexI_all : ∀ n, n < 256 → -1 ≤ Lib.indexByte hexd (UInt8.ofNat n) ∧ Lib.indexByte hexd (UInt8.ofNat n) ≤ 15 := by decide +kernel
theorem hexI_range (c : UInt8) : -1 ≤ hexI c ∧ hexI c ≤ 15 := by
  have h := hexI_all c.toNat c.toNat_lt
  rwa [UInt8.ofNat_toNat] at h
def grpH (g : List UInt8) : Bool := g.all fun c => hexI c != -1
def numH (g : List UInt8) : Nat := g.foldl (fun b c => b * 16 + (hexI c).toNat) 0
def pc (l : List UInt8) (i : Nat) : List UInt8 := (l.drop (2 * i)).take 2
def unhN (l : List UInt8) (i : Nat) : List UInt8 := (List.range i).map fun j => UInt8.ofNat (numH (pc l j))
def okH (l : List UInt8) (i : Nat) : Bool := (List.range i).all fun j => grpH (pc l j)
/-- What Unhex answers. -/
def unhR (l : List UInt8) : List UInt8 × Nat :=
  if l.length % 2 = 0 then (if okH l ((l.length + 1) / 2) then (unhN l ((l.length + 1) / 2), 0) else ([], 5)) else ([], 2)
theorem unhN_succ (l : List UInt8) (i : Nat) : unhN l (i + 1) = unhN l i ++ [UInt8.ofNat (numH (pc l i))] := by simp [unhN, List.range_succ]
theorem okH_succ (l : List UInt8) (i : Nat) : okH l (i + 1) = (okH l i && grpH (pc l i)) := by simp [okH, List.range_succ]
theorem okH_false {l : List UInt8} {i n : Nat} (hi : i < n) (h : okH l (i + 1) = false) : okH l n = false := by
  cases hn : okH l n with
  | false => rfl
  | true =>
    rw [← h]
    simp only [okH, List.all_eq_true, List.mem_range] at hn
    exact (List.all_eq_true.2 fun j hj => hn j (by have := List.mem_range.1 hj; omega)).symm
theorem numH_snoc (g : List UInt8) (c : UInt8) : numH (g ++ [c]) = numH g * 16 + (hexI c).toNat := by simp [numH]
theorem numH_lt : ∀ g : List UInt8, numH g < 16 ^ g.length := by
  refine list_snoc_ind (by simp [numH]) fun g c ih => ?_
  have := hexI_range c
  rw [numH_snoc, List.length_append, List.length_singleton, Nat.pow_succ]
  omega

/-- What the round keeps: the boxes at s, s + 1 (the results), s + 2 (the bytes). -/
structure DH (s : Nat) (w W2 : World) (own : Nat → Prop) (out : List UInt8) (v : Value) (W : World) : Prop where
  h0 : W.heap[s]? = some (.cells #[.slice none 0 0] 45 (0, 0))
  h1 : W.heap[s + 1]? = some (.cells #[.int .i64 0] 51 (0, 0))
  h2 : W.heap[s + 2]? = some (.cells #[v] 45 (0, 0))
  row : W.ownsRow (s + 5) 5 1 v out.length (out.map Byt)
  bel : Below s w W
  kp : Kp (s + 5) own W2 W
  size : s + 5 ≤ W.heap.size
theorem DH.push {s : Nat} {w W2 : World} {own : Nat → Prop} {out : List UInt8} {v : Value} {W : World} (h : DH s w W2 own out v W) (hs : s = w.heap.size) (ho : ∀ k, own k → k = s + 3 ∨ k = s + 4) {y : UInt8} {v' : Value} {w1 : World}
    (hown : w1.ownsRow (s + 5) 5 1 v' (out.length + 1) (out.map Byt ++ [Byt y])) (hg : W.grownBy w1 v.ownBlock) :
    w1.cell? ⟨s + 2, 0, none⟩ = some v ∧ w1.frozen? ⟨s + 2, 0, none⟩ = false ∧ DH s w W2 own (out ++ [y]) v' (w1.setCell ⟨s + 2, 0, none⟩ v') := by
  have hsz := h.size
  have hrow : ∀ k, v.ownBlock = some k → s + 5 ≤ k := fun k hk => (h.row.lt k hk).1
  have hlow : ∀ k, k < s + 5 → w1.heap[k]? = W.heap[k]? := fun k hk => hg.block k (by omega) (fun e => by have := hrow k e.symm; omega)
  have e1 := (hlow (s + 2) (by omega)).trans h.h2
  have hc := Chg.setCell w1 ⟨s + 2, 0, none⟩ v'
  refine ⟨cell_of e1, frozen_of e1, ⟨(hc.block s (by have := hg.size; omega) (by simp)).trans ((hlow s (by omega)).trans h.h0), (hc.block (s + 1) (by have := hg.size; omega) (by simp)).trans ((hlow (s + 1) (by omega)).trans h.h1), one_setCell e1, ?_, ?_, ?_, ?_⟩⟩
  · rw [List.length_append, List.map_append]
    exact own_keep hown fun g _ hg' hk => hc.block g (kind_lt hk) (by simp; omega)
  · exact below_chg (h.bel.grown hg (by have := h.bel.size; omega) (fun k hk => by have := hrow k hk; omega)) hc (by simp; try omega) (by omega)
  · refine h.kp.trans ((Kp.of_grown hg (fun k hk => ⟨by have := ho k hk; omega, fun e => by have := hrow k e; have := ho k hk; omega⟩) (fun k hk => ?_)).trans (Kp.of_chg hc (fun k hk => ?_) (fun k hk hB => ?_)))
    · rcases h.row.2 with ⟨hn, _⟩ | ⟨g, cap, cur, hv, _, hgg, _⟩
      · rw [hn] at hk; simp [Value.ownBlock] at hk
      · rw [hv] at hk; simp [Value.ownBlock] at hk; subst hk; exact ⟨_, kind_of_cells hgg⟩
    · have := ho k hk; have := hg.size; simp; omega
    · simp at hk; omega
  · have := hg.size; have := hc.size; omega
theorem own_form'' {w : World} {base e : Nat} {v : Value} {n : Nat} {l : List UInt8} (h : w.ownsRow base e 1 v n (l.map Byt)) : ∃ ao cap, v = .slice ao l.length cap ∧ l.length ≤ cap ∧ (ao = none → cap = 0) := by
  obtain ⟨ao, cap, hv, h1, _, h3, _⟩ := sl_of_own h
  rw [List.length_map] at hv h1
  exact ⟨ao, cap, hv, h1, h3⟩
theorem set2 {W : World} {s : Nat} {a b u0 u1 : Value} {t0 t1 : TypeId} (h0 : W.heap[s]? = some (.cells #[a] t0 (0, 0))) (h1 : W.heap[s + 1]? = some (.cells #[b] t1 (0, 0))) :
    ((W.setCell ⟨s, 0, none⟩ u0).setCell ⟨s + 1, 0, none⟩ u1).heap[s]? = some (.cells #[u0] t0 (0, 0)) ∧ ((W.setCell ⟨s, 0, none⟩ u0).setCell ⟨s + 1, 0, none⟩ u1).heap[s + 1]? = some (.cells #[u1] t1 (0, 0)) ∧
      Chg (fun k => k = s ∨ k = s + 1) W ((W.setCell ⟨s, 0, none⟩ u0).setCell ⟨s + 1, 0, none⟩ u1) := by
  refine ⟨?_, one_setCell (by rw [Below.heap_setCell _ _ _ _ (by simp)]; exact h1), ((Chg.setCell W ⟨s, 0, none⟩ u0).mono fun k h => .inl h).trans ((Chg.setCell _ ⟨s + 1, 0, none⟩ u1).mono fun k h => .inr h)⟩
  rw [Below.heap_setCell _ _ _ _ (by simp)]
  exact one_setCell h0
set_option maxHeartbeats 2000000 in
theorem unhex_any (l : List UInt8) (w : World) (hl : l.length ≤ 10000) :
    Calls Tryd.prog 57 #[Str l] w fun e w' => ∃ v, e = .returned (.tuple #[v, .int .i64 ((unhR l).2 : Int)]) ∧ w'.ownsRow w.heap.size 5 1 v (unhR l).1.length ((unhR l).1.map Byt) ∧ Ext w w' := by
  have hf := Lib.hid (show unhR l = if l.length % 2 = 0 then (if okH l ((l.length + 1) / 2) then (unhN l ((l.length + 1) / 2), 0) else ([], 5)) else ([], 2) from rfl)
  refine (callsIn_wide (n := 5)).1 (callsIn_of_wp_marks Tryd.func57 rfl trivial (wpIn_wide.2 ?_) rfl)
  simp only [Tryd.ntmps57, List.size_toArray, List.length_cons, List.length_nil, Nat.reduceAdd, Nat.reduceSub, Array.replicate_succ, Array.replicate_zero, List.push_toArray, List.append_toArray, List.nil_append, List.cons_append]
  by_cases hev : l.length % 2 = 0
  · rw [if_pos hev] at hf
    go_wp2_with (go_at_call 78; refine (groups_any _ _ _).mono ?_; rintro e w' ⟨rfl, rfl⟩)
    obtain ⟨W0, hW0⟩ : ∃ W0, ((((w.alloc (.cells #[.slice none 0 0] 45)).alloc (.cells #[.int .i64 0] 51)).alloc (.cells #[.slice none 0 0] 45)).alloc (.cells #[Str l] 9)).alloc (.cells #[.int .i64 2] 3) = W0 := ⟨_, rfl⟩
    have hW0' : W0 = allocs w [.cells #[.slice none 0 0] 45, .cells #[.int .i64 0] 51, .cells #[.slice none 0 0] 45, .cells #[Str l] 9, .cells #[.int .i64 2] 3] := hW0.symm
    have b0 : W0.heap[w.heap.size]? = some (.cells #[.slice none 0 0] 45 (0, 0)) := by rw [hW0']; exact allocs_at w _ 0 _ rfl
    have b1 : W0.heap[w.heap.size + 1]? = some (.cells #[.int .i64 0] 51 (0, 0)) := by rw [hW0']; exact allocs_at w _ 1 _ rfl
    have b2 : W0.heap[w.heap.size + 2]? = some (.cells #[.slice none 0 0] 45 (0, 0)) := by rw [hW0']; exact allocs_at w _ 2 _ rfl
    have b3 : W0.heap[w.heap.size + 3]? = some (.cells #[Str l] 9 (0, 0)) := by rw [hW0']; exact allocs_at w _ 3 _ rfl
    have b4 : W0.heap[w.heap.size + 4]? = some (.cells #[.int .i64 2] 3 (0, 0)) := by rw [hW0']; exact allocs_at w _ 4 _ rfl
    have hext0 : Ext w W0 := by rw [hW0']; exact allocs_ext _ _
    have hsz0 : W0.heap.size = w.heap.size + 5 := by rw [hW0']; exact allocs_size _ _
    rw [hW0]
    clear hW0 hW0'
    have hit := groups_iter l 2 (by omega) (w.heap.size + 3) (w.heap.size + 4) W0 b3 b4
    rw [show gsz 2 l.length = 2 from rfl, show gcnt 2 l.length = (l.length + 1) / 2 from rfl] at hit
    refine wpIn_wide.1 (wpIn_range (n := 5) (P := Tryd.prog) rfl (enters_of Tryd.func99 (by kernel_rfl) rfl) hit (fun k h => by omega) (fun k h => by omega) (fun _ => rfl)
      (fun i W => okH l i = true ∧ ∃ v, W.heap[w.heap.size]? = some (.cells #[.slice none 0 0] 45 (0, 0)) ∧ W.heap[w.heap.size + 1]? = some (.cells #[.int .i64 0] 51 (0, 0)) ∧
        W.heap[w.heap.size + 2]? = some (.cells #[v] 45 (0, 0)) ∧ W.ownsRow (w.heap.size + 5) 5 1 v (unhN l i).length ((unhN l i).map Byt) ∧ Below w.heap.size w W ∧ w.heap.size + 5 ≤ W.heap.size)
      (fun c i W => c = .ret ∧ okH l (i + 1) = false ∧ W.heap[w.heap.size]? = some (.cells #[.slice none 0 0] 45 (0, 0)) ∧
        W.heap[w.heap.size + 1]? = some (.cells #[.int .i64 5] 51 (0, 0)) ∧ Below w.heap.size w W ∧ w.heap.size + 5 ≤ W.heap.size) ?_ ?_
      ⟨rfl, _, b0, b1, b2, World.ownsRow_nil _ _ _ _, hext0, by omega⟩ ?_ ?_ ?_)
    · rintro i A' C ⟨hok, v, h0, h1, h2, hown, hbel, hsz⟩ hm
      exact ⟨hok, v, hm.keeps h0 (by omega) (by omega), hm.keeps h1 (by omega) (by omega), hm.keeps h2 (by omega) (by omega), own_mv hown hm (fun k hk => by omega), hm.below hbel (fun k hk => by omega) (by omega) (Nat.le_refl _), Nat.le_trans hsz hm.size⟩
    · rintro c i A' C ⟨hc, hok, h0, h1, hbel, hsz⟩ hm
      exact ⟨hc, hok, hm.keeps h0 (by omega) (by omega), hm.keeps h1 (by omega) (by omega), hm.below hbel (fun k hk => by omega) (by omega) (Nat.le_refl _), Nat.le_trans hsz hm.size⟩
    · rintro m lp i W hi ⟨hok, v, h0, h1, h2, hown, hbel, hsz⟩ hlp hrec
      gi_wp2
      refine ⟨Kp.refl _ _ _, fun W2 hm2 hrec2 => ?_⟩
      replace h0 := hm2.keeps h0 (fun h => h) (by omega)
      replace h1 := hm2.keeps h1 (fun h => h) (by omega)
      replace h2 := hm2.keeps h2 (fun h => h) (by omega)
      replace hown := own_mv hown hm2 (fun k hk => hk.elim)
      replace hbel := hm2.below hbel (fun k hk => hk.elim) (by omega) (Nat.le_refl _)
      replace hsz := Nat.le_trans hsz hm2.size
      clear hm2 hrec hrec2
      have hdn := Lib.hid (unhN_succ l i); have hkn := Lib.hid (okH_succ l i)
      have hg2 : (pc l i).length = 2 := by simp [pc]; omega
      have hdl : (unhN l i).length ≤ 10000 := by simp [unhN]; omega
      rw [show (l.drop (2 * i)).take 2 = pc l i from rfl]
      generalize pc l i = g at *
      obtain ⟨capb, Wb, hconv, hextb, hslb⟩ := bytes_of_str (P := Tryd.prog) W2 9 45 5 g (by unfold maxLen; omega) Tryd.underlying9 Tryd.underlying45 Tryd.underlying5
      gi_wp2
      have hck : ∀ k, k < g.length → Wb.cell? (adr (some ⟨W2.heap.size, 0, none⟩) k) = some (Byt (bt g k)) := by
        obtain ⟨ao, cap, hve, hcap, hmax, hnil, hcell⟩ := hslb
        simp only [List.length_map] at hve; cases hve
        exact fun k hk => hcell k _ (byt_map g k hk)
      have hcapb : g.length ≤ capb := by
        obtain ⟨ao, cap, hve, hcap, hmax, hnil, hcell⟩ := hslb
        simp only [List.length_map] at hve hcap; cases hve
        exact hcap
      have HC := Lib.hid hck; clear hck hslb
      have hix := run_index_adr (P := Tryd.prog) Tryd.underlying45 Tryd.sizeOf5 (ao := some ⟨W2.heap.size, 0, none⟩) (by simp) hcapb
      rw [hg2] at hix hcapb
      have hszb := hextb.size
      have e0 := (hextb.block _ (by omega)).trans h0
      have e1 := (hextb.block _ (by omega)).trans h1
      have e2 := (hextb.block _ (by omega)).trans h2
      have D0 : DH w.heap.size w W2 (fun k => k = w.heap.size + 3 ∨ k = w.heap.size + 4) (unhN l i) v Wb := ⟨e0, e1, e2, own_ext hown hextb, hbel.trans (hextb.mono (show w.heap.size ≤ W2.heap.size by omega)), Kp.of_ext hextb (fun k hk => by omega), by omega⟩
      have hc0 := cell_of e0; have hf0 := frozen_of e0
      have hc1 := cell_of e1; have hf1 := frozen_of e1
      clear h0 h1 hown h2 hbel hextb e0 e1 e2
      have HD0 := Lib.hid D0; clear D0
      gi_loop [6, 20] (fun b i => ∃ k : Nat, k ≤ 2 ∧ i = .int .i64 k ∧ b = .int .i64 (numH (g.take k) : Nat) ∧ grpH (g.take k) = true) (fun _ i => 2 - (intOf i).toNat)
      case atStart => exact ⟨0, by omega, rfl, rfl, rfl⟩
      case round =>
        obtain ⟨k, hk, rfl, rfl, hgo⟩ := hrel
        by_cases h3 : k < 2
        · have h3' : k < g.length := by omega
          have hlt : numH (g.take k) < 256 := Nat.lt_of_lt_of_le (numH_lt _) (Nat.pow_le_pow_right (n := 16) (by omega) (show (g.take k).length ≤ 2 by simp; omega))
          have Hb := Lib.hid (numH_snoc (g.take k) (bt g k)); rw [← take_snoc g k h3'] at Hb
          have Hok := Lib.hid (show grpH (g.take k ++ [bt g k]) = (hexI (bt g k) != -1) by simp only [grpH, List.all_append] at hgo ⊢; rw [hgo]; simp); rw [← take_snoc g k h3'] at Hok
          have Hmono := Lib.hid (show grpH (g.take (k + 1)) = false → grpH g = false by
            intro h; cases hg : grpH g with
            | false => rfl
            | true =>
              rw [← h]; simp only [grpH, List.all_eq_true] at hg ⊢
              exact (List.all_eq_true.2 fun x hx => hg x (List.mem_of_mem_take hx)).symm)
          have hcb := HC.out k h3'
          have Hv := Lib.hid (fun W => indexb_any hexd (bt g k) W)
          rw [show Lib.indexByte hexd (bt g k) = hexI (bt g k) from rfl] at Hv
          have hv := hexI_range (bt g k)
          have hbt := (bt g k).toNat_lt
          generalize numH (g.take k) = b at *
          generalize bt g k = c at *
          clear hgo
          generalize hexI c = v0 at *
          rcases (show v0 = -1 ∨ 0 ≤ v0 by omega) with hneg | hpos
          · subst hneg
            have hf2 := Hmono.out (by rw [Hok.out]; rfl)
            gi_wp2_with (refine ⟨trivial, fun h => by simp [Fence.wide] at h, ?_⟩; gi_at_call 79; refine (CallsIn.inRound lp (callsIn_wide.2 (Hv.out _))).mono ?_; rintro e W3 ⟨rfl, rfl⟩)
            obtain ⟨g0, g1, gc⟩ := set2 (u0 := .slice none 0 0) (u1 := .int .i64 5) HD0.out.h0 HD0.out.h1
            refine ⟨?_, rfl, by rw [hkn.out, hok, hf2]; rfl, g0, g1, below_chg HD0.out.bel gc (fun k hk => by omega) (Nat.le_refl _), Nat.le_trans HD0.out.size gc.size⟩
            rw [hsz0]
            exact HD0.out.kp.trans (Kp.of_chg gc (fun k hk => ⟨by have := HD0.out.size; omega, by omega⟩) (fun k hk hB => by omega))
          · obtain ⟨x, rfl⟩ := Int.eq_ofNat_of_zero_le hpos
            have hor := or_num 4 16 16 b x rfl rfl (by omega) (by omega)
            gi_wp2_with (refine ⟨trivial, fun h => by simp [Fence.wide] at h, ?_⟩; gi_at_call 79; refine (CallsIn.inRound lp (callsIn_wide.2 (Hv.out _))).mono ?_; rintro e W3 ⟨rfl, rfl⟩)
            go_round
            case rel => exact ⟨k + 1, by omega, by go_num, by rw [Hb.out]; go_num, by rw [Hok.out]; simp⟩
            case measure => simp [intOf] <;> omega
        · obtain rfl : k = 2 := by omega
          rw [List.take_of_length_le (by omega)] at hgo ⊢
          have hnl : numH g < 256 := by have := numH_lt g; rw [hg2] at this; exact this
          have hok1 : okH l (i + 1) = true := by rw [hkn.out, hok, hgo]; rfl
          have hc2 := cell_of HD0.out.h2
          clear h3 hk hgo
          generalize numH g = b at *
          have hu : Value.int .u8 (b : Int) = Byt (UInt8.ofNat b) := by simp only [Byt, UInt8.toNat_ofNat']; congr 1; omega
          have HU := Lib.hid hu; clear hu
          gi_wp2_with (gi_at_builtin; refine wpListIn_push (w.heap.size + 5) rfl _ _ 45 5 rfl Tryd.underlying45 infoByte rfl (by omega) HD0.out.row _ rfl (by omega) HD0.out.size rfl rfl ?_; rintro _ w1 ⟨g1, cap1, rfl⟩ hown1 hgr1; rw [HU.out] at hown1; obtain ⟨q1, q2, q3⟩ := HD0.out.push rfl (fun k h => h) hown1 hgr1; clear hown1 hgr1; have Q3 := Lib.hid q3; clear q3)
          exact ⟨Q3.out.kp, hok1, Q3.out.h0, Q3.out.h1, _, Q3.out.h2, by rw [hdn.out]; exact Q3.out.row, Q3.out.bel, Q3.out.size⟩
    · rintro D W hD ⟨hok, v, h0, h1, h2, hown, hbel, hsz⟩ hdef
      have hc0 := cell_of h0; have hf0 := frozen_of h0
      have hc1 := cell_of h1; have hf1 := frozen_of h1
      have hc2 := cell_of h2
      rw [if_pos hok] at hf
      obtain ⟨ao, cap, hve, _, _⟩ := own_form'' hown
      have Hown := Lib.hid hown; clear hown
      subst hve
      go_wp2
      obtain ⟨g0, g1, gc⟩ := set2 (u0 := .slice ao (unhN l ((l.length + 1) / 2)).length cap) (u1 := .int .i64 0) h0 h1
      have hne : ∀ k, k ≤ w.heap.size + 1 → k ≠ D := fun k hk => by omega
      have hdef2 := (gc.block D (Array.getElem?_eq_some_iff.1 hdef).1 (by omega)).trans hdef
      refine marks_ret_at hdef2 (results_cells rfl _ _ _ rfl rfl agg22 agg36 (cell_of ((World.putObj_heap_other (hne _ (by omega))).trans g0)) (cell_of ((World.putObj_heap_other (hne _ (by omega))).trans g1))) ⟨_, by rw [hf.out]; rfl, ?_, below_mark (below_chg hbel gc (fun k hk => by omega) (Nat.le_refl _)) (by omega) hdef2⟩
      rw [hf.out]
      refine own_base (own_put ?_ hdef2) (show w.heap.size ≤ w.heap.size + 5 by omega)
      exact own_keep Hown.out fun g _ hg hk => gc.block g (kind_lt hk) (by omega)
    · rintro D c i W hD hi ⟨rfl, hok, h0, h1, hbel, hsz⟩ hdef
      rw [if_neg (by rw [okH_false hi hok]; simp)] at hf
      refine wpIn_wide.2 ?_
      go_wp2
      have hne : ∀ k, k ≤ w.heap.size + 1 → k ≠ D := fun k hk => by omega
      refine marks_ret_at (D := D) hdef (results_cells rfl _ _ _ rfl rfl agg22 agg36 (cell_of ((World.putObj_heap_other (hne _ (by omega))).trans h0)) (cell_of ((World.putObj_heap_other (hne _ (by omega))).trans h1))) ⟨_, by rw [hf.out]; rfl, ?_, below_mark hbel (by omega) hdef⟩
      rw [hf.out]
      exact World.ownsRow_nil _ _ _ _
  · rw [if_neg hev] at hf
    go_wp2
    obtain ⟨W0, hW0⟩ : ∃ W0, (w.alloc (.cells #[.slice none 0 0] 45)).alloc (.cells #[.int .i64 2] 51) = W0 := ⟨_, rfl⟩
    have b0 : W0.heap[w.heap.size]? = some (.cells #[.slice none 0 0] 45 (0, 0)) := by rw [← hW0]; exact allocs_at w [.cells #[.slice none 0 0] 45, .cells #[.int .i64 2] 51] 0 _ rfl
    have b1 : W0.heap[w.heap.size + 1]? = some (.cells #[.int .i64 2] 51 (0, 0)) := by rw [← hW0]; exact allocs_at w [.cells #[.slice none 0 0] 45, .cells #[.int .i64 2] 51] 1 _ rfl
    have hext0 : Ext w W0 := by rw [← hW0]; exact allocs_ext w [.cells #[.slice none 0 0] 45, .cells #[.int .i64 2] 51]
    rw [hW0]
    refine ⟨_, results_cells rfl _ _ _ rfl rfl agg22 agg36 (cell_of b0) (cell_of b1), _, by rw [hf.out]; rfl, ?_, hext0⟩
    rw [hf.out]
    exact World.ownsRow_nil _ _ _ _
end Go.Proofs.YtpndahmlbjhdfaaDoor

namespace Go.Proofs.YtpndahmlbjhdfaaDoor
open Go.RowKit

def plain : List UInt8 := [65, 66, 67, 68, 69, 70, 71, 72, 73, 74, 75, 76, 77, 78, 79, 80, 81, 82, 83, 84, 85, 86, 87, 88, 89, 90, 97, 98, 99, 100, 101, 102, 103, 104, 105, 106, 107, 108, 109, 110, 111, 112, 113, 114, 115, 116, 117, 118, 119, 120, 121, 122, 48, 49, 50, 51, 52, 53, 54, 55, 56, 57, 43, 47]
def other : List UInt8 := [65, 66, 67, 68, 69, 70, 71, 72, 73, 74, 75, 76, 77, 78, 79, 80, 81, 82, 83, 84, 85, 86, 87, 88, 89, 90, 97, 98, 99, 100, 101, 102, 103, 104, 105, 106, 107, 108, 109, 110, 111, 112, 113, 114, 115, 116, 117, 118, 119, 120, 121, 122, 48, 49, 50, 51, 52, 53, 54, 55, 56, 57, 45, 95]

set_option maxHeartbeats 1000000 in
theorem hex_any (v : Value) (l : List UInt8) (w : World) (hv : SlB w v l) (hn : l.length ≤ 1000) :
    Calls Tryd.prog 51 #[v] w fun e w' => e = .returned (Str (hexL l)) ∧ Ext w w' := by
  obtain ⟨ao, cap, rfl, hcap, hmax, hnil, hcell⟩ := hv
  simp only [List.length_map] at hcap ⊢
  have HC := Lib.hid hcell; clear hcell
  have hix := run_index_adr (P := Tryd.prog) Tryd.underlying45 Tryd.sizeOf5 hnil hcap
  have hl := hexd_lit; have hll := hexd_len
  have hb0 := bld_new (w.heap.size + 1) w
  go_enter Tryd.func51, Tryd.ntmps51
  go_wp2
  go_loopw [8] (fun i wr => ∃ k : Nat, k ≤ l.length ∧ i = .int .i64 k ∧ Bld (w.heap.size + 1) wr w.heap.size (hexL (l.take k)) ∧ Ext w wr) (fun i _ => l.length - (intOf i).toNat)
  case atStart => exact ⟨0, by omega, rfl, hb0, (Below.refl _ w).alloc (Nat.le_refl _) _⟩
  case round =>
    obtain ⟨k, hk, rfl, hbl, hext⟩ := hrel
    by_cases h3 : k < l.length
    · have hck : wr.cell? (adr ao k) = some (Byt (bt l k)) := ext_cell hext (HC.out k _ (byt_map l k h3))
      have hlen : (hexL (l.take k)).length ≤ 2000 := by rw [hexL_len]; simp; omega
      have Hh := Lib.hid (hexL_snoc (l.take k) (bt l k)); rw [← take_snoc l k h3] at Hh
      have hb := (bt l k).toNat_lt
      generalize bt l k = c at *
      have hsz := hbl.lt
      generalize hexL (l.take k) = bs at *
      have Hb := Lib.hid hbl; clear hbl
      have p1 : bs.length + 1 ≤ 100000000 := by omega
      have p2 : (bs ++ [bt hexd (c.toNat / 16)]).length + 1 ≤ 100000000 := by simp; omega
      have p3 : w.heap.size + 1 ≤ wr.heap.size := hsz
      go_wp2_with (go_at_call 70; first
        | (with_reducible refine (WriteByte_any (w.heap.size + 1) w.heap.size (bs ++ [bt hexd (c.toNat / 16)]) (bt hexd (c.toNat % 16)) _ Hb1.out p2 (Nat.le_trans p3 hs1)).mono ?_; rintro e W2 ⟨he2, hb2, hfr2⟩; subst he2; have Hb2 := Lib.hid hb2; clear hb2)
        | (with_reducible refine (WriteByte_any (w.heap.size + 1) w.heap.size bs (bt hexd (c.toNat / 16)) wr Hb.out p1 p3).mono ?_; rintro e W1 ⟨he1, hb1, hfr1⟩; subst he1; have Hb1 := Lib.hid hb1; clear hb1; have hs1 := hfr1.size))
      go_roundw
      case rel => exact ⟨k + 1, by omega, by go_num, by rw [Hh.out, List.append_assoc] at *; exact Hb2.out, hext.trans ((hfr1.trans hfr2).below (by omega) (by omega) (by omega))⟩
      case measure => simp [intOf]; omega
    · have hsz := hbl.lt
      have Hb := Lib.hid hbl; clear hbl
      go_wp2_with (go_at_call 71; refine (String_any (w.heap.size + 1) w.heap.size _ _ Hb.out).mono ?_; rintro e W1 ⟨rfl, hfr1⟩)
      go_ret
      exact ⟨by rw [List.take_of_length_le (by omega)]; rfl, hext.trans (hfr1.below (by omega) (by omega) (by omega))⟩

/-- One '=' off the end. -/
def trim (l : List UInt8) : List UInt8 := if 0 < l.length ∧ bt l (l.length - 1) = 61 then l.take (l.length - 1) else l
def trimN (l : List UInt8) : Nat → List UInt8
  | 0 => l
  | k + 1 => trim (trimN l k)
theorem trim_len (l : List UInt8) : (trim l).length ≤ l.length := by unfold trim; split <;> simp
theorem trimN_len (l : List UInt8) : ∀ k, (trimN l k).length ≤ l.length
  | 0 => Nat.le_refl _
  | k + 1 => Nat.le_trans (trim_len _) (trimN_len l k)
/-- What Decode answers. -/
def decF (l : List UInt8) : List UInt8 × Nat :=
  if l.length % 4 = 0 then (if (trimN l 2).length % 4 = 1 then ([], 5) else decR plain (trimN l 2)) else ([], 2)
def decU (l : List UInt8) : List UInt8 × Nat := if l.length % 4 = 1 then ([], 2) else decR other l

end Go.Proofs.YtpndahmlbjhdfaaDoor

namespace Go.Proofs.YtpndahmlbjhdfaaDoor
open Go.RowKit
set_option maxRecDepth 100000
set_option linter.unusedVariables false
set_option linter.unusedSimpArgs false

theorem ownsRow_set {w : World} {base e : Nat} {g n cap : Nat} {xs : List Value} (h : w.ownsRow base e 1 (.slice (some ⟨g, 0, none⟩) n cap) n xs) {j : Nat} (hj : j < n) (u : Value) :
    (w.setCell ⟨g, j, none⟩ u).ownsRow base e 1 (.slice (some ⟨g, 0, none⟩) n cap) n (xs.set j u) := by
  obtain ⟨hl, h⟩ := h
  rcases h with ⟨hn, _⟩ | ⟨g', cap', cur, hv, hb, hg, hn, hm, hs, ht⟩
  · cases hn
  · cases hv
    refine ⟨by simpa using hl, .inr ⟨g, cap, cur.setIfInBounds j u, rfl, hb, ?_, hn, hm, by simpa using hs, ?_⟩⟩
    · simp only [World.setCell, Array.getElem?_modify, hg, if_true, Option.map_some]
      simp
    · rw [← ht]
      simp [List.take_set]
theorem hex_at : ∀ k, k < 16 → ∀ n, n < 256 → (bt hexd k = UInt8.ofNat n ↔ Lib.indexByte hexd (UInt8.ofNat n) = (k : Int)) := by decide +kernel
theorem hexI_at (k : Nat) (hk : k < 16) (c : UInt8) : bt hexd k = c ↔ hexI c = (k : Int) := by
  have h := hex_at k hk c.toNat c.toNat_lt
  rwa [UInt8.ofNat_toNat] at h
/-- The place that the loop over the digits has found when it has looked at k of them. -/
def seen (c : UInt8) (k : Nat) : Int := if 0 ≤ hexI c ∧ hexI c < (k : Int) then hexI c else -1
theorem seen_zero (c : UInt8) : seen c 0 = -1 := by unfold seen; rw [if_neg]; omega
theorem seen_hit (c : UInt8) (k : Nat) (h : hexI c = (k : Int)) : seen c (k + 1) = (k : Int) := by unfold seen; rw [if_pos (by omega), h]
theorem seen_miss (c : UInt8) (k : Nat) (h : hexI c ≠ (k : Int)) : seen c (k + 1) = seen c k := by
  unfold seen
  by_cases h1 : 0 ≤ hexI c ∧ hexI c < (k : Int)
  · rw [if_pos h1, if_pos (by omega)]
  · rw [if_neg h1, if_neg (by omega)]
theorem seen_all (c : UInt8) : seen c 16 = hexI c := by
  have := hexI_range c
  unfold seen
  split <;> omega

def outP (l : List UInt8) (k : Nat) : List UInt8 := if k % 2 = 0 then unhN l (k / 2) else unhN l (k / 2) ++ [UInt8.ofNat (16 * (hexI (bt l (k - 1))).toNat)]
theorem outP_even (l : List UInt8) (k : Nat) (h : k % 2 = 0) : outP l (k + 1) = outP l k ++ [UInt8.ofNat (16 * (hexI (bt l k)).toNat)] := by
  unfold outP
  rw [if_pos h, if_neg (by omega), show (k + 1) / 2 = k / 2 by omega, Nat.add_sub_cancel]
theorem pc_two (l : List UInt8) (q : Nat) (h : 2 * q + 1 < l.length) : pc l q = [bt l (2 * q), bt l (2 * q + 1)] := by
  unfold pc
  rw [List.drop_eq_getElem_cons (by omega), List.drop_eq_getElem_cons (by omega), bt_get l _ (by omega), bt_get l _ h]
  rfl
theorem outP_odd (l : List UInt8) (k : Nat) (h : k % 2 = 1) (hk : k < l.length) : outP l (k + 1) = (outP l k).set (k / 2) (UInt8.ofNat (16 * (hexI (bt l (k - 1))).toNat + (hexI (bt l k)).toNat)) := by
  obtain ⟨q, rfl⟩ : ∃ q, k = 2 * q + 1 := ⟨k / 2, by omega⟩
  unfold outP
  rw [if_pos (by omega), if_neg (by omega), show (2 * q + 1 + 1) / 2 = q + 1 by omega, show (2 * q + 1) / 2 = q by omega, unhN_succ, pc_two l q hk, Nat.add_sub_cancel]
  have hl : (unhN l q).length = q := by simp [unhN]
  rw [List.set_append_right _ _ (by omega), hl, Nat.sub_self, List.set_cons_zero]
  simp [numH, Nat.mul_comm]
theorem outP_len (l : List UInt8) (k : Nat) : (outP l k).length = (k + 1) / 2 := by
  unfold outP
  split
  · simp [unhN]; omega
  · simp [unhN]; omega

set_option maxHeartbeats 1000000 in
theorem refUnhex_any (l : List UInt8) (w : World) (hl : l.length ≤ 1000) :
    Calls Tryd.prog 60 #[Str l] w fun e w' => ∃ v, e = .returned (.tuple #[v, .int .i64 ((unhR l).2 : Int)]) ∧ w'.ownsRow w.heap.size 5 1 v (unhR l).1.length ((unhR l).1.map Byt) ∧ Ext w w' := by
  have hf := Lib.hid (show unhR l = if l.length % 2 = 0 then (if okH l ((l.length + 1) / 2) then (unhN l ((l.length + 1) / 2), 0) else ([], 5)) else ([], 2) from rfl)
  by_cases hev : l.length % 2 = 0
  · rw [if_pos hev] at hf
    have hlit := hexd_lit; have hll := hexd_len
    go_enter Tryd.func60, Tryd.ntmps60
    have hb0 : (((l.length : Int) % 2) != 0) = false := by simp; omega
    go_wp2
    go_loopw [4, 5] (fun o i wr => ∃ k : Nat, k ≤ l.length ∧ i = .int .i64 k ∧ wr.ownsRow w.heap.size 5 1 o ((k + 1) / 2) ((outP l k).map Byt) ∧ Hid (∀ m, m < k → hexI (bt l m) ≠ -1) ∧ Ext w wr) (fun _ i _ => l.length - (intOf i).toNat)
    case atStart => exact ⟨0, by omega, rfl, World.ownsRow_nil _ _ _ _, Lib.hid (fun m h => by omega), Below.refl _ _⟩
    case round =>
      obtain ⟨k, hk, rfl, hown, hno, hext⟩ := hrel
      have Hown := Lib.hid hown; clear hown
      by_cases h3 : k < l.length
      · have hix : ∀ W, (Instr.index 9 (Str l) (.int .i64 (k : Int))).run Tryd.prog W = .ok (Byt (bt l k)) W := fun W => run_index_str Tryd.underlying9 l k _ rfl h3 W
        have hpe := Lib.hid (outP_even l k)
        have hpo := Lib.hid (fun h => outP_odd l k h h3)
        have hpl := Lib.hid (outP_len l k)
        have hvr := hexI_range (bt l k)
        have hc := (bt l k).toNat_lt
        obtain ⟨c, hck⟩ : ∃ c, bt l k = c := ⟨_, rfl⟩
        rw [hck] at hix hpe hpo hvr hc
        have Hck := Lib.hid hck; clear hck
        generalize wr = W1 at *
        go_wp2
        go_loopw [6, 7] (fun v n W => ∃ m : Nat, m ≤ 16 ∧ n = .int .i64 m ∧ v = .int .i64 (seen c m) ∧ ∃ d, W = W1.drewN d) (fun _ n _ => 16 - (intOf n).toNat)
        case atStart => exact ⟨0, by omega, rfl, by rw [seen_zero], 0, rfl⟩
        case round =>
          obtain ⟨m, hm, rfl, rfl, d, rfl⟩ := hrel
          by_cases hm16 : m < 16
          · have hat := hexI_at m hm16 c
            have hcm := (bt hexd m).toNat_lt
            by_cases he : bt hexd m = c
            · have hs := Lib.hid (seen_hit c m (hat.1 he))
              clear hat
              go_wp2
              refine wp_region_quiet_lit (by kernel_rfl) (by kernel_rfl) ?_
              repeat (first
                | go_big_quiet_skip
                | (go_big_quiet_want; go_big_quiet_op; (try go_bits); first | go_big_quiet_on | go_big_quiet_call (fail)))
              refine wpQuiet_nil ?_
              intro _ hw'
              obtain ⟨nq, hw''⟩ := hw'
              subst hw''
              go_wp2
              exact ⟨⟨m + 1, by omega, by first | go_num | omega, by rw [hs.out], _, rfl⟩, by simp [intOf] <;> omega⟩
            · have hs := Lib.hid (seen_miss c m (fun h => he (hat.2 h)))
              have hne : (((bt hexd m).toNat : Int) == (c.toNat : Int)) = false := by
                rw [beq_eq_false_iff_ne]
                intro e
                exact he (UInt8.toNat_inj.1 (by omega))
              have hneP : ((bt hexd m).toNat : Int) ≠ (c.toNat : Int) := by simpa using hne
              clear hat he
              go_wp2
              refine wp_region_quiet_lit (by kernel_rfl) (by kernel_rfl) ?_
              repeat (first
                | go_big_quiet_skip
                | (go_big_quiet_want; go_big_quiet_op; (try go_bits); first | go_big_quiet_on | go_big_quiet_call (fail)))
              refine wpQuiet_nil ?_
              intro _ hw'
              obtain ⟨nq, hw''⟩ := hw'
              subst hw''
              go_wp2
              all_goals first
                | exact ⟨⟨m + 1, by omega, by first | go_num | omega, by rw [hs.out], _, rfl⟩, by simp [intOf] <;> omega⟩
                | (exfalso; omega)
                | (exfalso; simp_all)
                | (exfalso; rename_i hq _; revert hq; simp [hne, hneP])
          · obtain rfl : m = 16 := by omega
            rw [seen_all]
            have Hno : Hid (hexI c ≠ -1 → ∀ m, m < k + 1 → hexI (bt l m) ≠ -1) := Lib.hid (fun h m hm => by
              by_cases e : m = k
              · subst e; rw [Hck.out]; exact h
              · exact hno.out m (by omega))
            have Hbad : Hid (hexI c = -1 → unhR l = ([], 5)) := Lib.hid (fun h => by
              rw [hf.out, if_neg]
              intro ho
              have := List.all_eq_true.1 ho (k / 2) (List.mem_range.2 (by omega))
              have hp := pc_two l (k / 2) (by omega)
              rw [hp] at this
              simp only [grpH, List.all_cons, List.all_nil, Bool.and_true, Bool.and_eq_true] at this
              rcases (show k = 2 * (k / 2) ∨ k = 2 * (k / 2) + 1 by omega) with e | e
              · rw [← e, Hck.out, h] at this; simp at this
              · rw [← e, Hck.out, h] at this; simp at this)
            generalize hexI c = v at *
            rcases (show v = -1 ∨ 0 ≤ v by omega) with hneg | hpos
            · subst hneg
              have hb := Lib.hid (Hbad.out rfl)
              go_wp2
              go_ret2
              exact ⟨.slice none 0 0, by rw [hb.out]; rfl, by rw [hb.out]; exact World.ownsRow_nil _ _ _ _, hext.drewN d⟩
            · obtain ⟨x, rfl⟩ := Int.eq_ofNat_of_zero_le hpos
              have hno1 := Lib.hid (Hno.out (by simp))
              rw [Int.toNat_natCast] at hpe hpo
              have hextd := Lib.hid (hext.drewN d)
              have Hownd := Lib.hid (own_ext Hown.out (Below.drewN (Below.refl _ _) d))
              generalize W1.drewN d = W2 at *
              by_cases hpar : k % 2 = 0
              · have hu := Lib.hid (show Value.int .u8 (16 * (x : Int)) = Byt (UInt8.ofNat (16 * x)) by simp only [Byt, UInt8.toNat_ofNat']; congr 1; omega)
                have hpe2 := Lib.hid (hpe.out hpar)
                have hkk := Lib.hid (show (k + 1 + 1) / 2 = (k + 1) / 2 + 1 by omega)
                have hq : (k + 1) / 2 ≤ 1000 := by omega
                generalize (k + 1) / 2 = q at *
                go_wp2_with (at_builtin; refine wpList_push w.heap.size rfl _ _ 45 5 rfl Tryd.underlying45 infoByte rfl (by omega) Hownd.out _ rfl (by omega) hextd.out.size rfl rfl ?_; rintro _ w1 ⟨g1, cap1, rfl⟩ hown1 hgr1; have hex1 := Lib.hid (ext_push hextd.out Hownd.out hgr1); rw [hu.out] at hown1; have Hown1 := Lib.hid hown1; clear hown1 hgr1)
                have hrow : w1.ownsRow w.heap.size 5 1 (.slice (some ⟨g1, 0, none⟩) (q + 1) cap1) ((k + 1 + 1) / 2) ((outP l (k + 1)).map Byt) := by rw [hkk.out, hpe2.out, List.map_append]; exact Hown1.out
                exact ⟨⟨k + 1, by omega, by first | go_num | omega, hrow, hno1, hex1.out⟩, by simp [intOf] <;> omega⟩
              · have hpar1 : k % 2 = 1 := by omega
                have hpo2 := Lib.hid (hpo.out hpar1)
                obtain ⟨p, hp⟩ : ∃ p, p = k / 2 := ⟨_, rfl⟩
                have hh := hexI_range (bt l (k - 1))
                have hh1 := hno.out (k - 1) (by omega)
                obtain ⟨h0, hh0⟩ := Int.eq_ofNat_of_zero_le (show 0 ≤ hexI (bt l (k - 1)) by omega)
                have hk1 : (k + 1) / 2 = p + 1 := by omega
                have hlast : ((outP l k).map Byt)[p]? = some (.int .u8 (16 * (h0 : Int))) := by
                  have hl : (unhN l (k / 2)).length = p := by simp [unhN, hp]
                  rw [outP, if_neg (by omega), hh0, Int.toNat_natCast, List.map_append, List.getElem?_append_right (by simp; omega)]
                  simp only [List.length_map, hl, Nat.sub_self, List.map_cons, List.map_nil, List.getElem?_cons_zero, Byt, UInt8.toNat_ofNat']
                  congr 2; omega
                rw [hh0, Int.toNat_natCast, ← hp] at hpo2
                have hown4 := Hownd.out
                rw [hk1] at hown4
                obtain ⟨g, cap, hv4, hbg⟩ := own_shape hown4 (by omega)
                subst hv4
                have hrow := Lib.hid (ownsRow_set hown4 (show p < p + 1 by omega) (Byt (UInt8.ofNat (16 * h0 + x))))
                have hset := Lib.hid (show ((outP l k).map Byt).set p (Byt (UInt8.ofNat (16 * h0 + x))) = (outP l (k + 1)).map Byt by rw [hpo2.out, List.map_set])
                have hcf : W2.cell? ⟨g, p, none⟩ = some (.int .u8 (16 * (h0 : Int))) ∧ W2.frozen? ⟨g, p, none⟩ = false := by
                  obtain ⟨ao, cp, hve, _, _, _, hcell⟩ := sl_of_own hown4
                  have hln : ((outP l k).map Byt).length = p + 1 := by rw [List.length_map, hpl.out]; omega
                  rw [hln] at hve
                  cases hve
                  have := hcell p _ hlast
                  rw [adr_some, Nat.zero_add] at this
                  refine ⟨this, ?_⟩
                  rcases hown4.2 with ⟨hn, _⟩ | ⟨g', cp', cur, hv, _, hgg, _⟩
                  · cases hn
                  · cases hv; simp [World.frozen?, hgg]
                obtain ⟨hc4, hf4⟩ := hcf
                have hu := Lib.hid (show Value.int .u8 (16 * (h0 : Int) + (x : Int)) = Byt (UInt8.ofNat (16 * h0 + x)) by simp only [Byt, UInt8.toNat_ofNat']; congr 1; omega)
                have hexs := Lib.hid (show ∀ u, Ext w (W2.setCell ⟨g, p, none⟩ u) from fun u => below_chg hextd.out (Chg.setCell W2 _ u) (fun k hk => by simp at hk; omega) (Nat.le_refl _))
                have hkk := Lib.hid (show (k + 1 + 1) / 2 = p + 1 by omega)
                have hh15 : h0 ≤ 15 := by omega
                have hp1 : p ≤ 1000 := by omega
                have hpar2 : ((k : Int) % 2 == 0) = false := by simp; omega
                rw [hk1] at Hownd
                clear hlast hown4 hh hh1 hh0 hp hk1
                go_wp2
                refine ⟨⟨k + 1, by omega, by first | go_num | omega, ?_, hno1, hexs.out _⟩, by simp [intOf] <;> omega⟩
                rw [hkk.out, ← hset.out, hu.out]
                exact hrow.out
      · have hkl : k = l.length := by omega
        rw [hkl] at Hown hno
        have hR := Lib.hid (show unhR l = (outP l l.length, 0) by
          rw [hf.out, if_pos, outP, if_pos hev, show (l.length + 1) / 2 = l.length / 2 by omega]
          refine List.all_eq_true.2 fun q hq => ?_
          have hq2 := List.mem_range.1 hq
          rw [pc_two l q (by omega)]
          simp only [grpH, List.all_cons, List.all_nil, Bool.and_true, Bool.and_eq_true, bne_iff_ne]
          exact ⟨hno.out _ (by omega), hno.out _ (by omega)⟩)
        have hlo := Lib.hid (outP_len l l.length)
        clear hkl
        go_wp2
        go_ret2
        refine ⟨_, by rw [hR.out]; rfl, ?_, hext⟩
        rw [hR.out, hlo.out]
        exact Hown.out
  · rw [if_neg hev] at hf
    go_enter Tryd.func60, Tryd.ntmps60
    go_wp2
    go_ret2
    exact ⟨.slice none 0 0, by rw [hf.out]; rfl, by rw [hf.out]; exact World.ownsRow_nil _ _ _ _, Below.refl _ _⟩
end Go.Proofs.YtpndahmlbjhdfaaDoor
