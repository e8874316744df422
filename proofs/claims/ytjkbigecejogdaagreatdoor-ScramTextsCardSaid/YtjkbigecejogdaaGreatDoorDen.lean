/-
 scram.denied at any pairs; bytesOf, rounds, head at plain texts.
-/
import Derived.Test.YtjkbigecejogdaaGreatDoorRows
import Derived.Test.YtjkbigecejogdaaGreatDoorRes
import Derived.Test.YtjkbigecejogdaaGreatDoorBka
import Derived.Test.YtjkbigecejogdaaGreatDoorLpl
namespace Go.Proofs.YtjkbigecejogdaaGreatDoor
open Go.RowKit
set_option maxRecDepth 100000
attribute [local go_sem] Oper.semAt_some
set_option linter.unusedVariables false
set_option linter.unusedSimpArgs false
def denB (ps : List (List UInt8)) : Bool := ps.any fun p => p.take 1 == [109]
theorem elemPr : Tryz.prog.elem 24 = 64 := by kernel_rfl
theorem index_pr (g n cap k : Nat) (hk : k < n) (W : World) : (Instr.indexAt 24 (.slice (some ⟨g, 0, none⟩) n cap) (.int .i64 (k : Int))).run Tryz.prog W = .ok (.pointer (some ⟨g, 2 * k, none⟩)) W := by
 have hadd : (⟨g, 0, none⟩ : Addr).add (k * 2) = ⟨g, 2 * k, none⟩ := by rw [Nat.mul_comm]; unfold Addr.add; split <;> simp_all
 rw [run_indexAt_slice (h := by rw [elemPr]; exact Tryz.underlying24), if_pos (by omega), elemPr]
 simp [Tryz.sizeOf64, Result.andThen, hadd]
theorem ownP_at {B : Nat} {v : Value} {ps : List (List UInt8)} {W : World} (h : OwnP B v ps W) (hne : ps ≠ []) : ∃ g cap, v = .slice (some ⟨g, 0, none⟩) ps.length cap ∧ g < W.heap.size ∧ ∀ j p, ps[j]? = some p → W.cell? ⟨g, 2 * j, none⟩ = some (Str (p.take 1)) ∧ W.cell? ⟨g, 2 * j + 1, none⟩ = some (Str (p.drop 2)) := by
 rcases h.2 with ⟨_, h0⟩ | ⟨g, cap, cur, hv, hbg, hg, hn, hm, _, ht⟩
 ·exact absurd (List.eq_nil_of_length_eq_zero h0) hne
 ·refine ⟨g, cap, hv, (Array.getElem?_eq_some_iff.1 hg).1, fun j p hj => ?_⟩
  have hlt : j < ps.length := (List.getElem?_eq_some_iff.1 hj).1
  obtain ⟨a, b⟩ := attF_get ps j p hj
  rw [← ht, List.getElem?_take, if_pos (by omega)] at a b
  refine ⟨?_, ?_⟩
  ·simp only [World.cell?, hg]; simpa using a
  ·simp only [World.cell?, hg]; simpa using b
set_option maxHeartbeats 1000000 in
theorem denied_any (B : Nat) (v : Value) (ps : List (List UInt8)) (hl : ps.length ≤ 100000) (w : World) (h : OwnP B v ps w) :
    Calls Tryz.prog 49 #[v] w fun e w' => e = .returned (.bool (denB ps)) ∧ Ext w w' := by
 by_cases h0 : ps = []
 ·subst h0
  have hv : ∃ a c, v = .slice a 0 c := by
   rcases h.2 with ⟨hv, _⟩ | ⟨g, cap, _, hv, _⟩
   ·exact ⟨_, _, hv⟩
   ·exact ⟨_, _, hv⟩
  obtain ⟨a, c, rfl⟩ := hv
  clear h
  go_enter Tryz.func49, Tryz.ntmps49
  go_wp2
  go_loop [7] (fun i => i = .int .i64 0) (fun _ => 0)
  case atStart => rfl
  case round =>
   subst hrel
   go_wp2
   go_ret
   exact ⟨rfl, ext_refl _⟩
 ·obtain ⟨g, cap, rfl, hgl, hc⟩ := ownP_at h h0
  have HC := Lib.hid hc
  clear hc h
  go_enter Tryz.func49, Tryz.ntmps49
  go_wp2
  go_loopw [7] (fun i wr => ∃ k : Nat, k ≤ ps.length ∧ i = .int .i64 k ∧ denB (ps.take k) = false ∧ Ext w wr) (fun i _ => ps.length - (intOf i).toNat)
  case atStart => exact ⟨0, by omega, rfl, rfl, ext_refl _⟩
  case round =>
   obtain ⟨k, hk, rfl, hd, hx⟩ := hrel
   by_cases hlt : k < ps.length
   ·obtain ⟨p, hp⟩ : ∃ p, ps[k] = p := ⟨_, rfl⟩
    obtain ⟨d0, d1⟩ := HC.out k p (by rw [← hp]; exact List.getElem?_eq_getElem hlt)
    replace d0 := ext_cell hx d0; replace d1 := ext_cell hx d1
    have hix := index_pr g ps.length cap k hlt
    have htk : denB (ps.take (k + 1)) = (denB (ps.take k) || (p.take 1 == [109])) := by
     rw [List.take_succ_eq_append_getElem hlt, hp]
     simp [denB, List.any_append]
    rw [hd, Bool.false_or] at htk
    have hall : (p.take 1 == [109]) = true → denB ps = true := fun h => by
     unfold denB
     rw [List.any_eq_true]
     exact ⟨p, by rw [← hp]; exact List.getElem_mem _, h⟩
    have HTK := Lib.hid htk; have HALL := Lib.hid hall; have HX := Lib.hid hx
    have hA : ∀ o, Ext wr (wr.alloc o) := fun o => Below.alloc (Below.refl _ _) (Nat.le_refl _) _
    have HA := Lib.hid hA
    clear htk hall hp hx hd hA
    generalize p.take 1 = q1 at *
    generalize p.drop 2 = q2 at *
    cases hb : (q1 == [109]) with
    | true =>
      rw [hb] at HALL HTK
      go_wp2
      go_ret
      exact ⟨by rw [HALL.out trivial]; rfl, ext_trans HX.out (HA.out _)⟩
    | false =>
      rw [hb] at HALL HTK
      go_wp2
      go_roundw
      case rel => exact ⟨k + 1, by omega, by go_num, HTK.out, ext_trans HX.out (HA.out _)⟩
      case measure => simp [intOf]; omega
   ·obtain rfl : k = ps.length := by omega
    rw [List.take_length] at hd
    have HD := Lib.hid hd; have HX := Lib.hid hx
    clear hd hx
    go_wp2
    go_ret
    exact ⟨by rw [HD.out]; rfl, HX.out⟩
theorem decR_len (A l : List UInt8) : (decR A l).1.length ≤ 3 * ((l.length + 3) / 4) := by
 simp only [decR]
 split
 ·split
  ·exact decN_len _ _ _
  ·simp
 ·simp
theorem decF_len (l : List UInt8) : (decF l).1.length ≤ 3 * ((l.length + 3) / 4) := by
 have h1 := decR_len plain (trimN l 2)
 have h2 := trimN_len l 2
 unfold decF
 split
 ·split
  ·simp
  ·omega
 ·simp
def byB (l : List UInt8) (a b : Nat) : Bool := decide ((decF l).2 = 0) && (decide (a ≤ (decF l).1.length) && decide ((decF l).1.length ≤ b))
set_option maxHeartbeats 1000000 in
theorem bytesOf_any (bm M : Nat) (bad : Bool) (ps : List (List UInt8)) (l : List UInt8) (hl : l.length ≤ 10000) (a b : Nat) (ha : a ≤ 100000) (hb : b ≤ 100000) (w : World) (h : Msg bm M bad ps w) (hM : M ≤ w.heap.size) :
    Calls Tryz.prog 52 #[.pointer (some ⟨bm, 0, none⟩), Str l, .int .i64 (a : Int), .int .i64 (b : Int)] w fun e w' => ∃ v, e = .returned v ∧ w'.ownsRow w.heap.size 5 1 v (decF l).1.length ((decF l).1.map Byt) ∧ Msg bm M (bad || !byB l a b) ps w' ∧ Bz bm w w' := by
 have HD := Lib.hid (Decode_any l w hl)
 have HH := Lib.hid h
 have hbm := h.lt
 have HBY := Lib.hid (show byB l a b = (decide ((decF l).2 = 0) && (decide (a ≤ (decF l).1.length) && decide ((decF l).1.length ≤ b))) from rfl)
 have hdl : (decF l).1.length ≤ 1000000 := by have := decF_len l; omega
 clear h
 generalize decF l = d at *
 obtain ⟨bs, c⟩ := d
 simp only at HD HBY hdl
 obtain ⟨ok, hok⟩ : ∃ ok, byB l a b = ok := ⟨_, rfl⟩
 rw [hok] at HBY ⊢
 clear hok
 go_enter Tryz.func52, Tryz.ntmps52
 go_wp2_with fail
 refine HD.out.mono ?_
 rintro e W1 ⟨v, rfl, hown, hx⟩
 obtain ⟨n, hn⟩ : ∃ n, bs.length = n := ⟨_, rfl⟩
 have hv : ∃ ao cap, v = .slice ao n cap := by
  rw [← hn]
  rcases hown.2 with ⟨hv, h0⟩ | ⟨g, cap, _, hv, _⟩
  ·exact ⟨none, 0, by rw [hv, h0]⟩
  ·exact ⟨_, _, hv⟩
 obtain ⟨ao, cap, rfl⟩ := hv
 have HM1 := Lib.hid (HH.out.ext hx)
 have HO1 := Lib.hid hown
 have HX1 := Lib.hid (Bz.of_ext (b := bm) hx)
 rw [hn] at HBY hdl
 clear hown hx hn
 have key : ∀ W2, Msg bm M (bad || !ok) ps W2 → Bz bm W1 W2 → W2.ownsRow w.heap.size 5 1 (.slice ao n cap) bs.length (bs.map Byt) ∧ Bz bm w W2 := fun W2 hm hz =>
  ⟨ownz_keep HO1.out fun g hg _ hkk => hz.block g (kind_lt hkk) (by omega), HX1.out.trans hz⟩
 have HK := Lib.hid key
 clear key
 by_cases h1 : c = 0
 ·subst h1
  by_cases h2 : a ≤ n
  ·have h2' : (a : Int) ≤ (n : Int) := by omega
   by_cases h3 : n ≤ b
   ·have h3' : (n : Int) ≤ (b : Int) := by omega
    have hok : ok = true := by rw [HBY.out]; simp [h2, h3]
    subst hok
    go_wp2_with fail
    refine (fine_any bm M _ true _ _ HM1.out).mono ?_
    rintro e W2 ⟨rfl, hm, hz⟩
    have hk := HK.out W2 hm hz
    have HKK := Lib.hid (And.intro hm hk)
    clear hm hz hk
    go_wp2
    go_ret
    exact ⟨_, rfl, HKK.out.2.1, HKK.out.1, HKK.out.2.2⟩
   ·have h3' : ¬ (n : Int) ≤ (b : Int) := by omega
    have hok : ok = false := by rw [HBY.out]; simp [h3]
    subst hok
    go_wp2_with fail
    refine (fine_any bm M _ false _ _ HM1.out).mono ?_
    rintro e W2 ⟨rfl, hm, hz⟩
    have hk := HK.out W2 hm hz
    have HKK := Lib.hid (And.intro hm hk)
    clear hm hz hk
    go_wp2
    go_ret
    exact ⟨_, rfl, HKK.out.2.1, HKK.out.1, HKK.out.2.2⟩
  ·have h2' : ¬ (a : Int) ≤ (n : Int) := by omega
   have hok : ok = false := by rw [HBY.out]; simp [h2]
   subst hok
   go_wp2_with fail
   refine (fine_any bm M _ false _ _ HM1.out).mono ?_
   rintro e W2 ⟨rfl, hm, hz⟩
   have hk := HK.out W2 hm hz
   have HKK := Lib.hid (And.intro hm hk)
   clear hm hz hk
   go_wp2
   go_ret
   exact ⟨_, rfl, HKK.out.2.1, HKK.out.1, HKK.out.2.2⟩
 ·have h1' : ¬ (c : Int) = 0 := by omega
  have hok : ok = false := by rw [HBY.out]; simp [h1]
  subst hok
  go_wp2_with fail
  refine (fine_any bm M _ false _ _ HM1.out).mono ?_
  rintro e W2 ⟨rfl, hm, hz⟩
  have hk := HK.out W2 hm hz
  have HKK := Lib.hid (And.intro hm hk)
  clear hm hz hk
  go_wp2
  go_ret
  exact ⟨_, rfl, HKK.out.2.1, HKK.out.1, HKK.out.2.2⟩
end Go.Proofs.YtjkbigecejogdaaGreatDoor
