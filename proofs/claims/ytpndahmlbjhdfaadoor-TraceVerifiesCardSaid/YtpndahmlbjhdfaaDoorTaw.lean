/-
  The law's awake.
-/
import Derived.BigGuardPart
import Derived.Test.YtpndahmlbjhdfaaDoorRows
import Derived.Test.YtpndahmlbjhdfaaDoorTco
namespace Go.Proofs.YtpndahmlbjhdfaaDoor
open Go.RowKit
set_option maxRecDepth 100000
set_option linter.unusedVariables false
set_option linter.unusedSimpArgs false
def ev1 : Ev := ⟨1, 5, [111, 112, 101, 110], 2, [97]⟩
theorem ev1_right : ev1.right = true := by decide +kernel
theorem ev1_line : ev1.line = [49, 32, 53, 32, 111, 112, 101, 110, 32, 50, 32, 54, 49] := by decide +kernel
theorem ev1_ok : ev1.ok := ⟨by decide, by decide, by decide, by decide, by decide, by decide⟩
theorem newS_fit (k : Nat) (h1 : 1 ≤ k) (h2 : k ≤ 256) : (newS k).fit := ⟨h1, h2, by simp [newS], by simp [newS], by simp [newS, zero32]⟩
theorem TrAt.chbelow {B p : Nat} {lv cv : Value} {S : TrS} {w W W2 : World} (hp : TrAt B p lv cv S W) (hb : Below B w W) (hch : Ch (fun k => k = p ∨ lv.ownBlock = some k) W W2) (hB : B ≤ w.heap.size) : Below B w W2 :=
  Ch.below hb hch (fun k hk => by
    rcases hk with rfl | hk
    · exact hp.low
    · exact (own_lt hp.row hk).1) hB
theorem index_run0 (v : Value) (e : Ev) (W : World) (h : RowE W v [e]) : ∃ g o cap, v = .slice (some ⟨g, o, none⟩) 1 cap ∧ W.cell? ⟨g, o, none⟩ = some (.int .u64 (e.n : Int)) ∧ W.cell? ⟨g, o + 1, none⟩ = some (.int .u64 (e.tk : Int)) ∧ W.cell? ⟨g, o + 2, none⟩ = some (Str e.kind) ∧ W.cell? ⟨g, o + 3, none⟩ = some (.int .i64 e.conn) ∧ W.cell? ⟨g, o + 4, none⟩ = some (Str e.text) := by
  obtain ⟨g, o, cap, hv, hc⟩ := row_cells h (by simp)
  exact ⟨g, o, cap, hv, hc 0 (by simp)⟩
set_option maxHeartbeats 2000000 in
theorem awake_law (w : World) (hT : Tw w) :
    Calls Tryd.prog 8 #[] w fun e w' => e = .returned (.bool true) ∧ Ext w w' := by
  have HT := Lib.hid hT; clear hT
  have HN := Lib.hid (New_any 2 (by omega) (by omega) w)
  go_enter Tryd.func8, Tryd.ntmps8
  go_wp2_with fail
  refine HN.out.mono ?_
  rintro e W1 ⟨h, hx1⟩
  rcases h with ⟨h, -⟩ | ⟨-, -, p, cv, rfl, hp⟩
  · omega
  have HAD := Lib.hid (Add_any w.heap.size p (.slice none 0 0) cv (newS 2) (newS_fit 2 (by omega) (by omega)) 5 [111, 112, 101, 110] 2 [97] ev1_ok W1 hp (HT.out.ext hx1))
  have HX1 := Lib.hid hx1
  have HP1 := Lib.hid hp
  clear hp hx1 HN
  go_wp2_with fail
  refine HAD.out.mono ?_
  rintro e W2 (⟨h, -⟩ | ⟨-, rfl, lv', cv', hp2, hch, -, -⟩)
  · have := ev1_right; unfold ev1 at this; rw [show (newS 2).last + 1 = 1 from rfl] at h; rw [this] at h; cases h
  have hx2 : Ext w W2 := HP1.out.chbelow HX1.out hch (Nat.le_refl _)
  have HS := Lib.hid (since_any 0 (by omega) w.heap.size p lv' cv' _ (by decide) (fun e he => by
    have h1 : e ∈ [ev1] := he
    simp at h1; subst h1; exact ev1_ok) W2 hp2)
  have HX2 := Lib.hid hx2
  clear hp2 hch hx2 HAD HP1
  have e1 : (((newS 2).last + 1 : Nat) : Int) = 1 := rfl
  rw [e1]
  clear e1
  go_wp2_with fail
  refine HS.out.mono ?_
  rintro e W3 ⟨f, rfl, hsq, hx3⟩
  have HC := Lib.hid (collectS_any f [ev1] (by simp) _ W3 hsq)
  have HX3 := Lib.hid (ext_trans HX2.out hx3)
  clear hsq hx3 HS
  go_wp2_with fail
  refine HC.out.mono ?_
  rintro e W4 ⟨v4, rfl, ho4, hx4⟩
  obtain ⟨g, o, cap, rfl, d0, d1, d2, d3, d4⟩ := index_run0 v4 ev1 W4 ho4.row
  have hx4' := ext_trans HX3.out hx4
  have HX4 := Lib.hid hx4'
  have HL := Lib.hid (Line_any ev1 ev1_ok W4 (HT.out.ext hx4').lb)
  rw [ev1_right, ev1_line] at HL
  have hix := index_ev g o 1 cap 0 (by omega)
  simp only [Nat.mul_zero, Nat.add_zero, Int.natCast_zero, Int.ofNat_zero] at hix
  simp only [ev1] at d0 d1 d2 d3 d4
  clear ho4 hx4 hx4' HC
  go_wp2_with fail
  refine HL.out.mono ?_
  rintro e W5 ⟨rfl, hx5⟩
  simp only [if_true]
  go_wp2
  go_ret
  exact ⟨rfl, ext_trans HX4.out hx5⟩
end Go.Proofs.YtpndahmlbjhdfaaDoor
