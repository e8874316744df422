/-
  The walk of B64Longer.
-/
import Derived.Test.YtkfhbahgoemnpaaRows
import Derived.Test.YtkfhbahgoemnpaaAwk
import Derived.Test.YtkfhbahgoemnpaaLng
namespace Go.Proofs.Ytkfhbahgoemnpaa
open Go.RowKit

theorem own_form {w : World} {base e : Nat} {v : Value} {n : Nat} {l : List UInt8} (h : w.ownsRow base e 1 v n (l.map Byt)) : ∃ ao cap, v = .slice ao l.length cap ∧ l.length ≤ cap ∧ (ao = none → cap = 0) := by
  obtain ⟨ao, cap, hv, h1, _, h3, _⟩ := sl_of_own h
  rw [List.length_map] at hv h1
  exact ⟨ao, cap, hv, h1, h3⟩

set_option maxHeartbeats 1000000 in
theorem longer_any (v1 v2 : Value) (l1 l2 : List UInt8) (w : World) (h1 : SlB w v1 l1) (h2 : SlB w v2 l2) :
    Calls Try.prog 3 #[v1, v2] w fun e w' => e = .returned (.bool true) ∧ Ext w w' := by
  have H1 := Lib.hid h1; have H2 := Lib.hid h2; clear h1 h2
  go_enter Try.func3, Try.ntmps3
  go_wp2_with fail
  refine (awake_any w).mono ?_
  rintro e W1 ⟨rfl, hx1⟩
  go_wp2_with fail
  refine (cut_any v1 l1 90 W1 (H1.out.ext hx1) (by omega)).mono ?_
  rintro e W2 ⟨c1, rfl, ho1, hx2⟩
  go_wp2_with fail
  refine (cut_any v2 l2 90 W2 (H2.out.ext (hx1.trans (hx2.mono hx1.size))) (by omega)).mono ?_
  rintro e W3 ⟨c2, rfl, ho2, hx3⟩
  replace ho1 := own_ext ho1 hx3
  obtain ⟨a1, p1, rfl, hp1, hn1⟩ := own_form ho1
  obtain ⟨a2, p2, rfl, hp2, hn2⟩ := own_form ho2
  have s1 := sl_of_own ho1
  have s2 := sl_of_own ho2
  have hx := hx1.trans ((hx2.trans (hx3.mono hx2.size)).mono hx1.size)
  clear ho1 ho2 hx1 hx2 hx3
  have hl1 : (l1.take 90).length ≤ 90 := by simp; omega
  have hl2 : (l2.take 90).length ≤ 90 := by simp; omega
  generalize l1.take 90 = x at *
  generalize l2.take 90 = y at *
  have s3 := s1.headm (k := x.length / 3 * 3) (by simp; omega)
  rw [← List.map_take] at s3
  have hrun : ∀ W, (Instr.slice 22 (.slice a1 x.length p1) none (some (.int .i64 ((x.length : Int) / 3 * 3))) none).run Try.prog W = .ok (headm (.slice a1 x.length p1) (x.length / 3 * 3)) W := fun W => by
    have := run_headm (P := Try.prog) Try.underlying22 Try.sizeOf5 (ao := a1) hp1 W (x.length / 3 * 3) (by omega)
    rwa [show (((x.length / 3 * 3 : Nat)) : Int) = (x.length : Int) / 3 * 3 by omega] at this
  obtain ⟨z, hz⟩ : ∃ z, z = x.take (x.length / 3 * 3) := ⟨_, rfl⟩
  have hzl : z.length = 3 * (x.length / 3) := by rw [hz]; simp; omega
  have hzl2 : z.length ≤ 90 := by omega
  rw [← hz] at s3
  clear hz
  have S3 := Lib.hid s3; have S2 := Lib.hid s2; clear s1 s2 s3
  have HX := Lib.hid hx; clear hx
  generalize headm (.slice a1 x.length p1) (x.length / 3 * 3) = v3 at *
  go_wp2_with fail
  refine (copy_any v3 z W3 S3.out (by omega)).mono ?_
  rintro e W4 ⟨c4, rfl, ho4, hx4⟩
  have S2' := Lib.hid (S2.out.ext hx4); have Ho4 := Lib.hid ho4
  have hsz4 := hx4.size
  go_wp2_with (at_builtin; refine wpList_more W3.heap.size rfl _ _ 22 5 rfl Try.underlying22 infoByte rfl (by omega) Ho4.out S2'.out (byt_one _) (by simp; omega) hsz4 rfl rfl ?_; rintro v5 W5 hown5 hgr5)
  rw [List.length_map, ← List.map_append] at hown5
  have hx5 : Ext W3 W5 := ext_push hx4 ho4 hgr5
  have T := Lib.hid (show _ ∧ _ ∧ _ ∧ _ from ⟨sl_of_own hown5, S3.out.ext hx5, S2.out.ext hx5, HX.out.trans (hx5.mono HX.out.size)⟩)
  clear hown5 hgr5 hx5 hx4 ho4 HX S3 S2 S2' Ho4 hsz4
  have hzy : (z ++ y).length ≤ 180 := by simp; omega
  have lz1 : (allL plain true z).length ≤ 1000 := by have := allN_len plain true z ((z.length + 2) / 3); unfold allL; omega
  have ly1 : (allL plain true y).length ≤ 1000 := by have := allN_len plain true y ((y.length + 2) / 3); unfold allL; omega
  have lz2 : (allL other false z).length ≤ 1000 := by have := allN_len other false z ((z.length + 2) / 3); unfold allL; omega
  have ly2 : (allL other false y).length ≤ 1000 := by have := allN_len other false y ((y.length + 2) / 3); unfold allL; omega
  have lz3 : (hexL z).length ≤ 1000 := by rw [hexL_len]; omega
  have ly3 : (hexL y).length ≤ 1000 := by rw [hexL_len]; omega
  have hE := Encode_any v5 (z ++ y) W5 T.out.1 (by omega)
  rw [allL_append plain true y _ z hzl] at hE
  refine hE.mono ?_
  rintro e W6 ⟨he, hx6⟩
  subst he
  replace T := Lib.hid (show _ ∧ _ ∧ _ ∧ _ from ⟨T.out.1.ext hx6, T.out.2.1.ext hx6, T.out.2.2.1.ext hx6, T.out.2.2.2.trans (hx6.mono T.out.2.2.2.size)⟩)
  clear hE hx6
  go_wp2_with fail
  have hE := Encode_any v3 z W6 T.out.2.1 (by omega)
  refine hE.mono ?_
  rintro e W7 ⟨he, hx6⟩
  subst he
  replace T := Lib.hid (show _ ∧ _ ∧ _ ∧ _ from ⟨T.out.1.ext hx6, T.out.2.1.ext hx6, T.out.2.2.1.ext hx6, T.out.2.2.2.trans (hx6.mono T.out.2.2.2.size)⟩)
  clear hE hx6
  go_wp2_with fail
  have hE := Encode_any (.slice a2 y.length p2) y W7 T.out.2.2.1 (by omega)
  refine hE.mono ?_
  rintro e W8 ⟨he, hx6⟩
  subst he
  replace T := Lib.hid (show _ ∧ _ ∧ _ ∧ _ from ⟨T.out.1.ext hx6, T.out.2.1.ext hx6, T.out.2.2.1.ext hx6, T.out.2.2.2.trans (hx6.mono T.out.2.2.2.size)⟩)
  clear hE hx6
  go_wp2_with fail
  have hE := EncodeURL_any v5 (z ++ y) W8 T.out.1 (by omega)
  rw [allL_append other false y _ z hzl] at hE
  refine hE.mono ?_
  rintro e W9 ⟨he, hx6⟩
  subst he
  replace T := Lib.hid (show _ ∧ _ ∧ _ ∧ _ from ⟨T.out.1.ext hx6, T.out.2.1.ext hx6, T.out.2.2.1.ext hx6, T.out.2.2.2.trans (hx6.mono T.out.2.2.2.size)⟩)
  clear hE hx6
  go_wp2_with fail
  have hE := EncodeURL_any v3 z W9 T.out.2.1 (by omega)
  refine hE.mono ?_
  rintro e W10 ⟨he, hx6⟩
  subst he
  replace T := Lib.hid (show _ ∧ _ ∧ _ ∧ _ from ⟨T.out.1.ext hx6, T.out.2.1.ext hx6, T.out.2.2.1.ext hx6, T.out.2.2.2.trans (hx6.mono T.out.2.2.2.size)⟩)
  clear hE hx6
  go_wp2_with fail
  have hE := EncodeURL_any (.slice a2 y.length p2) y W10 T.out.2.2.1 (by omega)
  refine hE.mono ?_
  rintro e W11 ⟨he, hx6⟩
  subst he
  replace T := Lib.hid (show _ ∧ _ ∧ _ ∧ _ from ⟨T.out.1.ext hx6, T.out.2.1.ext hx6, T.out.2.2.1.ext hx6, T.out.2.2.2.trans (hx6.mono T.out.2.2.2.size)⟩)
  clear hE hx6
  go_wp2_with fail
  have hE := hex_any v5 (z ++ y) W11 T.out.1 (by omega)
  rw [hexL_append z y] at hE
  refine hE.mono ?_
  rintro e W12 ⟨he, hx6⟩
  subst he
  replace T := Lib.hid (show _ ∧ _ ∧ _ ∧ _ from ⟨T.out.1.ext hx6, T.out.2.1.ext hx6, T.out.2.2.1.ext hx6, T.out.2.2.2.trans (hx6.mono T.out.2.2.2.size)⟩)
  clear hE hx6
  go_wp2_with fail
  have hE := hex_any v3 z W12 T.out.2.1 (by omega)
  refine hE.mono ?_
  rintro e W13 ⟨he, hx6⟩
  subst he
  replace T := Lib.hid (show _ ∧ _ ∧ _ ∧ _ from ⟨T.out.1.ext hx6, T.out.2.1.ext hx6, T.out.2.2.1.ext hx6, T.out.2.2.2.trans (hx6.mono T.out.2.2.2.size)⟩)
  clear hE hx6
  go_wp2_with fail
  have hE := hex_any (.slice a2 y.length p2) y W13 T.out.2.2.1 (by omega)
  refine hE.mono ?_
  rintro e W14 ⟨he, hx6⟩
  subst he
  replace T := Lib.hid (show _ ∧ _ ∧ _ ∧ _ from ⟨T.out.1.ext hx6, T.out.2.1.ext hx6, T.out.2.2.1.ext hx6, T.out.2.2.2.trans (hx6.mono T.out.2.2.2.size)⟩)
  clear hE hx6
  go_wp2_with fail
  go_ret
  exact ⟨rfl, T.out.2.2.2⟩
end Go.Proofs.Ytkfhbahgoemnpaa
