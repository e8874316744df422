/-
  The walk of B64Groups.
-/
import Derived.Test.YtkfhbahgoemnpaaRows
import Derived.Test.YtkfhbahgoemnpaaAwk
import Derived.Test.YtkfhbahgoemnpaaWrp
import Derived.Test.YtkfhbahgoemnpaaFst
import Derived.Test.YtkfhbahgoemnpaaEqu
import Derived.Test.YtkfhbahgoemnpaaRfd
namespace Go.Proofs.Ytkfhbahgoemnpaa
open Go.RowKit
set_option linter.unusedVariables false
set_option linter.unusedSimpArgs false

set_option maxHeartbeats 2000000 in
theorem groupsLaw_any (l0 : List UInt8) (z : Int) (st : Nat) (hst : st < 256) (w : World) :
    Calls Try.prog 7 #[Str l0, .int .i64 z, .int .u8 (st : Int)] w fun e w' => e = .returned (.bool true) ∧ Ext w w' := by
  go_enter Try.func7, Try.ntmps7
  go_wp2_with fail
  refine (awake_any w).mono ?_
  rintro e W1 ⟨rfl, hx1⟩
  go_wp2_with fail
  refine (cutText_any l0 200 W1 (by omega)).mono ?_
  rintro e W ⟨he, hw⟩
  subst he; subst hw
  have hl : (l0.take 200).length ≤ 200 := by simp; omega
  generalize l0.take 200 = x at *
  have hgl := grpL_len z x
  go_wp2_with fail
  refine (groups_any x z W).mono ?_
  rintro e W2 ⟨he, hw⟩
  subst he
  have b0 : W2.heap[W.heap.size]? = some (.cells #[Str x] 9 (0, 0)) := by rw [hw]; exact allocs_at W [.cells #[Str x] 9, .cells #[.int .i64 z] 3] 0 _ rfl
  have b1 : W2.heap[W.heap.size + 1]? = some (.cells #[.int .i64 z] 3 (0, 0)) := by rw [hw]; exact allocs_at W [.cells #[Str x] 9, .cells #[.int .i64 z] 3] 1 _ rfl
  have hx2 : Ext W W2 := by rw [hw]; exact allocs_ext W [.cells #[Str x] 9, .cells #[.int .i64 z] 3]
  clear hw
  go_wp2_with fail
  refine (collect_any x z W.heap.size (W.heap.size + 1) W2 (by omega) b0 b1).mono ?_
  rintro e W3 ⟨v1, he, ho1, hbx⟩
  subst he
  have T := Lib.hid (show Sl W3 v1 ((grpL z x).map Str) ∧ Ext w W3 from ⟨sl_of_own ho1, Bx.below (hx1.trans (hx2.mono hx1.size)) hbx hx1.size (Nat.le_refl _)⟩)
  clear ho1 hbx hx2 b0 b1 hx1
  go_wp2_with fail
  refine (refGroups_any x z W3 (by omega)).mono ?_
  rintro e W4 ⟨v2, he, ho2, hx⟩
  subst he
  have T2 := Lib.hid (show Sl W4 v1 ((grpL z x).map Str) ∧ Sl W4 v2 ((grpL z x).map Str) ∧ Ext w W4 from ⟨T.out.1.ext hx, sl_of_own ho2, T.out.2.trans (hx.mono T.out.2.size)⟩)
  clear ho2 hx T
  go_wp2_with fail
  refine (equal_same v1 v2 (grpL z x) W4 (by omega) T2.out.1 T2.out.2.1).mono ?_
  rintro e W5 ⟨he, hx⟩
  subst he
  have T := Lib.hid (show Sl W5 v2 ((grpL z x).map Str) ∧ Ext w W5 from ⟨T2.out.2.1.ext hx, T2.out.2.2.trans (hx.mono T2.out.2.2.size)⟩)
  clear hx T2
  go_wp2_with fail
  refine (wrap_any x z W5 (by omega)).mono ?_
  rintro e W6 ⟨he, hx⟩
  subst he
  have T2 := Lib.hid (show Sl W6 v2 ((grpL z x).map Str) ∧ Ext w W6 from ⟨T.out.1.ext hx, T.out.2.trans (hx.mono T.out.2.size)⟩)
  clear hx T
  go_wp2_with fail
  refine (refWrap_any x z W6 (by omega)).mono ?_
  rintro e W7 ⟨he, hx⟩
  subst he
  have T := Lib.hid (show Sl W7 v2 ((grpL z x).map Str) ∧ Ext w W7 from ⟨T2.out.1.ext hx, T2.out.2.trans (hx.mono T2.out.2.size)⟩)
  clear hx T2
  obtain ⟨q, hq⟩ : ∃ q : Nat, q = 1 + st % 5 := ⟨_, rfl⟩
  have hqi : (1 + (st : Int) % 5) = (q : Int) := by omega
  have hq0 : 0 < q := by omega
  clear hq
  generalize hG : grpL z x = G at *
  have hF := Lib.hid (fun W => first_any x z q hq0 W (by omega))
  rw [hG] at hF
  clear hG
  go_wp2_with fail
  refine (hF.out W7).mono ?_
  rintro e W8 ⟨v3, he, ho3, hx⟩
  subst he
  have S3 := Lib.hid (sl_of_own ho3)
  replace T := Lib.hid (show Sl W8 v2 (G.map Str) ∧ Ext w W8 from ⟨T.out.1.ext hx, T.out.2.trans (hx.mono T.out.2.size)⟩)
  clear hx ho3 hF
  have hmin := run_min_nat Try.prog G.length q q rfl
  have hk : min G.length q ≤ G.length := Nat.min_le_left _ _
  have htk : G.take (min G.length q) = G.take q := by rw [Nat.min_comm, List.take_eq_take_iff]; omega
  have Htk := Lib.hid htk; clear htk
  generalize min G.length q = k at *
  have hs8 := T.out.1.headm (k := k) (by rw [List.length_map]; exact hk)
  rw [← List.map_take, Htk.out] at hs8
  obtain ⟨ao, cap, hve, hcap, hmax, hnil, hcell⟩ := T.out.1
  rw [List.length_map] at hve hcap
  subst hve
  have hrun := fun W => run_headm (P := Try.prog) Try.underlying45 Try.sizeOf9 (ao := ao) hcap W k hk
  obtain ⟨v4, hv4⟩ : ∃ v, headm (.slice ao G.length cap) k = v := ⟨_, rfl⟩
  rw [hv4] at hrun hs8
  have S4 := Lib.hid hs8
  clear hs8 hv4 hcell hcap hmax hnil
  go_wp2_with fail
  refine (equal_same v3 v4 (G.take q) W8 (by simp; omega) S3.out S4.out).mono ?_
  rintro e W9 ⟨he, hx⟩
  subst he
  replace T := Lib.hid (T.out.2.trans (hx.mono T.out.2.size))
  clear hx
  go_wp2_with fail
  go_ret
  exact ⟨rfl, T.out⟩
end Go.Proofs.Ytkfhbahgoemnpaa
