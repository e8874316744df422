/-
  HeadPrints.
-/
import Derived.BigGuardPart
import Derived.RegionTactic
import Derived.Deep.DrawnRows
import Derived.Test.YtmflnffjhfejhaaGreatDoorRows
import Derived.Test.YtmflnffjhfejhaaGreatDoorHaw
import Derived.Test.YtmflnffjhfejhaaGreatDoorHby
import Derived.Test.YtmflnffjhfejhaaGreatDoorHbz
import Derived.Test.YtmflnffjhfejhaaGreatDoorHsh
namespace Go.Proofs.YtmflnffjhfejhaaGreatDoor
open Go.RowKit
set_option maxRecDepth 100000
attribute [local go_sem ↓] Go.wp_at_zero Go.wp_at_succ
set_option linter.unusedVariables false
set_option linter.unusedSimpArgs false

set_option maxHeartbeats 4000000 in
theorem lprint_any (one two : List UInt8) (st : Int) (v : Value) (fs : List Pr) (asks : Bool) (h1 : one.length ≤ 5000) (h2 : two.length ≤ 5000) (hs0 : -9223372036854775808 ≤ st) (hs1 : st ≤ 9223372036854775807) (hl : fs.length ≤ 100) (hb : ∀ p ∈ fs, p.n.length ≤ 5000 ∧ p.v.length ≤ 5000) (w : World) (hL : Lb w) (hr : RowC 2 prC w v fs) :
    Calls Tryz.prog 15 #[.agg #[Str one, Str two, .int .i64 st, v], .bool asks] w fun e w' => BytesV (bytesO asks one two st fs) w' e ∧ Ext w w' := by
  obtain ⟨ao, cap, hv, hcap, hmax, _⟩ := rowP_shape hr
  unfold maxLen at hmax
  subst hv
  obtain ⟨W1, hW1⟩ : ∃ W1, w.alloc (.cells #[Str one, Str two, .int .i64 st, .slice ao fs.length cap] 29) = W1 := ⟨_, rfl⟩
  have hx1 : Ext w W1 := by rw [← hW1]; exact Below.alloc (Below.refl _ _) (Nat.le_refl _) _
  have hc1 : W1.heap[w.heap.size]? = some (.cells #[Str one, Str two, .int .i64 st, .slice ao fs.length cap] 29 (0, 0)) := by rw [← hW1]; exact Array.getElem?_push_size
  obtain ⟨d0, d1, d2, d3⟩ := cells4 hc1
  have HX1 := Lib.hid hx1
  have HRQ := Lib.hid (reqBytes_any one two st _ fs h1 h2 hl hb W1 (hr.ext hx1))
  have HAN := Lib.hid (ansBytes_any one two st _ fs h1 hs0 hs1 hl hb W1 (hL.ext hx1) (hr.ext hx1))
  clear hx1 hc1 hb hr hL
  cases asks with
  | true =>
    clear HAN
    generalize bytesO true one two st fs = o at *
    go_enter Tryz.func15, Tryz.ntmps15
    go_wp2_with fail
    refine HRQ.out.mono ?_
    rintro e W2 ⟨hb, hx⟩
    have HX2 := Lib.hid (ext_trans HX1.out hx)
    clear hx hW1 HRQ
    rcases o with c | l
    · have he : e = _ := hb
      subst he
      go_wp2
      go_ret2
      exact ⟨rfl, HX2.out⟩
    · obtain ⟨a, cp, he, hs⟩ := hb
      subst he
      have HS := Lib.hid hs
      clear hs
      go_wp2
      go_ret2
      exact ⟨⟨a, cp, rfl, HS.out⟩, HX2.out⟩
  | false =>
    clear HRQ
    generalize bytesO false one two st fs = o at *
    go_enter Tryz.func15, Tryz.ntmps15
    go_wp2_with fail
    refine HAN.out.mono ?_
    rintro e W2 ⟨hb, hx⟩
    have HX2 := Lib.hid (ext_trans HX1.out hx)
    clear hx hW1 HAN
    rcases o with c | l
    · have he : e = _ := hb
      subst he
      go_wp2
      go_ret2
      exact ⟨rfl, HX2.out⟩
    · obtain ⟨a, cp, he, hs⟩ := hb
      subst he
      have HS := Lib.hid hs
      clear hs
      go_wp2
      go_ret2
      exact ⟨⟨a, cp, rfl, HS.out⟩, HX2.out⟩
end Go.Proofs.YtmflnffjhfejhaaGreatDoor
