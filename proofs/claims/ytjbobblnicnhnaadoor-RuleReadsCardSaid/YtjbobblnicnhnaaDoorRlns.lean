/-
  ref15.Lines.
-/
import Derived.BigGuardPart
import Derived.Test.YtjbobblnicnhnaaDoorRows
import Derived.Test.YtjbobblnicnhnaaDoorRsp
namespace Go.Proofs.YtjbobblnicnhnaaDoor
open Go.RowKit Go.Shelf
set_option maxRecDepth 100000
set_option linter.unusedVariables false
set_option linter.unusedSimpArgs false

set_option maxHeartbeats 1000000 in
theorem lines15_any (l : List UInt8) (hl : l.length ≤ 10000) (w : World) :
    Calls Tryd.prog 52 #[Str l] w fun e w' => ∃ v, e = .returned v ∧ Sl w' v ((lnL l).map Str) ∧ Ext w w' := by
  have HS := Lib.hid (split15_any l 10 hl w)
  have hL : lnL l = if (spb 10 l).getLast? = some [] then (spb 10 l).dropLast else spb 10 l := rfl
  have hne := spb_ne 10 l
  generalize spb 10 l = ps at *
  obtain ⟨qs, q, hq⟩ : ∃ qs q, ps = qs ++ [q] := by
    rcases List.eq_nil_or_concat ps with h | ⟨a, b, h⟩
    · exact absurd h hne
    · exact ⟨a, b, by rw [h, List.concat_eq_append]⟩
  subst hq
  rw [List.getLast?_concat, List.dropLast_concat] at hL
  have HL := Lib.hid hL
  clear hL hne
  go_enter Tryd.func52, Tryd.ntmps52
  go_wp2_with fail
  refine Calls.mono HS.out ?_
  rintro e W1 ⟨v, he, hown, hx⟩
  subst he
  have hsl := sl_of_own hown
  have hmx : ∃ ao cap, v = .slice ao (qs.length + 1) cap ∧ qs.length + 1 ≤ cap ∧ cap ≤ maxLen ∧ (ao = none → cap = 0) ∧ W1.cell? (adr ao qs.length) = some (Str q) := by
    obtain ⟨ao, cap, hv, h1, h2, h3, hc⟩ := id hsl
    rw [List.length_map, List.length_append, List.length_singleton] at hv h1
    exact ⟨ao, cap, hv, h1, h2, h3, hc qs.length (Str q) (by simp)⟩
  obtain ⟨ao, cap, hv, h1, h2, h3, hc⟩ := hmx
  subst hv
  have HX := Lib.hid hx
  have hix := run_index_adr (P := Tryd.prog) Tryd.underlying31 Tryd.sizeOf9 h3 h1
  have hix2 := fun W => hix W qs.length (by omega)
  have hhd := run_headm (P := Tryd.prog) Tryd.underlying31 Tryd.sizeOf9 (ao := ao) h1
  have hhd2 := fun W => hhd W qs.length (by omega)
  have hs2 := hsl.headm (k := qs.length) (by simp)
  have e1 : ((qs ++ [q]).map Str).take qs.length = qs.map Str := by rw [List.map_append, List.take_append_of_le_length (by simp)]; exact List.take_of_length_le (by simp)
  rw [e1] at hs2
  obtain ⟨ma, ml, mc, hmv⟩ : ∃ a m c, headm (.slice ao (qs.length + 1) cap) qs.length = .slice a m c := ⟨_, _, _, rfl⟩
  rw [hmv] at hs2
  simp only [hmv] at hhd2
  have HSL := Lib.hid hsl; have HS2 := Lib.hid hs2
  have hll : (qs ++ [q]).length = qs.length + 1 := by simp
  have hql : (qs.length : Int) + 1 ≤ 9223372036854775807 := by unfold maxLen at h2; omega
  clear hx hown hsl hs2 hix hhd h1 h2 h3 e1 hmv HS
  cases hqe : (q == []) with
  | true =>
    have hq0 : q = [] := by simpa using hqe
    subst hq0
    have HF := Lib.hid (HL.out.trans (if_pos rfl))
    clear HL hqe
    go_wp2
    go_ret
    exact ⟨_, rfl, by rw [HF.out]; exact HS2.out, HX.out⟩
  | false =>
    have hq0 : q ≠ [] := by simpa using hqe
    have HF := Lib.hid (HL.out.trans (if_neg (by simpa using hq0)))
    have hie : q.isEmpty = false := by simpa using hq0
    clear HL hq0
    go_wp2
    go_ret
    exact ⟨_, rfl, by rw [HF.out]; exact HSL.out, HX.out⟩
end Go.Proofs.YtjbobblnicnhnaaDoor
