/-
  The document's rule as a parameter by value: opened to a rule, and shut.
-/
import Derived.Test.YtjbobblnicnhnaaDoorRows
import Derived.Test.YtjbobblnicnhnaaDoorRul
import Derived.WalkKit
import Derived.ProofKit
import Derived.OpenShut
import Derived.ShutString
import Derived.Lib.SmallJoins
namespace Go.Proofs.YtjbobblnicnhnaaDoor
open Go.ChangeShapes Go.WideShapes Go.RowKit
set_option maxRecDepth 100000
set_option linter.unusedVariables false
set_option linter.unusedSimpArgs false

section
variable {H : Type} {enc : TypeId × Value → H} {w : World} {base : Nat} {spare : Nat → Bool} {held : Bool}
/-- What a rule reads as. -/
def ruDat (H : Type) (r : Ru) : DataW H := .agg [.lit (.bool r.al), .lit (.string r.ro), .lit (.string r.te), .lit (.string r.ho), .lit (.int .i64 r.fr), .lit (.int .i64 r.to)]
/-- Texts as long as the machine bears; numbers of 64 bits. -/
structure RuW (r : Ru) : Prop where
  ro : r.ro.length ≤ maxLen
  te : r.te.length ≤ maxLen
  ho : r.ho.length ≤ maxLen
  fr : (Lit.int .i64 r.fr).wf = true
  to : (Lit.int .i64 r.to).wf = true
theorem ru_cells : Tryd.prog.cellsOf 26 = 6 := by kernel_rfl
theorem k_bool : Tryd.prog.cellsOf 4 = 1 := by kernel_rfl
theorem k_str : Tryd.prog.cellsOf 9 = 1 := by kernel_rfl
theorem k_int : Tryd.prog.cellsOf 3 = 1 := by kernel_rfl
theorem open_rule {r : Reach} {b0 : Nat} {v : Value} {d : DataW H} {p : List MemPlace} (hv : Value.okWide Tryd.prog w r b0 26 v) (h : DataW.Trod enc Tryd.prog w base spare held 26 v d p) :
    ∃ x : Ru, v = ruV x ∧ d = ruDat H x ∧ p = [] ∧ RuW x := by
  obtain ⟨cs, rfl, hsz⟩ := okWide_struct Tryd.underlying26 hv
  obtain ⟨fuel, hf⟩ := h
  obtain ⟨xs, n, _, hx, _, hlen, hg⟩ := DataW.trod_struct Tryd.underlying26 hf
  obtain ⟨l⟩ := cs
  match l, hsz.trans ru_cells with
  | [c0, c1, c2, c3, c4, c5], _ =>
    match xs, hlen with
    | [y0, y1, y2, y3, y4, y5], _ =>
      have g0 : DataW.trod enc Tryd.prog w base spare held n 4 [c0] = some y0 := by simpa [Value.cells, k_bool] using hg 0 _ rfl
      have g1 : DataW.trod enc Tryd.prog w base spare held n 9 [c1] = some y1 := by simpa [Value.cells, k_str] using hg 1 _ rfl
      have g2 : DataW.trod enc Tryd.prog w base spare held n 9 [c2] = some y2 := by simpa [Value.cells, k_str] using hg 2 _ rfl
      have g3 : DataW.trod enc Tryd.prog w base spare held n 9 [c3] = some y3 := by simpa [Value.cells, k_str] using hg 3 _ rfl
      have g4 : DataW.trod enc Tryd.prog w base spare held n 3 [c4] = some y4 := by simpa [Value.cells, k_int] using hg 4 _ rfl
      have g5 : DataW.trod enc Tryd.prog w base spare held n 3 [c5] = some y5 := by simpa [Value.cells, k_int] using hg 5 _ rfl
      obtain ⟨b, e0, rfl⟩ := DataW.trod_bool Tryd.underlying4 g0
      obtain ⟨s1, e1, rfl, w1⟩ := DataW.trod_string Tryd.underlying9 g1
      obtain ⟨s2, e2, rfl, w2⟩ := DataW.trod_string Tryd.underlying9 g2
      obtain ⟨s3, e3, rfl, w3⟩ := DataW.trod_string Tryd.underlying9 g3
      obtain ⟨n4, e4, rfl, w4⟩ := DataW.trod_int Tryd.underlying3 g4
      obtain ⟨n5, e5, rfl, w5⟩ := DataW.trod_int Tryd.underlying3 g5
      obtain ⟨l1, rfl⟩ : ∃ l : List UInt8, s1 = ⟨l.toArray⟩ := str_of s1
      obtain ⟨l2, rfl⟩ : ∃ l : List UInt8, s2 = ⟨l.toArray⟩ := str_of s2
      obtain ⟨l3, rfl⟩ : ∃ l : List UInt8, s3 = ⟨l.toArray⟩ := str_of s3
      simp only [List.cons.injEq, and_true] at e0 e1 e2 e3 e4 e5
      subst e0 e1 e2 e3 e4 e5
      simp only [List.map_cons, List.map_nil, List.flatMap_cons, List.flatMap_nil, List.append_nil, Prod.mk.injEq] at hx
      rw [size_list] at w1 w2 w3
      exact ⟨⟨b, l1, l2, l3, n4, n5⟩, rfl, hx.1, hx.2, w1, w2, w3, w4, w5⟩
theorem shut_rule {x : Ru} (h : RuW x) : DataW.Trod enc Tryd.prog w base spare held 26 (ruV x) (ruDat H x) [] := by
  obtain ⟨b, l1, l2, l3, n4, n5⟩ := x
  obtain ⟨w1, w2, w3, w4, w5⟩ := h
  have g1 := size_list l1; have g2 := size_list l2; have g3 := size_list l3
  have ts := trod_struct_mk (enc := enc) (w := w) (base := base) (spare := spare) (held := held) (n := 1) (cs := [.bool b, Str l1, Str l2, Str l3, .int .i64 n4, .int .i64 n5])
    (xs := [(.lit (.bool b), []), (.lit (.string l1), []), (.lit (.string l2), []), (.lit (.string l3), []), (.lit (.int .i64 n4), []), (.lit (.int .i64 n5), [])]) Tryd.underlying26 (by rw [ru_cells]; rfl)
    (by simp only at w1 w2 w3 w4 w5; simp [k_bool, k_str, k_int, DataW.trod, Tryd.underlying4, Tryd.underlying9, Tryd.underlying3, g1, g2, g3, w1, w2, w3, w4, w5])
  exact ⟨2, ts⟩
end
end Go.Proofs.YtjbobblnicnhnaaDoor
