/-
  The document's event as a parameter by value: opened to an event, and shut.
-/
import Derived.Test.YtpndahmlbjhdfaaDoorRows
import Derived.Test.YtpndahmlbjhdfaaDoorEvl
import Derived.WalkKit
import Derived.ProofKit
import Derived.OpenShut
import Derived.ShutString
import Derived.Lib.SmallJoins
namespace Go.Proofs.YtpndahmlbjhdfaaDoor
open Go.ChangeShapes Go.WideShapes Go.RowKit
set_option maxRecDepth 100000
set_option linter.unusedVariables false
set_option linter.unusedSimpArgs false

section
variable {H : Type} {enc : TypeId × Value → H} {w : World} {base : Nat} {spare : Nat → Bool} {held : Bool}
/-- What an event reads as: its two numbers are those of 64 bits without a sign. -/
def evDat (H : Type) (r : Ev) : DataW H := .agg [.lit (.int .u64 (r.n : Int)), .lit (.int .u64 (r.tk : Int)), .lit (.string r.kind), .lit (.int .i64 r.conn), .lit (.string r.text)]
def evV (r : Ev) : Value := .agg (evC r)
/-- Texts as long as the machine bears; numbers of 64 bits. -/
structure EvP (r : Ev) : Prop where
  n : (Lit.int .u64 (r.n : Int)).wf = true
  tk : (Lit.int .u64 (r.tk : Int)).wf = true
  kind : r.kind.length ≤ maxLen
  conn : (Lit.int .i64 r.conn).wf = true
  text : r.text.length ≤ maxLen
theorem ev_cells : Tryd.prog.cellsOf 32 = 5 := by kernel_rfl
theorem k_str : Tryd.prog.cellsOf 9 = 1 := by kernel_rfl
theorem k_int : Tryd.prog.cellsOf 3 = 1 := by kernel_rfl
theorem k_u64 : Tryd.prog.cellsOf 23 = 1 := by kernel_rfl
theorem open_event {r : Reach} {b0 : Nat} {v : Value} {d : DataW H} {p : List MemPlace} (hv : Value.okWide Tryd.prog w r b0 32 v) (h : DataW.Trod enc Tryd.prog w base spare held 32 v d p) :
    ∃ x : Ev, v = evV x ∧ d = evDat H x ∧ p = [] ∧ EvP x := by
  obtain ⟨cs, rfl, hsz⟩ := okWide_struct Tryd.underlying32 hv
  obtain ⟨fuel, hf⟩ := h
  obtain ⟨xs, n, _, hx, _, hlen, hg⟩ := DataW.trod_struct Tryd.underlying32 hf
  obtain ⟨l⟩ := cs
  match l, hsz.trans ev_cells with
  | [c0, c1, c2, c3, c4], _ =>
    match xs, hlen with
    | [y0, y1, y2, y3, y4], _ =>
      have g0 : DataW.trod enc Tryd.prog w base spare held n 23 [c0] = some y0 := by simpa [Value.cells, k_u64] using hg 0 _ rfl
      have g1 : DataW.trod enc Tryd.prog w base spare held n 23 [c1] = some y1 := by simpa [Value.cells, k_u64] using hg 1 _ rfl
      have g2 : DataW.trod enc Tryd.prog w base spare held n 9 [c2] = some y2 := by simpa [Value.cells, k_str] using hg 2 _ rfl
      have g3 : DataW.trod enc Tryd.prog w base spare held n 3 [c3] = some y3 := by simpa [Value.cells, k_int] using hg 3 _ rfl
      have g4 : DataW.trod enc Tryd.prog w base spare held n 9 [c4] = some y4 := by simpa [Value.cells, k_str] using hg 4 _ rfl
      obtain ⟨n0, e0, rfl, w0⟩ := DataW.trod_int Tryd.underlying23 g0
      obtain ⟨n1, e1, rfl, w1⟩ := DataW.trod_int Tryd.underlying23 g1
      obtain ⟨s2, e2, rfl, w2⟩ := DataW.trod_string Tryd.underlying9 g2
      obtain ⟨n3, e3, rfl, w3⟩ := DataW.trod_int Tryd.underlying3 g3
      obtain ⟨s4, e4, rfl, w4⟩ := DataW.trod_string Tryd.underlying9 g4
      obtain ⟨l2, rfl⟩ : ∃ l : List UInt8, s2 = ⟨l.toArray⟩ := str_of s2
      obtain ⟨l4, rfl⟩ : ∃ l : List UInt8, s4 = ⟨l.toArray⟩ := str_of s4
      obtain ⟨m0, rfl⟩ : ∃ m : Nat, n0 = (m : Int) := ⟨n0.toNat, by have := (bounds_u64 w0).1; omega⟩
      obtain ⟨m1, rfl⟩ : ∃ m : Nat, n1 = (m : Int) := ⟨n1.toNat, by have := (bounds_u64 w1).1; omega⟩
      simp only [List.cons.injEq, and_true] at e0 e1 e2 e3 e4
      subst e0 e1 e2 e3 e4
      simp only [List.map_cons, List.map_nil, List.flatMap_cons, List.flatMap_nil, List.append_nil, Prod.mk.injEq] at hx
      rw [size_list] at w2 w4
      exact ⟨⟨m0, m1, l2, n3, l4⟩, rfl, hx.1, hx.2, w0, w1, w2, w3, w4⟩
theorem shut_event {x : Ev} (h : EvP x) : DataW.Trod enc Tryd.prog w base spare held 32 (evV x) (evDat H x) [] := by
  obtain ⟨n0, n1, l2, n3, l4⟩ := x
  obtain ⟨w0, w1, w2, w3, w4⟩ := h
  have g2 := size_list l2; have g4 := size_list l4
  have ts := trod_struct_mk (enc := enc) (w := w) (base := base) (spare := spare) (held := held) (n := 1) (cs := [.int .u64 (n0 : Int), .int .u64 (n1 : Int), Str l2, .int .i64 n3, Str l4])
    (xs := [(.lit (.int .u64 (n0 : Int)), []), (.lit (.int .u64 (n1 : Int)), []), (.lit (.string l2), []), (.lit (.int .i64 n3), []), (.lit (.string l4), [])]) Tryd.underlying32 (by rw [ev_cells]; rfl)
    (by simp only at w0 w1 w2 w3 w4; simp [k_str, k_int, k_u64, DataW.trod, Tryd.underlying23, Tryd.underlying9, Tryd.underlying3, g2, g4, w0, w1, w2, w3, w4])
  exact ⟨2, ts⟩
end
end Go.Proofs.YtpndahmlbjhdfaaDoor
