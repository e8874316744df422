/-
  The listed table name.forms, out of a card's condition.
-/
import Derived.Test.YtjkbigecejogdaaDoorRows
import Derived.Test.YtjkbigecejogdaaDoorSca
import Derived.OpenShut
import Derived.LaidMore
import Derived.Lay
import Derived.MakeChecks
import Derived.Shelf.Vars
namespace Go.Proofs.YtjkbigecejogdaaDoor
open Go.RowKit
set_option linter.unusedVariables false
set_option linter.unusedSimpArgs false

theorem struct_ints {H : Type} {enc : TypeId × Value → H} {P : Program} {w : World} {base : Nat} {sp : Nat → Bool} {held : Bool} {fuel : Nat} {t : TypeId} {fs : Array Field} {cs : List Value} {p : List MemPlace} (L : List (IntKind × Int))
    (ht : P.underlying t = some (.struct fs)) (hct : P.cellsOf t = L.length) (hsz : fs.size = L.length)
    (hf : ∀ (j : Nat) f x, fs[j]? = some f → L[j]? = some x → f.offset = j ∧ P.cellsOf f.type = 1 ∧ P.underlying f.type = some (.int x.1))
    (h : DataW.trod enc P w base sp held fuel t cs = some (.agg (L.map fun x => .lit (.int x.1 x.2)), p)) : cs = L.map fun x => .int x.1 x.2 := by
  obtain ⟨xs, n, _, hx, hlen, hxl, hall⟩ := DataW.trod_struct ht h
  simp only [Prod.mk.injEq, DataW.agg.injEq] at hx
  apply List.ext_getElem?
  intro j
  by_cases hj : j < L.length
  · have hfj : fs[j]? = some (fs[j]'(by omega)) := Array.getElem?_eq_getElem (by omega)
    have hLj : L[j]? = some L[j] := List.getElem?_eq_getElem hj
    obtain ⟨h1, h2, h3⟩ := hf j _ _ hfj hLj
    have hxj : xs[j]? = some (xs[j]'(by omega)) := List.getElem?_eq_getElem (by omega)
    have h4 := hall j _ hfj
    rw [hxj] at h4
    obtain ⟨z, hc, he, _⟩ := DataW.trod_int h3 h4
    rw [h1, h2] at hc
    have h5 : cs[j]? = some (.int L[j].1 z) := by
      have := congrArg (·[0]?) hc
      simpa [List.getElem?_take, List.getElem?_drop] using this
    have h6 : (xs.map (·.1))[j]? = (L.map fun x => (DataW.lit (.int x.1 x.2) : DataW H))[j]? := by rw [hx.1]
    rw [List.getElem?_map, hxj, List.getElem?_map, hLj] at h6
    simp [he] at h6
    rw [h5, List.getElem?_map, hLj]
    simp [h6]
  · rw [List.getElem?_eq_none (by omega), List.getElem?_eq_none (by simp; omega)]
/-- The table's rows. -/
def formsR : List (List (IntKind × Int)) := [[(.i64, 1), (.u8, 128), (.u8, 0), (.i32, 0)], [(.i64, 2), (.u8, 224), (.u8, 192), (.i32, 128)], [(.i64, 3), (.u8, 240), (.u8, 224), (.i32, 2048)], [(.i64, 4), (.u8, 248), (.u8, 240), (.i32, 65536)]]
theorem form_row {H : Type} {enc : TypeId × Value → H} {w : World} {base : Nat} {sp : Nat → Bool} {held : Bool} {fuel : Nat} {cs : List Value} {p : List MemPlace} (a b c d : Int)
    (h : DataW.trod enc Tryd.prog w base sp held fuel 128 cs = some (.agg ([(IntKind.i64, a), (.u8, b), (.u8, c), (.i32, d)].map fun x => .lit (.int x.1 x.2)), p)) : cs = [.int .i64 a, .int .u8 b, .int .u8 c, .int .i32 d] := by
  have hB : (match Tryd.prog.fieldsOf 128 with | ⟨[f0, f1, f2, f3]⟩ => ([f0, f1, f2, f3].map (·.offset) == [0, 1, 2, 3]) && ([f0, f1, f2, f3].map (·.type) == [3, 5, 5, 21]) | _ => false) = true := by kernel_rfl
  have hu : Tryd.prog.underlying 128 = some (.struct (Tryd.prog.fieldsOf 128)) := by kernel_rfl
  revert hu hB
  generalize Tryd.prog.fieldsOf 128 = F
  intro hB hu
  match F, hB with
  | ⟨[f0, f1, f2, f3]⟩, hB =>
    simp at hB
    obtain ⟨⟨o0, o1, o2, o3⟩, t0, t1, t2, t3⟩ := hB
    refine struct_ints [(IntKind.i64, a), (.u8, b), (.u8, c), (.i32, d)] hu (by kernel_rfl) rfl (fun j f x hj hx => ?_) h
    match j, hj, hx with
    | 0, hj, hx => simp at hj hx; subst hj; subst hx; exact ⟨o0, by rw [t0]; kernel_rfl, by rw [t0]; exact Tryd.underlying3⟩
    | 1, hj, hx => simp at hj hx; subst hj; subst hx; exact ⟨o1, by rw [t1]; kernel_rfl, by rw [t1]; exact Tryd.underlying5⟩
    | 2, hj, hx => simp at hj hx; subst hj; subst hx; exact ⟨o2, by rw [t2]; kernel_rfl, by rw [t2]; exact Tryd.underlying5⟩
    | 3, hj, hx => simp at hj hx; subst hj; subst hx; exact ⟨o3, by rw [t3]; kernel_rfl, by rw [t3]; exact Tryd.underlying21⟩
    | j + 4, hj, hx => simp at hx
theorem forms_cs {H : Type} {enc : TypeId × Value → H} {w : World} {base : Nat} {sp : Nat → Bool} {held : Bool} {fuel : Nat} {cs : List Value} {p : List MemPlace}
    (h : DataW.trod enc Tryd.prog w base sp held fuel 129 cs = some (.agg (formsR.map fun r => .agg (r.map fun x => .lit (.int x.1 x.2))), p)) : cs = formsC := by
  have hu : Tryd.prog.underlying 129 = some (.array 4 128) := Tryd.underlying129
  obtain ⟨xs, m, _, hx, hlen, hxl, hall⟩ := DataW.trod_array hu h
  simp only [Prod.mk.injEq, DataW.agg.injEq] at hx
  have hc16 : Tryd.prog.cellsOf 129 = 16 := by kernel_rfl
  have hc4 : Tryd.prog.cellsOf 128 = 4 := by kernel_rfl
  rw [hc16] at hlen
  rw [hc4] at hall
  match xs, hxl with
  | [x0, x1, x2, x3], _ =>
    obtain ⟨hx1, _⟩ := hx
    simp only [formsR, List.map_cons, List.map_nil, List.cons.injEq, and_true] at hx1
    obtain ⟨e0, e1, e2, e3⟩ := hx1
    have g0 := hall 0 (by omega); have g1 := hall 1 (by omega); have g2 := hall 2 (by omega); have g3 := hall 3 (by omega)
    simp only [List.getElem?_cons_zero, List.getElem?_cons_succ] at g0 g1 g2 g3
    obtain ⟨y0, p0⟩ := x0; obtain ⟨y1, p1⟩ := x1; obtain ⟨y2, p2⟩ := x2; obtain ⟨y3, p3⟩ := x3
    simp only at e0 e1 e2 e3
    subst e0; subst e1; subst e2; subst e3
    have r0 := form_row 1 128 0 0 g0; have r1 := form_row 2 224 192 128 g1; have r2 := form_row 3 240 224 2048 g2; have r3 := form_row 4 248 240 65536 g3
    have hsplit : cs = (cs.drop (0 * 4)).take 4 ++ ((cs.drop (1 * 4)).take 4 ++ ((cs.drop (2 * 4)).take 4 ++ (cs.drop (3 * 4)).take 4)) := by
      rw [List.take_of_length_le (l := cs.drop (3 * 4)) (by simp; omega)]
      have a1 : cs.drop (2 * 4) = (cs.drop (2 * 4)).take 4 ++ cs.drop (3 * 4) := by have := (List.take_append_drop 4 (cs.drop 8)).symm; simpa using this
      have a2 : cs.drop (1 * 4) = (cs.drop (1 * 4)).take 4 ++ cs.drop (2 * 4) := by have := (List.take_append_drop 4 (cs.drop 4)).symm; simpa using this
      have a3 : cs = (cs.drop (0 * 4)).take 4 ++ cs.drop (1 * 4) := by simp
      rw [← a1, ← a2, ← a3]
    rw [hsplit, r0, r1, r2, r3]
    rfl
theorem forms_at {w : World} {rest : List (String × DataW Unit)} (hsh : w.ShapedOpen Tryd.prog) (h : laidMet Tryd.prog (("ostiary/name.forms", .agg (formsR.map fun r => .agg (r.map fun x => .lit (.int x.1 x.2)))) :: rest) w.memory) : FormsAt w := by
  obtain ⟨ps, ⟨g', t', cs, fuel, p, q, hg', ht', hvar, hd, _, _⟩, _⟩ := h
  obtain rfl := Option.some.inj ((show Tryd.prog.globalNamed "ostiary/name.forms" = some 1 by kernel_rfl).symm.trans hg')
  obtain rfl := Option.some.inj ((show (Tryd.prog.globals[1]?).map (·.type) = some 129 by kernel_rfl).symm.trans ht')
  have hcs := forms_cs hd
  obtain ⟨cs', hh, _, _⟩ := hsh.1 1 (((((begin Tryd.prog (fun _ _ => 0) default).world.heap[1]?).bind Obj.row?).map (·.1)).getD #[]) 129 (of_decide_eq_true (by kernel_rfl)) (by kernel_rfl)
  unfold World.var? at hvar
  rw [show w.memory.heap = w.heap from rfl] at hvar
  rw [hg'] at hvar
  simp only [Option.bind_some, hh, Option.some.injEq] at hvar
  refine ⟨(0, 0), ?_⟩
  rw [hh, hvar, ← hcs]
end Go.Proofs.YtjkbigecejogdaaDoor
