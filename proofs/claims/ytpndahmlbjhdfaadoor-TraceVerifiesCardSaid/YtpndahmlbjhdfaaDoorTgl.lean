/-
  Good events; a told sequence of events kept while memory is made; 32 zeros.
-/
import Derived.Test.YtpndahmlbjhdfaaDoorRows
import Derived.Test.YtpndahmlbjhdfaaDoorTbp
import Derived.Test.YtpndahmlbjhdfaaDoorTco
namespace Go.Proofs.YtpndahmlbjhdfaaDoor
open Go.RowKit
set_option linter.unusedVariables false
set_option linter.unusedSimpArgs false
theorem right_ok {e : Ev} (h : e.right = true) : e.ok ∧ 1 ≤ e.n := by
  simp only [Ev.right, plnB, Bool.and_eq_true, decide_eq_true_eq] at h
  obtain ⟨⟨⟨⟨⟨⟨h1, h2⟩, h3⟩, h4⟩, h5⟩, h6⟩, h7⟩ := h
  exact ⟨⟨by omega, by omega, by omega, by omega, by omega, by omega⟩, h6⟩
theorem goodL_mem {L : List Ev} (h : goodL L) {e : Ev} (he : e ∈ L) : e.ok ∧ 1 ≤ e.n := by
  obtain ⟨j, hj, rfl⟩ := List.getElem_of_mem he
  exact right_ok (h j _ (List.getElem?_eq_getElem hj)).1
def SeqE (f : Value) (es : List Ev) (w : World) : Prop := ∃ lo, SeqOf f es lo w
theorem SeqE.ext {f : Value} {es : List Ev} {w w' : World} (h : SeqE f es w) (hx : Ext w w') : SeqE f es w' := by
  obtain ⟨lo, gf, lb, own0, own1, hf, eg, hit, h0, h1⟩ := h
  exact ⟨lo, gf, lb, own0, own1, hf, eg, hit.ext hx h0, fun k hk => Nat.lt_of_lt_of_le (h0 k hk) hx.size, fun k hk => ⟨(h1 k hk).1, Nat.lt_of_lt_of_le (h1 k hk).2 hx.size⟩⟩
theorem collectE_any (f : Value) (es : List Ev) (hl : es.length ≤ 1000000) (w : World) (h : SeqE f es w) :
    Calls Tryd.prog 13 #[f] w fun e w' => ∃ v', e = .returned v' ∧ RowE w' v' es ∧ Ext w w' := by
  obtain ⟨lo, h⟩ := h
  exact (collectS_any f es hl lo w h).mono (fun e w' ⟨v', he, ho, hx⟩ => ⟨v', he, ho.row, hx⟩)
def zeroObj : Obj := .cells (zero32.map Byt).toArray 5
theorem make32_sl (w : World) : SlB (w.alloc zeroObj) (.slice (some ⟨w.heap.size, 0, none⟩) 32 32) zero32 := by
  have ho : OwnB w.heap.size (.slice (some ⟨w.heap.size, 0, none⟩) 32 32) zero32 (w.alloc zeroObj) := own_built w w.heap.size 5 (zero32.map Byt) (Nat.le_refl _) (by simp [zero32])
  exact ho.sl
end Go.Proofs.YtpndahmlbjhdfaaDoor
