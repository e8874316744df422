/-
  The library's functions by one word on the world (Lb: its variables read as they are laid), their frames as Ext.
-/
import Derived.Lib.AppendIntMem
import Derived.Lib.AtoiErrMem
import Derived.Test.YtpndahmlbjhdfaaDoorRows
import Derived.Test.YtpndahmlbjhdfaaDoorKit
import Derived.Test.YtpndahmlbjhdfaaDoorShf
import Derived.Test.YtpndahmlbjhdfaaDoorSpb
namespace Go.Proofs.YtpndahmlbjhdfaaDoor
open Go.RowKit
set_option linter.unusedVariables false
set_option linter.unusedSimpArgs false

structure Lb (W : World) : Prop where
  mx : ∃ m, W.cell? ⟨4, 0, none⟩ = some (.int .i64 m)
  e1 : ∃ te pe, W.cell? ⟨5, 0, none⟩ = some (.iface te pe)
  e2 : ∃ te pe, W.cell? ⟨6, 0, none⟩ = some (.iface te pe)
  tab : Lib.TabIs Tryd.prog W "internal/strconv.uint64pow10" .u64 Lib.pow10Tab
theorem tabIs_keep {P : Program} {w w' : World} {name : String} {k : IntKind} {zs : List Int} (h : Lib.TabIs P w name k zs) (hk : ∀ b, b < w.heap.size → P.globalNamed name = some b → w'.heap[b]? = w.heap[b]?) : Lib.TabIs P w' name k zs := by
  unfold Lib.TabIs World.var? at *
  cases hg : P.globalNamed name with
  | none => simp [hg] at h
  | some g =>
    simp only [hg, Option.bind_some] at h ⊢
    have hlt : g < w.heap.size := by
      rcases Nat.lt_or_ge g w.heap.size with h' | h'
      · exact h'
      · rw [Array.getElem?_eq_none h'] at h; simp at h
    rw [hk g hlt hg]
    exact h
/-- The blocks of the library's variables. -/
def libB (k : Nat) : Prop := k = 4 ∨ k = 5 ∨ k = 6 ∨ k = 3
theorem Lb.keep {A C : World} (h : Lb A) (hk : ∀ k, libB k → C.heap[k]? = A.heap[k]?) : Lb C := by
  obtain ⟨⟨m, h1⟩, ⟨t2, p2, h2⟩, ⟨t3, p3, h3⟩, h4⟩ := h
  exact ⟨⟨m, (World.cell?_of_block (w := A) (w' := C) (hk _ (.inl rfl))).trans h1⟩, ⟨t2, p2, (World.cell?_of_block (w := A) (w' := C) (hk _ (.inr (.inl rfl)))).trans h2⟩, ⟨t3, p3, (World.cell?_of_block (w := A) (w' := C) (hk _ (.inr (.inr (.inl rfl))))).trans h3⟩,
    tabIs_keep h4 fun b hb hg => hk b (.inr (.inr (.inr (Option.some.inj (hg.symm.trans (show Tryd.prog.globalNamed "internal/strconv.uint64pow10" = some 3 by kernel_rfl))))))⟩
theorem Lb.lt {A : World} (h : Lb A) {k : Nat} (hk : libB k) : k < A.heap.size := by
  obtain ⟨⟨m, h1⟩, ⟨t2, p2, h2⟩, ⟨t3, p3, h3⟩, h4⟩ := h
  rcases hk with rfl | rfl | rfl | rfl
  · exact World.block_lt_of_cell? A _ h1
  · exact World.block_lt_of_cell? A _ h2
  · exact World.block_lt_of_cell? A _ h3
  · have := Lib.TabIs.cell h4 (show Tryd.prog.globalNamed "internal/strconv.uint64pow10" = some 3 by kernel_rfl) 0 (by rw [Lib.pow10Tab_length]; omega)
    exact World.block_lt_of_cell? A _ this
theorem Lb.ext {A C : World} (h : Lb A) (he : Ext A C) : Lb C := h.keep fun k hk => he.block k (h.lt hk)

theorem size_str (l : List UInt8) : (⟨l.toArray⟩ : ByteArray).size = l.length := size_list l
theorem index_any (l sub : List UInt8) (hl : l.length ≤ 100000) (W : World) (hW : Lb W) :
    Calls Tryd.prog 96 #[Str l, Str sub] W fun e w' => e = .returned (.int .i64 (Lib.index l sub)) ∧ w' = W := by
  obtain ⟨m, hm⟩ := hW.mx
  exact Tryd.strings_Index ⟨l.toArray⟩ ⟨sub.toArray⟩ m W (by rw [size_list]; omega) hm
/-- strconv.Itoa -/
theorem itoa_any (n : Int) (h0 : -9223372036854775808 ≤ n) (h1 : n ≤ 9223372036854775807) (W : World) (hW : Lb W) :
    Calls Tryd.prog 54 #[.int .i64 n] W fun e w' => e = .returned (Str (Lib.itoa n)) ∧ Ext W w' :=
  (Tryd.strconv_Itoa n h0 h1 W hW.tab).mono fun e w' ⟨he, k, os, hw⟩ => ⟨he, by rw [hw]; exact Lib.below_grow _ W (Nat.le_refl _) k os⟩
/-- The number that strconv.Atoi gives beside an error. -/
def atoiV (l : List UInt8) : Int := match Lib.atoiAll l with | .ok v => v | .range => Lib.atoiSat l | _ => 0
def atoiOk (l : List UInt8) : Bool := match Lib.atoiAll l with | .ok _ => true | _ => false
theorem atoiV_bounds (l : List UInt8) : -9223372036854775808 ≤ atoiV l ∧ atoiV l ≤ 9223372036854775807 := by
  unfold atoiV
  split
  · rename_i v h; exact Lib.atoiAll_bounds h
  · exact Lib.atoiSat_bounds l
  · omega
/-- strings.Split at one byte: a new row of its pieces. -/
theorem split_any (l : List UInt8) (b : UInt8) (hl : l.length ≤ 100000) (W : World) (hW : Lb W) :
    Calls Tryd.prog 55 #[Str l, Str [b]] W fun e w' => e = .returned (.slice (some ⟨W.heap.size, 0, none⟩) (spb b l).length (spb b l).length) ∧ w' = W.alloc (.cells ((spb b l).map Str).toArray 9) := by
  obtain ⟨m, hm⟩ := hW.mx
  have h1 : (1 : Nat) ≤ (⟨#[b]⟩ : ByteArray).size := Nat.le_refl _
  have hd : (Lib.splitB ⟨#[b]⟩ 0 (Lib.countB ⟨l.toArray⟩ ⟨#[b]⟩) ⟨l.toArray⟩).map (·.data.toList) = spb b l := by
    rw [Lib.splitB_data]
    exact split_byte b l.length l (Nat.le_refl _)
  have hs : (Lib.splitB ⟨#[b]⟩ 0 (Lib.countB ⟨l.toArray⟩ ⟨#[b]⟩) ⟨l.toArray⟩).map Value.string = (spb b l).map Str := by
    rw [← hd, List.map_map]
    apply List.map_congr_left
    intro x _
    simp
  have hn : Lib.countB ⟨l.toArray⟩ ⟨#[b]⟩ + 1 = (spb b l).length := by
    rw [← Lib.splitB_all ⟨#[b]⟩ h1 0 _ ⟨l.toArray⟩ rfl, ← hd, List.length_map]
  have h := Tryd.strings_Split ⟨l.toArray⟩ ⟨#[b]⟩ m W (by rw [size_list]; omega) hm h1
  rw [hs, hn] at h
  exact h
end Go.Proofs.YtpndahmlbjhdfaaDoor
