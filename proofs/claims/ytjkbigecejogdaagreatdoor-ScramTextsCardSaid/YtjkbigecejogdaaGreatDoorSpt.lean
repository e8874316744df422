/-
 ref07.Split: a text's pieces.
-/
import Derived.Test.YtjkbigecejogdaaGreatDoorRows
import Derived.Test.YtjkbigecejogdaaGreatDoorSca
namespace Go.Proofs.YtjkbigecejogdaaGreatDoor
open Go.RowKit Go.Shelf
set_option maxRecDepth 100000
set_option linter.unusedVariables false
set_option linter.unusedSimpArgs false

theorem spl_headp : ∀ (p r : List UInt8), (∀ c ∈ p, c ≠ 44) → spl (p ++ 44 :: r) = p :: spl r
 | [], r, _ => by simp [spl]
 | c :: p, r, h => by
  have ih := spl_headp p r (fun x hx => h x (by simp [hx]))
  have hc : c ≠ 44 := h c (by simp)
  simp [spl, hc, ih]
theorem spl_none : ∀ (p : List UInt8), (∀ c ∈ p, c ≠ 44) → spl p = [p]
 | [], _ => by simp [spl]
 | c :: p, h => by
  have ih := spl_none p (fun x hx => h x (by simp [hx]))
  have hc : c ≠ 44 := h c (by simp)
  simp [spl, hc, ih]
theorem run_slice_str {P : Program} {t : TypeId} (ht : P.underlying t = some .string) (l : List UInt8) (a b : Nat) (hab : a ≤ b) (hb : b ≤ l.length) (W : World) :
  (Instr.slice t (Str l) (some (.int .i64 (a : Int))) (some (.int .i64 (b : Int))) none).run P W = .ok (Str ((l.take b).drop a)) W := by
 have h := run_slice_string (P := P) (w := W) t ⟨l.toArray⟩ .i64 .i64 (a : Int) (b : Int) ht (by omega) (by omega) (by rw [size_list]; omega)
 rw [h]
 simp [extract_list]
def Sp (l : List UInt8) (f i : Nat) (ps : List (List UInt8)) : Prop := (i ≤ l.length ∧ f ≤ i ∧ spl l = ps ++ spl (l.drop f) ∧ ∀ c ∈ (l.take i).drop f, c ≠ 44) ∨ (i = l.length + 1 ∧ f = i ∧ spl l = ps)
theorem sp_start (l : List UInt8) : Sp l 0 0 [] := .inl ⟨by omega, by omega, by simp, by simp⟩
theorem sp_on {l : List UInt8} {f i : Nat} {ps : List (List UInt8)} (h : Sp l f i ps) (hi : i < l.length) (hc : bt l i ≠ 44) : Sp l f (i + 1) ps := by
 rcases h with ⟨h1, h2, h3, h4⟩ | ⟨h1, _⟩
 ·refine .inl ⟨by omega, by omega, h3, fun c hc' => ?_⟩
  rw [take_snoc l i hi, List.drop_append_of_le_length (by simp; omega)] at hc'
  rcases List.mem_append.1 hc' with h | h
  ·exact h4 c h
  ·simp at h; subst h; exact hc
 ·omega
theorem sp_cut {l : List UInt8} {f i : Nat} {ps : List (List UInt8)} (h : Sp l f i ps) (hi : i < l.length) (hc : bt l i = 44) : Sp l (i + 1) (i + 1) (ps ++ [(l.take i).drop f]) := by
 rcases h with ⟨h1, h2, h3, h4⟩ | ⟨h1, _⟩
 ·refine .inl ⟨by omega, by omega, ?_, by simp⟩
  have e : l.drop f = (l.take i).drop f ++ 44 :: l.drop (i + 1) := by
   rw [← hc, bt_get l i hi, ← List.drop_eq_getElem_cons hi]
   rw [show l.drop i = (l.drop f).drop (i - f) by rw [List.drop_drop]; congr 1; omega, show (l.take i).drop f = (l.drop f).take (i - f) by rw [List.drop_take]]
   exact (List.take_append_drop _ _).symm
  rw [h3, e, spl_headp _ _ h4]
  simp
 ·omega
theorem sp_end {l : List UInt8} {f i : Nat} {ps : List (List UInt8)} (h : Sp l f i ps) (hi : i = l.length) : Sp l (i + 1) (i + 1) (ps ++ [(l.take i).drop f]) := by
 rcases h with ⟨h1, h2, h3, h4⟩ | ⟨h1, _⟩
 ·refine .inr ⟨by omega, rfl, ?_⟩
  subst hi
  rw [List.take_length] at h4 ⊢
  rw [h3, spl_none _ h4]
 ·omega
theorem infoStr : (Tryz.prog.info? 9).map (fun i => (i.zero, i.size, i.bytes)) = some (some (.string ⟨#[]⟩), 1, 16) := by kernel_rfl

set_option maxHeartbeats 1000000 in
theorem Split_any (l : List UInt8) (hl : l.length ≤ 10000) (w : World) :
  Calls Tryz.prog 56 #[Str l] w fun e w' => ∃ v, e = .returned v ∧ w'.ownsRow w.heap.size 9 1 v (spl l).length ((spl l).map Str) ∧ Ext w w' := by
 have hixl : ∀ i, i < l.length → ∀ W, (Instr.index 9 (Str l) (.int .i64 (i : Int))).run Tryz.prog W = .ok (Byt (bt l i)) W := fun i hi W => run_index_str Tryz.underlying9 l i _ rfl hi W
 have HI := Lib.hid hixl; clear hixl
 go_enter Tryz.func56, Tryz.ntmps56
 go_wp2
 go_loopw [3, 4, 5] (fun v f i wr => ∃ (a b : Nat) (ps : List (List UInt8)), i = .int .i64 b ∧ f = .int .i64 a ∧ b ≤ l.length + 1 ∧ ps.length ≤ b ∧ Sp l a b ps ∧ wr.ownsRow w.heap.size 9 1 v ps.length (ps.map Str) ∧ Ext w wr) (fun _ _ i _ => l.length + 1 - (intOf i).toNat)
 case atStart => exact ⟨0, 0, [], rfl, rfl, by omega, by simp, sp_start l, World.ownsRow_nil _ _ _ _, Below.refl _ _⟩
 case round =>
  obtain ⟨a, b, ps, rfl, rfl, hb, hpl, hsp, hown, hext⟩ := hrel
  have Hsp := Lib.hid hsp
  clear hsp
  by_cases h3 : b < l.length
  ·have hab : a ≤ b := by rcases Hsp.out with ⟨_, h, _⟩ | ⟨h, _⟩ <;> omega
   have hix := HI.out b h3
   have t0 : ((b : Int) == (l.length : Int)) = false := by simp; omega
   obtain ⟨c, hc⟩ : ∃ c, bt l b = c := ⟨_, rfl⟩
   rw [hc] at hix
   by_cases h44 : c = 44
   ·have hS := Lib.hid (sp_cut Hsp.out h3 (hc.trans h44))
    subst h44
    clear hc
    obtain ⟨p, hp⟩ : ∃ p, (l.take b).drop a = p := ⟨_, rfl⟩
    have hsl : ∀ W, (Instr.slice 9 (Str l) (some (.int .i64 (a : Int))) (some (.int .i64 (b : Int))) none).run Tryz.prog W = .ok (Str p) W := fun W => by rw [← hp]; exact run_slice_str Tryz.underlying9 l a b hab (by omega) W
    rw [hp] at hS
    clear hp
    simp only [Byt, show (44 : UInt8).toNat = 44 from rfl] at hix
    go_wp2_with (at_builtin; refine wpList_push w.heap.size rfl _ _ 88 9 rfl Tryz.underlying88 infoStr rfl (by omega) hown (Str p) rfl (by omega) hext.size rfl rfl ?_; rintro _ w1 ⟨g1, cap1, rfl⟩ hown1 hgr1; have hex1 := Lib.hid (ext_push hext hown hgr1); have Hown1 := Lib.hid hown1; clear hown1 hgr1 hown hext)
    go_roundw
    case rel => exact ⟨b + 1, b + 1, ps ++ [p], by go_num, by go_num, by omega, by simp; omega, hS.out, by simpa using Hown1.out, hex1.out⟩
    case measure => simp [intOf] <;> omega
   ·have hS := Lib.hid (sp_on Hsp.out h3 (by rw [hc]; exact h44))
    have hcn : ((c.toNat : Int) == 44) = false := by
     have : c.toNat ≠ 44 := fun h => h44 (UInt8.toNat_inj.1 h)
     simp; omega
    clear hc h44
    go_wp2
    go_roundw
    case rel => exact ⟨a, b + 1, ps, by go_num, rfl, by omega, by omega, hS.out, hown, hext⟩
    case measure => simp [intOf] <;> omega
  ·by_cases h4 : b = l.length
   ·have hab : a ≤ b := by rcases Hsp.out with ⟨_, h, _⟩ | ⟨h, _⟩ <;> omega
    have hS := Lib.hid (sp_end Hsp.out h4)
    subst h4
    obtain ⟨p, hp⟩ : ∃ p, (l.take l.length).drop a = p := ⟨_, rfl⟩
    have hsl : ∀ W, (Instr.slice 9 (Str l) (some (.int .i64 (a : Int))) (some (.int .i64 (l.length : Int))) none).run Tryz.prog W = .ok (Str p) W := fun W => by rw [← hp]; exact run_slice_str Tryz.underlying9 l a l.length hab (by omega) W
    rw [hp] at hS
    clear hp
    go_wp2_with (at_builtin; refine wpList_push w.heap.size rfl _ _ 88 9 rfl Tryz.underlying88 infoStr rfl (by omega) hown (Str p) rfl (by omega) hext.size rfl rfl ?_; rintro _ w1 ⟨g1, cap1, rfl⟩ hown1 hgr1; have hex1 := Lib.hid (ext_push hext hown hgr1); have Hown1 := Lib.hid hown1; clear hown1 hgr1 hown hext)
    go_roundw
    case rel => exact ⟨l.length + 1, l.length + 1, ps ++ [p], by go_num, by go_num, by omega, by simp; omega, hS.out, by simpa using Hown1.out, hex1.out⟩
    case measure => simp [intOf] <;> omega
   ·have hfin : spl l = ps := by rcases Hsp.out with ⟨h, _⟩ | ⟨_, _, h⟩; omega; exact h
    clear Hsp
    go_wp2
    go_ret
    exact ⟨_, rfl, by rw [hfin]; exact hown, hext⟩
end Go.Proofs.YtjkbigecejogdaaGreatDoor
