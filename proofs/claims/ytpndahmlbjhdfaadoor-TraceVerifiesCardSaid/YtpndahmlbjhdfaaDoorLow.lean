/-
  Small letters: rule.small, ref08.Low.
-/
import Derived.Test.YtpndahmlbjhdfaaDoorRows
import Derived.Test.YtpndahmlbjhdfaaDoorKit
namespace Go.Proofs.YtpndahmlbjhdfaaDoor
open Go.RowKit
set_option maxRecDepth 100000
set_option linter.unusedVariables false
set_option linter.unusedSimpArgs false

def lowB (c : UInt8) : UInt8 := if 65 ≤ c.toNat ∧ c.toNat ≤ 90 then UInt8.ofNat (c.toNat + 32) else c
/-- A text with small letters. -/
def lowL (l : List UInt8) : List UInt8 := l.map lowB
theorem lowL_len (l : List UInt8) : (lowL l).length = l.length := by simp [lowL]
theorem lowL_snoc (l : List UInt8) (k : Nat) (h : k < l.length) : lowL (l.take (k + 1)) = lowL (l.take k) ++ [lowB (bt l k)] := by rw [take_snoc l k h]; simp [lowL]
def azL : List UInt8 := [97, 98, 99, 100, 101, 102, 103, 104, 105, 106, 107, 108, 109, 110, 111, 112, 113, 114, 115, 116, 117, 118, 119, 120, 121, 122]
theorem azL_lit : (⟨#[97, 98, 99, 100, 101, 102, 103, 104, 105, 106, 107, 108, 109, 110, 111, 112, 113, 114, 115, 116, 117, 118, 119, 120, 121, 122]⟩ : ByteArray) = ⟨azL.toArray⟩ := rfl
theorem azL_at : ∀ n, n < 26 → bt azL n = lowB (UInt8.ofNat (65 + n)) := by decide +kernel
theorem azL_low (c : UInt8) (h : 65 ≤ c.toNat ∧ c.toNat ≤ 90) : bt azL (c.toNat - 65) = lowB c := by
  rw [azL_at _ (by omega), show 65 + (c.toNat - 65) = c.toNat by omega, UInt8.ofNat_toNat]
theorem azL_len : azL.length = 26 := rfl

/-- '[]byte(s)': a row of the call's own that may be written. -/
theorem bytes_own {P : Program} (w : World) (src dst e : TypeId) (l : List UInt8) (hl : l.length ≤ maxLen) (hs : P.underlying src = some .string) (hd : P.underlying dst = some (.slice e)) (he : P.underlying e = some (.int .u8)) :
    ∃ cap w', (convert src dst (Str l)).run P w = .ok (.slice (some ⟨w.heap.size, 0, none⟩) l.length cap) w' ∧ Ext w w' ∧ l.length ≤ cap ∧ cap ≤ maxLen ∧ (∀ j, j < l.length → w'.cell? ⟨w.heap.size, j, none⟩ = some (Byt (bt l j))) ∧ (∀ j, j < l.length → w'.frozen? ⟨w.heap.size, j, none⟩ = false) := by
  have h := run_bytes_of_string (P := P) w src dst e ⟨l.toArray⟩ hs hd he
  rw [size_list] at h
  have hblk : (w.drew.alloc (.cells (bytesRow ⟨l.toArray⟩ (grownCap w l.length 0 e)) e ((bytesRow ⟨l.toArray⟩ (grownCap w l.length 0 e)).size, (bytesRow ⟨l.toArray⟩ (grownCap w l.length 0 e)).size + 1))).heap[w.heap.size]? = _ := heap_alloc_new w.drew _
  have hsz : l.length ≤ (bytesRow ⟨l.toArray⟩ (grownCap w l.length 0 e)).size := by
    simp only [bytesRow]
    rw [Array.size_append, Array.size_map]
    simp
  refine ⟨_, _, h, (Below.drew (Below.refl _ w)).alloc (Nat.le_refl _) _, grownCap_ge _ _ _ _, grownCap_le_maxLen _ _ _ _ hl, fun j hj => ?_, fun j hj => ?_⟩
  · rw [cell_of_row _ _ j _ _ _ hblk]
    simp only [bytesRow]
    rw [Array.getElem?_append_left (by simpa using hj)]
    simp only [Array.getElem?_map, List.getElem?_toArray]
    rw [bt_some l j hj]; rfl
  · simp only [World.frozen?, hblk]
    simp; omega
theorem sl_cells {w : World} {g n cap : Nat} {l : List Value} (hn : l.length = n) (h1 : n ≤ cap) (h2 : cap ≤ maxLen) (hc : ∀ (j : Nat) u, l[j]? = some u → w.cell? ⟨g, j, none⟩ = some u) : Sl w (.slice (some ⟨g, 0, none⟩) n cap) l := by
  subst hn
  exact ⟨_, cap, rfl, h1, h2, (fun h => by cases h), fun j u hu => by rw [adr_some, Nat.zero_add]; exact hc j u hu⟩

end Go.Proofs.YtpndahmlbjhdfaaDoor
