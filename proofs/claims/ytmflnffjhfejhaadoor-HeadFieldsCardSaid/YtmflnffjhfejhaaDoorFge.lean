/-
  Rows of fields; ref09.Get: the values of a name.
-/
import Derived.BigGuardPart
import Derived.Test.YtmflnffjhfejhaaDoorRows
import Derived.Test.YtmflnffjhfejhaaDoorFld
import Derived.Test.YtmflnffjhfejhaaDoorHfl
import Derived.Test.YtmflnffjhfejhaaDoorHtk
import Derived.Test.YtmflnffjhfejhaaDoorKit
namespace Go.Proofs.YtmflnffjhfejhaaDoor
open Go.RowKit
set_option maxRecDepth 100000
set_option linter.unusedVariables false
set_option linter.unusedSimpArgs false

theorem elemPair : Tryd.prog.elem 28 = 44 := by kernel_rfl
theorem index_pair (g o n cap j : Nat) (hn : j < n) (W : World) : (Instr.indexAt 28 (.slice (some ⟨g, o, none⟩) n cap) (.int .i64 (j : Int))).run Tryd.prog W = .ok (.pointer (some ⟨g, o + 2 * j, none⟩)) W := by
  rw [run_indexAt_slice (h := by rw [elemPair]; exact Tryd.underlying28), if_pos (by omega), elemPair]
  simp [Tryd.sizeOf44, Result.andThen, Addr.add, Nat.mul_comm]
theorem rowP_shape {w : World} {v : Value} {xs : List Pr} (hr : RowC 2 prC w v xs) : ∃ ao cap, v = .slice ao xs.length cap ∧ xs.length ≤ cap ∧ cap ≤ maxLen ∧ (xs = [] ∨ ∃ g o, ao = some ⟨g, o, none⟩ ∧ ∀ j, j < xs.length → w.cell? ⟨g, o + 2 * j, none⟩ = some (Str (xs.getD j prD).n) ∧ w.cell? ⟨g, o + 2 * j + 1, none⟩ = some (Str (xs.getD j prD).v)) := by
  obtain ⟨ao, cap, hv, h0, h1, h2, h3⟩ := hr
  refine ⟨ao, cap, hv, h1, h2, ?_⟩
  by_cases hne : xs = []
  · exact .inl hne
  · obtain ⟨g, o, ha, hc⟩ := h3 hne
    refine .inr ⟨g, o, ha, fun j hj => ?_⟩
    have hx : xs[j]? = some (xs.getD j prD) := by simp [List.getD, hj]
    exact ⟨hc j _ hx 0 _ rfl, hc j _ hx 1 _ rfl⟩
/-- No name and no value too long. -/
def PrB (fs : List Pr) : Prop := ∀ p ∈ fs, p.n.length ≤ 10000 ∧ p.v.length ≤ 10000
def getL (fs : List Pr) (nm : List UInt8) : List (List UInt8) := (fs.filter fun p => foldB p.n nm).map (·.v)
theorem getL_snoc (fs : List Pr) (nm : List UInt8) (k : Nat) (h : k < fs.length) : getL (fs.take (k + 1)) nm = if foldB (fs.getD k prD).n nm then getL (fs.take k) nm ++ [(fs.getD k prD).v] else getL (fs.take k) nm := by
  have e : fs.take (k + 1) = fs.take k ++ [fs.getD k prD] := by rw [List.take_succ_eq_append_getElem h]; simp [List.getD, h]
  rw [e]
  generalize fs.getD k prD = p
  unfold getL
  rw [List.filter_append, List.map_append]
  cases hb : foldB p.n nm <;> simp [hb]
theorem getL_len (fs : List Pr) (nm : List UInt8) : (getL fs nm).length ≤ fs.length := by
  unfold getL; rw [List.length_map]; exact List.length_filter_le _ _
theorem infoStr : (Tryd.prog.info? 9).map (fun i => (i.zero, i.size, i.bytes)) = some (some (.string ⟨#[]⟩), 1, 16) := by kernel_rfl
set_option maxHeartbeats 2000000 in
theorem refGet_any (v : Value) (fs : List Pr) (nm : List UInt8) (hl : fs.length ≤ 1000) (hb : PrB fs) (hn : nm.length ≤ 10000) (w : World) (hr : RowC 2 prC w v fs) :
    Calls Tryd.prog 16 #[v, Str nm] w fun e w' => ∃ v', e = .returned v' ∧ w'.ownsRow w.heap.size 9 1 v' (getL fs nm).length ((getL fs nm).map Str) ∧ Ext w w' := by
  obtain ⟨ao, cap, hv, hcap, hmax, hcl⟩ := rowP_shape hr
  subst hv
  have HCL := Lib.hid hcl; have HB := Lib.hid hb
  have HIX := Lib.hid (fun g o j h W => index_pair g o fs.length cap j h W)
  have HFD := Lib.hid (fun a ha W => foldR_any a nm ha hn W)
  clear hcl hb hr
  go_enter Tryd.func16, Tryd.ntmps16
  go_wp2
  go_loopw [5, 10] (fun o i wr => ∃ k : Nat, k ≤ fs.length ∧ i = .int .i64 k ∧ Hid (wr.ownsRow w.heap.size 9 1 o (getL (fs.take k) nm).length ((getL (fs.take k) nm).map Str)) ∧ Hid (Ext w wr)) (fun _ i _ => fs.length - (intOf i).toNat)
  case atStart => exact ⟨0, by omega, rfl, Lib.hid (by simpa [getL] using World.ownsRow_nil _ _ _ _), Lib.hid (ext_refl w)⟩
  case round =>
    obtain ⟨k, hk, rfl, HO, HX⟩ := hrel
    by_cases h3 : k < fs.length
    · rcases HCL.out with h | ⟨g, o, rfl, hcc⟩
      · subst h; simp at h3
      obtain ⟨a0, a1⟩ := hcc k h3
      replace a0 := ext_cell HX.out a0; replace a1 := ext_cell HX.out a1
      have i1 := HIX.out g o k h3
      have HSN := Lib.hid (getL_snoc fs nm k h3)
      have hbb := HB.out (fs.getD k prD) (by simp [List.getD, h3])
      have hgl : (getL (fs.take k) nm).length ≤ 1000 := Nat.le_trans (getL_len _ _) (by simp; omega)
      obtain ⟨po, pcap, hpv, _⟩ := ownz_shape HO.out
      subst hpv
      generalize getL (fs.take k) nm = out at *
      generalize fs.getD k prD = p at *
      generalize o + 2 * k = q at *
      obtain ⟨pn, pv⟩ := p
      simp only at a0 a1 HSN hbb
      have HFW := Lib.hid (fun W => HFD.out pn hbb.1 W)
      clear hcc HB hbb
      go_wp2_with fail
      obtain ⟨W5, hW5⟩ : ∃ W5, wr.alloc (.cells #[Str pn, Str pv] 44) = W5 := ⟨_, rfl⟩
      have hx5 : Ext wr W5 := by rw [← hW5]; exact Below.alloc (Below.refl _ _) (Nat.le_refl _) _
      have n1 : W5.heap[wr.heap.size]? = some (.cells #[Str pn, Str pv] 44 (0, 0)) := by rw [← hW5]; exact Array.getElem?_push_size
      rw [hW5]
      clear hW5
      refine (HFW.out W5).mono ?_
      rintro e W6 ⟨he, hx6⟩
      subst he
      have n6 := ext_at hx6 n1
      obtain ⟨d0, d1⟩ := cells2 n6
      have HX6 := Lib.hid (ext_trans HX.out (ext_trans hx5 hx6))
      have HO6 := Lib.hid (ownz_ext HO.out (ext_trans hx5 hx6))
      have hsz : w.heap.size ≤ W6.heap.size := HX6.out.size
      generalize wr.heap.size = gg at *
      clear hx5 hx6 n1 n6 HO HX HFW
      cases hf : foldB pn nm with
      | true =>
        rw [hf] at HSN
        simp only [if_true] at HSN
        have HS2 := Lib.hid HSN.out
        clear HSN
        go_wp2_with (at_builtin; refine wpList_pushz w.heap.size rfl _ _ 45 9 rfl Tryd.underlying45 infoStr rfl (by omega) (by omega) HO6.out [Str pv] rfl (by simp [Str, Value.oneCell']) (by omega) hsz rfl rfl ?_; rintro _ w1 ⟨g1, cap1, rfl⟩ hown1 hgr1; have HO1 := Lib.hid hown1; have HX1 := Lib.hid (ext_pushz HX6.out HO6.out hgr1); clear hown1 hgr1)
        go_roundw
        case rel => exact ⟨k + 1, by omega, by go_num, Lib.hid (by rw [HS2.out, List.length_append, List.map_append]; simpa using HO1.out), HX1⟩
        case measure => simp [intOf] <;> omega
      | false =>
        rw [hf] at HSN
        have HS2 := Lib.hid (show getL (fs.take (k + 1)) nm = out by rw [HSN.out]; simp)
        clear HSN
        go_wp2
        go_roundw
        case rel => exact ⟨k + 1, by omega, by go_num, Lib.hid (by rw [HS2.out]; exact HO6.out), HX6⟩
        case measure => simp [intOf] <;> omega
    · obtain rfl : k = fs.length := by omega
      have hO := HO.out
      rw [List.take_length] at hO
      have HO2 := Lib.hid hO
      clear hO HO
      go_wp2
      go_ret
      exact ⟨_, rfl, HO2.out, HX.out⟩
end Go.Proofs.YtmflnffjhfejhaaDoor
