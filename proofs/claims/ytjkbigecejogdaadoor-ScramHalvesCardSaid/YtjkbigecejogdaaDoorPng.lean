/-
  scram.ParseFinal at every text.
-/
import Derived.BigGuardPart
import Derived.Deep.CutBlock
import Derived.Deep.DeepCutAuto
import Derived.Test.YtjkbigecejogdaaDoorRows
import Derived.Deep.LoopGhost
import Derived.Test.YtjkbigecejogdaaDoorPst
namespace Go.Proofs.YtjkbigecejogdaaDoor
open Go.RowKit
set_option maxRecDepth 100000
attribute [local go_sem] Oper.semAt_some
set_option linter.unusedVariables false
set_option linter.unusedSimpArgs false
theorem ended_gen (bm M : Nat) (bad no : Bool) (ps : List (List UInt8)) (w : World) (hg : bad = true ∨ ps = []) (h : Msg bm M bad ps w) :
    Calls Tryd.prog 36 #[.pointer (some ⟨bm, 0, none⟩), .bool no] w fun e w' => e = .returned (.int .i64 (if bad then 4 else if no then 12 else 0)) ∧ w' = w := by
  by_cases hp : ps = []
  · subst hp
    exact ended_any bm M bad no w h
  · rcases hg with rfl | hg
    · obtain ⟨v, hb, ao, cap, hv, hcap, hmax, hcc⟩ := h
      subst hv
      obtain ⟨c0, c1, cf⟩ := cells2m hb
      clear hb cf hcc
      go_enter Tryd.func36, Tryd.ntmps36
      go_wp2
      go_ret
      exact ⟨rfl, rfl⟩
    · exact absurd hg hp
/-- All ahead of the last one. -/
def allB (ps : List (List UInt8)) : List (List UInt8) := ps.take (ps.length - 1)
def lastB (ps : List (List UInt8)) : List (List UInt8) := ps.drop (ps.length - 1)
set_option maxHeartbeats 1000000 in
theorem rest1_any (vB : List UInt8 → Bool) (bm M : Nat) (bad : Bool) (ps : List (List UInt8)) (hsm : ps.length ≤ 100000) (w : World) (h : Msg bm M bad ps w) (hM : M ≤ w.heap.size) (h2 : ∀ p ∈ allB ps, 1 ≤ p.length)
    (hF : FormsAt w) (hfb : 1 < M) (hfm : 1 ≠ bm) (hv : ∀ p ∈ allB ps, ∀ W, FormsAt W → Calls Tryd.prog 32 #[Str (p.drop 2)] W fun e w' => e = .returned (.bool (vB p)) ∧ Ext W w') :
    Calls Tryd.prog 35 #[.pointer (some ⟨bm, 0, none⟩), .int .i64 1] w fun e w' => ∃ v, e = .returned v ∧ OwnP w.heap.size v (allB ps) w' ∧ Msg bm M (bad || !((allB ps).all (okA vB))) (lastB ps) w' ∧ Bz bm w w' := by
  by_cases hp : ps = []
  · subst hp
    have HM := Lib.hid h
    obtain ⟨v, hb, ao, cap, hv', hcap, hmax, hcc⟩ := h
    subst hv'
    obtain ⟨c0, c1, cf⟩ := cells2m hb
    clear hb cf hcc
    go_enter Tryd.func35, Tryd.ntmps35
    go_wp2
    go_loop [5] (fun v => v = .slice none 0 0) (fun _ => 0)
    case atStart => rfl
    case round =>
      subst hrel
      go_wp2
      go_ret
      exact ⟨_, rfl, World.ownsRow_nil _ _ _ _, by simpa [allB, lastB] using HM.out, Bz.of_ext (ext_refl _)⟩
  · have hl : (lastB ps).length = 1 := by unfold lastB; rw [List.length_drop]; have := List.length_pos_iff.2 hp; omega
    have he : allB ps ++ lastB ps = ps := List.take_append_drop _ _
    have := rest_any vB bm M bad (allB ps) (lastB ps) (by rw [← List.length_append, he]; exact hsm) w (by rw [he]; exact h) hM h2 hF hfb hfm hv
    rw [hl] at this
    exact this
structure N1 where
  p0 : List (List UInt8)
  hd : List UInt8
  p1 : List (List UInt8)
  no : List UInt8
  p2 : List (List UInt8)
  pf : List UInt8
def n1C (s : List UInt8) : N1 :=
  ⟨attsP s, nxT [99] (attsP s), nxR [99] (attsP s), nxT [114] (nxR [99] (attsP s)), nxR [114] (nxR [99] (attsP s)), nxT [112] (lastB (nxR [114] (nxR [99] (attsP s))))⟩
def notP (xs : List (List UInt8)) : Bool := xs.all fun p => p.take 1 != [112]
def nBad (b0 : Bool) (c : N1) : Bool := ((((((((b0 || !hasF [99] c.p0) || !byB c.hd 0 4096) || !(headF (decF c.hd).1).1) || !hasF [114] c.p1) || !nonF c.no) || !(allB c.p2).all okX) || !notP (allB c.p2)) || !hasF [112] (lastB c.p2)) || !byB c.pf 32 32
def nDen (c : N1) : Bool := (headF (decF c.hd).1).2 || denB (allB c.p2)
/-- What ParseFinal reads. -/
def pFinal (s : List UInt8) : Ms × Int :=
  if 4096 < s.length then (Ms0, 3) else if nBad (badR s) (n1C s) = true then (Ms0, 4) else if nDen (n1C s) = true then (Ms0, 12)
  else (⟨3, [], [], [], (n1C s).no, (allB (n1C s).p2).map atPr, [], 0, (decF (n1C s).hd).1, (decF (n1C s).pf).1, []⟩, 0)
def FinR (B : Nat) (m : Ms) (c : Int) (w' : World) (e : Ending) : Prop :=
  ∃ pv ev, e = .returned (.tuple #[.agg #[Str m.head, Str m.nonce, ev, pv], .int .i64 c]) ∧ SlB w' pv m.proof ∧ RowC 2 prC w' ev m.ext ∧ (∀ k, sblk pv (m.proof.map Byt).length k → B ≤ k) ∧ ∀ k, rblk ev m.ext.length k → B ≤ k
theorem finR0 (B : Nat) (c : Int) (w' : World) : FinR B Ms0 c w' (.returned (.tuple #[.agg #[Str [], Str [], .slice none 0 0, .slice none 0 0], .int .i64 c])) := ⟨_, _, rfl, sl_nil _, rowP_nil _, nil_sblk, nil_rblk⟩
end Go.Proofs.YtjkbigecejogdaaDoor
