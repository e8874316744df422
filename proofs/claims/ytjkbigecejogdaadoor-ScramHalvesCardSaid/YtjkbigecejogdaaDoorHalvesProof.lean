/-
  ScramHalves, its tied card: a first is its head and its bare; a final is what stands ahead of its proof, and the proof
  The frame was turned from one that the kit's program (proof-skeleton) wrote, and from a worked proof over a pinned table.
-/
import Derived.Test.YtjkbigecejogdaaDoorRows
import Derived.Test.YtjkbigecejogdaaDoorCards
import Derived.Test.YtjkbigecejogdaaDoorTie
import Derived.Test.YtjkbigecejogdaaDoorOpd
import Derived.Test.YtjkbigecejogdaaDoorLbh
import Derived.WalkKit
import Derived.ProofKit
import Derived.OpenShut
import Derived.ShutString
import Derived.LaidMore
import Derived.Lay
import Derived.SevenTiedAt
import Derived.Stop.Joined
import Derived.Shelf.Vars
namespace Go.Proofs.YtjkbigecejogdaaDoor.scramHalves
open Go.ChangeShapes Go.WideShapes Go.ChangeAt Go.RowKit
open Go.ChangeMaps (open_string shut_string)
set_option linter.unusedVariables false

theorem own : ownKnob Tryd.prog.godebug = none := by kernel_rfl

theorem laidOut : laidOutB Tryd.prog = true := by kernel_rfl
theorem walk (a0 : Value) (m0 : Ms) (w : World) (h0w : MsgIs w a0 m0) (hLb : LdS w) :
    Calls Tryd.prog 3 #[a0] w fun e w' => e = .returned (.bool true) ∧ Below w.heap.size w w' := by
  exact halves_card w a0 m0 h0w hLb

set_option maxRecDepth 100000 in
theorem lifted (os : Os) (started : os.Started) (H : Type) (enc : TypeId × Value → H) :
    ReturnsInHanded {} Tryd.checked os 3 .any (fun w args => (Rows.scramHalvesSpec.pre enc Tryd.prog Tryd.f3 Rows.scramHalvesRow.domain false w args ∧ laidMetH Tryd.prog Rows.scramHalvesRow.laid w) ∧ sizedMet enc Tryd.prog Tryd.f3 (OpenSpec.ofChange Rows.scramHalvesSpec) false w args)
      (Rows.scramHalvesSpec.post enc Tryd.prog Tryd.f3 false true false false) := by
  refine returnsInHanded_of_calls own started (by kernel_rfl)
    (ChangeSpec.witness_shaped (enc := enc) (C := Tryd.checked) (os := os) (X := fun w _ => laidMetH Tryd.prog Rows.scramHalvesRow.laid w) false (World.laidAll Tryd.prog os Rows.scramHalvesRow.laid) #[.agg #[.int .i64 0, .string ByteArray.empty, .string ByteArray.empty, .string ByteArray.empty, .string ByteArray.empty, .slice none 0 0, .slice none 0 0, .int .i64 0, .string ByteArray.empty, .slice none 0 0, .string ByteArray.empty]] 8 (World.laidAll_os _ _ _)
      (World.shaped_of_ZipB (by kernel_rfl) (by kernel_rfl)) (by kernel_rfl) (by kernel_rfl) (by kernel_rfl)
      (by rw [MakeChecks.laidMetH_plain _ _ _ (by kernel_rfl)]; exact laidMet_laidAll _ (by kernel_rfl) (by kernel_rfl))) ?_
  intro w tape i _ hsh _ hok hpre _
  obtain ⟨_, _, _, fn', hfn', _, _, _, _, hval0⟩ := hok
  obtain rfl : fn' = Tryd.f3 := Option.some.inj (hfn'.symm.trans Tryd.func3)
  obtain ⟨⟨⟨ds, gs, before, hW0, hc⟩, hL⟩, hz⟩ := hpre
  have hW := DataW.Whole.of_heap (w' := w.forCall tape i) (by rfl) hW0
  rw [MakeChecks.laidMetH_plain _ _ _ (by kernel_rfl)] at hL
  have hLb : LdS (w.forCall tape i) := halves_lb hsh hL
  suffices h : Calls Tryd.prog 3 i.args (w.forCall tape i) fun e W' => ∃ v, e = .returned v ∧ Rows.scramHalvesSpec.post enc Tryd.prog Tryd.f3 false true false false (w.forCall tape i) i.args v W' by
    refine h.mono fun e W' ⟨v, he, hp⟩ => ?_
    subst he
    exact ChangeSpec.post_blind hp
  clear hL
  generalize i.args = args at *
  generalize w.forCall tape i = W at *
  have hval : ∀ (j : Nat) t v, Tryd.f3.params[j]? = some t → args[j]? = some v → Value.okWide Tryd.prog W .any _ t v := hval0
  have hW' := hW
  obtain ⟨p, q, hA0, hV, rfl, hfz, hnd⟩ := hW
  have hA : DataW.TrodAll enc Tryd.prog W 0 (fun _ => true) true Tryd.f3.params.toList args.toList ds p := hA0
  rw [Tryd.params3] at hA hval
  obtain ⟨v0, vs0, d0, ds0, p0, q0, hargs, rfl, rfl, h0, r0⟩ := trodAll_cons hA
  obtain ⟨rfl, rfl, rfl⟩ := trodAll_nil r0
  obtain rfl : args = #[v0] := by cases args; simp_all
  obtain ⟨rfl, rfl⟩ := trodVars_none hV
  have kk0 := h0
  have lt0 : ∀ x ∈ p0, x.block < W.heap.size := by obtain ⟨m, hm⟩ := kk0; exact DataW.trod_lt m _ _ _ hm
  obtain ⟨m0, rw0⟩ := open_msg (hval 0 25 v0 rfl rfl) h0
  simp only [List.append_nil] at hW'
  refine (walk v0 m0 W rw0 hLb).mono fun e W' ⟨he, bel⟩ => ?_
  subst he
  exact ⟨_, rfl, _, _, _, [], _, [], hW', (trodAll_cons_mk (shut_bool Tryd.underlying4 _) trodAll_mk0), (trodAll_cons_mk (Below.trod laidOut (by kernel_rfl) (of_decide_eq_true (by kernel_rfl)) kk0 bel lt0) trodAll_mk0), rfl, bel.frame _, fun h => by cases h⟩

theorem over : Rows.ScramHalvesSaid :=
  OpenClaim.holds_of_wide 3 Tryd.f3 rfl rfl rfl rfl rfl rfl rfl ⟨rfl, rfl, rfl, rfl, rfl⟩ rfl rfl rfl rfl rfl (by kernel_rfl) Tryd.func3 (by kernel_rfl)
    (of_decide_eq_true (by kernel_rfl)) (by unfold Func.isWrapper; first | (rw [if_pos (by decide +kernel)]; kernel_rfl) | (rw [if_neg (by decide +kernel)]; exact ⟨rfl, rfl⟩))
    (fun os started H enc _ => lifted os started H enc)

theorem proved : Rows.ScramHalvesCardSaid :=
  Claim7.holds_tied_plain_at .later [] [.data, .data, .data, .data] true (true, "355026d0f8d3c0bd0bbf75f47ed63ffde770c8569d1fc42f844b8bcff18a7267") false over (fun _ h => by cases h) (by kernel_rfl) (fun _ h => by cases h) scramHalves_row_tie rfl ⟨rfl, rfl⟩ (by kernel_rfl) rfl
    (fun f fn hf hfn => by
      obtain rfl : f = 3 := Option.some.inj ((show Tryd.prog.funcNamed "ostiary/ostiarylaw07.ScramHalves" = some 3 by kernel_rfl).symm.trans hf) |>.symm
      obtain rfl : fn = Tryd.f3 := (Option.some.inj (Tryd.func3.symm.trans hfn)).symm
      exact ⟨by kernel_rfl, fun j t ht => by
        rw [Tryd.params3] at ht
        have hmem : t ∈ [25] := by simpa using Array.mem_of_getElem? ht
        have hall : ([25].all fun u => !Tryd.prog.wantsStandIn u) = true := by kernel_rfl
        exact (show Tryd.prog.wantsStandIn t = false by simpa using List.all_eq_true.1 hall t hmem)⟩)
    (by kernel_rfl)
end Go.Proofs.YtjkbigecejogdaaDoor.scramHalves
