/-
  ref23.Line: an event's line.
-/
import Derived.Test.YtpndahmlbjhdfaaDoorRows
import Derived.Test.YtpndahmlbjhdfaaDoorEvl
import Derived.Test.YtpndahmlbjhdfaaDoorRdc
import Derived.Test.YtpndahmlbjhdfaaDoorChr
namespace Go.Proofs.YtpndahmlbjhdfaaDoor
open Go.RowKit
set_option maxRecDepth 100000
attribute [local go_sem] Oper.semAt_some
set_option linter.unusedVariables false
set_option linter.unusedSimpArgs false
set_option maxHeartbeats 1000000 in
theorem rline_any (e : Ev) (he : e.ok) (w : World) :
    Calls Tryd.prog 29 #[.agg (evC e)] w fun r w' => r = .returned (if e.right then .tuple #[Str e.line, .int .i64 0] else .tuple #[Str [], .int .i64 4]) ∧ Ext w w' := by
  have hLN := Lib.hid (fun hr : e.right = true => line_len e he hr)
  have HLI := Lib.hid (show e.line = Lib.decDigits e.n ++ 32 :: (Lib.decDigits e.tk ++ 32 :: (e.kind ++ 32 :: (Lib.decDigits e.conn.toNat ++ 32 :: hexO e.text))) by simp [Ev.line, Ev.parts, List.intercalate, List.intersperse])
  obtain ⟨n, tk, kind, conn, text⟩ := e
  obtain ⟨h1, h2, h3, h4, h5, h6⟩ := he
  simp only at h1 h2 h3 h4 h5 h6 HLI
  have HX0 := Lib.hid (show Ext w (w.alloc (.cells (evC ⟨n, tk, kind, conn, text⟩) 32)) from Below.alloc (Below.refl _ w) (Nat.le_refl _) _)
  simp only [evC] at HX0 ⊢
  show Calls Tryd.prog 29 #[.agg #[.int .u64 (n : Int), .int .u64 (tk : Int), Str kind, .int .i64 conn, Str text]] w _
  by_cases hr : (Ev.mk n tk kind conn text).right = true
  · have hr' := hr
    simp only [Ev.right, Bool.and_eq_true, decide_eq_true_eq] at hr'
    obtain ⟨⟨⟨⟨⟨⟨r1, r2⟩, r3⟩, r4⟩, r5⟩, r6⟩, r7⟩ := hr'
    have HLL := Lib.hid (hLN.out hr)
    rw [if_pos hr]
    clear hLN hr
    generalize (Ev.mk n tk kind conn text).line = ln at *
    go_enter Tryd.func29, Tryd.ntmps29
    go_wp2_with fail
    refine (plainR_any kind (by omega) _).mono ?_
    rintro e W2 ⟨rfl, rfl⟩
    rw [r1]
    obtain ⟨W1, hW1⟩ : ∃ W1, w.alloc (.cells #[.int .u64 (n : Int), .int .u64 (tk : Int), Str kind, .int .i64 conn, Str text] 32) = W1 := ⟨_, rfl⟩
    have HC1 := Lib.hid (show W1.heap[w.heap.size]? = some (.cells #[.int .u64 (n : Int), .int .u64 (tk : Int), Str kind, .int .i64 conn, Str text] 32 (0, 0)) by rw [← hW1]; exact Array.getElem?_push_size)
    rw [hW1] at HX0 ⊢
    clear hW1
    obtain ⟨cn, rfl⟩ : ∃ cn : Nat, conn = (cn : Int) := ⟨conn.toNat, by omega⟩
    have hcn : (cn : Int).toNat = cn := by simp
    rw [hcn] at HLI
    have HN := Lib.hid (rdec_any n (by omega))
    have HTK := Lib.hid (rdec_any tk (by omega))
    have HCN := Lib.hid (rdec_any cn (by omega))
    have ln1 := dec_len n (by omega)
    have ln2 := dec_len tk (by omega)
    have ln3 := dec_len cn (by omega)
    have HO := Lib.hid (show hexO text = if text = [] then [45] else hexL text from rfl)
    generalize Lib.decDigits n = dn at *
    generalize Lib.decDigits tk = dt at *
    generalize Lib.decDigits cn = dc at *
    generalize hexO text = ho at *
    obtain ⟨d0, d1, d2, d3, d4⟩ := cells5 HC1.out
    go_wp2_with fail
    clear d0 d1 d2 d3 d4 hcn
    -- inv {'ops': [('fa', 40, 1, '.pointer (some ⟨w.heap.size, 0, none⟩)', '.pointer (some ⟨w.heap.size, 0, none⟩)'), ('lf', 41, 0, '.int .u64 (n : Int)', 'obtain ⟨d0, d1, d2, d3, d4⟩ := cells5 H1'), ('call', 42, [1], 'HN.out _', 'Str dn'), ('op', 43, [2], 'Str (dn ++ [32])'), ('fa', 44, 1, '.pointer (some ⟨w.heap.size, 0, none⟩)', '.pointer (some ⟨w.heap.size, 1, none⟩)'), ('lf', 45, 4, '.int .u64 (tk : Int)', 'obtain ⟨d0, d1, d2, d3, d4⟩ := cells5 H1'), ('call', 46, [5], 'HTK.out _', 'Str dt'), ('op', 47, [3, 6], 'Str (dn ++ 32 :: dt)'), ('op', 48, [7], 'Str (dn ++ 32 :: (dt ++ [32]))'), ('fa', 49, 1, '.pointer (some ⟨w.heap.size, 0, none⟩)', '.pointer (some ⟨w.heap.size, 2, none⟩)'), ('lf', 50, 9, 'Str kind', 'obtain ⟨d0, d1, d2, d3, d4⟩ := cells5 H1'), ('op', 51, [8, 10], 'Str (dn ++ 32 :: (dt ++ 32 :: kind))'), ('op', 52, [11], 'Str (dn ++ 32 :: (dt ++ 32 :: (kind ++ [32])))'), ('fa', 53, 1, '.pointer (some ⟨w.heap.size, 0, none⟩)', '.pointer (some ⟨w.heap.size, 3, none⟩)'), ('lf', 54, 13, '.int .i64 (cn : Int)', 'obtain ⟨d0, d1, d2, d3, d4⟩ := cells5 H1'), ('op', 55, [14], '.int .u64 (cn : Int)'), ('call', 56, [15], 'HCN.out _', 'Str dc'), ('op', 57, [12, 16], 'Str (dn ++ 32 :: (dt ++ 32 :: (kind ++ 32 :: dc)))'), ('op', 58, [17], 'Str (dn ++ 32 :: (dt ++ 32 :: (kind ++ 32 :: (dc ++ [32]))))'), ('mw', 4, 18, 'Str (dn ++ 32 :: (dt ++ 32 :: (kind ++ 32 :: (dc ++ [32]))))')], 'W': [('H1', "w'.heap[w.heap.size]? = some (.cells #[.int .u64 (n : Int), .int .u64 (tk : Int), Str kind, .int .i64 (cn : Int), Str text] 32 (0, 0))", 'HC1.out'), ('E1', "Ext w w'", 'Below.drew HX0.out')]}
    refine wp_region_any (by kernel_rfl) ?_
    change wpAny _ _ _ _ _ _ _ (World.drew _)
    refine wpAny_inv (n := 20) [40, 41, 42, 43, 44, 45, 46, 47, 48, 49, 50, 51, 52, 53, 54, 55, 56, 57, 58, 4] (fun u L w' =>
        (L 0 = true → u 40 = .pointer (some ⟨w.heap.size, 0, none⟩)) ∧
        (L 1 = true → u 41 = .int .u64 (n : Int)) ∧
        (L 2 = true → u 42 = Str dn) ∧
        (L 3 = true → u 43 = Str (dn ++ [32])) ∧
        (L 4 = true → u 44 = .pointer (some ⟨w.heap.size, 1, none⟩)) ∧
        (L 5 = true → u 45 = .int .u64 (tk : Int)) ∧
        (L 6 = true → u 46 = Str dt) ∧
        (L 7 = true → u 47 = Str (dn ++ 32 :: dt)) ∧
        (L 8 = true → u 48 = Str (dn ++ 32 :: (dt ++ [32]))) ∧
        (L 9 = true → u 49 = .pointer (some ⟨w.heap.size, 2, none⟩)) ∧
        (L 10 = true → u 50 = Str kind) ∧
        (L 11 = true → u 51 = Str (dn ++ 32 :: (dt ++ 32 :: kind))) ∧
        (L 12 = true → u 52 = Str (dn ++ 32 :: (dt ++ 32 :: (kind ++ [32])))) ∧
        (L 13 = true → u 53 = .pointer (some ⟨w.heap.size, 3, none⟩)) ∧
        (L 14 = true → u 54 = .int .i64 (cn : Int)) ∧
        (L 15 = true → u 55 = .int .u64 (cn : Int)) ∧
        (L 16 = true → u 56 = Str dc) ∧
        (L 17 = true → u 57 = Str (dn ++ 32 :: (dt ++ 32 :: (kind ++ 32 :: dc)))) ∧
        (L 18 = true → u 58 = Str (dn ++ 32 :: (dt ++ 32 :: (kind ++ 32 :: (dc ++ [32]))))) ∧
        (L 19 = true → u 4 = Str (dn ++ 32 :: (dt ++ 32 :: (kind ++ 32 :: (dc ++ [32]))))) ∧
        (w'.heap[w.heap.size]? = some (.cells #[.int .u64 (n : Int), .int .u64 (tk : Int), Str kind, .int .i64 (cn : Int), Str text] 32 (0, 0))) ∧
        (Ext w w'))
      (by rfl) (by kernel_rfl) (by kernel_rfl) (by rfl) ?_ ?_ ?_
    · exact ⟨(fun h => by cases h), (fun h => by cases h), (fun h => by cases h), (fun h => by cases h), (fun h => by cases h), (fun h => by cases h), (fun h => by cases h), (fun h => by cases h), (fun h => by cases h), (fun h => by cases h), (fun h => by cases h), (fun h => by cases h), (fun h => by cases h), (fun h => by cases h), (fun h => by cases h), (fun h => by cases h), (fun h => by cases h), (fun h => by cases h), (fun h => by cases h), (fun h => by cases h), HC1.out, Below.drew HX0.out⟩
    · refine ⟨⟨⟨⟨⟨⟨⟨⟨⟨⟨⟨⟨⟨⟨⟨⟨⟨⟨⟨⟨trivial, ?_⟩, ?_⟩, ?_⟩, ?_⟩, ?_⟩, ?_⟩, ?_⟩, ?_⟩, ?_⟩, ?_⟩, ?_⟩, ?_⟩, ?_⟩, ?_⟩, ?_⟩, ?_⟩, ?_⟩, ?_⟩, ?_⟩, ?_⟩
      · refine stepOk_some (i := 0) (by rfl) (by rfl) ?_
        rintro u L T w' hT hu hL hp hcl ⟨C0, C1, C2, C3, C4, C5, C6, C7, C8, C9, C10, C11, C12, C13, C14, C15, C16, C17, C18, C19, H1, E1⟩ K hK
        have e1 : u 1 = .pointer (some ⟨w.heap.size, 0, none⟩) := hu 1 (by decide)
        go_simp
        refine hK _ _ ?_
        exact ⟨fun _ => rfl, fun h => C1 (by simpa using h), fun h => C2 (by simpa using h), fun h => C3 (by simpa using h), fun h => C4 (by simpa using h), fun h => C5 (by simpa using h), fun h => C6 (by simpa using h), fun h => C7 (by simpa using h), fun h => C8 (by simpa using h), fun h => C9 (by simpa using h), fun h => C10 (by simpa using h), fun h => C11 (by simpa using h), fun h => C12 (by simpa using h), fun h => C13 (by simpa using h), fun h => C14 (by simpa using h), fun h => C15 (by simpa using h), fun h => C16 (by simpa using h), fun h => C17 (by simpa using h), fun h => C18 (by simpa using h), fun h => C19 (by simpa using h), H1, E1⟩
      · refine stepOk_some (i := 1) (by rfl) (by rfl) ?_
        rintro u L T w' hT hu hL hp hcl ⟨C0, C1, C2, C3, C4, C5, C6, C7, C8, C9, C10, C11, C12, C13, C14, C15, C16, C17, C18, C19, H1, E1⟩ K hK
        have e0 := C0 (hp.of 0 (by kernel_rfl))
        obtain ⟨d0, d1, d2, d3, d4⟩ := cells5 H1
        go_simp
        refine hK _ _ ?_
        exact ⟨fun h => C0 (by simpa using h), fun _ => rfl, fun h => C2 (by simpa using h), fun h => C3 (by simpa using h), fun h => C4 (by simpa using h), fun h => C5 (by simpa using h), fun h => C6 (by simpa using h), fun h => C7 (by simpa using h), fun h => C8 (by simpa using h), fun h => C9 (by simpa using h), fun h => C10 (by simpa using h), fun h => C11 (by simpa using h), fun h => C12 (by simpa using h), fun h => C13 (by simpa using h), fun h => C14 (by simpa using h), fun h => C15 (by simpa using h), fun h => C16 (by simpa using h), fun h => C17 (by simpa using h), fun h => C18 (by simpa using h), fun h => C19 (by simpa using h), H1, E1⟩
      · refine stepOk_some (i := 2) (by rfl) (by rfl) ?_
        rintro u L T w' hT hu hL hp hcl ⟨C0, C1, C2, C3, C4, C5, C6, C7, C8, C9, C10, C11, C12, C13, C14, C15, C16, C17, C18, C19, H1, E1⟩ K hK
        have e1 := C1 (hp.of 1 (by kernel_rfl))
        go_simp
        refine (HN.out _).mono ?_
        rintro e w1 ⟨he, hx1⟩
        subst he
        refine hK _ _ ?_
        exact ⟨fun h => C0 (by simpa using h), fun h => C1 (by simpa using h), fun _ => rfl, fun h => C3 (by simpa using h), fun h => C4 (by simpa using h), fun h => C5 (by simpa using h), fun h => C6 (by simpa using h), fun h => C7 (by simpa using h), fun h => C8 (by simpa using h), fun h => C9 (by simpa using h), fun h => C10 (by simpa using h), fun h => C11 (by simpa using h), fun h => C12 (by simpa using h), fun h => C13 (by simpa using h), fun h => C14 (by simpa using h), fun h => C15 (by simpa using h), fun h => C16 (by simpa using h), fun h => C17 (by simpa using h), fun h => C18 (by simpa using h), fun h => C19 (by simpa using h), ext_at hx1 (H1), ext_trans (E1) hx1⟩
      · refine stepOk_some (i := 3) (by rfl) (by rfl) ?_
        rintro u L T w' hT hu hL hp hcl ⟨C0, C1, C2, C3, C4, C5, C6, C7, C8, C9, C10, C11, C12, C13, C14, C15, C16, C17, C18, C19, H1, E1⟩ K hK
        have e2 := C2 (hp.of 2 (by kernel_rfl))
        go_simp
        try go_bits
        try (rw [if_neg (by omega)]; go_simp)
        try (rw [if_pos (by omega)]; go_simp)
        refine hK _ _ ?_
        exact ⟨fun h => C0 (by simpa using h), fun h => C1 (by simpa using h), fun h => C2 (by simpa using h), fun _ => rfl, fun h => C4 (by simpa using h), fun h => C5 (by simpa using h), fun h => C6 (by simpa using h), fun h => C7 (by simpa using h), fun h => C8 (by simpa using h), fun h => C9 (by simpa using h), fun h => C10 (by simpa using h), fun h => C11 (by simpa using h), fun h => C12 (by simpa using h), fun h => C13 (by simpa using h), fun h => C14 (by simpa using h), fun h => C15 (by simpa using h), fun h => C16 (by simpa using h), fun h => C17 (by simpa using h), fun h => C18 (by simpa using h), fun h => C19 (by simpa using h), H1, E1⟩
      · refine stepOk_some (i := 4) (by rfl) (by rfl) ?_
        rintro u L T w' hT hu hL hp hcl ⟨C0, C1, C2, C3, C4, C5, C6, C7, C8, C9, C10, C11, C12, C13, C14, C15, C16, C17, C18, C19, H1, E1⟩ K hK
        have e1 : u 1 = .pointer (some ⟨w.heap.size, 0, none⟩) := hu 1 (by decide)
        go_simp
        refine hK _ _ ?_
        exact ⟨fun h => C0 (by simpa using h), fun h => C1 (by simpa using h), fun h => C2 (by simpa using h), fun h => C3 (by simpa using h), fun _ => rfl, fun h => C5 (by simpa using h), fun h => C6 (by simpa using h), fun h => C7 (by simpa using h), fun h => C8 (by simpa using h), fun h => C9 (by simpa using h), fun h => C10 (by simpa using h), fun h => C11 (by simpa using h), fun h => C12 (by simpa using h), fun h => C13 (by simpa using h), fun h => C14 (by simpa using h), fun h => C15 (by simpa using h), fun h => C16 (by simpa using h), fun h => C17 (by simpa using h), fun h => C18 (by simpa using h), fun h => C19 (by simpa using h), H1, E1⟩
      · refine stepOk_some (i := 5) (by rfl) (by rfl) ?_
        rintro u L T w' hT hu hL hp hcl ⟨C0, C1, C2, C3, C4, C5, C6, C7, C8, C9, C10, C11, C12, C13, C14, C15, C16, C17, C18, C19, H1, E1⟩ K hK
        have e4 := C4 (hp.of 4 (by kernel_rfl))
        obtain ⟨d0, d1, d2, d3, d4⟩ := cells5 H1
        go_simp
        refine hK _ _ ?_
        exact ⟨fun h => C0 (by simpa using h), fun h => C1 (by simpa using h), fun h => C2 (by simpa using h), fun h => C3 (by simpa using h), fun h => C4 (by simpa using h), fun _ => rfl, fun h => C6 (by simpa using h), fun h => C7 (by simpa using h), fun h => C8 (by simpa using h), fun h => C9 (by simpa using h), fun h => C10 (by simpa using h), fun h => C11 (by simpa using h), fun h => C12 (by simpa using h), fun h => C13 (by simpa using h), fun h => C14 (by simpa using h), fun h => C15 (by simpa using h), fun h => C16 (by simpa using h), fun h => C17 (by simpa using h), fun h => C18 (by simpa using h), fun h => C19 (by simpa using h), H1, E1⟩
      · refine stepOk_some (i := 6) (by rfl) (by rfl) ?_
        rintro u L T w' hT hu hL hp hcl ⟨C0, C1, C2, C3, C4, C5, C6, C7, C8, C9, C10, C11, C12, C13, C14, C15, C16, C17, C18, C19, H1, E1⟩ K hK
        have e5 := C5 (hp.of 5 (by kernel_rfl))
        go_simp
        refine (HTK.out _).mono ?_
        rintro e w1 ⟨he, hx1⟩
        subst he
        refine hK _ _ ?_
        exact ⟨fun h => C0 (by simpa using h), fun h => C1 (by simpa using h), fun h => C2 (by simpa using h), fun h => C3 (by simpa using h), fun h => C4 (by simpa using h), fun h => C5 (by simpa using h), fun _ => rfl, fun h => C7 (by simpa using h), fun h => C8 (by simpa using h), fun h => C9 (by simpa using h), fun h => C10 (by simpa using h), fun h => C11 (by simpa using h), fun h => C12 (by simpa using h), fun h => C13 (by simpa using h), fun h => C14 (by simpa using h), fun h => C15 (by simpa using h), fun h => C16 (by simpa using h), fun h => C17 (by simpa using h), fun h => C18 (by simpa using h), fun h => C19 (by simpa using h), ext_at hx1 (H1), ext_trans (E1) hx1⟩
      · refine stepOk_some (i := 7) (by rfl) (by rfl) ?_
        rintro u L T w' hT hu hL hp hcl ⟨C0, C1, C2, C3, C4, C5, C6, C7, C8, C9, C10, C11, C12, C13, C14, C15, C16, C17, C18, C19, H1, E1⟩ K hK
        have e3 := C3 (hp.of 3 (by kernel_rfl))
        have e6 := C6 (hp.of 6 (by kernel_rfl))
        go_simp
        try go_bits
        try (rw [if_neg (by omega)]; go_simp)
        try (rw [if_pos (by omega)]; go_simp)
        refine hK _ _ ?_
        exact ⟨fun h => C0 (by simpa using h), fun h => C1 (by simpa using h), fun h => C2 (by simpa using h), fun h => C3 (by simpa using h), fun h => C4 (by simpa using h), fun h => C5 (by simpa using h), fun h => C6 (by simpa using h), fun _ => rfl, fun h => C8 (by simpa using h), fun h => C9 (by simpa using h), fun h => C10 (by simpa using h), fun h => C11 (by simpa using h), fun h => C12 (by simpa using h), fun h => C13 (by simpa using h), fun h => C14 (by simpa using h), fun h => C15 (by simpa using h), fun h => C16 (by simpa using h), fun h => C17 (by simpa using h), fun h => C18 (by simpa using h), fun h => C19 (by simpa using h), H1, E1⟩
      · refine stepOk_some (i := 8) (by rfl) (by rfl) ?_
        rintro u L T w' hT hu hL hp hcl ⟨C0, C1, C2, C3, C4, C5, C6, C7, C8, C9, C10, C11, C12, C13, C14, C15, C16, C17, C18, C19, H1, E1⟩ K hK
        have e7 := C7 (hp.of 7 (by kernel_rfl))
        go_simp
        try go_bits
        try (rw [if_neg (by omega)]; go_simp)
        try (rw [if_pos (by omega)]; go_simp)
        refine hK _ _ ?_
        exact ⟨fun h => C0 (by simpa using h), fun h => C1 (by simpa using h), fun h => C2 (by simpa using h), fun h => C3 (by simpa using h), fun h => C4 (by simpa using h), fun h => C5 (by simpa using h), fun h => C6 (by simpa using h), fun h => C7 (by simpa using h), fun _ => rfl, fun h => C9 (by simpa using h), fun h => C10 (by simpa using h), fun h => C11 (by simpa using h), fun h => C12 (by simpa using h), fun h => C13 (by simpa using h), fun h => C14 (by simpa using h), fun h => C15 (by simpa using h), fun h => C16 (by simpa using h), fun h => C17 (by simpa using h), fun h => C18 (by simpa using h), fun h => C19 (by simpa using h), H1, E1⟩
      · refine stepOk_some (i := 9) (by rfl) (by rfl) ?_
        rintro u L T w' hT hu hL hp hcl ⟨C0, C1, C2, C3, C4, C5, C6, C7, C8, C9, C10, C11, C12, C13, C14, C15, C16, C17, C18, C19, H1, E1⟩ K hK
        have e1 : u 1 = .pointer (some ⟨w.heap.size, 0, none⟩) := hu 1 (by decide)
        go_simp
        refine hK _ _ ?_
        exact ⟨fun h => C0 (by simpa using h), fun h => C1 (by simpa using h), fun h => C2 (by simpa using h), fun h => C3 (by simpa using h), fun h => C4 (by simpa using h), fun h => C5 (by simpa using h), fun h => C6 (by simpa using h), fun h => C7 (by simpa using h), fun h => C8 (by simpa using h), fun _ => rfl, fun h => C10 (by simpa using h), fun h => C11 (by simpa using h), fun h => C12 (by simpa using h), fun h => C13 (by simpa using h), fun h => C14 (by simpa using h), fun h => C15 (by simpa using h), fun h => C16 (by simpa using h), fun h => C17 (by simpa using h), fun h => C18 (by simpa using h), fun h => C19 (by simpa using h), H1, E1⟩
      · refine stepOk_some (i := 10) (by rfl) (by rfl) ?_
        rintro u L T w' hT hu hL hp hcl ⟨C0, C1, C2, C3, C4, C5, C6, C7, C8, C9, C10, C11, C12, C13, C14, C15, C16, C17, C18, C19, H1, E1⟩ K hK
        have e9 := C9 (hp.of 9 (by kernel_rfl))
        obtain ⟨d0, d1, d2, d3, d4⟩ := cells5 H1
        go_simp
        refine hK _ _ ?_
        exact ⟨fun h => C0 (by simpa using h), fun h => C1 (by simpa using h), fun h => C2 (by simpa using h), fun h => C3 (by simpa using h), fun h => C4 (by simpa using h), fun h => C5 (by simpa using h), fun h => C6 (by simpa using h), fun h => C7 (by simpa using h), fun h => C8 (by simpa using h), fun h => C9 (by simpa using h), fun _ => rfl, fun h => C11 (by simpa using h), fun h => C12 (by simpa using h), fun h => C13 (by simpa using h), fun h => C14 (by simpa using h), fun h => C15 (by simpa using h), fun h => C16 (by simpa using h), fun h => C17 (by simpa using h), fun h => C18 (by simpa using h), fun h => C19 (by simpa using h), H1, E1⟩
      · refine stepOk_some (i := 11) (by rfl) (by rfl) ?_
        rintro u L T w' hT hu hL hp hcl ⟨C0, C1, C2, C3, C4, C5, C6, C7, C8, C9, C10, C11, C12, C13, C14, C15, C16, C17, C18, C19, H1, E1⟩ K hK
        have e8 := C8 (hp.of 8 (by kernel_rfl))
        have e10 := C10 (hp.of 10 (by kernel_rfl))
        go_simp
        try go_bits
        try (rw [if_neg (by omega)]; go_simp)
        try (rw [if_pos (by omega)]; go_simp)
        refine hK _ _ ?_
        exact ⟨fun h => C0 (by simpa using h), fun h => C1 (by simpa using h), fun h => C2 (by simpa using h), fun h => C3 (by simpa using h), fun h => C4 (by simpa using h), fun h => C5 (by simpa using h), fun h => C6 (by simpa using h), fun h => C7 (by simpa using h), fun h => C8 (by simpa using h), fun h => C9 (by simpa using h), fun h => C10 (by simpa using h), fun _ => rfl, fun h => C12 (by simpa using h), fun h => C13 (by simpa using h), fun h => C14 (by simpa using h), fun h => C15 (by simpa using h), fun h => C16 (by simpa using h), fun h => C17 (by simpa using h), fun h => C18 (by simpa using h), fun h => C19 (by simpa using h), H1, E1⟩
      · refine stepOk_some (i := 12) (by rfl) (by rfl) ?_
        rintro u L T w' hT hu hL hp hcl ⟨C0, C1, C2, C3, C4, C5, C6, C7, C8, C9, C10, C11, C12, C13, C14, C15, C16, C17, C18, C19, H1, E1⟩ K hK
        have e11 := C11 (hp.of 11 (by kernel_rfl))
        go_simp
        try go_bits
        try (rw [if_neg (by omega)]; go_simp)
        try (rw [if_pos (by omega)]; go_simp)
        refine hK _ _ ?_
        exact ⟨fun h => C0 (by simpa using h), fun h => C1 (by simpa using h), fun h => C2 (by simpa using h), fun h => C3 (by simpa using h), fun h => C4 (by simpa using h), fun h => C5 (by simpa using h), fun h => C6 (by simpa using h), fun h => C7 (by simpa using h), fun h => C8 (by simpa using h), fun h => C9 (by simpa using h), fun h => C10 (by simpa using h), fun h => C11 (by simpa using h), fun _ => rfl, fun h => C13 (by simpa using h), fun h => C14 (by simpa using h), fun h => C15 (by simpa using h), fun h => C16 (by simpa using h), fun h => C17 (by simpa using h), fun h => C18 (by simpa using h), fun h => C19 (by simpa using h), H1, E1⟩
      · refine stepOk_some (i := 13) (by rfl) (by rfl) ?_
        rintro u L T w' hT hu hL hp hcl ⟨C0, C1, C2, C3, C4, C5, C6, C7, C8, C9, C10, C11, C12, C13, C14, C15, C16, C17, C18, C19, H1, E1⟩ K hK
        have e1 : u 1 = .pointer (some ⟨w.heap.size, 0, none⟩) := hu 1 (by decide)
        go_simp
        refine hK _ _ ?_
        exact ⟨fun h => C0 (by simpa using h), fun h => C1 (by simpa using h), fun h => C2 (by simpa using h), fun h => C3 (by simpa using h), fun h => C4 (by simpa using h), fun h => C5 (by simpa using h), fun h => C6 (by simpa using h), fun h => C7 (by simpa using h), fun h => C8 (by simpa using h), fun h => C9 (by simpa using h), fun h => C10 (by simpa using h), fun h => C11 (by simpa using h), fun h => C12 (by simpa using h), fun _ => rfl, fun h => C14 (by simpa using h), fun h => C15 (by simpa using h), fun h => C16 (by simpa using h), fun h => C17 (by simpa using h), fun h => C18 (by simpa using h), fun h => C19 (by simpa using h), H1, E1⟩
      · refine stepOk_some (i := 14) (by rfl) (by rfl) ?_
        rintro u L T w' hT hu hL hp hcl ⟨C0, C1, C2, C3, C4, C5, C6, C7, C8, C9, C10, C11, C12, C13, C14, C15, C16, C17, C18, C19, H1, E1⟩ K hK
        have e13 := C13 (hp.of 13 (by kernel_rfl))
        obtain ⟨d0, d1, d2, d3, d4⟩ := cells5 H1
        go_simp
        refine hK _ _ ?_
        exact ⟨fun h => C0 (by simpa using h), fun h => C1 (by simpa using h), fun h => C2 (by simpa using h), fun h => C3 (by simpa using h), fun h => C4 (by simpa using h), fun h => C5 (by simpa using h), fun h => C6 (by simpa using h), fun h => C7 (by simpa using h), fun h => C8 (by simpa using h), fun h => C9 (by simpa using h), fun h => C10 (by simpa using h), fun h => C11 (by simpa using h), fun h => C12 (by simpa using h), fun h => C13 (by simpa using h), fun _ => rfl, fun h => C15 (by simpa using h), fun h => C16 (by simpa using h), fun h => C17 (by simpa using h), fun h => C18 (by simpa using h), fun h => C19 (by simpa using h), H1, E1⟩
      · refine stepOk_some (i := 15) (by rfl) (by rfl) ?_
        rintro u L T w' hT hu hL hp hcl ⟨C0, C1, C2, C3, C4, C5, C6, C7, C8, C9, C10, C11, C12, C13, C14, C15, C16, C17, C18, C19, H1, E1⟩ K hK
        have e14 := C14 (hp.of 14 (by kernel_rfl))
        go_simp
        try go_bits
        try (rw [if_neg (by omega)]; go_simp)
        try (rw [if_pos (by omega)]; go_simp)
        refine hK _ _ ?_
        exact ⟨fun h => C0 (by simpa using h), fun h => C1 (by simpa using h), fun h => C2 (by simpa using h), fun h => C3 (by simpa using h), fun h => C4 (by simpa using h), fun h => C5 (by simpa using h), fun h => C6 (by simpa using h), fun h => C7 (by simpa using h), fun h => C8 (by simpa using h), fun h => C9 (by simpa using h), fun h => C10 (by simpa using h), fun h => C11 (by simpa using h), fun h => C12 (by simpa using h), fun h => C13 (by simpa using h), fun h => C14 (by simpa using h), fun _ => rfl, fun h => C16 (by simpa using h), fun h => C17 (by simpa using h), fun h => C18 (by simpa using h), fun h => C19 (by simpa using h), H1, E1⟩
      · refine stepOk_some (i := 16) (by rfl) (by rfl) ?_
        rintro u L T w' hT hu hL hp hcl ⟨C0, C1, C2, C3, C4, C5, C6, C7, C8, C9, C10, C11, C12, C13, C14, C15, C16, C17, C18, C19, H1, E1⟩ K hK
        have e15 := C15 (hp.of 15 (by kernel_rfl))
        go_simp
        refine (HCN.out _).mono ?_
        rintro e w1 ⟨he, hx1⟩
        subst he
        refine hK _ _ ?_
        exact ⟨fun h => C0 (by simpa using h), fun h => C1 (by simpa using h), fun h => C2 (by simpa using h), fun h => C3 (by simpa using h), fun h => C4 (by simpa using h), fun h => C5 (by simpa using h), fun h => C6 (by simpa using h), fun h => C7 (by simpa using h), fun h => C8 (by simpa using h), fun h => C9 (by simpa using h), fun h => C10 (by simpa using h), fun h => C11 (by simpa using h), fun h => C12 (by simpa using h), fun h => C13 (by simpa using h), fun h => C14 (by simpa using h), fun h => C15 (by simpa using h), fun _ => rfl, fun h => C17 (by simpa using h), fun h => C18 (by simpa using h), fun h => C19 (by simpa using h), ext_at hx1 (H1), ext_trans (E1) hx1⟩
      · refine stepOk_some (i := 17) (by rfl) (by rfl) ?_
        rintro u L T w' hT hu hL hp hcl ⟨C0, C1, C2, C3, C4, C5, C6, C7, C8, C9, C10, C11, C12, C13, C14, C15, C16, C17, C18, C19, H1, E1⟩ K hK
        have e12 := C12 (hp.of 12 (by kernel_rfl))
        have e16 := C16 (hp.of 16 (by kernel_rfl))
        go_simp
        try go_bits
        try (rw [if_neg (by omega)]; go_simp)
        try (rw [if_pos (by omega)]; go_simp)
        refine hK _ _ ?_
        exact ⟨fun h => C0 (by simpa using h), fun h => C1 (by simpa using h), fun h => C2 (by simpa using h), fun h => C3 (by simpa using h), fun h => C4 (by simpa using h), fun h => C5 (by simpa using h), fun h => C6 (by simpa using h), fun h => C7 (by simpa using h), fun h => C8 (by simpa using h), fun h => C9 (by simpa using h), fun h => C10 (by simpa using h), fun h => C11 (by simpa using h), fun h => C12 (by simpa using h), fun h => C13 (by simpa using h), fun h => C14 (by simpa using h), fun h => C15 (by simpa using h), fun h => C16 (by simpa using h), fun _ => rfl, fun h => C18 (by simpa using h), fun h => C19 (by simpa using h), H1, E1⟩
      · refine stepOk_some (i := 18) (by rfl) (by rfl) ?_
        rintro u L T w' hT hu hL hp hcl ⟨C0, C1, C2, C3, C4, C5, C6, C7, C8, C9, C10, C11, C12, C13, C14, C15, C16, C17, C18, C19, H1, E1⟩ K hK
        have e17 := C17 (hp.of 17 (by kernel_rfl))
        go_simp
        try go_bits
        try (rw [if_neg (by omega)]; go_simp)
        try (rw [if_pos (by omega)]; go_simp)
        refine hK _ _ ?_
        exact ⟨fun h => C0 (by simpa using h), fun h => C1 (by simpa using h), fun h => C2 (by simpa using h), fun h => C3 (by simpa using h), fun h => C4 (by simpa using h), fun h => C5 (by simpa using h), fun h => C6 (by simpa using h), fun h => C7 (by simpa using h), fun h => C8 (by simpa using h), fun h => C9 (by simpa using h), fun h => C10 (by simpa using h), fun h => C11 (by simpa using h), fun h => C12 (by simpa using h), fun h => C13 (by simpa using h), fun h => C14 (by simpa using h), fun h => C15 (by simpa using h), fun h => C16 (by simpa using h), fun h => C17 (by simpa using h), fun _ => rfl, fun h => C19 (by simpa using h), H1, E1⟩
      · refine stepOk_some (i := 19) (by rfl) (by rfl) ?_
        rintro u L T w' hT hu hL hp hcl ⟨C0, C1, C2, C3, C4, C5, C6, C7, C8, C9, C10, C11, C12, C13, C14, C15, C16, C17, C18, C19, H1, E1⟩ K hK
        have e18 := C18 (hp.of 18 (by kernel_rfl))
        go_simp
        refine hK _ _ ?_
        exact ⟨fun h => C0 (by simpa using h), fun h => C1 (by simpa using h), fun h => C2 (by simpa using h), fun h => C3 (by simpa using h), fun h => C4 (by simpa using h), fun h => C5 (by simpa using h), fun h => C6 (by simpa using h), fun h => C7 (by simpa using h), fun h => C8 (by simpa using h), fun h => C9 (by simpa using h), fun h => C10 (by simpa using h), fun h => C11 (by simpa using h), fun h => C12 (by simpa using h), fun h => C13 (by simpa using h), fun h => C14 (by simpa using h), fun h => C15 (by simpa using h), fun h => C16 (by simpa using h), fun h => C17 (by simpa using h), fun h => C18 (by simpa using h), fun _ => rfl, H1, E1⟩
    · rintro u L w' hall hu ⟨C0, C1, C2, C3, C4, C5, C6, C7, C8, C9, C10, C11, C12, C13, C14, C15, C16, C17, C18, C19, H1, E1⟩
      replace C0 := C0 (hall 0 (by omega))
      replace C1 := C1 (hall 1 (by omega))
      replace C2 := C2 (hall 2 (by omega))
      replace C3 := C3 (hall 3 (by omega))
      replace C4 := C4 (hall 4 (by omega))
      replace C5 := C5 (hall 5 (by omega))
      replace C6 := C6 (hall 6 (by omega))
      replace C7 := C7 (hall 7 (by omega))
      replace C8 := C8 (hall 8 (by omega))
      replace C9 := C9 (hall 9 (by omega))
      replace C10 := C10 (hall 10 (by omega))
      replace C11 := C11 (hall 11 (by omega))
      replace C12 := C12 (hall 12 (by omega))
      replace C13 := C13 (hall 13 (by omega))
      replace C14 := C14 (hall 14 (by omega))
      replace C15 := C15 (hall 15 (by omega))
      replace C16 := C16 (hall 16 (by omega))
      replace C17 := C17 (hall 17 (by omega))
      replace C18 := C18 (hall 18 (by omega))
      replace C19 := C19 (hall 19 (by omega))
      simp only [fill, List.setIfInBounds_toArray, List.set_cons_succ, List.set_cons_zero, C0, C1, C2, C3, C4, C5, C6, C7, C8, C9, C10, C11, C12, C13, C14, C15, C16, C17, C18, C19]
      clear C0 C1 C2 C3 C4 C5 C6 C7 C8 C9 C10 C11 C12 C13 C14 C15 C16 C17 C18 C19 hu hall
    -- end inv
      have HX1 := Lib.hid E1
      have HC2 := Lib.hid H1
      have hsx := hexL_len text
      obtain ⟨d0, d1, d2, d3, d4⟩ := cells5 H1
      clear H1 E1 HC1 HX0 HN HTK HCN
      by_cases h0 : text = []
      · have t0 : text.isEmpty = true := by rw [h0]; rfl
        have e0 : ho = [45] := by rw [HO.out, if_pos h0]
        subst h0
        go_wp2_with fail
        go_ret2
        exact ⟨by rw [HLI.out, e0]; simp, HX1.out⟩
      · have t0 : text.isEmpty = false := by simpa using h0
        have t1 : (text == []) = false := by simpa using h0
        have e0 : ho = hexL text := by rw [HO.out, if_neg h0]
        obtain ⟨cap, W3, hconv, hx3, hsl⟩ := bytes_of_str (P := Tryd.prog) w' 9 45 5 text (by unfold maxLen; omega) Tryd.underlying9 Tryd.underlying45 Tryd.underlying5
        have HH := Lib.hid (r1hex_any _ text W3 hsl (by omega))
        have HX3 := Lib.hid (ext_trans HX1.out hx3)
        clear hx3 hsl
        go_wp2_with fail
        refine HH.out.mono ?_
        rintro e W4 ⟨rfl, hx4⟩
        have HX4 := Lib.hid (ext_trans HX3.out hx4)
        clear hx4
        go_wp2
        go_ret2
        exact ⟨by rw [HLI.out, e0]; simp, HX4.out⟩
  · rw [if_neg hr]
    have hr' : ¬ (plnB kind = true ∧ tk ≤ 1099511627776 ∧ 0 ≤ conn ∧ conn ≤ 2147483647 ∧ text.length ≤ 200 ∧ 1 ≤ n ∧ n ≤ 9007199254740992) := fun h => hr (by
      simp only [Ev.right, Bool.and_eq_true, decide_eq_true_eq]
      exact ⟨⟨⟨⟨⟨⟨h.1, h.2.1⟩, h.2.2.1⟩, h.2.2.2.1⟩, h.2.2.2.2.1⟩, h.2.2.2.2.2.1⟩, h.2.2.2.2.2.2⟩)
    have HR := Lib.hid hr'
    clear hr hr' hLN HLI
    go_enter Tryd.func29, Tryd.ntmps29
    go_wp2_with fail
    refine (plainR_any kind (by omega) _).mono ?_
    rintro e W2 ⟨rfl, rfl⟩
    generalize hb : plnB kind = b at *
    go_wp2_with fail
    all_goals first
      | exact absurd ⟨by assumption, by omega, by omega, by omega, by omega, by omega, by omega⟩ HR.out
      | (go_ret2; exact ⟨rfl, HX0.out⟩)
end Go.Proofs.YtpndahmlbjhdfaaDoor
