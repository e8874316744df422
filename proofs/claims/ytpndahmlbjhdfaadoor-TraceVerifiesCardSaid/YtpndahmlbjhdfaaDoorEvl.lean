/-
  trace.Event: right, Line.
-/
import Derived.BigGuardPart
import Derived.Test.YtpndahmlbjhdfaaDoorRows
import Derived.Test.YtpndahmlbjhdfaaDoorFmu
import Derived.Test.YtpndahmlbjhdfaaDoorBkt
import Derived.Test.YtpndahmlbjhdfaaDoorSum
namespace Go.Proofs.YtpndahmlbjhdfaaDoor
open Go.RowKit
set_option maxRecDepth 100000
set_option linter.unusedVariables false
set_option linter.unusedSimpArgs false
def evC (e : Ev) : Array Value := #[.int .u64 (e.n : Int), .int .u64 (e.tk : Int), Str e.kind, .int .i64 e.conn, Str e.text]
/-- Its numbers are numbers. -/
structure Ev.ok (e : Ev) : Prop where
  n : e.n < 18446744073709551616
  tk : e.tk < 18446744073709551616
  lo : -9223372036854775808 ≤ e.conn
  hi : e.conn ≤ 9223372036854775807
  kind : e.kind.length ≤ 1000
  text : e.text.length ≤ 1000
set_option maxHeartbeats 1000000 in
theorem right_any (e : Ev) (he : e.ok) (w : World) :
    Calls Tryd.prog 50 #[.agg (evC e)] w fun r w' => r = .returned (.bool e.right) ∧ Ext w w' := by
  obtain ⟨n, tk, kind, conn, text⟩ := e
  obtain ⟨h1, h2, h3, h4, h5, h6⟩ := he
  simp only at h1 h2 h3 h4 h5 h6
  have hR := Lib.hid (show (Ev.mk n tk kind conn text).right = (plnB kind && decide (tk ≤ 1099511627776) && decide (0 ≤ conn) && decide (conn ≤ 2147483647) && decide (text.length ≤ 200) && decide (1 ≤ n) && decide (n ≤ 9007199254740992)) from rfl)
  have hx := Lib.hid (show Ext w (w.alloc (.cells (evC ⟨n, tk, kind, conn, text⟩) 37)) from Below.alloc (Below.refl _ w) (Nat.le_refl _) _)
  simp only [evC] at hx ⊢
  go_enter Tryd.func50, Tryd.ntmps50
  generalize hb : plnB kind = b at *
  have hP := Lib.hid (fun w => plain_any kind (by omega) w)
  go_wp2_with fail
  refine (hP.out _).mono ?_
  rintro r w1 ⟨rfl, hx1⟩
  have hbx : (w.alloc (.cells (evC ⟨n, tk, kind, conn, text⟩) 37)).heap[w.heap.size]? = some (.cells (evC ⟨n, tk, kind, conn, text⟩) 37) := heap_alloc_last w _
  have hbx1 := ext_at hx1 hbx
  have HX := Lib.hid (ext_trans hx.out hx1)
  have c0 : w1.cell? ⟨w.heap.size, 0, none⟩ = some (.int .u64 (n : Int)) := by simp [World.cell?, hbx1, evC]
  have c1 : w1.cell? ⟨w.heap.size, 1, none⟩ = some (.int .u64 (tk : Int)) := by simp [World.cell?, hbx1, evC]
  have c3 : w1.cell? ⟨w.heap.size, 3, none⟩ = some (.int .i64 conn) := by simp [World.cell?, hbx1, evC]
  have c4 : w1.cell? ⟨w.heap.size, 4, none⟩ = some (Str text) := by simp [World.cell?, hbx1, evC]
  clear hbx hbx1 hx1
  rw [hb]
  go_wp2
  all_goals
    go_ret
    exact ⟨ret_bool (by rw [hR.out, Bool.eq_iff_iff]; simp [*] <;> omega), HX.out⟩
theorem cells5 {Z : World} {s t : Nat} {a0 a1 a2 a3 a4 : Value} (h : Z.heap[s]? = some (.cells #[a0, a1, a2, a3, a4] t (0, 0))) : Z.cell? ⟨s, 0, none⟩ = some a0 ∧ Z.cell? ⟨s, 1, none⟩ = some a1 ∧ Z.cell? ⟨s, 2, none⟩ = some a2 ∧ Z.cell? ⟨s, 3, none⟩ = some a3 ∧ Z.cell? ⟨s, 4, none⟩ = some a4 := by
  simp [World.cell?, h]
theorem join5 (a b c d f tx : List UInt8) (hj : Lib.join [a, b, c, d, f] [32] = tx) (hl : tx.length ≤ 100000) (W : World) (g : Nat) (hg : W.heap[g]? = some (.cells #[Str a, Str b, Str c, Str d, Str f] 9 (0, 0))) :
    Calls Tryd.prog 52 #[.slice (some ⟨g, 0, none⟩) 5 5, Str [32]] W fun e w' => e = .returned (Str tx) ∧ Ext W w' := by
  have h := Tryd.strings_Join g 0 5 [⟨a.toArray⟩, ⟨b.toArray⟩, ⟨c.toArray⟩, ⟨d.toArray⟩, ⟨f.toArray⟩] ⟨#[32]⟩ W (fun j x hx => ?_) (Array.getElem?_eq_some_iff.1 hg).1 (by simp) (by simp) ?_
  · have e : Lib.join ([(⟨a.toArray⟩ : ByteArray), ⟨b.toArray⟩, ⟨c.toArray⟩, ⟨d.toArray⟩, ⟨f.toArray⟩].map (·.data.toList)) (⟨#[32]⟩ : ByteArray).data.toList = tx := hj
    rw [e] at h
    exact h
  · match j, hx with
    | 0, hx => simp at hx; subst hx; simp [World.cell?, hg]
    | 1, hx => simp at hx; subst hx; simp [World.cell?, hg]
    | 2, hx => simp at hx; subst hx; simp [World.cell?, hg]
    | 3, hx => simp at hx; subst hx; simp [World.cell?, hg]
    | 4, hx => simp at hx; subst hx; simp [World.cell?, hg]
    | n + 5, hx => simp at hx
  · have e : Lib.join ([(⟨a.toArray⟩ : ByteArray), ⟨b.toArray⟩, ⟨c.toArray⟩, ⟨d.toArray⟩, ⟨f.toArray⟩].map (·.data.toList)) (⟨#[32]⟩ : ByteArray).data.toList = tx := hj
    rw [e]; omega
theorem dec_len (u : Nat) (h : u < 18446744073709551616) : (Lib.decDigits u).length ≤ 20 := by
  rw [Lib.decDigits_length]
  by_cases h0 : 1 ≤ u
  · have := Lib.numDigits_eq u h0 h; split at this <;> omega
  · obtain rfl : u = 0 := by omega
    decide +kernel
theorem hexO_len (l : List UInt8) : (hexO l).length ≤ 2 * l.length + 1 := by
  unfold hexO; split
  · simp
  · rw [hexL_len]; omega
theorem line_len (e : Ev) (he : e.ok) (hr : e.right = true) : e.line.length ≤ 600 := by
  obtain ⟨h1, h2, h3, h4, h5, h6⟩ := he
  simp only [Ev.right, Bool.and_eq_true, decide_eq_true_eq] at hr
  have hk : e.kind.length ≤ 32 := by
    have := hr.1.1.1.1.1.1
    unfold plnB at this
    simp only [Bool.and_eq_true, decide_eq_true_eq] at this
    exact this.2.2
  have d1 := dec_len e.n h1
  have d2 := dec_len e.tk h2
  have d3 := dec_len e.conn.toNat (by omega)
  have d4 := hexO_len e.text
  simp only [Ev.line, Ev.parts, List.intercalate, List.intersperse, List.flatten_cons, List.flatten_nil, List.length_append, List.length_cons, List.length_nil]
  omega
set_option maxHeartbeats 2000000 in
theorem Line_any (e : Ev) (he : e.ok) (w : World) (hL : Lt w) :
    Calls Tryd.prog 30 #[.agg (evC e)] w fun r w' => r = .returned (if e.right then .tuple #[Str e.line, .int .i64 0] else .tuple #[Str [], .int .i64 4]) ∧ Ext w w' := by
  have HR := Lib.hid (fun W => right_any e he W)
  have HJ := Lib.hid (show Lib.join [Lib.decDigits e.n, Lib.decDigits e.tk, e.kind, Lib.decDigits e.conn.toNat, hexO e.text] [32] = e.line from rfl)
  have HTL := Lib.hid (fun hr : e.right = true => line_len e he hr)
  have HC0 := Lib.hid (fun hr : e.right = true => (show 0 ≤ e.conn by simp only [Ev.right, Bool.and_eq_true, decide_eq_true_eq] at hr; exact hr.1.1.1.1.2))
  obtain ⟨q1, q2, q3, q4, q5, q6⟩ := he
  have HL := Lib.hid hL
  clear hL
  obtain ⟨n, tk, kind, conn, text⟩ := e
  simp only at q1 q2 q3 q4 q5 q6 HJ HC0
  generalize (Ev.mk n tk kind conn text).line = ln at *
  generalize (Ev.mk n tk kind conn text).right = ok at *
  simp only [evC] at HR ⊢
  go_enter Tryd.func30, Tryd.ntmps30
  go_wp2_with fail
  obtain ⟨W1, hW1⟩ : ∃ W1, w.alloc (.cells #[.int .u64 (n : Int), .int .u64 (tk : Int), Str kind, .int .i64 conn, Str text] 37) = W1 := ⟨_, rfl⟩
  have hx : Ext w W1 := by rw [← hW1]; exact Below.alloc (Below.refl _ _) (Nat.le_refl _) _
  have hc : W1.heap[w.heap.size]? = some (.cells #[.int .u64 (n : Int), .int .u64 (tk : Int), Str kind, .int .i64 conn, Str text] 37 (0, 0)) := by rw [← hW1]; exact Array.getElem?_push_size
  rw [hW1]
  refine (HR.out _).mono ?_
  rintro e W2 ⟨rfl, hx2⟩
  have HX := Lib.hid (ext_trans hx hx2)
  have hc2 := (hx2.block _ (Array.getElem?_eq_some_iff.1 hc).1).trans hc
  have HC := Lib.hid hc2
  clear hc hx hx2 hW1 hc2
  cases ok with
  | false =>
    go_wp2
    go_ret2
    exact ⟨rfl, HX.out⟩
  | true =>
    have hconn := HC0.out rfl
    obtain ⟨cap, W3, hconv, hext, hc1, hc2, hcell, hfroz⟩ := bytes_own (P := Tryd.prog) W2 9 45 5 text (by unfold maxLen; omega) Tryd.underlying9 Tryd.underlying45 Tryd.underlying5
    have hsl : SlB W3 (.slice (some ⟨W2.heap.size, 0, none⟩) text.length cap) text := sl_cells (by simp) hc1 hc2 (fun j u hu => by
      have hj : j < text.length := by have := (List.getElem?_eq_some_iff.1 hu).1; simpa using this
      rw [byt_map text j hj] at hu
      cases hu
      exact hcell j hj)
    have HH := Lib.hid (hex_any _ text W3 hsl q6)
    have HE3 := Lib.hid hext
    have hO := Lib.hid (show hexO text = if text = [] then [45] else hexL text from rfl)
    have hne := hexL_ne text
    have hn0 : text = [] → hexL text = [] := fun h => by rw [h]; rfl
    obtain ⟨d0, d1, d2, d3, d4⟩ := cells5 HC.out
    clear hcell hfroz hc1 hc2 hext hsl d0 d1 d2 d3
    go_wp2_with fail
    refine HH.out.mono ?_
    rintro e W4 ⟨rfl, hx4⟩
    clear hconv d4
    have HX4 := Lib.hid (ext_trans HX.out (ext_trans HE3.out hx4))
    have HC4 := Lib.hid (ext_at (ext_trans HE3.out hx4) HC.out)
    clear hx4 HE3 HX HC HH
    have HO2 : Hid (hexO text = if (hexL text).isEmpty then [45] else hexL text) := Lib.hid (by
      rw [hO.out]
      by_cases h : text = []
      · rw [hn0 h, h]; rfl
      · rw [if_neg h, if_neg (by simpa using (hne h).1)])
    clear hne hn0 hO
    have HCI : Hid (Lib.itoa conn = Lib.decDigits conn.toNat) := Lib.hid (by
      have := Lib.itoa_nonneg conn.toNat
      rwa [show ((conn.toNat : Nat) : Int) = conn by omega] at this)
    generalize hexL text = hx at *
    generalize hexO text = ho at *
    have HTL2 := Lib.hid (show ln.length ≤ 100000 by have := HTL.out (by first | rfl | trivial); omega)
    clear HTL HC0
    by_cases h0 : hx = []
    · have ho45 : ho = [45] := by rw [HO2.out, h0]; rfl
      have t0 : hx.isEmpty = true := by rw [h0]; rfl
      rw [ho45] at HJ
      rw [← HCI.out] at HJ
      clear HO2 HCI ho45
      go_wp2
      -- inv {'ops': [('fa', 14, 1, '.pointer (some ⟨w.heap.size, 0, none⟩)', '.pointer (some ⟨w.heap.size, 0, none⟩)'), ('lf', 15, 0, '.int .u64 (n : Int)', 'obtain ⟨d0, d1, d2, d3, d4⟩ := cells5 H1'), ('call', 16, [1], 'fmtU_any n q1 _ L1', 'Str (Lib.decDigits n)'), ('fa', 17, 1, '.pointer (some ⟨w.heap.size, 0, none⟩)', '.pointer (some ⟨w.heap.size, 1, none⟩)'), ('lf', 18, 3, '.int .u64 (tk : Int)', 'obtain ⟨d0, d1, d2, d3, d4⟩ := cells5 H1'), ('call', 19, [4], 'fmtU_any tk q2 _ L1', 'Str (Lib.decDigits tk)'), ('fa', 20, 1, '.pointer (some ⟨w.heap.size, 0, none⟩)', '.pointer (some ⟨w.heap.size, 2, none⟩)'), ('lf', 21, 6, 'Str kind', 'obtain ⟨d0, d1, d2, d3, d4⟩ := cells5 H1'), ('fa', 22, 1, '.pointer (some ⟨w.heap.size, 0, none⟩)', '.pointer (some ⟨w.heap.size, 3, none⟩)'), ('lf', 23, 8, '.int .i64 conn', 'obtain ⟨d0, d1, d2, d3, d4⟩ := cells5 H1'), ('call', 24, [9], 'itoaT_any conn q3 q4 _ L1', 'Str (Lib.itoa conn)'), ('mv', 25, 4, 'Str [45]'), ('bs', 26, [2, 5, 7, 10, 11], ['Str (Lib.decDigits n)', 'Str (Lib.decDigits tk)', 'Str kind', 'Str (Lib.itoa conn)', 'Str [45]'], '9', 13), ('callb', 27, 12, [], "join5 _ _ _ _ _ ln HJ.out HTL2.out _ _ hg'", 'Str ln'), ('mw', 2, 13, 'Str ln'), ('cs', 3, '.int .i64 0')], 'W': [('H1', "w'.heap[w.heap.size]? = some (.cells #[.int .u64 (n : Int), .int .u64 (tk : Int), Str kind, .int .i64 conn, Str text] 37 (0, 0))", 'HC4.out'), ('E1', "Ext w w'", 'Below.drew HX4.out'), ('L1', "Lt w'", 'HL.out.ext (Below.drew HX4.out)')]}
      refine wp_region_any (by kernel_rfl) ?_
      change wpAny _ _ _ _ _ _ _ (World.drew _)
      refine wpAny_inv (n := 16) [14, 15, 16, 17, 18, 19, 20, 21, 22, 23, 24, 25, 26, 27, 2, 3] (fun u L w' =>
          (L 0 = true → u 14 = .pointer (some ⟨w.heap.size, 0, none⟩)) ∧
          (L 1 = true → u 15 = .int .u64 (n : Int)) ∧
          (L 2 = true → u 16 = Str (Lib.decDigits n)) ∧
          (L 3 = true → u 17 = .pointer (some ⟨w.heap.size, 1, none⟩)) ∧
          (L 4 = true → u 18 = .int .u64 (tk : Int)) ∧
          (L 5 = true → u 19 = Str (Lib.decDigits tk)) ∧
          (L 6 = true → u 20 = .pointer (some ⟨w.heap.size, 2, none⟩)) ∧
          (L 7 = true → u 21 = Str kind) ∧
          (L 8 = true → u 22 = .pointer (some ⟨w.heap.size, 3, none⟩)) ∧
          (L 9 = true → u 23 = .int .i64 conn) ∧
          (L 10 = true → u 24 = Str (Lib.itoa conn)) ∧
          (L 11 = true → u 25 = Str [45]) ∧
          (L 12 = true → L 13 = false → ∃ g', u 26 = .slice (some ⟨g', 0, none⟩) 5 5 ∧ w'.heap[g']? = some (.cells #[Str (Lib.decDigits n), Str (Lib.decDigits tk), Str kind, Str (Lib.itoa conn), Str [45]] 9 (0, 0))) ∧
          (L 13 = true → u 27 = Str ln) ∧
          (L 14 = true → u 2 = Str ln) ∧
          (L 15 = true → u 3 = .int .i64 0) ∧
          (w'.heap[w.heap.size]? = some (.cells #[.int .u64 (n : Int), .int .u64 (tk : Int), Str kind, .int .i64 conn, Str text] 37 (0, 0))) ∧
          (Ext w w') ∧
          (Lt w'))
        (by rfl) (by kernel_rfl) (by kernel_rfl) (by rfl) ?_ ?_ ?_
      · exact ⟨(fun h => by cases h), (fun h => by cases h), (fun h => by cases h), (fun h => by cases h), (fun h => by cases h), (fun h => by cases h), (fun h => by cases h), (fun h => by cases h), (fun h => by cases h), (fun h => by cases h), (fun h => by cases h), (fun h => by cases h), (fun h => by cases h), (fun h => by cases h), (fun h => by cases h), (fun h => by cases h), HC4.out, Below.drew HX4.out, HL.out.ext (Below.drew HX4.out)⟩
      · refine ⟨⟨⟨⟨⟨⟨⟨⟨⟨⟨⟨⟨⟨⟨⟨⟨trivial, ?_⟩, ?_⟩, ?_⟩, ?_⟩, ?_⟩, ?_⟩, ?_⟩, ?_⟩, ?_⟩, ?_⟩, ?_⟩, ?_⟩, ?_⟩, ?_⟩, ?_⟩, ?_⟩
        · refine stepOk_some (i := 0) (by rfl) (by rfl) ?_
          rintro u L T w' hT hu hL hp hcl ⟨C0, C1, C2, C3, C4, C5, C6, C7, C8, C9, C10, C11, C12, C13, C14, C15, H1, E1, L1⟩ K hK
          have e1 : u 1 = .pointer (some ⟨w.heap.size, 0, none⟩) := hu 1 (by decide)
          go_simp
          refine hK _ _ ?_
          exact ⟨fun _ => rfl, fun h => C1 (by simpa using h), fun h => C2 (by simpa using h), fun h => C3 (by simpa using h), fun h => C4 (by simpa using h), fun h => C5 (by simpa using h), fun h => C6 (by simpa using h), fun h => C7 (by simpa using h), fun h => C8 (by simpa using h), fun h => C9 (by simpa using h), fun h => C10 (by simpa using h), fun h => C11 (by simpa using h), fun h h2 => C12 (by simpa using h) (by simpa using h2), fun h => C13 (by simpa using h), fun h => C14 (by simpa using h), fun h => C15 (by simpa using h), H1, E1, L1⟩
        · refine stepOk_some (i := 1) (by rfl) (by rfl) ?_
          rintro u L T w' hT hu hL hp hcl ⟨C0, C1, C2, C3, C4, C5, C6, C7, C8, C9, C10, C11, C12, C13, C14, C15, H1, E1, L1⟩ K hK
          have e0 := C0 (hp.of 0 (by kernel_rfl))
          obtain ⟨d0, d1, d2, d3, d4⟩ := cells5 H1
          go_simp
          refine hK _ _ ?_
          exact ⟨fun h => C0 (by simpa using h), fun _ => rfl, fun h => C2 (by simpa using h), fun h => C3 (by simpa using h), fun h => C4 (by simpa using h), fun h => C5 (by simpa using h), fun h => C6 (by simpa using h), fun h => C7 (by simpa using h), fun h => C8 (by simpa using h), fun h => C9 (by simpa using h), fun h => C10 (by simpa using h), fun h => C11 (by simpa using h), fun h h2 => C12 (by simpa using h) (by simpa using h2), fun h => C13 (by simpa using h), fun h => C14 (by simpa using h), fun h => C15 (by simpa using h), H1, E1, L1⟩
        · refine stepOk_some (i := 2) (by rfl) (by rfl) ?_
          rintro u L T w' hT hu hL hp hcl ⟨C0, C1, C2, C3, C4, C5, C6, C7, C8, C9, C10, C11, C12, C13, C14, C15, H1, E1, L1⟩ K hK
          have e1 := C1 (hp.of 1 (by kernel_rfl))
          go_simp
          refine (fmtU_any n q1 _ L1).mono ?_
          rintro e w1 ⟨he, hx1⟩
          subst he
          refine hK _ _ ?_
          exact ⟨fun h => C0 (by simpa using h), fun h => C1 (by simpa using h), fun _ => rfl, fun h => C3 (by simpa using h), fun h => C4 (by simpa using h), fun h => C5 (by simpa using h), fun h => C6 (by simpa using h), fun h => C7 (by simpa using h), fun h => C8 (by simpa using h), fun h => C9 (by simpa using h), fun h => C10 (by simpa using h), fun h => C11 (by simpa using h), fun h h2 => by obtain ⟨g2, q1, q2⟩ := C12 (by simpa using h) (by simpa using h2); exact ⟨g2, q1, ext_at hx1 q2⟩, fun h => C13 (by simpa using h), fun h => C14 (by simpa using h), fun h => C15 (by simpa using h), ext_at hx1 (H1), ext_trans (E1) hx1, (L1).ext hx1⟩
        · refine stepOk_some (i := 3) (by rfl) (by rfl) ?_
          rintro u L T w' hT hu hL hp hcl ⟨C0, C1, C2, C3, C4, C5, C6, C7, C8, C9, C10, C11, C12, C13, C14, C15, H1, E1, L1⟩ K hK
          have e1 : u 1 = .pointer (some ⟨w.heap.size, 0, none⟩) := hu 1 (by decide)
          go_simp
          refine hK _ _ ?_
          exact ⟨fun h => C0 (by simpa using h), fun h => C1 (by simpa using h), fun h => C2 (by simpa using h), fun _ => rfl, fun h => C4 (by simpa using h), fun h => C5 (by simpa using h), fun h => C6 (by simpa using h), fun h => C7 (by simpa using h), fun h => C8 (by simpa using h), fun h => C9 (by simpa using h), fun h => C10 (by simpa using h), fun h => C11 (by simpa using h), fun h h2 => C12 (by simpa using h) (by simpa using h2), fun h => C13 (by simpa using h), fun h => C14 (by simpa using h), fun h => C15 (by simpa using h), H1, E1, L1⟩
        · refine stepOk_some (i := 4) (by rfl) (by rfl) ?_
          rintro u L T w' hT hu hL hp hcl ⟨C0, C1, C2, C3, C4, C5, C6, C7, C8, C9, C10, C11, C12, C13, C14, C15, H1, E1, L1⟩ K hK
          have e3 := C3 (hp.of 3 (by kernel_rfl))
          obtain ⟨d0, d1, d2, d3, d4⟩ := cells5 H1
          go_simp
          refine hK _ _ ?_
          exact ⟨fun h => C0 (by simpa using h), fun h => C1 (by simpa using h), fun h => C2 (by simpa using h), fun h => C3 (by simpa using h), fun _ => rfl, fun h => C5 (by simpa using h), fun h => C6 (by simpa using h), fun h => C7 (by simpa using h), fun h => C8 (by simpa using h), fun h => C9 (by simpa using h), fun h => C10 (by simpa using h), fun h => C11 (by simpa using h), fun h h2 => C12 (by simpa using h) (by simpa using h2), fun h => C13 (by simpa using h), fun h => C14 (by simpa using h), fun h => C15 (by simpa using h), H1, E1, L1⟩
        · refine stepOk_some (i := 5) (by rfl) (by rfl) ?_
          rintro u L T w' hT hu hL hp hcl ⟨C0, C1, C2, C3, C4, C5, C6, C7, C8, C9, C10, C11, C12, C13, C14, C15, H1, E1, L1⟩ K hK
          have e4 := C4 (hp.of 4 (by kernel_rfl))
          go_simp
          refine (fmtU_any tk q2 _ L1).mono ?_
          rintro e w1 ⟨he, hx1⟩
          subst he
          refine hK _ _ ?_
          exact ⟨fun h => C0 (by simpa using h), fun h => C1 (by simpa using h), fun h => C2 (by simpa using h), fun h => C3 (by simpa using h), fun h => C4 (by simpa using h), fun _ => rfl, fun h => C6 (by simpa using h), fun h => C7 (by simpa using h), fun h => C8 (by simpa using h), fun h => C9 (by simpa using h), fun h => C10 (by simpa using h), fun h => C11 (by simpa using h), fun h h2 => by obtain ⟨g2, q1, q2⟩ := C12 (by simpa using h) (by simpa using h2); exact ⟨g2, q1, ext_at hx1 q2⟩, fun h => C13 (by simpa using h), fun h => C14 (by simpa using h), fun h => C15 (by simpa using h), ext_at hx1 (H1), ext_trans (E1) hx1, (L1).ext hx1⟩
        · refine stepOk_some (i := 6) (by rfl) (by rfl) ?_
          rintro u L T w' hT hu hL hp hcl ⟨C0, C1, C2, C3, C4, C5, C6, C7, C8, C9, C10, C11, C12, C13, C14, C15, H1, E1, L1⟩ K hK
          have e1 : u 1 = .pointer (some ⟨w.heap.size, 0, none⟩) := hu 1 (by decide)
          go_simp
          refine hK _ _ ?_
          exact ⟨fun h => C0 (by simpa using h), fun h => C1 (by simpa using h), fun h => C2 (by simpa using h), fun h => C3 (by simpa using h), fun h => C4 (by simpa using h), fun h => C5 (by simpa using h), fun _ => rfl, fun h => C7 (by simpa using h), fun h => C8 (by simpa using h), fun h => C9 (by simpa using h), fun h => C10 (by simpa using h), fun h => C11 (by simpa using h), fun h h2 => C12 (by simpa using h) (by simpa using h2), fun h => C13 (by simpa using h), fun h => C14 (by simpa using h), fun h => C15 (by simpa using h), H1, E1, L1⟩
        · refine stepOk_some (i := 7) (by rfl) (by rfl) ?_
          rintro u L T w' hT hu hL hp hcl ⟨C0, C1, C2, C3, C4, C5, C6, C7, C8, C9, C10, C11, C12, C13, C14, C15, H1, E1, L1⟩ K hK
          have e6 := C6 (hp.of 6 (by kernel_rfl))
          obtain ⟨d0, d1, d2, d3, d4⟩ := cells5 H1
          go_simp
          refine hK _ _ ?_
          exact ⟨fun h => C0 (by simpa using h), fun h => C1 (by simpa using h), fun h => C2 (by simpa using h), fun h => C3 (by simpa using h), fun h => C4 (by simpa using h), fun h => C5 (by simpa using h), fun h => C6 (by simpa using h), fun _ => rfl, fun h => C8 (by simpa using h), fun h => C9 (by simpa using h), fun h => C10 (by simpa using h), fun h => C11 (by simpa using h), fun h h2 => C12 (by simpa using h) (by simpa using h2), fun h => C13 (by simpa using h), fun h => C14 (by simpa using h), fun h => C15 (by simpa using h), H1, E1, L1⟩
        · refine stepOk_some (i := 8) (by rfl) (by rfl) ?_
          rintro u L T w' hT hu hL hp hcl ⟨C0, C1, C2, C3, C4, C5, C6, C7, C8, C9, C10, C11, C12, C13, C14, C15, H1, E1, L1⟩ K hK
          have e1 : u 1 = .pointer (some ⟨w.heap.size, 0, none⟩) := hu 1 (by decide)
          go_simp
          refine hK _ _ ?_
          exact ⟨fun h => C0 (by simpa using h), fun h => C1 (by simpa using h), fun h => C2 (by simpa using h), fun h => C3 (by simpa using h), fun h => C4 (by simpa using h), fun h => C5 (by simpa using h), fun h => C6 (by simpa using h), fun h => C7 (by simpa using h), fun _ => rfl, fun h => C9 (by simpa using h), fun h => C10 (by simpa using h), fun h => C11 (by simpa using h), fun h h2 => C12 (by simpa using h) (by simpa using h2), fun h => C13 (by simpa using h), fun h => C14 (by simpa using h), fun h => C15 (by simpa using h), H1, E1, L1⟩
        · refine stepOk_some (i := 9) (by rfl) (by rfl) ?_
          rintro u L T w' hT hu hL hp hcl ⟨C0, C1, C2, C3, C4, C5, C6, C7, C8, C9, C10, C11, C12, C13, C14, C15, H1, E1, L1⟩ K hK
          have e8 := C8 (hp.of 8 (by kernel_rfl))
          obtain ⟨d0, d1, d2, d3, d4⟩ := cells5 H1
          go_simp
          refine hK _ _ ?_
          exact ⟨fun h => C0 (by simpa using h), fun h => C1 (by simpa using h), fun h => C2 (by simpa using h), fun h => C3 (by simpa using h), fun h => C4 (by simpa using h), fun h => C5 (by simpa using h), fun h => C6 (by simpa using h), fun h => C7 (by simpa using h), fun h => C8 (by simpa using h), fun _ => rfl, fun h => C10 (by simpa using h), fun h => C11 (by simpa using h), fun h h2 => C12 (by simpa using h) (by simpa using h2), fun h => C13 (by simpa using h), fun h => C14 (by simpa using h), fun h => C15 (by simpa using h), H1, E1, L1⟩
        · refine stepOk_some (i := 10) (by rfl) (by rfl) ?_
          rintro u L T w' hT hu hL hp hcl ⟨C0, C1, C2, C3, C4, C5, C6, C7, C8, C9, C10, C11, C12, C13, C14, C15, H1, E1, L1⟩ K hK
          have e9 := C9 (hp.of 9 (by kernel_rfl))
          go_simp
          refine (itoaT_any conn q3 q4 _ L1).mono ?_
          rintro e w1 ⟨he, hx1⟩
          subst he
          refine hK _ _ ?_
          exact ⟨fun h => C0 (by simpa using h), fun h => C1 (by simpa using h), fun h => C2 (by simpa using h), fun h => C3 (by simpa using h), fun h => C4 (by simpa using h), fun h => C5 (by simpa using h), fun h => C6 (by simpa using h), fun h => C7 (by simpa using h), fun h => C8 (by simpa using h), fun h => C9 (by simpa using h), fun _ => rfl, fun h => C11 (by simpa using h), fun h h2 => by obtain ⟨g2, q1, q2⟩ := C12 (by simpa using h) (by simpa using h2); exact ⟨g2, q1, ext_at hx1 q2⟩, fun h => C13 (by simpa using h), fun h => C14 (by simpa using h), fun h => C15 (by simpa using h), ext_at hx1 (H1), ext_trans (E1) hx1, (L1).ext hx1⟩
        · refine stepOk_some (i := 11) (by rfl) (by rfl) ?_
          rintro u L T w' hT hu hL hp hcl ⟨C0, C1, C2, C3, C4, C5, C6, C7, C8, C9, C10, C11, C12, C13, C14, C15, H1, E1, L1⟩ K hK
          have e1 : u 4 = Str [45] := hu 4 (by decide)
          go_simp
          refine hK _ _ ?_
          exact ⟨fun h => C0 (by simpa using h), fun h => C1 (by simpa using h), fun h => C2 (by simpa using h), fun h => C3 (by simpa using h), fun h => C4 (by simpa using h), fun h => C5 (by simpa using h), fun h => C6 (by simpa using h), fun h => C7 (by simpa using h), fun h => C8 (by simpa using h), fun h => C9 (by simpa using h), fun h => C10 (by simpa using h), fun _ => rfl, fun h h2 => C12 (by simpa using h) (by simpa using h2), fun h => C13 (by simpa using h), fun h => C14 (by simpa using h), fun h => C15 (by simpa using h), H1, E1, L1⟩
        · refine stepOk_some (i := 12) (by rfl) (by rfl) ?_
          rintro u L T w' hT hu hL hp hcl ⟨C0, C1, C2, C3, C4, C5, C6, C7, C8, C9, C10, C11, C12, C13, C14, C15, H1, E1, L1⟩ K hK
          have e2 := C2 (hp.of 2 (by kernel_rfl))
          have e5 := C5 (hp.of 5 (by kernel_rfl))
          have e7 := C7 (hp.of 7 (by kernel_rfl))
          have e10 := C10 (hp.of 10 (by kernel_rfl))
          have e11 := C11 (hp.of 11 (by kernel_rfl))
          go_simp
          have hx1 : Ext w' (w'.alloc (.cells #[Str (Lib.decDigits n), Str (Lib.decDigits tk), Str kind, Str (Lib.itoa conn), Str [45]] 9)) := Below.alloc (Below.refl _ _) (Nat.le_refl _) _
          refine hK _ _ ?_
          exact ⟨fun h => C0 (by simpa using h), fun h => C1 (by simpa using h), fun h => C2 (by simpa using h), fun h => C3 (by simpa using h), fun h => C4 (by simpa using h), fun h => C5 (by simpa using h), fun h => C6 (by simpa using h), fun h => C7 (by simpa using h), fun h => C8 (by simpa using h), fun h => C9 (by simpa using h), fun h => C10 (by simpa using h), fun h => C11 (by simpa using h), fun _ _ => ⟨_, rfl, Array.getElem?_push_size⟩, fun h => C13 (by simpa using h), fun h => C14 (by simpa using h), fun h => C15 (by simpa using h), ext_at hx1 (H1), ext_trans (E1) hx1, (L1).ext hx1⟩
        · refine stepOk_some (i := 13) (by rfl) (by rfl) ?_
          rintro u L T w' hT hu hL hp hcl ⟨C0, C1, C2, C3, C4, C5, C6, C7, C8, C9, C10, C11, C12, C13, C14, C15, H1, E1, L1⟩ K hK
          obtain ⟨g', e12, hg'⟩ := C12 (hp.of 12 (by kernel_rfl)) hL
          go_simp
          refine (join5 _ _ _ _ _ ln HJ.out HTL2.out _ _ hg').mono ?_
          rintro e w1 ⟨he, hx1⟩
          subst he
          refine hK _ _ ?_
          exact ⟨fun h => C0 (by simpa using h), fun h => C1 (by simpa using h), fun h => C2 (by simpa using h), fun h => C3 (by simpa using h), fun h => C4 (by simpa using h), fun h => C5 (by simpa using h), fun h => C6 (by simpa using h), fun h => C7 (by simpa using h), fun h => C8 (by simpa using h), fun h => C9 (by simpa using h), fun h => C10 (by simpa using h), fun h => C11 (by simpa using h), fun h h2 => absurd h2 (by simp), fun _ => rfl, fun h => C14 (by simpa using h), fun h => C15 (by simpa using h), ext_at hx1 (H1), ext_trans (E1) hx1, (L1).ext hx1⟩
        · refine stepOk_some (i := 14) (by rfl) (by rfl) ?_
          rintro u L T w' hT hu hL hp hcl ⟨C0, C1, C2, C3, C4, C5, C6, C7, C8, C9, C10, C11, C12, C13, C14, C15, H1, E1, L1⟩ K hK
          have e13 := C13 (hp.of 13 (by kernel_rfl))
          go_simp
          refine hK _ _ ?_
          exact ⟨fun h => C0 (by simpa using h), fun h => C1 (by simpa using h), fun h => C2 (by simpa using h), fun h => C3 (by simpa using h), fun h => C4 (by simpa using h), fun h => C5 (by simpa using h), fun h => C6 (by simpa using h), fun h => C7 (by simpa using h), fun h => C8 (by simpa using h), fun h => C9 (by simpa using h), fun h => C10 (by simpa using h), fun h => C11 (by simpa using h), fun h h2 => C12 (by simpa using h) (by simpa using h2), fun h => C13 (by simpa using h), fun _ => rfl, fun h => C15 (by simpa using h), H1, E1, L1⟩
        · refine stepOk_some (i := 15) (by rfl) (by rfl) ?_
          rintro u L T w' hT hu hL hp hcl ⟨C0, C1, C2, C3, C4, C5, C6, C7, C8, C9, C10, C11, C12, C13, C14, C15, H1, E1, L1⟩ K hK
          go_simp
          refine hK _ _ ?_
          exact ⟨fun h => C0 (by simpa using h), fun h => C1 (by simpa using h), fun h => C2 (by simpa using h), fun h => C3 (by simpa using h), fun h => C4 (by simpa using h), fun h => C5 (by simpa using h), fun h => C6 (by simpa using h), fun h => C7 (by simpa using h), fun h => C8 (by simpa using h), fun h => C9 (by simpa using h), fun h => C10 (by simpa using h), fun h => C11 (by simpa using h), fun h h2 => C12 (by simpa using h) (by simpa using h2), fun h => C13 (by simpa using h), fun h => C14 (by simpa using h), fun _ => rfl, H1, E1, L1⟩
      · rintro u L w' hall hu ⟨C0, C1, C2, C3, C4, C5, C6, C7, C8, C9, C10, C11, C12, C13, C14, C15, H1, E1, L1⟩
        replace C0 := C0 (hall 0 (by omega))
        replace C1 := C1 (hall 1 (by omega))
        replace C2 := C2 (hall 2 (by omega))
        replace C3 := C3 (hall 3 (by omega))
        replace C4 := C4 (hall 4 (by omega))
        replace C5 := C5 (hall 5 (by omega))
        replace C6 := C6 (hall 6 (by omega))
        replace C7 := C7 (hall 7 (by omega))
        replace C8 := C8 (hall 8 (by omega))
        replace C9 := C9 (hall 9 (by omega))
        replace C10 := C10 (hall 10 (by omega))
        replace C11 := C11 (hall 11 (by omega))
        replace C13 := C13 (hall 13 (by omega))
        replace C14 := C14 (hall 14 (by omega))
        replace C15 := C15 (hall 15 (by omega))
        simp only [fill, List.setIfInBounds_toArray, List.set_cons_succ, List.set_cons_zero, C0, C1, C2, C3, C4, C5, C6, C7, C8, C9, C10, C11, C13, C14, C15]
        generalize u 26 = s0 at *
        clear C0 C1 C2 C3 C4 C5 C6 C7 C8 C9 C10 C11 C12 C13 C14 C15 hu hall
      -- end inv
        have HX5 := Lib.hid E1
        clear H1 E1 L1
        go_wp2
        go_ret2
        exact ⟨rfl, HX5.out⟩
    · have hoh : ho = hx := by rw [HO2.out, if_neg (by simpa using h0)]
      have t0 : hx.isEmpty = false := by simpa using h0
      have t1 : (hx == []) = false := by simpa using h0
      clear h0 HO2
      subst hoh
      rw [← HCI.out] at HJ
      clear HCI
      go_wp2
      -- inv {'ops': [('fa', 14, 1, '.pointer (some ⟨w.heap.size, 0, none⟩)', '.pointer (some ⟨w.heap.size, 0, none⟩)'), ('lf', 15, 0, '.int .u64 (n : Int)', 'obtain ⟨d0, d1, d2, d3, d4⟩ := cells5 H1'), ('call', 16, [1], 'fmtU_any n q1 _ L1', 'Str (Lib.decDigits n)'), ('fa', 17, 1, '.pointer (some ⟨w.heap.size, 0, none⟩)', '.pointer (some ⟨w.heap.size, 1, none⟩)'), ('lf', 18, 3, '.int .u64 (tk : Int)', 'obtain ⟨d0, d1, d2, d3, d4⟩ := cells5 H1'), ('call', 19, [4], 'fmtU_any tk q2 _ L1', 'Str (Lib.decDigits tk)'), ('fa', 20, 1, '.pointer (some ⟨w.heap.size, 0, none⟩)', '.pointer (some ⟨w.heap.size, 2, none⟩)'), ('lf', 21, 6, 'Str kind', 'obtain ⟨d0, d1, d2, d3, d4⟩ := cells5 H1'), ('fa', 22, 1, '.pointer (some ⟨w.heap.size, 0, none⟩)', '.pointer (some ⟨w.heap.size, 3, none⟩)'), ('lf', 23, 8, '.int .i64 conn', 'obtain ⟨d0, d1, d2, d3, d4⟩ := cells5 H1'), ('call', 24, [9], 'itoaT_any conn q3 q4 _ L1', 'Str (Lib.itoa conn)'), ('mv', 25, 4, 'Str ho'), ('bs', 26, [2, 5, 7, 10, 11], ['Str (Lib.decDigits n)', 'Str (Lib.decDigits tk)', 'Str kind', 'Str (Lib.itoa conn)', 'Str ho'], '9', 13), ('callb', 27, 12, [], "join5 _ _ _ _ _ ln HJ.out HTL2.out _ _ hg'", 'Str ln'), ('mw', 2, 13, 'Str ln'), ('cs', 3, '.int .i64 0')], 'W': [('H1', "w'.heap[w.heap.size]? = some (.cells #[.int .u64 (n : Int), .int .u64 (tk : Int), Str kind, .int .i64 conn, Str text] 37 (0, 0))", 'HC4.out'), ('E1', "Ext w w'", 'Below.drew HX4.out'), ('L1', "Lt w'", 'HL.out.ext (Below.drew HX4.out)')]}
      refine wp_region_any (by kernel_rfl) ?_
      change wpAny _ _ _ _ _ _ _ (World.drew _)
      refine wpAny_inv (n := 16) [14, 15, 16, 17, 18, 19, 20, 21, 22, 23, 24, 25, 26, 27, 2, 3] (fun u L w' =>
          (L 0 = true → u 14 = .pointer (some ⟨w.heap.size, 0, none⟩)) ∧
          (L 1 = true → u 15 = .int .u64 (n : Int)) ∧
          (L 2 = true → u 16 = Str (Lib.decDigits n)) ∧
          (L 3 = true → u 17 = .pointer (some ⟨w.heap.size, 1, none⟩)) ∧
          (L 4 = true → u 18 = .int .u64 (tk : Int)) ∧
          (L 5 = true → u 19 = Str (Lib.decDigits tk)) ∧
          (L 6 = true → u 20 = .pointer (some ⟨w.heap.size, 2, none⟩)) ∧
          (L 7 = true → u 21 = Str kind) ∧
          (L 8 = true → u 22 = .pointer (some ⟨w.heap.size, 3, none⟩)) ∧
          (L 9 = true → u 23 = .int .i64 conn) ∧
          (L 10 = true → u 24 = Str (Lib.itoa conn)) ∧
          (L 11 = true → u 25 = Str ho) ∧
          (L 12 = true → L 13 = false → ∃ g', u 26 = .slice (some ⟨g', 0, none⟩) 5 5 ∧ w'.heap[g']? = some (.cells #[Str (Lib.decDigits n), Str (Lib.decDigits tk), Str kind, Str (Lib.itoa conn), Str ho] 9 (0, 0))) ∧
          (L 13 = true → u 27 = Str ln) ∧
          (L 14 = true → u 2 = Str ln) ∧
          (L 15 = true → u 3 = .int .i64 0) ∧
          (w'.heap[w.heap.size]? = some (.cells #[.int .u64 (n : Int), .int .u64 (tk : Int), Str kind, .int .i64 conn, Str text] 37 (0, 0))) ∧
          (Ext w w') ∧
          (Lt w'))
        (by rfl) (by kernel_rfl) (by kernel_rfl) (by rfl) ?_ ?_ ?_
      · exact ⟨(fun h => by cases h), (fun h => by cases h), (fun h => by cases h), (fun h => by cases h), (fun h => by cases h), (fun h => by cases h), (fun h => by cases h), (fun h => by cases h), (fun h => by cases h), (fun h => by cases h), (fun h => by cases h), (fun h => by cases h), (fun h => by cases h), (fun h => by cases h), (fun h => by cases h), (fun h => by cases h), HC4.out, Below.drew HX4.out, HL.out.ext (Below.drew HX4.out)⟩
      · refine ⟨⟨⟨⟨⟨⟨⟨⟨⟨⟨⟨⟨⟨⟨⟨⟨trivial, ?_⟩, ?_⟩, ?_⟩, ?_⟩, ?_⟩, ?_⟩, ?_⟩, ?_⟩, ?_⟩, ?_⟩, ?_⟩, ?_⟩, ?_⟩, ?_⟩, ?_⟩, ?_⟩
        · refine stepOk_some (i := 0) (by rfl) (by rfl) ?_
          rintro u L T w' hT hu hL hp hcl ⟨C0, C1, C2, C3, C4, C5, C6, C7, C8, C9, C10, C11, C12, C13, C14, C15, H1, E1, L1⟩ K hK
          have e1 : u 1 = .pointer (some ⟨w.heap.size, 0, none⟩) := hu 1 (by decide)
          go_simp
          refine hK _ _ ?_
          exact ⟨fun _ => rfl, fun h => C1 (by simpa using h), fun h => C2 (by simpa using h), fun h => C3 (by simpa using h), fun h => C4 (by simpa using h), fun h => C5 (by simpa using h), fun h => C6 (by simpa using h), fun h => C7 (by simpa using h), fun h => C8 (by simpa using h), fun h => C9 (by simpa using h), fun h => C10 (by simpa using h), fun h => C11 (by simpa using h), fun h h2 => C12 (by simpa using h) (by simpa using h2), fun h => C13 (by simpa using h), fun h => C14 (by simpa using h), fun h => C15 (by simpa using h), H1, E1, L1⟩
        · refine stepOk_some (i := 1) (by rfl) (by rfl) ?_
          rintro u L T w' hT hu hL hp hcl ⟨C0, C1, C2, C3, C4, C5, C6, C7, C8, C9, C10, C11, C12, C13, C14, C15, H1, E1, L1⟩ K hK
          have e0 := C0 (hp.of 0 (by kernel_rfl))
          obtain ⟨d0, d1, d2, d3, d4⟩ := cells5 H1
          go_simp
          refine hK _ _ ?_
          exact ⟨fun h => C0 (by simpa using h), fun _ => rfl, fun h => C2 (by simpa using h), fun h => C3 (by simpa using h), fun h => C4 (by simpa using h), fun h => C5 (by simpa using h), fun h => C6 (by simpa using h), fun h => C7 (by simpa using h), fun h => C8 (by simpa using h), fun h => C9 (by simpa using h), fun h => C10 (by simpa using h), fun h => C11 (by simpa using h), fun h h2 => C12 (by simpa using h) (by simpa using h2), fun h => C13 (by simpa using h), fun h => C14 (by simpa using h), fun h => C15 (by simpa using h), H1, E1, L1⟩
        · refine stepOk_some (i := 2) (by rfl) (by rfl) ?_
          rintro u L T w' hT hu hL hp hcl ⟨C0, C1, C2, C3, C4, C5, C6, C7, C8, C9, C10, C11, C12, C13, C14, C15, H1, E1, L1⟩ K hK
          have e1 := C1 (hp.of 1 (by kernel_rfl))
          go_simp
          refine (fmtU_any n q1 _ L1).mono ?_
          rintro e w1 ⟨he, hx1⟩
          subst he
          refine hK _ _ ?_
          exact ⟨fun h => C0 (by simpa using h), fun h => C1 (by simpa using h), fun _ => rfl, fun h => C3 (by simpa using h), fun h => C4 (by simpa using h), fun h => C5 (by simpa using h), fun h => C6 (by simpa using h), fun h => C7 (by simpa using h), fun h => C8 (by simpa using h), fun h => C9 (by simpa using h), fun h => C10 (by simpa using h), fun h => C11 (by simpa using h), fun h h2 => by obtain ⟨g2, q1, q2⟩ := C12 (by simpa using h) (by simpa using h2); exact ⟨g2, q1, ext_at hx1 q2⟩, fun h => C13 (by simpa using h), fun h => C14 (by simpa using h), fun h => C15 (by simpa using h), ext_at hx1 (H1), ext_trans (E1) hx1, (L1).ext hx1⟩
        · refine stepOk_some (i := 3) (by rfl) (by rfl) ?_
          rintro u L T w' hT hu hL hp hcl ⟨C0, C1, C2, C3, C4, C5, C6, C7, C8, C9, C10, C11, C12, C13, C14, C15, H1, E1, L1⟩ K hK
          have e1 : u 1 = .pointer (some ⟨w.heap.size, 0, none⟩) := hu 1 (by decide)
          go_simp
          refine hK _ _ ?_
          exact ⟨fun h => C0 (by simpa using h), fun h => C1 (by simpa using h), fun h => C2 (by simpa using h), fun _ => rfl, fun h => C4 (by simpa using h), fun h => C5 (by simpa using h), fun h => C6 (by simpa using h), fun h => C7 (by simpa using h), fun h => C8 (by simpa using h), fun h => C9 (by simpa using h), fun h => C10 (by simpa using h), fun h => C11 (by simpa using h), fun h h2 => C12 (by simpa using h) (by simpa using h2), fun h => C13 (by simpa using h), fun h => C14 (by simpa using h), fun h => C15 (by simpa using h), H1, E1, L1⟩
        · refine stepOk_some (i := 4) (by rfl) (by rfl) ?_
          rintro u L T w' hT hu hL hp hcl ⟨C0, C1, C2, C3, C4, C5, C6, C7, C8, C9, C10, C11, C12, C13, C14, C15, H1, E1, L1⟩ K hK
          have e3 := C3 (hp.of 3 (by kernel_rfl))
          obtain ⟨d0, d1, d2, d3, d4⟩ := cells5 H1
          go_simp
          refine hK _ _ ?_
          exact ⟨fun h => C0 (by simpa using h), fun h => C1 (by simpa using h), fun h => C2 (by simpa using h), fun h => C3 (by simpa using h), fun _ => rfl, fun h => C5 (by simpa using h), fun h => C6 (by simpa using h), fun h => C7 (by simpa using h), fun h => C8 (by simpa using h), fun h => C9 (by simpa using h), fun h => C10 (by simpa using h), fun h => C11 (by simpa using h), fun h h2 => C12 (by simpa using h) (by simpa using h2), fun h => C13 (by simpa using h), fun h => C14 (by simpa using h), fun h => C15 (by simpa using h), H1, E1, L1⟩
        · refine stepOk_some (i := 5) (by rfl) (by rfl) ?_
          rintro u L T w' hT hu hL hp hcl ⟨C0, C1, C2, C3, C4, C5, C6, C7, C8, C9, C10, C11, C12, C13, C14, C15, H1, E1, L1⟩ K hK
          have e4 := C4 (hp.of 4 (by kernel_rfl))
          go_simp
          refine (fmtU_any tk q2 _ L1).mono ?_
          rintro e w1 ⟨he, hx1⟩
          subst he
          refine hK _ _ ?_
          exact ⟨fun h => C0 (by simpa using h), fun h => C1 (by simpa using h), fun h => C2 (by simpa using h), fun h => C3 (by simpa using h), fun h => C4 (by simpa using h), fun _ => rfl, fun h => C6 (by simpa using h), fun h => C7 (by simpa using h), fun h => C8 (by simpa using h), fun h => C9 (by simpa using h), fun h => C10 (by simpa using h), fun h => C11 (by simpa using h), fun h h2 => by obtain ⟨g2, q1, q2⟩ := C12 (by simpa using h) (by simpa using h2); exact ⟨g2, q1, ext_at hx1 q2⟩, fun h => C13 (by simpa using h), fun h => C14 (by simpa using h), fun h => C15 (by simpa using h), ext_at hx1 (H1), ext_trans (E1) hx1, (L1).ext hx1⟩
        · refine stepOk_some (i := 6) (by rfl) (by rfl) ?_
          rintro u L T w' hT hu hL hp hcl ⟨C0, C1, C2, C3, C4, C5, C6, C7, C8, C9, C10, C11, C12, C13, C14, C15, H1, E1, L1⟩ K hK
          have e1 : u 1 = .pointer (some ⟨w.heap.size, 0, none⟩) := hu 1 (by decide)
          go_simp
          refine hK _ _ ?_
          exact ⟨fun h => C0 (by simpa using h), fun h => C1 (by simpa using h), fun h => C2 (by simpa using h), fun h => C3 (by simpa using h), fun h => C4 (by simpa using h), fun h => C5 (by simpa using h), fun _ => rfl, fun h => C7 (by simpa using h), fun h => C8 (by simpa using h), fun h => C9 (by simpa using h), fun h => C10 (by simpa using h), fun h => C11 (by simpa using h), fun h h2 => C12 (by simpa using h) (by simpa using h2), fun h => C13 (by simpa using h), fun h => C14 (by simpa using h), fun h => C15 (by simpa using h), H1, E1, L1⟩
        · refine stepOk_some (i := 7) (by rfl) (by rfl) ?_
          rintro u L T w' hT hu hL hp hcl ⟨C0, C1, C2, C3, C4, C5, C6, C7, C8, C9, C10, C11, C12, C13, C14, C15, H1, E1, L1⟩ K hK
          have e6 := C6 (hp.of 6 (by kernel_rfl))
          obtain ⟨d0, d1, d2, d3, d4⟩ := cells5 H1
          go_simp
          refine hK _ _ ?_
          exact ⟨fun h => C0 (by simpa using h), fun h => C1 (by simpa using h), fun h => C2 (by simpa using h), fun h => C3 (by simpa using h), fun h => C4 (by simpa using h), fun h => C5 (by simpa using h), fun h => C6 (by simpa using h), fun _ => rfl, fun h => C8 (by simpa using h), fun h => C9 (by simpa using h), fun h => C10 (by simpa using h), fun h => C11 (by simpa using h), fun h h2 => C12 (by simpa using h) (by simpa using h2), fun h => C13 (by simpa using h), fun h => C14 (by simpa using h), fun h => C15 (by simpa using h), H1, E1, L1⟩
        · refine stepOk_some (i := 8) (by rfl) (by rfl) ?_
          rintro u L T w' hT hu hL hp hcl ⟨C0, C1, C2, C3, C4, C5, C6, C7, C8, C9, C10, C11, C12, C13, C14, C15, H1, E1, L1⟩ K hK
          have e1 : u 1 = .pointer (some ⟨w.heap.size, 0, none⟩) := hu 1 (by decide)
          go_simp
          refine hK _ _ ?_
          exact ⟨fun h => C0 (by simpa using h), fun h => C1 (by simpa using h), fun h => C2 (by simpa using h), fun h => C3 (by simpa using h), fun h => C4 (by simpa using h), fun h => C5 (by simpa using h), fun h => C6 (by simpa using h), fun h => C7 (by simpa using h), fun _ => rfl, fun h => C9 (by simpa using h), fun h => C10 (by simpa using h), fun h => C11 (by simpa using h), fun h h2 => C12 (by simpa using h) (by simpa using h2), fun h => C13 (by simpa using h), fun h => C14 (by simpa using h), fun h => C15 (by simpa using h), H1, E1, L1⟩
        · refine stepOk_some (i := 9) (by rfl) (by rfl) ?_
          rintro u L T w' hT hu hL hp hcl ⟨C0, C1, C2, C3, C4, C5, C6, C7, C8, C9, C10, C11, C12, C13, C14, C15, H1, E1, L1⟩ K hK
          have e8 := C8 (hp.of 8 (by kernel_rfl))
          obtain ⟨d0, d1, d2, d3, d4⟩ := cells5 H1
          go_simp
          refine hK _ _ ?_
          exact ⟨fun h => C0 (by simpa using h), fun h => C1 (by simpa using h), fun h => C2 (by simpa using h), fun h => C3 (by simpa using h), fun h => C4 (by simpa using h), fun h => C5 (by simpa using h), fun h => C6 (by simpa using h), fun h => C7 (by simpa using h), fun h => C8 (by simpa using h), fun _ => rfl, fun h => C10 (by simpa using h), fun h => C11 (by simpa using h), fun h h2 => C12 (by simpa using h) (by simpa using h2), fun h => C13 (by simpa using h), fun h => C14 (by simpa using h), fun h => C15 (by simpa using h), H1, E1, L1⟩
        · refine stepOk_some (i := 10) (by rfl) (by rfl) ?_
          rintro u L T w' hT hu hL hp hcl ⟨C0, C1, C2, C3, C4, C5, C6, C7, C8, C9, C10, C11, C12, C13, C14, C15, H1, E1, L1⟩ K hK
          have e9 := C9 (hp.of 9 (by kernel_rfl))
          go_simp
          refine (itoaT_any conn q3 q4 _ L1).mono ?_
          rintro e w1 ⟨he, hx1⟩
          subst he
          refine hK _ _ ?_
          exact ⟨fun h => C0 (by simpa using h), fun h => C1 (by simpa using h), fun h => C2 (by simpa using h), fun h => C3 (by simpa using h), fun h => C4 (by simpa using h), fun h => C5 (by simpa using h), fun h => C6 (by simpa using h), fun h => C7 (by simpa using h), fun h => C8 (by simpa using h), fun h => C9 (by simpa using h), fun _ => rfl, fun h => C11 (by simpa using h), fun h h2 => by obtain ⟨g2, q1, q2⟩ := C12 (by simpa using h) (by simpa using h2); exact ⟨g2, q1, ext_at hx1 q2⟩, fun h => C13 (by simpa using h), fun h => C14 (by simpa using h), fun h => C15 (by simpa using h), ext_at hx1 (H1), ext_trans (E1) hx1, (L1).ext hx1⟩
        · refine stepOk_some (i := 11) (by rfl) (by rfl) ?_
          rintro u L T w' hT hu hL hp hcl ⟨C0, C1, C2, C3, C4, C5, C6, C7, C8, C9, C10, C11, C12, C13, C14, C15, H1, E1, L1⟩ K hK
          have e1 : u 4 = Str ho := hu 4 (by decide)
          go_simp
          refine hK _ _ ?_
          exact ⟨fun h => C0 (by simpa using h), fun h => C1 (by simpa using h), fun h => C2 (by simpa using h), fun h => C3 (by simpa using h), fun h => C4 (by simpa using h), fun h => C5 (by simpa using h), fun h => C6 (by simpa using h), fun h => C7 (by simpa using h), fun h => C8 (by simpa using h), fun h => C9 (by simpa using h), fun h => C10 (by simpa using h), fun _ => rfl, fun h h2 => C12 (by simpa using h) (by simpa using h2), fun h => C13 (by simpa using h), fun h => C14 (by simpa using h), fun h => C15 (by simpa using h), H1, E1, L1⟩
        · refine stepOk_some (i := 12) (by rfl) (by rfl) ?_
          rintro u L T w' hT hu hL hp hcl ⟨C0, C1, C2, C3, C4, C5, C6, C7, C8, C9, C10, C11, C12, C13, C14, C15, H1, E1, L1⟩ K hK
          have e2 := C2 (hp.of 2 (by kernel_rfl))
          have e5 := C5 (hp.of 5 (by kernel_rfl))
          have e7 := C7 (hp.of 7 (by kernel_rfl))
          have e10 := C10 (hp.of 10 (by kernel_rfl))
          have e11 := C11 (hp.of 11 (by kernel_rfl))
          go_simp
          have hx1 : Ext w' (w'.alloc (.cells #[Str (Lib.decDigits n), Str (Lib.decDigits tk), Str kind, Str (Lib.itoa conn), Str ho] 9)) := Below.alloc (Below.refl _ _) (Nat.le_refl _) _
          refine hK _ _ ?_
          exact ⟨fun h => C0 (by simpa using h), fun h => C1 (by simpa using h), fun h => C2 (by simpa using h), fun h => C3 (by simpa using h), fun h => C4 (by simpa using h), fun h => C5 (by simpa using h), fun h => C6 (by simpa using h), fun h => C7 (by simpa using h), fun h => C8 (by simpa using h), fun h => C9 (by simpa using h), fun h => C10 (by simpa using h), fun h => C11 (by simpa using h), fun _ _ => ⟨_, rfl, Array.getElem?_push_size⟩, fun h => C13 (by simpa using h), fun h => C14 (by simpa using h), fun h => C15 (by simpa using h), ext_at hx1 (H1), ext_trans (E1) hx1, (L1).ext hx1⟩
        · refine stepOk_some (i := 13) (by rfl) (by rfl) ?_
          rintro u L T w' hT hu hL hp hcl ⟨C0, C1, C2, C3, C4, C5, C6, C7, C8, C9, C10, C11, C12, C13, C14, C15, H1, E1, L1⟩ K hK
          obtain ⟨g', e12, hg'⟩ := C12 (hp.of 12 (by kernel_rfl)) hL
          go_simp
          refine (join5 _ _ _ _ _ ln HJ.out HTL2.out _ _ hg').mono ?_
          rintro e w1 ⟨he, hx1⟩
          subst he
          refine hK _ _ ?_
          exact ⟨fun h => C0 (by simpa using h), fun h => C1 (by simpa using h), fun h => C2 (by simpa using h), fun h => C3 (by simpa using h), fun h => C4 (by simpa using h), fun h => C5 (by simpa using h), fun h => C6 (by simpa using h), fun h => C7 (by simpa using h), fun h => C8 (by simpa using h), fun h => C9 (by simpa using h), fun h => C10 (by simpa using h), fun h => C11 (by simpa using h), fun h h2 => absurd h2 (by simp), fun _ => rfl, fun h => C14 (by simpa using h), fun h => C15 (by simpa using h), ext_at hx1 (H1), ext_trans (E1) hx1, (L1).ext hx1⟩
        · refine stepOk_some (i := 14) (by rfl) (by rfl) ?_
          rintro u L T w' hT hu hL hp hcl ⟨C0, C1, C2, C3, C4, C5, C6, C7, C8, C9, C10, C11, C12, C13, C14, C15, H1, E1, L1⟩ K hK
          have e13 := C13 (hp.of 13 (by kernel_rfl))
          go_simp
          refine hK _ _ ?_
          exact ⟨fun h => C0 (by simpa using h), fun h => C1 (by simpa using h), fun h => C2 (by simpa using h), fun h => C3 (by simpa using h), fun h => C4 (by simpa using h), fun h => C5 (by simpa using h), fun h => C6 (by simpa using h), fun h => C7 (by simpa using h), fun h => C8 (by simpa using h), fun h => C9 (by simpa using h), fun h => C10 (by simpa using h), fun h => C11 (by simpa using h), fun h h2 => C12 (by simpa using h) (by simpa using h2), fun h => C13 (by simpa using h), fun _ => rfl, fun h => C15 (by simpa using h), H1, E1, L1⟩
        · refine stepOk_some (i := 15) (by rfl) (by rfl) ?_
          rintro u L T w' hT hu hL hp hcl ⟨C0, C1, C2, C3, C4, C5, C6, C7, C8, C9, C10, C11, C12, C13, C14, C15, H1, E1, L1⟩ K hK
          go_simp
          refine hK _ _ ?_
          exact ⟨fun h => C0 (by simpa using h), fun h => C1 (by simpa using h), fun h => C2 (by simpa using h), fun h => C3 (by simpa using h), fun h => C4 (by simpa using h), fun h => C5 (by simpa using h), fun h => C6 (by simpa using h), fun h => C7 (by simpa using h), fun h => C8 (by simpa using h), fun h => C9 (by simpa using h), fun h => C10 (by simpa using h), fun h => C11 (by simpa using h), fun h h2 => C12 (by simpa using h) (by simpa using h2), fun h => C13 (by simpa using h), fun h => C14 (by simpa using h), fun _ => rfl, H1, E1, L1⟩
      · rintro u L w' hall hu ⟨C0, C1, C2, C3, C4, C5, C6, C7, C8, C9, C10, C11, C12, C13, C14, C15, H1, E1, L1⟩
        replace C0 := C0 (hall 0 (by omega))
        replace C1 := C1 (hall 1 (by omega))
        replace C2 := C2 (hall 2 (by omega))
        replace C3 := C3 (hall 3 (by omega))
        replace C4 := C4 (hall 4 (by omega))
        replace C5 := C5 (hall 5 (by omega))
        replace C6 := C6 (hall 6 (by omega))
        replace C7 := C7 (hall 7 (by omega))
        replace C8 := C8 (hall 8 (by omega))
        replace C9 := C9 (hall 9 (by omega))
        replace C10 := C10 (hall 10 (by omega))
        replace C11 := C11 (hall 11 (by omega))
        replace C13 := C13 (hall 13 (by omega))
        replace C14 := C14 (hall 14 (by omega))
        replace C15 := C15 (hall 15 (by omega))
        simp only [fill, List.setIfInBounds_toArray, List.set_cons_succ, List.set_cons_zero, C0, C1, C2, C3, C4, C5, C6, C7, C8, C9, C10, C11, C13, C14, C15]
        generalize u 26 = s0 at *
        clear C0 C1 C2 C3 C4 C5 C6 C7 C8 C9 C10 C11 C12 C13 C14 C15 hu hall
      -- end inv
        have HX5 := Lib.hid E1
        clear H1 E1 L1
        go_wp2
        go_ret2
        exact ⟨rfl, HX5.out⟩
end Go.Proofs.YtpndahmlbjhdfaaDoor
