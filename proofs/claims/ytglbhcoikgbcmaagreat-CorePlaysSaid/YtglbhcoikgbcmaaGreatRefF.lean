/- What Do of the document's graph comes to, for entries that change, and Same and Nil. Conditions: what change comes to; a graph as New makes it. -/
import Derived.Test.YtglbhcoikgbcmaaGreatRows
import Derived.Test.YtglbhcoikgbcmaaGreatRefB
import Derived.Test.YtglbhcoikgbcmaaGreatRefC
import Derived.BigRegion
set_option linter.unusedVariables false
set_option linter.unusedSimpArgs false
namespace Go.Proofs.YtglbhcoikgbcmaaGreat
open Go.RowKit

set_option maxRecDepth 100000 in
set_option maxHeartbeats 2000000 in
theorem rdo_1 (p : Nat) (a b c v E : Int) (w : World) (h : Hp) (Q : Hp → Prop) (hi : In w h)
    (hcall : ∀ W, In W h → Calls Tryz.prog 31 #[.pointer (some ⟨p, 0, none⟩), .agg (stepCells ⟨1, a, b, c, v⟩)] W fun en w' => en = .returned (.int .i64 E) ∧ ∃ h', Q h' ∧ Upd h h' W w') :
    Calls Tryz.prog 9 #[.pointer (some ⟨p, 0, none⟩), .agg (stepCells ⟨1, a, b, c, v⟩)] w fun en w' => en = .returned (.agg (ansCells ⟨E, false, 0, 0⟩)) ∧ ∃ h', Q h' ∧ Upd h h' w w' := by
  have U0 := (((Upd.refl hi).alloc' (.cells (stepCells ⟨1, a, b, c, v⟩) 35 (0, 0))).alloc' (.cells (ansCells ans0) 37 (0, 0)))
  rw [show (w.alloc (.cells (stepCells ⟨1, a, b, c, v⟩) 35 (0, 0))).heap.size = w.heap.size + 1 by simp] at U0
  have hcall1 := hcall _ U0.inn.tail.tail
  have HQ := Lib.hid hcall
  clear hcall
  simp only [stepCells, ansCells, ans0] at *
  go_enter Tryz.func9, Tryz.ntmps9
  go_wp2_with (go_at_call 31; refine Calls.mono hcall1 ?_; rintro en w1 ⟨rfl, h', hq, u1⟩; have U1 := Upd.underL (x := [(w.heap.size + 1, .cells (ansCells ans0) 37 (0, 0)), (w.heap.size, .cells (stepCells ⟨1, a, b, c, v⟩) 35 (0, 0))]) U0 u1; obtain ⟨d0, d1, d2, d3⟩ := ans_cells (x := ans0) U1.inn.head; obtain ⟨f0, f1, f2, f3⟩ := ans_frozen (x := ans0) U1.inn.head; simp only [ans0] at d0 d1 d2 d3)
  have UF := Upd.ans4 (x := ans0) U1 ⟨E, false, 0, 0⟩
  have G := ans_cells UF.inn.head
  simp only at G
  obtain ⟨g0, g1, g2, g3⟩ := G
  clear d0 d1 d2 d3 f0 f1 f2 f3
  refine bodyPost_ret (v := .agg (ansCells ⟨E, false, 0, 0⟩)) ?_ rfl ⟨rfl, h', hq, UF.drop1.drop1⟩
  simp only [results, Tryz.results9]
  simp [go_sem, ansCells, g0, g1, g2, g3]

set_option maxRecDepth 100000 in
set_option maxHeartbeats 2000000 in
theorem rdo_2 (p : Nat) (a b c v E : Int) (w : World) (h : Hp) (Q : Hp → Prop) (hi : In w h)
    (hcall : ∀ W, In W h → Calls Tryz.prog 31 #[.pointer (some ⟨p, 0, none⟩), .agg (stepCells ⟨2, a, b, c, v⟩)] W fun en w' => en = .returned (.int .i64 E) ∧ ∃ h', Q h' ∧ Upd h h' W w') :
    Calls Tryz.prog 9 #[.pointer (some ⟨p, 0, none⟩), .agg (stepCells ⟨2, a, b, c, v⟩)] w fun en w' => en = .returned (.agg (ansCells ⟨E, false, 0, 0⟩)) ∧ ∃ h', Q h' ∧ Upd h h' w w' := by
  have U0 := (((Upd.refl hi).alloc' (.cells (stepCells ⟨2, a, b, c, v⟩) 35 (0, 0))).alloc' (.cells (ansCells ans0) 37 (0, 0)))
  rw [show (w.alloc (.cells (stepCells ⟨2, a, b, c, v⟩) 35 (0, 0))).heap.size = w.heap.size + 1 by simp] at U0
  have hcall1 := hcall _ U0.inn.tail.tail
  have HQ := Lib.hid hcall
  clear hcall
  simp only [stepCells, ansCells, ans0] at *
  go_enter Tryz.func9, Tryz.ntmps9
  go_wp2_with (go_at_call 31; refine Calls.mono hcall1 ?_; rintro en w1 ⟨rfl, h', hq, u1⟩; have U1 := Upd.underL (x := [(w.heap.size + 1, .cells (ansCells ans0) 37 (0, 0)), (w.heap.size, .cells (stepCells ⟨2, a, b, c, v⟩) 35 (0, 0))]) U0 u1; obtain ⟨d0, d1, d2, d3⟩ := ans_cells (x := ans0) U1.inn.head; obtain ⟨f0, f1, f2, f3⟩ := ans_frozen (x := ans0) U1.inn.head; simp only [ans0] at d0 d1 d2 d3)
  have UF := Upd.ans4 (x := ans0) U1 ⟨E, false, 0, 0⟩
  have G := ans_cells UF.inn.head
  simp only at G
  obtain ⟨g0, g1, g2, g3⟩ := G
  clear d0 d1 d2 d3 f0 f1 f2 f3
  refine bodyPost_ret (v := .agg (ansCells ⟨E, false, 0, 0⟩)) ?_ rfl ⟨rfl, h', hq, UF.drop1.drop1⟩
  simp only [results, Tryz.results9]
  simp [go_sem, ansCells, g0, g1, g2, g3]

set_option maxRecDepth 100000 in
set_option maxHeartbeats 2000000 in
theorem rdo_3 (p : Nat) (a b c v E : Int) (w : World) (h : Hp) (Q : Hp → Prop) (hi : In w h)
    (hcall : ∀ W, In W h → Calls Tryz.prog 31 #[.pointer (some ⟨p, 0, none⟩), .agg (stepCells ⟨3, a, b, c, v⟩)] W fun en w' => en = .returned (.int .i64 E) ∧ ∃ h', Q h' ∧ Upd h h' W w') :
    Calls Tryz.prog 9 #[.pointer (some ⟨p, 0, none⟩), .agg (stepCells ⟨3, a, b, c, v⟩)] w fun en w' => en = .returned (.agg (ansCells ⟨E, false, 0, 0⟩)) ∧ ∃ h', Q h' ∧ Upd h h' w w' := by
  have U0 := (((Upd.refl hi).alloc' (.cells (stepCells ⟨3, a, b, c, v⟩) 35 (0, 0))).alloc' (.cells (ansCells ans0) 37 (0, 0)))
  rw [show (w.alloc (.cells (stepCells ⟨3, a, b, c, v⟩) 35 (0, 0))).heap.size = w.heap.size + 1 by simp] at U0
  have hcall1 := hcall _ U0.inn.tail.tail
  have HQ := Lib.hid hcall
  clear hcall
  simp only [stepCells, ansCells, ans0] at *
  go_enter Tryz.func9, Tryz.ntmps9
  go_wp2_with (go_at_call 31; refine Calls.mono hcall1 ?_; rintro en w1 ⟨rfl, h', hq, u1⟩; have U1 := Upd.underL (x := [(w.heap.size + 1, .cells (ansCells ans0) 37 (0, 0)), (w.heap.size, .cells (stepCells ⟨3, a, b, c, v⟩) 35 (0, 0))]) U0 u1; obtain ⟨d0, d1, d2, d3⟩ := ans_cells (x := ans0) U1.inn.head; obtain ⟨f0, f1, f2, f3⟩ := ans_frozen (x := ans0) U1.inn.head; simp only [ans0] at d0 d1 d2 d3)
  have UF := Upd.ans4 (x := ans0) U1 ⟨E, false, 0, 0⟩
  have G := ans_cells UF.inn.head
  simp only at G
  obtain ⟨g0, g1, g2, g3⟩ := G
  clear d0 d1 d2 d3 f0 f1 f2 f3
  refine bodyPost_ret (v := .agg (ansCells ⟨E, false, 0, 0⟩)) ?_ rfl ⟨rfl, h', hq, UF.drop1.drop1⟩
  simp only [results, Tryz.results9]
  simp [go_sem, ansCells, g0, g1, g2, g3]

set_option maxRecDepth 100000 in
set_option maxHeartbeats 2000000 in
theorem rdo_5 (p : Nat) (a b c v E : Int) (w : World) (h : Hp) (Q : Hp → Prop) (hi : In w h)
    (hcall : ∀ W, In W h → Calls Tryz.prog 31 #[.pointer (some ⟨p, 0, none⟩), .agg (stepCells ⟨5, a, b, c, v⟩)] W fun en w' => en = .returned (.int .i64 E) ∧ ∃ h', Q h' ∧ Upd h h' W w') :
    Calls Tryz.prog 9 #[.pointer (some ⟨p, 0, none⟩), .agg (stepCells ⟨5, a, b, c, v⟩)] w fun en w' => en = .returned (.agg (ansCells ⟨E, false, 0, 0⟩)) ∧ ∃ h', Q h' ∧ Upd h h' w w' := by
  have U0 := (((Upd.refl hi).alloc' (.cells (stepCells ⟨5, a, b, c, v⟩) 35 (0, 0))).alloc' (.cells (ansCells ans0) 37 (0, 0)))
  rw [show (w.alloc (.cells (stepCells ⟨5, a, b, c, v⟩) 35 (0, 0))).heap.size = w.heap.size + 1 by simp] at U0
  have hcall1 := hcall _ U0.inn.tail.tail
  have HQ := Lib.hid hcall
  clear hcall
  simp only [stepCells, ansCells, ans0] at *
  go_enter Tryz.func9, Tryz.ntmps9
  go_wp2_with (go_at_call 31; refine Calls.mono hcall1 ?_; rintro en w1 ⟨rfl, h', hq, u1⟩; have U1 := Upd.underL (x := [(w.heap.size + 1, .cells (ansCells ans0) 37 (0, 0)), (w.heap.size, .cells (stepCells ⟨5, a, b, c, v⟩) 35 (0, 0))]) U0 u1; obtain ⟨d0, d1, d2, d3⟩ := ans_cells (x := ans0) U1.inn.head; obtain ⟨f0, f1, f2, f3⟩ := ans_frozen (x := ans0) U1.inn.head; simp only [ans0] at d0 d1 d2 d3)
  have UF := Upd.ans4 (x := ans0) U1 ⟨E, false, 0, 0⟩
  have G := ans_cells UF.inn.head
  simp only at G
  obtain ⟨g0, g1, g2, g3⟩ := G
  clear d0 d1 d2 d3 f0 f1 f2 f3
  refine bodyPost_ret (v := .agg (ansCells ⟨E, false, 0, 0⟩)) ?_ rfl ⟨rfl, h', hq, UF.drop1.drop1⟩
  simp only [results, Tryz.results9]
  simp [go_sem, ansCells, g0, g1, g2, g3]

set_option maxRecDepth 100000 in
set_option maxHeartbeats 2000000 in
theorem rdo_6 (p : Nat) (a b c v E : Int) (w : World) (h : Hp) (Q : Hp → Prop) (hi : In w h)
    (hcall : ∀ W, In W h → Calls Tryz.prog 31 #[.pointer (some ⟨p, 0, none⟩), .agg (stepCells ⟨6, a, b, c, v⟩)] W fun en w' => en = .returned (.int .i64 E) ∧ ∃ h', Q h' ∧ Upd h h' W w') :
    Calls Tryz.prog 9 #[.pointer (some ⟨p, 0, none⟩), .agg (stepCells ⟨6, a, b, c, v⟩)] w fun en w' => en = .returned (.agg (ansCells ⟨E, false, 0, 0⟩)) ∧ ∃ h', Q h' ∧ Upd h h' w w' := by
  have U0 := (((Upd.refl hi).alloc' (.cells (stepCells ⟨6, a, b, c, v⟩) 35 (0, 0))).alloc' (.cells (ansCells ans0) 37 (0, 0)))
  rw [show (w.alloc (.cells (stepCells ⟨6, a, b, c, v⟩) 35 (0, 0))).heap.size = w.heap.size + 1 by simp] at U0
  have hcall1 := hcall _ U0.inn.tail.tail
  have HQ := Lib.hid hcall
  clear hcall
  simp only [stepCells, ansCells, ans0] at *
  go_enter Tryz.func9, Tryz.ntmps9
  go_wp2_with (go_at_call 31; refine Calls.mono hcall1 ?_; rintro en w1 ⟨rfl, h', hq, u1⟩; have U1 := Upd.underL (x := [(w.heap.size + 1, .cells (ansCells ans0) 37 (0, 0)), (w.heap.size, .cells (stepCells ⟨6, a, b, c, v⟩) 35 (0, 0))]) U0 u1; obtain ⟨d0, d1, d2, d3⟩ := ans_cells (x := ans0) U1.inn.head; obtain ⟨f0, f1, f2, f3⟩ := ans_frozen (x := ans0) U1.inn.head; simp only [ans0] at d0 d1 d2 d3)
  have UF := Upd.ans4 (x := ans0) U1 ⟨E, false, 0, 0⟩
  have G := ans_cells UF.inn.head
  simp only at G
  obtain ⟨g0, g1, g2, g3⟩ := G
  clear d0 d1 d2 d3 f0 f1 f2 f3
  refine bodyPost_ret (v := .agg (ansCells ⟨E, false, 0, 0⟩)) ?_ rfl ⟨rfl, h', hq, UF.drop1.drop1⟩
  simp only [results, Tryz.results9]
  simp [go_sem, ansCells, g0, g1, g2, g3]

set_option maxRecDepth 100000 in
set_option maxHeartbeats 2000000 in
theorem rdo_7 (p : Nat) (a b c v E : Int) (w : World) (h : Hp) (Q : Hp → Prop) (hi : In w h)
    (hcall : ∀ W, In W h → Calls Tryz.prog 31 #[.pointer (some ⟨p, 0, none⟩), .agg (stepCells ⟨7, a, b, c, v⟩)] W fun en w' => en = .returned (.int .i64 E) ∧ ∃ h', Q h' ∧ Upd h h' W w') :
    Calls Tryz.prog 9 #[.pointer (some ⟨p, 0, none⟩), .agg (stepCells ⟨7, a, b, c, v⟩)] w fun en w' => en = .returned (.agg (ansCells ⟨E, false, 0, 0⟩)) ∧ ∃ h', Q h' ∧ Upd h h' w w' := by
  have U0 := (((Upd.refl hi).alloc' (.cells (stepCells ⟨7, a, b, c, v⟩) 35 (0, 0))).alloc' (.cells (ansCells ans0) 37 (0, 0)))
  rw [show (w.alloc (.cells (stepCells ⟨7, a, b, c, v⟩) 35 (0, 0))).heap.size = w.heap.size + 1 by simp] at U0
  have hcall1 := hcall _ U0.inn.tail.tail
  have HQ := Lib.hid hcall
  clear hcall
  simp only [stepCells, ansCells, ans0] at *
  go_enter Tryz.func9, Tryz.ntmps9
  go_wp2_with (go_at_call 31; refine Calls.mono hcall1 ?_; rintro en w1 ⟨rfl, h', hq, u1⟩; have U1 := Upd.underL (x := [(w.heap.size + 1, .cells (ansCells ans0) 37 (0, 0)), (w.heap.size, .cells (stepCells ⟨7, a, b, c, v⟩) 35 (0, 0))]) U0 u1; obtain ⟨d0, d1, d2, d3⟩ := ans_cells (x := ans0) U1.inn.head; obtain ⟨f0, f1, f2, f3⟩ := ans_frozen (x := ans0) U1.inn.head; simp only [ans0] at d0 d1 d2 d3)
  have UF := Upd.ans4 (x := ans0) U1 ⟨E, false, 0, 0⟩
  have G := ans_cells UF.inn.head
  simp only at G
  obtain ⟨g0, g1, g2, g3⟩ := G
  clear d0 d1 d2 d3 f0 f1 f2 f3
  refine bodyPost_ret (v := .agg (ansCells ⟨E, false, 0, 0⟩)) ?_ rfl ⟨rfl, h', hq, UF.drop1.drop1⟩
  simp only [results, Tryz.results9]
  simp [go_sem, ansCells, g0, g1, g2, g3]


end Go.Proofs.YtglbhcoikgbcmaaGreat
