/- What do of the statements' package comes to, from what the call it makes comes to. Conditions: that call's contract. -/
import Derived.Test.YtglbhcoikgbcmaaGreatRows
import Derived.Test.YtglbhcoikgbcmaaGreatLib
import Derived.Test.YtglbhcoikgbcmaaGreatLawC
set_option linter.unusedVariables false
set_option linter.unusedSimpArgs false
namespace Go.Proofs.YtglbhcoikgbcmaaGreat
open Go.RowKit

/-- an entry of a script -/
structure StepS where
  kind : Int
  a : Int
  b : Int
  c : Int
  v : Int
/-- what it comes to -/
structure AnsS where
  e : Int
  yes : Bool
  n : Int
  v : Int
deriving DecidableEq
def stepCells (s : StepS) : Array Value := #[.int .i64 s.kind, .int .i64 s.a, .int .i64 s.b, .int .i64 s.c, .int .u64 s.v]
def ansCells (x : AnsS) : Array Value := #[.int .i64 x.e, .bool x.yes, .int .i64 x.n, .int .u64 x.v]
def ans0 : AnsS := ⟨0, false, 0, 0⟩

theorem ans_cells {w : World} {b : Nat} {x : AnsS} {T : TypeId} (h : w.heap[b]? = some (.cells (ansCells x) T (0, 0))) :
    w.cell? ⟨b, 0, none⟩ = some (.int .i64 x.e) ∧ w.cell? ⟨b, 1, none⟩ = some (.bool x.yes) ∧ w.cell? ⟨b, 2, none⟩ = some (.int .i64 x.n) ∧ w.cell? ⟨b, 3, none⟩ = some (.int .u64 x.v) :=
  ⟨cell_of h 0, cell_of h 1, cell_of h 2, cell_of h 3⟩
theorem ans_frozen {w : World} {b : Nat} {x : AnsS} {T : TypeId} (h : w.heap[b]? = some (.cells (ansCells x) T (0, 0))) :
    w.frozen? ⟨b, 0, none⟩ = false ∧ w.frozen? ⟨b, 1, none⟩ = false ∧ w.frozen? ⟨b, 2, none⟩ = false ∧ w.frozen? ⟨b, 3, none⟩ = false :=
  ⟨frozen_of h 0, frozen_of h 1, frozen_of h 2, frozen_of h 3⟩
theorem step_cells {w : World} {b : Nat} {x : StepS} {T : TypeId} (h : w.heap[b]? = some (.cells (stepCells x) T (0, 0))) :
    w.cell? ⟨b, 0, none⟩ = some (.int .i64 x.kind) ∧ w.cell? ⟨b, 1, none⟩ = some (.int .i64 x.a) ∧ w.cell? ⟨b, 2, none⟩ = some (.int .i64 x.b) ∧ w.cell? ⟨b, 3, none⟩ = some (.int .i64 x.c) ∧ w.cell? ⟨b, 4, none⟩ = some (.int .u64 x.v) :=
  ⟨cell_of h 0, cell_of h 1, cell_of h 2, cell_of h 3, cell_of h 4⟩

theorem Upd.underL {w0 w w' : World} {h0 x h h' : Hp} (a : Upd h0 (x ++ h) w0 w) (u : Upd h h' w w') : Upd h0 (x ++ h') w0 w' := by
  have u2 := u.beside (k := x) (a.inn.perm List.perm_append_comm)
  exact a.trans (u2.perm List.perm_append_comm List.perm_append_comm)

theorem Upd.ans4 {w0 w : World} {h r : Hp} {b : Nat} {x : AnsS} {T : TypeId} {fr : Nat × Nat} (a : Upd h ((b, .cells (ansCells x) T fr) :: r) w0 w) (y : AnsS) :
    Upd h ((b, .cells (ansCells y) T fr) :: r) w0 ((((w.setCell ⟨b, 0, none⟩ (.int .i64 y.e)).setCell ⟨b, 1, none⟩ (.bool y.yes)).setCell ⟨b, 2, none⟩ (.int .i64 y.n)).setCell ⟨b, 3, none⟩ (.int .u64 y.v)) :=
  (((a.store1 0 (.int .i64 y.e)).store1 1 (.bool y.yes)).store1 2 (.int .i64 y.n)).store1 3 (.int .u64 y.v)
theorem Upd.ansE {w0 w : World} {h r : Hp} {b : Nat} {x : AnsS} {T : TypeId} {fr : Nat × Nat} (a : Upd h ((b, .cells (ansCells x) T fr) :: r) w0 w) (y : Int) :
    Upd h ((b, .cells (ansCells { x with e := y }) T fr) :: r) w0 (w.setCell ⟨b, 0, none⟩ (.int .i64 y)) := a.store1 0 _
theorem Upd.ansY {w0 w : World} {h r : Hp} {b : Nat} {x : AnsS} {T : TypeId} {fr : Nat × Nat} (a : Upd h ((b, .cells (ansCells x) T fr) :: r) w0 w) (y : Bool) :
    Upd h ((b, .cells (ansCells { x with yes := y }) T fr) :: r) w0 (w.setCell ⟨b, 1, none⟩ (.bool y)) := a.store1 1 _
theorem Upd.ansN {w0 w : World} {h r : Hp} {b : Nat} {x : AnsS} {T : TypeId} {fr : Nat × Nat} (a : Upd h ((b, .cells (ansCells x) T fr) :: r) w0 w) (y : Int) :
    Upd h ((b, .cells (ansCells { x with n := y }) T fr) :: r) w0 (w.setCell ⟨b, 2, none⟩ (.int .i64 y)) := a.store1 2 _
theorem Upd.ansV {w0 w : World} {h r : Hp} {b : Nat} {x : AnsS} {T : TypeId} {fr : Nat × Nat} (a : Upd h ((b, .cells (ansCells x) T fr) :: r) w0 w) (y : Int) :
    Upd h ((b, .cells (ansCells { x with v := y }) T fr) :: r) w0 (w.setCell ⟨b, 3, none⟩ (.int .u64 y)) := a.store1 3 _

set_option maxRecDepth 100000 in
set_option maxHeartbeats 2000000 in
theorem do_make (R : Value) (a b c v : Int) (e : Int) (w : World) (h : Hp) (Q : Hp → Prop) (hi : In w h)
    (hcall : ∀ W, In W h → Calls Tryz.prog 21 #[R, .int .i64 a, .int .i64 b, .int .i64 c] W fun en w' => en = .returned (.int .i64 e) ∧ ∃ h', Q h' ∧ Upd h h' W w') :
    Calls Tryz.prog 8 #[R, .agg (stepCells ⟨1, a, b, c, v⟩)] w fun en w' => en = .returned (.agg (ansCells ⟨e, false, 0, 0⟩)) ∧ ∃ h', Q h' ∧ Upd h h' w w' := by
  have U0 := (((Upd.refl hi).alloc' (.cells (stepCells ⟨1, a, b, c, v⟩) 35 (0, 0))).alloc' (.cells (ansCells ans0) 37 (0, 0))).alloc' (.cells (ansCells ans0) 37 (0, 0))
  have hs1 : (w.alloc (.cells (stepCells ⟨1, a, b, c, v⟩) 35 (0, 0))).heap.size = w.heap.size + 1 := by simp
  have hs2 : ((w.alloc (.cells (stepCells ⟨1, a, b, c, v⟩) 35 (0, 0))).alloc (.cells (ansCells ans0) 37 (0, 0))).heap.size = w.heap.size + 1 + 1 := by simp
  rw [hs1, hs2] at U0
  clear hs1 hs2
  have hi0 := U0.inn.tail.tail.tail
  have hcall1 := hcall _ hi0
  have HQ := Lib.hid hcall
  clear hcall
  have hn1 : w.heap.size + 1 + 1 ≠ w.heap.size + 1 := by omega
  have hn2 : w.heap.size + 1 ≠ w.heap.size + 1 + 1 := by omega
  simp only [stepCells, ansCells, ans0] at *
  go_enter Tryz.func8, Tryz.ntmps8
  go_wp2_with (go_at_call 21; refine Calls.mono hcall1 ?_; rintro en w1 ⟨rfl, h', hq, u1⟩; have U1 := Upd.underL (x := [(w.heap.size + 1 + 1, .cells (ansCells ans0) 37 (0, 0)), (w.heap.size + 1, .cells (ansCells ans0) 37 (0, 0)), (w.heap.size, .cells (stepCells ⟨1, a, b, c, v⟩) 35 (0, 0))]) U0 u1; obtain ⟨d0, d1, d2, d3⟩ := ans_cells (x := ans0) U1.inn.head; obtain ⟨f0, f1, f2, f3⟩ := ans_frozen (x := ans0) U1.inn.head; obtain ⟨e0, e1, e2, e3⟩ := ans_cells (x := ans0) U1.inn.tail.head; obtain ⟨k0, k1, k2, k3⟩ := ans_frozen (x := ans0) U1.inn.tail.head; simp only [ans0] at d0 d1 d2 d3 e0 e1 e2 e3)
  have UF := Upd.ans4 (x := ans0) (U1.ansE e).drop1 ⟨e, false, 0, 0⟩
  have G := ans_cells UF.inn.head
  simp only at G
  obtain ⟨g0, g1, g2, g3⟩ := G
  clear d0 d1 d2 d3 e0 e1 e2 e3 f0 f1 f2 f3 k0 k1 k2 k3
  refine bodyPost_ret (v := .agg (ansCells ⟨e, false, 0, 0⟩)) ?_ rfl ⟨rfl, h', hq, UF.drop1.drop1⟩
  simp only [results, Tryz.results8]
  simp [go_sem, ansCells, g0, g1, g2, g3]

set_option maxRecDepth 100000 in
set_option maxHeartbeats 2000000 in
theorem do_get (R : Value) (a b c v : Int) (e : Int) (w : World) (h : Hp) (Q : Hp → Prop) (hi : In w h)
    (hcall : ∀ W, In W h → Calls Tryz.prog 24 #[R, .int .i64 a, .int .i64 b, .int .i64 c] W fun en w' => en = .returned (.int .i64 e) ∧ ∃ h', Q h' ∧ Upd h h' W w') :
    Calls Tryz.prog 8 #[R, .agg (stepCells ⟨2, a, b, c, v⟩)] w fun en w' => en = .returned (.agg (ansCells ⟨e, false, 0, 0⟩)) ∧ ∃ h', Q h' ∧ Upd h h' w w' := by
  have U0 := (((Upd.refl hi).alloc' (.cells (stepCells ⟨2, a, b, c, v⟩) 35 (0, 0))).alloc' (.cells (ansCells ans0) 37 (0, 0))).alloc' (.cells (ansCells ans0) 37 (0, 0))
  have hs1 : (w.alloc (.cells (stepCells ⟨2, a, b, c, v⟩) 35 (0, 0))).heap.size = w.heap.size + 1 := by simp
  have hs2 : ((w.alloc (.cells (stepCells ⟨2, a, b, c, v⟩) 35 (0, 0))).alloc (.cells (ansCells ans0) 37 (0, 0))).heap.size = w.heap.size + 1 + 1 := by simp
  rw [hs1, hs2] at U0
  clear hs1 hs2
  have hi0 := U0.inn.tail.tail.tail
  have hcall1 := hcall _ hi0
  have HQ := Lib.hid hcall
  clear hcall
  have hn1 : w.heap.size + 1 + 1 ≠ w.heap.size + 1 := by omega
  have hn2 : w.heap.size + 1 ≠ w.heap.size + 1 + 1 := by omega
  simp only [stepCells, ansCells, ans0] at *
  go_enter Tryz.func8, Tryz.ntmps8
  go_wp2_with (go_at_call 24; refine Calls.mono hcall1 ?_; rintro en w1 ⟨rfl, h', hq, u1⟩; have U1 := Upd.underL (x := [(w.heap.size + 1 + 1, .cells (ansCells ans0) 37 (0, 0)), (w.heap.size + 1, .cells (ansCells ans0) 37 (0, 0)), (w.heap.size, .cells (stepCells ⟨2, a, b, c, v⟩) 35 (0, 0))]) U0 u1; obtain ⟨d0, d1, d2, d3⟩ := ans_cells (x := ans0) U1.inn.head; obtain ⟨f0, f1, f2, f3⟩ := ans_frozen (x := ans0) U1.inn.head; obtain ⟨e0, e1, e2, e3⟩ := ans_cells (x := ans0) U1.inn.tail.head; obtain ⟨k0, k1, k2, k3⟩ := ans_frozen (x := ans0) U1.inn.tail.head; simp only [ans0] at d0 d1 d2 d3 e0 e1 e2 e3)
  have UF := Upd.ans4 (x := ans0) (U1.ansE e).drop1 ⟨e, false, 0, 0⟩
  have G := ans_cells UF.inn.head
  simp only at G
  obtain ⟨g0, g1, g2, g3⟩ := G
  clear d0 d1 d2 d3 e0 e1 e2 e3 f0 f1 f2 f3 k0 k1 k2 k3
  refine bodyPost_ret (v := .agg (ansCells ⟨e, false, 0, 0⟩)) ?_ rfl ⟨rfl, h', hq, UF.drop1.drop1⟩
  simp only [results, Tryz.results8]
  simp [go_sem, ansCells, g0, g1, g2, g3]

set_option maxRecDepth 100000 in
set_option maxHeartbeats 2000000 in
theorem do_set (R : Value) (a b c v : Int) (e : Int) (w : World) (h : Hp) (Q : Hp → Prop) (hi : In w h)
    (hcall : ∀ W, In W h → Calls Tryz.prog 22 #[R, .int .i64 a, .int .i64 b, .int .i64 c] W fun en w' => en = .returned (.int .i64 e) ∧ ∃ h', Q h' ∧ Upd h h' W w') :
    Calls Tryz.prog 8 #[R, .agg (stepCells ⟨3, a, b, c, v⟩)] w fun en w' => en = .returned (.agg (ansCells ⟨e, false, 0, 0⟩)) ∧ ∃ h', Q h' ∧ Upd h h' w w' := by
  have U0 := (((Upd.refl hi).alloc' (.cells (stepCells ⟨3, a, b, c, v⟩) 35 (0, 0))).alloc' (.cells (ansCells ans0) 37 (0, 0))).alloc' (.cells (ansCells ans0) 37 (0, 0))
  have hs1 : (w.alloc (.cells (stepCells ⟨3, a, b, c, v⟩) 35 (0, 0))).heap.size = w.heap.size + 1 := by simp
  have hs2 : ((w.alloc (.cells (stepCells ⟨3, a, b, c, v⟩) 35 (0, 0))).alloc (.cells (ansCells ans0) 37 (0, 0))).heap.size = w.heap.size + 1 + 1 := by simp
  rw [hs1, hs2] at U0
  clear hs1 hs2
  have hi0 := U0.inn.tail.tail.tail
  have hcall1 := hcall _ hi0
  have HQ := Lib.hid hcall
  clear hcall
  have hn1 : w.heap.size + 1 + 1 ≠ w.heap.size + 1 := by omega
  have hn2 : w.heap.size + 1 ≠ w.heap.size + 1 + 1 := by omega
  simp only [stepCells, ansCells, ans0] at *
  go_enter Tryz.func8, Tryz.ntmps8
  go_wp2_with (go_at_call 22; refine Calls.mono hcall1 ?_; rintro en w1 ⟨rfl, h', hq, u1⟩; have U1 := Upd.underL (x := [(w.heap.size + 1 + 1, .cells (ansCells ans0) 37 (0, 0)), (w.heap.size + 1, .cells (ansCells ans0) 37 (0, 0)), (w.heap.size, .cells (stepCells ⟨3, a, b, c, v⟩) 35 (0, 0))]) U0 u1; obtain ⟨d0, d1, d2, d3⟩ := ans_cells (x := ans0) U1.inn.head; obtain ⟨f0, f1, f2, f3⟩ := ans_frozen (x := ans0) U1.inn.head; obtain ⟨e0, e1, e2, e3⟩ := ans_cells (x := ans0) U1.inn.tail.head; obtain ⟨k0, k1, k2, k3⟩ := ans_frozen (x := ans0) U1.inn.tail.head; simp only [ans0] at d0 d1 d2 d3 e0 e1 e2 e3)
  have UF := Upd.ans4 (x := ans0) (U1.ansE e).drop1 ⟨e, false, 0, 0⟩
  have G := ans_cells UF.inn.head
  simp only at G
  obtain ⟨g0, g1, g2, g3⟩ := G
  clear d0 d1 d2 d3 e0 e1 e2 e3 f0 f1 f2 f3 k0 k1 k2 k3
  refine bodyPost_ret (v := .agg (ansCells ⟨e, false, 0, 0⟩)) ?_ rfl ⟨rfl, h', hq, UF.drop1.drop1⟩
  simp only [results, Tryz.results8]
  simp [go_sem, ansCells, g0, g1, g2, g3]

set_option maxRecDepth 100000 in
set_option maxHeartbeats 2000000 in
theorem do_read (R : Value) (a b c v : Int) (q : Int) (e : Int) (w : World) (h : Hp) (Q : Hp → Prop) (hi : In w h)
    (hcall : ∀ W, In W h → Calls Tryz.prog 25 #[R, .int .i64 a, .int .i64 b] W fun en w' => en = .returned (.tuple #[.int .u64 q, .int .i64 e]) ∧ ∃ h', Q h' ∧ Upd h h' W w') :
    Calls Tryz.prog 8 #[R, .agg (stepCells ⟨4, a, b, c, v⟩)] w fun en w' => en = .returned (.agg (ansCells ⟨e, false, 0, q⟩)) ∧ ∃ h', Q h' ∧ Upd h h' w w' := by
  have U0 := (((Upd.refl hi).alloc' (.cells (stepCells ⟨4, a, b, c, v⟩) 35 (0, 0))).alloc' (.cells (ansCells ans0) 37 (0, 0))).alloc' (.cells (ansCells ans0) 37 (0, 0))
  have hs1 : (w.alloc (.cells (stepCells ⟨4, a, b, c, v⟩) 35 (0, 0))).heap.size = w.heap.size + 1 := by simp
  have hs2 : ((w.alloc (.cells (stepCells ⟨4, a, b, c, v⟩) 35 (0, 0))).alloc (.cells (ansCells ans0) 37 (0, 0))).heap.size = w.heap.size + 1 + 1 := by simp
  rw [hs1, hs2] at U0
  clear hs1 hs2
  have hi0 := U0.inn.tail.tail.tail
  have hcall1 := hcall _ hi0
  have HQ := Lib.hid hcall
  clear hcall
  have hn1 : w.heap.size + 1 + 1 ≠ w.heap.size + 1 := by omega
  have hn2 : w.heap.size + 1 ≠ w.heap.size + 1 + 1 := by omega
  simp only [stepCells, ansCells, ans0] at *
  go_enter Tryz.func8, Tryz.ntmps8
  go_wp2_with (go_at_call 25; refine Calls.mono hcall1 ?_; rintro en w1 ⟨rfl, h', hq, u1⟩; have U1 := Upd.underL (x := [(w.heap.size + 1 + 1, .cells (ansCells ans0) 37 (0, 0)), (w.heap.size + 1, .cells (ansCells ans0) 37 (0, 0)), (w.heap.size, .cells (stepCells ⟨4, a, b, c, v⟩) 35 (0, 0))]) U0 u1; obtain ⟨d0, d1, d2, d3⟩ := ans_cells (x := ans0) U1.inn.head; obtain ⟨f0, f1, f2, f3⟩ := ans_frozen (x := ans0) U1.inn.head; obtain ⟨e0, e1, e2, e3⟩ := ans_cells (x := ans0) U1.inn.tail.head; obtain ⟨k0, k1, k2, k3⟩ := ans_frozen (x := ans0) U1.inn.tail.head; simp only [ans0] at d0 d1 d2 d3 e0 e1 e2 e3)
  have UF := Upd.ans4 (x := ans0) ((U1.ansV q).ansE e).drop1 ⟨e, false, 0, q⟩
  have G := ans_cells UF.inn.head
  simp only at G
  obtain ⟨g0, g1, g2, g3⟩ := G
  clear d0 d1 d2 d3 e0 e1 e2 e3 f0 f1 f2 f3 k0 k1 k2 k3
  refine bodyPost_ret (v := .agg (ansCells ⟨e, false, 0, q⟩)) ?_ rfl ⟨rfl, h', hq, UF.drop1.drop1⟩
  simp only [results, Tryz.results8]
  simp [go_sem, ansCells, g0, g1, g2, g3]

set_option maxRecDepth 100000 in
set_option maxHeartbeats 2000000 in
theorem do_write (R : Value) (a b c v : Int) (e : Int) (w : World) (h : Hp) (Q : Hp → Prop) (hi : In w h)
    (hcall : ∀ W, In W h → Calls Tryz.prog 23 #[R, .int .i64 a, .int .i64 b, .int .u64 v] W fun en w' => en = .returned (.int .i64 e) ∧ ∃ h', Q h' ∧ Upd h h' W w') :
    Calls Tryz.prog 8 #[R, .agg (stepCells ⟨5, a, b, c, v⟩)] w fun en w' => en = .returned (.agg (ansCells ⟨e, false, 0, 0⟩)) ∧ ∃ h', Q h' ∧ Upd h h' w w' := by
  have U0 := (((Upd.refl hi).alloc' (.cells (stepCells ⟨5, a, b, c, v⟩) 35 (0, 0))).alloc' (.cells (ansCells ans0) 37 (0, 0))).alloc' (.cells (ansCells ans0) 37 (0, 0))
  have hs1 : (w.alloc (.cells (stepCells ⟨5, a, b, c, v⟩) 35 (0, 0))).heap.size = w.heap.size + 1 := by simp
  have hs2 : ((w.alloc (.cells (stepCells ⟨5, a, b, c, v⟩) 35 (0, 0))).alloc (.cells (ansCells ans0) 37 (0, 0))).heap.size = w.heap.size + 1 + 1 := by simp
  rw [hs1, hs2] at U0
  clear hs1 hs2
  have hi0 := U0.inn.tail.tail.tail
  have hcall1 := hcall _ hi0
  have HQ := Lib.hid hcall
  clear hcall
  have hn1 : w.heap.size + 1 + 1 ≠ w.heap.size + 1 := by omega
  have hn2 : w.heap.size + 1 ≠ w.heap.size + 1 + 1 := by omega
  simp only [stepCells, ansCells, ans0] at *
  go_enter Tryz.func8, Tryz.ntmps8
  go_wp2_with (go_at_call 23; refine Calls.mono hcall1 ?_; rintro en w1 ⟨rfl, h', hq, u1⟩; have U1 := Upd.underL (x := [(w.heap.size + 1 + 1, .cells (ansCells ans0) 37 (0, 0)), (w.heap.size + 1, .cells (ansCells ans0) 37 (0, 0)), (w.heap.size, .cells (stepCells ⟨5, a, b, c, v⟩) 35 (0, 0))]) U0 u1; obtain ⟨d0, d1, d2, d3⟩ := ans_cells (x := ans0) U1.inn.head; obtain ⟨f0, f1, f2, f3⟩ := ans_frozen (x := ans0) U1.inn.head; obtain ⟨e0, e1, e2, e3⟩ := ans_cells (x := ans0) U1.inn.tail.head; obtain ⟨k0, k1, k2, k3⟩ := ans_frozen (x := ans0) U1.inn.tail.head; simp only [ans0] at d0 d1 d2 d3 e0 e1 e2 e3)
  have UF := Upd.ans4 (x := ans0) (U1.ansE e).drop1 ⟨e, false, 0, 0⟩
  have G := ans_cells UF.inn.head
  simp only at G
  obtain ⟨g0, g1, g2, g3⟩ := G
  clear d0 d1 d2 d3 e0 e1 e2 e3 f0 f1 f2 f3 k0 k1 k2 k3
  refine bodyPost_ret (v := .agg (ansCells ⟨e, false, 0, 0⟩)) ?_ rfl ⟨rfl, h', hq, UF.drop1.drop1⟩
  simp only [results, Tryz.results8]
  simp [go_sem, ansCells, g0, g1, g2, g3]

set_option maxRecDepth 100000 in
set_option maxHeartbeats 2000000 in
theorem do_clear (R : Value) (a b c v : Int) (e : Int) (w : World) (h : Hp) (Q : Hp → Prop) (hi : In w h)
    (hcall : ∀ W, In W h → Calls Tryz.prog 28 #[R, .int .i64 a] W fun en w' => en = .returned (.int .i64 e) ∧ ∃ h', Q h' ∧ Upd h h' W w') :
    Calls Tryz.prog 8 #[R, .agg (stepCells ⟨6, a, b, c, v⟩)] w fun en w' => en = .returned (.agg (ansCells ⟨e, false, 0, 0⟩)) ∧ ∃ h', Q h' ∧ Upd h h' w w' := by
  have U0 := (((Upd.refl hi).alloc' (.cells (stepCells ⟨6, a, b, c, v⟩) 35 (0, 0))).alloc' (.cells (ansCells ans0) 37 (0, 0))).alloc' (.cells (ansCells ans0) 37 (0, 0))
  have hs1 : (w.alloc (.cells (stepCells ⟨6, a, b, c, v⟩) 35 (0, 0))).heap.size = w.heap.size + 1 := by simp
  have hs2 : ((w.alloc (.cells (stepCells ⟨6, a, b, c, v⟩) 35 (0, 0))).alloc (.cells (ansCells ans0) 37 (0, 0))).heap.size = w.heap.size + 1 + 1 := by simp
  rw [hs1, hs2] at U0
  clear hs1 hs2
  have hi0 := U0.inn.tail.tail.tail
  have hcall1 := hcall _ hi0
  have HQ := Lib.hid hcall
  clear hcall
  have hn1 : w.heap.size + 1 + 1 ≠ w.heap.size + 1 := by omega
  have hn2 : w.heap.size + 1 ≠ w.heap.size + 1 + 1 := by omega
  simp only [stepCells, ansCells, ans0] at *
  go_enter Tryz.func8, Tryz.ntmps8
  go_wp2_with (go_at_call 28; refine Calls.mono hcall1 ?_; rintro en w1 ⟨rfl, h', hq, u1⟩; have U1 := Upd.underL (x := [(w.heap.size + 1 + 1, .cells (ansCells ans0) 37 (0, 0)), (w.heap.size + 1, .cells (ansCells ans0) 37 (0, 0)), (w.heap.size, .cells (stepCells ⟨6, a, b, c, v⟩) 35 (0, 0))]) U0 u1; obtain ⟨d0, d1, d2, d3⟩ := ans_cells (x := ans0) U1.inn.head; obtain ⟨f0, f1, f2, f3⟩ := ans_frozen (x := ans0) U1.inn.head; obtain ⟨e0, e1, e2, e3⟩ := ans_cells (x := ans0) U1.inn.tail.head; obtain ⟨k0, k1, k2, k3⟩ := ans_frozen (x := ans0) U1.inn.tail.head; simp only [ans0] at d0 d1 d2 d3 e0 e1 e2 e3)
  have UF := Upd.ans4 (x := ans0) (U1.ansE e).drop1 ⟨e, false, 0, 0⟩
  have G := ans_cells UF.inn.head
  simp only at G
  obtain ⟨g0, g1, g2, g3⟩ := G
  clear d0 d1 d2 d3 e0 e1 e2 e3 f0 f1 f2 f3 k0 k1 k2 k3
  refine bodyPost_ret (v := .agg (ansCells ⟨e, false, 0, 0⟩)) ?_ rfl ⟨rfl, h', hq, UF.drop1.drop1⟩
  simp only [results, Tryz.results8]
  simp [go_sem, ansCells, g0, g1, g2, g3]

set_option maxRecDepth 100000 in
set_option maxHeartbeats 2000000 in
theorem do_copy (R : Value) (a b c v : Int) (e : Int) (w : World) (h : Hp) (Q : Hp → Prop) (hi : In w h)
    (hcall : ∀ W, In W h → Calls Tryz.prog 29 #[R, .int .i64 a, .int .i64 b] W fun en w' => en = .returned (.int .i64 e) ∧ ∃ h', Q h' ∧ Upd h h' W w') :
    Calls Tryz.prog 8 #[R, .agg (stepCells ⟨7, a, b, c, v⟩)] w fun en w' => en = .returned (.agg (ansCells ⟨e, false, 0, 0⟩)) ∧ ∃ h', Q h' ∧ Upd h h' w w' := by
  have U0 := (((Upd.refl hi).alloc' (.cells (stepCells ⟨7, a, b, c, v⟩) 35 (0, 0))).alloc' (.cells (ansCells ans0) 37 (0, 0))).alloc' (.cells (ansCells ans0) 37 (0, 0))
  have hs1 : (w.alloc (.cells (stepCells ⟨7, a, b, c, v⟩) 35 (0, 0))).heap.size = w.heap.size + 1 := by simp
  have hs2 : ((w.alloc (.cells (stepCells ⟨7, a, b, c, v⟩) 35 (0, 0))).alloc (.cells (ansCells ans0) 37 (0, 0))).heap.size = w.heap.size + 1 + 1 := by simp
  rw [hs1, hs2] at U0
  clear hs1 hs2
  have hi0 := U0.inn.tail.tail.tail
  have hcall1 := hcall _ hi0
  have HQ := Lib.hid hcall
  clear hcall
  have hn1 : w.heap.size + 1 + 1 ≠ w.heap.size + 1 := by omega
  have hn2 : w.heap.size + 1 ≠ w.heap.size + 1 + 1 := by omega
  simp only [stepCells, ansCells, ans0] at *
  go_enter Tryz.func8, Tryz.ntmps8
  go_wp2_with (go_at_call 29; refine Calls.mono hcall1 ?_; rintro en w1 ⟨rfl, h', hq, u1⟩; have U1 := Upd.underL (x := [(w.heap.size + 1 + 1, .cells (ansCells ans0) 37 (0, 0)), (w.heap.size + 1, .cells (ansCells ans0) 37 (0, 0)), (w.heap.size, .cells (stepCells ⟨7, a, b, c, v⟩) 35 (0, 0))]) U0 u1; obtain ⟨d0, d1, d2, d3⟩ := ans_cells (x := ans0) U1.inn.head; obtain ⟨f0, f1, f2, f3⟩ := ans_frozen (x := ans0) U1.inn.head; obtain ⟨e0, e1, e2, e3⟩ := ans_cells (x := ans0) U1.inn.tail.head; obtain ⟨k0, k1, k2, k3⟩ := ans_frozen (x := ans0) U1.inn.tail.head; simp only [ans0] at d0 d1 d2 d3 e0 e1 e2 e3)
  have UF := Upd.ans4 (x := ans0) (U1.ansE e).drop1 ⟨e, false, 0, 0⟩
  have G := ans_cells UF.inn.head
  simp only at G
  obtain ⟨g0, g1, g2, g3⟩ := G
  clear d0 d1 d2 d3 e0 e1 e2 e3 f0 f1 f2 f3 k0 k1 k2 k3
  refine bodyPost_ret (v := .agg (ansCells ⟨e, false, 0, 0⟩)) ?_ rfl ⟨rfl, h', hq, UF.drop1.drop1⟩
  simp only [results, Tryz.results8]
  simp [go_sem, ansCells, g0, g1, g2, g3]

set_option maxRecDepth 100000 in
set_option maxHeartbeats 2000000 in
theorem do_same (R : Value) (a b c v : Int) (y : Bool) (e : Int) (w : World) (h : Hp) (Q : Hp → Prop) (hi : In w h)
    (hcall : ∀ W, In W h → Calls Tryz.prog 26 #[R, .int .i64 a, .int .i64 b] W fun en w' => en = .returned (.tuple #[.bool y, .int .i64 e]) ∧ ∃ h', Q h' ∧ Upd h h' W w') :
    Calls Tryz.prog 8 #[R, .agg (stepCells ⟨8, a, b, c, v⟩)] w fun en w' => en = .returned (.agg (ansCells ⟨e, y, 0, 0⟩)) ∧ ∃ h', Q h' ∧ Upd h h' w w' := by
  have U0 := (((Upd.refl hi).alloc' (.cells (stepCells ⟨8, a, b, c, v⟩) 35 (0, 0))).alloc' (.cells (ansCells ans0) 37 (0, 0))).alloc' (.cells (ansCells ans0) 37 (0, 0))
  have hs1 : (w.alloc (.cells (stepCells ⟨8, a, b, c, v⟩) 35 (0, 0))).heap.size = w.heap.size + 1 := by simp
  have hs2 : ((w.alloc (.cells (stepCells ⟨8, a, b, c, v⟩) 35 (0, 0))).alloc (.cells (ansCells ans0) 37 (0, 0))).heap.size = w.heap.size + 1 + 1 := by simp
  rw [hs1, hs2] at U0
  clear hs1 hs2
  have hi0 := U0.inn.tail.tail.tail
  have hcall1 := hcall _ hi0
  have HQ := Lib.hid hcall
  clear hcall
  have hn1 : w.heap.size + 1 + 1 ≠ w.heap.size + 1 := by omega
  have hn2 : w.heap.size + 1 ≠ w.heap.size + 1 + 1 := by omega
  simp only [stepCells, ansCells, ans0] at *
  go_enter Tryz.func8, Tryz.ntmps8
  go_wp2_with (go_at_call 26; refine Calls.mono hcall1 ?_; rintro en w1 ⟨rfl, h', hq, u1⟩; have U1 := Upd.underL (x := [(w.heap.size + 1 + 1, .cells (ansCells ans0) 37 (0, 0)), (w.heap.size + 1, .cells (ansCells ans0) 37 (0, 0)), (w.heap.size, .cells (stepCells ⟨8, a, b, c, v⟩) 35 (0, 0))]) U0 u1; obtain ⟨d0, d1, d2, d3⟩ := ans_cells (x := ans0) U1.inn.head; obtain ⟨f0, f1, f2, f3⟩ := ans_frozen (x := ans0) U1.inn.head; obtain ⟨e0, e1, e2, e3⟩ := ans_cells (x := ans0) U1.inn.tail.head; obtain ⟨k0, k1, k2, k3⟩ := ans_frozen (x := ans0) U1.inn.tail.head; simp only [ans0] at d0 d1 d2 d3 e0 e1 e2 e3)
  have UF := Upd.ans4 (x := ans0) ((U1.ansY y).ansE e).drop1 ⟨e, y, 0, 0⟩
  have G := ans_cells UF.inn.head
  simp only at G
  obtain ⟨g0, g1, g2, g3⟩ := G
  clear d0 d1 d2 d3 e0 e1 e2 e3 f0 f1 f2 f3 k0 k1 k2 k3
  refine bodyPost_ret (v := .agg (ansCells ⟨e, y, 0, 0⟩)) ?_ rfl ⟨rfl, h', hq, UF.drop1.drop1⟩
  simp only [results, Tryz.results8]
  simp [go_sem, ansCells, g0, g1, g2, g3]

set_option maxRecDepth 100000 in
set_option maxHeartbeats 2000000 in
theorem do_nil (R : Value) (a b c v : Int) (y : Bool) (e : Int) (w : World) (h : Hp) (Q : Hp → Prop) (hi : In w h)
    (hcall : ∀ W, In W h → Calls Tryz.prog 30 #[R, .int .i64 a] W fun en w' => en = .returned (.tuple #[.bool y, .int .i64 e]) ∧ ∃ h', Q h' ∧ Upd h h' W w') :
    Calls Tryz.prog 8 #[R, .agg (stepCells ⟨9, a, b, c, v⟩)] w fun en w' => en = .returned (.agg (ansCells ⟨e, y, 0, 0⟩)) ∧ ∃ h', Q h' ∧ Upd h h' w w' := by
  have U0 := (((Upd.refl hi).alloc' (.cells (stepCells ⟨9, a, b, c, v⟩) 35 (0, 0))).alloc' (.cells (ansCells ans0) 37 (0, 0))).alloc' (.cells (ansCells ans0) 37 (0, 0))
  have hs1 : (w.alloc (.cells (stepCells ⟨9, a, b, c, v⟩) 35 (0, 0))).heap.size = w.heap.size + 1 := by simp
  have hs2 : ((w.alloc (.cells (stepCells ⟨9, a, b, c, v⟩) 35 (0, 0))).alloc (.cells (ansCells ans0) 37 (0, 0))).heap.size = w.heap.size + 1 + 1 := by simp
  rw [hs1, hs2] at U0
  clear hs1 hs2
  have hi0 := U0.inn.tail.tail.tail
  have hcall1 := hcall _ hi0
  have HQ := Lib.hid hcall
  clear hcall
  have hn1 : w.heap.size + 1 + 1 ≠ w.heap.size + 1 := by omega
  have hn2 : w.heap.size + 1 ≠ w.heap.size + 1 + 1 := by omega
  simp only [stepCells, ansCells, ans0] at *
  go_enter Tryz.func8, Tryz.ntmps8
  go_wp2_with (go_at_call 30; refine Calls.mono hcall1 ?_; rintro en w1 ⟨rfl, h', hq, u1⟩; have U1 := Upd.underL (x := [(w.heap.size + 1 + 1, .cells (ansCells ans0) 37 (0, 0)), (w.heap.size + 1, .cells (ansCells ans0) 37 (0, 0)), (w.heap.size, .cells (stepCells ⟨9, a, b, c, v⟩) 35 (0, 0))]) U0 u1; obtain ⟨d0, d1, d2, d3⟩ := ans_cells (x := ans0) U1.inn.head; obtain ⟨f0, f1, f2, f3⟩ := ans_frozen (x := ans0) U1.inn.head; obtain ⟨e0, e1, e2, e3⟩ := ans_cells (x := ans0) U1.inn.tail.head; obtain ⟨k0, k1, k2, k3⟩ := ans_frozen (x := ans0) U1.inn.tail.head; simp only [ans0] at d0 d1 d2 d3 e0 e1 e2 e3)
  have UF := Upd.ans4 (x := ans0) ((U1.ansY y).ansE e).drop1 ⟨e, y, 0, 0⟩
  have G := ans_cells UF.inn.head
  simp only at G
  obtain ⟨g0, g1, g2, g3⟩ := G
  clear d0 d1 d2 d3 e0 e1 e2 e3 f0 f1 f2 f3 k0 k1 k2 k3
  refine bodyPost_ret (v := .agg (ansCells ⟨e, y, 0, 0⟩)) ?_ rfl ⟨rfl, h', hq, UF.drop1.drop1⟩
  simp only [results, Tryz.results8]
  simp [go_sem, ansCells, g0, g1, g2, g3]

set_option maxRecDepth 100000 in
set_option maxHeartbeats 2000000 in
theorem do_shape (R : Value) (a b c v : Int) (n : Int) (m : Int) (e : Int) (w : World) (h : Hp) (Q : Hp → Prop) (hi : In w h)
    (hcall : ∀ W, In W h → Calls Tryz.prog 27 #[R, .int .i64 a] W fun en w' => en = .returned (.tuple #[.int .i64 n, .int .i64 m, .int .i64 e]) ∧ ∃ h', Q h' ∧ Upd h h' W w') :
    Calls Tryz.prog 8 #[R, .agg (stepCells ⟨10, a, b, c, v⟩)] w fun en w' => en = .returned (.agg (ansCells ⟨e, false, n, u64 m⟩)) ∧ ∃ h', Q h' ∧ Upd h h' w w' := by
  have U0 := (((Upd.refl hi).alloc' (.cells (stepCells ⟨10, a, b, c, v⟩) 35 (0, 0))).alloc' (.cells (ansCells ans0) 37 (0, 0))).alloc' (.cells (ansCells ans0) 37 (0, 0))
  have hs1 : (w.alloc (.cells (stepCells ⟨10, a, b, c, v⟩) 35 (0, 0))).heap.size = w.heap.size + 1 := by simp
  have hs2 : ((w.alloc (.cells (stepCells ⟨10, a, b, c, v⟩) 35 (0, 0))).alloc (.cells (ansCells ans0) 37 (0, 0))).heap.size = w.heap.size + 1 + 1 := by simp
  rw [hs1, hs2] at U0
  clear hs1 hs2
  have hi0 := U0.inn.tail.tail.tail
  have hcall1 := hcall _ hi0
  have HQ := Lib.hid hcall
  clear hcall
  have hn1 : w.heap.size + 1 + 1 ≠ w.heap.size + 1 := by omega
  have hn2 : w.heap.size + 1 ≠ w.heap.size + 1 + 1 := by omega
  have hwr : IntKind.u64.wrap m = u64 m := IntKind.wrap_u64 _
  simp only [stepCells, ansCells, ans0] at *
  go_enter Tryz.func8, Tryz.ntmps8
  go_wp2_with (go_at_call 27; refine Calls.mono hcall1 ?_; rintro en w1 ⟨rfl, h', hq, u1⟩; have U1 := Upd.underL (x := [(w.heap.size + 1 + 1, .cells (ansCells ans0) 37 (0, 0)), (w.heap.size + 1, .cells (ansCells ans0) 37 (0, 0)), (w.heap.size, .cells (stepCells ⟨10, a, b, c, v⟩) 35 (0, 0))]) U0 u1; obtain ⟨d0, d1, d2, d3⟩ := ans_cells (x := ans0) U1.inn.head; obtain ⟨f0, f1, f2, f3⟩ := ans_frozen (x := ans0) U1.inn.head; obtain ⟨e0, e1, e2, e3⟩ := ans_cells (x := ans0) U1.inn.tail.head; obtain ⟨k0, k1, k2, k3⟩ := ans_frozen (x := ans0) U1.inn.tail.head; simp only [ans0] at d0 d1 d2 d3 e0 e1 e2 e3)
  have UF := Upd.ans4 (x := ans0) (((U1.ansN n).ansV (u64 m)).ansE e).drop1 ⟨e, false, n, u64 m⟩
  have G := ans_cells UF.inn.head
  simp only at G
  obtain ⟨g0, g1, g2, g3⟩ := G
  clear d0 d1 d2 d3 e0 e1 e2 e3 f0 f1 f2 f3 k0 k1 k2 k3
  refine bodyPost_ret (v := .agg (ansCells ⟨e, false, n, u64 m⟩)) ?_ rfl ⟨rfl, h', hq, UF.drop1.drop1⟩
  simp only [results, Tryz.results8]
  simp [go_sem, ansCells, g0, g1, g2, g3]


set_option maxRecDepth 100000 in
set_option maxHeartbeats 2000000 in
theorem do_other (R : Value) (k a b c v : Int) (hk : k < 1 ∨ 10 < k) (w : World) (h : Hp) (hi : In w h) :
    Calls Tryz.prog 8 #[R, .agg (stepCells ⟨k, a, b, c, v⟩)] w fun en w' => en = .returned (.agg (ansCells ans0)) ∧ Upd h h w w' := by
  have U0 := (((Upd.refl hi).alloc' (.cells (stepCells ⟨k, a, b, c, v⟩) 35 (0, 0))).alloc' (.cells (ansCells ans0) 37 (0, 0))).alloc' (.cells (ansCells ans0) 37 (0, 0))
  have n1 : (k == 1) = false := by simp; omega
  have n2 : (k == 2) = false := by simp; omega
  have n3 : (k == 3) = false := by simp; omega
  have n4 : (k == 4) = false := by simp; omega
  have n5 : (k == 5) = false := by simp; omega
  have n6 : (k == 6) = false := by simp; omega
  have n7 : (k == 7) = false := by simp; omega
  have n8 : (k == 8) = false := by simp; omega
  have n9 : (k == 9) = false := by simp; omega
  have n10 : (k == 10) = false := by simp; omega
  have hs1 : (w.alloc (.cells (stepCells ⟨k, a, b, c, v⟩) 35 (0, 0))).heap.size = w.heap.size + 1 := by simp
  have hs2 : ((w.alloc (.cells (stepCells ⟨k, a, b, c, v⟩) 35 (0, 0))).alloc (.cells (ansCells ans0) 37 (0, 0))).heap.size = w.heap.size + 1 + 1 := by simp
  rw [hs1, hs2] at U0
  clear hk hs1 hs2
  simp only [stepCells, ansCells, ans0] at *
  go_enter Tryz.func8, Tryz.ntmps8
  go_wp2
  have G := ans_cells (x := ans0) U0.inn.tail.head
  simp only [ans0] at G
  obtain ⟨g0, g1, g2, g3⟩ := G
  refine bodyPost_ret (v := .agg (ansCells ans0)) ?_ rfl ⟨rfl, U0.drop1.drop1.drop1⟩
  simp only [results, Tryz.results8]
  simp [go_sem, ansCells, ans0, g0, g1, g2, g3]

end Go.Proofs.YtglbhcoikgbcmaaGreat
