/- What the small calls of package core come to. Conditions: a core as New makes it. -/
import Derived.Test.YtglbhcoikgbcmaaGreatRows
import Derived.Test.YtglbhcoikgbcmaaGreatLib
import Derived.Test.YtglbhcoikgbcmaaGreatCoreH
set_option linter.unusedVariables false
set_option linter.unusedSimpArgs false
namespace Go.Proofs.YtglbhcoikgbcmaaGreat
open Go.RowKit

/-- a core's reference -/
def refS (ws : List Int) (i n : Int) : Int := wrap64 (ldW ws (place i n))

set_option maxRecDepth 100000 in
set_option maxHeartbeats 2000000 in
theorem core_head (pc : Nat) (L : CoreL) (s : CoreS) (i : Int) (w : World) (h : Hp) (hi : In w h) (hc : CoreH pc L s h) :
    Calls Tryz.prog 65 #[ptr pc, .int .i64 i] w fun e w' =>
      e = .returned (.agg (hdCells (headS s.ws i))) ∧ ∃ h', CoreH pc L s h' ∧ Upd h h' w w' := by
  obtain ⟨v, ha, hy, ho, hr, hg, ht, hw, rfl, ca, cy, co, cr, cg, ct, cw⟩ := hc
  have U0 := Upd.box (x := []) (Upd.refl hi) (.cells (hdCells hd0) 112 (0, 0))
  obtain ⟨p1, p2, p3, p4, p5, p6⟩ := core_ptrs U0.inn.core
  have hl := obj_head L.pa s.ws i _ ha U0.inn.arena ca
  clear p2 p3 p4 p5 p6
  generalize hH : headS s.ws i = H at *
  clear hH
  simp only [ptr, hdCells, hd0] at p1 hl
  simp only [ptr] at *
  go_enter Tryz.func65, Tryz.ntmps65
  go_wp2_with (go_at_call 82; refine Calls.mono hl ?_; rintro e w1 ⟨rfl, ha', ca', u1⟩; have U1 := U0.arena (x := [_]) u1; have lt2 := U1.inn.lt (b := w.heap.size) (by simp); have ne2 := Nat.ne_of_lt lt2; obtain ⟨d0, d1, d2, d3, d4, d5, d6⟩ := hd_cells U1.inn.head; obtain ⟨f0, f1, f2, f3, f4, f5, f6⟩ := hd_frozen U1.inn.head)
  have UF := (U1.hd H).skip1 (.cells (hdCells H) 112 (0, 0))
  have G := hd_cells UF.inn.head
  simp only [hdCells] at G
  obtain ⟨g0, g1, g2, g3, g4, g5, g6⟩ := G
  clear d0 d1 d2 d3 d4 d5 d6 f0 f1 f2 f3 f4 f5 f6
  refine bodyPost_ret (v := .agg (hdCells H)) ?_ rfl ⟨rfl, _, ⟨v, ha', hy, ho, hr, hg, ht, hw, rfl, ca', cy, co, cr, cg, ct, cw⟩, UF.drop1⟩
  simp only [results, Tryz.results65]
  simp [go_sem, hdCells, g0, g1, g2, g3, g4, g5, g6]

set_option maxRecDepth 100000 in
set_option maxHeartbeats 1000000 in
theorem core_ref (pc : Nat) (L : CoreL) (s : CoreS) (i n : Int) (w : World) (h : Hp) (hi : In w h) (hc : CoreH pc L s h) :
    Calls Tryz.prog 55 #[ptr pc, .int .i64 i, .int .i64 n] w fun e w' =>
      e = .returned (.int .i64 (refS s.ws i n)) ∧ ∃ h', CoreH pc L s h' ∧ Upd h h' w w' := by
  obtain ⟨v, ha, hy, ho, hr, hg, ht, hw, rfl, ca, cy, co, cr, cg, ct, cw⟩ := hc
  have U0 := Upd.refl hi
  obtain ⟨p1, p2, p3, p4, p5, p6⟩ := core_ptrs (In.core (x := []) hi)
  have hl := obj_field L.pa s.ws i n _ ha (In.arena (x := []) hi) ca
  clear p2 p3 p4 p5 p6
  unfold refS
  simp only [ptr] at *
  go_enter Tryz.func55, Tryz.ntmps55
  go_wp2_with (go_at_call 57; refine Calls.mono hl ?_; rintro e w1 ⟨rfl, ha', ca', u1⟩; have U1 := Upd.arena (x := []) U0 u1)
  go_ret
  exact ⟨rfl, _, ⟨v, ha', hy, ho, hr, hg, ht, hw, rfl, ca', cy, co, cr, cg, ct, cw⟩, U1⟩

set_option maxRecDepth 100000 in
set_option maxHeartbeats 1000000 in
theorem core_sethead (pc : Nat) (L : CoreL) (s : CoreS) (i : Int) (x : Hd) (hx : x.Good) (w : World) (h : Hp) (hi : In w h) (hc : CoreH pc L s h) :
    Calls Tryz.prog 69 #[ptr pc, .int .i64 i, .agg (hdCells x)] w fun e w' =>
      e = .returned (.tuple #[]) ∧ ∃ h', CoreH pc L { s with ws := stW s.ws i x.enc } h' ∧ Upd h h' w w' := by
  obtain ⟨v, ha, hy, ho, hr, hg, ht, hw, rfl, ca, cy, co, cr, cg, ct, cw⟩ := hc
  have U0 := Upd.box (x := []) (Upd.refl hi) (.cells (hdCells x) 112 (0, 0))
  obtain ⟨p1, p2, p3, p4, p5, p6⟩ := core_ptrs U0.inn.core
  have hl := fun W (hiW : In W ha) => obj_sethead L.pa s.ws i x hx W ha hiW ca
  have U0d := U0.drew'
  have hl1 := hl _ (Upd.inn U0d).arena
  clear p2 p3 p4 p5 p6 hl
  simp only [ptr, hdCells] at *
  go_enter Tryz.func69, Tryz.ntmps69
  go_wp2
  refine wp_tail 6 (by kernel_rfl) (by kernel_rfl) fun w1 hw1 => ?_
  subst hw1
  simp only [List.take_succ_cons, List.take_zero, List.drop_succ_cons, List.drop_zero]
  repeat (refine wpStill_step (fun K hK => ?_); have HK := Lib.hid hK; clear hK; go_simp; refine HK.out _ ?_; clear HK K)
  refine wpStill_nil ?_
  go_wp2_with (go_at_call 63; refine Calls.mono hl1 ?_; rintro e w1 ⟨rfl, ha', ca', u1⟩; have U1 := U0d.arena (x := [_]) u1)
  go_end0
  exact ⟨rfl, _, ⟨v, ha', hy, ho, hr, hg, ht, hw, rfl, ca', cy, co, cr, cg, ct, cw⟩, U1.drop1⟩


/-- what object answers -/
def CoreS.objE (s : CoreS) (i : Int) : Int := if tblOk s.t i then (if tblGet s.t i = 0 then 4 else 0) else 3
def CoreS.objH (s : CoreS) (i : Int) : Hd := if s.objE i = 0 then headS s.ws (tblGet s.t i) else hd0

set_option maxRecDepth 100000 in
set_option maxHeartbeats 2000000 in
theorem core_object (pc : Nat) (L : CoreL) (s : CoreS) (i : Int) (w : World) (h : Hp) (hi : In w h) (hc : CoreH pc L s h) :
    Calls Tryz.prog 50 #[ptr pc, .int .i64 i] w fun e w' =>
      e = .returned (.tuple #[.int .i64 (tblGet s.t i), .agg (hdCells (s.objH i)), .int .i64 (s.objE i)]) ∧ ∃ h', CoreH pc L s h' ∧ Upd h h' w w' := by
  by_cases ho : tblOk s.t i = true
  · have e1 : tblErr s.t i = 0 := by simp [tblErr, ho]
    by_cases hz : tblGet s.t i = 0
    · have e2 : s.objE i = 4 := by simp [CoreS.objE, ho, hz]
      have e3 : s.objH i = hd0 := by simp [CoreS.objH, e2]
      rw [e2, e3, hz]
      obtain ⟨v, ha, hy, ho', hr, hg, ht, hw, rfl, ca, cy, co, cr, cg, ct, cw⟩ := hc
      have U0 := Upd.box (x := []) (Upd.refl hi) (.cells (hdCells hd0) 112 (0, 0))
      obtain ⟨p1, p2, p3, p4, p5, p6⟩ := core_ptrs U0.inn.core
      have hl := table_get L.pt s.t i _ ht U0.inn.table ct
      rw [e1, hz] at hl
      clear p1 p2 p3 p4 p5 e1 e2 e3 ho hz
      simp only [ptr, hdCells, hd0] at p6 hl
      simp only [ptr] at *
      go_enter Tryz.func50, Tryz.ntmps50
      go_wp2_with (go_at_call 43; refine Calls.mono hl ?_; rintro e w1 ⟨rfl, rfl⟩)
      have UF := U0
      have G := hd_cells UF.inn.head
      simp only [hdCells, hd0] at G
      obtain ⟨g0, g1, g2, g3, g4, g5, g6⟩ := G
      refine bodyPost_ret (v := .tuple #[.int .i64 0, .agg (hdCells hd0), .int .i64 4]) ?_ rfl ⟨rfl, _, ⟨v, ha, hy, ho', hr, hg, ht, hw, rfl, ca, cy, co, cr, cg, ct, cw⟩, UF.drop1⟩
      simp only [results, Tryz.results50]
      simp [go_sem, hdCells, hd0, g0, g1, g2, g3, g4, g5, g6]
    · have e2 : s.objE i = 0 := by simp [CoreS.objE, ho, hz]
      have e3 : s.objH i = headS s.ws (tblGet s.t i) := by simp [CoreS.objH, e2]
      rw [e2, e3]
      have hhd := fun W h (hi : In W h) (hc : CoreH pc L s h) => core_head pc L s (tblGet s.t i) W h hi hc
      have hhd' := hhd
      obtain ⟨v, ha, hy, ho', hr, hg, ht, hw, rfl, ca, cy, co, cr, cg, ct, cw⟩ := hc
      have U0 := Upd.box (x := []) (Upd.refl hi) (.cells (hdCells hd0) 112 (0, 0))
      obtain ⟨p1, p2, p3, p4, p5, p6⟩ := core_ptrs U0.inn.core
      have hl := table_get L.pt s.t i _ ht U0.inn.table ct
      have hh := hhd _ _ (U0.inn.tail) ⟨v, ha, hy, ho', hr, hg, ht, hw, rfl, ca, cy, co, cr, cg, ct, cw⟩
      rw [e1] at hl
      generalize tblGet s.t i = k at *
      generalize headS s.ws k = H at *
      clear p1 p2 p3 p4 p5 e1 e2 e3 ho hhd hhd'
      simp only [ptr, hdCells, hd0] at p6 hl hh
      simp only [ptr] at *
      go_enter Tryz.func50, Tryz.ntmps50
      go_wp2_with (first | (go_at_call 43; refine Calls.mono hl ?_; rintro e w1 ⟨rfl, rfl⟩) | (go_at_call 65; refine Calls.mono hh ?_; rintro e w1 ⟨rfl, h', c', u1⟩; have U1 := Upd.under U0 u1; have lt2 := U1.inn.lt (b := w.heap.size) (by simp); have ne2 := Nat.ne_of_lt lt2; obtain ⟨d0, d1, d2, d3, d4, d5, d6⟩ := hd_cells U1.inn.head; obtain ⟨f0, f1, f2, f3, f4, f5, f6⟩ := hd_frozen U1.inn.head))
      have UF := (U1.hd H)
      have G := hd_cells UF.inn.head
      try simp only [hdCells] at G
      obtain ⟨g0, g1, g2, g3, g4, g5, g6⟩ := G
      clear d0 d1 d2 d3 d4 d5 d6 f0 f1 f2 f3 f4 f5 f6
      refine bodyPost_ret (v := .tuple #[.int .i64 k, .agg (hdCells H), .int .i64 0]) ?_ rfl ⟨rfl, _, c', UF.drop1⟩
      simp only [results, Tryz.results50]
      simp [go_sem, hdCells, hd0, g0, g1, g2, g3, g4, g5, g6]
  · have ho2 : tblOk s.t i = false := by simpa using ho
    have e1 : tblErr s.t i = 3 := by simp [tblErr, ho2]
    have hz : tblGet s.t i = 0 := by simp [tblGet, ho2]
    have e2 : s.objE i = 3 := by simp [CoreS.objE, ho2]
    have e3 : s.objH i = hd0 := by simp [CoreS.objH, e2]
    rw [e2, e3, hz]
    obtain ⟨v, ha, hy, ho', hr, hg, ht, hw, rfl, ca, cy, co, cr, cg, ct, cw⟩ := hc
    have U0 := Upd.box (x := []) (Upd.refl hi) (.cells (hdCells hd0) 112 (0, 0))
    obtain ⟨p1, p2, p3, p4, p5, p6⟩ := core_ptrs U0.inn.core
    have hl := table_get L.pt s.t i _ ht U0.inn.table ct
    rw [e1, hz] at hl
    clear p1 p2 p3 p4 p5 e1 e2 e3 ho ho2 hz
    simp only [ptr, hdCells, hd0] at p6 hl
    simp only [ptr] at *
    go_enter Tryz.func50, Tryz.ntmps50
    go_wp2_with (go_at_call 43; refine Calls.mono hl ?_; rintro e w1 ⟨rfl, rfl⟩)
    have UF := U0
    have G := hd_cells UF.inn.head
    simp only [hdCells, hd0] at G
    obtain ⟨g0, g1, g2, g3, g4, g5, g6⟩ := G
    refine bodyPost_ret (v := .tuple #[.int .i64 0, .agg (hdCells hd0), .int .i64 3]) ?_ rfl ⟨rfl, _, ⟨v, ha, hy, ho', hr, hg, ht, hw, rfl, ca, cy, co, cr, cg, ct, cw⟩, UF.drop1⟩
    simp only [results, Tryz.results50]
    simp [go_sem, hdCells, hd0, g0, g1, g2, g3, g4, g5, g6]

set_option maxRecDepth 100000 in
set_option maxHeartbeats 1000000 in
theorem core_clear (pc : Nat) (L : CoreL) (s : CoreS) (i : Int) (w : World) (h : Hp) (hi : In w h) (hc : CoreH pc L s h) :
    Calls Tryz.prog 28 #[ptr pc, .int .i64 i] w fun e w' =>
      e = .returned (.int .i64 (tblErr s.t i)) ∧ ∃ h', CoreH pc L { s with t := tblSet s.t i 0 } h' ∧ Upd h h' w w' := by
  obtain ⟨v, ha, hy, ho, hr, hg, ht, hw, rfl, ca, cy, co, cr, cg, ct, cw⟩ := hc
  have U0 := Upd.refl hi
  obtain ⟨p1, p2, p3, p4, p5, p6⟩ := core_ptrs (In.core (x := []) hi)
  have hl := table_set L.pt s.t i 0 _ ht (In.table (x := []) hi) ct (I64.small (by decide) (by decide))
  clear p1 p2 p3 p4 p5
  simp only [ptr] at *
  go_enter Tryz.func28, Tryz.ntmps28
  go_wp2_with (go_at_call 49; refine Calls.mono hl ?_; rintro e w1 ⟨rfl, ht', ct', u1⟩; have U1 := Upd.table (x := []) U0 u1)
  go_ret
  exact ⟨rfl, _, ⟨v, ha, hy, ho, hr, hg, ht', hw, rfl, ca, cy, co, cr, cg, ct', cw⟩, U1⟩

/-- what Copy answers, and the table behind it -/
def CoreS.copyE (s : CoreS) (i j : Int) : Int := if tblOk s.t j then tblErr s.t i else 3
def CoreS.copyT (s : CoreS) (i j : Int) : List Int := if tblOk s.t j then tblSet s.t i (tblGet s.t j) else s.t

theorem tblGet_I64 {l : List Int} (hl : ∀ x ∈ l, I64 x) (i : Int) : I64 (tblGet l i) := by
  unfold tblGet
  split
  · rename_i ho
    simp only [tblOk, decide_eq_true_eq] at ho
    have hk : i.toNat < l.length := by omega
    have : l.getD i.toNat 0 = l[i.toNat] := by simp [List.getD, hk]
    rw [this]
    exact hl _ (List.getElem_mem hk)
  · exact I64.small (by decide) (by decide)
theorem TableH.nums {p : Nat} {l : List Int} {h : Hp} (ht : TableH p l h) : ∀ x ∈ l, I64 x := by
  obtain ⟨_, _, _, hx⟩ := ht
  exact hx

set_option maxRecDepth 100000 in
set_option maxHeartbeats 1000000 in
theorem core_copy (pc : Nat) (L : CoreL) (s : CoreS) (i j : Int) (w : World) (h : Hp) (hi : In w h) (hc : CoreH pc L s h) :
    Calls Tryz.prog 29 #[ptr pc, .int .i64 i, .int .i64 j] w fun e w' =>
      e = .returned (.int .i64 (s.copyE i j)) ∧ ∃ h', CoreH pc L { s with t := s.copyT i j } h' ∧ Upd h h' w w' := by
  have hc0 := hc
  obtain ⟨v, ha, hy, ho, hr, hg, ht, hw, rfl, ca, cy, co, cr, cg, ct, cw⟩ := hc
  have U0 := Upd.refl hi
  obtain ⟨p1, p2, p3, p4, p5, p6⟩ := core_ptrs (In.core (x := []) hi)
  have hget := table_get L.pt s.t j _ ht (In.table (x := []) hi) ct
  have hset := table_set L.pt s.t i (tblGet s.t j) _ ht (In.table (x := []) hi) ct (tblGet_I64 ct.nums j)
  clear p1 p2 p3 p4 p5
  by_cases hk : tblOk s.t j = true
  · have e1 : s.copyE i j = tblErr s.t i := by simp [CoreS.copyE, hk]
    have e2 : s.copyT i j = tblSet s.t i (tblGet s.t j) := by simp [CoreS.copyT, hk]
    have e3 : tblErr s.t j = 0 := by simp [tblErr, hk]
    rw [e1, e2]
    rw [e3] at hget
    clear e1 e2 e3 hk
    simp only [ptr] at *
    go_enter Tryz.func29, Tryz.ntmps29
    go_wp2_with (first | (go_at_call 43; refine Calls.mono hget ?_; rintro e w1 ⟨rfl, rfl⟩) | (go_at_call 49; refine Calls.mono hset ?_; rintro e w1 ⟨rfl, ht', ct', u1⟩; have U1 := Upd.table (x := []) U0 u1))
    go_ret
    exact ⟨rfl, _, ⟨v, ha, hy, ho, hr, hg, ht', hw, rfl, ca, cy, co, cr, cg, ct', cw⟩, U1⟩
  · have e1 : s.copyE i j = 3 := by simp [CoreS.copyE, hk]
    have e2 : s.copyT i j = s.t := by simp [CoreS.copyT, hk]
    have e3 : tblErr s.t j = 3 := by simp [tblErr, hk]
    rw [e1, e2]
    rw [e3] at hget
    clear e1 e2 e3 hk
    simp only [ptr] at *
    go_enter Tryz.func29, Tryz.ntmps29
    go_wp2_with (go_at_call 43; refine Calls.mono hget ?_; rintro e w1 ⟨rfl, rfl⟩)
    go_ret
    exact ⟨rfl, _, hc0, U0⟩

/-- what Same answers -/
def CoreS.sameV (s : CoreS) (i j : Int) : Bool := tblOk s.t i && tblOk s.t j && decide (tblGet s.t i = tblGet s.t j)
def CoreS.sameE (s : CoreS) (i j : Int) : Int := if tblOk s.t i && tblOk s.t j then 0 else 3

set_option maxRecDepth 100000 in
set_option maxHeartbeats 1000000 in
theorem core_same (pc : Nat) (L : CoreL) (s : CoreS) (i j : Int) (w : World) (h : Hp) (hi : In w h) (hc : CoreH pc L s h) :
    Calls Tryz.prog 26 #[ptr pc, .int .i64 i, .int .i64 j] w fun e w' =>
      e = .returned (.tuple #[.bool (s.sameV i j), .int .i64 (s.sameE i j)]) ∧ Upd h h w w' := by
  obtain ⟨v, ha, hy, ho, hr, hg, ht, hw, rfl, ca, cy, co, cr, cg, ct, cw⟩ := hc
  have U0 := Upd.refl hi
  obtain ⟨p1, p2, p3, p4, p5, p6⟩ := core_ptrs (In.core (x := []) hi)
  have hget := fun i => table_get L.pt s.t i _ ht (In.table (x := []) hi) ct
  have hget1 := hget i
  have hget2 := hget j
  clear p1 p2 p3 p4 p5 hget
  by_cases hk : tblOk s.t i = true
  · have e3 : tblErr s.t i = 0 := by simp [tblErr, hk]
    rw [e3] at hget1
    by_cases hk2 : tblOk s.t j = true
    · have e4 : tblErr s.t j = 0 := by simp [tblErr, hk2]
      rw [e4] at hget2
      have e1 : s.sameV i j = decide (tblGet s.t i = tblGet s.t j) := by simp [CoreS.sameV, hk, hk2]
      have e2 : s.sameE i j = 0 := by simp [CoreS.sameE, hk, hk2]
      rw [e1, e2]
      clear e1 e2 e3 e4 hk hk2
      generalize tblGet s.t i = x1 at *
      generalize tblGet s.t j = x2 at *
      simp only [ptr] at *
      go_enter Tryz.func26, Tryz.ntmps26
      go_wp2_with (first | (go_at_call 43; with_reducible refine Calls.mono hget1 ?_; rintro e w1 ⟨rfl, rfl⟩) | (go_at_call 43; with_reducible refine Calls.mono hget2 ?_; rintro e w1 ⟨rfl, rfl⟩))
      go_ret2
      refine ⟨?_, U0⟩
      simp [Bool.beq_eq_decide_eq]
    · have e4 : tblErr s.t j = 3 := by simp [tblErr, hk2]
      rw [e4] at hget2
      have e1 : s.sameV i j = false := by simp [CoreS.sameV, hk, hk2]
      have e2 : s.sameE i j = 3 := by simp [CoreS.sameE, hk, hk2]
      rw [e1, e2]
      clear e1 e2 e3 e4 hk hk2
      generalize tblGet s.t i = x1 at *
      generalize tblGet s.t j = x2 at *
      simp only [ptr] at *
      go_enter Tryz.func26, Tryz.ntmps26
      go_wp2_with (first | (go_at_call 43; with_reducible refine Calls.mono hget1 ?_; rintro e w1 ⟨rfl, rfl⟩) | (go_at_call 43; with_reducible refine Calls.mono hget2 ?_; rintro e w1 ⟨rfl, rfl⟩))
      go_ret2
      exact ⟨rfl, U0⟩
  · have e3 : tblErr s.t i = 3 := by simp [tblErr, hk]
    rw [e3] at hget1
    have e1 : s.sameV i j = false := by simp [CoreS.sameV, hk]
    have e2 : s.sameE i j = 3 := by simp [CoreS.sameE, hk]
    rw [e1, e2]
    clear e1 e2 e3 hk
    generalize tblGet s.t i = x1 at *
    generalize tblGet s.t j = x2 at *
    generalize tblErr s.t j = x3 at *
    simp only [ptr] at *
    go_enter Tryz.func26, Tryz.ntmps26
    go_wp2_with (first | (go_at_call 43; with_reducible refine Calls.mono hget1 ?_; rintro e w1 ⟨rfl, rfl⟩) | (go_at_call 43; with_reducible refine Calls.mono hget2 ?_; rintro e w1 ⟨rfl, rfl⟩))
    go_ret2
    exact ⟨rfl, U0⟩

def CoreS.nilV (s : CoreS) (i : Int) : Bool := tblOk s.t i && decide (tblGet s.t i = 0)

set_option maxRecDepth 100000 in
set_option maxHeartbeats 1000000 in
theorem core_nil (pc : Nat) (L : CoreL) (s : CoreS) (i : Int) (w : World) (h : Hp) (hi : In w h) (hc : CoreH pc L s h) :
    Calls Tryz.prog 30 #[ptr pc, .int .i64 i] w fun e w' =>
      e = .returned (.tuple #[.bool (s.nilV i), .int .i64 (tblErr s.t i)]) ∧ Upd h h w w' := by
  obtain ⟨v, ha, hy, ho, hr, hg, ht, hw, rfl, ca, cy, co, cr, cg, ct, cw⟩ := hc
  have U0 := Upd.refl hi
  obtain ⟨p1, p2, p3, p4, p5, p6⟩ := core_ptrs (In.core (x := []) hi)
  have hget1 := table_get L.pt s.t i _ ht (In.table (x := []) hi) ct
  clear p1 p2 p3 p4 p5
  by_cases hk : tblOk s.t i = true
  · have e3 : tblErr s.t i = 0 := by simp [tblErr, hk]
    have e1 : s.nilV i = decide (tblGet s.t i = 0) := by simp [CoreS.nilV, hk]
    rw [e3] at hget1
    rw [e1, e3]
    clear e1 e3 hk
    generalize tblGet s.t i = x1 at *
    simp only [ptr] at *
    go_enter Tryz.func30, Tryz.ntmps30
    go_wp2_with (go_at_call 43; with_reducible refine Calls.mono hget1 ?_; rintro e w1 ⟨rfl, rfl⟩)
    go_ret2
    refine ⟨?_, U0⟩
    simp [Bool.beq_eq_decide_eq]
  · have e3 : tblErr s.t i = 3 := by simp [tblErr, hk]
    have e1 : s.nilV i = false := by simp [CoreS.nilV, hk]
    rw [e3] at hget1
    rw [e1, e3]
    clear e1 e3 hk
    generalize tblGet s.t i = x1 at *
    simp only [ptr] at *
    go_enter Tryz.func30, Tryz.ntmps30
    go_wp2_with (go_at_call 43; with_reducible refine Calls.mono hget1 ?_; rintro e w1 ⟨rfl, rfl⟩)
    go_ret2
    exact ⟨rfl, U0⟩

end Go.Proofs.YtglbhcoikgbcmaaGreat
