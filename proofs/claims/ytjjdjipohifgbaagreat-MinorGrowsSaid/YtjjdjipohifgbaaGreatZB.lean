/- What Take of package buf, Clear and Part of package card, and Pop, Lost, Found, All and Put of package grey come to. Conditions: things as New makes them. -/
import Derived.Test.YtjjdjipohifgbaaGreatRows
import Derived.Test.YtjjdjipohifgbaaGreatZA
import Derived.BigQuiet
import Derived.Deep.QuietTactic
import Derived.Deep.RegionHeld3
import Derived.Deep.Cut
import Derived.Laws.CopyOwn
set_option linter.unusedVariables false
set_option linter.unusedSimpArgs false
/- What the small calls of package core come to. Conditions: a core as New makes it. -/
namespace Go.Proofs.YtjjdjipohifgbaaGreat
open Go.RowKit

/-- a core's reference -/
def refS (ws : List Int) (i n : Int) : Int := wrap64 (ldW ws (place i n))

set_option maxRecDepth 100000 in
set_option maxHeartbeats 2000000 in
theorem core_head (pc : Nat) (L : CoreL) (s : CoreS) (i : Int) (w : World) (h : Hp) (hi : In w h) (hc : CoreH pc L s h) :
    Calls Tryz.prog 87 #[ptr pc, .int .i64 i] w fun e w' =>
      e = .returned (.agg (hdCells (headS s.ws i))) ∧ ∃ h', CoreH pc L s h' ∧ Upd h h' w w' := by
  obtain ⟨v, ha, hy, ho, hr, hg, ht, hw, rfl, ca, cy, co, cr, cg, ct, cw⟩ := hc
  have U0 := Upd.box (x := []) (Upd.refl hi) (.cells (hdCells hd0) 65 (0, 0))
  obtain ⟨p1, p2, p3, p4, p5, p6⟩ := core_ptrs U0.inn.core
  have hl := obj_head L.pa s.ws i _ ha U0.inn.arena ca
  clear p2 p3 p4 p5 p6
  generalize hH : headS s.ws i = H at *
  clear hH
  simp only [ptr, hdCells, hd0] at p1 hl
  simp only [ptr] at *
  go_enter Tryz.func87, Tryz.ntmps87
  go_wp2_with (go_at_call 27; refine Calls.mono hl ?_; rintro e w1 ⟨rfl, ha', ca', u1⟩; have U1 := U0.arena (x := [_]) u1; have lt2 := U1.inn.lt (b := w.heap.size) (by simp); have ne2 := Nat.ne_of_lt lt2; obtain ⟨d0, d1, d2, d3, d4, d5, d6⟩ := hd_cells U1.inn.head; obtain ⟨f0, f1, f2, f3, f4, f5, f6⟩ := hd_frozen U1.inn.head)
  have UF := (U1.hd H).skip1 (.cells (hdCells H) 65 (0, 0))
  have G := hd_cells UF.inn.head
  simp only [hdCells] at G
  obtain ⟨g0, g1, g2, g3, g4, g5, g6⟩ := G
  clear d0 d1 d2 d3 d4 d5 d6 f0 f1 f2 f3 f4 f5 f6
  refine bodyPost_ret (v := .agg (hdCells H)) ?_ rfl ⟨rfl, _, ⟨v, ha', hy, ho, hr, hg, ht, hw, rfl, ca', cy, co, cr, cg, ct, cw⟩, UF.drop1⟩
  simp only [results, Tryz.results87]
  simp [go_sem, hdCells, g0, g1, g2, g3, g4, g5, g6]

set_option maxRecDepth 100000 in
set_option maxHeartbeats 1000000 in
theorem core_ref (pc : Nat) (L : CoreL) (s : CoreS) (i n : Int) (w : World) (h : Hp) (hi : In w h) (hc : CoreH pc L s h) :
    Calls Tryz.prog 74 #[ptr pc, .int .i64 i, .int .i64 n] w fun e w' =>
      e = .returned (.int .i64 (refS s.ws i n)) ∧ ∃ h', CoreH pc L s h' ∧ Upd h h' w w' := by
  obtain ⟨v, ha, hy, ho, hr, hg, ht, hw, rfl, ca, cy, co, cr, cg, ct, cw⟩ := hc
  have U0 := Upd.refl hi
  obtain ⟨p1, p2, p3, p4, p5, p6⟩ := core_ptrs (In.core (x := []) hi)
  have hl := obj_field L.pa s.ws i n _ ha (In.arena (x := []) hi) ca
  clear p2 p3 p4 p5 p6
  unfold refS
  simp only [ptr] at *
  go_enter Tryz.func74, Tryz.ntmps74
  go_wp2_with (go_at_call 64; refine Calls.mono hl ?_; rintro e w1 ⟨rfl, ha', ca', u1⟩; have U1 := Upd.arena (x := []) U0 u1)
  go_ret
  exact ⟨rfl, _, ⟨v, ha', hy, ho, hr, hg, ht, hw, rfl, ca', cy, co, cr, cg, ct, cw⟩, U1⟩

set_option maxRecDepth 100000 in
set_option maxHeartbeats 1000000 in
theorem core_sethead (pc : Nat) (L : CoreL) (s : CoreS) (i : Int) (x : Hd) (hx : x.Good) (w : World) (h : Hp) (hi : In w h) (hc : CoreH pc L s h) :
    Calls Tryz.prog 98 #[ptr pc, .int .i64 i, .agg (hdCells x)] w fun e w' =>
      e = .returned (.tuple #[]) ∧ ∃ h', CoreH pc L { s with ws := stW s.ws i x.enc } h' ∧ Upd h h' w w' := by
  obtain ⟨v, ha, hy, ho, hr, hg, ht, hw, rfl, ca, cy, co, cr, cg, ct, cw⟩ := hc
  have U0 := Upd.box (x := []) (Upd.refl hi) (.cells (hdCells x) 65 (0, 0))
  obtain ⟨p1, p2, p3, p4, p5, p6⟩ := core_ptrs U0.inn.core
  have hl := fun W (hiW : In W ha) => obj_sethead L.pa s.ws i x hx W ha hiW ca
  have U0d := U0.drew'
  have hl1 := hl _ (Upd.inn U0d).arena
  clear p2 p3 p4 p5 p6 hl
  simp only [ptr, hdCells] at *
  go_enter Tryz.func98, Tryz.ntmps98
  go_wp2
  refine wp_tail 6 (by kernel_rfl) (by kernel_rfl) fun w1 hw1 => ?_
  subst hw1
  simp only [List.take_succ_cons, List.take_zero, List.drop_succ_cons, List.drop_zero]
  repeat (refine wpStill_step (fun K hK => ?_); have HK := Lib.hid hK; clear hK; go_simp; refine HK.out _ ?_; clear HK K)
  refine wpStill_nil ?_
  go_wp2_with (go_at_call 85; refine Calls.mono hl1 ?_; rintro e w1 ⟨rfl, ha', ca', u1⟩; have U1 := U0d.arena (x := [_]) u1)
  go_end0
  exact ⟨rfl, _, ⟨v, ha', hy, ho, hr, hg, ht, hw, rfl, ca', cy, co, cr, cg, ct, cw⟩, U1.drop1⟩


/-- what object answers -/
def CoreS.objE (s : CoreS) (i : Int) : Int := if tblOk s.t i then (if tblGet s.t i = 0 then 4 else 0) else 3
def CoreS.objH (s : CoreS) (i : Int) : Hd := if s.objE i = 0 then headS s.ws (tblGet s.t i) else hd0

set_option maxRecDepth 100000 in
set_option maxHeartbeats 2000000 in
theorem core_object (pc : Nat) (L : CoreL) (s : CoreS) (i : Int) (w : World) (h : Hp) (hi : In w h) (hc : CoreH pc L s h) :
    Calls Tryz.prog 49 #[ptr pc, .int .i64 i] w fun e w' =>
      e = .returned (.tuple #[.int .i64 (tblGet s.t i), .agg (hdCells (s.objH i)), .int .i64 (s.objE i)]) ∧ ∃ h', CoreH pc L s h' ∧ Upd h h' w w' := by
  by_cases ho : tblOk s.t i = true
  · have e1 : tblErr s.t i = 0 := by simp [tblErr, ho]
    by_cases hz : tblGet s.t i = 0
    · have e2 : s.objE i = 4 := by simp [CoreS.objE, ho, hz]
      have e3 : s.objH i = hd0 := by simp [CoreS.objH, e2]
      rw [e2, e3, hz]
      obtain ⟨v, ha, hy, ho', hr, hg, ht, hw, rfl, ca, cy, co, cr, cg, ct, cw⟩ := hc
      have U0 := Upd.box (x := []) (Upd.refl hi) (.cells (hdCells hd0) 65 (0, 0))
      obtain ⟨p1, p2, p3, p4, p5, p6⟩ := core_ptrs U0.inn.core
      have hl := table_get L.pt s.t i _ ht U0.inn.table ct
      rw [e1, hz] at hl
      clear p1 p2 p3 p4 p5 e1 e2 e3 ho hz
      simp only [ptr, hdCells, hd0] at p6 hl
      simp only [ptr] at *
      go_enter Tryz.func49, Tryz.ntmps49
      go_wp2_with (go_at_call 26; refine Calls.mono hl ?_; rintro e w1 ⟨rfl, rfl⟩)
      have UF := U0
      have G := hd_cells UF.inn.head
      simp only [hdCells, hd0] at G
      obtain ⟨g0, g1, g2, g3, g4, g5, g6⟩ := G
      refine bodyPost_ret (v := .tuple #[.int .i64 0, .agg (hdCells hd0), .int .i64 4]) ?_ rfl ⟨rfl, _, ⟨v, ha, hy, ho', hr, hg, ht, hw, rfl, ca, cy, co, cr, cg, ct, cw⟩, UF.drop1⟩
      simp only [results, Tryz.results49]
      simp [go_sem, hdCells, hd0, g0, g1, g2, g3, g4, g5, g6]
    · have e2 : s.objE i = 0 := by simp [CoreS.objE, ho, hz]
      have e3 : s.objH i = headS s.ws (tblGet s.t i) := by simp [CoreS.objH, e2]
      rw [e2, e3]
      have hhd := fun W h (hi : In W h) (hc : CoreH pc L s h) => core_head pc L s (tblGet s.t i) W h hi hc
      have hhd' := hhd
      obtain ⟨v, ha, hy, ho', hr, hg, ht, hw, rfl, ca, cy, co, cr, cg, ct, cw⟩ := hc
      have U0 := Upd.box (x := []) (Upd.refl hi) (.cells (hdCells hd0) 65 (0, 0))
      obtain ⟨p1, p2, p3, p4, p5, p6⟩ := core_ptrs U0.inn.core
      have hl := table_get L.pt s.t i _ ht U0.inn.table ct
      have hh := hhd _ _ (U0.inn.tail) ⟨v, ha, hy, ho', hr, hg, ht, hw, rfl, ca, cy, co, cr, cg, ct, cw⟩
      rw [e1] at hl
      generalize tblGet s.t i = k at *
      generalize headS s.ws k = H at *
      clear p1 p2 p3 p4 p5 e1 e2 e3 ho hhd hhd'
      simp only [ptr, hdCells, hd0] at p6 hl hh
      simp only [ptr] at *
      go_enter Tryz.func49, Tryz.ntmps49
      go_wp2_with (first | (go_at_call 26; refine Calls.mono hl ?_; rintro e w1 ⟨rfl, rfl⟩) | (go_at_call 87; refine Calls.mono hh ?_; rintro e w1 ⟨rfl, h', c', u1⟩; have U1 := Upd.under U0 u1; have lt2 := U1.inn.lt (b := w.heap.size) (by simp); have ne2 := Nat.ne_of_lt lt2; obtain ⟨d0, d1, d2, d3, d4, d5, d6⟩ := hd_cells U1.inn.head; obtain ⟨f0, f1, f2, f3, f4, f5, f6⟩ := hd_frozen U1.inn.head))
      have UF := (U1.hd H)
      have G := hd_cells UF.inn.head
      try simp only [hdCells] at G
      obtain ⟨g0, g1, g2, g3, g4, g5, g6⟩ := G
      clear d0 d1 d2 d3 d4 d5 d6 f0 f1 f2 f3 f4 f5 f6
      refine bodyPost_ret (v := .tuple #[.int .i64 k, .agg (hdCells H), .int .i64 0]) ?_ rfl ⟨rfl, _, c', UF.drop1⟩
      simp only [results, Tryz.results49]
      simp [go_sem, hdCells, hd0, g0, g1, g2, g3, g4, g5, g6]
  · have ho2 : tblOk s.t i = false := by simpa using ho
    have e1 : tblErr s.t i = 3 := by simp [tblErr, ho2]
    have hz : tblGet s.t i = 0 := by simp [tblGet, ho2]
    have e2 : s.objE i = 3 := by simp [CoreS.objE, ho2]
    have e3 : s.objH i = hd0 := by simp [CoreS.objH, e2]
    rw [e2, e3, hz]
    obtain ⟨v, ha, hy, ho', hr, hg, ht, hw, rfl, ca, cy, co, cr, cg, ct, cw⟩ := hc
    have U0 := Upd.box (x := []) (Upd.refl hi) (.cells (hdCells hd0) 65 (0, 0))
    obtain ⟨p1, p2, p3, p4, p5, p6⟩ := core_ptrs U0.inn.core
    have hl := table_get L.pt s.t i _ ht U0.inn.table ct
    rw [e1, hz] at hl
    clear p1 p2 p3 p4 p5 e1 e2 e3 ho ho2 hz
    simp only [ptr, hdCells, hd0] at p6 hl
    simp only [ptr] at *
    go_enter Tryz.func49, Tryz.ntmps49
    go_wp2_with (go_at_call 26; refine Calls.mono hl ?_; rintro e w1 ⟨rfl, rfl⟩)
    have UF := U0
    have G := hd_cells UF.inn.head
    simp only [hdCells, hd0] at G
    obtain ⟨g0, g1, g2, g3, g4, g5, g6⟩ := G
    refine bodyPost_ret (v := .tuple #[.int .i64 0, .agg (hdCells hd0), .int .i64 3]) ?_ rfl ⟨rfl, _, ⟨v, ha, hy, ho', hr, hg, ht, hw, rfl, ca, cy, co, cr, cg, ct, cw⟩, UF.drop1⟩
    simp only [results, Tryz.results49]
    simp [go_sem, hdCells, hd0, g0, g1, g2, g3, g4, g5, g6]

set_option maxRecDepth 100000 in
set_option maxHeartbeats 1000000 in
theorem core_clear (pc : Nat) (L : CoreL) (s : CoreS) (i : Int) (w : World) (h : Hp) (hi : In w h) (hc : CoreH pc L s h) :
    Calls Tryz.prog 13 #[ptr pc, .int .i64 i] w fun e w' =>
      e = .returned (.int .i64 (tblErr s.t i)) ∧ ∃ h', CoreH pc L { s with t := tblSet s.t i 0 } h' ∧ Upd h h' w w' := by
  obtain ⟨v, ha, hy, ho, hr, hg, ht, hw, rfl, ca, cy, co, cr, cg, ct, cw⟩ := hc
  have U0 := Upd.refl hi
  obtain ⟨p1, p2, p3, p4, p5, p6⟩ := core_ptrs (In.core (x := []) hi)
  have hl := table_set L.pt s.t i 0 _ ht (In.table (x := []) hi) ct (I64.small (by decide) (by decide))
  clear p1 p2 p3 p4 p5
  simp only [ptr] at *
  go_enter Tryz.func13, Tryz.ntmps13
  go_wp2_with (go_at_call 48; refine Calls.mono hl ?_; rintro e w1 ⟨rfl, ht', ct', u1⟩; have U1 := Upd.table (x := []) U0 u1)
  go_ret
  exact ⟨rfl, _, ⟨v, ha, hy, ho, hr, hg, ht', hw, rfl, ca, cy, co, cr, cg, ct', cw⟩, U1⟩

/-- what Copy answers, and the table behind it -/
def CoreS.copyE (s : CoreS) (i j : Int) : Int := if tblOk s.t j then tblErr s.t i else 3
def CoreS.copyT (s : CoreS) (i j : Int) : List Int := if tblOk s.t j then tblSet s.t i (tblGet s.t j) else s.t

theorem tblGet_I64 {l : List Int} (hl : ∀ x ∈ l, I64 x) (i : Int) : I64 (tblGet l i) := by
  unfold tblGet
  split
  · rename_i ho
    simp only [tblOk, decide_eq_true_eq] at ho
    have hk : i.toNat < l.length := by omega
    have : l.getD i.toNat 0 = l[i.toNat] := by simp [List.getD, hk]
    rw [this]
    exact hl _ (List.getElem_mem hk)
  · exact I64.small (by decide) (by decide)
theorem TableH.nums {p : Nat} {l : List Int} {h : Hp} (ht : TableH p l h) : ∀ x ∈ l, I64 x := by
  obtain ⟨_, _, _, hx⟩ := ht
  exact hx

set_option maxRecDepth 100000 in
set_option maxHeartbeats 1000000 in
theorem core_copy (pc : Nat) (L : CoreL) (s : CoreS) (i j : Int) (w : World) (h : Hp) (hi : In w h) (hc : CoreH pc L s h) :
    Calls Tryz.prog 62 #[ptr pc, .int .i64 i, .int .i64 j] w fun e w' =>
      e = .returned (.int .i64 (s.copyE i j)) ∧ ∃ h', CoreH pc L { s with t := s.copyT i j } h' ∧ Upd h h' w w' := by
  have hc0 := hc
  obtain ⟨v, ha, hy, ho, hr, hg, ht, hw, rfl, ca, cy, co, cr, cg, ct, cw⟩ := hc
  have U0 := Upd.refl hi
  obtain ⟨p1, p2, p3, p4, p5, p6⟩ := core_ptrs (In.core (x := []) hi)
  have hget := table_get L.pt s.t j _ ht (In.table (x := []) hi) ct
  have hset := table_set L.pt s.t i (tblGet s.t j) _ ht (In.table (x := []) hi) ct (tblGet_I64 ct.nums j)
  clear p1 p2 p3 p4 p5
  by_cases hk : tblOk s.t j = true
  · have e1 : s.copyE i j = tblErr s.t i := by simp [CoreS.copyE, hk]
    have e2 : s.copyT i j = tblSet s.t i (tblGet s.t j) := by simp [CoreS.copyT, hk]
    have e3 : tblErr s.t j = 0 := by simp [tblErr, hk]
    rw [e1, e2]
    rw [e3] at hget
    clear e1 e2 e3 hk
    simp only [ptr] at *
    go_enter Tryz.func62, Tryz.ntmps62
    go_wp2_with (first | (go_at_call 26; refine Calls.mono hget ?_; rintro e w1 ⟨rfl, rfl⟩) | (go_at_call 48; refine Calls.mono hset ?_; rintro e w1 ⟨rfl, ht', ct', u1⟩; have U1 := Upd.table (x := []) U0 u1))
    go_ret
    exact ⟨rfl, _, ⟨v, ha, hy, ho, hr, hg, ht', hw, rfl, ca, cy, co, cr, cg, ct', cw⟩, U1⟩
  · have e1 : s.copyE i j = 3 := by simp [CoreS.copyE, hk]
    have e2 : s.copyT i j = s.t := by simp [CoreS.copyT, hk]
    have e3 : tblErr s.t j = 3 := by simp [tblErr, hk]
    rw [e1, e2]
    rw [e3] at hget
    clear e1 e2 e3 hk
    simp only [ptr] at *
    go_enter Tryz.func62, Tryz.ntmps62
    go_wp2_with (go_at_call 26; refine Calls.mono hget ?_; rintro e w1 ⟨rfl, rfl⟩)
    go_ret
    exact ⟨rfl, _, hc0, U0⟩

/-- what Same answers -/
def CoreS.sameV (s : CoreS) (i j : Int) : Bool := tblOk s.t i && tblOk s.t j && decide (tblGet s.t i = tblGet s.t j)
def CoreS.sameE (s : CoreS) (i j : Int) : Int := if tblOk s.t i && tblOk s.t j then 0 else 3

set_option maxRecDepth 100000 in
set_option maxHeartbeats 1000000 in
theorem core_same (pc : Nat) (L : CoreL) (s : CoreS) (i j : Int) (w : World) (h : Hp) (hi : In w h) (hc : CoreH pc L s h) :
    Calls Tryz.prog 28 #[ptr pc, .int .i64 i, .int .i64 j] w fun e w' =>
      e = .returned (.tuple #[.bool (s.sameV i j), .int .i64 (s.sameE i j)]) ∧ Upd h h w w' := by
  obtain ⟨v, ha, hy, ho, hr, hg, ht, hw, rfl, ca, cy, co, cr, cg, ct, cw⟩ := hc
  have U0 := Upd.refl hi
  obtain ⟨p1, p2, p3, p4, p5, p6⟩ := core_ptrs (In.core (x := []) hi)
  have hget := fun i => table_get L.pt s.t i _ ht (In.table (x := []) hi) ct
  have hget1 := hget i
  have hget2 := hget j
  clear p1 p2 p3 p4 p5 hget
  by_cases hk : tblOk s.t i = true
  · have e3 : tblErr s.t i = 0 := by simp [tblErr, hk]
    rw [e3] at hget1
    by_cases hk2 : tblOk s.t j = true
    · have e4 : tblErr s.t j = 0 := by simp [tblErr, hk2]
      rw [e4] at hget2
      have e1 : s.sameV i j = decide (tblGet s.t i = tblGet s.t j) := by simp [CoreS.sameV, hk, hk2]
      have e2 : s.sameE i j = 0 := by simp [CoreS.sameE, hk, hk2]
      rw [e1, e2]
      clear e1 e2 e3 e4 hk hk2
      generalize tblGet s.t i = x1 at *
      generalize tblGet s.t j = x2 at *
      simp only [ptr] at *
      go_enter Tryz.func28, Tryz.ntmps28
      go_wp2_with (first | (go_at_call 26; with_reducible refine Calls.mono hget1 ?_; rintro e w1 ⟨rfl, rfl⟩) | (go_at_call 26; with_reducible refine Calls.mono hget2 ?_; rintro e w1 ⟨rfl, rfl⟩))
      go_ret2
      refine ⟨?_, U0⟩
      simp [Bool.beq_eq_decide_eq]
    · have e4 : tblErr s.t j = 3 := by simp [tblErr, hk2]
      rw [e4] at hget2
      have e1 : s.sameV i j = false := by simp [CoreS.sameV, hk, hk2]
      have e2 : s.sameE i j = 3 := by simp [CoreS.sameE, hk, hk2]
      rw [e1, e2]
      clear e1 e2 e3 e4 hk hk2
      generalize tblGet s.t i = x1 at *
      generalize tblGet s.t j = x2 at *
      simp only [ptr] at *
      go_enter Tryz.func28, Tryz.ntmps28
      go_wp2_with (first | (go_at_call 26; with_reducible refine Calls.mono hget1 ?_; rintro e w1 ⟨rfl, rfl⟩) | (go_at_call 26; with_reducible refine Calls.mono hget2 ?_; rintro e w1 ⟨rfl, rfl⟩))
      go_ret2
      exact ⟨rfl, U0⟩
  · have e3 : tblErr s.t i = 3 := by simp [tblErr, hk]
    rw [e3] at hget1
    have e1 : s.sameV i j = false := by simp [CoreS.sameV, hk]
    have e2 : s.sameE i j = 3 := by simp [CoreS.sameE, hk]
    rw [e1, e2]
    clear e1 e2 e3 hk
    generalize tblGet s.t i = x1 at *
    generalize tblGet s.t j = x2 at *
    generalize tblErr s.t j = x3 at *
    simp only [ptr] at *
    go_enter Tryz.func28, Tryz.ntmps28
    go_wp2_with (first | (go_at_call 26; with_reducible refine Calls.mono hget1 ?_; rintro e w1 ⟨rfl, rfl⟩) | (go_at_call 26; with_reducible refine Calls.mono hget2 ?_; rintro e w1 ⟨rfl, rfl⟩))
    go_ret2
    exact ⟨rfl, U0⟩

def CoreS.nilV (s : CoreS) (i : Int) : Bool := tblOk s.t i && decide (tblGet s.t i = 0)

end Go.Proofs.YtjjdjipohifgbaaGreat

/- What Make, Read, Write and Shape of package core, and those beneath, come to. Conditions: a core as New makes it. -/
namespace Go.Proofs.YtjjdjipohifgbaaGreat
open Go.RowKit

def CoreS.shapeOk (s : CoreS) (p c : Int) : Bool := decide (0 ≤ p ∧ 0 ≤ c ∧ p ≤ s.C.largest ∧ c ≤ s.C.largest - p)

set_option maxRecDepth 100000 in
set_option maxHeartbeats 1000000 in
theorem core_shape (pc : Nat) (L : CoreL) (s : CoreS) (p c : Int) (w : World) (v : Value) (hl0 : 0 ≤ s.C.largest) (hl1 : s.C.largest ≤ 64) (hc : w.heap[pc]? = some (coreObj L s v)) :
    Calls Tryz.prog 43 #[ptr pc, .int .i64 p, .int .i64 c] w fun e w' => e = .returned (.bool (s.shapeOk p c)) ∧ w = w' := by
  obtain ⟨c0, c1, c2, c3, c4, c5, c6, c7, c8, c9, c10, c11, c12⟩ := core_cfg hc
  clear c0 c1 c2 c3 c4 c5 c6 c7 c9 c10 c11 c12 hc
  simp only [ptr]
  by_cases h1 : 0 ≤ p
  · by_cases h2 : 0 ≤ c
    · by_cases h3 : p ≤ s.C.largest
      · have hw : IntKind.i64.wrap (s.C.largest - p) = s.C.largest - p := IntWalk.i64_in _ (by omega)
        by_cases h4 : c ≤ s.C.largest - p
        · have e : s.shapeOk p c = true := by simp [CoreS.shapeOk]; omega
          rw [e]
          clear e
          go_enter Tryz.func43, Tryz.ntmps43
          go_wp2
          go_ret
          exact ⟨rfl, rfl⟩
        · have e : s.shapeOk p c = false := by simp [CoreS.shapeOk]; omega
          rw [e]
          clear e
          go_enter Tryz.func43, Tryz.ntmps43
          go_wp2
          go_ret
          exact ⟨rfl, rfl⟩
      · have e : s.shapeOk p c = false := by simp [CoreS.shapeOk]; omega
        rw [e]
        clear e
        go_enter Tryz.func43, Tryz.ntmps43
        go_wp2
        go_ret
        exact ⟨rfl, rfl⟩
    · have e : s.shapeOk p c = false := by simp [CoreS.shapeOk]; omega
      rw [e]
      clear e
      go_enter Tryz.func43, Tryz.ntmps43
      go_wp2
      go_ret
      exact ⟨rfl, rfl⟩
  · have e : s.shapeOk p c = false := by simp [CoreS.shapeOk]; omega
    rw [e]
    clear e
    go_enter Tryz.func43, Tryz.ntmps43
    go_wp2
    go_ret
    exact ⟨rfl, rfl⟩

def CoreS.kept (s : CoreS) : Int := if s.moving then s.y.ou - s.copied else 0
def CoreS.roomOk (s : CoreS) (n : Int) : Bool := decide (s.kept ≤ s.y.room - n)

theorem YoungS.WF.bounds {y : YoungS} (h : y.WF) : 0 ≤ y.ou ∧ y.ou ≤ 1048576 ∧ 0 ≤ y.cu ∧ y.cu ≤ 1048576 ∧ 0 ≤ y.room ∧ y.room ≤ 1048576 ∧ 0 ≤ y.cf ∧ y.cf ≤ 2097152 := by
  unfold YoungS.WF at h
  unfold YoungS.room YoungS.ou YoungS.cu YoungS.cf
  split <;> omega

theorem YoungS.WF.at {y : YoungS} (h : y.WF) (n : Int) : 0 ≤ y.takeAt n ∧ y.takeAt n ≤ 4194304 := by
  have := h.bounds
  unfold YoungS.takeAt
  split <;> omega

set_option maxRecDepth 100000 in
set_option maxHeartbeats 1000000 in
theorem core_room (pc : Nat) (L : CoreL) (s : CoreS) (n : Int) (w : World) (h : Hp) (hi : In w h) (hc : CoreH pc L s h) (h1 : 0 ≤ n) (h2 : n ≤ 1048576) (h3 : 0 ≤ s.copied) (h4 : s.copied ≤ 1048576) :
    Calls Tryz.prog 45 #[ptr pc, .int .i64 n] w fun e w' => e = .returned (.bool (s.roomOk n)) ∧ Upd h h w w' := by
  obtain ⟨v, ha, hy, ho, hr, hg, ht, hw, rfl, ca, cy, co, cr, cg, ct, cw⟩ := hc
  have U0 := Upd.refl hi
  obtain ⟨p1, p2, p3, p4, p5, p6⟩ := core_ptrs (In.core (x := []) hi)
  obtain ⟨q1, q2, q3, q4, q5, q6⟩ := core_vars (In.core (x := []) hi)
  have hleft := fun W (hiW : In W hy) => bump_left L.py s.y W hy hiW cy
  have hroom := fun W (hiW : In W hy) => bump_room L.py s.y W hy hiW cy
  obtain ⟨b1, b2, b3, b4, b5, b6, b7, b8⟩ := YoungS.WF.bounds cy.2
  have hw2 : IntKind.i64.wrap (s.y.room - n) = s.y.room - n := IntWalk.i64_in _ (by omega)
  have hw3 : IntKind.i64.wrap (s.y.ou - s.copied) = s.y.ou - s.copied := IntWalk.i64_in _ (by omega)
  clear p1 p3 p4 p5 p6 q1 q2 q4 q6
  simp only [ptr] at *
  cases hm : s.moving
  · have e1 : s.roomOk n = decide (n ≤ s.y.room) := by simp [CoreS.roomOk, CoreS.kept, hm]
    rw [hm] at q3
    rw [e1]
    clear e1 hm
    go_enter Tryz.func45, Tryz.ntmps45
    go_wp2_with (go_at_call 82; refine Calls.mono (hroom _ (In.young (x := []) hi)) ?_; rintro e w1 ⟨rfl, u1⟩; have U1 := Upd.young (x := []) U0 u1)
    go_ret
    exact ⟨rfl, U1⟩
  · have e1 : s.roomOk n = decide (s.y.ou - s.copied ≤ s.y.room - n) := by simp [CoreS.roomOk, CoreS.kept, hm]
    rw [hm] at q3
    rw [e1]
    clear e1 hm
    go_enter Tryz.func45, Tryz.ntmps45
    go_wp2
    have U0d := U0.drew'
    have hSd : (w.drew).cell? ⟨pc, 14, none⟩ = some (.pointer (some ⟨L.py, 0, none⟩)) ∧ (w.drew).cell? ⟨pc, 23, none⟩ = some (.int .i64 s.copied) := ⟨p2, q5⟩
    go_region_held3 (fun w' => w'.cell? ⟨pc, 14, none⟩ = some (.pointer (some ⟨L.py, 0, none⟩)) ∧ w'.cell? ⟨pc, 23, none⟩ = some (.int .i64 s.copied))
      (first | exact hS1 | exact hSd | go_keep)
      (first | (go_at_call 21; refine Calls.mono (hleft _ (In.young (x := []) (Upd.inn U0d))) ?_; rintro e w1 ⟨rfl, u1⟩; have U1 := Upd.young (x := []) U0d u1; have hS1 : w1.cell? ⟨pc, 14, none⟩ = some (.pointer (some ⟨L.py, 0, none⟩)) ∧ w1.cell? ⟨pc, 23, none⟩ = some (.int .i64 s.copied) := ⟨cell_of (In.core (x := []) (Upd.inn U1)) 14, cell_of (In.core (x := []) (Upd.inn U1)) 23⟩))
    go_wp2_with (go_at_call 82; refine Calls.mono (hroom _ (In.young (x := []) (Upd.inn U1))) ?_; rintro e w2 ⟨rfl, u2⟩; have U2 := Upd.young (x := []) U1 u2)
    go_ret
    exact ⟨rfl, U2⟩

set_option maxRecDepth 100000 in
set_option maxHeartbeats 1000000 in
theorem core_shapeof (pc : Nat) (L : CoreL) (s : CoreS) (i : Int) (w : World) (h : Hp) (hi : In w h) (hc : CoreH pc L s h) :
    Calls Tryz.prog 14 #[ptr pc, .int .i64 i] w fun e w' =>
      e = .returned (.tuple #[.int .i64 (s.objH i).ptrs, .int .i64 ((s.objH i).size - (s.objH i).ptrs), .int .i64 (s.objE i)]) ∧ ∃ h', CoreH pc L s h' ∧ Upd h h' w w' := by
  have ho := core_object pc L s i w h hi hc
  have hgood : (s.objH i).Good := by unfold CoreS.objH; split; exact unH_good _; exact hd0_good
  obtain ⟨g1, g2, g3, g4, g5, g6, g7⟩ := hgood
  by_cases he : s.objE i = 0
  · rw [he] at ho ⊢
    generalize s.objH i = H at *
    have hw2 : IntKind.i64.wrap (H.size - H.ptrs) = H.size - H.ptrs := IntWalk.i64_in _ (by omega)
    clear he g7
    simp only [ptr, hdCells] at *
    go_enter Tryz.func14, Tryz.ntmps14
    go_wp2_with (go_at_call 49; refine Calls.mono ho ?_; rintro e w1 ⟨rfl, h', c1, u1⟩)
    go_quiet (fail)
    go_wp2
    go_ret3
    exact ⟨rfl, h', c1, (u1.skip' _).drewN' nq⟩
  · have e1 : s.objH i = hd0 := by simp [CoreS.objH, he]
    rw [e1] at ho ⊢
    have hne : (s.objE i != 0) = true := by simpa using he
    generalize s.objE i = E at *
    clear e1 g1 g2 g3 g4 g5 g6 g7
    simp only [ptr, hdCells, hd0] at *
    go_enter Tryz.func14, Tryz.ntmps14
    go_wp2_with (go_at_call 49; refine Calls.mono ho ?_; rintro e w1 ⟨rfl, h', c1, u1⟩)
    go_ret3
    exact ⟨rfl, h', c1, u1.skip' _⟩

end Go.Proofs.YtjjdjipohifgbaaGreat

/- What Read, Write, Now and Note of package core come to. Conditions: a core as New makes it. -/
namespace Go.Proofs.YtjjdjipohifgbaaGreat
open Go.RowKit

def CoreS.scalOk (s : CoreS) (i n : Int) : Bool := decide (0 ≤ n ∧ n < (s.objH i).size - (s.objH i).ptrs)
def CoreS.scalAt (s : CoreS) (i n : Int) : Int := place (tblGet s.t i) ((s.objH i).ptrs + n)
def CoreS.scalE (s : CoreS) (i n : Int) : Int := if s.objE i = 0 then (if s.scalOk i n then errW s.ws.length (s.scalAt i n) 1 else 5) else s.objE i
def CoreS.readV (s : CoreS) (i n : Int) : Int := if s.objE i = 0 ∧ s.scalOk i n = true then ldW s.ws (s.scalAt i n) else 0
def CoreS.writeW (s : CoreS) (i n x : Int) : List Int := if s.objE i = 0 ∧ s.scalOk i n = true then stW s.ws (s.scalAt i n) x else s.ws

theorem CoreS.objH_good (s : CoreS) (i : Int) : (s.objH i).Good := by unfold CoreS.objH; split; exact unH_good _; exact hd0_good

set_option maxRecDepth 100000 in
set_option maxHeartbeats 2000000 in
theorem core_read (pc : Nat) (L : CoreL) (s : CoreS) (i n : Int) (w : World) (h : Hp) (hi : In w h) (hc : CoreH pc L s h) :
    Calls Tryz.prog 42 #[ptr pc, .int .i64 i, .int .i64 n] w fun e w' =>
      e = .returned (.tuple #[.int .u64 (s.readV i n), .int .i64 (s.scalE i n)]) ∧ ∃ h', CoreH pc L s h' ∧ Upd h h' w w' := by
  have ho := core_object pc L s i w h hi hc
  obtain ⟨g1, g2, g3, g4, g5, g6, g7⟩ := s.objH_good i
  by_cases he : s.objE i = 0
  · by_cases hk : s.scalOk i n = true
    · have e1 : s.scalE i n = errW s.ws.length (s.scalAt i n) 1 := by simp [CoreS.scalE, he, hk]
      have e2 : s.readV i n = ldW s.ws (s.scalAt i n) := by simp [CoreS.readV, he, hk]
      have e3 : s.scalAt i n = place (tblGet s.t i) ((s.objH i).ptrs + n) := rfl
      rw [e1, e2, e3]
      simp only [CoreS.scalOk, decide_eq_true_eq] at hk
      obtain ⟨k1, k2⟩ := hk
      rw [he] at ho
      clear e1 e2 e3 he
      generalize tblGet s.t i = j at *
      generalize s.objH i = H at *
      have hw2 : IntKind.i64.wrap (H.size - H.ptrs) = H.size - H.ptrs := IntWalk.i64_in _ (by omega)
      have hw3 : IntKind.i64.wrap (H.ptrs + n) = H.ptrs + n := IntWalk.i64_in _ (by omega)
      have hl := fun W h (hiW : In W h) (ha : ArenaH L.pa s.ws h) => obj_field L.pa s.ws j (H.ptrs + n) W h hiW ha
      clear g7
      simp only [ptr, hdCells] at *
      go_enter Tryz.func42, Tryz.ntmps42
      go_wp2_with (go_at_call 49; refine Calls.mono ho ?_; rintro e w1 ⟨rfl, h', ⟨v, ha, hy, ho', hr, hg, ht, hw, rfl, ca, cy, co, cr, cg, ct, cw⟩, u1⟩; have U1 := Upd.box (x := []) u1 (.cells (hdCells H) 65 (0, 0)); obtain ⟨p1, p2, p3, p4, p5, p6⟩ := core_ptrs U1.inn.core; clear p2 p3 p4 p5 p6; simp only [ptr, hdCells] at p1)
      have U1d := U1.drew'
      have hSd : (w1.alloc (.cells #[.int .i64 H.size, .int .i64 H.ptrs, .int .i64 H.age, .int .i64 H.parity, .bool H.grey, .bool H.noted, .bool H.old] 65 (0, 0))).drew.cell? ⟨pc, 13, none⟩ = some (.pointer (some ⟨L.pa, 0, none⟩)) ∧ (w1.alloc (.cells #[.int .i64 H.size, .int .i64 H.ptrs, .int .i64 H.age, .int .i64 H.parity, .bool H.grey, .bool H.noted, .bool H.old] 65 (0, 0))).drew.cell? ⟨w1.heap.size, 1, none⟩ = some (.int .i64 H.ptrs) := ⟨p1, cell_of U1.inn.head 1⟩
      go_region_held3 (fun w' => w'.cell? ⟨pc, 13, none⟩ = some (.pointer (some ⟨L.pa, 0, none⟩)) ∧ w'.cell? ⟨w1.heap.size, 1, none⟩ = some (.int .i64 H.ptrs))
        (first | exact hS3 | exact hSd | go_keep)
        (first | (go_at_call 64; refine Calls.mono (hl _ _ (Upd.inn U1d).arena ca) ?_; rintro e w3 ⟨rfl, ha', ca', u3⟩; have U3 := Upd.arena (x := [_]) U1d u3; have hS3 : w3.cell? ⟨pc, 13, none⟩ = some (.pointer (some ⟨L.pa, 0, none⟩)) ∧ w3.cell? ⟨w1.heap.size, 1, none⟩ = some (.int .i64 H.ptrs) := ⟨cell_of U3.inn.core 13, cell_of U3.inn.head 1⟩))
      go_wp2

      go_ret2
      exact ⟨rfl, _, ⟨v, ha', hy, ho', hr, hg, ht, hw, rfl, ca', cy, co, cr, cg, ct, cw⟩, U3.drop1⟩
    · have e1 : s.scalE i n = 5 := by simp [CoreS.scalE, he, hk]
      have e2 : s.readV i n = 0 := by simp [CoreS.readV, hk]
      rw [e1, e2]
      simp only [CoreS.scalOk, decide_eq_true_eq] at hk
      rw [he] at ho
      clear e1 e2 he
      generalize tblGet s.t i = j at *
      generalize s.objH i = H at *
      have hw2 : IntKind.i64.wrap (H.size - H.ptrs) = H.size - H.ptrs := IntWalk.i64_in _ (by omega)
      by_cases k1 : 0 ≤ n
      · have k2 : H.size - H.ptrs ≤ n := by omega
        clear g7 hk
        simp only [ptr, hdCells] at *
        go_enter Tryz.func42, Tryz.ntmps42
        go_wp2_with (go_at_call 49; refine Calls.mono ho ?_; rintro e w1 ⟨rfl, h', c1, u1⟩)
        go_ret2
        exact ⟨rfl, h', c1, u1.skip' _⟩
      · clear g7 hk
        simp only [ptr, hdCells] at *
        go_enter Tryz.func42, Tryz.ntmps42
        go_wp2_with (go_at_call 49; refine Calls.mono ho ?_; rintro e w1 ⟨rfl, h', c1, u1⟩)
        go_ret2
        exact ⟨rfl, h', c1, u1.skip' _⟩
  · have e1 : s.scalE i n = s.objE i := by simp [CoreS.scalE, he]
    have e2 : s.readV i n = 0 := by simp [CoreS.readV, he]
    have hne : (s.objE i != 0) = true := by simpa using he
    rw [e1, e2]
    generalize s.objH i = H at *
    generalize s.objE i = E at *
    clear e1 e2 g1 g2 g3 g4 g5 g6 g7
    simp only [ptr, hdCells] at *
    go_enter Tryz.func42, Tryz.ntmps42
    go_wp2_with (go_at_call 49; refine Calls.mono ho ?_; rintro e w1 ⟨rfl, h', c1, u1⟩)
    go_ret2
    exact ⟨rfl, h', c1, u1.skip' _⟩

set_option maxRecDepth 100000 in
set_option maxHeartbeats 2000000 in
theorem core_write (pc : Nat) (L : CoreL) (s : CoreS) (i n x : Int) (w : World) (h : Hp) (hi : In w h) (hc : CoreH pc L s h) (hx : U64 x) :
    Calls Tryz.prog 41 #[ptr pc, .int .i64 i, .int .i64 n, .int .u64 x] w fun e w' =>
      e = .returned (.int .i64 (s.scalE i n)) ∧ ∃ h', CoreH pc L { s with ws := s.writeW i n x } h' ∧ Upd h h' w w' := by
  have ho := core_object pc L s i w h hi hc
  obtain ⟨g1, g2, g3, g4, g5, g6, g7⟩ := s.objH_good i
  by_cases he : s.objE i = 0
  · by_cases hk : s.scalOk i n = true
    · have e1 : s.scalE i n = errW s.ws.length (s.scalAt i n) 1 := by simp [CoreS.scalE, he, hk]
      have e2 : s.writeW i n x = stW s.ws (s.scalAt i n) x := by simp [CoreS.writeW, he, hk]
      have e3 : s.scalAt i n = place (tblGet s.t i) ((s.objH i).ptrs + n) := rfl
      rw [e1, e2, e3]
      simp only [CoreS.scalOk, decide_eq_true_eq] at hk
      obtain ⟨k1, k2⟩ := hk
      rw [he] at ho
      clear e1 e2 e3 he
      generalize tblGet s.t i = j at *
      generalize s.objH i = H at *
      have hw2 : IntKind.i64.wrap (H.size - H.ptrs) = H.size - H.ptrs := IntWalk.i64_in _ (by omega)
      have hw3 : IntKind.i64.wrap (H.ptrs + n) = H.ptrs + n := IntWalk.i64_in _ (by omega)
      have hl := fun W h (hiW : In W h) (ha : ArenaH L.pa s.ws h) => obj_setfield L.pa s.ws j (H.ptrs + n) x W h hiW ha hx
      clear g7
      simp only [ptr, hdCells] at *
      go_enter Tryz.func41, Tryz.ntmps41
      go_wp2_with (go_at_call 49; refine Calls.mono ho ?_; rintro e w1 ⟨rfl, h', ⟨v, ha, hy, ho', hr, hg, ht, hw, rfl, ca, cy, co, cr, cg, ct, cw⟩, u1⟩; have U1 := Upd.box (x := []) u1 (.cells (hdCells H) 65 (0, 0)); obtain ⟨p1, p2, p3, p4, p5, p6⟩ := core_ptrs U1.inn.core; clear p2 p3 p4 p5 p6; simp only [ptr, hdCells] at p1)
      have U1d := U1.drew'
      refine wp_tail 10 (by kernel_rfl) (by kernel_rfl) fun w2 hw2 => ?_
      subst hw2
      simp only [List.take_succ_cons, List.take_zero, List.drop_succ_cons, List.drop_zero]
      repeat (refine wpStill_step (fun K hK => ?_); have HK := Lib.hid hK; clear hK; go_simp; refine HK.out _ ?_; clear HK K)
      refine wpStill_nil ?_
      go_wp2_with (go_at_call 69; refine Calls.mono (hl _ _ (Upd.inn U1d).arena ca) ?_; rintro e w3 ⟨rfl, ha', ca', u3⟩; have U3 := Upd.arena (x := [_]) U1d u3)

      go_ret
      exact ⟨rfl, _, ⟨v, ha', hy, ho', hr, hg, ht, hw, rfl, ca', cy, co, cr, cg, ct, cw⟩, U3.drop1⟩
    · have e1 : s.scalE i n = 5 := by simp [CoreS.scalE, he, hk]
      have e2 : s.writeW i n x = s.ws := by simp [CoreS.writeW, hk]
      rw [e1, e2]
      simp only [CoreS.scalOk, decide_eq_true_eq] at hk
      rw [he] at ho
      clear e1 e2 he
      generalize tblGet s.t i = j at *
      generalize s.objH i = H at *
      have hw2 : IntKind.i64.wrap (H.size - H.ptrs) = H.size - H.ptrs := IntWalk.i64_in _ (by omega)
      by_cases k1 : 0 ≤ n
      · have k2 : H.size - H.ptrs ≤ n := by omega
        clear g7 hk
        simp only [ptr, hdCells] at *
        go_enter Tryz.func41, Tryz.ntmps41
        go_wp2_with (go_at_call 49; refine Calls.mono ho ?_; rintro e w1 ⟨rfl, h', c1, u1⟩)
        go_ret
        exact ⟨rfl, h', c1, u1.skip' _⟩
      · clear g7 hk
        simp only [ptr, hdCells] at *
        go_enter Tryz.func41, Tryz.ntmps41
        go_wp2_with (go_at_call 49; refine Calls.mono ho ?_; rintro e w1 ⟨rfl, h', c1, u1⟩)
        go_ret
        exact ⟨rfl, h', c1, u1.skip' _⟩
  · have e1 : s.scalE i n = s.objE i := by simp [CoreS.scalE, he]
    have e2 : s.writeW i n x = s.ws := by simp [CoreS.writeW, he]
    have hne : (s.objE i != 0) = true := by simpa using he
    rw [e1, e2]
    generalize s.objH i = H at *
    generalize s.objE i = E at *
    clear e1 e2 g1 g2 g3 g4 g5 g6 g7
    simp only [ptr, hdCells] at *
    go_enter Tryz.func41, Tryz.ntmps41
    go_wp2_with (go_at_call 49; refine Calls.mono ho ?_; rintro e w1 ⟨rfl, h', c1, u1⟩)
    go_ret
    exact ⟨rfl, h', c1, u1.skip' _⟩


def CoreS.now (s : CoreS) (i : Int) : Int := if i ≠ 0 ∧ s.y.isFrom i = true then wayW s.ws i else i

set_option maxRecDepth 100000 in
set_option maxHeartbeats 1000000 in
theorem core_now (pc : Nat) (L : CoreL) (s : CoreS) (i : Int) (w : World) (h : Hp) (hi : In w h) (hc : CoreH pc L s h) (hb : I64 i) :
    Calls Tryz.prog 24 #[ptr pc, .int .i64 i] w fun e w' =>
      e = .returned (.int .i64 (s.now i)) ∧ ∃ h', CoreH pc L s h' ∧ Upd h h' w w' := by
  have hc0 := hc
  obtain ⟨v, ha, hy, ho, hr, hg, ht, hw, rfl, ca, cy, co, cr, cg, ct, cw⟩ := hc
  have U0 := Upd.refl hi
  obtain ⟨p1, p2, p3, p4, p5, p6⟩ := core_ptrs (In.core (x := []) hi)
  have hfrom := bump_from L.py s.y i w hy (In.young (x := []) hi) cy hb
  have hway := fun W h (hiW : In W h) (ha : ArenaH L.pa s.ws h) => obj_way L.pa s.ws i W h hiW ha
  clear p3 p4 p5 p6
  simp only [ptr] at *
  by_cases hz : i = 0
  · have e1 : s.now i = i := by simp [CoreS.now, hz]
    have hq : (i == 0) = true := by simpa using hz
    rw [e1]
    clear e1 hz
    go_enter Tryz.func24, Tryz.ntmps24
    go_wp2
    go_ret
    exact ⟨rfl, _, hc0, U0⟩
  · have hq : (i == 0) = false := by simpa using hz
    cases hf : s.y.isFrom i
    · have e1 : s.now i = i := by simp [CoreS.now, hf]
      rw [e1]
      rw [hf] at hfrom
      clear e1 hz hf
      go_enter Tryz.func24, Tryz.ntmps24
      go_wp2_with (go_at_call 23; refine Calls.mono hfrom ?_; rintro e w1 ⟨rfl, u1⟩; have U1 := Upd.young (x := []) U0 u1)
      go_ret
      exact ⟨rfl, _, ⟨v, ha, hy, ho, hr, hg, ht, hw, rfl, ca, cy, co, cr, cg, ct, cw⟩, U1⟩
    · have e1 : s.now i = wayW s.ws i := by simp [CoreS.now, hf, hz]
      rw [e1]
      rw [hf] at hfrom
      clear e1 hz hf
      go_enter Tryz.func24, Tryz.ntmps24
      go_wp2_with (first | (go_at_call 23; refine Calls.mono hfrom ?_; rintro e w1 ⟨rfl, u1⟩; have U1 := Upd.young (x := []) U0 u1; obtain ⟨p1, p2, p3, p4, p5, p6⟩ := core_ptrs (In.core (x := []) (Upd.inn U1)); simp only [ptr] at p1; clear p2 p3 p4 p5 p6) | (go_at_call 68; refine Calls.mono (hway _ _ (In.arena (x := []) (Upd.inn U1)) ca) ?_; rintro e w2 ⟨rfl, ha', ca', u2⟩; have U2 := Upd.arena (x := []) U1 u2))
      go_ret
      exact ⟨rfl, _, ⟨v, ha', hy, ho, hr, hg, ht, hw, rfl, ca', cy, co, cr, cg, ct, cw⟩, U2⟩

end Go.Proofs.YtjjdjipohifgbaaGreat

/- What Note and Mark of package core come to. Conditions: a core as New makes it. -/
namespace Go.Proofs.YtjjdjipohifgbaaGreat
open Go.RowKit

/-- an old object that is noted -/
def CoreS.noteOk (s : CoreS) (i : Int) : Bool := !decide (i = 0) && (headS s.ws i).old && !(headS s.ws i).noted
def CoreS.note (s : CoreS) (i : Int) : CoreS := if s.noteOk i then { s with ws := stW s.ws i { headS s.ws i with noted := true }.enc, r := s.r.add i } else s

set_option maxRecDepth 100000 in
set_option maxHeartbeats 1000000 in
theorem core_note (pc : Nat) (L : CoreL) (s : CoreS) (i : Int) (w : World) (h : Hp) (hi : In w h) (hc : CoreH pc L s h) (hb : I64 i) :
    Calls Tryz.prog 71 #[ptr pc, .int .i64 i] w fun e w' =>
      e = .returned (.tuple #[]) ∧ ∃ h', CoreH pc L (s.note i) h' ∧ Upd h h' w w' := by
  by_cases hz : i = 0
  · have e1 : s.note i = s := by simp [CoreS.note, CoreS.noteOk, hz]
    have hq : (i == 0) = true := by simpa using hz
    rw [e1]
    clear e1 hz
    simp only [ptr] at *
    go_enter Tryz.func71, Tryz.ntmps71
    go_wp2
    refine bodyPost_ret (results_none rfl _ _ _) rfl ?_
    exact ⟨rfl, _, hc, Upd.refl hi⟩
  · have hq : (i == 0) = false := by simpa using hz
    have hh := core_head pc L s i w h hi hc
    have hG : (headS s.ws i).Good := unH_good _
    by_cases hk : (headS s.ws i).old = true ∧ (headS s.ws i).noted = false
    · have e1 : s.note i = { s with ws := stW s.ws i { headS s.ws i with noted := true }.enc, r := s.r.add i } := by simp [CoreS.note, CoreS.noteOk, hz, hk]
      rw [e1]
      obtain ⟨k1, k2⟩ := hk
      have hset := fun W h (hiW : In W h) (hc : CoreH pc L s h) => core_sethead pc L s i { headS s.ws i with noted := true } hG W h hiW hc
      have hadd := fun W h (hiW : In W h) (hr : RemH L.pr s.r h) => rem_add L.pr s.r i W h hiW hr hb
      generalize headS s.ws i = H at *
      obtain ⟨a1, a2, a3, a4, a5, a6, a7⟩ := H
      simp only at k1 k2
      subst k1 k2
      clear e1 hz hi hG
      simp only [ptr, hdCells] at *
      go_enter Tryz.func71, Tryz.ntmps71
      go_wp2_with (first | (go_at_call 87; refine Calls.mono hh ?_; rintro e w1 ⟨rfl, h1, c1, u1⟩) | (go_at_call 98; have U1 := u1.alloc' (.cells (hdCells ⟨a1, a2, a3, a4, a5, true, true⟩) 65 (0, 0)); refine Calls.mono (hset _ _ U1.inn.tail c1) ?_; rintro e w2 ⟨rfl, h2, ⟨v, ha, hy, ho, hr, hg, ht, hw, rfl, ca, cy, co, cr, cg, ct, cw⟩, u2⟩; have U2 := (U1.under u2).drop1; obtain ⟨p1, p2, p3, p4, p5, p6⟩ := core_ptrs (In.core (x := []) U2.inn); clear p1 p2 p3 p5 p6; simp only [ptr] at p4) | (go_at_call 105; refine Calls.mono (hadd _ _ (In.rem (x := []) U2.inn) cr) ?_; rintro e w3 ⟨rfl, hr', cr', u3⟩; have U3 := Upd.rem (x := []) U2 u3))
      go_end0
      exact ⟨rfl, _, ⟨v, ha, hy, ho, hr', hg, ht, hw, rfl, ca, cy, co, cr', cg, ct, cw⟩, U3⟩
    · have e1 : s.note i = s := by
        have : s.noteOk i = false := by
          simp only [CoreS.noteOk]
          cases h1 : (headS s.ws i).old <;> cases h2 : (headS s.ws i).noted <;> simp_all
        simp [CoreS.note, this]
      rw [e1]
      clear e1 hz hG
      generalize headS s.ws i = H at *
      obtain ⟨a1, a2, a3, a4, a5, a6, a7⟩ := H
      simp only at hk
      cases a7
      · clear hk
        simp only [ptr, hdCells] at *
        go_enter Tryz.func71, Tryz.ntmps71
        go_wp2_with (go_at_call 87; refine Calls.mono hh ?_; rintro e w1 ⟨rfl, h1, c1, u1⟩)
        go_end0
        exact ⟨rfl, _, c1, u1.skip' _⟩
      · have k2 : a6 = true := by simpa using hk
        subst k2
        clear hk
        simp only [ptr, hdCells] at *
        go_enter Tryz.func71, Tryz.ntmps71
        go_wp2_with (go_at_call 87; refine Calls.mono hh ?_; rintro e w1 ⟨rfl, h1, c1, u1⟩)
        go_end0
        exact ⟨rfl, _, c1, u1.skip' _⟩


/-- what Mark marks -/
def CoreS.markOk (s : CoreS) (i : Int) : Bool := !decide (i = 0) && decide (s.phase = 1) && !decide ((headS s.ws (s.now i)).parity = s.parity)
def CoreS.mark (s : CoreS) (i : Int) : CoreS := if s.markOk i then { s with ws := stW s.ws (s.now i) { headS s.ws (s.now i) with parity := s.parity, grey := true }.enc, g := s.g.push (s.now i) } else s

theorem CoreS.now_I64 (s : CoreS) {i : Int} (h : I64 i) : I64 (s.now i) := by
  unfold CoreS.now
  split
  · unfold wayW
    split
    · exact I64.wrap _
    · exact I64.small (by decide) (by decide)
  · exact h

set_option maxRecDepth 100000 in
set_option maxHeartbeats 2000000 in
theorem core_mark (pc : Nat) (L : CoreL) (s : CoreS) (i : Int) (w : World) (h : Hp) (hi : In w h) (hc : CoreH pc L s h) (hb : I64 i) (hpar : s.parity = 0 ∨ s.parity = 1) :
    Calls Tryz.prog 75 #[ptr pc, .int .i64 i] w fun e w' =>
      e = .returned (.tuple #[]) ∧ ∃ h', CoreH pc L (s.mark i) h' ∧ Upd h h' w w' := by
  by_cases hz : i = 0
  · have e1 : s.mark i = s := by simp [CoreS.mark, CoreS.markOk, hz]
    have hq : (i == 0) = true := by simpa using hz
    rw [e1]
    clear e1 hz hpar
    simp only [ptr] at *
    go_enter Tryz.func75, Tryz.ntmps75
    go_wp2
    refine bodyPost_ret (results_none rfl _ _ _) rfl ?_
    exact ⟨rfl, _, hc, Upd.refl hi⟩
  · have hq : (i == 0) = false := by simpa using hz
    have hc0 := hc
    obtain ⟨v, ha, hy, ho, hr, hg, ht, hw, rfl, ca, cy, co, cr, cg, ct, cw⟩ := hc
    obtain ⟨q1, q2, q3, q4, q5, q6⟩ := core_vars (In.core (x := []) hi)
    clear q1 q3 q4 q5 q6
    by_cases hp : s.phase = 1
    · have hnow := core_now pc L s i w _ hi hc0 hb
      have hh := fun W h (hiW : In W h) (hc : CoreH pc L s h) => core_head pc L s (s.now i) W h hiW hc
      have hG : (headS s.ws (s.now i)).Good := unH_good _
      have hjb := s.now_I64 hb
      by_cases hk : (headS s.ws (s.now i)).parity = s.parity
      · have e1 : s.mark i = s := by simp [CoreS.mark, CoreS.markOk, hk]
        rw [e1]
        rw [hp] at q2
        generalize s.now i = j at *
        generalize headS s.ws j = H at *
        have hk' : (H.parity == s.parity) = true := by simpa using hk
        clear e1 hz hG hpar hk hp
        simp only [ptr, hdCells] at *
        go_enter Tryz.func75, Tryz.ntmps75
        go_wp2_with (first | (go_at_call 24; refine Calls.mono hnow ?_; rintro e w1 ⟨rfl, h1, c1, u1⟩) | (go_at_call 87; refine Calls.mono (hh _ _ u1.inn c1) ?_; rintro e w2 ⟨rfl, h2, ⟨v2, ha2, hy2, ho2, hr2, hg2, ht2, hw2, rfl, ca2, cy2, co2, cr2, cg2, ct2, cw2⟩, u2⟩; have U2 := Upd.box (x := []) (u1.trans u2) (.cells (hdCells H) 65 (0, 0)); obtain ⟨q1, q2, q3, q4, q5, q6⟩ := core_vars U2.inn.core; simp only [hdCells] at q1; clear q2 q3 q4 q5 q6))
        go_quiet (fail)
        go_wp2
        refine bodyPost_ret (results_none rfl _ _ _) rfl ?_
        exact ⟨rfl, _, ⟨v2, ha2, hy2, ho2, hr2, hg2, ht2, hw2, rfl, ca2, cy2, co2, cr2, cg2, ct2, cw2⟩, (U2.drop1).drewN' nq⟩
      · have e1 : s.mark i = { s with ws := stW s.ws (s.now i) { headS s.ws (s.now i) with parity := s.parity, grey := true }.enc, g := s.g.push (s.now i) } := by simp [CoreS.mark, CoreS.markOk, hk, hp, hz]
        rw [e1]
        have hG2 : Hd.Good { headS s.ws (s.now i) with parity := s.parity, grey := true } := by
          obtain ⟨g1, g2, g3, g4, g5, g6, g7⟩ := hG
          exact ⟨g1, g2, g3, g4, g5, g6, hpar⟩
        have hset := fun W h (hiW : In W h) (hc : CoreH pc L s h) => core_sethead pc L s (s.now i) { headS s.ws (s.now i) with parity := s.parity, grey := true } hG2 W h hiW hc
        have hpush := fun W h (hiW : In W h) (hr : GreyH L.pg s.g h) => grey_push L.pg s.g (s.now i) W h hiW hr hjb
        rw [hp] at q2
        generalize s.now i = j at *
        generalize headS s.ws j = H at *
        have hk' : (H.parity == s.parity) = false := by simpa using hk
        obtain ⟨a1, a2, a3, a4, a5, a6, a7⟩ := H
        clear e1 hz hG hG2 hpar hk hp
        simp only [ptr, hdCells] at *
        go_enter Tryz.func75, Tryz.ntmps75
        go_wp2_with (first | (go_at_call 24; refine Calls.mono hnow ?_; rintro e w1 ⟨rfl, h1, c1, u1⟩) | (go_at_call 87; refine Calls.mono (hh _ _ u1.inn c1) ?_; rintro e w2 ⟨rfl, h2, ⟨v2, ha2, hy2, ho2, hr2, hg2, ht2, hw2, rfl, ca2, cy2, co2, cr2, cg2, ct2, cw2⟩, u2⟩; have U2 := Upd.box (x := []) (u1.trans u2) (.cells (hdCells ⟨a1, a2, a3, a4, a5, a6, a7⟩) 65 (0, 0)); obtain ⟨q1, q2, q3, q4, q5, q6⟩ := core_vars U2.inn.core; simp only [hdCells] at q1; clear q2 q3 q4 q5 q6))
        go_quiet (fail)
        have q1' : (World.drewN (w2.alloc (.cells #[.int .i64 a1, .int .i64 a2, .int .i64 a3, .int .i64 a4, .bool a5, .bool a6, .bool a7] 65 (0, 0))) nq).cell? ⟨pc, 19, none⟩ = some (.int .i64 s.parity) := q1
        go_wp2_with (first | (go_at_call 98; have U3 := (((((u1.trans u2).alloc' (.cells (hdCells ⟨a1, a2, a3, a4, a5, a6, a7⟩) 65 (0, 0))).drewN' nq)).store1 3 (.int .i64 s.parity)).store1 4 (.bool true); refine Calls.mono (hset _ _ U3.inn.tail ⟨v2, ha2, hy2, ho2, hr2, hg2, ht2, hw2, rfl, ca2, cy2, co2, cr2, cg2, ct2, cw2⟩) ?_; rintro e w4 ⟨rfl, h4, ⟨v4, ha4, hy4, ho4, hr4, hg4, ht4, hw4, rfl, ca4, cy4, co4, cr4, cg4, ct4, cw4⟩, u4⟩; have U4 := (U3.under u4).drop1; obtain ⟨p1, p2, p3, p4, p5, p6⟩ := core_ptrs (In.core (x := []) U4.inn); clear p1 p2 p3 p4 p6; simp only [ptr] at p5) | (go_at_call 108; refine Calls.mono (hpush _ _ (In.grey (x := []) U4.inn) cg4) ?_; rintro e w5 ⟨rfl, hg5, cg5, u5⟩; have U5 := Upd.grey (x := []) U4 u5))
        go_end0
        exact ⟨rfl, _, ⟨v4, ha4, hy4, ho4, hr4, hg5, ht4, hw4, rfl, ca4, cy4, co4, cr4, cg5, ct4, cw4⟩, U5⟩
    · have e1 : s.mark i = s := by simp [CoreS.mark, CoreS.markOk, hp]
      have hp' : (s.phase != 1) = true := by simpa using hp
      rw [e1]
      clear e1 hz hp hpar
      simp only [ptr] at *
      go_enter Tryz.func75, Tryz.ntmps75
      go_wp2
      refine bodyPost_ret (results_none rfl _ _ _) rfl ?_
      exact ⟨rfl, _, hc0, Upd.refl hi⟩

end Go.Proofs.YtjjdjipohifgbaaGreat

/- What Set and Get of package core come to. Conditions: a core as New makes it. -/
namespace Go.Proofs.YtjjdjipohifgbaaGreat
open Go.RowKit

def CoreS.refOk (s : CoreS) (i n : Int) : Bool := decide (0 ≤ n ∧ n < (s.objH i).ptrs)
def CoreS.refE (s : CoreS) (i n k : Int) : Int := if s.objE i = 0 then (if tblOk s.t k then (if s.refOk i n then 0 else 5) else 3) else s.objE i
def CoreS.put (s : CoreS) (i n k : Int) : CoreS := { s with ws := stW s.ws (place (tblGet s.t i) n) (u64 (tblGet s.t k)) }
def CoreS.setTo (s : CoreS) (i n k : Int) : CoreS := if s.y.isIn (tblGet s.t k) then (s.put i n k).note (tblGet s.t i) else s.put i n k
def CoreS.set (s : CoreS) (i n k : Int) : CoreS := if s.refE i n k = 0 then s.setTo i n k else s

set_option maxRecDepth 100000 in
set_option maxHeartbeats 2000000 in
theorem core_set (pc : Nat) (L : CoreL) (s : CoreS) (i n k : Int) (w : World) (h : Hp) (hi : In w h) (hc : CoreH pc L s h) :
    Calls Tryz.prog 25 #[ptr pc, .int .i64 i, .int .i64 n, .int .i64 k] w fun e w' =>
      e = .returned (.int .i64 (s.refE i n k)) ∧ ∃ h', CoreH pc L (s.set i n k) h' ∧ Upd h h' w w' := by
  have ho := core_object pc L s i w h hi hc
  have hnums : (∀ x ∈ s.t, I64 x) := by obtain ⟨v, ha, hy, ho', hr, hg, ht, hw, hh, ca, cy, co, cr, cg, ct, cw⟩ := hc; exact ct.nums
  have hget := fun W h (hiW : In W h) (ht : TableH L.pt s.t h) => table_get L.pt s.t k W h hiW ht
  have hkb := tblGet_I64 hnums k
  have hib := tblGet_I64 hnums i
  obtain ⟨g1, g2, g3, g4, g5, g6, g7⟩ := s.objH_good i
  by_cases he : s.objE i = 0
  case neg =>
    have e1 : s.refE i n k = s.objE i := by simp [CoreS.refE, he]
    have e2 : s.set i n k = s := by simp [CoreS.set, e1, he]
    have hne : (s.objE i != 0) = true := by simpa using he
    rw [e1, e2]
    generalize s.objH i = H at *
    generalize s.objE i = E at *
    clear e1 e2 g1 g2 g3 g4 g5 g6 g7
    simp only [ptr, hdCells] at *
    go_enter Tryz.func25, Tryz.ntmps25
    go_wp2_with (go_at_call 49; refine Calls.mono ho ?_; rintro e w1 ⟨rfl, h', c1, u1⟩)
    go_ret
    exact ⟨rfl, h', c1, u1.skip' _⟩
  by_cases hk : tblOk s.t k = true
  case neg =>
    have e1 : s.refE i n k = 3 := by simp [CoreS.refE, he, hk]
    have e2 : s.set i n k = s := by simp [CoreS.set, e1]
    rw [e1, e2]
    have e3 : tblErr s.t k = 3 := by simp [tblErr, hk]
    rw [he] at ho
    rw [e3] at hget
    clear e1 e2 e3 he hk
    generalize tblGet s.t i = j at *
    generalize s.objH i = H at *
    clear g1 g2 g3 g4 g5 g6 g7
    simp only [ptr, hdCells] at *
    go_enter Tryz.func25, Tryz.ntmps25
    go_wp2_with (first | (go_at_call 49; refine Calls.mono ho ?_; rintro e w1 ⟨rfl, h', ⟨v, ha, hy, ho', hr, hg, ht, hw, rfl, ca, cy, co, cr, cg, ct, cw⟩, u1⟩; have U1 := Upd.box (x := []) u1 (.cells (hdCells H) 65 (0, 0)); obtain ⟨p1, p2, p3, p4, p5, p6⟩ := core_ptrs U1.inn.core; clear p2 p3 p4 p5; simp only [ptr, hdCells] at p1 p6) | (go_at_call 26; refine Calls.mono (hget _ _ (Upd.inn U1).table ct) ?_; rintro e w2 ⟨rfl, rfl⟩))
    go_ret
    exact ⟨rfl, _, ⟨v, ha, hy, ho', hr, hg, ht, hw, rfl, ca, cy, co, cr, cg, ct, cw⟩, U1.drop1⟩
  have e3 : tblErr s.t k = 0 := by simp [tblErr, hk]
  rw [he] at ho
  rw [e3] at hget
  by_cases hn : s.refOk i n = true
  case neg =>
    have e1 : s.refE i n k = 5 := by simp [CoreS.refE, he, hk, hn]
    have e2 : s.set i n k = s := by simp [CoreS.set, e1]
    rw [e1, e2]
    simp only [CoreS.refOk, decide_eq_true_eq] at hn
    clear e1 e2 e3 he hk
    generalize tblGet s.t i = j at *
    generalize s.objH i = H at *
    by_cases k1 : 0 ≤ n
    · have k2 : H.ptrs ≤ n := by omega
      clear g7 hn
      simp only [ptr, hdCells] at *
      go_enter Tryz.func25, Tryz.ntmps25
      go_wp2_with (first | (go_at_call 49; refine Calls.mono ho ?_; rintro e w1 ⟨rfl, h', ⟨v, ha, hy, ho', hr, hg, ht, hw, rfl, ca, cy, co, cr, cg, ct, cw⟩, u1⟩; have U1 := Upd.box (x := []) u1 (.cells (hdCells H) 65 (0, 0)); obtain ⟨p1, p2, p3, p4, p5, p6⟩ := core_ptrs U1.inn.core; clear p2 p3 p4 p5; simp only [ptr, hdCells] at p1 p6) | (go_at_call 26; refine Calls.mono (hget _ _ (Upd.inn U1).table ct) ?_; rintro e w2 ⟨rfl, rfl⟩))
      go_ret
      exact ⟨rfl, _, ⟨v, ha, hy, ho', hr, hg, ht, hw, rfl, ca, cy, co, cr, cg, ct, cw⟩, U1.drop1⟩
    · skip
      clear g7 hn
      simp only [ptr, hdCells] at *
      go_enter Tryz.func25, Tryz.ntmps25
      go_wp2_with (first | (go_at_call 49; refine Calls.mono ho ?_; rintro e w1 ⟨rfl, h', ⟨v, ha, hy, ho', hr, hg, ht, hw, rfl, ca, cy, co, cr, cg, ct, cw⟩, u1⟩; have U1 := Upd.box (x := []) u1 (.cells (hdCells H) 65 (0, 0)); obtain ⟨p1, p2, p3, p4, p5, p6⟩ := core_ptrs U1.inn.core; clear p2 p3 p4 p5; simp only [ptr, hdCells] at p1 p6) | (go_at_call 26; refine Calls.mono (hget _ _ (Upd.inn U1).table ct) ?_; rintro e w2 ⟨rfl, rfl⟩))
      go_ret
      exact ⟨rfl, _, ⟨v, ha, hy, ho', hr, hg, ht, hw, rfl, ca, cy, co, cr, cg, ct, cw⟩, U1.drop1⟩
  have e1 : s.refE i n k = 0 := by simp [CoreS.refE, he, hk, hn]
  have e2 : s.set i n k = s.setTo i n k := by simp [CoreS.set, e1]
  rw [e1, e2]
  simp only [CoreS.refOk, decide_eq_true_eq] at hn
  obtain ⟨n1, n2⟩ := hn
  have hnote := fun W h (hiW : In W h) (hc : CoreH pc L (s.put i n k) h) => core_note pc L (s.put i n k) (tblGet s.t i) W h hiW hc hib
  have hwr : IntKind.u64.wrap (tblGet s.t k) = u64 (tblGet s.t k) := IntKind.wrap_u64 _
  have hfld := fun W h (hiW : In W h) (ha : ArenaH L.pa s.ws h) => obj_setfield L.pa s.ws (tblGet s.t i) n (u64 (tblGet s.t k)) W h hiW ha (U64_u64 _)
  have hin := fun W h (hiW : In W h) (hy : YoungH L.py s.y h) => bump_in L.py s.y (tblGet s.t k) W h hiW hy hkb
  cases hI : s.y.isIn (tblGet s.t k)
  · have e4 : s.setTo i n k = s.put i n k := by simp [CoreS.setTo, hI]
    rw [e4]
    rw [hI] at hin
    simp only [CoreS.put]
    clear e1 e2 e3 e4 he hk hI hnote hnums
    generalize tblGet s.t i = j at *
    generalize tblGet s.t k = r at *
    generalize s.objH i = H at *
    clear g7
    simp only [ptr, hdCells] at *
    go_enter Tryz.func25, Tryz.ntmps25
    go_wp2_with (first | (go_at_call 49; refine Calls.mono ho ?_; rintro e w1 ⟨rfl, h', ⟨v, ha, hy, ho', hr, hg, ht, hw, rfl, ca, cy, co, cr, cg, ct, cw⟩, u1⟩; have U1 := Upd.box (x := []) u1 (.cells (hdCells H) 65 (0, 0)); obtain ⟨p1, p2, p3, p4, p5, p6⟩ := core_ptrs U1.inn.core; clear p2 p3 p4 p5; simp only [ptr, hdCells] at p1 p6) | (go_at_call 26; refine Calls.mono (hget _ _ (Upd.inn U1).table ct) ?_; rintro e w2 ⟨rfl, rfl⟩) | (go_at_call 69; refine Calls.mono (hfld _ _ (Upd.inn U1).arena ca) ?_; rintro e w3 ⟨rfl, ha', ca', u3⟩; have U3 := Upd.arena (x := [_]) U1 u3; obtain ⟨p1, p2, p3, p4, p5, p6⟩ := core_ptrs U3.inn.core; clear p1 p3 p4 p5 p6; simp only [ptr] at p2) | (go_at_call 70; refine Calls.mono (hin _ _ (Upd.inn U3).young cy) ?_; rintro e w4 ⟨rfl, u4⟩; have U4 := Upd.young (x := [_]) U3 u4))
    go_ret
    exact ⟨rfl, _, ⟨v, ha', hy, ho', hr, hg, ht, hw, rfl, ca', cy, co, cr, cg, ct, cw⟩, U4.drop1⟩
  · have e4 : s.setTo i n k = (s.put i n k).note (tblGet s.t i) := by simp [CoreS.setTo, hI]
    rw [e4]
    rw [hI] at hin
    clear e1 e2 e3 e4 he hk hI hnums
    have hPc : ∀ h, CoreH pc L { s with ws := stW s.ws (place (tblGet s.t i) n) (u64 (tblGet s.t k)) } h → CoreH pc L (s.put i n k) h := fun h hh => hh
    have HP := Lib.hid hPc
    clear hPc
    generalize s.put i n k = P at *
    generalize tblGet s.t i = j at *
    generalize tblGet s.t k = r at *
    generalize s.objH i = H at *
    clear g7
    simp only [ptr, hdCells] at *
    go_enter Tryz.func25, Tryz.ntmps25
    go_wp2_with (first | (go_at_call 49; refine Calls.mono ho ?_; rintro e w1 ⟨rfl, h', ⟨v, ha, hy, ho', hr, hg, ht, hw, rfl, ca, cy, co, cr, cg, ct, cw⟩, u1⟩; have U1 := Upd.box (x := []) u1 (.cells (hdCells H) 65 (0, 0)); obtain ⟨p1, p2, p3, p4, p5, p6⟩ := core_ptrs U1.inn.core; clear p2 p3 p4 p5; simp only [ptr, hdCells] at p1 p6) | (go_at_call 26; refine Calls.mono (hget _ _ (Upd.inn U1).table ct) ?_; rintro e w2 ⟨rfl, rfl⟩) | (go_at_call 69; refine Calls.mono (hfld _ _ (Upd.inn U1).arena ca) ?_; rintro e w3 ⟨rfl, ha', ca', u3⟩; have U3 := Upd.arena (x := [_]) U1 u3; obtain ⟨p1, p2, p3, p4, p5, p6⟩ := core_ptrs U3.inn.core; clear p1 p3 p4 p5 p6; simp only [ptr] at p2) | (go_at_call 70; refine Calls.mono (hin _ _ (Upd.inn U3).young cy) ?_; rintro e w4 ⟨rfl, u4⟩; have U4 := Upd.young (x := [_]) U3 u4) | (go_at_call 71; refine Calls.mono (hnote _ _ U4.drop1.inn (HP.out _ ⟨v, ha', hy, ho', hr, hg, ht, hw, rfl, ca', cy, co, cr, cg, ct, cw⟩)) ?_; rintro e w5 ⟨rfl, h5, c5, u5⟩; have U5 := U4.drop1.trans u5))
    go_ret
    exact ⟨rfl, _, c5, U5⟩

set_option maxRecDepth 100000 in
set_option maxHeartbeats 2000000 in
theorem core_get (pc : Nat) (L : CoreL) (s : CoreS) (S1 S2 : CoreS) (r k i n : Int) (hok : s.refE i n k = 0) (w : World) (h : Hp) (hi : In w h) (hc : CoreH pc L s h) (hr : I64 r)
    (hmove : ∀ W h, In W h → CoreH pc L s h → Calls Tryz.prog 53 #[ptr pc, .int .i64 (refS s.ws (tblGet s.t i) n)] W fun e w' => e = .returned (.int .i64 r) ∧ ∃ h', CoreH pc L S1 h' ∧ Upd h h' W w')
    (hmark : ∀ W h, In W h → CoreH pc L S1 h → Calls Tryz.prog 75 #[ptr pc, .int .i64 r] W fun e w' => e = .returned (.tuple #[]) ∧ ∃ h', CoreH pc L S2 h' ∧ Upd h h' W w') :
    Calls Tryz.prog 29 #[ptr pc, .int .i64 k, .int .i64 i, .int .i64 n] w fun e w' =>
      e = .returned (.int .i64 (tblErr S2.t k)) ∧ ∃ h', CoreH pc L { S2 with t := tblSet S2.t k r } h' ∧ Upd h h' w w' := by
  have ho := core_object pc L s i w h hi hc
  have he : s.objE i = 0 := by
    simp only [CoreS.refE] at hok
    split at hok
    · assumption
    · rename_i h1
      exact absurd hok h1
  have hk : tblOk s.t k = true := by
    simp only [CoreS.refE, if_pos he] at hok
    split at hok
    · assumption
    · cases hok
  have hn : s.refOk i n = true := by
    simp only [CoreS.refE, if_pos he, if_pos hk] at hok
    split at hok
    · assumption
    · cases hok
  have hget := fun W h (hiW : In W h) (ht : TableH L.pt s.t h) => table_get L.pt s.t k W h hiW ht
  have href := fun W h (hiW : In W h) (hc : CoreH pc L s h) => core_ref pc L s (tblGet s.t i) n W h hiW hc
  have hset := fun W h (hiW : In W h) (ht : TableH L.pt S2.t h) => table_set L.pt S2.t k r W h hiW ht hr
  obtain ⟨g1, g2, g3, g4, g5, g6, g7⟩ := s.objH_good i
  have e3 : tblErr s.t k = 0 := by simp [tblErr, hk]
  rw [he] at ho
  rw [e3] at hget
  simp only [CoreS.refOk, decide_eq_true_eq] at hn
  obtain ⟨n1, n2⟩ := hn
  clear hok he hk e3 g7
  generalize refS s.ws (tblGet s.t i) n = q at *
  generalize tblGet s.t i = j at *
  generalize s.objH i = H at *
  simp only [ptr, hdCells] at *
  have HM := Lib.hid hmove
  have HK := Lib.hid hmark
  clear hmove hmark
  go_enter Tryz.func29, Tryz.ntmps29
  go_wp2_with (first | (go_at_call 49; refine Calls.mono ho ?_; rintro e w1 ⟨rfl, h', ⟨v, ha, hy, ho', hr, hg, ht, hw, rfl, ca, cy, co, cr, cg, ct, cw⟩, u1⟩; have U1 := Upd.box (x := []) u1 (.cells (hdCells H) 65 (0, 0)); obtain ⟨p1, p2, p3, p4, p5, p6⟩ := core_ptrs U1.inn.core; clear p2 p3 p4 p5; simp only [ptr, hdCells] at p1 p6) | (go_at_call 26; refine Calls.mono (hget _ _ (Upd.inn U1).table ct) ?_; rintro e w2 ⟨rfl, rfl⟩) | (go_at_call 74; refine Calls.mono (href _ _ U1.drop1.inn ⟨v, ha, hy, ho', hr, hg, ht, hw, rfl, ca, cy, co, cr, cg, ct, cw⟩) ?_; rintro e w3 ⟨rfl, h3, c3, u3⟩; have U3 := U1.drop1.trans u3) | (go_at_call 53; refine Calls.mono (HM.out _ _ U3.inn c3) ?_; rintro e w4 ⟨rfl, h4, c4, u4⟩; have U4 := U3.trans u4) | (go_at_call 75; refine Calls.mono (HK.out _ _ U4.inn c4) ?_; rintro e w5 ⟨rfl, h5, ⟨v5, ha5, hy5, ho5, hr5, hg5, ht5, hw5, rfl, ca5, cy5, co5, cr5, cg5, ct5, cw5⟩, u5⟩; have U5 := U4.trans u5; obtain ⟨p1, p2, p3, p4, p5, p6⟩ := core_ptrs (In.core (x := []) U5.inn); clear p1 p2 p3 p4 p5; simp only [ptr] at p6) | (go_at_call 48; refine Calls.mono (hset _ _ (In.table (x := []) U5.inn) ct5) ?_; rintro e w6 ⟨rfl, ht6, ct6, u6⟩; have U6 := Upd.table (x := []) U5 u6))
  go_ret
  exact ⟨rfl, _, ⟨v5, ha5, hy5, ho5, hr5, hg5, ht6, hw5, rfl, ca5, cy5, co5, cr5, cg5, ct6, cw5⟩, U6⟩

set_option maxRecDepth 100000 in
set_option maxHeartbeats 2000000 in
theorem core_getno (pc : Nat) (L : CoreL) (s : CoreS) (k i n : Int) (hbad : s.refE i n k ≠ 0) (w : World) (h : Hp) (hi : In w h) (hc : CoreH pc L s h) :
    Calls Tryz.prog 29 #[ptr pc, .int .i64 k, .int .i64 i, .int .i64 n] w fun e w' =>
      e = .returned (.int .i64 (s.refE i n k)) ∧ ∃ h', CoreH pc L s h' ∧ Upd h h' w w' := by
  have ho := core_object pc L s i w h hi hc
  have hget := fun W h (hiW : In W h) (ht : TableH L.pt s.t h) => table_get L.pt s.t k W h hiW ht
  obtain ⟨g1, g2, g3, g4, g5, g6, g7⟩ := s.objH_good i
  have HB := Lib.hid hbad
  clear hbad
  by_cases he : s.objE i = 0
  case neg =>
    have e1 : s.refE i n k = s.objE i := by simp [CoreS.refE, he]
    have e2 : True := trivial
    have hne : (s.objE i != 0) = true := by simpa using he
    rw [e1]
    generalize s.objH i = H at *
    generalize s.objE i = E at *
    clear e1 e2 g1 g2 g3 g4 g5 g6 g7
    simp only [ptr, hdCells] at *
    go_enter Tryz.func29, Tryz.ntmps29
    go_wp2_with (go_at_call 49; refine Calls.mono ho ?_; rintro e w1 ⟨rfl, h', c1, u1⟩)
    go_ret
    exact ⟨rfl, h', c1, u1.skip' _⟩
  by_cases hk : tblOk s.t k = true
  case neg =>
    have e1 : s.refE i n k = 3 := by simp [CoreS.refE, he, hk]
    have e2 : True := trivial
    rw [e1]
    have e3 : tblErr s.t k = 3 := by simp [tblErr, hk]
    rw [he] at ho
    rw [e3] at hget
    clear e1 e2 e3 he hk
    generalize tblGet s.t i = j at *
    generalize s.objH i = H at *
    clear g1 g2 g3 g4 g5 g6 g7
    simp only [ptr, hdCells] at *
    go_enter Tryz.func29, Tryz.ntmps29
    go_wp2_with (first | (go_at_call 49; refine Calls.mono ho ?_; rintro e w1 ⟨rfl, h', ⟨v, ha, hy, ho', hr, hg, ht, hw, rfl, ca, cy, co, cr, cg, ct, cw⟩, u1⟩; have U1 := Upd.box (x := []) u1 (.cells (hdCells H) 65 (0, 0)); obtain ⟨p1, p2, p3, p4, p5, p6⟩ := core_ptrs U1.inn.core; clear p2 p3 p4 p5; simp only [ptr, hdCells] at p1 p6) | (go_at_call 26; refine Calls.mono (hget _ _ (Upd.inn U1).table ct) ?_; rintro e w2 ⟨rfl, rfl⟩))
    go_ret
    exact ⟨rfl, _, ⟨v, ha, hy, ho', hr, hg, ht, hw, rfl, ca, cy, co, cr, cg, ct, cw⟩, U1.drop1⟩
  have e3 : tblErr s.t k = 0 := by simp [tblErr, hk]
  rw [he] at ho
  rw [e3] at hget
  by_cases hn : s.refOk i n = true
  case neg =>
    have e1 : s.refE i n k = 5 := by simp [CoreS.refE, he, hk, hn]
    have e2 : True := trivial
    rw [e1]
    simp only [CoreS.refOk, decide_eq_true_eq] at hn
    clear e1 e2 e3 he hk
    generalize tblGet s.t i = j at *
    generalize s.objH i = H at *
    by_cases k1 : 0 ≤ n
    · have k2 : H.ptrs ≤ n := by omega
      clear g7 hn
      simp only [ptr, hdCells] at *
      go_enter Tryz.func29, Tryz.ntmps29
      go_wp2_with (first | (go_at_call 49; refine Calls.mono ho ?_; rintro e w1 ⟨rfl, h', ⟨v, ha, hy, ho', hr, hg, ht, hw, rfl, ca, cy, co, cr, cg, ct, cw⟩, u1⟩; have U1 := Upd.box (x := []) u1 (.cells (hdCells H) 65 (0, 0)); obtain ⟨p1, p2, p3, p4, p5, p6⟩ := core_ptrs U1.inn.core; clear p2 p3 p4 p5; simp only [ptr, hdCells] at p1 p6) | (go_at_call 26; refine Calls.mono (hget _ _ (Upd.inn U1).table ct) ?_; rintro e w2 ⟨rfl, rfl⟩))
      go_ret
      exact ⟨rfl, _, ⟨v, ha, hy, ho', hr, hg, ht, hw, rfl, ca, cy, co, cr, cg, ct, cw⟩, U1.drop1⟩
    · skip
      clear g7 hn
      simp only [ptr, hdCells] at *
      go_enter Tryz.func29, Tryz.ntmps29
      go_wp2_with (first | (go_at_call 49; refine Calls.mono ho ?_; rintro e w1 ⟨rfl, h', ⟨v, ha, hy, ho', hr, hg, ht, hw, rfl, ca, cy, co, cr, cg, ct, cw⟩, u1⟩; have U1 := Upd.box (x := []) u1 (.cells (hdCells H) 65 (0, 0)); obtain ⟨p1, p2, p3, p4, p5, p6⟩ := core_ptrs U1.inn.core; clear p2 p3 p4 p5; simp only [ptr, hdCells] at p1 p6) | (go_at_call 26; refine Calls.mono (hget _ _ (Upd.inn U1).table ct) ?_; rintro e w2 ⟨rfl, rfl⟩))
      go_ret
      exact ⟨rfl, _, ⟨v, ha, hy, ho', hr, hg, ht, hw, rfl, ca, cy, co, cr, cg, ct, cw⟩, U1.drop1⟩
  exact absurd (by simp [CoreS.refE, he, hk, hn]) HB.out

end Go.Proofs.YtjjdjipohifgbaaGreat

/- What Make of package core comes to. Conditions: a core as New makes it. -/
namespace Go.Proofs.YtjjdjipohifgbaaGreat
open Go.RowKit

/-- a new object's head -/
def CoreS.newHd (s : CoreS) (p c : Int) : Hd := ⟨p + c, p, 0, s.parity, false, false, false⟩
def CoreS.makeE (s : CoreS) (i p c : Int) : Int := if tblOk s.t i then (if s.shapeOk p c then (if s.roomOk (p + c + 2) then 0 else 7) else 6) else 3
def CoreS.made (s : CoreS) (i p c : Int) : CoreS :=
  { s with ws := objMakeW s.ws (s.y.takeAt (p + c + 2)) (s.newHd p c), y := s.y.take (p + c + 2), t := tblSet s.t i (s.y.takeAt (p + c + 2)), done := { s.done with allocs := wrap64 (s.done.allocs + 1), words := wrap64 (s.done.words + (p + c + 2)) } }
def CoreS.make (s : CoreS) (i p c : Int) : CoreS := if s.makeE i p c = 0 then s.made i p c else s

set_option maxRecDepth 100000 in
set_option maxHeartbeats 4000000 in
theorem core_make (pc : Nat) (L : CoreL) (s : CoreS) (i p c : Int) (w : World) (h : Hp) (hi : In w h) (hc : CoreH pc L s h)
    (hl0 : 0 ≤ s.C.largest) (hl1 : s.C.largest ≤ 64) (h3 : 0 ≤ s.copied) (h4 : s.copied ≤ 1048576) (hpar : s.parity = 0 ∨ s.parity = 1) :
    Calls Tryz.prog 12 #[ptr pc, .int .i64 i, .int .i64 p, .int .i64 c] w fun e w' =>
      e = .returned (.int .i64 (s.makeE i p c)) ∧ ∃ h', CoreH pc L (s.make i p c) h' ∧ Upd h h' w w' := by
  have hroom0 := fun n h1 h2 W h (hiW : In W h) (hc : CoreH pc L s h) => core_room pc L s n W h hiW hc h1 h2 h3 h4
  have hc0 := hc
  obtain ⟨v, ha, hy, ho, hr, hg, ht, hw, rfl, ca, cy, co, cr, cg, ct, cw⟩ := hc
  have hget := table_get L.pt s.t i w ht (In.table (x := []) hi) ct
  obtain ⟨p1, p2, p3, p4, p5, p6⟩ := core_ptrs (In.core (x := []) hi)
  clear p1 p2 p3 p4 p5
  by_cases hk : tblOk s.t i = true
  case neg =>
    have e1 : s.makeE i p c = 3 := by simp [CoreS.makeE, hk]
    have e2 : s.make i p c = s := by simp [CoreS.make, e1]
    have e3 : tblErr s.t i = 3 := by simp [tblErr, hk]
    rw [e1, e2]
    rw [e3] at hget
    clear e1 e2 e3 hk hpar hroom0
    simp only [ptr] at *
    go_enter Tryz.func12, Tryz.ntmps12
    go_wp2_with (go_at_call 26; refine Calls.mono hget ?_; rintro e w1 ⟨rfl, rfl⟩)
    go_ret
    exact ⟨rfl, _, hc0, Upd.refl hi⟩
  have e3 : tblErr s.t i = 0 := by simp [tblErr, hk]
  rw [e3] at hget
  have hshape := core_shape pc L s p c w v hl0 hl1 (In.core (x := []) hi)
  by_cases hs : s.shapeOk p c = true
  case neg =>
    have e1 : s.makeE i p c = 6 := by simp [CoreS.makeE, hk, hs]
    have e2 : s.make i p c = s := by simp [CoreS.make, e1]
    have hs' : s.shapeOk p c = false := by simpa using hs
    rw [e1, e2]
    rw [hs'] at hshape
    clear e1 e2 e3 hk hpar hroom0 hs hs'
    simp only [ptr] at *
    go_enter Tryz.func12, Tryz.ntmps12
    go_wp2_with (first | (go_at_call 26; refine Calls.mono hget ?_; rintro e w1 ⟨rfl, rfl⟩) | (go_at_call 43; refine Calls.mono hshape ?_; rintro e w1 ⟨rfl, rfl⟩))
    go_ret
    exact ⟨rfl, _, hc0, Upd.refl hi⟩
  have hs2 := hs
  simp only [CoreS.shapeOk, decide_eq_true_eq] at hs2
  obtain ⟨s1, s2, s3, s4⟩ := hs2
  rw [hs] at hshape
  have hG : (s.newHd p c).Good := by
    simp only [CoreS.newHd, Hd.Good]
    omega
  have hw1 : (s.newHd p c).words = p + c + 2 := rfl
  have hwords := obj_words (s.newHd p c) hG
  rw [hw1] at hwords
  have hroom := hroom0 (p + c + 2) (by omega) (by omega)
  clear hroom0
  obtain ⟨q1, q2, q3, q4, q5, q6⟩ := core_vars (In.core (x := []) hi)
  clear q2 q3 q4 q5 q6
  have hwr : IntKind.i64.wrap (p + c) = p + c := IntWalk.i64_in _ (by omega)
  have U0 := Upd.box (x := []) (Upd.refl hi) (.cells (hdCells (s.newHd p c)) 65 (0, 0))
  cases hR : s.roomOk (p + c + 2)
  · have e1 : s.makeE i p c = 7 := by simp [CoreS.makeE, hk, hs, hR]
    have e2 : s.make i p c = s := by simp [CoreS.make, e1]
    rw [e1, e2]
    rw [hR] at hroom
    clear e1 e2 e3 hk hpar hs hR hG hw1
    simp only [ptr, hdCells, CoreS.newHd] at *
    go_enter Tryz.func12, Tryz.ntmps12
    go_wp2_with (first | (go_at_call 26; refine Calls.mono hget ?_; rintro e w1 ⟨rfl, rfl⟩) | (go_at_call 43; refine Calls.mono hshape ?_; rintro e w1 ⟨rfl, rfl⟩) | (go_at_call 44; refine Calls.mono (hwords _) ?_; rintro e w1 ⟨rfl, u1⟩; have U1 := U0.under0 u1; obtain ⟨d0, d1, d2, d3, d4, d5, d6⟩ := hd_cells (x := ⟨p + c, p, 0, s.parity, false, false, false⟩) U1.inn.head; simp only at d0 d1 d2 d3 d4 d5 d6) | (go_at_call 45; refine Calls.mono (hroom _ _ U1.inn.tail hc0) ?_; rintro e w2 ⟨rfl, u2⟩; have U2 := U1.under u2; obtain ⟨p1, p2, p3, p4, p5, p6⟩ := core_ptrs (In.core (x := [_]) U2.inn); clear p1 p3 p4 p5 p6; simp only [ptr] at p2))
    go_ret
    exact ⟨rfl, _, hc0, U2.drop1⟩
  · have e1 : s.makeE i p c = 0 := by simp [CoreS.makeE, hk, hs, hR]
    have e2 : s.make i p c = s.made i p c := by simp [CoreS.make, e1]
    rw [e1, e2]
    rw [hR] at hroom
    have htake := fun W h (hiW : In W h) (hy : YoungH L.py s.y h) => bump_take L.py s.y (p + c + 2) W h hiW hy (I64.small (by omega) (by omega))
    have hmk := fun W h (hiW : In W h) (ha : ArenaH L.pa s.ws h) => obj_make L.pa s.ws (s.y.takeAt (p + c + 2)) (s.newHd p c) hG W h hiW ha
    have hat := YoungS.WF.at cy.2 (p + c + 2)
    have hset := fun W h (hiW : In W h) (ht : TableH L.pt s.t h) => table_set L.pt s.t i (s.y.takeAt (p + c + 2)) W h hiW ht (I64.small (by omega) (by omega))
    rw [e3] at hset
    have HF : ∀ h, CoreH pc L { s with ws := objMakeW s.ws (s.y.takeAt (p + c + 2)) (s.newHd p c), y := s.y.take (p + c + 2), t := tblSet s.t i (s.y.takeAt (p + c + 2)), done := { s.done with allocs := wrap64 (s.done.allocs + 1), words := wrap64 (s.done.words + (p + c + 2)) } } h → CoreH pc L (s.made i p c) h := fun h hh => hh
    have HH := Lib.hid HF
    clear HF
    generalize s.made i p c = M at *
    generalize hKW : objMakeW s.ws (s.y.takeAt (p + c + 2)) (s.newHd p c) = KW at *
    generalize objMakeE s.ws (s.y.takeAt (p + c + 2)) (s.newHd p c) = KE at *
    generalize s.y.takeAt (p + c + 2) = j at *
    generalize s.y.take (p + c + 2) = Y at *
    generalize s.y.takeOk (p + c + 2) = ok at *
    clear e1 e2 e3 hk hpar hs hR hG hw1 hKW
    simp only [ptr, hdCells, CoreS.newHd] at *
    go_enter Tryz.func12, Tryz.ntmps12
    go_wp2_with (first | (go_at_call 26; refine Calls.mono hget ?_; rintro e w1 ⟨rfl, rfl⟩) | (go_at_call 43; refine Calls.mono hshape ?_; rintro e w1 ⟨rfl, rfl⟩) | (go_at_call 44; refine Calls.mono (hwords _) ?_; rintro e w1 ⟨rfl, u1⟩; have U1 := U0.under0 u1; obtain ⟨d0, d1, d2, d3, d4, d5, d6⟩ := hd_cells (x := ⟨p + c, p, 0, s.parity, false, false, false⟩) U1.inn.head; simp only at d0 d1 d2 d3 d4 d5 d6) | (go_at_call 45; refine Calls.mono (hroom _ _ U1.inn.tail hc0) ?_; rintro e w2 ⟨rfl, u2⟩; have U2 := U1.under u2; obtain ⟨p1, p2, p3, p4, p5, p6⟩ := core_ptrs (In.core (x := [_]) U2.inn); clear p1 p3 p4 p5 p6; simp only [ptr] at p2) | (go_at_call 46; refine Calls.mono (htake _ _ (In.young (x := [_]) U2.inn) cy) ?_; rintro e w3 ⟨rfl, hy', cy', u3⟩; have U3 := Upd.young (x := [_]) U2 u3; clear d0 d1 d2 d3 d4 d5 d6; obtain ⟨d0, d1, d2, d3, d4, d5, d6⟩ := hd_cells (x := ⟨p + c, p, 0, s.parity, false, false, false⟩) U3.inn.head; simp only at d0 d1 d2 d3 d4 d5 d6; obtain ⟨p1, p2, p3, p4, p5, p6⟩ := core_ptrs U3.inn.core; clear p2 p3 p4 p5 p6; simp only [ptr] at p1; have U3d := U3.drew'))
    refine wp_tail 6 (by kernel_rfl) (by kernel_rfl) fun w6 hw6 => ?_
    subst hw6
    simp only [List.take_succ_cons, List.take_zero, List.drop_succ_cons, List.drop_zero]
    repeat (refine wpStill_step (fun K hK => ?_); have HK := Lib.hid hK; clear hK; go_simp; refine HK.out _ ?_; clear HK K)
    refine wpStill_nil ?_
    go_wp2_with (first | (go_at_call 47; refine Calls.mono (hmk _ _ (Upd.inn U3d).arena ca) ?_; rintro e w4 ⟨rfl, ha', ca', u4⟩; have U4 := (Upd.arena (x := [_]) U3d u4).drop1; obtain ⟨t0, t1, t2, t3, t4, t5, t6, t7⟩ := core_stats (In.core (x := []) U4.inn); clear t2 t3 t4 t5 t6 t7; obtain ⟨p1, p2, p3, p4, p5, p6⟩ := core_ptrs (In.core (x := []) U4.inn); clear p1 p2 p3 p4 p5; simp only [ptr] at p6; have F := core_frozen (In.core (x := []) U4.inn); have f0 := F 26; have f1 := F 27; clear F; have U5 := Upd.cset_words (x := []) (Upd.cset_allocs (x := []) U4 (wrap64 (s.done.allocs + 1))) (wrap64 (s.done.words + (p + c + 2)))) | (go_at_call 48; refine Calls.mono (hset _ _ (In.table (x := []) U5.inn) ct) ?_; rintro e w5 ⟨rfl, ht', ct', u5⟩; have U6 := Upd.table (x := []) U5 u5))
    go_ret
    exact ⟨rfl, _, HH.out _ ⟨v, ha', hy', ho, hr, hg, ht', hw, rfl, ca', cy', co, cr, cg, ct', cw⟩, U6⟩


end Go.Proofs.YtjjdjipohifgbaaGreat

/- What Stats, and Move of what stays, of package core come to. Conditions: a core as New makes it. -/
namespace Go.Proofs.YtjjdjipohifgbaaGreat
open Go.RowKit

set_option maxRecDepth 100000 in
set_option maxHeartbeats 1000000 in
theorem core_move_stay (pc : Nat) (L : CoreL) (s : CoreS) (i : Int) (w : World) (h : Hp) (hi : In w h) (hc : CoreH pc L s h) (hb : I64 i) (hf : i = 0 ∨ s.y.isFrom i = false) :
    Calls Tryz.prog 53 #[ptr pc, .int .i64 i] w fun e w' => e = .returned (.int .i64 i) ∧ Upd h h w w' := by
  obtain ⟨v, ha, hy, ho, hr, hg, ht, hw, rfl, ca, cy, co, cr, cg, ct, cw⟩ := hc
  have U0 := Upd.refl hi
  obtain ⟨p1, p2, p3, p4, p5, p6⟩ := core_ptrs (In.core (x := []) hi)
  have hfrom := bump_from L.py s.y i w hy (In.young (x := []) hi) cy hb
  clear p1 p3 p4 p5 p6
  simp only [ptr] at *
  by_cases hz : i = 0
  · have hq : (i == 0) = true := by simpa using hz
    clear hz hf
    go_enter Tryz.func53, Tryz.ntmps53
    go_wp2
    go_ret
    exact ⟨rfl, U0⟩
  · have hq : (i == 0) = false := by simpa using hz
    have hf' : s.y.isFrom i = false := hf.resolve_left hz
    rw [hf'] at hfrom
    clear hz hf hf'
    go_enter Tryz.func53, Tryz.ntmps53
    go_wp2_with (go_at_call 23; refine Calls.mono hfrom ?_; rintro e w1 ⟨rfl, u1⟩; have U1 := Upd.young (x := []) U0 u1)
    go_ret
    exact ⟨rfl, U1⟩

def statCells (d : StatS) : Array Value := #[.int .i64 d.allocs, .int .i64 d.words, .int .i64 d.promoted, .int .i64 d.minors, .int .i64 d.majors, .int .i64 d.young, .int .i64 d.old, .int .i64 d.free]
theorem stat_cells {w : World} {b : Nat} {d : StatS} {T : TypeId} (h : w.heap[b]? = some (.cells (statCells d) T (0, 0))) :
    w.cell? ⟨b, 0, none⟩ = some (.int .i64 d.allocs) ∧ w.cell? ⟨b, 1, none⟩ = some (.int .i64 d.words) ∧ w.cell? ⟨b, 2, none⟩ = some (.int .i64 d.promoted) ∧ w.cell? ⟨b, 3, none⟩ = some (.int .i64 d.minors) ∧ w.cell? ⟨b, 4, none⟩ = some (.int .i64 d.majors) ∧ w.cell? ⟨b, 5, none⟩ = some (.int .i64 d.young) ∧ w.cell? ⟨b, 6, none⟩ = some (.int .i64 d.old) ∧ w.cell? ⟨b, 7, none⟩ = some (.int .i64 d.free) :=
  ⟨cell_of h 0, cell_of h 1, cell_of h 2, cell_of h 3, cell_of h 4, cell_of h 5, cell_of h 6, cell_of h 7⟩
theorem stat_frozen {w : World} {b : Nat} {d : StatS} {T : TypeId} (h : w.heap[b]? = some (.cells (statCells d) T (0, 0))) :
    w.frozen? ⟨b, 0, none⟩ = false ∧ w.frozen? ⟨b, 1, none⟩ = false ∧ w.frozen? ⟨b, 2, none⟩ = false ∧ w.frozen? ⟨b, 3, none⟩ = false ∧ w.frozen? ⟨b, 4, none⟩ = false ∧ w.frozen? ⟨b, 5, none⟩ = false ∧ w.frozen? ⟨b, 6, none⟩ = false ∧ w.frozen? ⟨b, 7, none⟩ = false :=
  ⟨frozen_of h 0, frozen_of h 1, frozen_of h 2, frozen_of h 3, frozen_of h 4, frozen_of h 5, frozen_of h 6, frozen_of h 7⟩
theorem Upd.stat {w0 w : World} {h r : Hp} {b : Nat} {x : StatS} {T : TypeId} {fr : Nat × Nat} (a : Upd h ((b, .cells (statCells x) T fr) :: r) w0 w) (y : StatS) :
    Upd h ((b, .cells (statCells y) T fr) :: r) w0 ((((((((w.setCell ⟨b, 0, none⟩ (.int .i64 y.allocs)).setCell ⟨b, 1, none⟩ (.int .i64 y.words)).setCell ⟨b, 2, none⟩ (.int .i64 y.promoted)).setCell ⟨b, 3, none⟩ (.int .i64 y.minors)).setCell ⟨b, 4, none⟩ (.int .i64 y.majors)).setCell ⟨b, 5, none⟩ (.int .i64 y.young)).setCell ⟨b, 6, none⟩ (.int .i64 y.old)).setCell ⟨b, 7, none⟩ (.int .i64 y.free)) := by
  have u := ((((((((a.store1 0 (.int .i64 y.allocs)).store1 1 (.int .i64 y.words)).store1 2 (.int .i64 y.promoted)).store1 3 (.int .i64 y.minors)).store1 4 (.int .i64 y.majors)).store1 5 (.int .i64 y.young)).store1 6 (.int .i64 y.old)).store1 7 (.int .i64 y.free))
  have e : (((((((((statCells x).setIfInBounds 0 (.int .i64 y.allocs)).setIfInBounds 1 (.int .i64 y.words)).setIfInBounds 2 (.int .i64 y.promoted)).setIfInBounds 3 (.int .i64 y.minors)).setIfInBounds 4 (.int .i64 y.majors)).setIfInBounds 5 (.int .i64 y.young)).setIfInBounds 6 (.int .i64 y.old)).setIfInBounds 7 (.int .i64 y.free)) = statCells y := by
    simp [statCells]
  rw [e] at u
  exact u

theorem keep2 {w : World} {k a i j o : Nat} {x u v : Value} (h : w.cell? ⟨a, i, none⟩ = some u ∧ w.cell? ⟨a, j, none⟩ = some v) (m : k ≠ a) :
    (w.setCell ⟨k, o, none⟩ x).cell? ⟨a, i, none⟩ = some u ∧ (w.setCell ⟨k, o, none⟩ x).cell? ⟨a, j, none⟩ = some v := by
  have e : ∀ i, (w.setCell ⟨k, o, none⟩ x).cell? ⟨a, i, none⟩ = w.cell? ⟨a, i, none⟩ := by
    intro i
    simp only [World.cell?]
    rw [heap_setCell_other (by exact fun e => m e.symm)]
  exact ⟨(e i).trans h.1, (e j).trans h.2⟩
theorem Upd.stat2 {w0 w : World} {h r : Hp} {b : Nat} {x : StatS} {T : TypeId} {fr : Nat × Nat} (a : Upd h ((b, .cells (statCells x) T fr) :: r) w0 w) (y o : Int) :
    Upd h ((b, .cells (statCells { x with young := y, old := o }) T fr) :: r) w0 ((w.setCell ⟨b, 5, none⟩ (.int .i64 y)).setCell ⟨b, 6, none⟩ (.int .i64 o)) := (a.store1 5 _).store1 6 _
theorem Upd.stat1 {w0 w : World} {h r : Hp} {b : Nat} {x : StatS} {T : TypeId} {fr : Nat × Nat} (a : Upd h ((b, .cells (statCells x) T fr) :: r) w0 w) (y : Int) :
    Upd h ((b, .cells (statCells { x with free := y }) T fr) :: r) w0 (w.setCell ⟨b, 7, none⟩ (.int .i64 y)) := a.store1 7 _
def stat0 : StatS := ⟨0, 0, 0, 0, 0, 0, 0, 0⟩
/-- what Stats answers, where so much of the old space is used -/
def CoreS.stats (s : CoreS) (u : Int) : StatS := { s.done with young := wrap64 (s.y.cu + s.y.ou), old := u, free := wrap64 (wrap64 (s.C.pages * s.C.page) - u) }

set_option maxRecDepth 100000 in
set_option maxHeartbeats 4000000 in
theorem core_statsof (pc : Nat) (L : CoreL) (s : CoreS) (u : Int) (w : World) (h : Hp) (hi : In w h) (hc : CoreH pc L s h)
    (hused : ∀ W h, In W h → MatureH L.po s.o h → Calls Tryz.prog 61 #[ptr L.po] W fun e w' => e = .returned (.int .i64 u) ∧ Upd h h W w') :
    Calls Tryz.prog 17 #[ptr pc] w fun e w' => e = .returned (.agg (statCells (s.stats u))) ∧ Upd h h w w' := by
  obtain ⟨v, ha, hy, ho, hr, hg, ht, hw, rfl, ca, cy, co, cr, cg, ct, cw⟩ := hc
  have U0 := Upd.refl hi
  have hcu := fun W (hiW : In W hy) => bump_used L.py s.y W hy hiW cy
  have hou := fun W (hiW : In W hy) => bump_left L.py s.y W hy hiW cy
  have HU := Lib.hid hused
  have UA := Upd.box (x := []) U0 (.cells (statCells stat0) 44 (0, 0))
  have UB := Upd.box UA (.cells (statCells s.done) 44 (0, 0))
  have hn1 : w.heap.size + 1 ≠ w.heap.size := by omega
  have hlt : pc < w.heap.size := (Array.getElem?_eq_some_iff.1 (In.core (x := []) hi)).1
  have hpc0 : pc ≠ w.heap.size := by omega
  have hpc1 : pc ≠ w.heap.size + 1 := by omega
  have hpc2 : w.heap.size + 1 ≠ pc := by omega
  have hsz : (w.alloc (.cells (statCells stat0) 44 (0, 0))).heap.size = w.heap.size + 1 := by simp
  rw [hsz] at UB
  clear hsz
  obtain ⟨t0, t1, t2, t3, t4, t5, t6, t7⟩ := core_stats UA.inn.core
  generalize hQ : s.stats u = Q
  simp only [ptr, statCells, stat0] at *
  go_enter Tryz.func17, Tryz.ntmps17
  go_wp2
  have UBd := UB.drew'
  obtain ⟨p1, p2, p3, p4, p5, p6⟩ := core_ptrs (In.core (x := [_, _]) (Upd.inn UBd))
  simp only [ptr] at p2 p3
  have hSd := And.intro p2 p3
  clear p1 p4 p5 p6
  go_region_held3 (fun w' => w'.cell? ⟨pc, 14, none⟩ = some (.pointer (some ⟨L.py, 0, none⟩)) ∧ w'.cell? ⟨pc, 15, none⟩ = some (.pointer (some ⟨L.po, 0, none⟩)))
    (first | exact keep2 (keep2 hS3 hpc2) hpc2 | exact keep2 hS3 hpc2 | exact hS3 | exact hS2 | exact hS1 | exact hSd | go_keep)
    (first
      | (go_at_call 58; refine Calls.mono (hcu _ (In.young (x := [_, _]) (Upd.inn UBd))) ?_; rintro e w1 ⟨rfl, u1⟩; have U1 := Upd.young (x := [_, _]) UBd u1; obtain ⟨p1, p2, p3, p4, p5, p6⟩ := core_ptrs (In.core (x := [_, _]) (Upd.inn U1)); simp only [ptr] at p2 p3; have hS1 := And.intro p2 p3; clear p1 p4 p5 p6)
      | (go_at_call 21; refine Calls.mono (hou _ (In.young (x := [_, _]) (Upd.inn U1))) ?_; rintro e w2 ⟨rfl, u2⟩; have U2 := Upd.young (x := [_, _]) U1 u2; obtain ⟨p1, p2, p3, p4, p5, p6⟩ := core_ptrs (In.core (x := [_, _]) (Upd.inn U2)); simp only [ptr] at p2 p3; have hS2 := And.intro p2 p3; clear p1 p4 p5 p6)
      | (go_at_call 61; refine Calls.mono (HU.out _ _ (In.old (x := [_, _]) (Upd.inn U2)) co) ?_; rintro e w3 ⟨rfl, u3⟩; have U3 := Upd.old (x := [_, _]) U2 u3; obtain ⟨p1, p2, p3, p4, p5, p6⟩ := core_ptrs (In.core (x := [_, _]) (Upd.inn U3)); simp only [ptr] at p2 p3; have hS3 := And.intro p2 p3; clear p1 p4 p5 p6; obtain ⟨d0, d1, d2, d3, d4, d5, d6, d7⟩ := stat_cells (d := s.done) (Upd.inn U3).head; obtain ⟨f0, f1, f2, f3, f4, f5, f6, f7⟩ := stat_frozen (d := s.done) (Upd.inn U3).head; obtain ⟨e0, e1, e2, e3, e4, e5, e6, e7⟩ := stat_cells (d := stat0) (Upd.inn U3).tail.head; obtain ⟨k0, k1, k2, k3, k4, k5, k6, k7⟩ := stat_frozen (d := stat0) (Upd.inn U3).tail.head; obtain ⟨c0, c1, c2, c3, c4, c5, c6, c7, c8, c9, c10, c11, c12⟩ := core_cfg (In.core (x := [_, _]) (Upd.inn U3)); clear c0 c1 c4 c5 c6 c7 c8 c9 c10 c11 c12))
  go_wp2
  have U4 := (Upd.stat2 (x := s.done) U3 (IntKind.i64.wrap (s.y.cu + s.y.ou)) u)
  clear d0 d1 d2 d3 d4 d5 d6 d7 f0 f1 f2 f3 f4 f5 f6 f7 e0 e1 e2 e3 e4 e5 e6 e7 k0 k1 k2 k3 k4 k5 k6 k7 c2 c3
  generalize hw4 : (w3.setCell ⟨w.heap.size + 1, 5, none⟩ (.int .i64 (IntKind.i64.wrap (s.y.cu + s.y.ou)))).setCell ⟨w.heap.size + 1, 6, none⟩ (.int .i64 u) = w4 at *
  clear hS1 hS2 hS3 hSd U1 U2 U3 u1 u2 u3 hw4 HU hused UBd UB UA hcu hou t0 t1 t2 t3 t4 t5 t6 t7
  have U4d := U4.drew'
  obtain ⟨d0, d1, d2, d3, d4, d5, d6, d7⟩ := stat_cells (Upd.inn U4d).head
  obtain ⟨f0, f1, f2, f3, f4, f5, f6, f7⟩ := stat_frozen (Upd.inn U4d).head
  obtain ⟨c0, c1, c2, c3, c4, c5, c6, c7, c8, c9, c10, c11, c12⟩ := core_cfg (In.core (x := [_, _]) (Upd.inn U4d))
  clear c0 c1 c4 c5 c6 c7 c8 c9 c10 c11 c12
  simp only at d0 d1 d2 d3 d4 d5 d6 d7
  obtain ⟨e0, e1, e2, e3, e4, e5, e6, e7⟩ := stat_cells (d := stat0) (Upd.inn U4d).tail.head
  obtain ⟨k0, k1, k2, k3, k4, k5, k6, k7⟩ := stat_frozen (d := stat0) (Upd.inn U4d).tail.head
  have hn2 := hn1.symm
  refine wp_tail 15 (by kernel_rfl) (by kernel_rfl) fun w6 hw6 => ?_
  subst hw6
  generalize w4.drew = w5 at *
  simp only [List.take_succ_cons, List.take_zero, List.drop_succ_cons, List.drop_zero]
  repeat (refine wpStill_step (fun K hK => ?_); have HK := Lib.hid hK; clear hK; go_simp; refine HK.out _ ?_; clear HK K)
  refine wpStill_nil ?_
  go_wp2
  have U5 := Upd.stat1 U4d (wrap64 (wrap64 (s.C.pages * s.C.page) - u))
  have UF := Upd.stat (x := stat0) U5.drop1 ⟨s.done.allocs, s.done.words, s.done.promoted, s.done.minors, s.done.majors, wrap64 (s.y.cu + s.y.ou), u, wrap64 (wrap64 (s.C.pages * s.C.page) - u)⟩
  have hQ2 : Q = ⟨s.done.allocs, s.done.words, s.done.promoted, s.done.minors, s.done.majors, wrap64 (s.y.cu + s.y.ou), u, wrap64 (wrap64 (s.C.pages * s.C.page) - u)⟩ := hQ.symm
  clear hQ
  subst hQ2
  have G := stat_cells UF.inn.head
  simp only at G UF
  obtain ⟨g0, g1, g2, g3, g4, g5, g6, g7⟩ := G
  clear d0 d1 d2 d3 d4 d5 d6 d7 e0 e1 e2 e3 e4 e5 e6 e7 f0 f1 f2 f3 f4 f5 f6 f7 k0 k1 k2 k3 k4 k5 k6 k7 c2 c3
  refine bodyPost_ret (v := .agg (statCells ⟨s.done.allocs, s.done.words, s.done.promoted, s.done.minors, s.done.majors, wrap64 (s.y.cu + s.y.ou), u, wrap64 (wrap64 (s.C.pages * s.C.page) - u)⟩)) ?_ rfl ⟨rfl, UF.drop1⟩
  simp only [results, Tryz.results17]
  simp [go_sem, statCells, g0, g1, g2, g3, g4, g5, g6, g7]

/-- Stats, while the old space is empty -/
theorem core_stats0 (pc : Nat) (L : CoreL) (s : CoreS) (w : World) (h : Hp) (hi : In w h) (hc : CoreH pc L s h) (he : s.o.empty) :
    Calls Tryz.prog 17 #[ptr pc] w fun e w' => e = .returned (.agg (statCells (s.stats 0))) ∧ Upd h h w w' :=
  core_statsof pc L s 0 w h hi hc fun W h hiW hm => mature_used0 L.po s.o W h hiW hm he

end Go.Proofs.YtjjdjipohifgbaaGreat

/- What New of package core comes to. Conditions: none. -/
namespace Go.Proofs.YtjjdjipohifgbaaGreat
open Go.RowKit

/-- an empty heap -/
def coreNew (c : Cfg) : CoreS where
  C := c
  ws := List.replicate c.words.toNat 0
  y := youngNew 1 c.nursery
  o := ⟨c.mature, c.page, List.replicate c.pages.toNat pg0⟩
  r := ⟨c.mature, c.pages * c.page, c.card, c.buffer, ⟨c.buffer, []⟩, cardNew c.mature (c.pages * c.page) c.card, ⟨c.buffer, []⟩, cardNew c.mature (c.pages * c.page) c.card⟩
  g := ⟨c.stack, [], false⟩
  t := List.replicate c.handles.toNat 0
  parity := 0
  phase := 0
  moving := false
  scan := 0
  copied := 0
  look := -1
  row := []
  done := stat0

structure Cfg.Fits (c : Cfg) : Prop where
  h1 : 1 ≤ c.handles
  h2 : c.handles ≤ 64
  n1 : 8 ≤ c.nursery
  n2 : c.nursery ≤ 4096
  p1 : 0 ≤ c.pages
  p2 : c.pages ≤ 64
  g1 : 16 ≤ c.page
  g2 : c.page ≤ 256
  c1 : 1 ≤ c.card
  c2 : c.card ≤ c.page
  c3 : c.page % c.card = 0
  b1 : 0 ≤ c.buffer
  b2 : c.buffer ≤ 256
  s1 : 1 ≤ c.stack
  s2 : c.stack ≤ 256
  t1 : 1 ≤ c.tenure
  t2 : c.tenure ≤ 7
  l1 : 0 ≤ c.largest
  l2 : c.largest ≤ 64
  l3 : c.largest + 2 ≤ c.nursery

theorem Cfg.fits {c : Cfg} (h : c.ok = true) : c.Fits := by
  simp only [Cfg.ok, Cfg.sizes, Cfg.rows, Cfg.taxes, Bool.and_eq_true, within_iff, decide_eq_true_eq] at h
  obtain ⟨⟨⟨⟨⟨⟨⟨⟨a1, a2⟩, a3⟩, a4⟩, hc⟩, hm⟩, ⟨⟨⟨r1, r2⟩, r3⟩, r4⟩⟩, ht⟩, hl⟩ := h
  exact ⟨by omega, by omega, by omega, by omega, by omega, by omega, by omega, by omega, by omega, by omega, by omega, by omega, by omega, by omega, by omega, by omega, by omega, by omega, by omega, by omega⟩

theorem Cfg.Fits.small {c : Cfg} (h : c.Fits) : c.Small := ⟨by have := h.n1; omega, h.n2, h.p1, h.p2, by have := h.g1; omega, h.g2⟩

theorem perm7 {α : Type} (x : α) (a b c d e f : List α) : (x :: (f ++ (e ++ (d ++ (c ++ (b ++ a)))))).Perm ([[x], a, b, c, d, e, f, []].flatten) := by
  have h1 : (b ++ a).Perm (a ++ b) := List.perm_append_comm
  have h2 : (c ++ (b ++ a)).Perm (a ++ b ++ c) := List.perm_append_comm.trans (h1.append_right c)
  have h3 : (d ++ (c ++ (b ++ a))).Perm (a ++ b ++ c ++ d) := List.perm_append_comm.trans (h2.append_right d)
  have h4 : (e ++ (d ++ (c ++ (b ++ a)))).Perm (a ++ b ++ c ++ d ++ e) := List.perm_append_comm.trans (h3.append_right e)
  have h5 : (f ++ (e ++ (d ++ (c ++ (b ++ a))))).Perm (a ++ b ++ c ++ d ++ e ++ f) := List.perm_append_comm.trans (h4.append_right f)
  simpa using h5.cons x

set_option maxRecDepth 100000 in
set_option maxHeartbeats 1000000 in
theorem core_new_bad (c : Cfg) (hb : c.ok = false) (w : World) :
    Calls Tryz.prog 10 #[.agg (cfgCells c)] w fun e w' => e = .returned (.tuple #[.pointer none, .int .i64 1]) ∧ Upd [] [] w w' := by
  have hcheck := conf_check c
  have he : c.err = 1 := by simp [Cfg.err, hb]
  rw [he] at hcheck
  simp only [cfgCells] at *
  go_enter Tryz.func10, Tryz.ntmps10
  go_wp2_with (go_at_call 31; refine Calls.mono (hcheck _) ?_; rintro e w1 ⟨rfl, u1⟩)
  go_ret2
  exact ⟨rfl, (Upd.skip (In.nil w) _).trans u1⟩

set_option maxRecDepth 100000 in
set_option maxHeartbeats 8000000 in
theorem core_new (c : Cfg) (hb : c.ok = true) (w : World) :
    Calls Tryz.prog 10 #[.agg (cfgCells c)] w fun e w' => ∃ pc L h', e = .returned (.tuple #[ptr pc, .int .i64 0]) ∧ CoreH pc L (coreNew c) h' ∧ Upd [] h' w w' := by
  have hcheck := conf_check c
  have he : c.err = 0 := by simp [Cfg.err, hb]
  rw [he] at hcheck
  have hf := Cfg.fits hb
  have hsm := hf.small
  obtain ⟨m1, m2⟩ := Cfg.prod_small hsm
  have hmat := conf_mature c
  have hM1 : 0 < c.mature := by have := hf.n1; unfold Cfg.mature; omega
  have hM2 : c.mature ≤ 10000 := by have := hf.n2; unfold Cfg.mature; omega
  have hWd1 : 0 < c.words := by unfold Cfg.words; omega
  have hWd2 : c.words ≤ 30000 := by unfold Cfg.words; omega
  have hWords := fun W => conf_words c W hsm
  have hHalf := fun W => conf_half c W hsm
  have hArena : ∀ W, Calls Tryz.prog 33 #[.int .i64 c.words] W fun e w' => ∃ p h', e = .returned (.pointer (some ⟨p, 0, none⟩)) ∧ ArenaH p (List.replicate c.words.toNat 0) h' ∧ Upd [] h' W w' := by
    intro W
    have := arena_new c.words.toNat W (by omega) (by omega)
    rwa [Int.toNat_of_nonneg (by omega)] at this
  have hBump := fun W => bump_new 1 c.nursery W (by decide) (by decide) (by have := hf.n1; omega) (by have := hf.n2; omega)
  have hMature : ∀ W, Calls Tryz.prog 37 #[.int .i64 c.mature, .int .i64 c.pages, .int .i64 c.page] W fun e w' => ∃ p h', e = .returned (.pointer (some ⟨p, 0, none⟩)) ∧ MatureH p ⟨c.mature, c.page, List.replicate c.pages.toNat pg0⟩ h' ∧ Upd [] h' W w' := by
    intro W
    have := mature_new c.mature c.pages.toNat c.page W hM1 (by omega) (by have := hf.p2; omega) (by have := hf.g1; omega) hf.g2
    rwa [Int.toNat_of_nonneg hf.p1] at this
  have hRem := fun W => rem_new c.mature (c.pages * c.page) c.card c.buffer W hM1 (by omega) m1 (by omega) hf.c1 (by have := hf.c2; have := hf.g2; omega) hf.b1 (by have := hf.b2; omega)
  have hGrey : ∀ W, Calls Tryz.prog 39 #[.int .i64 c.stack] W fun e w' => ∃ p h', e = .returned (.pointer (some ⟨p, 0, none⟩)) ∧ GreyH p ⟨c.stack, [], false⟩ h' ∧ Upd [] h' W w' := by
    intro W
    have := grey_new c.stack.toNat W (by have := hf.s1; omega) (by have := hf.s2; omega)
    rwa [Int.toNat_of_nonneg (by have := hf.s1; omega)] at this
  have hTable : ∀ W, Calls Tryz.prog 40 #[.int .i64 c.handles] W fun e w' => ∃ p h', e = .returned (.pointer (some ⟨p, 0, none⟩)) ∧ TableH p (List.replicate c.handles.toNat 0) h' ∧ Upd [] h' W w' := by
    intro W
    have := table_new c.handles.toNat W (by have := hf.h1; omega) (by have := hf.h2; omega)
    rwa [Int.toNat_of_nonneg (by have := hf.h1; omega)] at this
  have U0 := Upd.alloc (In.nil w) (.cells (cfgCells c) 24 (0, 0))
  have hwr : IntKind.i64.wrap (c.pages * c.page) = c.pages * c.page := IntWalk.i64_in _ (by omega)
  have HF := Lib.hid hf
  clear hf hb he m1 m2 hM1 hM2 hWd1 hWd2
  go_enter Tryz.func10, Tryz.ntmps10
  simp only [cfgCells]
  go_wp2_with (go_at_call 31; refine Calls.mono (hcheck _) ?_; rintro e w1 ⟨rfl, u1⟩; have U1 := (U0.under0 u1).drew'; have hS1 := cfg_cells (c := c) (U1.inn.mem (b := w.heap.size) (o := .cells (cfgCells c) 24 (0, 0)) (by simp)))
  go_region_held3 (fun w' => w'.cell? ⟨w.heap.size, 0, none⟩ = some (.int .i64 c.handles) ∧ w'.cell? ⟨w.heap.size, 1, none⟩ = some (.int .i64 c.nursery) ∧ w'.cell? ⟨w.heap.size, 2, none⟩ = some (.int .i64 c.pages) ∧ w'.cell? ⟨w.heap.size, 3, none⟩ = some (.int .i64 c.page) ∧ w'.cell? ⟨w.heap.size, 4, none⟩ = some (.int .i64 c.card) ∧ w'.cell? ⟨w.heap.size, 5, none⟩ = some (.int .i64 c.buffer) ∧ w'.cell? ⟨w.heap.size, 6, none⟩ = some (.int .i64 c.stack) ∧ w'.cell? ⟨w.heap.size, 7, none⟩ = some (.int .i64 c.tenure) ∧ w'.cell? ⟨w.heap.size, 8, none⟩ = some (.int .i64 c.largest) ∧ w'.cell? ⟨w.heap.size, 9, none⟩ = some (.int .i64 c.minor) ∧ w'.cell? ⟨w.heap.size, 10, none⟩ = some (.int .i64 c.major) ∧ w'.cell? ⟨w.heap.size, 11, none⟩ = some (.int .i64 c.minorAt) ∧ w'.cell? ⟨w.heap.size, 12, none⟩ = some (.int .i64 c.majorAt))
    (first | exact hS2 | exact hS1 | go_keep)
    (first | (go_at_call 32; refine Calls.mono (hmat _ hsm) ?_; rintro e w2 ⟨rfl, u2⟩; have U2 := U1.under0 u2; have hS2 := cfg_cells (c := c) (U2.inn.mem (b := w.heap.size) (o := .cells (cfgCells c) 24 (0, 0)) (by simp))))
  go_wp2
  have U3 := U2.drew'
  have hS3 := cfg_cells (c := c) (U3.inn.mem (b := w.heap.size) (o := .cells (cfgCells c) 24 (0, 0)) (by simp))
  clear hS1 hS2
  go_region_held3 (fun w' => w'.cell? ⟨w.heap.size, 0, none⟩ = some (.int .i64 c.handles) ∧ w'.cell? ⟨w.heap.size, 1, none⟩ = some (.int .i64 c.nursery) ∧ w'.cell? ⟨w.heap.size, 2, none⟩ = some (.int .i64 c.pages) ∧ w'.cell? ⟨w.heap.size, 3, none⟩ = some (.int .i64 c.page) ∧ w'.cell? ⟨w.heap.size, 4, none⟩ = some (.int .i64 c.card) ∧ w'.cell? ⟨w.heap.size, 5, none⟩ = some (.int .i64 c.buffer) ∧ w'.cell? ⟨w.heap.size, 6, none⟩ = some (.int .i64 c.stack) ∧ w'.cell? ⟨w.heap.size, 7, none⟩ = some (.int .i64 c.tenure) ∧ w'.cell? ⟨w.heap.size, 8, none⟩ = some (.int .i64 c.largest) ∧ w'.cell? ⟨w.heap.size, 9, none⟩ = some (.int .i64 c.minor) ∧ w'.cell? ⟨w.heap.size, 10, none⟩ = some (.int .i64 c.major) ∧ w'.cell? ⟨w.heap.size, 11, none⟩ = some (.int .i64 c.minorAt) ∧ w'.cell? ⟨w.heap.size, 12, none⟩ = some (.int .i64 c.majorAt))
    (first | exact hS11 | exact hS10 | exact hS9 | exact hS8 | exact hS7 | exact hS6 | exact hS5 | exact hS4 | exact hS3 | go_keep)
    (first
      | (go_at_call 34; refine Calls.mono (hWords _) ?_; rintro e w4 ⟨rfl, u4⟩; have U4 := U3.under0 u4; have hS4 := cfg_cells (c := c) (U4.inn.mem (b := w.heap.size) (o := .cells (cfgCells c) 24 (0, 0)) (by simp)); clear hS3)
      | (go_at_call 33; refine Calls.mono (hArena _) ?_; rintro e w5 ⟨p5, h5, rfl, y5, u5⟩; have U5 := U4.more u5; have hS5 := cfg_cells (c := c) (U5.inn.mem (b := w.heap.size) (o := .cells (cfgCells c) 24 (0, 0)) (by simp)); clear hS4)
      | (go_at_call 36; refine Calls.mono (hHalf _) ?_; rintro e w6 ⟨rfl, u6⟩; have U6 := U5.under0 u6; have hS6 := cfg_cells (c := c) (U6.inn.mem (b := w.heap.size) (o := .cells (cfgCells c) 24 (0, 0)) (by simp)); clear hS5)
      | (go_at_call 35; refine Calls.mono (hBump _) ?_; rintro e w7 ⟨p7, h7, rfl, y7, u7⟩; have U7 := U6.more u7; have hS7 := cfg_cells (c := c) (U7.inn.mem (b := w.heap.size) (o := .cells (cfgCells c) 24 (0, 0)) (by simp)); clear hS6)
      | (go_at_call 37; refine Calls.mono (hMature _) ?_; rintro e w8 ⟨p8, h8, rfl, y8, u8⟩; have U8 := U7.more u8; have hS8 := cfg_cells (c := c) (U8.inn.mem (b := w.heap.size) (o := .cells (cfgCells c) 24 (0, 0)) (by simp)); clear hS7)
      | (go_at_call 38; refine Calls.mono (hRem _) ?_; rintro e w9 ⟨p9, h9, rfl, y9, u9⟩; have U9 := U8.more u9; have hS9 := cfg_cells (c := c) (U9.inn.mem (b := w.heap.size) (o := .cells (cfgCells c) 24 (0, 0)) (by simp)); clear hS8)
      | (go_at_call 39; refine Calls.mono (hGrey _) ?_; rintro e w10 ⟨p10, h10, rfl, y10, u10⟩; have U10 := U9.more u10; have hS10 := cfg_cells (c := c) (U10.inn.mem (b := w.heap.size) (o := .cells (cfgCells c) 24 (0, 0)) (by simp)); clear hS9)
      | (go_at_call 40; refine Calls.mono (hTable _) ?_; rintro e w11 ⟨p11, h11, rfl, y11, u11⟩; have U11 := U10.more u11; have hS11 := cfg_cells (c := c) (U11.inn.mem (b := w.heap.size) (o := .cells (cfgCells c) 24 (0, 0)) (by simp)); clear hS10))
  go_wp2
  have UG := (U11.forget ((((((List.sublist_append_left h5 [(w.heap.size, .cells (cfgCells c) 24 (0, 0))]).append_left h7).append_left h8).append_left h9).append_left h10).append_left h11)).alloc' (coreObj ⟨p5, p7, p8, p9, p10, p11⟩ (coreNew c) (.slice none 0 0))
  have UF := UG.perm (List.Perm.refl _) (perm7 _ h5 h7 h8 h9 h10 h11)
  clear hS11 U0 U1 U2 U3 U4 U5 U6 U7 U8 U9 U10 U11 UG
  go_ret2
  exact ⟨w11.heap.size, ⟨p5, p7, p8, p9, p10, p11⟩, _, rfl, ⟨.slice none 0 0, h5, h7, h8, h9, h10, h11, [], rfl, y5, y7, y8, y9, y10, y11, SliceH.nil _ _⟩, UF⟩


end Go.Proofs.YtjjdjipohifgbaaGreat

/- What config of the statements' package comes to. Conditions: none. -/
namespace Go.Proofs.YtjjdjipohifgbaaGreat
open Go.RowKit

/-- the configuration that four small numbers are -/
def cfgOf (a b c d : Int) : Cfg where
  handles := a % 5 + 2
  nursery := 24 + b % 60
  pages := b / 16 % 12 + 1
  page := 16 + 16 * (a / 64)
  card := if c % 3 = 0 then 16 + 16 * (a / 64) else if c % 3 = 1 then (16 + 16 * (a / 64)) / 2 else (16 + 16 * (a / 64)) / 4
  buffer := c / 4 % 4
  stack := c / 16 % 4 + 1
  tenure := c / 64 % 3 + 1
  largest := d % 8 + 1
  minor := d / 8 % 8
  major := d / 64 * 2
  minorAt := 12 + a % 8
  majorAt := b % 3 % 2

def U8 (x : Int) : Prop := 0 ≤ x ∧ x < 256

theorem quo_u8 {x k : Int} (hx : U8 x) (hk : 0 < k) : IntKind.u8.wrap (x.tdiv k) = x / k := by
  obtain ⟨h0, h1⟩ := hx
  rw [Int.tdiv_eq_ediv_of_nonneg h0]
  have h2 : 0 ≤ x / k := Int.ediv_nonneg h0 (by omega)
  have h3 : x / k ≤ x := Int.ediv_le_self _ h0
  exact IntWalk.u8_in _ (by omega)

set_option maxRecDepth 100000 in
set_option maxHeartbeats 2000000 in
theorem law_config (a b c d : Int) (ha : U8 a) (hb : U8 b) (hc : U8 c) (hd : U8 d) (w : World) :
    Calls Tryz.prog 9 #[.int .u8 a, .int .u8 b, .int .u8 c, .int .u8 d] w fun e w' => e = .returned (.agg (cfgCells (cfgOf a b c d))) ∧ Upd [] [] w w' := by
  obtain ⟨a1, a2⟩ := ha
  obtain ⟨b1, b2⟩ := hb
  obtain ⟨c1, c2⟩ := hc
  obtain ⟨d1, d2⟩ := hd
  have p0 : 0 ≤ 16 + 16 * (a / 64) := by omega
  have q1 : (16 + 16 * (a / 64)).tdiv 1 = 16 + 16 * (a / 64) := Int.tdiv_one ..
  have q2 : (16 + 16 * (a / 64)).tdiv 2 = (16 + 16 * (a / 64)) / 2 := Int.tdiv_eq_ediv_of_nonneg p0
  have q4 : (16 + 16 * (a / 64)).tdiv 4 = (16 + 16 * (a / 64)) / 4 := Int.tdiv_eq_ediv_of_nonneg p0
  have key : ∀ k : Int, (k = 0 ∨ k = 1 ∨ k = 2) → c % 3 = k → Calls Tryz.prog 9 #[.int .u8 a, .int .u8 b, .int .u8 c, .int .u8 d] w fun e w' => e = .returned (.agg (cfgCells (cfgOf a b c d))) ∧ Upd [] [] w w' := by
    intro k hk hm
    rcases hk with rfl | rfl | rfl
    · have hR : cfgOf a b c d = ⟨a % 5 + 2, 24 + b % 60, b / 16 % 12 + 1, 16 + 16 * (a / 64), 16 + 16 * (a / 64), c / 4 % 4, c / 16 % 4 + 1, c / 64 % 3 + 1, d % 8 + 1, d / 8 % 8, d / 64 * 2, 12 + a % 8, b % 3 % 2⟩ := by simp [cfgOf, hm]
      rw [hR]
      clear hR
      have hw : IntKind.i64.wrap (16 + 16 * (a / 64)) = 16 + 16 * (a / 64) := IntWalk.i64_in _ (by omega)
      go_enter Tryz.func9, Tryz.ntmps9
      go_wp2
      have UF := Upd.alloc (In.nil w) (.cells (cfgCells ⟨a % 5 + 2, 24 + b % 60, b / 16 % 12 + 1, 16 + 16 * (a / 64), 16 + 16 * (a / 64), c / 4 % 4, c / 16 % 4 + 1, c / 64 % 3 + 1, d % 8 + 1, d / 8 % 8, d / 64 * 2, 12 + a % 8, b % 3 % 2⟩) 24 (0, 0))
      obtain ⟨g0, g1, g2, g3, g4, g5, g6, g7, g8, g9, g10, g11, g12⟩ := cfg_cells UF.inn.head
      simp only [cfgCells] at g0 g1 g2 g3 g4 g5 g6 g7 g8 g9 g10 g11 g12
      refine bodyPost_ret (v := .agg (cfgCells ⟨a % 5 + 2, 24 + b % 60, b / 16 % 12 + 1, 16 + 16 * (a / 64), 16 + 16 * (a / 64), c / 4 % 4, c / 16 % 4 + 1, c / 64 % 3 + 1, d % 8 + 1, d / 8 % 8, d / 64 * 2, 12 + a % 8, b % 3 % 2⟩)) ?_ rfl ⟨rfl, UF.drop1⟩
      simp only [results, Tryz.results9]
      simp [go_sem, cfgCells, g0, g1, g2, g3, g4, g5, g6, g7, g8, g9, g10, g11, g12]
    · have hR : cfgOf a b c d = ⟨a % 5 + 2, 24 + b % 60, b / 16 % 12 + 1, 16 + 16 * (a / 64), (16 + 16 * (a / 64)) / 2, c / 4 % 4, c / 16 % 4 + 1, c / 64 % 3 + 1, d % 8 + 1, d / 8 % 8, d / 64 * 2, 12 + a % 8, b % 3 % 2⟩ := by simp [cfgOf, hm]
      rw [hR]
      clear hR
      have hw : IntKind.i64.wrap ((16 + 16 * (a / 64)) / 2) = (16 + 16 * (a / 64)) / 2 := IntWalk.i64_in _ (by omega)
      go_enter Tryz.func9, Tryz.ntmps9
      go_wp2
      have UF := Upd.alloc (In.nil w) (.cells (cfgCells ⟨a % 5 + 2, 24 + b % 60, b / 16 % 12 + 1, 16 + 16 * (a / 64), (16 + 16 * (a / 64)) / 2, c / 4 % 4, c / 16 % 4 + 1, c / 64 % 3 + 1, d % 8 + 1, d / 8 % 8, d / 64 * 2, 12 + a % 8, b % 3 % 2⟩) 24 (0, 0))
      obtain ⟨g0, g1, g2, g3, g4, g5, g6, g7, g8, g9, g10, g11, g12⟩ := cfg_cells UF.inn.head
      simp only [cfgCells] at g0 g1 g2 g3 g4 g5 g6 g7 g8 g9 g10 g11 g12
      refine bodyPost_ret (v := .agg (cfgCells ⟨a % 5 + 2, 24 + b % 60, b / 16 % 12 + 1, 16 + 16 * (a / 64), (16 + 16 * (a / 64)) / 2, c / 4 % 4, c / 16 % 4 + 1, c / 64 % 3 + 1, d % 8 + 1, d / 8 % 8, d / 64 * 2, 12 + a % 8, b % 3 % 2⟩)) ?_ rfl ⟨rfl, UF.drop1⟩
      simp only [results, Tryz.results9]
      simp [go_sem, cfgCells, g0, g1, g2, g3, g4, g5, g6, g7, g8, g9, g10, g11, g12]
    · have hR : cfgOf a b c d = ⟨a % 5 + 2, 24 + b % 60, b / 16 % 12 + 1, 16 + 16 * (a / 64), (16 + 16 * (a / 64)) / 4, c / 4 % 4, c / 16 % 4 + 1, c / 64 % 3 + 1, d % 8 + 1, d / 8 % 8, d / 64 * 2, 12 + a % 8, b % 3 % 2⟩ := by simp [cfgOf, hm]
      rw [hR]
      clear hR
      have hw : IntKind.i64.wrap ((16 + 16 * (a / 64)) / 4) = (16 + 16 * (a / 64)) / 4 := IntWalk.i64_in _ (by omega)
      go_enter Tryz.func9, Tryz.ntmps9
      go_wp2
      have UF := Upd.alloc (In.nil w) (.cells (cfgCells ⟨a % 5 + 2, 24 + b % 60, b / 16 % 12 + 1, 16 + 16 * (a / 64), (16 + 16 * (a / 64)) / 4, c / 4 % 4, c / 16 % 4 + 1, c / 64 % 3 + 1, d % 8 + 1, d / 8 % 8, d / 64 * 2, 12 + a % 8, b % 3 % 2⟩) 24 (0, 0))
      obtain ⟨g0, g1, g2, g3, g4, g5, g6, g7, g8, g9, g10, g11, g12⟩ := cfg_cells UF.inn.head
      simp only [cfgCells] at g0 g1 g2 g3 g4 g5 g6 g7 g8 g9 g10 g11 g12
      refine bodyPost_ret (v := .agg (cfgCells ⟨a % 5 + 2, 24 + b % 60, b / 16 % 12 + 1, 16 + 16 * (a / 64), (16 + 16 * (a / 64)) / 4, c / 4 % 4, c / 16 % 4 + 1, c / 64 % 3 + 1, d % 8 + 1, d / 8 % 8, d / 64 * 2, 12 + a % 8, b % 3 % 2⟩)) ?_ rfl ⟨rfl, UF.drop1⟩
      simp only [results, Tryz.results9]
      simp [go_sem, cfgCells, g0, g1, g2, g3, g4, g5, g6, g7, g8, g9, g10, g11, g12]
  exact key (c % 3) (by omega) rfl

end Go.Proofs.YtjjdjipohifgbaaGreat

/- A table's list, copied. Conditions: none. -/
namespace Go.Proofs.YtjjdjipohifgbaaGreat
open Go.RowKit

set_option maxRecDepth 100000 in
set_option maxHeartbeats 1000000 in
theorem slices_clone (v : Value) (n : Nat) (l : List Int) (w : World) (h : Hp) (hi : In w h) (hs : SliceH 3 1 v n (ints l) h) (hn : n ≤ 1048576) :
    Calls Tryz.prog 66 #[v] w fun e w' => ∃ v' h', e = .returned v' ∧ SliceH 3 1 v' n (ints l) h' ∧ Upd [] h' w w' := by
  by_cases hz : v = .slice none 0 0
  · subst hz
    have hn0 : n = 0 := by
      rcases hs.2 with ⟨_, h0, _⟩ | ⟨g', pre, post, cap', h1, _⟩
      · exact h0
      · cases h1
    have hl0 : ints l = [] := List.eq_nil_of_length_eq_zero (by have := hs.1; omega)
    rw [hl0, hn0]
    have hq := Lib.run_eql_slice_nil (P := Tryz.prog) w 42 3 none 0 0 0 0 Tryz.underlying42
    go_enter Tryz.func66, Tryz.ntmps66
    go_wp2
    go_ret
    exact ⟨_, _, rfl, SliceH.nil _ _, Upd.refl (In.nil w)⟩
  · obtain ⟨g, off, cap, rfl, hcap⟩ : ∃ g off cap, v = .slice (some ⟨g, off, none⟩) n cap ∧ n ≤ cap := by
      rcases hs.2 with ⟨h1, _, _⟩ | ⟨g', pre, post, cap', rfl, rfl, hc, _, _⟩
      · exact absurd h1 hz
      · exact ⟨_, _, _, rfl, hc⟩
    clear hz
    have hnews := hs.news hi rfl
    have hlen : (ints l).length = n * 1 := hs.1
    have h1 : ∀ u ∈ ints l, u.oneCell' = true := by intro u hu; simp at hu; obtain ⟨x, _, rfl⟩ := hu; rfl
    have hnews' : ∀ j u, (ints l)[j]? = some u → (w.alloc (.cells #[] 3 (0, 0))).cell? ((⟨g, off, none⟩ : Addr).add j) = some u := by
      intro j u hj
      have h2 := hnews j u hj
      rw [World.cell?_alloc_lt _ _ _ (World.block_lt_of_cell? _ _ h2)]
      exact h2
    have he : SliceH 3 1 (.slice (some ⟨w.heap.size, 0, none⟩) 0 0) 0 [] [(w.heap.size, .cells #[] 3 (0, 0))] := ⟨rfl, .inr ⟨w.heap.size, [], [], 0, rfl, rfl, Nat.le_refl _, by simp, by simp [maxLen]⟩⟩
    have hU := Upd.alloc (In.nil w) (.cells #[] 3 (0, 0))
    have hin := hU.inn
    have hmax : 0 + n ≤ maxLen := by unfold maxLen; omega
    have H1 := Lib.hid hnews'
    have H2 := Lib.hid h1
    have H3 := Lib.hid hlen
    clear hnews hnews' h1 hlen
    have hq := Lib.run_eql_slice_nil (P := Tryz.prog) w 42 3 (some ⟨g, off, none⟩) n cap 0 0 Tryz.underlying42
    go_enter Tryz.func66, Tryz.ntmps66
    go_wp2_with (at_builtin; refine wpList_append_mine rfl (.tmp 5) (.tmp 6) 42 rfl 3 1 8 (.int .i64 0) Tryz.underlying42 Tryz.infoInt rfl (by decide) (.slice (some ⟨w.heap.size, 0, none⟩) 0 0) 0 [] _ rfl he hin ⟨g, off, none⟩ n cap (ints l) rfl H1.out H3.out H2.out (Or.inr (by simp)) hmax (by omega) ?_; intro v' w1 hX' hS hU')
    go_ret
    exact ⟨v', hX', rfl, by simpa using hS, hU.trans hU'⟩

set_option maxRecDepth 100000 in
set_option maxHeartbeats 1000000 in
theorem slices_clip (v : Value) (n : Nat) (l : List Int) (w : World) (h : Hp) (hs : SliceH 3 1 v n (ints l) h) (hn : n ≤ 1048576) :
    Calls Tryz.prog 65 #[v] w fun e w' => ∃ v', e = .returned v' ∧ SliceH 3 1 v' n (ints l) h ∧ w = w' := by
  by_cases hz : v = .slice none 0 0
  · subst hz
    have hn0 : n = 0 := by
      rcases hs.2 with ⟨_, h0, _⟩ | ⟨g', pre, post, cap', h1, _⟩
      · exact h0
      · cases h1
    subst hn0
    go_enter Tryz.func65, Tryz.ntmps65
    go_wp2
    go_ret
    exact ⟨_, rfl, hs, rfl⟩
  · obtain ⟨g, off, cap, rfl, hcap⟩ : ∃ g off cap, v = .slice (some ⟨g, off, none⟩) n cap ∧ n ≤ cap := by
      rcases hs.2 with ⟨h1, _, _⟩ | ⟨g', pre, post, cap', rfl, rfl, hc, _, _⟩
      · exact absurd h1 hz
      · exact ⟨_, _, _, rfl, hc⟩
    clear hz
    have hs' := hs.clip
    go_enter Tryz.func65, Tryz.ntmps65
    go_wp2
    go_ret
    exact ⟨_, rfl, hs', rfl⟩

set_option maxRecDepth 100000 in
set_option maxHeartbeats 1000000 in
theorem table_all (p : Nat) (l : List Int) (w : World) (h : Hp) (hi : In w h) (ht : TableH p l h) :
    Calls Tryz.prog 22 #[.pointer (some ⟨p, 0, none⟩)] w fun e w' => ∃ v h', e = .returned v ∧ SliceH 3 1 v l.length (ints l) h' ∧ Upd [] h' w w' := by
  obtain ⟨b, rfl, hl, hu⟩ := ht
  have e0 : w.cell? ⟨p, 0, none⟩ = some (.slice (some ⟨b, 0, none⟩) l.length l.length) := cell_of hi.head 0
  have hs : SliceH 3 1 (.slice (some ⟨b, 0, none⟩) l.length l.length) l.length (ints l) [(b, .cells (ints l).toArray 3 (0, 0))] := SliceH.made (by simp) (by unfold maxLen; omega)
  have hc := slices_clone _ l.length l w _ hi.tail hs (by omega)
  go_enter Tryz.func22, Tryz.ntmps22
  go_wp2_with (first | (go_at_call 66; refine Calls.mono hc ?_; rintro e w1 ⟨v1, h1, rfl, s1, u1⟩) | (go_at_call 65; refine Calls.mono (slices_clip _ _ _ _ _ s1 (by omega)) ?_; rintro e w2 ⟨v2, rfl, s2, rfl⟩))
  go_ret
  exact ⟨v2, h1, rfl, s2, u1⟩


end Go.Proofs.YtjjdjipohifgbaaGreat

/- How much there is in a stack, a buffer, a card table and a set. Conditions: as New makes them. -/
namespace Go.Proofs.YtjjdjipohifgbaaGreat
open Go.RowKit

theorem buf_len (p : Nat) (s : BufS) (w : World) (h : Hp) (hi : In w h) (hg : BufH p s h) :
    Calls Tryz.prog 109 #[.pointer (some ⟨p, 0, none⟩)] w fun e w' => e = .returned (.int .i64 s.list.length) ∧ w' = w := by
  obtain ⟨v, hs, rfl, hS, w1, w2, w3, w4⟩ := hg
  obtain ⟨ao, cap, rfl, hcap⟩ := hS.shape
  have e1 : w.cell? ⟨p, 1, none⟩ = some (.slice ao s.list.length cap) := cell_of hi.head 1
  go_enter Tryz.func109, Tryz.ntmps109
  go_wp2
  go_ret
  exact ⟨rfl, rfl⟩

/-- how many marks are set -/
def countT (l : List Bool) : Nat := (l.filter id).length
theorem countT_le (l : List Bool) : countT l ≤ l.length := List.length_filter_le _ _
theorem countT_succ (l : List Bool) (k : Nat) (h : k < l.length) : countT (l.take (k + 1)) = countT (l.take k) + if l.getD k false then 1 else 0 := by
  have e : l.getD k false = l[k] := by simp [List.getD, h]
  rw [List.take_succ_eq_append_getElem h, e]
  unfold countT
  rw [List.filter_append, List.length_append]
  congr 1
  cases l[k] <;> rfl
theorem many_le {s : CardS} (h : s.WF) : s.marks.length ≤ 1048576 := by
  obtain ⟨_, _, h3, h4, h5, _, h7⟩ := h
  have := many_bounds h3 h4 h5
  omega

set_option maxRecDepth 100000 in
set_option maxHeartbeats 1000000 in
theorem card_count (p : Nat) (s : CardS) (w : World) (h : Hp) (hi : In w h) (hg : CardH p s h) :
    Calls Tryz.prog 110 #[.pointer (some ⟨p, 0, none⟩)] w fun e w' => e = .returned (.int .i64 (countT s.marks)) ∧ w' = w := by
  obtain ⟨b, rfl, hwf⟩ := hg
  have hle := many_le hwf
  have e3 : w.cell? ⟨p, 3, none⟩ = some (.slice (some ⟨b, 0, none⟩) s.marks.length s.marks.length) := cell_of hi.head 3
  have hc : ∀ k, k < s.marks.length → w.cell? ⟨b, k, none⟩ = some (.bool (s.marks.getD k false)) := by
    intro k hk
    rw [cell_of hi.tail.head k]
    simp [List.getD, hk]
  have HC := Lib.hid hc
  clear hc hwf
  go_enter Tryz.func110, Tryz.ntmps110
  go_wp2
  go_loop [3, 13] (fun n i => ∃ k : Nat, k ≤ s.marks.length ∧ i = .int .i64 k ∧ n = .int .i64 (countT (s.marks.take k))) (fun _ i => s.marks.length - (intOf i).toNat)
  case atStart => exact ⟨0, by omega, rfl, rfl⟩
  case round =>
    obtain ⟨k, hk, rfl, rfl⟩ := hrel
    by_cases hlt : k < s.marks.length
    · have h1 := HC.out k hlt
      have h2 := countT_succ s.marks k hlt
      have h3 := countT_le (s.marks.take k)
      have h4 : (s.marks.take k).length ≤ k := List.length_take_le _ _
      generalize countT (s.marks.take k) = m at *
      cases hb : s.marks.getD k false
      · rw [hb] at h1 h2
        have H2 := Lib.hid h2
        clear h2 hb
        go_wp2
        go_round
        case rel => exact ⟨k + 1, by omega, by go_num, by rw [H2.out]; rfl⟩
        case measure => simp [intOf]; omega
      · rw [hb] at h1 h2
        have H2 := Lib.hid h2
        clear h2 hb
        go_wp2
        go_round
        case rel => exact ⟨k + 1, by omega, by go_num, by rw [H2.out]; go_num⟩
        case measure => simp [intOf]; omega
    · rw [List.take_of_length_le (show s.marks.length ≤ k by omega)]
      go_wp2
      go_ret
      exact ⟨rfl, rfl⟩

end Go.Proofs.YtjjdjipohifgbaaGreat

/- A core's parts as they are called from outside: the table, the arena, the stack. Conditions: a core as New makes it. -/
namespace Go.Proofs.YtjjdjipohifgbaaGreat
open Go.RowKit

theorem Upd.moreX {w0 w w' : World} {h0 x h h' : Hp} (a : Upd h0 (x ++ h) w0 w) (u : Upd [] h' w w') : Upd h0 ((h' ++ x) ++ h) w0 w' := by
  have := a.more u
  rwa [← List.append_assoc] at this
theorem Upd.moreL {w0 w w' : World} {h0 k h' : Hp} (a : Upd h0 k w0 w) (u : Upd [] h' w w') : Upd h0 (k ++ h') w0 w' := (a.more u).perm (List.Perm.refl _) List.perm_append_comm
theorem Upd.allocX {w0 w : World} {h0 x h : Hp} (a : Upd h0 (x ++ h) w0 w) (o : Obj) : Upd h0 (((w.heap.size, o) :: x) ++ h) w0 (w.alloc o) := a.alloc' o
theorem Upd.leftX {w0 w w' : World} {h0 x y y' h : Hp} (a : Upd h0 ((x ++ y) ++ h) w0 w) (u : Upd x y' w w') : Upd h0 ((y' ++ y) ++ h) w0 w' := by
  rw [List.append_assoc] at a ⊢
  exact a.trans (u.beside a.inn)

theorem CoreH.ptrs {pc : Nat} {L : CoreL} {s : CoreS} {x h : Hp} {w : World} (hc : CoreH pc L s h) (hi : In w (x ++ h)) :
    w.cell? ⟨pc, 13, none⟩ = some (ptr L.pa) ∧ w.cell? ⟨pc, 14, none⟩ = some (ptr L.py) ∧ w.cell? ⟨pc, 15, none⟩ = some (ptr L.po) ∧ w.cell? ⟨pc, 16, none⟩ = some (ptr L.pr) ∧ w.cell? ⟨pc, 17, none⟩ = some (ptr L.pg) ∧ w.cell? ⟨pc, 18, none⟩ = some (ptr L.pt) := by
  obtain ⟨v, ha, hy, ho, hr, hg, ht, hw, rfl, ca, cy, co, cr, cg, ct, cw⟩ := hc
  exact core_ptrs (In.core hi)
theorem CoreH.vars {pc : Nat} {L : CoreL} {s : CoreS} {x h : Hp} {w : World} (hc : CoreH pc L s h) (hi : In w (x ++ h)) :
    w.cell? ⟨pc, 20, none⟩ = some (.int .i64 s.phase) ∧ w.cell? ⟨pc, 21, none⟩ = some (.bool s.moving) := by
  obtain ⟨v, ha, hy, ho, hr, hg, ht, hw, rfl, ca, cy, co, cr, cg, ct, cw⟩ := hc
  exact ⟨cell_of (In.core hi) 20, cell_of (In.core hi) 21⟩
theorem CoreH.facts {pc : Nat} {L : CoreL} {s : CoreS} {h : Hp} (hc : CoreH pc L s h) : s.t.length ≤ 64 ∧ (∀ x ∈ s.t, I64 x) ∧ s.ws.length ≤ 1048576 ∧ (∀ x ∈ s.ws, U64 x) := by
  obtain ⟨v, ha, hy, ho, hr, hg, ht, hw, rfl, ca, cy, co, cr, cg, ct, cw⟩ := hc
  obtain ⟨_, _, h1, h2⟩ := ct
  obtain ⟨_, _, _, h3, h4⟩ := ca
  exact ⟨h1, h2, h3, h4⟩

theorem core_all (pc : Nat) (L : CoreL) (s : CoreS) (w : World) (h : Hp) (hi : In w h) (hc : CoreH pc L s h) :
    Calls Tryz.prog 22 #[.pointer (some ⟨L.pt, 0, none⟩)] w fun e w' => ∃ v h', e = .returned v ∧ SliceH 3 1 v s.t.length (ints s.t) h' ∧ Upd [] h' w w' := by
  obtain ⟨v, ha, hy, ho, hr, hg, ht, hw, rfl, ca, cy, co, cr, cg, ct, cw⟩ := hc
  exact table_all L.pt s.t w ht (In.table (x := []) hi) ct

/-- an element of a slice of numbers, where it lies -/
theorem SliceH.intAt {T : TypeId} {ao : Option Addr} {n cap : Nat} {l : List Int} {h : Hp} {w : World} {kd : IntKind} (sl : SliceH T 1 (.slice ao n cap) n (l.map (Value.int kd)) h) (hi : In w h) {k : Nat} (hk : k < n) :
    ∃ g off, ao = some ⟨g, off, none⟩ ∧ w.cell? ⟨g, off + k, none⟩ = some (.int kd (l.getD k 0)) := by
  obtain ⟨g, off, cap', hv, _⟩ := sl.addr (by omega)
  have hl : k < l.length := by have := sl.1; simp at this; omega
  have hc := sl.cell hi hv (j := k) (by simpa using hl)
  simp only [Value.slice.injEq] at hv
  refine ⟨g, off, hv.1, ?_⟩
  rw [hc]
  simp [List.getD, hl]

end Go.Proofs.YtjjdjipohifgbaaGreat

/- What the other calls of packages bump, card, buf and grey come to: Flip, Drop, Begin; First, Clear, Part; Take; Pop, Lost, Found, All, Put. Conditions: things as New makes them. -/
namespace Go.Proofs.YtjjdjipohifgbaaGreat
open Go.RowKit

set_option maxRecDepth 100000 in
set_option maxHeartbeats 1000000 in
theorem bump_flip (p : Nat) (y : YoungS) (w : World) (h : Hp) (hi : In w h) (hy : YoungH p y h) :
    Calls Tryz.prog 50 #[.pointer (some ⟨p, 0, none⟩)] w fun e w' => e = .returned (.bool y.flipOk) ∧ ∃ h', YoungH p y.flip h' ∧ Upd h h' w w' := by
  obtain ⟨c0, c1, c2, c3, c4, c5⟩ := young_cells hi hy
  have g5 := young_frozen hi hy 5
  by_cases hok : y.ou ≤ 0
  · have e1 : y.flipOk = true := by simp [YoungS.flipOk, hok]
    have e2 : y.flip = { y with now := !y.now } := by simp [YoungS.flip, e1]
    rw [e1, e2]
    obtain ⟨hh, hwf⟩ := hy
    obtain ⟨arr, rfl⟩ : ∃ arr, h = [(p, .cells arr 107 (0, 0))] := ⟨_, hh⟩
    have harr : arr = youngCells y := by simpa using hh
    have hfin : ∀ w1, Upd [(p, .cells arr 107 (0, 0))] [(p, .cells arr 107 (0, 0))] w w1 → ∃ h', YoungH p { y with now := !y.now } h' ∧ Upd [(p, .cells arr 107 (0, 0))] h' w (w1.setCell ⟨p, 5, none⟩ (.int .i64 (bit01 (!y.now)))) := by
      intro w1 u1
      refine ⟨_, ⟨?_, hwf⟩, Upd.store' (l := []) u1 5 (.int .i64 (bit01 (!y.now)))⟩
      rw [harr]
      rfl
    have U0 := Upd.refl hi
    rcases y with ⟨f0, u0, f1, u1, words, now⟩
    simp only [bit01] at *
    have k0 : IntKind.i64.wrap 0 = 0 := by kernel_rfl
    have k1 : IntKind.i64.wrap 1 = 1 := by kernel_rfl
    have HF := Lib.hid hfin
    clear hfin hh harr hwf e1 e2
    cases now
    all_goals
      simp only [YoungS.ou, if_true, if_false, Bool.false_eq_true, Bool.not_true, Bool.not_false] at *
      go_enter Tryz.func50, Tryz.ntmps50
      go_wp2
      refine wp_still (by kernel_rfl) (by kernel_rfl) fun w1 hw1 => ?_
      subst hw1
      repeat still_step
      refine wpStill_nil ?_
      go_wp2
      go_ret
      exact ⟨rfl, HF.out _ U0.drew'⟩
  · have e1 : y.flipOk = false := by simp [YoungS.flipOk, hok]
    have e2 : y.flip = y := by simp [YoungS.flip, e1]
    rw [e1, e2]
    have hy0 := hy
    rcases y with ⟨f0, u0, f1, u1, words, now⟩
    simp only [bit01] at *
    have k0 : IntKind.i64.wrap 0 = 0 := by kernel_rfl
    have k1 : IntKind.i64.wrap 1 = 1 := by kernel_rfl
    clear e1 e2
    cases now
    all_goals
      simp only [YoungS.ou, if_true, if_false, Bool.false_eq_true] at *
      go_enter Tryz.func50, Tryz.ntmps50
      go_wp2
      refine wp_still (by kernel_rfl) (by kernel_rfl) fun w1 hw1 => ?_
      subst hw1
      repeat still_step
      refine wpStill_nil ?_
      go_wp2
      go_ret
      exact ⟨rfl, h, hy0, Upd.drew hi⟩

set_option maxRecDepth 100000 in
set_option maxHeartbeats 1000000 in
theorem bump_begin (p : Nat) (y : YoungS) (w : World) (h : Hp) (hi : In w h) (hy : YoungH p y h) :
    Calls Tryz.prog 52 #[.pointer (some ⟨p, 0, none⟩)] w fun e w' => e = .returned (.tuple #[.int .i64 y.cf, .int .i64 y.of]) ∧ Upd h h w w' := by
  obtain ⟨c0, c1, c2, c3, c4, c5⟩ := young_cells hi hy
  rcases y with ⟨f0, u0, f1, u1, words, now⟩
  simp only [bit01] at *
  have k0 : IntKind.i64.wrap 0 = 0 := by kernel_rfl
  have k1 : IntKind.i64.wrap 1 = 1 := by kernel_rfl
  cases now
  all_goals
    simp only [YoungS.cf, YoungS.of, if_true, if_false, Bool.false_eq_true] at *
    go_enter Tryz.func52, Tryz.ntmps52
    go_wp2
    refine wp_still (by kernel_rfl) (by kernel_rfl) fun w1 hw1 => ?_
    subst hw1
    repeat still_step
    refine wpStill_nil ?_
    go_wp2
    go_ret2
    exact ⟨rfl, Upd.drew hi⟩

set_option maxRecDepth 100000 in
set_option maxHeartbeats 1000000 in
theorem bump_drop (p : Nat) (y : YoungS) (w : World) (h : Hp) (hi : In w h) (hy : YoungH p y h) :
    Calls Tryz.prog 101 #[.pointer (some ⟨p, 0, none⟩)] w fun e w' => e = .returned (.bool y.dropOk) ∧ ∃ h', YoungH p y.drop h' ∧ Upd h h' w w' := by
  obtain ⟨c0, c1, c2, c3, c4, c5⟩ := young_cells hi hy
  have g1 := young_frozen hi hy 1
  have g3 := young_frozen hi hy 3
  have hy0 := hy
  have U0 := Upd.refl hi
  obtain ⟨hh, k1, k2, k3, k4, k5, k6, k7, k8, k9⟩ := hy
  rcases y with ⟨f0, u0, f1, u1, words, now⟩
  simp only at k1 k2 k3 k4 k5 k6 k7 k8 k9
  simp only [bit01] at *
  have k0 : IntKind.i64.wrap 0 = 0 := by kernel_rfl
  have k1 : IntKind.i64.wrap 1 = 1 := by kernel_rfl
  cases now
  · by_cases hz : u1 = 0
    · have e1 : (⟨f0, u0, f1, u1, words, false⟩ : YoungS).dropOk = false := by simp [YoungS.dropOk, YoungS.ou, hz]
      have e2 : (⟨f0, u0, f1, u1, words, false⟩ : YoungS).drop = ⟨f0, u0, f1, u1, words, false⟩ := by simp [YoungS.drop, hz]
      rw [e1, e2]
      have hq : (u1 == 0) = true := by simpa using hz
      clear e1 e2 hz
      simp only [if_true, if_false, Bool.false_eq_true] at c5
      go_enter Tryz.func101, Tryz.ntmps101
      go_wp2
      refine wp_still (by kernel_rfl) (by kernel_rfl) fun w1 hw1 => ?_
      subst hw1
      repeat still_step
      refine wpStill_nil ?_
      go_wp2
      go_ret
      exact ⟨rfl, h, hy0, U0.drew'⟩
    · have e1 : (⟨f0, u0, f1, u1, words, false⟩ : YoungS).dropOk = true := by simp [YoungS.dropOk, YoungS.ou, hz]
      have e2 : (⟨f0, u0, f1, u1, words, false⟩ : YoungS).drop = ⟨f0, u0, f1, 0, words, false⟩ := by simp [YoungS.drop]
      rw [e1, e2]
      have hq : (u1 == 0) = false := by simpa using hz
      have hfin : ∀ w1, Upd h h w w1 → ∃ h', YoungH p ⟨f0, u0, f1, 0, words, false⟩ h' ∧ Upd h h' w (w1.setCell ⟨p, 3, none⟩ (.int .i64 0)) := by
        intro w1 u1
        subst hh
        exact ⟨_, ⟨rfl, by refine ⟨?_, ?_, ?_, ?_, ?_, ?_, ?_, ?_, ?_⟩ <;> (simp only; omega)⟩, Upd.store' (l := []) u1 3 (.int .i64 0)⟩
      have HF := Lib.hid hfin
      clear e1 e2 hz hfin
      simp only [if_true, if_false, Bool.false_eq_true] at c5
      go_enter Tryz.func101, Tryz.ntmps101
      go_wp2
      refine wp_still (by kernel_rfl) (by kernel_rfl) fun w1 hw1 => ?_
      subst hw1
      repeat still_step
      refine wpStill_nil ?_
      go_wp2
      refine wp_tail 10 (by kernel_rfl) (by kernel_rfl) fun w1 hw1 => ?_
      subst hw1
      simp only [List.take_succ_cons, List.take_zero, List.drop_succ_cons, List.drop_zero]
      repeat still_step
      refine wpStill_nil ?_
      go_wp2
      go_ret
      exact ⟨rfl, HF.out _ U0.drew'.drew'⟩
  · by_cases hz : u0 = 0
    · have e1 : (⟨f0, u0, f1, u1, words, true⟩ : YoungS).dropOk = false := by simp [YoungS.dropOk, YoungS.ou, hz]
      have e2 : (⟨f0, u0, f1, u1, words, true⟩ : YoungS).drop = ⟨f0, u0, f1, u1, words, true⟩ := by simp [YoungS.drop, hz]
      rw [e1, e2]
      have hq : (u0 == 0) = true := by simpa using hz
      clear e1 e2 hz
      simp only [if_true, if_false, Bool.false_eq_true] at c5
      go_enter Tryz.func101, Tryz.ntmps101
      go_wp2
      refine wp_still (by kernel_rfl) (by kernel_rfl) fun w1 hw1 => ?_
      subst hw1
      repeat still_step
      refine wpStill_nil ?_
      go_wp2
      go_ret
      exact ⟨rfl, h, hy0, U0.drew'⟩
    · have e1 : (⟨f0, u0, f1, u1, words, true⟩ : YoungS).dropOk = true := by simp [YoungS.dropOk, YoungS.ou, hz]
      have e2 : (⟨f0, u0, f1, u1, words, true⟩ : YoungS).drop = ⟨f0, 0, f1, u1, words, true⟩ := by simp [YoungS.drop]
      rw [e1, e2]
      have hq : (u0 == 0) = false := by simpa using hz
      have hfin : ∀ w1, Upd h h w w1 → ∃ h', YoungH p ⟨f0, 0, f1, u1, words, true⟩ h' ∧ Upd h h' w (w1.setCell ⟨p, 1, none⟩ (.int .i64 0)) := by
        intro w1 u1
        subst hh
        exact ⟨_, ⟨rfl, by refine ⟨?_, ?_, ?_, ?_, ?_, ?_, ?_, ?_, ?_⟩ <;> (simp only; omega)⟩, Upd.store' (l := []) u1 1 (.int .i64 0)⟩
      have HF := Lib.hid hfin
      clear e1 e2 hz hfin
      simp only [if_true, if_false, Bool.false_eq_true] at c5
      go_enter Tryz.func101, Tryz.ntmps101
      go_wp2
      refine wp_still (by kernel_rfl) (by kernel_rfl) fun w1 hw1 => ?_
      subst hw1
      repeat still_step
      refine wpStill_nil ?_
      go_wp2
      refine wp_tail 10 (by kernel_rfl) (by kernel_rfl) fun w1 hw1 => ?_
      subst hw1
      simp only [List.take_succ_cons, List.take_zero, List.drop_succ_cons, List.drop_zero]
      repeat still_step
      refine wpStill_nil ?_
      go_wp2
      go_ret
      exact ⟨rfl, HF.out _ U0.drew'.drew'⟩

/-- the first number of a list from k on where it says yes -/
def firstT : List Bool → Nat → Option Nat
  | [], _ => none
  | b :: l, k => if b then some k else firstT l (k + 1)
def CardS.first (s : CardS) : Option Nat := firstT s.marks 0
def CardS.clr (s : CardS) (n : Nat) : CardS := { s with marks := s.marks.set n false }
def optI (o : Option Nat) : Int := match o with | some n => n | none => 0

theorem firstT_drop (l : List Bool) (k : Nat) (h : k < l.length) : firstT (l.drop k) k = if l.getD k false then some k else firstT (l.drop (k + 1)) (k + 1) := by
  rw [List.drop_eq_getElem_cons h]
  simp [firstT, List.getD, h]
theorem firstT_lt : ∀ (l : List Bool) (k n : Nat), firstT l k = some n → k ≤ n ∧ n < k + l.length
  | [], _, _, h => by cases h
  | b :: l, k, n, h => by
    unfold firstT at h
    split at h
    · cases h
      simp
    · have := firstT_lt l (k + 1) n h
      simp
      omega

set_option maxRecDepth 100000 in
set_option maxHeartbeats 1000000 in
theorem card_first (p : Nat) (s : CardS) (w : World) (h : Hp) (hi : In w h) (hg : CardH p s h) :
    Calls Tryz.prog 93 #[.pointer (some ⟨p, 0, none⟩), .int .i64 0] w fun e w' => e = .returned (.tuple #[.int .i64 (optI s.first), .bool s.first.isSome]) ∧ w' = w := by
  obtain ⟨b, rfl, hwf⟩ := hg
  have hle := many_le hwf
  have e3 : w.cell? ⟨p, 3, none⟩ = some (.slice (some ⟨b, 0, none⟩) s.marks.length s.marks.length) := cell_of hi.head 3
  have hc : ∀ k, k < s.marks.length → w.cell? ⟨b, k, none⟩ = some (.bool (s.marks.getD k false)) := by
    intro k hk
    rw [cell_of hi.tail.head k]
    simp [List.getD, hk]
  have HC := Lib.hid hc
  obtain ⟨R, hR⟩ : ∃ R, R = s.first := ⟨_, rfl⟩
  rw [← hR]
  have HR := Lib.hid hR
  clear hc hwf hR
  go_enter Tryz.func93, Tryz.ntmps93
  go_wp2
  go_loop [6] (fun i => ∃ k : Nat, k ≤ s.marks.length ∧ i = .int .i64 k ∧ Hid (R = firstT (s.marks.drop k) k)) (fun i => s.marks.length - (intOf i).toNat)
  case atStart => exact ⟨0, by omega, rfl, HR⟩
  case round =>
    obtain ⟨k, hk, rfl, HK⟩ := hrel
    by_cases hlt : k < s.marks.length
    · have h1 := HC.out k hlt
      have h2 := firstT_drop s.marks k hlt
      cases hb : s.marks.getD k false
      · rw [hb] at h1 h2
        have H2 := Lib.hid (HK.out.trans h2)
        clear h2 hb HK
        go_wp2
        go_round
        case rel => exact ⟨k + 1, by omega, by go_num, Lib.hid H2.out⟩
        case measure => simp [intOf]; omega
      · rw [hb] at h1 h2
        have H2 : Hid (R = some k) := Lib.hid (HK.out.trans h2)
        clear h2 hb HK
        go_wp2
        go_ret2
        rw [H2.out]
        exact ⟨rfl, rfl⟩
    · have H2 : Hid (R = none) := Lib.hid (HK.out.trans (by rw [List.drop_of_length_le (by omega)]; rfl))
      clear HK
      go_wp2
      go_ret2
      rw [H2.out]
      exact ⟨rfl, rfl⟩

end Go.Proofs.YtjjdjipohifgbaaGreat

/- What Take of package buf, Clear and Part of package card, and Pop, Lost, Found, All and Put of package grey come to. Conditions: things as New makes them. -/
namespace Go.Proofs.YtjjdjipohifgbaaGreat
open Go.RowKit

/-- a slice whose first element is cut off -/
theorem SliceH.rest {T : TypeId} {v : Value} {n : Nat} {x : Value} {xs : List Value} {h : Hp} (hs : SliceH T 1 v (n + 1) (x :: xs) h) :
    ∃ g off cap, v = .slice (some ⟨g, off, none⟩) (n + 1) cap ∧ n + 1 ≤ cap ∧ SliceH T 1 (.slice (some ⟨g, if 1 = cap then off else off + 1, none⟩) n (cap - 1)) n xs h := by
  obtain ⟨hl, hs⟩ := hs
  rcases hs with ⟨_, h0, _⟩ | ⟨g, pre, post, cap, rfl, rfl, h1, h2, h3⟩
  · cases h0
  · refine ⟨g, pre.length, cap, rfl, h1, ?_⟩
    simp at hl h2
    refine ⟨by omega, .inr ?_⟩
    by_cases hc : 1 = cap
    · rw [if_pos hc]
      obtain rfl : n = 0 := by omega
      obtain rfl : xs = [] := List.eq_nil_of_length_eq_zero (by omega)
      exact ⟨g, pre, x :: post, cap - 1, rfl, by simp, by omega, by simp; omega, by omega⟩
    · rw [if_neg hc]
      exact ⟨g, pre ++ [x], post, cap - 1, by simp, by simp, by omega, by omega, by omega⟩

def BufS.takeAt (s : BufS) : Int := s.list.headD 0
def BufS.takeOk (s : BufS) : Bool := !s.list.isEmpty
def BufS.rest (s : BufS) : BufS := { s with list := s.list.tail }

set_option maxRecDepth 100000 in
set_option maxHeartbeats 1000000 in
theorem buf_take (p : Nat) (s : BufS) (w : World) (h : Hp) (hi : In w h) (hg : BufH p s h) :
    Calls Tryz.prog 92 #[.pointer (some ⟨p, 0, none⟩)] w fun e w' => e = .returned (.tuple #[.int .i64 s.takeAt, .bool s.takeOk]) ∧ ∃ h', BufH p s.rest h' ∧ Upd h h' w w' := by
  have hg0 := hg
  obtain ⟨v, hs, rfl, hS, w1, w2, w3, w4⟩ := hg
  obtain ⟨most, list⟩ := s
  cases list with
  | nil =>
    obtain ⟨ao, cap, rfl, hcap⟩ := hS.shape
    have e1 : w.cell? ⟨p, 1, none⟩ = some (.slice ao 0 cap) := cell_of hi.head 1
    have hh : BufS.rest ⟨most, []⟩ = ⟨most, []⟩ := rfl
    rw [hh]
    have U0 := (Upd.refl hi)
    clear hh hS
    go_enter Tryz.func92, Tryz.ntmps92
    go_wp2
    go_ret2
    exact ⟨rfl, _, hg0, U0⟩
  | cons x xs =>
    obtain ⟨g, off, cap, rfl, hcap, hR⟩ := SliceH.rest (n := xs.length) (x := .int .i64 x) (xs := ints xs) hS
    have hx : w.cell? ⟨g, off, none⟩ = some (.int .i64 x) := by have := hS.cell hi.tail rfl (j := 0) (by simp); simpa using this
    have hb : w.heap[p]? = some (bufObj ⟨most, x :: xs⟩ (.slice (some ⟨g, off, none⟩) (xs.length + 1) cap)) := hi.head
    have e1 : w.cell? ⟨p, 1, none⟩ = some (.slice (some ⟨g, off, none⟩) (xs.length + 1) cap) := cell_of hb 1
    have f1 : w.frozen? ⟨p, 1, none⟩ = false := frozen_of hb 1
    have hlen : xs.length + 1 ≤ 1048576 := by simp only [List.length_cons] at w3 w2; omega
    have U0 := (Upd.refl hi)
    have hfin : ∀ w1 off', SliceH 3 1 (.slice (some ⟨g, off', none⟩) xs.length (cap - 1)) xs.length (ints xs) hs → Upd ((p, bufObj ⟨most, x :: xs⟩ (.slice (some ⟨g, off, none⟩) (xs.length + 1) cap)) :: hs) ((p, bufObj ⟨most, x :: xs⟩ (.slice (some ⟨g, off, none⟩) (xs.length + 1) cap)) :: hs) w w1 →
        ∃ h', BufH p (BufS.rest ⟨most, x :: xs⟩) h' ∧ Upd ((p, bufObj ⟨most, x :: xs⟩ (.slice (some ⟨g, off, none⟩) (xs.length + 1) cap)) :: hs) h' w (w1.setCell ⟨p, 1, none⟩ (.slice (some ⟨g, off', none⟩) xs.length (cap - 1))) := by
      intro w1 off' hR u1
      refine ⟨_, ⟨_, hs, rfl, hR, by assumption, w2, ?_, fun y hy => w4 y (List.mem_cons_of_mem _ hy)⟩, u1.store1 1 _⟩
      show ((xs.length : Nat) : Int) ≤ most
      simp at w3
      omega
    have HF := Lib.hid hfin
    clear hfin hS w1 w2 w3 w4 hb hg0
    by_cases hc : 1 = cap
    · rw [if_pos hc] at hR
      subst hc
      obtain rfl : xs = [] := List.eq_nil_of_length_eq_zero (by omega)
      have HR := Lib.hid hR
      clear hR
      simp only [List.length_nil, Nat.zero_add] at *
      go_enter Tryz.func92, Tryz.ntmps92
      go_wp2
      go_ret2
      exact ⟨rfl, HF.out _ off HR.out U0⟩
    · rw [if_neg hc] at hR
      have HR := Lib.hid hR
      clear hR
      go_enter Tryz.func92, Tryz.ntmps92
      go_wp2
      go_ret2
      exact ⟨rfl, HF.out _ (off + 1) HR.out U0⟩

set_option maxRecDepth 100000 in
set_option maxHeartbeats 1000000 in
theorem card_clear (p : Nat) (s : CardS) (n : Nat) (w : World) (h : Hp) (hi : In w h) (hg : CardH p s h) (hn : s.first = some n) :
    Calls Tryz.prog 94 #[.pointer (some ⟨p, 0, none⟩), .int .i64 n] w fun e w' => e = .returned (.bool true) ∧ ∃ h', CardH p (s.clr n) h' ∧ Upd h h' w w' := by
  have hb := firstT_lt _ _ _ hn
  have hyes : s.marks.getD n false = true := by
    have key : ∀ (l : List Bool) (k n : Nat), firstT l k = some n → l.getD (n - k) false = true := by
      intro l
      induction l with
      | nil => intro k n h; cases h
      | cons b l ih =>
        intro k n h
        have hl := firstT_lt _ _ _ h
        unfold firstT at h
        split at h
        · rename_i hb
          cases h
          simp [hb]
        · have := ih _ _ h
          have hl2 := firstT_lt _ _ _ h
          rw [show n - k = (n - (k + 1)) + 1 by omega]
          simpa [List.getD] using this
    simpa using key _ _ _ hn
  obtain ⟨b, rfl, hwf⟩ := hg
  have hle := many_le hwf
  have e3 : w.cell? ⟨p, 3, none⟩ = some (.slice (some ⟨b, 0, none⟩) s.marks.length s.marks.length) := cell_of hi.head 3
  have hnl : n < s.marks.length := by omega
  have hc : w.cell? ⟨b, n, none⟩ = some (.bool true) := by
    rw [cell_of hi.tail.head n, ← hyes]
    simp [List.getD, hnl]
  have hf : w.frozen? ⟨b, n, none⟩ = false := frozen_of hi.tail.head n
  have hs : (bools s.marks).toArray.setIfInBounds n (.bool false) = (bools (s.marks.set n false)).toArray := by simp [bools, List.map_set]
  obtain ⟨U0⟩ : Nonempty (Upd [(p, .cells #[.int .i64 s.base, .int .i64 s.words, .int .i64 s.card, .slice (some ⟨b, 0, none⟩) s.marks.length s.marks.length] 159 (0, 0)), (b, .cells (bools s.marks).toArray 4 (0, 0))] [(p, .cells #[.int .i64 s.base, .int .i64 s.words, .int .i64 s.card, .slice (some ⟨b, 0, none⟩) s.marks.length s.marks.length] 159 (0, 0)), (b, .cells (bools s.marks).toArray 4 (0, 0))] w w) := ⟨Upd.refl hi⟩
  have hwf2 : (s.clr n).WF := by
    obtain ⟨a1, a2, a3, a4, a5, a6, a7⟩ := hwf
    exact ⟨a1, a2, a3, a4, a5, a6, by show ((s.marks.set n false).length : Int) = _; rw [List.length_set]; exact a7⟩
  have HS := Lib.hid hs
  clear hs hyes hwf hb hn
  go_enter Tryz.func94, Tryz.ntmps94
  go_wp2
  go_ret
  refine ⟨rfl, _, ⟨b, ?_, hwf2⟩, Upd.store' (l := [(p, _)]) (r := []) U0 n (.bool false)⟩
  rw [HS.out]
  simp [CardS.clr]

def CardS.partLo (s : CardS) (n : Nat) : Int := s.base + n * s.card
def CardS.partHi (s : CardS) (n : Nat) : Int := s.base + min ((n + 1) * s.card) s.words


theorem part_bounds {s : CardS} (hw : s.WF) {n : Nat} (hn : n < s.marks.length) : 0 ≤ (n : Int) * s.card ∧ (n : Int) * s.card ≤ 1048576 ∧ 0 ≤ ((n : Int) + 1) * s.card ∧ ((n : Int) + 1) * s.card ≤ 2097152 := by
  obtain ⟨a1, a2, a3, a4, a5, a6, a7⟩ := hw
  have e1 : ((n : Int) + 1) * s.card = n * s.card + s.card := by rw [Int.add_mul]; omega
  have h0 : 0 ≤ (n : Int) * s.card := Int.mul_nonneg (by omega) (by omega)
  have hle : (n : Int) * s.card ≤ s.words := by
    have hlt : (n : Int) < CardS.many s.words s.card := by omega
    unfold CardS.many at hlt
    have : (n : Int) ≤ s.words / s.card := by omega
    exact Int.le_trans (Int.mul_le_mul_of_nonneg_right this (by omega)) (Int.ediv_mul_le _ (by omega))
  omega

set_option maxRecDepth 100000 in
set_option maxHeartbeats 1000000 in
theorem card_part (p : Nat) (s : CardS) (n : Nat) (w : World) (h : Hp) (hi : In w h) (hg : CardH p s h) (hn : n < s.marks.length) :
    Calls Tryz.prog 95 #[.pointer (some ⟨p, 0, none⟩), .int .i64 n] w fun e w' => e = .returned (.tuple #[.int .i64 (s.partLo n), .int .i64 (s.partHi n)]) ∧ Upd h h w w' := by
  have hcd := hg
  obtain ⟨b, hh, hwf⟩ := hg
  have hle := many_le hwf
  obtain ⟨k1, k2, k3, k4⟩ := part_bounds hwf hn
  have e0 : w.cell? ⟨p, 0, none⟩ = some (.int .i64 s.base) := by rw [hh] at hi; exact cell_of hi.head 0
  have e1 : w.cell? ⟨p, 1, none⟩ = some (.int .i64 s.words) := by rw [hh] at hi; exact cell_of hi.head 1
  have e2 : w.cell? ⟨p, 2, none⟩ = some (.int .i64 s.card) := by rw [hh] at hi; exact cell_of hi.head 2
  have e3 : w.cell? ⟨p, 3, none⟩ = some (.slice (some ⟨b, 0, none⟩) s.marks.length s.marks.length) := by rw [hh] at hi; exact cell_of hi.head 3
  obtain ⟨a1, a2, a3, a4, a5, a6, a7⟩ := hwf
  have U0 := Upd.refl hi
  have m1 : IntKind.i64.wrap ((n : Int) * s.card) = (n : Int) * s.card := IntWalk.i64_in _ (by omega)
  have m2 : IntKind.i64.wrap ((n : Int) + 1) = (n : Int) + 1 := IntWalk.i64_in _ (by omega)
  have m3 : IntKind.i64.wrap (((n : Int) + 1) * s.card) = ((n : Int) + 1) * s.card := IntWalk.i64_in _ (by omega)
  have m4 : IntKind.i64.wrap (s.base + (n : Int) * s.card) = s.base + (n : Int) * s.card := IntWalk.i64_in _ (by omega)
  have hlo : s.partLo n = s.base + (n : Int) * s.card := rfl
  have hhi : s.partHi n = s.base + min (((n : Int) + 1) * s.card) s.words := rfl
  rw [hlo, hhi]
  have hn0 : decide ((n : Int) < 0) = false := decide_eq_false (by omega)
  have hn1 : decide ((s.marks.length : Int) ≤ (n : Int)) = false := decide_eq_false (by omega)
  have hn2 : decide (s.marks.length ≤ n) = false := decide_eq_false (by omega)
  clear hh hlo hhi a7 hcd
  generalize hA : (n : Int) * s.card = A at *
  generalize hB : ((n : Int) + 1) * s.card = B at *
  by_cases hc : B ≤ s.words
  · rw [show min B s.words = B by omega]
    have m5 : IntKind.i64.wrap (s.base + B) = s.base + B := IntWalk.i64_in _ (by omega)
    go_enter Tryz.func95, Tryz.ntmps95
    go_wp2
    go_quiet (fail)
    go_wp2
    go_ret2
    exact ⟨rfl, U0.drewN' nq⟩
  · rw [show min B s.words = s.words by omega]
    have m5 : IntKind.i64.wrap (s.base + s.words) = s.base + s.words := IntWalk.i64_in _ (by omega)
    go_enter Tryz.func95, Tryz.ntmps95
    go_wp2
    go_quiet (fail)
    go_wp2
    go_ret2
    exact ⟨rfl, U0.drewN' nq⟩

theorem grey_all (p : Nat) (s : GreyS) (w : World) (h : Hp) (hi : In w h) (hg : GreyH p s h) :
    Calls Tryz.prog 99 #[.pointer (some ⟨p, 0, none⟩)] w fun e w' => ∃ v h', e = .returned v ∧ SliceH 3 1 v s.list.length (ints s.list) h' ∧ Upd [] h' w w' := by
  obtain ⟨v, hs, rfl, hS, w1, w2, w3, w4⟩ := hg
  have e1 : w.cell? ⟨p, 1, none⟩ = some v := cell_of hi.head 1
  have hc := slices_clone _ s.list.length s.list w _ hi.tail hS (by omega)
  go_enter Tryz.func99, Tryz.ntmps99
  go_wp2_with (first | (go_at_call 66; refine Calls.mono hc ?_; rintro e w1 ⟨v1, h1, rfl, s1, u1⟩) | (go_at_call 65; refine Calls.mono (slices_clip _ _ _ _ _ s1 (by omega)) ?_; rintro e w2 ⟨v2, rfl, s2, rfl⟩))
  go_ret
  exact ⟨v2, h1, rfl, s2, u1⟩

def GreyS.put (s : GreyS) (l : List Int) : GreyS := l.foldl GreyS.push { s with list := [] }

theorem Upd.onRight {w0 w w' : World} {h0 k h h' : Hp} (a : Upd h0 (k ++ h) w0 w) (u : Upd h h' w w') : Upd h0 (k ++ h') w0 w' := by
  have hi : In w (h ++ k) := a.inn.perm List.perm_append_comm
  exact a.trans ((u.beside hi).perm List.perm_append_comm List.perm_append_comm)

set_option maxRecDepth 100000 in
set_option maxHeartbeats 1000000 in
theorem grey_put (p : Nat) (s : GreyS) (v : Value) (n : Nat) (l : List Int) (w : World) (h k : Hp) (hi : In w (k ++ h)) (hg : GreyH p s h) (hv : SliceH 3 1 v n (ints l) k) (hx : ∀ x ∈ l, I64 x) (hn : n ≤ 1048576) :
    Calls Tryz.prog 100 #[.pointer (some ⟨p, 0, none⟩), v] w fun e w' => e = .returned (.tuple #[]) ∧ ∃ h', GreyH p (s.put l) h' ∧ Upd (k ++ h) (k ++ h') w w' := by
  have hlen : l.length = n := by have := hv.1; simp at this; omega
  obtain ⟨v0, hs, rfl, hS, w1, w2, w3, w4⟩ := hg
  obtain ⟨ao, cap, rfl, hcap⟩ := hv.shape
  have f1 : w.frozen? ⟨p, 1, none⟩ = false := frozen_of hi.right.head 1
  have e1 : w.cell? ⟨p, 1, none⟩ = some v0 := cell_of hi.right.head 1
  have U1 : Upd (k ++ (p, greyObj s v0) :: hs) (k ++ [(p, greyObj { s with list := [] } (.slice none 0 0))]) w (w.setCell ⟨p, 1, none⟩ (.slice none 0 0)) :=
    (Upd.store' (l := k) (r := hs) (Upd.refl hi) 1 (.slice none 0 0)).forget (List.Sublist.append_left (List.cons_sublist_cons.2 (List.nil_sublist _)) k)
  have G1 : GreyH p { s with list := [] } [(p, greyObj { s with list := [] } (.slice none 0 0))] := ⟨_, [], rfl, SliceH.nil _ _, w1, w2, by simp only [List.length_nil]; omega, by simp⟩
  have HP := Lib.hid (fun s' x W h' (hW : In W h') (g : GreyH p s' h') (hx : I64 x) => grey_push p s' x W h' hW g hx)
  have HX := Lib.hid hx
  have HV := Lib.hid hv
  have HL := Lib.hid hlen
  have H1 : Hid (∃ hk, GreyH p ((l.take 0).foldl GreyS.push { s with list := [] }) hk ∧ Upd (k ++ (p, greyObj s v0) :: hs) (k ++ hk) w (w.setCell ⟨p, 1, none⟩ (.slice none 0 0))) := Lib.hid ⟨_, G1, U1⟩
  clear hx hv hlen U1 G1 hS w4 w3
  go_enter Tryz.func100, Tryz.ntmps100
  go_wp2
  go_loopw [13] (fun i wr => ∃ j : Nat, j ≤ n ∧ i = .int .i64 j ∧ Hid (∃ hk, GreyH p ((l.take j).foldl GreyS.push { s with list := [] }) hk ∧ Upd (k ++ (p, greyObj s v0) :: hs) (k ++ hk) w wr)) (fun i _ => n - (intOf i).toNat)
  case atStart => exact ⟨0, by omega, rfl, H1⟩
  case round =>
    obtain ⟨j, hj, rfl, HJ⟩ := hrel
    by_cases hlt : j < n
    · obtain ⟨hk, G, U⟩ := HJ.out
      obtain ⟨g, off, rfl, hc⟩ := SliceH.intAt (kd := .i64) HV.out U.inn.left hlt
      have hjl : j < l.length := by have := HL.out; omega
      have hxj : I64 (l.getD j 0) := HX.out _ (by simp [List.getD, hjl])
      have hnext : (l.take (j + 1)).foldl GreyS.push { s with list := [] } = ((l.take j).foldl GreyS.push { s with list := [] }).push (l.getD j 0) := by
        rw [List.take_succ_eq_append_getElem hjl, List.foldl_append]
        simp [List.getD, hjl]
      have HN := Lib.hid hnext
      have HU := Lib.hid U
      have HG := Lib.hid G
      clear hnext HJ U G
      generalize l.getD j 0 = xj at *
      go_wp2_with (go_at_call 108; refine Calls.mono (HP.out _ _ _ _ HU.out.inn.right HG.out hxj) ?_; rintro e w9 ⟨rfl, h9, g9, u9⟩; have U9 := Lib.hid (Upd.onRight HU.out u9); have G9 := Lib.hid g9; clear u9 g9)
      go_roundw
      case rel => exact ⟨j + 1, by omega, by go_num, Lib.hid ⟨h9, by rw [HN.out]; exact G9.out, U9.out⟩⟩
      case measure => simp [intOf]; omega
    · go_wp2
      go_end0
      obtain ⟨hk, G, U⟩ := HJ.out
      rw [List.take_of_length_le (by have := HL.out; omega)] at G
      exact ⟨rfl, hk, G, U⟩

def RemS.left (s : RemS) : Int := s.tb.list.length + countT s.tc.marks
def RemS.flip (s : RemS) : RemS := { s with nb := ⟨s.most, []⟩, nc := cardNew s.base s.words s.size, tb := s.nb, tc := s.nc }

set_option maxRecDepth 100000 in
set_option maxHeartbeats 1000000 in
theorem rem_left (p : Nat) (s : RemS) (w : World) (h : Hp) (hi : In w h) (hr : RemH p s h) :
    Calls Tryz.prog 88 #[.pointer (some ⟨p, 0, none⟩)] w fun e w' => e = .returned (.int .i64 s.left) ∧ Upd h h w w' := by
  have U0 := Upd.refl hi
  obtain ⟨q, h1, h2, h3, h4, rfl, y1, y2, y3, y4, hwf⟩ := hr
  have hb := (hi.part (i := 0) rfl).head
  have e3 : w.cell? ⟨p, 5, none⟩ = some (.pointer (some ⟨q.tb, 0, none⟩)) := cell_of hb 5
  have e4 : w.cell? ⟨p, 6, none⟩ = some (.pointer (some ⟨q.tc, 0, none⟩)) := cell_of hb 6
  have hbl := fun n => buf_len q.tb s.tb (w.drewN n) h3 ((hi.part (i := 3) rfl).drewN n) y3
  have hcc := fun n => card_count q.tc s.tc (w.drewN n) h4 ((hi.part (i := 4) rfl).drewN n) y4
  have l1 : s.tb.list.length ≤ 1048576 := by obtain ⟨v, hs, _, _, _, k2, k3, _⟩ := y3; omega
  have l2 : countT s.tc.marks ≤ 1048576 := by
    obtain ⟨b, _, hw⟩ := y4
    have := many_le hw
    have := countT_le s.tc.marks
    omega
  have hw : IntKind.i64.wrap ((s.tb.list.length : Int) + countT s.tc.marks) = (s.tb.list.length : Int) + countT s.tc.marks := IntWalk.i64_in _ (by omega)
  have HB := Lib.hid hbl
  have HC := Lib.hid hcc
  have HU := Lib.hid U0
  clear hb hbl hcc y1 y2 y3 y4 hwf U0
  go_enter Tryz.func88, Tryz.ntmps88
  go_wp2
  go_quiet ((first | (go_at_call 109; exact Calls.quiet_of_same (HB.out _)) | (go_at_call 110; exact Calls.quiet_of_same (HC.out _))))
  go_wp2
  go_ret
  exact ⟨rfl, HU.out.drewN' nq⟩

theorem Upd.kc {w w' : World} {h' : Hp} (u : Upd [] h' w w') {b i : Nat} {v : Value} (hc : w.cell? ⟨b, i, none⟩ = some v) : w'.cell? ⟨b, i, none⟩ = some v :=
  (u.below.cell (p := ⟨b, i, none⟩) (World.block_lt_of_cell? _ _ hc)).trans hc
theorem Upd.kf {w w' : World} {h' : Hp} (u : Upd [] h' w w') {b i : Nat} {v : Value} (hc : w.cell? ⟨b, i, none⟩ = some v) (hf : w.frozen? ⟨b, i, none⟩ = false) : w'.frozen? ⟨b, i, none⟩ = false :=
  (u.below.frozen (p := ⟨b, i, none⟩) (World.block_lt_of_cell? _ _ hc)).trans hf

theorem perm_flip {α : Type} (x a b d e : List α) : ((e ++ d) ++ (x ++ (a ++ b))).Perm (x ++ (d ++ (e ++ (a ++ b)))) := by
  have h1 : ((e ++ d) ++ (x ++ (a ++ b))).Perm (x ++ ((e ++ d) ++ (a ++ b))) := by
    rw [← List.append_assoc, ← List.append_assoc x]
    exact List.perm_append_comm.append_right _
  refine h1.trans (List.Perm.append_left x ?_)
  rw [← List.append_assoc d]
  exact List.perm_append_comm.append_right _

set_option maxRecDepth 100000 in
set_option maxHeartbeats 2000000 in
theorem rem_flip (p : Nat) (s : RemS) (w : World) (h : Hp) (hi : In w h) (hr : RemH p s h) (h0 : s.left = 0) :
    Calls Tryz.prog 51 #[.pointer (some ⟨p, 0, none⟩)] w fun e w' => e = .returned (.bool true) ∧ ∃ h', RemH p s.flip h' ∧ Upd h h' w w' := by
  have hleft := rem_left p s w h hi hr
  rw [h0] at hleft
  obtain ⟨q, h1, h2, h3, h4, hh, y1, y2, y3, y4, hwf⟩ := hr
  have HF : Hid (∀ w1, Upd h h w w1 → w1.cell? ⟨p, 2, none⟩ = some (sideFn q) ∧ w1.cell? ⟨p, 3, none⟩ = some (ptr q.nb) ∧ w1.cell? ⟨p, 4, none⟩ = some (ptr q.nc) ∧ In w1 (remBoxes q s) ∧ (∀ i, w1.frozen? ⟨p, i, none⟩ = false) ∧ (∃ v5, w1.cell? ⟨p, 5, none⟩ = some v5) ∧ (∃ v6, w1.cell? ⟨p, 6, none⟩ = some v6)) := Lib.hid (by
    intro w1 u
    have hu := u.inn
    rw [hh] at hu
    have hb := (hu.part (i := 0) rfl).head
    exact ⟨cell_of hb 2, cell_of hb 3, cell_of hb 4, (hu.part (i := 0) rfl).tail, fun i => frozen_of hb i, ⟨_, cell_of hb 5⟩, ⟨_, cell_of hb 6⟩⟩)
  have HS := Lib.hid (fun W hW => rem_side q s W hW hwf)
  clear h0
  simp only [ptr, sideFn] at *
  go_enter Tryz.func51, Tryz.ntmps51
  go_wp2_with (go_at_call 88; refine Calls.mono hleft ?_; rintro e w1 ⟨rfl, u1⟩; obtain ⟨c2, c3, c4, hbx, hf, ⟨v5, c5⟩, ⟨v6, c6⟩⟩ := HF.out _ u1; have f3 := hf 3; have f4 := hf 4; have f5 := hf 5; have f6 := hf 6; clear hf; have hbd := hbx.drew)
  go_region_with (go_at_call 79; refine Calls.mono (HS.out _ hbd) ?_; rintro e w2 ⟨b, c, k1, k2, rfl, z1, z2, u2⟩; have d3 := u2.kc c3; have d4 := u2.kc c4; have d5 := u2.kc c5; have d6 := u2.kc c6; have g3 := u2.kf c3 f3; have g4 := u2.kf c4 f4; have g5 := u2.kf c5 f5; have g6 := u2.kf c6 f6)
  all_goals
    go_wp2
    go_ret
    have U2 := (u1.drew').more u2
    have e : h = (p, remObj q s) :: (remBoxes q s ++ (h1 ++ (h2 ++ (h3 ++ h4)))) := by rw [hh]; simp
    clear hh
    subst e
    have U3 := ((((Upd.store' (l := k2 ++ k1) (arr := #[.int .i64 s.base, .int .i64 s.words, sideFn q, ptr q.nb, ptr q.nc, ptr q.tb, ptr q.tc]) U2 3 (ptr b)).store' (l := k2 ++ k1) 4 (ptr c)).store' (l := k2 ++ k1) 5 (ptr q.nb)).store' (l := k2 ++ k1) 6 (ptr q.nc))
    have U4 := U3.forget (k := (k2 ++ k1) ++ (((p, remObj { q with nb := b, nc := c, tb := q.nb, tc := q.nc } s.flip) :: remBoxes q s) ++ (h1 ++ h2))) (List.Sublist.append_left (List.Sublist.cons_cons _ (List.Sublist.append_left (List.Sublist.append_left (List.sublist_append_left _ _) _) _)) _)
    exact ⟨rfl, _, ⟨{ q with nb := b, nc := c, tb := q.nb, tc := q.nc }, k1, k2, h1, h2, rfl, z1, z2, y1, y2, hwf⟩, U4.perm (List.Perm.refl _) ((perm_flip _ _ _ _ _).trans (by simp [remBoxes, RemS.flip]))⟩

theorem rem_flip_no (p : Nat) (s : RemS) (w : World) (h : Hp) (hi : In w h) (hr : RemH p s h) (h0 : 0 < s.left) :
    Calls Tryz.prog 51 #[.pointer (some ⟨p, 0, none⟩)] w fun e w' => e = .returned (.bool false) ∧ Upd h h w w' := by
  have hleft := rem_left p s w h hi hr
  generalize s.left = n at *
  go_enter Tryz.func51, Tryz.ntmps51
  go_wp2_with (go_at_call 88; refine Calls.mono hleft ?_; rintro e w1 ⟨rfl, u1⟩)
  go_ret
  exact ⟨rfl, u1⟩

set_option maxRecDepth 100000 in
set_option maxHeartbeats 1000000 in
theorem rem_next_buf (p : Nat) (s : RemS) (w : World) (h : Hp) (hi : In w h) (hr : RemH p s h) (x : Int) (xs : List Int) (ht : s.tb.list = x :: xs) :
    Calls Tryz.prog 55 #[.pointer (some ⟨p, 0, none⟩)] w fun e w' => e = .returned (.tuple #[.int .i64 x, .int .i64 (wrap64 (x + 1)), .bool false, .bool true]) ∧ ∃ h', RemH p { s with tb := s.tb.rest } h' ∧ Upd h h' w w' := by
  obtain ⟨q, h1, h2, h3, h4, rfl, y1, y2, y3, y4, hwf⟩ := hr
  have U0 := Upd.refl hi
  have e5 : w.cell? ⟨p, 5, none⟩ = some (.pointer (some ⟨q.tb, 0, none⟩)) := cell_of (hi.part (i := 0) rfl).head 5
  have htake := buf_take q.tb s.tb w h3 (hi.part (i := 3) rfl) y3
  have ha : s.tb.takeAt = x := by simp [BufS.takeAt, ht]
  have hb : s.tb.takeOk = true := by simp [BufS.takeOk, ht]
  rw [ha, hb] at htake
  clear ha hb ht
  go_enter Tryz.func55, Tryz.ntmps55
  go_wp2_with (first
    | (go_at_call 92; refine Calls.mono htake ?_; rintro e w1 ⟨rfl, k3, z3, u1⟩; have U1 := U0.then_part (i := 3) rfl u1; have e6 : w1.cell? ⟨p, 6, none⟩ = some (.pointer (some ⟨q.tc, 0, none⟩)) := cell_of (U1.inn.part (i := 0) rfl).head 6; have HU1 := Lib.hid U1; clear htake))
  exact bodyPost_ret (v := .tuple #[.int .i64 x, .int .i64 (wrap64 (x + 1)), .bool false, .bool true]) (by simp [results, Tryz.results55, go_sem]) rfl ⟨rfl, _, ⟨q, h1, h2, k3, h4, rfl, y1, y2, z3, y4, hwf⟩, HU1.out⟩

set_option maxRecDepth 100000 in
set_option maxHeartbeats 1000000 in
theorem rem_next_none (p : Nat) (s : RemS) (w : World) (h : Hp) (hi : In w h) (hr : RemH p s h) (ht : s.tb.list = []) (hc : s.tc.first = none) :
    Calls Tryz.prog 55 #[.pointer (some ⟨p, 0, none⟩)] w fun e w' => e = .returned (.tuple #[.int .i64 0, .int .i64 0, .bool false, .bool false]) ∧ ∃ h', RemH p { s with tb := s.tb.rest } h' ∧ Upd h h' w w' := by
  obtain ⟨q, h1, h2, h3, h4, rfl, y1, y2, y3, y4, hwf⟩ := hr
  have U0 := Upd.refl hi
  have e5 : w.cell? ⟨p, 5, none⟩ = some (.pointer (some ⟨q.tb, 0, none⟩)) := cell_of (hi.part (i := 0) rfl).head 5
  have htake := buf_take q.tb s.tb w h3 (hi.part (i := 3) rfl) y3
  have ha : s.tb.takeAt = 0 := by simp [BufS.takeAt, ht]
  have hb : s.tb.takeOk = false := by simp [BufS.takeOk, ht]
  rw [ha, hb] at htake
  clear ha hb ht
  have hf := fun W (hW : In W h4) => card_first q.tc s.tc W h4 hW y4
  rw [hc] at hf
  simp only [optI, Option.isSome_none] at hf
  clear hc
  go_enter Tryz.func55, Tryz.ntmps55
  go_wp2_with (first
    | (go_at_call 92; refine Calls.mono htake ?_; rintro e w1 ⟨rfl, k3, z3, u1⟩; have U1 := U0.then_part (i := 3) rfl u1; have e6 : w1.cell? ⟨p, 6, none⟩ = some (.pointer (some ⟨q.tc, 0, none⟩)) := cell_of (U1.inn.part (i := 0) rfl).head 6; have HU1 := Lib.hid U1; clear htake)
    | (go_at_call 93; refine Calls.mono (hf _ (HU1.out.inn.part (i := 4) rfl)) ?_; rintro e w2 ⟨rfl, rfl⟩; clear hf))
  exact bodyPost_ret (v := .tuple #[.int .i64 0, .int .i64 0, .bool false, .bool false]) (by simp [results, Tryz.results55, go_sem]) rfl ⟨rfl, _, ⟨q, h1, h2, k3, h4, rfl, y1, y2, z3, y4, hwf⟩, HU1.out⟩

set_option maxRecDepth 100000 in
set_option maxHeartbeats 1000000 in
theorem rem_next_card (p : Nat) (s : RemS) (w : World) (h : Hp) (hi : In w h) (hr : RemH p s h) (n : Nat) (ht : s.tb.list = []) (hc : s.tc.first = some n) :
    Calls Tryz.prog 55 #[.pointer (some ⟨p, 0, none⟩)] w fun e w' => e = .returned (.tuple #[.int .i64 (s.tc.partLo n), .int .i64 (s.tc.partHi n), .bool true, .bool true]) ∧ ∃ h', RemH p { s with tb := s.tb.rest, tc := s.tc.clr n } h' ∧ Upd h h' w w' := by
  obtain ⟨q, h1, h2, h3, h4, rfl, y1, y2, y3, y4, hwf⟩ := hr
  have U0 := Upd.refl hi
  have e5 : w.cell? ⟨p, 5, none⟩ = some (.pointer (some ⟨q.tb, 0, none⟩)) := cell_of (hi.part (i := 0) rfl).head 5
  have htake := buf_take q.tb s.tb w h3 (hi.part (i := 3) rfl) y3
  have ha : s.tb.takeAt = 0 := by simp [BufS.takeAt, ht]
  have hb : s.tb.takeOk = false := by simp [BufS.takeOk, ht]
  rw [ha, hb] at htake
  clear ha hb ht
  have hf := fun W (hW : In W h4) => card_first q.tc s.tc W h4 hW y4
  have hcl := fun W (hW : In W h4) => card_clear q.tc s.tc n W h4 hW y4 hc
  have hn : n < (s.tc.clr n).marks.length := by have := firstT_lt _ _ _ hc; simp [CardS.clr]; omega
  have hpt := fun W k4 (hW : In W k4) (g : CardH q.tc (s.tc.clr n) k4) => card_part q.tc (s.tc.clr n) n W k4 hW g hn
  have e1 : (s.tc.clr n).partLo n = s.tc.partLo n := rfl
  have e2 : (s.tc.clr n).partHi n = s.tc.partHi n := rfl
  rw [e1, e2] at hpt
  rw [hc] at hf
  simp only [optI, Option.isSome_some] at hf
  clear hc hn e1 e2
  generalize s.tc.partLo n = lo at *
  generalize s.tc.partHi n = hi' at *
  go_enter Tryz.func55, Tryz.ntmps55
  go_wp2_with (first
    | (go_at_call 92; refine Calls.mono htake ?_; rintro e w1 ⟨rfl, k3, z3, u1⟩; have U1 := U0.then_part (i := 3) rfl u1; have e6 : w1.cell? ⟨p, 6, none⟩ = some (.pointer (some ⟨q.tc, 0, none⟩)) := cell_of (U1.inn.part (i := 0) rfl).head 6; have HU1 := Lib.hid U1; clear htake)
    | (go_at_call 93; refine Calls.mono (hf _ (HU1.out.inn.part (i := 4) rfl)) ?_; rintro e w2 ⟨rfl, rfl⟩; clear hf)
    | (go_at_call 94; refine Calls.mono (hcl _ (HU1.out.inn.part (i := 4) rfl)) ?_; rintro e w3 ⟨rfl, k4, z4, u3⟩; have U3 := HU1.out.then_part (i := 4) rfl u3; have e6 : w3.cell? ⟨p, 6, none⟩ = some (.pointer (some ⟨q.tc, 0, none⟩)) := cell_of (U3.inn.part (i := 0) rfl).head 6; have HU3 := Lib.hid U3; clear hcl U3)
    | (go_at_call 95; refine Calls.mono (hpt _ _ (HU3.out.inn.part (i := 4) rfl) z4) ?_; rintro e w4 ⟨rfl, u4⟩; have U4 := HU3.out.then_part (i := 4) rfl u4; clear hpt))
  exact bodyPost_ret (v := .tuple #[.int .i64 lo, .int .i64 hi', .bool true, .bool true]) (by simp [results, Tryz.results55, go_sem]) rfl ⟨rfl, _, ⟨q, h1, h2, k3, k4, rfl, y1, y2, z3, z4, hwf⟩, U4⟩


end Go.Proofs.YtjjdjipohifgbaaGreat
