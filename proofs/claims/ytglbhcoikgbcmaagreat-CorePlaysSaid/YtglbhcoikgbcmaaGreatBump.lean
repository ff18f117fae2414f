/- What each call of package bump comes to. Conditions: a space as New makes it. -/
import Derived.Test.YtglbhcoikgbcmaaGreatRows
import Derived.Test.YtglbhcoikgbcmaaGreatLib
import Derived.Laws.CopyOwn
set_option linter.unusedVariables false
set_option linter.unusedSimpArgs false
namespace Go.Proofs.YtglbhcoikgbcmaaGreat
open Go.RowKit

/-- two halves: where each begins and how much of it is used; which one is filled -/
structure YoungS where
  f0 : Int
  u0 : Int
  f1 : Int
  u1 : Int
  words : Int
  now : Bool

namespace YoungS
def cf (y : YoungS) : Int := if y.now then y.f1 else y.f0
def cu (y : YoungS) : Int := if y.now then y.u1 else y.u0
def of (y : YoungS) : Int := if y.now then y.f0 else y.f1
def ou (y : YoungS) : Int := if y.now then y.u0 else y.u1
def WF (y : YoungS) : Prop := 0 ≤ y.f0 ∧ y.f0 ≤ 1048576 ∧ 0 ≤ y.f1 ∧ y.f1 ≤ 2097152 ∧ 0 ≤ y.u0 ∧ y.u0 ≤ y.words ∧ 0 ≤ y.u1 ∧ y.u1 ≤ y.words ∧ y.words ≤ 1048576
def room (y : YoungS) : Int := y.words - y.cu
def takeOk (y : YoungS) (n : Int) : Bool := decide (1 ≤ n ∧ n ≤ y.room)
def takeAt (y : YoungS) (n : Int) : Int := if y.takeOk n then y.cf + y.cu else 0
def take (y : YoungS) (n : Int) : YoungS := if y.takeOk n then (if y.now then { y with u1 := y.u1 + n } else { y with u0 := y.u0 + n }) else y
def flipOk (y : YoungS) : Bool := decide (y.ou ≤ 0)
def flip (y : YoungS) : YoungS := if y.flipOk then { y with now := !y.now } else y
def dropOk (y : YoungS) : Bool := !decide (y.ou = 0)
def drop (y : YoungS) : YoungS := if y.now then { y with u0 := 0 } else { y with u1 := 0 }
def isIn (y : YoungS) (i : Int) : Bool := decide (y.cf ≤ i ∧ i - y.cf < y.cu)
def isFrom (y : YoungS) (i : Int) : Bool := decide (y.of ≤ i ∧ i - y.of < y.ou)
def hasN (y : YoungS) (n : Bool) (i : Int) : Bool := if n then decide (y.f1 ≤ i ∧ i - y.f1 < y.u1) else decide (y.f0 ≤ i ∧ i - y.f0 < y.u0)
end YoungS

def bit01 (b : Bool) : Int := if b then 1 else 0

def youngCells (y : YoungS) : Array Value := #[.int .i64 y.f0, .int .i64 y.u0, .int .i64 y.f1, .int .i64 y.u1, .int .i64 y.words, .int .i64 (bit01 y.now)]

def YoungH (p : Nat) (y : YoungS) (h : Hp) : Prop := h = [(p, .cells (youngCells y) 91 (0, 0))] ∧ y.WF

theorem young_cells {w : World} {p : Nat} {y : YoungS} {h : Hp} (hi : In w h) (hy : YoungH p y h) :
    w.cell? ⟨p, 0, none⟩ = some (.int .i64 y.f0) ∧ w.cell? ⟨p, 1, none⟩ = some (.int .i64 y.u0) ∧ w.cell? ⟨p, 2, none⟩ = some (.int .i64 y.f1) ∧
    w.cell? ⟨p, 3, none⟩ = some (.int .i64 y.u1) ∧ w.cell? ⟨p, 4, none⟩ = some (.int .i64 y.words) ∧ w.cell? ⟨p, 5, none⟩ = some (.int .i64 (bit01 y.now)) := by
  obtain ⟨rfl, _⟩ := hy
  have := hi.head
  exact ⟨cell_of this 0, cell_of this 1, cell_of this 2, cell_of this 3, cell_of this 4, cell_of this 5⟩
theorem young_frozen {w : World} {p : Nat} {y : YoungS} {h : Hp} (hi : In w h) (hy : YoungH p y h) (i : Nat) : w.frozen? ⟨p, i, none⟩ = false := by
  obtain ⟨rfl, _⟩ := hy
  exact frozen_of hi.head i

set_option maxRecDepth 100000 in
set_option maxHeartbeats 400000 in
theorem bump_room (p : Nat) (y : YoungS) (w : World) (h : Hp) (hi : In w h) (hy : YoungH p y h) :
    Calls Tryz.prog 60 #[.pointer (some ⟨p, 0, none⟩)] w fun e w' => e = .returned (.int .i64 y.room) ∧ Upd h h w w' := by
  obtain ⟨c0, c1, c2, c3, c4, c5⟩ := young_cells hi hy
  obtain ⟨hh, h1, h2, h3, h4, h5, h6, h7, h8, h9⟩ := hy
  rcases y with ⟨f0, u0, f1, u1, words, now⟩
  simp only [bit01] at *
  have e1 : IntKind.i64.wrap (words - u0) = words - u0 := IntWalk.i64_in _ (by omega)
  have e2 : IntKind.i64.wrap (words - u1) = words - u1 := IntWalk.i64_in _ (by omega)
  cases now
  all_goals
    simp only [YoungS.room, YoungS.cu, if_true, if_false, Bool.false_eq_true] at *
    go_enter Tryz.func60, Tryz.ntmps60
    go_wp2
    refine wp_still (by kernel_rfl) (by kernel_rfl) fun w1 hw1 => ?_
    subst hw1
    repeat still_step
    refine wpStill_nil ?_
    go_wp2
    go_ret
    exact ⟨rfl, Upd.drew hi⟩

set_option maxRecDepth 100000 in
set_option maxHeartbeats 400000 in
theorem bump_used (p : Nat) (y : YoungS) (w : World) (h : Hp) (hi : In w h) (hy : YoungH p y h) :
    Calls Tryz.prog 34 #[.pointer (some ⟨p, 0, none⟩)] w fun e w' => e = .returned (.int .i64 y.cu) ∧ Upd h h w w' := by
  obtain ⟨c0, c1, c2, c3, c4, c5⟩ := young_cells hi hy
  rcases y with ⟨f0, u0, f1, u1, words, now⟩
  simp only [bit01] at *
  cases now
  all_goals
    simp only [YoungS.cu, if_true, if_false, Bool.false_eq_true] at *
    go_enter Tryz.func34, Tryz.ntmps34
    go_wp2
    refine wp_still (by kernel_rfl) (by kernel_rfl) fun w1 hw1 => ?_
    subst hw1
    repeat still_step
    refine wpStill_nil ?_
    go_wp2
    go_ret
    exact ⟨rfl, Upd.drew hi⟩

set_option maxRecDepth 100000 in
set_option maxHeartbeats 400000 in
theorem bump_left (p : Nat) (y : YoungS) (w : World) (h : Hp) (hi : In w h) (hy : YoungH p y h) :
    Calls Tryz.prog 35 #[.pointer (some ⟨p, 0, none⟩)] w fun e w' => e = .returned (.int .i64 y.ou) ∧ Upd h h w w' := by
  obtain ⟨c0, c1, c2, c3, c4, c5⟩ := young_cells hi hy
  rcases y with ⟨f0, u0, f1, u1, words, now⟩
  simp only [bit01] at *
  have k0 : IntKind.i64.wrap 0 = 0 := by kernel_rfl
  have k1 : IntKind.i64.wrap 1 = 1 := by kernel_rfl
  cases now
  all_goals
    simp only [YoungS.ou, if_true, if_false, Bool.false_eq_true] at *
    go_enter Tryz.func35, Tryz.ntmps35
    go_wp2
    refine wp_still (by kernel_rfl) (by kernel_rfl) fun w1 hw1 => ?_
    subst hw1
    repeat still_step
    refine wpStill_nil ?_
    go_wp2
    go_ret
    exact ⟨rfl, Upd.drew hi⟩

set_option maxRecDepth 100000 in
set_option maxHeartbeats 400000 in
theorem bump_has (p : Nat) (y : YoungS) (n : Bool) (i : Int) (w : World) (h : Hp) (hi : In w h) (hy : YoungH p y h) (hb : I64 i) :
    Calls Tryz.prog 68 #[.pointer (some ⟨p, 0, none⟩), .int .i64 (bit01 n), .int .i64 i] w fun e w' => e = .returned (.bool (y.hasN n i)) ∧ Upd h h w w' := by
  obtain ⟨c0, c1, c2, c3, c4, c5⟩ := young_cells hi hy
  obtain ⟨hh, h1, h2, h3, h4, h5, h6, h7, h8, h9⟩ := hy
  obtain ⟨hb1, hb2⟩ := hb
  clear hh
  rcases y with ⟨f0, u0, f1, u1, words, now⟩
  simp only [bit01, YoungS.hasN] at *
  have hp : p < w.heap.size := World.block_lt_of_cell? w _ c0
  have hp' : p ≠ w.heap.size := by omega
  cases n
  · simp only [if_false, Bool.false_eq_true]
    by_cases g1 : f0 ≤ i
    · have g3 : wrap64 (i - f0) = i - f0 := by unfold wrap64; omega
      by_cases g2 : i - f0 < u0
      all_goals
        go_enter Tryz.func68, Tryz.ntmps68
        go_wp2
        go_ret
        exact ⟨by simp [g1, g2, g3], Upd.skip hi _⟩
    · go_enter Tryz.func68, Tryz.ntmps68
      go_wp2
      go_ret
      exact ⟨by simp [g1] <;> omega, Upd.skip hi _⟩
  · simp only [if_true]
    by_cases g1 : f1 ≤ i
    · have g3 : wrap64 (i - f1) = i - f1 := by unfold wrap64; omega
      by_cases g2 : i - f1 < u1
      all_goals
        go_enter Tryz.func68, Tryz.ntmps68
        go_wp2
        go_ret
        exact ⟨by simp [g1, g2, g3], Upd.skip hi _⟩
    · go_enter Tryz.func68, Tryz.ntmps68
      go_wp2
      go_ret
      exact ⟨by simp [g1] <;> omega, Upd.skip hi _⟩

theorem isIn_eq (y : YoungS) (i : Int) : y.isIn i = y.hasN y.now i := by
  rcases y with ⟨f0, u0, f1, u1, words, now⟩
  cases now <;> rfl
theorem isFrom_eq (y : YoungS) (i : Int) : y.isFrom i = y.hasN (!y.now) i := by
  rcases y with ⟨f0, u0, f1, u1, words, now⟩
  cases now <;> rfl

set_option maxRecDepth 100000 in
set_option maxHeartbeats 400000 in
theorem bump_in (p : Nat) (y : YoungS) (i : Int) (w : World) (h : Hp) (hi : In w h) (hy : YoungH p y h) (hb : I64 i) :
    Calls Tryz.prog 52 #[.pointer (some ⟨p, 0, none⟩), .int .i64 i] w fun e w' => e = .returned (.bool (y.isIn i)) ∧ Upd h h w w' := by
  obtain ⟨c0, c1, c2, c3, c4, c5⟩ := young_cells hi hy
  rw [isIn_eq]
  go_enter Tryz.func52, Tryz.ntmps52
  go_wp2_with (go_at_call 68; refine (bump_has p y _ i _ _ hi hy hb).mono ?_; rintro e w1 ⟨rfl, u1⟩)
  go_ret
  exact ⟨rfl, u1⟩

set_option maxRecDepth 100000 in
set_option maxHeartbeats 400000 in
theorem bump_from (p : Nat) (y : YoungS) (i : Int) (w : World) (h : Hp) (hi : In w h) (hy : YoungH p y h) (hb : I64 i) :
    Calls Tryz.prog 71 #[.pointer (some ⟨p, 0, none⟩), .int .i64 i] w fun e w' => e = .returned (.bool (y.isFrom i)) ∧ Upd h h w w' := by
  obtain ⟨c0, c1, c2, c3, c4, c5⟩ := young_cells hi hy
  rw [isFrom_eq]
  have k1 : bit01 (!y.now) = 1 - bit01 y.now := by cases y.now <;> rfl
  have b1 : 0 ≤ bit01 y.now := by cases y.now <;> decide
  have b2 : bit01 y.now ≤ 1 := by cases y.now <;> decide
  have h1 := bump_has p y (!y.now) i w h hi hy hb
  rw [k1] at h1
  clear k1
  go_enter Tryz.func71, Tryz.ntmps71
  go_wp2_with (go_at_call 68; refine h1.mono ?_; rintro e w1 ⟨rfl, u1⟩)
  go_ret
  exact ⟨rfl, u1⟩

set_option maxRecDepth 100000 in
set_option maxHeartbeats 1000000 in
theorem bump_take (p : Nat) (y : YoungS) (n : Int) (w : World) (h : Hp) (hi : In w h) (hy : YoungH p y h) (hb : I64 n) :
    Calls Tryz.prog 47 #[.pointer (some ⟨p, 0, none⟩), .int .i64 n] w fun e w' => e = .returned (.tuple #[.int .i64 (y.takeAt n), .bool (y.takeOk n)]) ∧ ∃ h', YoungH p (y.take n) h' ∧ Upd h h' w w' := by
  obtain ⟨c0, c1, c2, c3, c4, c5⟩ := young_cells hi hy
  have hf := young_frozen hi hy
  have f1 := hf 1
  have f3 := hf 3
  clear hf
  have hroom := bump_room p y w h hi hy
  by_cases hn : 1 ≤ n
  · by_cases hr : n ≤ y.room
    · have hok : y.takeOk n = true := by simp [YoungS.takeOk, hn, hr]
      have hy0 := hy
      obtain ⟨hh, h1, h2, h3, h4, h5, h6, h7, h8, h9⟩ := hy0
      obtain ⟨hb1, hb2⟩ := hb
      have hroomv : y.room ≤ 1048576 := by unfold YoungS.room YoungS.cu; split <;> omega
      cases hnow : y.now
      · have hcu : y.cu = y.u0 := by simp [YoungS.cu, hnow]
        have hcf : y.cf = y.f0 := by simp [YoungS.cf, hnow]
        have hw' : y.u0 + n ≤ y.words := by unfold YoungS.room at hr; omega
        have hbit : bit01 y.now = 0 := by rw [hnow]; rfl
        have hta : y.takeAt n = y.f0 + y.u0 := by simp [YoungS.takeAt, hok, hcf, hcu]
        have htk : y.take n = { y with u0 := y.u0 + n } := by simp [YoungS.take, hok, hnow]
        rw [hok, hta, htk]
        have hH : YoungH p { y with u0 := y.u0 + n } [(p, .cells ((youngCells y).setIfInBounds 1 (.int .i64 (y.u0 + n))) 91 (0, 0))] := ⟨rfl, h1, h2, h3, h4, by first | assumption | (show 0 ≤ y.u0 + n; omega), by first | assumption | exact hw', by first | assumption | (show 0 ≤ y.u0 + n; omega), by first | assumption | exact hw', h9⟩
        have hfin : ∀ w1, Upd h h w w1 → Upd h [(p, .cells ((youngCells y).setIfInBounds 1 (.int .i64 (y.u0 + n))) 91 (0, 0))] w (w1.setCell ⟨p, 1, none⟩ (.int .i64 (y.u0 + n))) := by
          intro w1 u1
          subst hh
          exact Upd.store' (l := []) u1 1 (.int .i64 (y.u0 + n))
        clear hta htk hcu hcf hok hh hnow
        go_enter Tryz.func47, Tryz.ntmps47
        go_wp2_with (go_at_call 60; refine hroom.mono ?_; rintro e w1 ⟨rfl, u1⟩)
        obtain ⟨d0, d1, d2, d3, d4, d5⟩ := young_cells u1.inn hy
        rw [hbit] at d5
        have g1 := young_frozen u1.inn hy 1
        clear c0 c1 c2 c3 c4 c5 f1 f3 hroom hbit
        refine wp_still (by kernel_rfl) (by kernel_rfl) fun w2 hw2 => ?_
        subst hw2
        repeat still_step
        refine wpStill_nil ?_
        go_wp2
        refine wp_still (by kernel_rfl) (by kernel_rfl) fun w2 hw2 => ?_
        subst hw2
        have s1 : IntKind.i64.wrap (y.f0 + y.u0) = y.f0 + y.u0 := IntWalk.i64_in _ (by omega)
        have s2 : IntKind.i64.wrap (y.u0 + n) = y.u0 + n := IntWalk.i64_in _ (by omega)
        repeat still_step
        refine wpStill_nil ?_
        go_wp2
        go_ret2
        exact ⟨rfl, _, hH, hfin _ (u1.drew'.drew')⟩
      · have hcu : y.cu = y.u1 := by simp [YoungS.cu, hnow]
        have hcf : y.cf = y.f1 := by simp [YoungS.cf, hnow]
        have hw' : y.u1 + n ≤ y.words := by unfold YoungS.room at hr; omega
        have hbit : bit01 y.now = 1 := by rw [hnow]; rfl
        have hta : y.takeAt n = y.f1 + y.u1 := by simp [YoungS.takeAt, hok, hcf, hcu]
        have htk : y.take n = { y with u1 := y.u1 + n } := by simp [YoungS.take, hok, hnow]
        rw [hok, hta, htk]
        have hH : YoungH p { y with u1 := y.u1 + n } [(p, .cells ((youngCells y).setIfInBounds 3 (.int .i64 (y.u1 + n))) 91 (0, 0))] := ⟨rfl, h1, h2, h3, h4, by first | assumption | (show 0 ≤ y.u1 + n; omega), by first | assumption | exact hw', by first | assumption | (show 0 ≤ y.u1 + n; omega), by first | assumption | exact hw', h9⟩
        have hfin : ∀ w1, Upd h h w w1 → Upd h [(p, .cells ((youngCells y).setIfInBounds 3 (.int .i64 (y.u1 + n))) 91 (0, 0))] w (w1.setCell ⟨p, 3, none⟩ (.int .i64 (y.u1 + n))) := by
          intro w1 u1
          subst hh
          exact Upd.store' (l := []) u1 3 (.int .i64 (y.u1 + n))
        clear hta htk hcu hcf hok hh hnow
        go_enter Tryz.func47, Tryz.ntmps47
        go_wp2_with (go_at_call 60; refine hroom.mono ?_; rintro e w1 ⟨rfl, u1⟩)
        obtain ⟨d0, d1, d2, d3, d4, d5⟩ := young_cells u1.inn hy
        rw [hbit] at d5
        have g1 := young_frozen u1.inn hy 3
        clear c0 c1 c2 c3 c4 c5 f1 f3 hroom hbit
        refine wp_still (by kernel_rfl) (by kernel_rfl) fun w2 hw2 => ?_
        subst hw2
        repeat still_step
        refine wpStill_nil ?_
        go_wp2
        refine wp_still (by kernel_rfl) (by kernel_rfl) fun w2 hw2 => ?_
        subst hw2
        have s1 : IntKind.i64.wrap (y.f1 + y.u1) = y.f1 + y.u1 := IntWalk.i64_in _ (by omega)
        have s2 : IntKind.i64.wrap (y.u1 + n) = y.u1 + n := IntWalk.i64_in _ (by omega)
        repeat still_step
        refine wpStill_nil ?_
        go_wp2
        go_ret2
        exact ⟨rfl, _, hH, hfin _ (u1.drew'.drew')⟩
    · have hok : y.takeOk n = false := by simp [YoungS.takeOk]; omega
      have hta : y.takeAt n = 0 := by simp [YoungS.takeAt, hok]
      have htk : y.take n = y := by simp [YoungS.take, hok]
      rw [hok, hta, htk]
      clear hta htk hok
      go_enter Tryz.func47, Tryz.ntmps47
      go_wp2_with (go_at_call 60; refine hroom.mono ?_; rintro e w1 ⟨rfl, u1⟩)
      go_ret2
      exact ⟨rfl, _, hy, u1⟩
  · have hok : y.takeOk n = false := by simp [YoungS.takeOk]; omega
    have hta : y.takeAt n = 0 := by simp [YoungS.takeAt, hok]
    have htk : y.take n = y := by simp [YoungS.take, hok]
    rw [hok, hta, htk]
    clear hta htk hok
    go_enter Tryz.func47, Tryz.ntmps47
    go_wp2_with (go_at_call 60; refine hroom.mono ?_; rintro e w1 ⟨rfl, u1⟩)
    go_ret2
    exact ⟨rfl, _, hy, Upd.refl hi⟩

set_option maxRecDepth 100000 in
set_option maxHeartbeats 400000 in
theorem bump_within (n : Int) (w : World) (h1 : 0 ≤ n) (h2 : n ≤ 1048576) :
    Calls Tryz.prog 39 #[.int .i64 n] w fun e w' => e = .returned (.int .i64 n) ∧ w = w' := by
  go_enter Tryz.func39, Tryz.ntmps39
  go_wp2
  all_goals
    go_ret
    first
      | exact ⟨rfl, rfl⟩
      | (obtain rfl : n = 0 := by omega
         exact ⟨rfl, rfl⟩)

def youngNew (f n : Int) : YoungS := ⟨f, 0, f + n, 0, n, false⟩

set_option maxRecDepth 100000 in
set_option maxHeartbeats 400000 in
theorem bump_new (f n : Int) (w : World) (h1 : 0 ≤ f) (h2 : f ≤ 1048576) (h3 : 0 ≤ n) (h4 : n ≤ 1048576) :
    Calls Tryz.prog 15 #[.int .i64 f, .int .i64 n] w fun e w' => ∃ p h', e = .returned (.pointer (some ⟨p, 0, none⟩)) ∧ YoungH p (youngNew f n) h' ∧ Upd [] h' w w' := by
  have hH : YoungH w.heap.size (youngNew f n) [(w.heap.size, .cells (youngCells (youngNew f n)) 91 (0, 0))] := ⟨rfl, by simp only [youngNew, YoungS.WF]; omega⟩
  have hU := Upd.alloc (In.nil w) (.cells (youngCells (youngNew f n)) 91 (0, 0))
  go_enter Tryz.func15, Tryz.ntmps15
  go_wp2_with (go_at_call 39; refine (bump_within _ _ (by omega) (by omega)).mono ?_; rintro e w1 ⟨rfl, rfl⟩)
  go_ret
  exact ⟨_, _, rfl, hH, hU⟩

end Go.Proofs.YtglbhcoikgbcmaaGreat
