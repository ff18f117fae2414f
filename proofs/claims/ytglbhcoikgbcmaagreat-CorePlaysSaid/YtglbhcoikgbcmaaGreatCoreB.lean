/- What Make, Read, Write and Shape of package core, and those beneath, come to. Conditions: a core as New makes it. -/
import Derived.Test.YtglbhcoikgbcmaaGreatRows
import Derived.Test.YtglbhcoikgbcmaaGreatLib
import Derived.Test.YtglbhcoikgbcmaaGreatCoreH
import Derived.Test.YtglbhcoikgbcmaaGreatCore
import Derived.BigQuiet
import Derived.Deep.QuietTactic
import Derived.Deep.RegionHeld3
import Derived.Deep.Cut
set_option linter.unusedVariables false
set_option linter.unusedSimpArgs false
namespace Go.Proofs.YtglbhcoikgbcmaaGreat
open Go.RowKit

def CoreS.shapeOk (s : CoreS) (p c : Int) : Bool := decide (0 ≤ p ∧ 0 ≤ c ∧ p ≤ s.C.largest ∧ c ≤ s.C.largest - p)

set_option maxRecDepth 100000 in
set_option maxHeartbeats 1000000 in
theorem core_shape (pc : Nat) (L : CoreL) (s : CoreS) (p c : Int) (w : World) (v : Value) (hl0 : 0 ≤ s.C.largest) (hl1 : s.C.largest ≤ 64) (hc : w.heap[pc]? = some (coreObj L s v)) :
    Calls Tryz.prog 44 #[ptr pc, .int .i64 p, .int .i64 c] w fun e w' => e = .returned (.bool (s.shapeOk p c)) ∧ w = w' := by
  obtain ⟨c0, c1, c2, c3, c4, c5, c6, c7, c8, c9, c10, c11, c12⟩ := core_cfg hc
  clear c0 c1 c2 c3 c4 c5 c6 c7 c9 c10 c11 c12 hc
  simp only [ptr]
  by_cases h1 : 0 ≤ p
  · by_cases h2 : 0 ≤ c
    · by_cases h3 : p ≤ s.C.largest
      · have hw : IntKind.i64.wrap (s.C.largest - p) = s.C.largest - p := IntWalk.i64_in _ (by omega)
        by_cases h4 : c ≤ s.C.largest - p
        · have e : s.shapeOk p c = true := by simp [CoreS.shapeOk]; omega
          rw [e]
          clear e
          go_enter Tryz.func44, Tryz.ntmps44
          go_wp2
          go_ret
          exact ⟨rfl, rfl⟩
        · have e : s.shapeOk p c = false := by simp [CoreS.shapeOk]; omega
          rw [e]
          clear e
          go_enter Tryz.func44, Tryz.ntmps44
          go_wp2
          go_ret
          exact ⟨rfl, rfl⟩
      · have e : s.shapeOk p c = false := by simp [CoreS.shapeOk]; omega
        rw [e]
        clear e
        go_enter Tryz.func44, Tryz.ntmps44
        go_wp2
        go_ret
        exact ⟨rfl, rfl⟩
    · have e : s.shapeOk p c = false := by simp [CoreS.shapeOk]; omega
      rw [e]
      clear e
      go_enter Tryz.func44, Tryz.ntmps44
      go_wp2
      go_ret
      exact ⟨rfl, rfl⟩
  · have e : s.shapeOk p c = false := by simp [CoreS.shapeOk]; omega
    rw [e]
    clear e
    go_enter Tryz.func44, Tryz.ntmps44
    go_wp2
    go_ret
    exact ⟨rfl, rfl⟩

def CoreS.kept (s : CoreS) : Int := if s.moving then s.y.ou - s.copied else 0
def CoreS.roomOk (s : CoreS) (n : Int) : Bool := decide (s.kept ≤ s.y.room - n)

theorem YoungS.WF.bounds {y : YoungS} (h : y.WF) : 0 ≤ y.ou ∧ y.ou ≤ 1048576 ∧ 0 ≤ y.cu ∧ y.cu ≤ 1048576 ∧ 0 ≤ y.room ∧ y.room ≤ 1048576 ∧ 0 ≤ y.cf ∧ y.cf ≤ 2097152 := by
  unfold YoungS.WF at h
  unfold YoungS.room YoungS.ou YoungS.cu YoungS.cf
  split <;> omega

theorem YoungS.WF.at {y : YoungS} (h : y.WF) (n : Int) : 0 ≤ y.takeAt n ∧ y.takeAt n ≤ 4194304 := by
  have := h.bounds
  unfold YoungS.takeAt
  split <;> omega

set_option maxRecDepth 100000 in
set_option maxHeartbeats 1000000 in
theorem core_room (pc : Nat) (L : CoreL) (s : CoreS) (n : Int) (w : World) (h : Hp) (hi : In w h) (hc : CoreH pc L s h) (h1 : 0 ≤ n) (h2 : n ≤ 1048576) (h3 : 0 ≤ s.copied) (h4 : s.copied ≤ 1048576) :
    Calls Tryz.prog 46 #[ptr pc, .int .i64 n] w fun e w' => e = .returned (.bool (s.roomOk n)) ∧ Upd h h w w' := by
  obtain ⟨v, ha, hy, ho, hr, hg, ht, hw, rfl, ca, cy, co, cr, cg, ct, cw⟩ := hc
  have U0 := Upd.refl hi
  obtain ⟨p1, p2, p3, p4, p5, p6⟩ := core_ptrs (In.core (x := []) hi)
  obtain ⟨q1, q2, q3, q4, q5, q6⟩ := core_vars (In.core (x := []) hi)
  have hleft := fun W (hiW : In W hy) => bump_left L.py s.y W hy hiW cy
  have hroom := fun W (hiW : In W hy) => bump_room L.py s.y W hy hiW cy
  obtain ⟨b1, b2, b3, b4, b5, b6, b7, b8⟩ := YoungS.WF.bounds cy.2
  have hw2 : IntKind.i64.wrap (s.y.room - n) = s.y.room - n := IntWalk.i64_in _ (by omega)
  have hw3 : IntKind.i64.wrap (s.y.ou - s.copied) = s.y.ou - s.copied := IntWalk.i64_in _ (by omega)
  clear p1 p3 p4 p5 p6 q1 q2 q4 q6
  simp only [ptr] at *
  cases hm : s.moving
  · have e1 : s.roomOk n = decide (n ≤ s.y.room) := by simp [CoreS.roomOk, CoreS.kept, hm]
    rw [hm] at q3
    rw [e1]
    clear e1 hm
    go_enter Tryz.func46, Tryz.ntmps46
    go_wp2_with (go_at_call 60; refine Calls.mono (hroom _ (In.young (x := []) hi)) ?_; rintro e w1 ⟨rfl, u1⟩; have U1 := Upd.young (x := []) U0 u1)
    go_ret
    exact ⟨rfl, U1⟩
  · have e1 : s.roomOk n = decide (s.y.ou - s.copied ≤ s.y.room - n) := by simp [CoreS.roomOk, CoreS.kept, hm]
    rw [hm] at q3
    rw [e1]
    clear e1 hm
    go_enter Tryz.func46, Tryz.ntmps46
    go_wp2
    have U0d := U0.drew'
    have hSd : (w.drew).cell? ⟨pc, 14, none⟩ = some (.pointer (some ⟨L.py, 0, none⟩)) ∧ (w.drew).cell? ⟨pc, 23, none⟩ = some (.int .i64 s.copied) := ⟨p2, q5⟩
    go_region_held3 (fun w' => w'.cell? ⟨pc, 14, none⟩ = some (.pointer (some ⟨L.py, 0, none⟩)) ∧ w'.cell? ⟨pc, 23, none⟩ = some (.int .i64 s.copied))
      (first | exact hS1 | exact hSd | go_keep)
      (first | (go_at_call 35; refine Calls.mono (hleft _ (In.young (x := []) (Upd.inn U0d))) ?_; rintro e w1 ⟨rfl, u1⟩; have U1 := Upd.young (x := []) U0d u1; have hS1 : w1.cell? ⟨pc, 14, none⟩ = some (.pointer (some ⟨L.py, 0, none⟩)) ∧ w1.cell? ⟨pc, 23, none⟩ = some (.int .i64 s.copied) := ⟨cell_of (In.core (x := []) (Upd.inn U1)) 14, cell_of (In.core (x := []) (Upd.inn U1)) 23⟩))
    go_wp2_with (go_at_call 60; refine Calls.mono (hroom _ (In.young (x := []) (Upd.inn U1))) ?_; rintro e w2 ⟨rfl, u2⟩; have U2 := Upd.young (x := []) U1 u2)
    go_ret
    exact ⟨rfl, U2⟩

set_option maxRecDepth 100000 in
set_option maxHeartbeats 1000000 in
theorem core_shapeof (pc : Nat) (L : CoreL) (s : CoreS) (i : Int) (w : World) (h : Hp) (hi : In w h) (hc : CoreH pc L s h) :
    Calls Tryz.prog 27 #[ptr pc, .int .i64 i] w fun e w' =>
      e = .returned (.tuple #[.int .i64 (s.objH i).ptrs, .int .i64 ((s.objH i).size - (s.objH i).ptrs), .int .i64 (s.objE i)]) ∧ ∃ h', CoreH pc L s h' ∧ Upd h h' w w' := by
  have ho := core_object pc L s i w h hi hc
  have hgood : (s.objH i).Good := by unfold CoreS.objH; split; exact unH_good _; exact hd0_good
  obtain ⟨g1, g2, g3, g4, g5, g6, g7⟩ := hgood
  by_cases he : s.objE i = 0
  · rw [he] at ho ⊢
    generalize s.objH i = H at *
    have hw2 : IntKind.i64.wrap (H.size - H.ptrs) = H.size - H.ptrs := IntWalk.i64_in _ (by omega)
    clear he g7
    simp only [ptr, hdCells] at *
    go_enter Tryz.func27, Tryz.ntmps27
    go_wp2_with (go_at_call 50; refine Calls.mono ho ?_; rintro e w1 ⟨rfl, h', c1, u1⟩)
    go_quiet (fail)
    go_wp2
    go_ret3
    exact ⟨rfl, h', c1, (u1.skip' _).drewN' nq⟩
  · have e1 : s.objH i = hd0 := by simp [CoreS.objH, he]
    rw [e1] at ho ⊢
    have hne : (s.objE i != 0) = true := by simpa using he
    generalize s.objE i = E at *
    clear e1 g1 g2 g3 g4 g5 g6 g7
    simp only [ptr, hdCells, hd0] at *
    go_enter Tryz.func27, Tryz.ntmps27
    go_wp2_with (go_at_call 50; refine Calls.mono ho ?_; rintro e w1 ⟨rfl, h', c1, u1⟩)
    go_ret3
    exact ⟨rfl, h', c1, u1.skip' _⟩

end Go.Proofs.YtglbhcoikgbcmaaGreat
