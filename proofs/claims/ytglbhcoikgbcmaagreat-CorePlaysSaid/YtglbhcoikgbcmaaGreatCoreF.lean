/- What Make of package core comes to. Conditions: a core as New makes it. -/
import Derived.Test.YtglbhcoikgbcmaaGreatRows
import Derived.Test.YtglbhcoikgbcmaaGreatLib
import Derived.Test.YtglbhcoikgbcmaaGreatCoreE
set_option linter.unusedVariables false
set_option linter.unusedSimpArgs false
namespace Go.Proofs.YtglbhcoikgbcmaaGreat
open Go.RowKit

/-- a new object's head -/
def CoreS.newHd (s : CoreS) (p c : Int) : Hd := ⟨p + c, p, 0, s.parity, false, false, false⟩
def CoreS.makeE (s : CoreS) (i p c : Int) : Int := if tblOk s.t i then (if s.shapeOk p c then (if s.roomOk (p + c + 2) then 0 else 7) else 6) else 3
def CoreS.made (s : CoreS) (i p c : Int) : CoreS :=
  { s with ws := objMakeW s.ws (s.y.takeAt (p + c + 2)) (s.newHd p c), y := s.y.take (p + c + 2), t := tblSet s.t i (s.y.takeAt (p + c + 2)), done := { s.done with allocs := wrap64 (s.done.allocs + 1), words := wrap64 (s.done.words + (p + c + 2)) } }
def CoreS.make (s : CoreS) (i p c : Int) : CoreS := if s.makeE i p c = 0 then s.made i p c else s

set_option maxRecDepth 100000 in
set_option maxHeartbeats 4000000 in
theorem core_make (pc : Nat) (L : CoreL) (s : CoreS) (i p c : Int) (w : World) (h : Hp) (hi : In w h) (hc : CoreH pc L s h)
    (hl0 : 0 ≤ s.C.largest) (hl1 : s.C.largest ≤ 64) (h3 : 0 ≤ s.copied) (h4 : s.copied ≤ 1048576) (hpar : s.parity = 0 ∨ s.parity = 1) :
    Calls Tryz.prog 21 #[ptr pc, .int .i64 i, .int .i64 p, .int .i64 c] w fun e w' =>
      e = .returned (.int .i64 (s.makeE i p c)) ∧ ∃ h', CoreH pc L (s.make i p c) h' ∧ Upd h h' w w' := by
  have hroom0 := fun n h1 h2 W h (hiW : In W h) (hc : CoreH pc L s h) => core_room pc L s n W h hiW hc h1 h2 h3 h4
  have hc0 := hc
  obtain ⟨v, ha, hy, ho, hr, hg, ht, hw, rfl, ca, cy, co, cr, cg, ct, cw⟩ := hc
  have hget := table_get L.pt s.t i w ht (In.table (x := []) hi) ct
  obtain ⟨p1, p2, p3, p4, p5, p6⟩ := core_ptrs (In.core (x := []) hi)
  clear p1 p2 p3 p4 p5
  by_cases hk : tblOk s.t i = true
  case neg =>
    have e1 : s.makeE i p c = 3 := by simp [CoreS.makeE, hk]
    have e2 : s.make i p c = s := by simp [CoreS.make, e1]
    have e3 : tblErr s.t i = 3 := by simp [tblErr, hk]
    rw [e1, e2]
    rw [e3] at hget
    clear e1 e2 e3 hk hpar hroom0
    simp only [ptr] at *
    go_enter Tryz.func21, Tryz.ntmps21
    go_wp2_with (go_at_call 43; refine Calls.mono hget ?_; rintro e w1 ⟨rfl, rfl⟩)
    go_ret
    exact ⟨rfl, _, hc0, Upd.refl hi⟩
  have e3 : tblErr s.t i = 0 := by simp [tblErr, hk]
  rw [e3] at hget
  have hshape := core_shape pc L s p c w v hl0 hl1 (In.core (x := []) hi)
  by_cases hs : s.shapeOk p c = true
  case neg =>
    have e1 : s.makeE i p c = 6 := by simp [CoreS.makeE, hk, hs]
    have e2 : s.make i p c = s := by simp [CoreS.make, e1]
    have hs' : s.shapeOk p c = false := by simpa using hs
    rw [e1, e2]
    rw [hs'] at hshape
    clear e1 e2 e3 hk hpar hroom0 hs hs'
    simp only [ptr] at *
    go_enter Tryz.func21, Tryz.ntmps21
    go_wp2_with (first | (go_at_call 43; refine Calls.mono hget ?_; rintro e w1 ⟨rfl, rfl⟩) | (go_at_call 44; refine Calls.mono hshape ?_; rintro e w1 ⟨rfl, rfl⟩))
    go_ret
    exact ⟨rfl, _, hc0, Upd.refl hi⟩
  have hs2 := hs
  simp only [CoreS.shapeOk, decide_eq_true_eq] at hs2
  obtain ⟨s1, s2, s3, s4⟩ := hs2
  rw [hs] at hshape
  have hG : (s.newHd p c).Good := by
    simp only [CoreS.newHd, Hd.Good]
    omega
  have hw1 : (s.newHd p c).words = p + c + 2 := rfl
  have hwords := obj_words (s.newHd p c) hG
  rw [hw1] at hwords
  have hroom := hroom0 (p + c + 2) (by omega) (by omega)
  clear hroom0
  obtain ⟨q1, q2, q3, q4, q5, q6⟩ := core_vars (In.core (x := []) hi)
  clear q2 q3 q4 q5 q6
  have hwr : IntKind.i64.wrap (p + c) = p + c := IntWalk.i64_in _ (by omega)
  have U0 := Upd.box (x := []) (Upd.refl hi) (.cells (hdCells (s.newHd p c)) 112 (0, 0))
  cases hR : s.roomOk (p + c + 2)
  · have e1 : s.makeE i p c = 7 := by simp [CoreS.makeE, hk, hs, hR]
    have e2 : s.make i p c = s := by simp [CoreS.make, e1]
    rw [e1, e2]
    rw [hR] at hroom
    clear e1 e2 e3 hk hpar hs hR hG hw1
    simp only [ptr, hdCells, CoreS.newHd] at *
    go_enter Tryz.func21, Tryz.ntmps21
    go_wp2_with (first | (go_at_call 43; refine Calls.mono hget ?_; rintro e w1 ⟨rfl, rfl⟩) | (go_at_call 44; refine Calls.mono hshape ?_; rintro e w1 ⟨rfl, rfl⟩) | (go_at_call 45; refine Calls.mono (hwords _) ?_; rintro e w1 ⟨rfl, u1⟩; have U1 := U0.under0 u1; obtain ⟨d0, d1, d2, d3, d4, d5, d6⟩ := hd_cells (x := ⟨p + c, p, 0, s.parity, false, false, false⟩) U1.inn.head; simp only at d0 d1 d2 d3 d4 d5 d6) | (go_at_call 46; refine Calls.mono (hroom _ _ U1.inn.tail hc0) ?_; rintro e w2 ⟨rfl, u2⟩; have U2 := U1.under u2; obtain ⟨p1, p2, p3, p4, p5, p6⟩ := core_ptrs (In.core (x := [_]) U2.inn); clear p1 p3 p4 p5 p6; simp only [ptr] at p2))
    go_ret
    exact ⟨rfl, _, hc0, U2.drop1⟩
  · have e1 : s.makeE i p c = 0 := by simp [CoreS.makeE, hk, hs, hR]
    have e2 : s.make i p c = s.made i p c := by simp [CoreS.make, e1]
    rw [e1, e2]
    rw [hR] at hroom
    have htake := fun W h (hiW : In W h) (hy : YoungH L.py s.y h) => bump_take L.py s.y (p + c + 2) W h hiW hy (I64.small (by omega) (by omega))
    have hmk := fun W h (hiW : In W h) (ha : ArenaH L.pa s.ws h) => obj_make L.pa s.ws (s.y.takeAt (p + c + 2)) (s.newHd p c) hG W h hiW ha
    have hat := YoungS.WF.at cy.2 (p + c + 2)
    have hset := fun W h (hiW : In W h) (ht : TableH L.pt s.t h) => table_set L.pt s.t i (s.y.takeAt (p + c + 2)) W h hiW ht (I64.small (by omega) (by omega))
    rw [e3] at hset
    have HF : ∀ h, CoreH pc L { s with ws := objMakeW s.ws (s.y.takeAt (p + c + 2)) (s.newHd p c), y := s.y.take (p + c + 2), t := tblSet s.t i (s.y.takeAt (p + c + 2)), done := { s.done with allocs := wrap64 (s.done.allocs + 1), words := wrap64 (s.done.words + (p + c + 2)) } } h → CoreH pc L (s.made i p c) h := fun h hh => hh
    have HH := Lib.hid HF
    clear HF
    generalize s.made i p c = M at *
    generalize hKW : objMakeW s.ws (s.y.takeAt (p + c + 2)) (s.newHd p c) = KW at *
    generalize objMakeE s.ws (s.y.takeAt (p + c + 2)) (s.newHd p c) = KE at *
    generalize s.y.takeAt (p + c + 2) = j at *
    generalize s.y.take (p + c + 2) = Y at *
    generalize s.y.takeOk (p + c + 2) = ok at *
    clear e1 e2 e3 hk hpar hs hR hG hw1 hKW
    simp only [ptr, hdCells, CoreS.newHd] at *
    go_enter Tryz.func21, Tryz.ntmps21
    go_wp2_with (first | (go_at_call 43; refine Calls.mono hget ?_; rintro e w1 ⟨rfl, rfl⟩) | (go_at_call 44; refine Calls.mono hshape ?_; rintro e w1 ⟨rfl, rfl⟩) | (go_at_call 45; refine Calls.mono (hwords _) ?_; rintro e w1 ⟨rfl, u1⟩; have U1 := U0.under0 u1; obtain ⟨d0, d1, d2, d3, d4, d5, d6⟩ := hd_cells (x := ⟨p + c, p, 0, s.parity, false, false, false⟩) U1.inn.head; simp only at d0 d1 d2 d3 d4 d5 d6) | (go_at_call 46; refine Calls.mono (hroom _ _ U1.inn.tail hc0) ?_; rintro e w2 ⟨rfl, u2⟩; have U2 := U1.under u2; obtain ⟨p1, p2, p3, p4, p5, p6⟩ := core_ptrs (In.core (x := [_]) U2.inn); clear p1 p3 p4 p5 p6; simp only [ptr] at p2) | (go_at_call 47; refine Calls.mono (htake _ _ (In.young (x := [_]) U2.inn) cy) ?_; rintro e w3 ⟨rfl, hy', cy', u3⟩; have U3 := Upd.young (x := [_]) U2 u3; clear d0 d1 d2 d3 d4 d5 d6; obtain ⟨d0, d1, d2, d3, d4, d5, d6⟩ := hd_cells (x := ⟨p + c, p, 0, s.parity, false, false, false⟩) U3.inn.head; simp only at d0 d1 d2 d3 d4 d5 d6; obtain ⟨p1, p2, p3, p4, p5, p6⟩ := core_ptrs U3.inn.core; clear p2 p3 p4 p5 p6; simp only [ptr] at p1; have U3d := U3.drew'))
    refine wp_tail 6 (by kernel_rfl) (by kernel_rfl) fun w6 hw6 => ?_
    subst hw6
    simp only [List.take_succ_cons, List.take_zero, List.drop_succ_cons, List.drop_zero]
    repeat (refine wpStill_step (fun K hK => ?_); have HK := Lib.hid hK; clear hK; go_simp; refine HK.out _ ?_; clear HK K)
    refine wpStill_nil ?_
    go_wp2_with (first | (go_at_call 48; refine Calls.mono (hmk _ _ (Upd.inn U3d).arena ca) ?_; rintro e w4 ⟨rfl, ha', ca', u4⟩; have U4 := (Upd.arena (x := [_]) U3d u4).drop1; obtain ⟨t0, t1, t2, t3, t4, t5, t6, t7⟩ := core_stats (In.core (x := []) U4.inn); clear t2 t3 t4 t5 t6 t7; obtain ⟨p1, p2, p3, p4, p5, p6⟩ := core_ptrs (In.core (x := []) U4.inn); clear p1 p2 p3 p4 p5; simp only [ptr] at p6; have F := core_frozen (In.core (x := []) U4.inn); have f0 := F 26; have f1 := F 27; clear F; have U5 := Upd.cset_words (x := []) (Upd.cset_allocs (x := []) U4 (wrap64 (s.done.allocs + 1))) (wrap64 (s.done.words + (p + c + 2)))) | (go_at_call 49; refine Calls.mono (hset _ _ (In.table (x := []) U5.inn) ct) ?_; rintro e w5 ⟨rfl, ht', ct', u5⟩; have U6 := Upd.table (x := []) U5 u5))
    go_ret
    exact ⟨rfl, _, HH.out _ ⟨v, ha', hy', ho, hr, hg, ht', hw, rfl, ca', cy', co, cr, cg, ct', cw⟩, U6⟩


end Go.Proofs.YtglbhcoikgbcmaaGreat
