/- What Set and Get of package core come to. Conditions: a core as New makes it. -/
import Derived.Test.YtglbhcoikgbcmaaGreatRows
import Derived.Test.YtglbhcoikgbcmaaGreatLib
import Derived.Test.YtglbhcoikgbcmaaGreatCoreD
set_option linter.unusedVariables false
set_option linter.unusedSimpArgs false
namespace Go.Proofs.YtglbhcoikgbcmaaGreat
open Go.RowKit

def CoreS.refOk (s : CoreS) (i n : Int) : Bool := decide (0 ≤ n ∧ n < (s.objH i).ptrs)
def CoreS.refE (s : CoreS) (i n k : Int) : Int := if s.objE i = 0 then (if tblOk s.t k then (if s.refOk i n then 0 else 5) else 3) else s.objE i
def CoreS.put (s : CoreS) (i n k : Int) : CoreS := { s with ws := stW s.ws (place (tblGet s.t i) n) (u64 (tblGet s.t k)) }
def CoreS.setTo (s : CoreS) (i n k : Int) : CoreS := if s.y.isIn (tblGet s.t k) then (s.put i n k).note (tblGet s.t i) else s.put i n k
def CoreS.set (s : CoreS) (i n k : Int) : CoreS := if s.refE i n k = 0 then s.setTo i n k else s

set_option maxRecDepth 100000 in
set_option maxHeartbeats 2000000 in
theorem core_set (pc : Nat) (L : CoreL) (s : CoreS) (i n k : Int) (w : World) (h : Hp) (hi : In w h) (hc : CoreH pc L s h) :
    Calls Tryz.prog 22 #[ptr pc, .int .i64 i, .int .i64 n, .int .i64 k] w fun e w' =>
      e = .returned (.int .i64 (s.refE i n k)) ∧ ∃ h', CoreH pc L (s.set i n k) h' ∧ Upd h h' w w' := by
  have ho := core_object pc L s i w h hi hc
  have hnums : (∀ x ∈ s.t, I64 x) := by obtain ⟨v, ha, hy, ho', hr, hg, ht, hw, hh, ca, cy, co, cr, cg, ct, cw⟩ := hc; exact ct.nums
  have hget := fun W h (hiW : In W h) (ht : TableH L.pt s.t h) => table_get L.pt s.t k W h hiW ht
  have hkb := tblGet_I64 hnums k
  have hib := tblGet_I64 hnums i
  obtain ⟨g1, g2, g3, g4, g5, g6, g7⟩ := s.objH_good i
  by_cases he : s.objE i = 0
  case neg =>
    have e1 : s.refE i n k = s.objE i := by simp [CoreS.refE, he]
    have e2 : s.set i n k = s := by simp [CoreS.set, e1, he]
    have hne : (s.objE i != 0) = true := by simpa using he
    rw [e1, e2]
    generalize s.objH i = H at *
    generalize s.objE i = E at *
    clear e1 e2 g1 g2 g3 g4 g5 g6 g7
    simp only [ptr, hdCells] at *
    go_enter Tryz.func22, Tryz.ntmps22
    go_wp2_with (go_at_call 50; refine Calls.mono ho ?_; rintro e w1 ⟨rfl, h', c1, u1⟩)
    go_ret
    exact ⟨rfl, h', c1, u1.skip' _⟩
  by_cases hk : tblOk s.t k = true
  case neg =>
    have e1 : s.refE i n k = 3 := by simp [CoreS.refE, he, hk]
    have e2 : s.set i n k = s := by simp [CoreS.set, e1]
    rw [e1, e2]
    have e3 : tblErr s.t k = 3 := by simp [tblErr, hk]
    rw [he] at ho
    rw [e3] at hget
    clear e1 e2 e3 he hk
    generalize tblGet s.t i = j at *
    generalize s.objH i = H at *
    clear g1 g2 g3 g4 g5 g6 g7
    simp only [ptr, hdCells] at *
    go_enter Tryz.func22, Tryz.ntmps22
    go_wp2_with (first | (go_at_call 50; refine Calls.mono ho ?_; rintro e w1 ⟨rfl, h', ⟨v, ha, hy, ho', hr, hg, ht, hw, rfl, ca, cy, co, cr, cg, ct, cw⟩, u1⟩; have U1 := Upd.box (x := []) u1 (.cells (hdCells H) 112 (0, 0)); obtain ⟨p1, p2, p3, p4, p5, p6⟩ := core_ptrs U1.inn.core; clear p2 p3 p4 p5; simp only [ptr, hdCells] at p1 p6) | (go_at_call 43; refine Calls.mono (hget _ _ (Upd.inn U1).table ct) ?_; rintro e w2 ⟨rfl, rfl⟩))
    go_ret
    exact ⟨rfl, _, ⟨v, ha, hy, ho', hr, hg, ht, hw, rfl, ca, cy, co, cr, cg, ct, cw⟩, U1.drop1⟩
  have e3 : tblErr s.t k = 0 := by simp [tblErr, hk]
  rw [he] at ho
  rw [e3] at hget
  by_cases hn : s.refOk i n = true
  case neg =>
    have e1 : s.refE i n k = 5 := by simp [CoreS.refE, he, hk, hn]
    have e2 : s.set i n k = s := by simp [CoreS.set, e1]
    rw [e1, e2]
    simp only [CoreS.refOk, decide_eq_true_eq] at hn
    clear e1 e2 e3 he hk
    generalize tblGet s.t i = j at *
    generalize s.objH i = H at *
    by_cases k1 : 0 ≤ n
    · have k2 : H.ptrs ≤ n := by omega
      clear g7 hn
      simp only [ptr, hdCells] at *
      go_enter Tryz.func22, Tryz.ntmps22
      go_wp2_with (first | (go_at_call 50; refine Calls.mono ho ?_; rintro e w1 ⟨rfl, h', ⟨v, ha, hy, ho', hr, hg, ht, hw, rfl, ca, cy, co, cr, cg, ct, cw⟩, u1⟩; have U1 := Upd.box (x := []) u1 (.cells (hdCells H) 112 (0, 0)); obtain ⟨p1, p2, p3, p4, p5, p6⟩ := core_ptrs U1.inn.core; clear p2 p3 p4 p5; simp only [ptr, hdCells] at p1 p6) | (go_at_call 43; refine Calls.mono (hget _ _ (Upd.inn U1).table ct) ?_; rintro e w2 ⟨rfl, rfl⟩))
      go_ret
      exact ⟨rfl, _, ⟨v, ha, hy, ho', hr, hg, ht, hw, rfl, ca, cy, co, cr, cg, ct, cw⟩, U1.drop1⟩
    · skip
      clear g7 hn
      simp only [ptr, hdCells] at *
      go_enter Tryz.func22, Tryz.ntmps22
      go_wp2_with (first | (go_at_call 50; refine Calls.mono ho ?_; rintro e w1 ⟨rfl, h', ⟨v, ha, hy, ho', hr, hg, ht, hw, rfl, ca, cy, co, cr, cg, ct, cw⟩, u1⟩; have U1 := Upd.box (x := []) u1 (.cells (hdCells H) 112 (0, 0)); obtain ⟨p1, p2, p3, p4, p5, p6⟩ := core_ptrs U1.inn.core; clear p2 p3 p4 p5; simp only [ptr, hdCells] at p1 p6) | (go_at_call 43; refine Calls.mono (hget _ _ (Upd.inn U1).table ct) ?_; rintro e w2 ⟨rfl, rfl⟩))
      go_ret
      exact ⟨rfl, _, ⟨v, ha, hy, ho', hr, hg, ht, hw, rfl, ca, cy, co, cr, cg, ct, cw⟩, U1.drop1⟩
  have e1 : s.refE i n k = 0 := by simp [CoreS.refE, he, hk, hn]
  have e2 : s.set i n k = s.setTo i n k := by simp [CoreS.set, e1]
  rw [e1, e2]
  simp only [CoreS.refOk, decide_eq_true_eq] at hn
  obtain ⟨n1, n2⟩ := hn
  have hnote := fun W h (hiW : In W h) (hc : CoreH pc L (s.put i n k) h) => core_note pc L (s.put i n k) (tblGet s.t i) W h hiW hc hib
  have hwr : IntKind.u64.wrap (tblGet s.t k) = u64 (tblGet s.t k) := IntKind.wrap_u64 _
  have hfld := fun W h (hiW : In W h) (ha : ArenaH L.pa s.ws h) => obj_setfield L.pa s.ws (tblGet s.t i) n (u64 (tblGet s.t k)) W h hiW ha (U64_u64 _)
  have hin := fun W h (hiW : In W h) (hy : YoungH L.py s.y h) => bump_in L.py s.y (tblGet s.t k) W h hiW hy hkb
  cases hI : s.y.isIn (tblGet s.t k)
  · have e4 : s.setTo i n k = s.put i n k := by simp [CoreS.setTo, hI]
    rw [e4]
    rw [hI] at hin
    simp only [CoreS.put]
    clear e1 e2 e3 e4 he hk hI hnote hnums
    generalize tblGet s.t i = j at *
    generalize tblGet s.t k = r at *
    generalize s.objH i = H at *
    clear g7
    simp only [ptr, hdCells] at *
    go_enter Tryz.func22, Tryz.ntmps22
    go_wp2_with (first | (go_at_call 50; refine Calls.mono ho ?_; rintro e w1 ⟨rfl, h', ⟨v, ha, hy, ho', hr, hg, ht, hw, rfl, ca, cy, co, cr, cg, ct, cw⟩, u1⟩; have U1 := Upd.box (x := []) u1 (.cells (hdCells H) 112 (0, 0)); obtain ⟨p1, p2, p3, p4, p5, p6⟩ := core_ptrs U1.inn.core; clear p2 p3 p4 p5; simp only [ptr, hdCells] at p1 p6) | (go_at_call 43; refine Calls.mono (hget _ _ (Upd.inn U1).table ct) ?_; rintro e w2 ⟨rfl, rfl⟩) | (go_at_call 51; refine Calls.mono (hfld _ _ (Upd.inn U1).arena ca) ?_; rintro e w3 ⟨rfl, ha', ca', u3⟩; have U3 := Upd.arena (x := [_]) U1 u3; obtain ⟨p1, p2, p3, p4, p5, p6⟩ := core_ptrs U3.inn.core; clear p1 p3 p4 p5 p6; simp only [ptr] at p2) | (go_at_call 52; refine Calls.mono (hin _ _ (Upd.inn U3).young cy) ?_; rintro e w4 ⟨rfl, u4⟩; have U4 := Upd.young (x := [_]) U3 u4))
    go_ret
    exact ⟨rfl, _, ⟨v, ha', hy, ho', hr, hg, ht, hw, rfl, ca', cy, co, cr, cg, ct, cw⟩, U4.drop1⟩
  · have e4 : s.setTo i n k = (s.put i n k).note (tblGet s.t i) := by simp [CoreS.setTo, hI]
    rw [e4]
    rw [hI] at hin
    clear e1 e2 e3 e4 he hk hI hnums
    have hPc : ∀ h, CoreH pc L { s with ws := stW s.ws (place (tblGet s.t i) n) (u64 (tblGet s.t k)) } h → CoreH pc L (s.put i n k) h := fun h hh => hh
    have HP := Lib.hid hPc
    clear hPc
    generalize s.put i n k = P at *
    generalize tblGet s.t i = j at *
    generalize tblGet s.t k = r at *
    generalize s.objH i = H at *
    clear g7
    simp only [ptr, hdCells] at *
    go_enter Tryz.func22, Tryz.ntmps22
    go_wp2_with (first | (go_at_call 50; refine Calls.mono ho ?_; rintro e w1 ⟨rfl, h', ⟨v, ha, hy, ho', hr, hg, ht, hw, rfl, ca, cy, co, cr, cg, ct, cw⟩, u1⟩; have U1 := Upd.box (x := []) u1 (.cells (hdCells H) 112 (0, 0)); obtain ⟨p1, p2, p3, p4, p5, p6⟩ := core_ptrs U1.inn.core; clear p2 p3 p4 p5; simp only [ptr, hdCells] at p1 p6) | (go_at_call 43; refine Calls.mono (hget _ _ (Upd.inn U1).table ct) ?_; rintro e w2 ⟨rfl, rfl⟩) | (go_at_call 51; refine Calls.mono (hfld _ _ (Upd.inn U1).arena ca) ?_; rintro e w3 ⟨rfl, ha', ca', u3⟩; have U3 := Upd.arena (x := [_]) U1 u3; obtain ⟨p1, p2, p3, p4, p5, p6⟩ := core_ptrs U3.inn.core; clear p1 p3 p4 p5 p6; simp only [ptr] at p2) | (go_at_call 52; refine Calls.mono (hin _ _ (Upd.inn U3).young cy) ?_; rintro e w4 ⟨rfl, u4⟩; have U4 := Upd.young (x := [_]) U3 u4) | (go_at_call 53; refine Calls.mono (hnote _ _ U4.drop1.inn (HP.out _ ⟨v, ha', hy, ho', hr, hg, ht, hw, rfl, ca', cy, co, cr, cg, ct, cw⟩)) ?_; rintro e w5 ⟨rfl, h5, c5, u5⟩; have U5 := U4.drop1.trans u5))
    go_ret
    exact ⟨rfl, _, c5, U5⟩

set_option maxRecDepth 100000 in
set_option maxHeartbeats 2000000 in
theorem core_get (pc : Nat) (L : CoreL) (s : CoreS) (S1 S2 : CoreS) (r k i n : Int) (hok : s.refE i n k = 0) (w : World) (h : Hp) (hi : In w h) (hc : CoreH pc L s h) (hr : I64 r)
    (hmove : ∀ W h, In W h → CoreH pc L s h → Calls Tryz.prog 54 #[ptr pc, .int .i64 (refS s.ws (tblGet s.t i) n)] W fun e w' => e = .returned (.int .i64 r) ∧ ∃ h', CoreH pc L S1 h' ∧ Upd h h' W w')
    (hmark : ∀ W h, In W h → CoreH pc L S1 h → Calls Tryz.prog 56 #[ptr pc, .int .i64 r] W fun e w' => e = .returned (.tuple #[]) ∧ ∃ h', CoreH pc L S2 h' ∧ Upd h h' W w') :
    Calls Tryz.prog 24 #[ptr pc, .int .i64 k, .int .i64 i, .int .i64 n] w fun e w' =>
      e = .returned (.int .i64 (tblErr S2.t k)) ∧ ∃ h', CoreH pc L { S2 with t := tblSet S2.t k r } h' ∧ Upd h h' w w' := by
  have ho := core_object pc L s i w h hi hc
  have he : s.objE i = 0 := by
    simp only [CoreS.refE] at hok
    split at hok
    · assumption
    · rename_i h1
      exact absurd hok h1
  have hk : tblOk s.t k = true := by
    simp only [CoreS.refE, if_pos he] at hok
    split at hok
    · assumption
    · cases hok
  have hn : s.refOk i n = true := by
    simp only [CoreS.refE, if_pos he, if_pos hk] at hok
    split at hok
    · assumption
    · cases hok
  have hget := fun W h (hiW : In W h) (ht : TableH L.pt s.t h) => table_get L.pt s.t k W h hiW ht
  have href := fun W h (hiW : In W h) (hc : CoreH pc L s h) => core_ref pc L s (tblGet s.t i) n W h hiW hc
  have hset := fun W h (hiW : In W h) (ht : TableH L.pt S2.t h) => table_set L.pt S2.t k r W h hiW ht hr
  obtain ⟨g1, g2, g3, g4, g5, g6, g7⟩ := s.objH_good i
  have e3 : tblErr s.t k = 0 := by simp [tblErr, hk]
  rw [he] at ho
  rw [e3] at hget
  simp only [CoreS.refOk, decide_eq_true_eq] at hn
  obtain ⟨n1, n2⟩ := hn
  clear hok he hk e3 g7
  generalize refS s.ws (tblGet s.t i) n = q at *
  generalize tblGet s.t i = j at *
  generalize s.objH i = H at *
  simp only [ptr, hdCells] at *
  have HM := Lib.hid hmove
  have HK := Lib.hid hmark
  clear hmove hmark
  go_enter Tryz.func24, Tryz.ntmps24
  go_wp2_with (first | (go_at_call 50; refine Calls.mono ho ?_; rintro e w1 ⟨rfl, h', ⟨v, ha, hy, ho', hr, hg, ht, hw, rfl, ca, cy, co, cr, cg, ct, cw⟩, u1⟩; have U1 := Upd.box (x := []) u1 (.cells (hdCells H) 112 (0, 0)); obtain ⟨p1, p2, p3, p4, p5, p6⟩ := core_ptrs U1.inn.core; clear p2 p3 p4 p5; simp only [ptr, hdCells] at p1 p6) | (go_at_call 43; refine Calls.mono (hget _ _ (Upd.inn U1).table ct) ?_; rintro e w2 ⟨rfl, rfl⟩) | (go_at_call 55; refine Calls.mono (href _ _ U1.drop1.inn ⟨v, ha, hy, ho', hr, hg, ht, hw, rfl, ca, cy, co, cr, cg, ct, cw⟩) ?_; rintro e w3 ⟨rfl, h3, c3, u3⟩; have U3 := U1.drop1.trans u3) | (go_at_call 54; refine Calls.mono (HM.out _ _ U3.inn c3) ?_; rintro e w4 ⟨rfl, h4, c4, u4⟩; have U4 := U3.trans u4) | (go_at_call 56; refine Calls.mono (HK.out _ _ U4.inn c4) ?_; rintro e w5 ⟨rfl, h5, ⟨v5, ha5, hy5, ho5, hr5, hg5, ht5, hw5, rfl, ca5, cy5, co5, cr5, cg5, ct5, cw5⟩, u5⟩; have U5 := U4.trans u5; obtain ⟨p1, p2, p3, p4, p5, p6⟩ := core_ptrs (In.core (x := []) U5.inn); clear p1 p2 p3 p4 p5; simp only [ptr] at p6) | (go_at_call 49; refine Calls.mono (hset _ _ (In.table (x := []) U5.inn) ct5) ?_; rintro e w6 ⟨rfl, ht6, ct6, u6⟩; have U6 := Upd.table (x := []) U5 u6))
  go_ret
  exact ⟨rfl, _, ⟨v5, ha5, hy5, ho5, hr5, hg5, ht6, hw5, rfl, ca5, cy5, co5, cr5, cg5, ct6, cw5⟩, U6⟩

set_option maxRecDepth 100000 in
set_option maxHeartbeats 2000000 in
theorem core_getno (pc : Nat) (L : CoreL) (s : CoreS) (k i n : Int) (hbad : s.refE i n k ≠ 0) (w : World) (h : Hp) (hi : In w h) (hc : CoreH pc L s h) :
    Calls Tryz.prog 24 #[ptr pc, .int .i64 k, .int .i64 i, .int .i64 n] w fun e w' =>
      e = .returned (.int .i64 (s.refE i n k)) ∧ ∃ h', CoreH pc L s h' ∧ Upd h h' w w' := by
  have ho := core_object pc L s i w h hi hc
  have hget := fun W h (hiW : In W h) (ht : TableH L.pt s.t h) => table_get L.pt s.t k W h hiW ht
  obtain ⟨g1, g2, g3, g4, g5, g6, g7⟩ := s.objH_good i
  have HB := Lib.hid hbad
  clear hbad
  by_cases he : s.objE i = 0
  case neg =>
    have e1 : s.refE i n k = s.objE i := by simp [CoreS.refE, he]
    have e2 : True := trivial
    have hne : (s.objE i != 0) = true := by simpa using he
    rw [e1]
    generalize s.objH i = H at *
    generalize s.objE i = E at *
    clear e1 e2 g1 g2 g3 g4 g5 g6 g7
    simp only [ptr, hdCells] at *
    go_enter Tryz.func24, Tryz.ntmps24
    go_wp2_with (go_at_call 50; refine Calls.mono ho ?_; rintro e w1 ⟨rfl, h', c1, u1⟩)
    go_ret
    exact ⟨rfl, h', c1, u1.skip' _⟩
  by_cases hk : tblOk s.t k = true
  case neg =>
    have e1 : s.refE i n k = 3 := by simp [CoreS.refE, he, hk]
    have e2 : True := trivial
    rw [e1]
    have e3 : tblErr s.t k = 3 := by simp [tblErr, hk]
    rw [he] at ho
    rw [e3] at hget
    clear e1 e2 e3 he hk
    generalize tblGet s.t i = j at *
    generalize s.objH i = H at *
    clear g1 g2 g3 g4 g5 g6 g7
    simp only [ptr, hdCells] at *
    go_enter Tryz.func24, Tryz.ntmps24
    go_wp2_with (first | (go_at_call 50; refine Calls.mono ho ?_; rintro e w1 ⟨rfl, h', ⟨v, ha, hy, ho', hr, hg, ht, hw, rfl, ca, cy, co, cr, cg, ct, cw⟩, u1⟩; have U1 := Upd.box (x := []) u1 (.cells (hdCells H) 112 (0, 0)); obtain ⟨p1, p2, p3, p4, p5, p6⟩ := core_ptrs U1.inn.core; clear p2 p3 p4 p5; simp only [ptr, hdCells] at p1 p6) | (go_at_call 43; refine Calls.mono (hget _ _ (Upd.inn U1).table ct) ?_; rintro e w2 ⟨rfl, rfl⟩))
    go_ret
    exact ⟨rfl, _, ⟨v, ha, hy, ho', hr, hg, ht, hw, rfl, ca, cy, co, cr, cg, ct, cw⟩, U1.drop1⟩
  have e3 : tblErr s.t k = 0 := by simp [tblErr, hk]
  rw [he] at ho
  rw [e3] at hget
  by_cases hn : s.refOk i n = true
  case neg =>
    have e1 : s.refE i n k = 5 := by simp [CoreS.refE, he, hk, hn]
    have e2 : True := trivial
    rw [e1]
    simp only [CoreS.refOk, decide_eq_true_eq] at hn
    clear e1 e2 e3 he hk
    generalize tblGet s.t i = j at *
    generalize s.objH i = H at *
    by_cases k1 : 0 ≤ n
    · have k2 : H.ptrs ≤ n := by omega
      clear g7 hn
      simp only [ptr, hdCells] at *
      go_enter Tryz.func24, Tryz.ntmps24
      go_wp2_with (first | (go_at_call 50; refine Calls.mono ho ?_; rintro e w1 ⟨rfl, h', ⟨v, ha, hy, ho', hr, hg, ht, hw, rfl, ca, cy, co, cr, cg, ct, cw⟩, u1⟩; have U1 := Upd.box (x := []) u1 (.cells (hdCells H) 112 (0, 0)); obtain ⟨p1, p2, p3, p4, p5, p6⟩ := core_ptrs U1.inn.core; clear p2 p3 p4 p5; simp only [ptr, hdCells] at p1 p6) | (go_at_call 43; refine Calls.mono (hget _ _ (Upd.inn U1).table ct) ?_; rintro e w2 ⟨rfl, rfl⟩))
      go_ret
      exact ⟨rfl, _, ⟨v, ha, hy, ho', hr, hg, ht, hw, rfl, ca, cy, co, cr, cg, ct, cw⟩, U1.drop1⟩
    · skip
      clear g7 hn
      simp only [ptr, hdCells] at *
      go_enter Tryz.func24, Tryz.ntmps24
      go_wp2_with (first | (go_at_call 50; refine Calls.mono ho ?_; rintro e w1 ⟨rfl, h', ⟨v, ha, hy, ho', hr, hg, ht, hw, rfl, ca, cy, co, cr, cg, ct, cw⟩, u1⟩; have U1 := Upd.box (x := []) u1 (.cells (hdCells H) 112 (0, 0)); obtain ⟨p1, p2, p3, p4, p5, p6⟩ := core_ptrs U1.inn.core; clear p2 p3 p4 p5; simp only [ptr, hdCells] at p1 p6) | (go_at_call 43; refine Calls.mono (hget _ _ (Upd.inn U1).table ct) ?_; rintro e w2 ⟨rfl, rfl⟩))
      go_ret
      exact ⟨rfl, _, ⟨v, ha, hy, ho', hr, hg, ht, hw, rfl, ca, cy, co, cr, cg, ct, cw⟩, U1.drop1⟩
  exact absurd (by simp [CoreS.refE, he, hk, hn]) HB.out

end Go.Proofs.YtglbhcoikgbcmaaGreat
