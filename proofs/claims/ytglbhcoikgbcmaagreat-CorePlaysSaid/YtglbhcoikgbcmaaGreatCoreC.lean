/- What Read, Write, Now and Note of package core come to. Conditions: a core as New makes it. -/
import Derived.Test.YtglbhcoikgbcmaaGreatRows
import Derived.Test.YtglbhcoikgbcmaaGreatLib
import Derived.Test.YtglbhcoikgbcmaaGreatCoreB
import Derived.Deep.RegionHeld3
set_option linter.unusedVariables false
set_option linter.unusedSimpArgs false
namespace Go.Proofs.YtglbhcoikgbcmaaGreat
open Go.RowKit

def CoreS.scalOk (s : CoreS) (i n : Int) : Bool := decide (0 ≤ n ∧ n < (s.objH i).size - (s.objH i).ptrs)
def CoreS.scalAt (s : CoreS) (i n : Int) : Int := place (tblGet s.t i) ((s.objH i).ptrs + n)
def CoreS.scalE (s : CoreS) (i n : Int) : Int := if s.objE i = 0 then (if s.scalOk i n then errW s.ws.length (s.scalAt i n) 1 else 5) else s.objE i
def CoreS.readV (s : CoreS) (i n : Int) : Int := if s.objE i = 0 ∧ s.scalOk i n = true then ldW s.ws (s.scalAt i n) else 0
def CoreS.writeW (s : CoreS) (i n x : Int) : List Int := if s.objE i = 0 ∧ s.scalOk i n = true then stW s.ws (s.scalAt i n) x else s.ws

theorem CoreS.objH_good (s : CoreS) (i : Int) : (s.objH i).Good := by unfold CoreS.objH; split; exact unH_good _; exact hd0_good

set_option maxRecDepth 100000 in
set_option maxHeartbeats 2000000 in
theorem core_read (pc : Nat) (L : CoreL) (s : CoreS) (i n : Int) (w : World) (h : Hp) (hi : In w h) (hc : CoreH pc L s h) :
    Calls Tryz.prog 25 #[ptr pc, .int .i64 i, .int .i64 n] w fun e w' =>
      e = .returned (.tuple #[.int .u64 (s.readV i n), .int .i64 (s.scalE i n)]) ∧ ∃ h', CoreH pc L s h' ∧ Upd h h' w w' := by
  have ho := core_object pc L s i w h hi hc
  obtain ⟨g1, g2, g3, g4, g5, g6, g7⟩ := s.objH_good i
  by_cases he : s.objE i = 0
  · by_cases hk : s.scalOk i n = true
    · have e1 : s.scalE i n = errW s.ws.length (s.scalAt i n) 1 := by simp [CoreS.scalE, he, hk]
      have e2 : s.readV i n = ldW s.ws (s.scalAt i n) := by simp [CoreS.readV, he, hk]
      have e3 : s.scalAt i n = place (tblGet s.t i) ((s.objH i).ptrs + n) := rfl
      rw [e1, e2, e3]
      simp only [CoreS.scalOk, decide_eq_true_eq] at hk
      obtain ⟨k1, k2⟩ := hk
      rw [he] at ho
      clear e1 e2 e3 he
      generalize tblGet s.t i = j at *
      generalize s.objH i = H at *
      have hw2 : IntKind.i64.wrap (H.size - H.ptrs) = H.size - H.ptrs := IntWalk.i64_in _ (by omega)
      have hw3 : IntKind.i64.wrap (H.ptrs + n) = H.ptrs + n := IntWalk.i64_in _ (by omega)
      have hl := fun W h (hiW : In W h) (ha : ArenaH L.pa s.ws h) => obj_field L.pa s.ws j (H.ptrs + n) W h hiW ha
      clear g7
      simp only [ptr, hdCells] at *
      go_enter Tryz.func25, Tryz.ntmps25
      go_wp2_with (go_at_call 50; refine Calls.mono ho ?_; rintro e w1 ⟨rfl, h', ⟨v, ha, hy, ho', hr, hg, ht, hw, rfl, ca, cy, co, cr, cg, ct, cw⟩, u1⟩; have U1 := Upd.box (x := []) u1 (.cells (hdCells H) 112 (0, 0)); obtain ⟨p1, p2, p3, p4, p5, p6⟩ := core_ptrs U1.inn.core; clear p2 p3 p4 p5 p6; simp only [ptr, hdCells] at p1)
      have U1d := U1.drew'
      have hSd : (w1.alloc (.cells #[.int .i64 H.size, .int .i64 H.ptrs, .int .i64 H.age, .int .i64 H.parity, .bool H.grey, .bool H.noted, .bool H.old] 112 (0, 0))).drew.cell? ⟨pc, 13, none⟩ = some (.pointer (some ⟨L.pa, 0, none⟩)) ∧ (w1.alloc (.cells #[.int .i64 H.size, .int .i64 H.ptrs, .int .i64 H.age, .int .i64 H.parity, .bool H.grey, .bool H.noted, .bool H.old] 112 (0, 0))).drew.cell? ⟨w1.heap.size, 1, none⟩ = some (.int .i64 H.ptrs) := ⟨p1, cell_of U1.inn.head 1⟩
      go_region_held3 (fun w' => w'.cell? ⟨pc, 13, none⟩ = some (.pointer (some ⟨L.pa, 0, none⟩)) ∧ w'.cell? ⟨w1.heap.size, 1, none⟩ = some (.int .i64 H.ptrs))
        (first | exact hS3 | exact hSd | go_keep)
        (first | (go_at_call 57; refine Calls.mono (hl _ _ (Upd.inn U1d).arena ca) ?_; rintro e w3 ⟨rfl, ha', ca', u3⟩; have U3 := Upd.arena (x := [_]) U1d u3; have hS3 : w3.cell? ⟨pc, 13, none⟩ = some (.pointer (some ⟨L.pa, 0, none⟩)) ∧ w3.cell? ⟨w1.heap.size, 1, none⟩ = some (.int .i64 H.ptrs) := ⟨cell_of U3.inn.core 13, cell_of U3.inn.head 1⟩))
      go_wp2

      go_ret2
      exact ⟨rfl, _, ⟨v, ha', hy, ho', hr, hg, ht, hw, rfl, ca', cy, co, cr, cg, ct, cw⟩, U3.drop1⟩
    · have e1 : s.scalE i n = 5 := by simp [CoreS.scalE, he, hk]
      have e2 : s.readV i n = 0 := by simp [CoreS.readV, hk]
      rw [e1, e2]
      simp only [CoreS.scalOk, decide_eq_true_eq] at hk
      rw [he] at ho
      clear e1 e2 he
      generalize tblGet s.t i = j at *
      generalize s.objH i = H at *
      have hw2 : IntKind.i64.wrap (H.size - H.ptrs) = H.size - H.ptrs := IntWalk.i64_in _ (by omega)
      by_cases k1 : 0 ≤ n
      · have k2 : H.size - H.ptrs ≤ n := by omega
        clear g7 hk
        simp only [ptr, hdCells] at *
        go_enter Tryz.func25, Tryz.ntmps25
        go_wp2_with (go_at_call 50; refine Calls.mono ho ?_; rintro e w1 ⟨rfl, h', c1, u1⟩)
        go_ret2
        exact ⟨rfl, h', c1, u1.skip' _⟩
      · clear g7 hk
        simp only [ptr, hdCells] at *
        go_enter Tryz.func25, Tryz.ntmps25
        go_wp2_with (go_at_call 50; refine Calls.mono ho ?_; rintro e w1 ⟨rfl, h', c1, u1⟩)
        go_ret2
        exact ⟨rfl, h', c1, u1.skip' _⟩
  · have e1 : s.scalE i n = s.objE i := by simp [CoreS.scalE, he]
    have e2 : s.readV i n = 0 := by simp [CoreS.readV, he]
    have hne : (s.objE i != 0) = true := by simpa using he
    rw [e1, e2]
    generalize s.objH i = H at *
    generalize s.objE i = E at *
    clear e1 e2 g1 g2 g3 g4 g5 g6 g7
    simp only [ptr, hdCells] at *
    go_enter Tryz.func25, Tryz.ntmps25
    go_wp2_with (go_at_call 50; refine Calls.mono ho ?_; rintro e w1 ⟨rfl, h', c1, u1⟩)
    go_ret2
    exact ⟨rfl, h', c1, u1.skip' _⟩

set_option maxRecDepth 100000 in
set_option maxHeartbeats 2000000 in
theorem core_write (pc : Nat) (L : CoreL) (s : CoreS) (i n x : Int) (w : World) (h : Hp) (hi : In w h) (hc : CoreH pc L s h) (hx : U64 x) :
    Calls Tryz.prog 23 #[ptr pc, .int .i64 i, .int .i64 n, .int .u64 x] w fun e w' =>
      e = .returned (.int .i64 (s.scalE i n)) ∧ ∃ h', CoreH pc L { s with ws := s.writeW i n x } h' ∧ Upd h h' w w' := by
  have ho := core_object pc L s i w h hi hc
  obtain ⟨g1, g2, g3, g4, g5, g6, g7⟩ := s.objH_good i
  by_cases he : s.objE i = 0
  · by_cases hk : s.scalOk i n = true
    · have e1 : s.scalE i n = errW s.ws.length (s.scalAt i n) 1 := by simp [CoreS.scalE, he, hk]
      have e2 : s.writeW i n x = stW s.ws (s.scalAt i n) x := by simp [CoreS.writeW, he, hk]
      have e3 : s.scalAt i n = place (tblGet s.t i) ((s.objH i).ptrs + n) := rfl
      rw [e1, e2, e3]
      simp only [CoreS.scalOk, decide_eq_true_eq] at hk
      obtain ⟨k1, k2⟩ := hk
      rw [he] at ho
      clear e1 e2 e3 he
      generalize tblGet s.t i = j at *
      generalize s.objH i = H at *
      have hw2 : IntKind.i64.wrap (H.size - H.ptrs) = H.size - H.ptrs := IntWalk.i64_in _ (by omega)
      have hw3 : IntKind.i64.wrap (H.ptrs + n) = H.ptrs + n := IntWalk.i64_in _ (by omega)
      have hl := fun W h (hiW : In W h) (ha : ArenaH L.pa s.ws h) => obj_setfield L.pa s.ws j (H.ptrs + n) x W h hiW ha hx
      clear g7
      simp only [ptr, hdCells] at *
      go_enter Tryz.func23, Tryz.ntmps23
      go_wp2_with (go_at_call 50; refine Calls.mono ho ?_; rintro e w1 ⟨rfl, h', ⟨v, ha, hy, ho', hr, hg, ht, hw, rfl, ca, cy, co, cr, cg, ct, cw⟩, u1⟩; have U1 := Upd.box (x := []) u1 (.cells (hdCells H) 112 (0, 0)); obtain ⟨p1, p2, p3, p4, p5, p6⟩ := core_ptrs U1.inn.core; clear p2 p3 p4 p5 p6; simp only [ptr, hdCells] at p1)
      have U1d := U1.drew'
      refine wp_tail 10 (by kernel_rfl) (by kernel_rfl) fun w2 hw2 => ?_
      subst hw2
      simp only [List.take_succ_cons, List.take_zero, List.drop_succ_cons, List.drop_zero]
      repeat (refine wpStill_step (fun K hK => ?_); have HK := Lib.hid hK; clear hK; go_simp; refine HK.out _ ?_; clear HK K)
      refine wpStill_nil ?_
      go_wp2_with (go_at_call 51; refine Calls.mono (hl _ _ (Upd.inn U1d).arena ca) ?_; rintro e w3 ⟨rfl, ha', ca', u3⟩; have U3 := Upd.arena (x := [_]) U1d u3)

      go_ret
      exact ⟨rfl, _, ⟨v, ha', hy, ho', hr, hg, ht, hw, rfl, ca', cy, co, cr, cg, ct, cw⟩, U3.drop1⟩
    · have e1 : s.scalE i n = 5 := by simp [CoreS.scalE, he, hk]
      have e2 : s.writeW i n x = s.ws := by simp [CoreS.writeW, hk]
      rw [e1, e2]
      simp only [CoreS.scalOk, decide_eq_true_eq] at hk
      rw [he] at ho
      clear e1 e2 he
      generalize tblGet s.t i = j at *
      generalize s.objH i = H at *
      have hw2 : IntKind.i64.wrap (H.size - H.ptrs) = H.size - H.ptrs := IntWalk.i64_in _ (by omega)
      by_cases k1 : 0 ≤ n
      · have k2 : H.size - H.ptrs ≤ n := by omega
        clear g7 hk
        simp only [ptr, hdCells] at *
        go_enter Tryz.func23, Tryz.ntmps23
        go_wp2_with (go_at_call 50; refine Calls.mono ho ?_; rintro e w1 ⟨rfl, h', c1, u1⟩)
        go_ret
        exact ⟨rfl, h', c1, u1.skip' _⟩
      · clear g7 hk
        simp only [ptr, hdCells] at *
        go_enter Tryz.func23, Tryz.ntmps23
        go_wp2_with (go_at_call 50; refine Calls.mono ho ?_; rintro e w1 ⟨rfl, h', c1, u1⟩)
        go_ret
        exact ⟨rfl, h', c1, u1.skip' _⟩
  · have e1 : s.scalE i n = s.objE i := by simp [CoreS.scalE, he]
    have e2 : s.writeW i n x = s.ws := by simp [CoreS.writeW, he]
    have hne : (s.objE i != 0) = true := by simpa using he
    rw [e1, e2]
    generalize s.objH i = H at *
    generalize s.objE i = E at *
    clear e1 e2 g1 g2 g3 g4 g5 g6 g7
    simp only [ptr, hdCells] at *
    go_enter Tryz.func23, Tryz.ntmps23
    go_wp2_with (go_at_call 50; refine Calls.mono ho ?_; rintro e w1 ⟨rfl, h', c1, u1⟩)
    go_ret
    exact ⟨rfl, h', c1, u1.skip' _⟩


def CoreS.now (s : CoreS) (i : Int) : Int := if i ≠ 0 ∧ s.y.isFrom i = true then wayW s.ws i else i

set_option maxRecDepth 100000 in
set_option maxHeartbeats 1000000 in
theorem core_now (pc : Nat) (L : CoreL) (s : CoreS) (i : Int) (w : World) (h : Hp) (hi : In w h) (hc : CoreH pc L s h) (hb : I64 i) :
    Calls Tryz.prog 72 #[ptr pc, .int .i64 i] w fun e w' =>
      e = .returned (.int .i64 (s.now i)) ∧ ∃ h', CoreH pc L s h' ∧ Upd h h' w w' := by
  have hc0 := hc
  obtain ⟨v, ha, hy, ho, hr, hg, ht, hw, rfl, ca, cy, co, cr, cg, ct, cw⟩ := hc
  have U0 := Upd.refl hi
  obtain ⟨p1, p2, p3, p4, p5, p6⟩ := core_ptrs (In.core (x := []) hi)
  have hfrom := bump_from L.py s.y i w hy (In.young (x := []) hi) cy hb
  have hway := fun W h (hiW : In W h) (ha : ArenaH L.pa s.ws h) => obj_way L.pa s.ws i W h hiW ha
  clear p3 p4 p5 p6
  simp only [ptr] at *
  by_cases hz : i = 0
  · have e1 : s.now i = i := by simp [CoreS.now, hz]
    have hq : (i == 0) = true := by simpa using hz
    rw [e1]
    clear e1 hz
    go_enter Tryz.func72, Tryz.ntmps72
    go_wp2
    go_ret
    exact ⟨rfl, _, hc0, U0⟩
  · have hq : (i == 0) = false := by simpa using hz
    cases hf : s.y.isFrom i
    · have e1 : s.now i = i := by simp [CoreS.now, hf]
      rw [e1]
      rw [hf] at hfrom
      clear e1 hz hf
      go_enter Tryz.func72, Tryz.ntmps72
      go_wp2_with (go_at_call 71; refine Calls.mono hfrom ?_; rintro e w1 ⟨rfl, u1⟩; have U1 := Upd.young (x := []) U0 u1)
      go_ret
      exact ⟨rfl, _, ⟨v, ha, hy, ho, hr, hg, ht, hw, rfl, ca, cy, co, cr, cg, ct, cw⟩, U1⟩
    · have e1 : s.now i = wayW s.ws i := by simp [CoreS.now, hf, hz]
      rw [e1]
      rw [hf] at hfrom
      clear e1 hz hf
      go_enter Tryz.func72, Tryz.ntmps72
      go_wp2_with (first | (go_at_call 71; refine Calls.mono hfrom ?_; rintro e w1 ⟨rfl, u1⟩; have U1 := Upd.young (x := []) U0 u1; obtain ⟨p1, p2, p3, p4, p5, p6⟩ := core_ptrs (In.core (x := []) (Upd.inn U1)); simp only [ptr] at p1; clear p2 p3 p4 p5 p6) | (go_at_call 85; refine Calls.mono (hway _ _ (In.arena (x := []) (Upd.inn U1)) ca) ?_; rintro e w2 ⟨rfl, ha', ca', u2⟩; have U2 := Upd.arena (x := []) U1 u2))
      go_ret
      exact ⟨rfl, _, ⟨v, ha', hy, ho, hr, hg, ht, hw, rfl, ca', cy, co, cr, cg, ct, cw⟩, U2⟩

end Go.Proofs.YtglbhcoikgbcmaaGreat
