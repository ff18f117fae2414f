/- What Stats, and Move of what stays, of package core come to. Conditions: a core as New makes it. -/
import Derived.Test.YtglbhcoikgbcmaaGreatRows
import Derived.Test.YtglbhcoikgbcmaaGreatLib
import Derived.Test.YtglbhcoikgbcmaaGreatCoreF
set_option linter.unusedVariables false
set_option linter.unusedSimpArgs false
namespace Go.Proofs.YtglbhcoikgbcmaaGreat
open Go.RowKit

set_option maxRecDepth 100000 in
set_option maxHeartbeats 1000000 in
theorem core_move_stay (pc : Nat) (L : CoreL) (s : CoreS) (i : Int) (w : World) (h : Hp) (hi : In w h) (hc : CoreH pc L s h) (hb : I64 i) (hf : i = 0 ∨ s.y.isFrom i = false) :
    Calls Tryz.prog 54 #[ptr pc, .int .i64 i] w fun e w' => e = .returned (.int .i64 i) ∧ Upd h h w w' := by
  obtain ⟨v, ha, hy, ho, hr, hg, ht, hw, rfl, ca, cy, co, cr, cg, ct, cw⟩ := hc
  have U0 := Upd.refl hi
  obtain ⟨p1, p2, p3, p4, p5, p6⟩ := core_ptrs (In.core (x := []) hi)
  have hfrom := bump_from L.py s.y i w hy (In.young (x := []) hi) cy hb
  clear p1 p3 p4 p5 p6
  simp only [ptr] at *
  by_cases hz : i = 0
  · have hq : (i == 0) = true := by simpa using hz
    clear hz hf
    go_enter Tryz.func54, Tryz.ntmps54
    go_wp2
    go_ret
    exact ⟨rfl, U0⟩
  · have hq : (i == 0) = false := by simpa using hz
    have hf' : s.y.isFrom i = false := hf.resolve_left hz
    rw [hf'] at hfrom
    clear hz hf hf'
    go_enter Tryz.func54, Tryz.ntmps54
    go_wp2_with (go_at_call 71; refine Calls.mono hfrom ?_; rintro e w1 ⟨rfl, u1⟩; have U1 := Upd.young (x := []) U0 u1)
    go_ret
    exact ⟨rfl, U1⟩

def statCells (d : StatS) : Array Value := #[.int .i64 d.allocs, .int .i64 d.words, .int .i64 d.promoted, .int .i64 d.minors, .int .i64 d.majors, .int .i64 d.young, .int .i64 d.old, .int .i64 d.free]
theorem stat_cells {w : World} {b : Nat} {d : StatS} {T : TypeId} (h : w.heap[b]? = some (.cells (statCells d) T (0, 0))) :
    w.cell? ⟨b, 0, none⟩ = some (.int .i64 d.allocs) ∧ w.cell? ⟨b, 1, none⟩ = some (.int .i64 d.words) ∧ w.cell? ⟨b, 2, none⟩ = some (.int .i64 d.promoted) ∧ w.cell? ⟨b, 3, none⟩ = some (.int .i64 d.minors) ∧ w.cell? ⟨b, 4, none⟩ = some (.int .i64 d.majors) ∧ w.cell? ⟨b, 5, none⟩ = some (.int .i64 d.young) ∧ w.cell? ⟨b, 6, none⟩ = some (.int .i64 d.old) ∧ w.cell? ⟨b, 7, none⟩ = some (.int .i64 d.free) :=
  ⟨cell_of h 0, cell_of h 1, cell_of h 2, cell_of h 3, cell_of h 4, cell_of h 5, cell_of h 6, cell_of h 7⟩
theorem stat_frozen {w : World} {b : Nat} {d : StatS} {T : TypeId} (h : w.heap[b]? = some (.cells (statCells d) T (0, 0))) :
    w.frozen? ⟨b, 0, none⟩ = false ∧ w.frozen? ⟨b, 1, none⟩ = false ∧ w.frozen? ⟨b, 2, none⟩ = false ∧ w.frozen? ⟨b, 3, none⟩ = false ∧ w.frozen? ⟨b, 4, none⟩ = false ∧ w.frozen? ⟨b, 5, none⟩ = false ∧ w.frozen? ⟨b, 6, none⟩ = false ∧ w.frozen? ⟨b, 7, none⟩ = false :=
  ⟨frozen_of h 0, frozen_of h 1, frozen_of h 2, frozen_of h 3, frozen_of h 4, frozen_of h 5, frozen_of h 6, frozen_of h 7⟩
theorem Upd.stat {w0 w : World} {h r : Hp} {b : Nat} {x : StatS} {T : TypeId} {fr : Nat × Nat} (a : Upd h ((b, .cells (statCells x) T fr) :: r) w0 w) (y : StatS) :
    Upd h ((b, .cells (statCells y) T fr) :: r) w0 ((((((((w.setCell ⟨b, 0, none⟩ (.int .i64 y.allocs)).setCell ⟨b, 1, none⟩ (.int .i64 y.words)).setCell ⟨b, 2, none⟩ (.int .i64 y.promoted)).setCell ⟨b, 3, none⟩ (.int .i64 y.minors)).setCell ⟨b, 4, none⟩ (.int .i64 y.majors)).setCell ⟨b, 5, none⟩ (.int .i64 y.young)).setCell ⟨b, 6, none⟩ (.int .i64 y.old)).setCell ⟨b, 7, none⟩ (.int .i64 y.free)) := by
  have u := ((((((((a.store1 0 (.int .i64 y.allocs)).store1 1 (.int .i64 y.words)).store1 2 (.int .i64 y.promoted)).store1 3 (.int .i64 y.minors)).store1 4 (.int .i64 y.majors)).store1 5 (.int .i64 y.young)).store1 6 (.int .i64 y.old)).store1 7 (.int .i64 y.free))
  have e : (((((((((statCells x).setIfInBounds 0 (.int .i64 y.allocs)).setIfInBounds 1 (.int .i64 y.words)).setIfInBounds 2 (.int .i64 y.promoted)).setIfInBounds 3 (.int .i64 y.minors)).setIfInBounds 4 (.int .i64 y.majors)).setIfInBounds 5 (.int .i64 y.young)).setIfInBounds 6 (.int .i64 y.old)).setIfInBounds 7 (.int .i64 y.free)) = statCells y := by
    simp [statCells]
  rw [e] at u
  exact u

theorem keep2 {w : World} {k a i j o : Nat} {x u v : Value} (h : w.cell? ⟨a, i, none⟩ = some u ∧ w.cell? ⟨a, j, none⟩ = some v) (m : k ≠ a) :
    (w.setCell ⟨k, o, none⟩ x).cell? ⟨a, i, none⟩ = some u ∧ (w.setCell ⟨k, o, none⟩ x).cell? ⟨a, j, none⟩ = some v := by
  have e : ∀ i, (w.setCell ⟨k, o, none⟩ x).cell? ⟨a, i, none⟩ = w.cell? ⟨a, i, none⟩ := by
    intro i
    simp only [World.cell?]
    rw [heap_setCell_other (by exact fun e => m e.symm)]
  exact ⟨(e i).trans h.1, (e j).trans h.2⟩
theorem Upd.stat2 {w0 w : World} {h r : Hp} {b : Nat} {x : StatS} {T : TypeId} {fr : Nat × Nat} (a : Upd h ((b, .cells (statCells x) T fr) :: r) w0 w) (y o : Int) :
    Upd h ((b, .cells (statCells { x with young := y, old := o }) T fr) :: r) w0 ((w.setCell ⟨b, 5, none⟩ (.int .i64 y)).setCell ⟨b, 6, none⟩ (.int .i64 o)) := (a.store1 5 _).store1 6 _
theorem Upd.stat1 {w0 w : World} {h r : Hp} {b : Nat} {x : StatS} {T : TypeId} {fr : Nat × Nat} (a : Upd h ((b, .cells (statCells x) T fr) :: r) w0 w) (y : Int) :
    Upd h ((b, .cells (statCells { x with free := y }) T fr) :: r) w0 (w.setCell ⟨b, 7, none⟩ (.int .i64 y)) := a.store1 7 _
def stat0 : StatS := ⟨0, 0, 0, 0, 0, 0, 0, 0⟩
/-- what Stats answers, where so much of the old space is used -/
def CoreS.stats (s : CoreS) (u : Int) : StatS := { s.done with young := wrap64 (s.y.cu + s.y.ou), old := u, free := wrap64 (wrap64 (s.C.pages * s.C.page) - u) }

set_option maxRecDepth 100000 in
set_option maxHeartbeats 4000000 in
theorem core_statsof (pc : Nat) (L : CoreL) (s : CoreS) (u : Int) (w : World) (h : Hp) (hi : In w h) (hc : CoreH pc L s h)
    (hused : ∀ W h, In W h → MatureH L.po s.o h → Calls Tryz.prog 36 #[ptr L.po] W fun e w' => e = .returned (.int .i64 u) ∧ Upd h h W w') :
    Calls Tryz.prog 10 #[ptr pc] w fun e w' => e = .returned (.agg (statCells (s.stats u))) ∧ Upd h h w w' := by
  obtain ⟨v, ha, hy, ho, hr, hg, ht, hw, rfl, ca, cy, co, cr, cg, ct, cw⟩ := hc
  have U0 := Upd.refl hi
  have hcu := fun W (hiW : In W hy) => bump_used L.py s.y W hy hiW cy
  have hou := fun W (hiW : In W hy) => bump_left L.py s.y W hy hiW cy
  have HU := Lib.hid hused
  have UA := Upd.box (x := []) U0 (.cells (statCells stat0) 41 (0, 0))
  have UB := Upd.box UA (.cells (statCells s.done) 41 (0, 0))
  have hn1 : w.heap.size + 1 ≠ w.heap.size := by omega
  have hlt : pc < w.heap.size := (Array.getElem?_eq_some_iff.1 (In.core (x := []) hi)).1
  have hpc0 : pc ≠ w.heap.size := by omega
  have hpc1 : pc ≠ w.heap.size + 1 := by omega
  have hpc2 : w.heap.size + 1 ≠ pc := by omega
  have hsz : (w.alloc (.cells (statCells stat0) 41 (0, 0))).heap.size = w.heap.size + 1 := by simp
  rw [hsz] at UB
  clear hsz
  obtain ⟨t0, t1, t2, t3, t4, t5, t6, t7⟩ := core_stats UA.inn.core
  generalize hQ : s.stats u = Q
  simp only [ptr, statCells, stat0] at *
  go_enter Tryz.func10, Tryz.ntmps10
  go_wp2
  have UBd := UB.drew'
  obtain ⟨p1, p2, p3, p4, p5, p6⟩ := core_ptrs (In.core (x := [_, _]) (Upd.inn UBd))
  simp only [ptr] at p2 p3
  have hSd := And.intro p2 p3
  clear p1 p4 p5 p6
  go_region_held3 (fun w' => w'.cell? ⟨pc, 14, none⟩ = some (.pointer (some ⟨L.py, 0, none⟩)) ∧ w'.cell? ⟨pc, 15, none⟩ = some (.pointer (some ⟨L.po, 0, none⟩)))
    (first | exact keep2 (keep2 hS3 hpc2) hpc2 | exact keep2 hS3 hpc2 | exact hS3 | exact hS2 | exact hS1 | exact hSd | go_keep)
    (first
      | (go_at_call 34; refine Calls.mono (hcu _ (In.young (x := [_, _]) (Upd.inn UBd))) ?_; rintro e w1 ⟨rfl, u1⟩; have U1 := Upd.young (x := [_, _]) UBd u1; obtain ⟨p1, p2, p3, p4, p5, p6⟩ := core_ptrs (In.core (x := [_, _]) (Upd.inn U1)); simp only [ptr] at p2 p3; have hS1 := And.intro p2 p3; clear p1 p4 p5 p6)
      | (go_at_call 35; refine Calls.mono (hou _ (In.young (x := [_, _]) (Upd.inn U1))) ?_; rintro e w2 ⟨rfl, u2⟩; have U2 := Upd.young (x := [_, _]) U1 u2; obtain ⟨p1, p2, p3, p4, p5, p6⟩ := core_ptrs (In.core (x := [_, _]) (Upd.inn U2)); simp only [ptr] at p2 p3; have hS2 := And.intro p2 p3; clear p1 p4 p5 p6)
      | (go_at_call 36; refine Calls.mono (HU.out _ _ (In.old (x := [_, _]) (Upd.inn U2)) co) ?_; rintro e w3 ⟨rfl, u3⟩; have U3 := Upd.old (x := [_, _]) U2 u3; obtain ⟨p1, p2, p3, p4, p5, p6⟩ := core_ptrs (In.core (x := [_, _]) (Upd.inn U3)); simp only [ptr] at p2 p3; have hS3 := And.intro p2 p3; clear p1 p4 p5 p6; obtain ⟨d0, d1, d2, d3, d4, d5, d6, d7⟩ := stat_cells (d := s.done) (Upd.inn U3).head; obtain ⟨f0, f1, f2, f3, f4, f5, f6, f7⟩ := stat_frozen (d := s.done) (Upd.inn U3).head; obtain ⟨e0, e1, e2, e3, e4, e5, e6, e7⟩ := stat_cells (d := stat0) (Upd.inn U3).tail.head; obtain ⟨k0, k1, k2, k3, k4, k5, k6, k7⟩ := stat_frozen (d := stat0) (Upd.inn U3).tail.head; obtain ⟨c0, c1, c2, c3, c4, c5, c6, c7, c8, c9, c10, c11, c12⟩ := core_cfg (In.core (x := [_, _]) (Upd.inn U3)); clear c0 c1 c4 c5 c6 c7 c8 c9 c10 c11 c12))
  go_wp2
  have U4 := (Upd.stat2 (x := s.done) U3 (IntKind.i64.wrap (s.y.cu + s.y.ou)) u)
  clear d0 d1 d2 d3 d4 d5 d6 d7 f0 f1 f2 f3 f4 f5 f6 f7 e0 e1 e2 e3 e4 e5 e6 e7 k0 k1 k2 k3 k4 k5 k6 k7 c2 c3
  generalize hw4 : (w3.setCell ⟨w.heap.size + 1, 5, none⟩ (.int .i64 (IntKind.i64.wrap (s.y.cu + s.y.ou)))).setCell ⟨w.heap.size + 1, 6, none⟩ (.int .i64 u) = w4 at *
  clear hS1 hS2 hS3 hSd U1 U2 U3 u1 u2 u3 hw4 HU hused UBd UB UA hcu hou t0 t1 t2 t3 t4 t5 t6 t7
  have U4d := U4.drew'
  obtain ⟨d0, d1, d2, d3, d4, d5, d6, d7⟩ := stat_cells (Upd.inn U4d).head
  obtain ⟨f0, f1, f2, f3, f4, f5, f6, f7⟩ := stat_frozen (Upd.inn U4d).head
  obtain ⟨c0, c1, c2, c3, c4, c5, c6, c7, c8, c9, c10, c11, c12⟩ := core_cfg (In.core (x := [_, _]) (Upd.inn U4d))
  clear c0 c1 c4 c5 c6 c7 c8 c9 c10 c11 c12
  simp only at d0 d1 d2 d3 d4 d5 d6 d7
  obtain ⟨e0, e1, e2, e3, e4, e5, e6, e7⟩ := stat_cells (d := stat0) (Upd.inn U4d).tail.head
  obtain ⟨k0, k1, k2, k3, k4, k5, k6, k7⟩ := stat_frozen (d := stat0) (Upd.inn U4d).tail.head
  have hn2 := hn1.symm
  refine wp_tail 15 (by kernel_rfl) (by kernel_rfl) fun w6 hw6 => ?_
  subst hw6
  generalize w4.drew = w5 at *
  simp only [List.take_succ_cons, List.take_zero, List.drop_succ_cons, List.drop_zero]
  repeat (refine wpStill_step (fun K hK => ?_); have HK := Lib.hid hK; clear hK; go_simp; refine HK.out _ ?_; clear HK K)
  refine wpStill_nil ?_
  go_wp2
  have U5 := Upd.stat1 U4d (wrap64 (wrap64 (s.C.pages * s.C.page) - u))
  have UF := Upd.stat (x := stat0) U5.drop1 ⟨s.done.allocs, s.done.words, s.done.promoted, s.done.minors, s.done.majors, wrap64 (s.y.cu + s.y.ou), u, wrap64 (wrap64 (s.C.pages * s.C.page) - u)⟩
  have hQ2 : Q = ⟨s.done.allocs, s.done.words, s.done.promoted, s.done.minors, s.done.majors, wrap64 (s.y.cu + s.y.ou), u, wrap64 (wrap64 (s.C.pages * s.C.page) - u)⟩ := hQ.symm
  clear hQ
  subst hQ2
  have G := stat_cells UF.inn.head
  simp only at G UF
  obtain ⟨g0, g1, g2, g3, g4, g5, g6, g7⟩ := G
  clear d0 d1 d2 d3 d4 d5 d6 d7 e0 e1 e2 e3 e4 e5 e6 e7 f0 f1 f2 f3 f4 f5 f6 f7 k0 k1 k2 k3 k4 k5 k6 k7 c2 c3
  refine bodyPost_ret (v := .agg (statCells ⟨s.done.allocs, s.done.words, s.done.promoted, s.done.minors, s.done.majors, wrap64 (s.y.cu + s.y.ou), u, wrap64 (wrap64 (s.C.pages * s.C.page) - u)⟩)) ?_ rfl ⟨rfl, UF.drop1⟩
  simp only [results, Tryz.results10]
  simp [go_sem, statCells, g0, g1, g2, g3, g4, g5, g6, g7]

/-- Stats, while the old space is empty -/
theorem core_stats0 (pc : Nat) (L : CoreL) (s : CoreS) (w : World) (h : Hp) (hi : In w h) (hc : CoreH pc L s h) (he : s.o.empty) :
    Calls Tryz.prog 10 #[ptr pc] w fun e w' => e = .returned (.agg (statCells (s.stats 0))) ∧ Upd h h w w' :=
  core_statsof pc L s 0 w h hi hc fun W h hiW hm => mature_used0 L.po s.o W h hiW hm he

end Go.Proofs.YtglbhcoikgbcmaaGreat
