/- What Do of the document's graph comes to, for Read and Shape. Conditions: a graph as New makes it, its numbers those of nodes. -/
import Derived.Test.YtglbhcoikgbcmaaGreatRows
import Derived.Test.YtglbhcoikgbcmaaGreatRefC
import Derived.BigRegion
set_option linter.unusedVariables false
set_option linter.unusedSimpArgs false
namespace Go.Proofs.YtglbhcoikgbcmaaGreat
open Go.RowKit

set_option maxRecDepth 100000 in
set_option maxHeartbeats 4000000 in
theorem rdo_read (p : Nat) (g : GraphS) (ok : g.Ok) (a b c v : Int) (w : World) (h : Hp) (hi : In w h) (gh : GraphH p g h) :
    Calls Tryz.prog 9 #[.pointer (some ⟨p, 0, none⟩), .agg (stepCells ⟨4, a, b, c, v⟩)] w fun en w' => en = .returned (.agg (ansCells ⟨g.scalE a b, false, 0, if g.scalE a b = 0 then rd (g.nd a).scal b else 0⟩)) ∧ Upd h h w w' := by
  have U0 := (((Upd.refl hi).alloc' (.cells (stepCells ⟨4, a, b, c, v⟩) 35 (0, 0))).alloc' (.cells (ansCells ans0) 37 (0, 0)))
  rw [show (w.alloc (.cells (stepCells ⟨4, a, b, c, v⟩) 35 (0, 0))).heap.size = w.heap.size + 1 by simp] at U0
  have hw := ref_wrong p g a _ h U0.inn.tail.tail gh
  obtain ⟨an, capn, ah, caph, c0, c1, c2, cf, ch⟩ := gh.own (x := [_, _]) U0.inn
  by_cases h0 : g.wrong a = 0
  case neg =>
    have e1 : g.scalE a b = g.wrong a := by unfold GraphS.scalE; rw [if_neg h0]
    rw [e1, if_neg h0]
    have hne : (g.wrong a != 0) = true := by simpa using h0
    generalize g.wrong a = E at *
    clear e1 h0

    have UF := ((((Upd.refl hi).alloc' (.cells (stepCells ⟨4, a, b, c, v⟩) 35 (0, 0))).alloc' (.cells (ansCells ⟨E, false, 0, 0⟩) 37 (0, 0))))
    rw [show (w.alloc (.cells (stepCells ⟨4, a, b, c, v⟩) 35 (0, 0))).heap.size = w.heap.size + 1 by simp] at UF
    have G := ans_cells (x := ⟨E, false, 0, 0⟩) UF.inn.head
    simp only at G
    obtain ⟨g0, g1, g2, g3⟩ := G
    clear U0 hi gh cf ch ok 
    simp only [stepCells, ansCells, ans0] at *
    go_enter Tryz.func9, Tryz.ntmps9
    go_wp2_with (first | (go_at_call 32; with_reducible refine Calls.mono hw ?_; rintro e w1 ⟨rfl, rfl⟩))
    skip
    refine bodyPost_ret (v := .agg (ansCells ⟨E, false, 0, 0⟩)) ?_ rfl ⟨rfl, UF.drop1.drop1⟩
    simp only [results, Tryz.results9]
    simp [go_sem, ansCells, g0, g1, g2, g3]
  rw [h0] at hw
  obtain ⟨k, rfl, hk, hget⟩ := tblOk_nat (wrong_ok h0)
  obtain ⟨bq, oq, rfl, ck, fk⟩ := ch k hk
  obtain ⟨m, hm0, hm⟩ := ok.num hk
  rw [hm0] at ck
  have hnd : g.nd k = g.nodes.getD m nd0 := by unfold GraphS.nd; rw [hget, hm0]; rfl
  obtain ⟨bn, on, capn', ap, capp, az, caps, d0, d1, d2, d3, d4⟩ := gh.node (x := [_, _]) U0.inn hm
  rw [c0] at d0
  cases d0
  have hkl : ((k : Int) < g.hs.length) := by omega
  have hml : ((m : Int) < g.nodes.length) := by omega
  obtain ⟨N, hN⟩ : ∃ N, N = g.nodes.getD m nd0 := ⟨_, rfl⟩
  rw [← hN] at d1 d2 d3 d4 hnd
  have hsz := ok.sz N (by rw [hN]; simp [List.getD, hm])
  by_cases hb0 : 0 ≤ b
  case neg =>
    have e1 : g.scalE k b = 5 := by unfold GraphS.scalE inL; rw [if_pos h0, hnd, if_neg (by simp; omega)]
    rw [e1, if_neg (by decide)]
    clear e1 h0 hnd hN hget hm0
    have u1 := (Upd.refl (In.nil ((w.alloc (.cells (stepCells ⟨4, k, b, c, v⟩) 35 (0, 0))).alloc (.cells (ansCells ans0) 37 (0, 0))))).skip' (.cells #[.slice none 0 0, .slice none 0 0] 79 (0, 0))
    have u2 := (Upd.refl (In.nil ((w.alloc (.cells (stepCells ⟨4, k, b, c, v⟩) 35 (0, 0))).alloc (.cells (ansCells ans0) 37 (0, 0))))).skip' (.cells #[.slice ap N.ptrs.length capp, .slice az N.scal.length caps] 79 (0, 0))
    have c0z1 := u1.keepc c0
    have c0z2 := u2.keepc c0
    have c1z1 := u1.keepc c1
    have c1z2 := u2.keepc c1
    have ckz1 := u1.keepc ck
    have ckz2 := u2.keepc ck
    have d1z1 := u1.keepc d1
    have d1z2 := u2.keepc d1
    have d2z1 := u1.keepc d2
    have d2z2 := u2.keepc d2
    have UF := ((((Upd.refl hi).alloc' (.cells (stepCells ⟨4, k, b, c, v⟩) 35 (0, 0))).alloc' (.cells (ansCells ⟨5, false, 0, 0⟩) 37 (0, 0))).skip' (.cells #[.slice ap N.ptrs.length capp, .slice az N.scal.length caps] 79 (0, 0))).drew'
    rw [show (w.alloc (.cells (stepCells ⟨4, k, b, c, v⟩) 35 (0, 0))).heap.size = w.heap.size + 1 by simp] at UF
    have G := ans_cells (x := ⟨5, false, 0, 0⟩) UF.inn.head
    simp only at G
    obtain ⟨g0, g1, g2, g3⟩ := G
    clear U0 hi gh cf ch ok u1 u2 d3 d4 fk
    simp only [stepCells, ansCells, ans0] at *
    go_enter Tryz.func9, Tryz.ntmps9
    go_wp2_with (first | (go_at_call 32; with_reducible refine Calls.mono hw ?_; rintro e w1 ⟨rfl, rfl⟩))
    go_region
    go_wp2
    refine bodyPost_ret (v := .agg (ansCells ⟨5, false, 0, 0⟩)) ?_ rfl ⟨rfl, UF.drop1.drop1⟩
    simp only [results, Tryz.results9]
    simp [go_sem, ansCells, g0, g1, g2, g3]
  by_cases hb1 : b < N.scal.length
  case neg =>
    have e1 : g.scalE k b = 5 := by unfold GraphS.scalE inL; rw [if_pos h0, hnd, if_neg (by simp; omega)]
    rw [e1, if_neg (by decide)]
    clear e1 h0 hnd hN hget hm0
    have u1 := (Upd.refl (In.nil ((w.alloc (.cells (stepCells ⟨4, k, b, c, v⟩) 35 (0, 0))).alloc (.cells (ansCells ans0) 37 (0, 0))))).skip' (.cells #[.slice none 0 0, .slice none 0 0] 79 (0, 0))
    have u2 := (Upd.refl (In.nil ((w.alloc (.cells (stepCells ⟨4, k, b, c, v⟩) 35 (0, 0))).alloc (.cells (ansCells ans0) 37 (0, 0))))).skip' (.cells #[.slice ap N.ptrs.length capp, .slice az N.scal.length caps] 79 (0, 0))
    have c0z1 := u1.keepc c0
    have c0z2 := u2.keepc c0
    have c1z1 := u1.keepc c1
    have c1z2 := u2.keepc c1
    have ckz1 := u1.keepc ck
    have ckz2 := u2.keepc ck
    have d1z1 := u1.keepc d1
    have d1z2 := u2.keepc d1
    have d2z1 := u1.keepc d2
    have d2z2 := u2.keepc d2
    have UF := ((((Upd.refl hi).alloc' (.cells (stepCells ⟨4, k, b, c, v⟩) 35 (0, 0))).alloc' (.cells (ansCells ⟨5, false, 0, 0⟩) 37 (0, 0))).skip' (.cells #[.slice ap N.ptrs.length capp, .slice az N.scal.length caps] 79 (0, 0))).drew'
    rw [show (w.alloc (.cells (stepCells ⟨4, k, b, c, v⟩) 35 (0, 0))).heap.size = w.heap.size + 1 by simp] at UF
    have G := ans_cells (x := ⟨5, false, 0, 0⟩) UF.inn.head
    simp only at G
    obtain ⟨g0, g1, g2, g3⟩ := G
    clear U0 hi gh cf ch ok u1 u2 d3 d4 fk
    simp only [stepCells, ansCells, ans0] at *
    go_enter Tryz.func9, Tryz.ntmps9
    go_wp2_with (first | (go_at_call 32; with_reducible refine Calls.mono hw ?_; rintro e w1 ⟨rfl, rfl⟩))
    go_region
    go_wp2
    refine bodyPost_ret (v := .agg (ansCells ⟨5, false, 0, 0⟩)) ?_ rfl ⟨rfl, UF.drop1.drop1⟩
    simp only [results, Tryz.results9]
    simp [go_sem, ansCells, g0, g1, g2, g3]
  obtain ⟨cn, rfl⟩ : ∃ cn : Nat, b = cn := ⟨b.toNat, by omega⟩
  have e1 : g.scalE k cn = 0 := by unfold GraphS.scalE inL; rw [if_pos h0, hnd, if_pos (by simp; omega)]
  obtain ⟨gp, op, rfl, cp, fp⟩ := d4 cn (by omega)
  obtain ⟨y, hy⟩ : ∃ y, y = N.scal.getD cn 0 := ⟨_, rfl⟩
  rw [← hy] at cp
  have e2 : rd (g.nd k).scal cn = y := by
    rw [hnd, hy]
    unfold rd
    rw [if_pos (by omega)]
    rfl
  rw [e1, if_pos rfl, e2]
  clear e1 e2 h0 hnd hN hget hm0 hy fp
  have u1 := (Upd.refl (In.nil ((w.alloc (.cells (stepCells ⟨4, k, cn, c, v⟩) 35 (0, 0))).alloc (.cells (ansCells ans0) 37 (0, 0))))).skip' (.cells #[.slice none 0 0, .slice none 0 0] 79 (0, 0))
  have u2 := (Upd.refl (In.nil ((w.alloc (.cells (stepCells ⟨4, k, cn, c, v⟩) 35 (0, 0))).alloc (.cells (ansCells ans0) 37 (0, 0))))).skip' (.cells #[.slice ap N.ptrs.length capp, .slice (some ⟨gp, op, none⟩) N.scal.length caps] 79 (0, 0))
  have c0z1 := u1.keepc c0
  have c0z2 := u2.keepc c0
  have c1z1 := u1.keepc c1
  have c1z2 := u2.keepc c1
  have ckz1 := u1.keepc ck
  have ckz2 := u2.keepc ck
  have d1z1 := u1.keepc d1
  have d1z2 := u2.keepc d1
  have d2z1 := u1.keepc d2
  have d2z2 := u2.keepc d2
  have cpz1 := u1.keepc cp
  have cpz2 := u2.keepc cp
  have UF := ((((Upd.refl hi).alloc' (.cells (stepCells ⟨4, k, cn, c, v⟩) 35 (0, 0))).alloc' (.cells (ansCells ⟨0, false, 0, y⟩) 37 (0, 0))).skip' (.cells #[.slice ap N.ptrs.length capp, .slice (some ⟨gp, op, none⟩) N.scal.length caps] 79 (0, 0))).drew'
  rw [show (w.alloc (.cells (stepCells ⟨4, k, cn, c, v⟩) 35 (0, 0))).heap.size = w.heap.size + 1 by simp] at UF
  have G := ans_cells (x := ⟨0, false, 0, y⟩) UF.inn.head
  simp only at G
  obtain ⟨g0, g1, g2, g3⟩ := G
  clear U0 hi gh cf ch ok u1 u2 d3 d4 fk
  simp only [stepCells, ansCells, ans0] at *
  go_enter Tryz.func9, Tryz.ntmps9
  go_wp2_with (first | (go_at_call 32; with_reducible refine Calls.mono hw ?_; rintro e w1 ⟨rfl, rfl⟩))
  go_region
  go_wp2
  refine bodyPost_ret (v := .agg (ansCells ⟨0, false, 0, y⟩)) ?_ rfl ⟨rfl, UF.drop1.drop1⟩
  simp only [results, Tryz.results9]
  simp [go_sem, ansCells, g0, g1, g2, g3]

set_option maxRecDepth 100000 in
set_option maxHeartbeats 4000000 in
theorem rdo_shape (p : Nat) (g : GraphS) (ok : g.Ok) (a b c v : Int) (w : World) (h : Hp) (hi : In w h) (gh : GraphH p g h) :
    Calls Tryz.prog 9 #[.pointer (some ⟨p, 0, none⟩), .agg (stepCells ⟨10, a, b, c, v⟩)] w fun en w' => en = .returned (.agg (ansCells ⟨g.wrong a, false, if g.wrong a = 0 then (g.nd a).ptrs.length else 0, if g.wrong a = 0 then (g.nd a).scal.length else 0⟩)) ∧ Upd h h w w' := by
  have U0 := (((Upd.refl hi).alloc' (.cells (stepCells ⟨10, a, b, c, v⟩) 35 (0, 0))).alloc' (.cells (ansCells ans0) 37 (0, 0)))
  rw [show (w.alloc (.cells (stepCells ⟨10, a, b, c, v⟩) 35 (0, 0))).heap.size = w.heap.size + 1 by simp] at U0
  have hw := ref_wrong p g a _ h U0.inn.tail.tail gh
  obtain ⟨an, capn, ah, caph, c0, c1, c2, cf, ch⟩ := gh.own (x := [_, _]) U0.inn
  by_cases h0 : g.wrong a = 0
  case neg =>
    rw [if_neg h0, if_neg h0]
    have hne : (g.wrong a != 0) = true := by simpa using h0
    generalize g.wrong a = E at *
    clear h0

    have UF := ((((Upd.refl hi).alloc' (.cells (stepCells ⟨10, a, b, c, v⟩) 35 (0, 0))).alloc' (.cells (ansCells ⟨E, false, 0, 0⟩) 37 (0, 0))))
    rw [show (w.alloc (.cells (stepCells ⟨10, a, b, c, v⟩) 35 (0, 0))).heap.size = w.heap.size + 1 by simp] at UF
    have G := ans_cells (x := ⟨E, false, 0, 0⟩) UF.inn.head
    simp only at G
    obtain ⟨g0, g1, g2, g3⟩ := G
    clear U0 hi gh cf ch ok 
    simp only [stepCells, ansCells, ans0] at *
    go_enter Tryz.func9, Tryz.ntmps9
    go_wp2_with (first | (go_at_call 32; with_reducible refine Calls.mono hw ?_; rintro e w1 ⟨rfl, rfl⟩))
    skip
    refine bodyPost_ret (v := .agg (ansCells ⟨E, false, 0, 0⟩)) ?_ rfl ⟨rfl, UF.drop1.drop1⟩
    simp only [results, Tryz.results9]
    simp [go_sem, ansCells, g0, g1, g2, g3]
  rw [h0] at hw
  obtain ⟨k, rfl, hk, hget⟩ := tblOk_nat (wrong_ok h0)
  obtain ⟨bq, oq, rfl, ck, fk⟩ := ch k hk
  obtain ⟨m, hm0, hm⟩ := ok.num hk
  rw [hm0] at ck
  have hnd : g.nd k = g.nodes.getD m nd0 := by unfold GraphS.nd; rw [hget, hm0]; rfl
  obtain ⟨bn, on, capn', ap, capp, az, caps, d0, d1, d2, d3, d4⟩ := gh.node (x := [_, _]) U0.inn hm
  rw [c0] at d0
  cases d0
  have hkl : ((k : Int) < g.hs.length) := by omega
  have hml : ((m : Int) < g.nodes.length) := by omega
  obtain ⟨N, hN⟩ : ∃ N, N = g.nodes.getD m nd0 := ⟨_, rfl⟩
  rw [← hN] at d1 d2 d3 d4 hnd
  have hsz := ok.sz N (by rw [hN]; simp [List.getD, hm])
  rw [if_pos h0, if_pos h0, h0, hnd]
  have hwr : IntKind.u64.wrap (N.scal.length : Int) = N.scal.length := by rw [IntKind.wrap_u64]; omega
  clear h0 hnd hN hget hm0
  have u1 := (Upd.refl (In.nil ((w.alloc (.cells (stepCells ⟨10, k, b, c, v⟩) 35 (0, 0))).alloc (.cells (ansCells ans0) 37 (0, 0))))).skip' (.cells #[.slice none 0 0, .slice none 0 0] 79 (0, 0))
  have u2 := (Upd.refl (In.nil ((w.alloc (.cells (stepCells ⟨10, k, b, c, v⟩) 35 (0, 0))).alloc (.cells (ansCells ans0) 37 (0, 0))))).skip' (.cells #[.slice ap N.ptrs.length capp, .slice az N.scal.length caps] 79 (0, 0))
  have c0z1 := u1.keepc c0
  have c0z2 := u2.keepc c0
  have c1z1 := u1.keepc c1
  have c1z2 := u2.keepc c1
  have ckz1 := u1.keepc ck
  have ckz2 := u2.keepc ck
  have d1z1 := u1.keepc d1
  have d1z2 := u2.keepc d1
  have d2z1 := u1.keepc d2
  have d2z2 := u2.keepc d2
  have UF := ((((Upd.refl hi).alloc' (.cells (stepCells ⟨10, k, b, c, v⟩) 35 (0, 0))).alloc' (.cells (ansCells ⟨0, false, N.ptrs.length, N.scal.length⟩) 37 (0, 0))).skip' (.cells #[.slice ap N.ptrs.length capp, .slice az N.scal.length caps] 79 (0, 0))).drew'
  rw [show (w.alloc (.cells (stepCells ⟨10, k, b, c, v⟩) 35 (0, 0))).heap.size = w.heap.size + 1 by simp] at UF
  have G := ans_cells (x := ⟨0, false, N.ptrs.length, N.scal.length⟩) UF.inn.head
  simp only at G
  obtain ⟨g0, g1, g2, g3⟩ := G
  clear U0 hi gh cf ch ok u1 u2 d3 d4 fk
  simp only [stepCells, ansCells, ans0] at *
  go_enter Tryz.func9, Tryz.ntmps9
  go_wp2_with (first | (go_at_call 32; with_reducible refine Calls.mono hw ?_; rintro e w1 ⟨rfl, rfl⟩))
  go_region
  go_wp2
  refine bodyPost_ret (v := .agg (ansCells ⟨0, false, N.ptrs.length, N.scal.length⟩)) ?_ rfl ⟨rfl, UF.drop1.drop1⟩
  simp only [results, Tryz.results9]
  simp [go_sem, ansCells, g0, g1, g2, g3]


end Go.Proofs.YtglbhcoikgbcmaaGreat
