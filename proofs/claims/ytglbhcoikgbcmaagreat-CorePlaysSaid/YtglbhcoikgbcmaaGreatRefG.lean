/- What Do of the document's graph comes to, for Same and Nil. Conditions: a graph as New makes it. -/
import Derived.Test.YtglbhcoikgbcmaaGreatRows
import Derived.Test.YtglbhcoikgbcmaaGreatRefB
import Derived.Test.YtglbhcoikgbcmaaGreatRefC
import Derived.BigRegion
set_option linter.unusedVariables false
set_option linter.unusedSimpArgs false
namespace Go.Proofs.YtglbhcoikgbcmaaGreat
open Go.RowKit

set_option maxRecDepth 100000 in
set_option maxHeartbeats 2000000 in
theorem rdo_nil (p : Nat) (g : GraphS) (a b c v : Int) (w : World) (h : Hp) (hi : In w h) (gh : GraphH p g h) :
    Calls Tryz.prog 9 #[.pointer (some ⟨p, 0, none⟩), .agg (stepCells ⟨9, a, b, c, v⟩)] w fun en w' => en = .returned (.agg (ansCells ⟨tblErr g.hs a, tblOk g.hs a && decide (tblGet g.hs a = 0), 0, 0⟩)) ∧ Upd h h w w' := by
  have U0 := (((Upd.refl hi).alloc' (.cells (stepCells ⟨9, a, b, c, v⟩) 35 (0, 0))).alloc' (.cells (ansCells ans0) 37 (0, 0)))
  rw [show (w.alloc (.cells (stepCells ⟨9, a, b, c, v⟩) 35 (0, 0))).heap.size = w.heap.size + 1 by simp] at U0
  have hhas := fun i => ref_has p g i _ h U0.inn.tail.tail gh
  obtain ⟨an, capn, ah, caph, c0, c1, c2, cf, ch⟩ := gh.own (x := [_, _]) U0.inn
  have hha := hhas a
  by_cases ho : tblOk g.hs a = true
  · rw [ho] at hha
    have e1 : tblErr g.hs a = 0 := by simp [tblErr, ho]
    obtain ⟨k, rfl, hk, hget⟩ := tblOk_nat ho
    obtain ⟨bq, oq, rfl, ck, _⟩ := ch k hk
    have hkl : ((k : Int) < g.hs.length) := by omega
    rw [e1, ho, hget, Bool.true_and]
    generalize g.hs.getD k 0 = y at *
    clear e1 ho hget
    by_cases hy : y = 0
    · subst hy
      rw [decide_eq_true rfl]
      have UF := (((Upd.refl hi).alloc' (.cells (stepCells ⟨9, k, b, c, v⟩) 35 (0, 0))).alloc' (.cells (ansCells ⟨0, true, 0, 0⟩) 37 (0, 0))).drew'
      rw [show (w.alloc (.cells (stepCells ⟨9, k, b, c, v⟩) 35 (0, 0))).heap.size = w.heap.size + 1 by simp] at UF
      have G := ans_cells (x := ⟨0, true, 0, 0⟩) UF.inn.head
      simp only at G
      obtain ⟨g0, g1, g2, g3⟩ := G
      clear U0 hi gh cf ch hhas
      simp only [stepCells, ansCells, ans0] at *
      go_enter Tryz.func9, Tryz.ntmps9
      go_wp2_with (first | (go_at_call 33; with_reducible refine Calls.mono hha ?_; rintro e w1 ⟨rfl, rfl⟩))
      go_region
      go_wp2
      refine bodyPost_ret (v := .agg (ansCells ⟨0, true, 0, 0⟩)) ?_ rfl ⟨rfl, UF.drop1.drop1⟩
      simp only [results, Tryz.results9]
      simp [go_sem, ansCells, g0, g1, g2, g3]
    · rw [decide_eq_false hy]
      have hne : (y == 0) = false := by simpa using hy
      clear hy
      have UF := (((Upd.refl hi).alloc' (.cells (stepCells ⟨9, k, b, c, v⟩) 35 (0, 0))).alloc' (.cells (ansCells ⟨0, false, 0, 0⟩) 37 (0, 0))).drew'
      rw [show (w.alloc (.cells (stepCells ⟨9, k, b, c, v⟩) 35 (0, 0))).heap.size = w.heap.size + 1 by simp] at UF
      have G := ans_cells (x := ⟨0, false, 0, 0⟩) UF.inn.head
      simp only at G
      obtain ⟨g0, g1, g2, g3⟩ := G
      clear U0 hi gh cf ch hhas
      simp only [stepCells, ansCells, ans0] at *
      go_enter Tryz.func9, Tryz.ntmps9
      go_wp2_with (first | (go_at_call 33; with_reducible refine Calls.mono hha ?_; rintro e w1 ⟨rfl, rfl⟩))
      go_region
      go_wp2
      refine bodyPost_ret (v := .agg (ansCells ⟨0, false, 0, 0⟩)) ?_ rfl ⟨rfl, UF.drop1.drop1⟩
      simp only [results, Tryz.results9]
      simp [go_sem, ansCells, g0, g1, g2, g3]
  · have ho2 : tblOk g.hs a = false := by simpa using ho
    rw [ho2] at hha
    have e1 : tblErr g.hs a = 3 := by simp [tblErr, ho2]
    rw [e1, ho2, Bool.false_and]
    clear e1 ho ho2
    have UF := (((Upd.refl hi).alloc' (.cells (stepCells ⟨9, a, b, c, v⟩) 35 (0, 0))).alloc' (.cells (ansCells ⟨3, false, 0, 0⟩) 37 (0, 0)))
    rw [show (w.alloc (.cells (stepCells ⟨9, a, b, c, v⟩) 35 (0, 0))).heap.size = w.heap.size + 1 by simp] at UF
    have G := ans_cells (x := ⟨3, false, 0, 0⟩) UF.inn.head
    simp only at G
    obtain ⟨g0, g1, g2, g3⟩ := G
    clear U0 hi gh cf ch hhas
    simp only [stepCells, ansCells, ans0] at *
    go_enter Tryz.func9, Tryz.ntmps9
    go_wp2_with (first | (go_at_call 33; with_reducible refine Calls.mono hha ?_; rintro e w1 ⟨rfl, rfl⟩))
    skip
    skip
    refine bodyPost_ret (v := .agg (ansCells ⟨3, false, 0, 0⟩)) ?_ rfl ⟨rfl, UF.drop1.drop1⟩
    simp only [results, Tryz.results9]
    simp [go_sem, ansCells, g0, g1, g2, g3]

set_option maxRecDepth 100000 in
set_option maxHeartbeats 2000000 in
theorem rdo_same (p : Nat) (g : GraphS) (a b c v : Int) (w : World) (h : Hp) (hi : In w h) (gh : GraphH p g h) :
    Calls Tryz.prog 9 #[.pointer (some ⟨p, 0, none⟩), .agg (stepCells ⟨8, a, b, c, v⟩)] w fun en w' => en = .returned (.agg (ansCells ⟨if tblOk g.hs a && tblOk g.hs b then 0 else 3, tblOk g.hs a && tblOk g.hs b && decide (tblGet g.hs a = tblGet g.hs b), 0, 0⟩)) ∧ Upd h h w w' := by
  have U0 := (((Upd.refl hi).alloc' (.cells (stepCells ⟨8, a, b, c, v⟩) 35 (0, 0))).alloc' (.cells (ansCells ans0) 37 (0, 0)))
  rw [show (w.alloc (.cells (stepCells ⟨8, a, b, c, v⟩) 35 (0, 0))).heap.size = w.heap.size + 1 by simp] at U0
  have hhas := fun i => ref_has p g i _ h U0.inn.tail.tail gh
  obtain ⟨an, capn, ah, caph, c0, c1, c2, cf, ch⟩ := gh.own (x := [_, _]) U0.inn
  have hha := hhas a
  have hhb := hhas b
  by_cases ho : tblOk g.hs a = true
  · rw [ho] at hha
    by_cases hob : tblOk g.hs b = true
    · rw [hob] at hhb
      obtain ⟨k, rfl, hk, hget⟩ := tblOk_nat ho
      obtain ⟨m, rfl, hm, hget2⟩ := tblOk_nat hob
      obtain ⟨bq, oq, rfl, ck, _⟩ := ch k hk
      obtain ⟨bz, oz, ez, cm, _⟩ := ch m hm
      cases ez
      have hkl : ((k : Int) < g.hs.length) := by omega
      have hml : ((m : Int) < g.hs.length) := by omega
      rw [ho, hob, hget, hget2]
      simp only [Bool.and_self, Bool.true_and, if_true]
      generalize g.hs.getD k 0 = y at *
      generalize g.hs.getD m 0 = z at *
      clear ho hob hget hget2
      by_cases hy : y = z
      · subst hy
        rw [decide_eq_true rfl]
        have UF := (((Upd.refl hi).alloc' (.cells (stepCells ⟨8, k, m, c, v⟩) 35 (0, 0))).alloc' (.cells (ansCells ⟨0, true, 0, 0⟩) 37 (0, 0))).drew'
        rw [show (w.alloc (.cells (stepCells ⟨8, k, m, c, v⟩) 35 (0, 0))).heap.size = w.heap.size + 1 by simp] at UF
        have G := ans_cells (x := ⟨0, true, 0, 0⟩) UF.inn.head
        simp only at G
        obtain ⟨g0, g1, g2, g3⟩ := G
        clear U0 hi gh cf ch hhas
        simp only [stepCells, ansCells, ans0] at *
        go_enter Tryz.func9, Tryz.ntmps9
        go_wp2_with (first | (go_at_call 33; with_reducible refine Calls.mono hha ?_; rintro e w1 ⟨rfl, rfl⟩) | (go_at_call 33; with_reducible refine Calls.mono hhb ?_; rintro e w1 ⟨rfl, rfl⟩))
        go_region
        go_wp2
        refine bodyPost_ret (v := .agg (ansCells ⟨0, true, 0, 0⟩)) ?_ rfl ⟨rfl, UF.drop1.drop1⟩
        simp only [results, Tryz.results9]
        simp [go_sem, ansCells, g0, g1, g2, g3]
      · rw [decide_eq_false hy]
        have hne : (y == z) = false := by simpa using hy
        clear hy
        have UF := (((Upd.refl hi).alloc' (.cells (stepCells ⟨8, k, m, c, v⟩) 35 (0, 0))).alloc' (.cells (ansCells ⟨0, false, 0, 0⟩) 37 (0, 0))).drew'
        rw [show (w.alloc (.cells (stepCells ⟨8, k, m, c, v⟩) 35 (0, 0))).heap.size = w.heap.size + 1 by simp] at UF
        have G := ans_cells (x := ⟨0, false, 0, 0⟩) UF.inn.head
        simp only at G
        obtain ⟨g0, g1, g2, g3⟩ := G
        clear U0 hi gh cf ch hhas
        simp only [stepCells, ansCells, ans0] at *
        go_enter Tryz.func9, Tryz.ntmps9
        go_wp2_with (first | (go_at_call 33; with_reducible refine Calls.mono hha ?_; rintro e w1 ⟨rfl, rfl⟩) | (go_at_call 33; with_reducible refine Calls.mono hhb ?_; rintro e w1 ⟨rfl, rfl⟩))
        go_region
        go_wp2
        refine bodyPost_ret (v := .agg (ansCells ⟨0, false, 0, 0⟩)) ?_ rfl ⟨rfl, UF.drop1.drop1⟩
        simp only [results, Tryz.results9]
        simp [go_sem, ansCells, g0, g1, g2, g3]
    · have ho2 : tblOk g.hs b = false := by simpa using hob
      rw [ho2] at hhb
      rw [ho, ho2]
      simp only [Bool.and_false, Bool.false_and, if_false, Bool.false_eq_true]
      clear ho hob ho2
      have UF := (((Upd.refl hi).alloc' (.cells (stepCells ⟨8, a, b, c, v⟩) 35 (0, 0))).alloc' (.cells (ansCells ⟨3, false, 0, 0⟩) 37 (0, 0)))
      rw [show (w.alloc (.cells (stepCells ⟨8, a, b, c, v⟩) 35 (0, 0))).heap.size = w.heap.size + 1 by simp] at UF
      have G := ans_cells (x := ⟨3, false, 0, 0⟩) UF.inn.head
      simp only at G
      obtain ⟨g0, g1, g2, g3⟩ := G
      clear U0 hi gh cf ch hhas
      simp only [stepCells, ansCells, ans0] at *
      go_enter Tryz.func9, Tryz.ntmps9
      go_wp2_with (first | (go_at_call 33; with_reducible refine Calls.mono hha ?_; rintro e w1 ⟨rfl, rfl⟩) | (go_at_call 33; with_reducible refine Calls.mono hhb ?_; rintro e w1 ⟨rfl, rfl⟩))
      skip
      skip
      refine bodyPost_ret (v := .agg (ansCells ⟨3, false, 0, 0⟩)) ?_ rfl ⟨rfl, UF.drop1.drop1⟩
      simp only [results, Tryz.results9]
      simp [go_sem, ansCells, g0, g1, g2, g3]
  · have ho2 : tblOk g.hs a = false := by simpa using ho
    rw [ho2] at hha
    rw [ho2]
    simp only [Bool.false_and, if_false, Bool.false_eq_true]
    clear ho ho2
    have UF := (((Upd.refl hi).alloc' (.cells (stepCells ⟨8, a, b, c, v⟩) 35 (0, 0))).alloc' (.cells (ansCells ⟨3, false, 0, 0⟩) 37 (0, 0)))
    rw [show (w.alloc (.cells (stepCells ⟨8, a, b, c, v⟩) 35 (0, 0))).heap.size = w.heap.size + 1 by simp] at UF
    have G := ans_cells (x := ⟨3, false, 0, 0⟩) UF.inn.head
    simp only at G
    obtain ⟨g0, g1, g2, g3⟩ := G
    clear U0 hi gh cf ch hhas
    simp only [stepCells, ansCells, ans0] at *
    go_enter Tryz.func9, Tryz.ntmps9
    go_wp2_with (first | (go_at_call 33; with_reducible refine Calls.mono hha ?_; rintro e w1 ⟨rfl, rfl⟩))
    skip
    skip
    refine bodyPost_ret (v := .agg (ansCells ⟨3, false, 0, 0⟩)) ?_ rfl ⟨rfl, UF.drop1.drop1⟩
    simp only [results, Tryz.results9]
    simp [go_sem, ansCells, g0, g1, g2, g3]


end Go.Proofs.YtglbhcoikgbcmaaGreat
