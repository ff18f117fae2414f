/- What Copy, Get, Set and Write of the document's graph come to. Conditions: a graph as New makes it, its numbers those of nodes. -/
import Derived.Test.YtglbhcoikgbcmaaGreatRows
import Derived.Test.YtglbhcoikgbcmaaGreatRefB
import Derived.BigRegion
set_option linter.unusedVariables false
set_option linter.unusedSimpArgs false
namespace Go.Proofs.YtglbhcoikgbcmaaGreat
open Go.RowKit

theorem GraphS.Ok.num {g : GraphS} (ok : g.Ok) {k : Nat} (hk : k < g.hs.length) : ∃ m : Nat, g.hs.getD k 0 = m ∧ m < g.nodes.length := by
  have e : g.hs.getD k 0 = g.hs[k] := by simp [List.getD, hk]
  have := ok.hv _ (List.getElem_mem hk)
  refine ⟨g.hs[k].toNat, ?_, ?_⟩ <;> omega
theorem wrong_ok {g : GraphS} {b : Int} (h : g.wrong b = 0) : tblOk g.hs b = true := by
  unfold GraphS.wrong at h
  split at h
  · rename_i ho
    exact ho
  · cases h

theorem Upd.keepc {w w' : World} {h' : Hp} (u : Upd [] h' w w') {b o : Nat} {v : Value} (hc : w.cell? ⟨b, o, none⟩ = some v) : w'.cell? ⟨b, o, none⟩ = some v := by
  rw [u.below.cell (p := ⟨b, o, none⟩) (World.block_lt_of_cell? w _ hc)]
  exact hc
theorem Upd.keepf {w w' : World} {h' : Hp} (u : Upd [] h' w w') {b o o' : Nat} {v : Value} (hc : w.cell? ⟨b, o', none⟩ = some v) (hf : w.frozen? ⟨b, o, none⟩ = false) : w'.frozen? ⟨b, o, none⟩ = false := by
  have hb : b < w.heap.size := World.block_lt_of_cell? w _ hc
  rw [u.below.frozen (p := ⟨b, o, none⟩) hb]
  exact hf

set_option maxRecDepth 100000 in
set_option maxHeartbeats 2000000 in
theorem ref_copy (p : Nat) (g : GraphS) (ok : g.Ok) (a b c v : Int) (w : World) (h : Hp) (hi : In w h) (gh : GraphH p g h) :
    Calls Tryz.prog 31 #[.pointer (some ⟨p, 0, none⟩), .agg (stepCells ⟨7, a, b, c, v⟩)] w fun e w' =>
      e = .returned (.int .i64 (if tblOk g.hs a && tblOk g.hs b then 0 else 3)) ∧ ∃ h', GraphH p (if tblOk g.hs b = true then { g with hs := tblSet g.hs a (tblGet g.hs b) } else g) h' ∧ Upd h h' w w' := by
  have U0 := Upd.alloc hi (.cells (stepCells ⟨7, a, b, c, v⟩) 35 (0, 0))
  have hhas := fun i => ref_has p g i _ h U0.inn.tail gh
  have hwrong := fun i => ref_wrong p g i _ h U0.inn.tail gh
  obtain ⟨an, capn, ah, caph, c0, c1, c2, cf, ch⟩ := gh.own (x := [_]) U0.inn
  have hha := hhas a
  have hhb := hhas b
  by_cases ha : tblOk g.hs a = true
  · rw [ha] at hha
    by_cases hb : tblOk g.hs b = true
    · rw [hb] at hhb
      simp only [ha, hb, Bool.and_self, if_true]
      obtain ⟨k, rfl, hk, hget⟩ := tblOk_nat ha
      obtain ⟨m, rfl, hm, hget2⟩ := tblOk_nat hb
      obtain ⟨bq, oq, rfl, ck, fk⟩ := ch k hk
      obtain ⟨bq2, oq2, ez, ck2, _⟩ := ch m hm
      cases ez
      rw [hget2]
      generalize g.hs.getD m 0 = y at *
      obtain ⟨h', gh', U⟩ := gh.setH (x := [_]) U0.drew' c1 hk y
      have e2 : tblSet g.hs k y = g.hs.set k y := by unfold tblSet; rw [if_pos ha]; rfl
      rw [e2]
      have hkl : ((k : Int) < g.hs.length) := by omega
      have hml : ((m : Int) < g.hs.length) := by omega
      have fk2 := fk (oq + k)
      have HU := Lib.hid U
      have HG := Lib.hid gh'
      clear e2 ha hb hget hget2 ch hhas hwrong hi gh U gh' c0 c2 cf fk ok
      simp only [stepCells] at *
      go_enter Tryz.func31, Tryz.ntmps31
      go_wp2_with (first | (go_at_call 33; with_reducible refine Calls.mono hha ?_; rintro e w1 ⟨rfl, rfl⟩) | (go_at_call 33; with_reducible refine Calls.mono hhb ?_; rintro e w1 ⟨rfl, rfl⟩))
      refine wp_tail 15 (by kernel_rfl) (by kernel_rfl) fun w1 hw1 => ?_
      subst hw1
      simp only [List.take_succ_cons, List.take_zero, List.drop_succ_cons, List.drop_zero]
      repeat (refine wpStill_step (fun K hK => ?_); have HK := Lib.hid hK; clear hK; go_simp; refine HK.out _ ?_; clear HK K)
      refine wpStill_nil ?_
      go_wp2
      go_ret
      exact ⟨rfl, h', HG.out, HU.out.drop1⟩
    · have hb2 : tblOk g.hs b = false := by simpa using hb
      rw [hb2] at hhb
      simp only [ha, hb2, Bool.and_false, if_false, Bool.false_eq_true]
      clear ha hb hb2 ch hhas hwrong hi c0 c1 c2 cf ok
      simp only [stepCells] at *
      go_enter Tryz.func31, Tryz.ntmps31
      go_wp2_with (first | (go_at_call 33; with_reducible refine Calls.mono hha ?_; rintro e w1 ⟨rfl, rfl⟩) | (go_at_call 33; with_reducible refine Calls.mono hhb ?_; rintro e w1 ⟨rfl, rfl⟩))
      go_ret
      exact ⟨rfl, h, gh, U0.drop1⟩
  · have ha2 : tblOk g.hs a = false := by simpa using ha
    rw [ha2] at hha
    have e2 : (if tblOk g.hs b = true then ({ g with hs := tblSet g.hs a (tblGet g.hs b) } : GraphS) else g) = g := by
      have : ∀ v, tblSet g.hs a v = g.hs := fun v => by simp [tblSet, ha2]
      rw [this]
      split <;> rfl
    rw [e2]
    simp only [ha2, Bool.false_and, if_false, Bool.false_eq_true]
    clear ha ha2 e2 ch hhas hwrong hi c0 c1 c2 cf ok
    simp only [stepCells] at *
    go_enter Tryz.func31, Tryz.ntmps31
    go_wp2_with (first | (go_at_call 33; with_reducible refine Calls.mono hha ?_; rintro e w1 ⟨rfl, rfl⟩))
    go_ret
    exact ⟨rfl, h, gh, U0.drop1⟩

set_option maxRecDepth 100000 in
set_option maxHeartbeats 2000000 in
theorem ref_get (p : Nat) (g : GraphS) (ok : g.Ok) (a b c v : Int) (w : World) (h : Hp) (hi : In w h) (gh : GraphH p g h) :
    Calls Tryz.prog 31 #[.pointer (some ⟨p, 0, none⟩), .agg (stepCells ⟨2, a, b, c, v⟩)] w fun e w' =>
      e = .returned (.int .i64 (g.getE a b c)) ∧ ∃ h', GraphH p (if g.getE a b c = 0 then g.get a b c else g) h' ∧ Upd h h' w w' := by
  have U0 := Upd.alloc hi (.cells (stepCells ⟨2, a, b, c, v⟩) 35 (0, 0))
  have hhas := fun i => ref_has p g i _ h U0.inn.tail gh
  have hwrong := fun i => ref_wrong p g i _ h U0.inn.tail gh
  obtain ⟨an, capn, ah, caph, c0, c1, c2, cf, ch⟩ := gh.own (x := [_]) U0.inn
  have hw := hwrong b
  have hha := hhas a
  by_cases h0 : g.wrong b = 0
  · rw [h0] at hw
    by_cases ha : tblOk g.hs a = true
    · rw [ha] at hha
      obtain ⟨k2, rfl, hk2, hget2⟩ := tblOk_nat ha
      obtain ⟨k, rfl, hk, hget⟩ := tblOk_nat (wrong_ok h0)
      obtain ⟨bq, oq, rfl, ck, fk⟩ := ch k hk
      obtain ⟨m, hm0, hm⟩ := ok.num hk
      rw [hm0] at ck
      have hnd : g.nd k = g.nodes.getD m nd0 := by unfold GraphS.nd; rw [hget, hm0]; rfl
      obtain ⟨bn, on, capn', ap, capp, az, caps, d0, d1, d2, d3, d4⟩ := gh.node (x := [_]) U0.inn hm
      rw [c0] at d0
      cases d0
      have hkl : ((k : Int) < g.hs.length) := by omega
      have hml : ((m : Int) < g.nodes.length) := by omega
      obtain ⟨N, hN⟩ : ∃ N, N = g.nodes.getD m nd0 := ⟨_, rfl⟩
      rw [← hN] at d1 d2 d3 d4 hnd
      by_cases hc0 : 0 ≤ c
      · by_cases hc1 : c < N.ptrs.length
        · obtain ⟨cn, rfl⟩ : ∃ cn : Nat, c = cn := ⟨c.toNat, by omega⟩
          have e1 : g.getE k2 k cn = 0 := by unfold GraphS.getE inL; rw [if_pos h0, if_pos ha, hnd, if_pos (by simp; omega)]
          obtain ⟨gp, op, rfl, cp, _⟩ := d3 cn (by omega)
          obtain ⟨bz, oz, ez, ck2, fk2⟩ := ch k2 hk2
          cases ez
          obtain ⟨y, hy⟩ : ∃ y, y = N.ptrs.getD cn 0 := ⟨_, rfl⟩
          rw [← hy] at cp
          have u1 := (Upd.refl (In.nil (w.alloc (.cells (stepCells ⟨2, k2, k, cn, v⟩) 35 (0, 0))))).skip' (.cells #[.slice none 0 0, .slice none 0 0] 79 (0, 0))
          have u2 := (Upd.refl (In.nil (w.alloc (.cells (stepCells ⟨2, k2, k, cn, v⟩) 35 (0, 0))))).skip' (.cells #[.slice (some ⟨gp, op, none⟩) N.ptrs.length capp, .slice az N.scal.length caps] 79 (0, 0))
          have c0z1 := u1.keepc c0
          have c0z2 := u2.keepc c0
          have c1z1 := u1.keepc c1
          have c1z2 := u2.keepc c1
          have ckz1 := u1.keepc ck
          have ckz2 := u2.keepc ck
          have ck2z1 := u1.keepc ck2
          have ck2z2 := u2.keepc ck2
          have d1z1 := u1.keepc d1
          have d1z2 := u2.keepc d1
          have d2z1 := u1.keepc d2
          have d2z2 := u2.keepc d2
          have cpz1 := u1.keepc cp
          have cpz2 := u2.keepc cp
          have uW := u2.drew'.drew'
          have UW := (U0.skip' (.cells #[.slice (some ⟨gp, op, none⟩) N.ptrs.length capp, .slice az N.scal.length caps] 79 (0, 0))).drew'.drew'
          obtain ⟨h', gh', U⟩ := gh.setH (x := [_]) UW (uW.keepc c1) hk2 y
          have e2 : g.get k2 k cn = { g with hs := g.hs.set k2 y } := by
            unfold GraphS.get
            have e3 : rd (g.nd k).ptrs cn = y := by
              rw [hnd, hy]
              unfold rd
              rw [if_pos (by omega)]
              rfl
            rw [e3]
            unfold tblSet
            rw [if_pos ha]
            rfl
          rw [e1, if_pos rfl, e2]
          have hkl2 : ((k2 : Int) < g.hs.length) := by omega
          have f1 := fk2 (oq + k2)
          have f2 := u2.keepf ck2 f1
          have HU := Lib.hid U
          have HG := Lib.hid gh'
          clear e1 e2 h0 ha hnd hN hget hget2 hm0 d3 d4 ok fk fk2 hy U gh' uW UW u1 u2 gh hhas hwrong hi cf ch
          simp only [stepCells] at *
          go_enter Tryz.func31, Tryz.ntmps31
          go_wp2_with (first | (go_at_call 32; with_reducible refine Calls.mono hw ?_; rintro e w1 ⟨rfl, rfl⟩) | (go_at_call 33; with_reducible refine Calls.mono hha ?_; rintro e w1 ⟨rfl, rfl⟩))
          go_region
          go_wp2
          go_region
          go_wp2
          go_ret
          exact ⟨rfl, h', HG.out, HU.out.drop1⟩
        · have e1 : g.getE k2 k c = 5 := by unfold GraphS.getE inL; rw [if_pos h0, if_pos ha, hnd, if_neg (by simp; omega)]
          rw [e1, if_neg (by decide)]
          have u1 := (Upd.refl (In.nil (w.alloc (.cells (stepCells ⟨2, k2, k, c, v⟩) 35 (0, 0))))).skip' (.cells #[.slice none 0 0, .slice none 0 0] 79 (0, 0))
          have u2 := (Upd.refl (In.nil (w.alloc (.cells (stepCells ⟨2, k2, k, c, v⟩) 35 (0, 0))))).skip' (.cells #[.slice ap N.ptrs.length capp, .slice az N.scal.length caps] 79 (0, 0))
          have c0z1 := u1.keepc c0
          have c0z2 := u2.keepc c0
          have c1z1 := u1.keepc c1
          have c1z2 := u2.keepc c1
          have ckz1 := u1.keepc ck
          have ckz2 := u2.keepc ck
          have d1z1 := u1.keepc d1
          have d1z2 := u2.keepc d1
          have d2z1 := u1.keepc d2
          have d2z2 := u2.keepc d2
          clear e1 h0 ha hnd hN hget hget2 hm0 d3 d4 ok fk u1 u2 hhas hwrong hi cf ch
          simp only [stepCells] at *
          go_enter Tryz.func31, Tryz.ntmps31
          go_wp2_with (first | (go_at_call 32; with_reducible refine Calls.mono hw ?_; rintro e w1 ⟨rfl, rfl⟩) | (go_at_call 33; with_reducible refine Calls.mono hha ?_; rintro e w1 ⟨rfl, rfl⟩))
          go_region
          go_wp2
          go_ret
          exact ⟨rfl, h, gh, (U0.drew'.skip' _).drop1⟩
      · have e1 : g.getE k2 k c = 5 := by unfold GraphS.getE inL; rw [if_pos h0, if_pos ha, hnd, if_neg (by simp; omega)]
        rw [e1, if_neg (by decide)]
        have u1 := (Upd.refl (In.nil (w.alloc (.cells (stepCells ⟨2, k2, k, c, v⟩) 35 (0, 0))))).skip' (.cells #[.slice none 0 0, .slice none 0 0] 79 (0, 0))
        have u2 := (Upd.refl (In.nil (w.alloc (.cells (stepCells ⟨2, k2, k, c, v⟩) 35 (0, 0))))).skip' (.cells #[.slice ap N.ptrs.length capp, .slice az N.scal.length caps] 79 (0, 0))
        have c0z1 := u1.keepc c0
        have c0z2 := u2.keepc c0
        have c1z1 := u1.keepc c1
        have c1z2 := u2.keepc c1
        have ckz1 := u1.keepc ck
        have ckz2 := u2.keepc ck
        have d1z1 := u1.keepc d1
        have d1z2 := u2.keepc d1
        have d2z1 := u1.keepc d2
        have d2z2 := u2.keepc d2
        clear e1 h0 ha hnd hN hget hget2 hm0 d3 d4 ok fk u1 u2 hhas hwrong hi cf ch
        simp only [stepCells] at *
        go_enter Tryz.func31, Tryz.ntmps31
        go_wp2_with (first | (go_at_call 32; with_reducible refine Calls.mono hw ?_; rintro e w1 ⟨rfl, rfl⟩) | (go_at_call 33; with_reducible refine Calls.mono hha ?_; rintro e w1 ⟨rfl, rfl⟩))
        go_region
        go_wp2
        go_ret
        exact ⟨rfl, h, gh, (U0.drew'.skip' _).drop1⟩
    · have ha2 : tblOk g.hs a = false := by simpa using ha
      rw [ha2] at hha
      have e1 : g.getE a b c = 3 := by unfold GraphS.getE; rw [if_pos h0, if_neg ha]
      rw [e1, if_neg (by decide)]
      clear e1 h0 ha ha2 c0 c1 c2 ok hhas hwrong hi cf ch
      simp only [stepCells] at *
      go_enter Tryz.func31, Tryz.ntmps31
      go_wp2_with (first | (go_at_call 32; with_reducible refine Calls.mono hw ?_; rintro e w1 ⟨rfl, rfl⟩) | (go_at_call 33; with_reducible refine Calls.mono hha ?_; rintro e w1 ⟨rfl, rfl⟩))
      go_ret
      exact ⟨rfl, h, gh, U0.drop1⟩
  · have e1 : g.getE a b c = g.wrong b := by unfold GraphS.getE; rw [if_neg h0]
    rw [e1, if_neg h0]
    have hne : (g.wrong b != 0) = true := by simpa using h0
    generalize g.wrong b = E at *
    clear e1 h0 c0 c1 c2 ok hhas hwrong hi cf ch
    simp only [stepCells] at *
    go_enter Tryz.func31, Tryz.ntmps31
    go_wp2_with (first | (go_at_call 32; with_reducible refine Calls.mono hw ?_; rintro e w1 ⟨rfl, rfl⟩))
    go_ret
    exact ⟨rfl, h, gh, U0.drop1⟩

set_option maxRecDepth 100000 in
set_option maxHeartbeats 2000000 in
theorem ref_set (p : Nat) (g : GraphS) (ok : g.Ok) (a b c v : Int) (w : World) (h : Hp) (hi : In w h) (gh : GraphH p g h) :
    Calls Tryz.prog 31 #[.pointer (some ⟨p, 0, none⟩), .agg (stepCells ⟨3, a, b, c, v⟩)] w fun e w' =>
      e = .returned (.int .i64 (g.setE a b c)) ∧ ∃ h', GraphH p (if g.setE a b c = 0 then g.set a b c else g) h' ∧ Upd h h' w w' := by
  have U0 := Upd.alloc hi (.cells (stepCells ⟨3, a, b, c, v⟩) 35 (0, 0))
  have hhas := fun i => ref_has p g i _ h U0.inn.tail gh
  have hwrong := fun i => ref_wrong p g i _ h U0.inn.tail gh
  obtain ⟨an, capn, ah, caph, c0, c1, c2, cf, ch⟩ := gh.own (x := [_]) U0.inn
  have hw := hwrong a
  have hhc := hhas c
  by_cases h0 : g.wrong a = 0
  · rw [h0] at hw
    by_cases hc : tblOk g.hs c = true
    · rw [hc] at hhc
      obtain ⟨k2, rfl, hk2, hget2⟩ := tblOk_nat hc
      obtain ⟨k, rfl, hk, hget⟩ := tblOk_nat (wrong_ok h0)
      obtain ⟨bq, oq, rfl, ck, fk⟩ := ch k hk
      obtain ⟨m, hm0, hm⟩ := ok.num hk
      rw [hm0] at ck
      have hnd : g.nd k = g.nodes.getD m nd0 := by unfold GraphS.nd; rw [hget, hm0]; rfl
      obtain ⟨bn, on, capn', ap, capp, az, caps, d0, d1, d2, d3, d4⟩ := gh.node (x := [_]) U0.inn hm
      rw [c0] at d0
      cases d0
      have hkl : ((k : Int) < g.hs.length) := by omega
      have hml : ((m : Int) < g.nodes.length) := by omega
      obtain ⟨N, hN⟩ : ∃ N, N = g.nodes.getD m nd0 := ⟨_, rfl⟩
      rw [← hN] at d1 d2 d3 d4 hnd
      by_cases hb0 : 0 ≤ b
      · by_cases hb1 : b < N.ptrs.length
        · obtain ⟨cn, rfl⟩ : ∃ cn : Nat, b = cn := ⟨b.toNat, by omega⟩
          have e1 : g.setE k cn k2 = 0 := by unfold GraphS.setE inL; rw [if_pos h0, if_pos hc, hnd, if_pos (by simp; omega)]
          obtain ⟨gp, op, rfl, cp, fp⟩ := d3 cn (by omega)
          obtain ⟨bz, oz, ez, ck2, _⟩ := ch k2 hk2
          cases ez
          obtain ⟨y, hy⟩ : ∃ y, y = g.hs.getD k2 0 := ⟨_, rfl⟩
          rw [← hy] at ck2
          have u1 := (Upd.refl (In.nil (w.alloc (.cells (stepCells ⟨3, k, cn, k2, v⟩) 35 (0, 0))))).skip' (.cells #[.slice none 0 0, .slice none 0 0] 79 (0, 0))
          have u2 := (Upd.refl (In.nil (w.alloc (.cells (stepCells ⟨3, k, cn, k2, v⟩) 35 (0, 0))))).skip' (.cells #[.slice (some ⟨gp, op, none⟩) N.ptrs.length capp, .slice az N.scal.length caps] 79 (0, 0))
          have c0z1 := u1.keepc c0
          have c0z2 := u2.keepc c0
          have c1z1 := u1.keepc c1
          have c1z2 := u2.keepc c1
          have ckz1 := u1.keepc ck
          have ckz2 := u2.keepc ck
          have ck2z1 := u1.keepc ck2
          have ck2z2 := u2.keepc ck2
          have d1z1 := u1.keepc d1
          have d1z2 := u2.keepc d1
          have d2z1 := u1.keepc d2
          have d2z2 := u2.keepc d2
          have cpz1 := u1.keepc cp
          have cpz2 := u2.keepc cp
          have uW := u2.drew'.drew'
          have UW := (U0.skip' (.cells #[.slice (some ⟨gp, op, none⟩) N.ptrs.length capp, .slice az N.scal.length caps] 79 (0, 0))).drew'.drew'
          obtain ⟨h', gh', U⟩ := gh.setP (x := [_]) UW hm (uW.keepc c0) (uW.keepc d1) (j := cn) (by rw [← hN]; omega) y
          have e2 : g.set k cn k2 = { g with nodes := g.nodes.set m { g.nodes.getD m nd0 with ptrs := (g.nodes.getD m nd0).ptrs.set cn y } } := by
            unfold GraphS.set GraphS.putN
            rw [hnd, hget, hm0, hget2, ← hy, ← hN]
            rfl
          rw [e1, if_pos rfl, e2]
          have hkl2 : ((k2 : Int) < g.hs.length) := by omega
          have f1 := fp (op + cn)
          have f2 := u2.keepf cp f1
          have HU := Lib.hid U
          have HG := Lib.hid gh'
          clear e1 e2 h0 hc hnd hN hget hget2 hm0 d3 d4 ok fk fp hy U gh' uW UW u1 u2 gh hhas hwrong hi cf ch
          simp only [stepCells] at *
          go_enter Tryz.func31, Tryz.ntmps31
          go_wp2_with (first | (go_at_call 32; with_reducible refine Calls.mono hw ?_; rintro e w1 ⟨rfl, rfl⟩) | (go_at_call 33; with_reducible refine Calls.mono hhc ?_; rintro e w1 ⟨rfl, rfl⟩))
          go_region
          go_wp2
          go_region
          go_wp2
          go_ret
          exact ⟨rfl, h', HG.out, HU.out.drop1⟩
        · have e1 : g.setE k b k2 = 5 := by unfold GraphS.setE inL; rw [if_pos h0, if_pos hc, hnd, if_neg (by simp; omega)]
          rw [e1, if_neg (by decide)]
          have u1 := (Upd.refl (In.nil (w.alloc (.cells (stepCells ⟨3, k, b, k2, v⟩) 35 (0, 0))))).skip' (.cells #[.slice none 0 0, .slice none 0 0] 79 (0, 0))
          have u2 := (Upd.refl (In.nil (w.alloc (.cells (stepCells ⟨3, k, b, k2, v⟩) 35 (0, 0))))).skip' (.cells #[.slice ap N.ptrs.length capp, .slice az N.scal.length caps] 79 (0, 0))
          have c0z1 := u1.keepc c0
          have c0z2 := u2.keepc c0
          have c1z1 := u1.keepc c1
          have c1z2 := u2.keepc c1
          have ckz1 := u1.keepc ck
          have ckz2 := u2.keepc ck
          have d1z1 := u1.keepc d1
          have d1z2 := u2.keepc d1
          have d2z1 := u1.keepc d2
          have d2z2 := u2.keepc d2
          clear e1 h0 hc hnd hN hget hget2 hm0 d3 d4 ok fk u1 u2 hhas hwrong hi cf ch
          simp only [stepCells] at *
          go_enter Tryz.func31, Tryz.ntmps31
          go_wp2_with (first | (go_at_call 32; with_reducible refine Calls.mono hw ?_; rintro e w1 ⟨rfl, rfl⟩) | (go_at_call 33; with_reducible refine Calls.mono hhc ?_; rintro e w1 ⟨rfl, rfl⟩))
          go_region
          go_wp2
          go_ret
          exact ⟨rfl, h, gh, (U0.drew'.skip' _).drop1⟩
      · have e1 : g.setE k b k2 = 5 := by unfold GraphS.setE inL; rw [if_pos h0, if_pos hc, hnd, if_neg (by simp; omega)]
        rw [e1, if_neg (by decide)]
        have u1 := (Upd.refl (In.nil (w.alloc (.cells (stepCells ⟨3, k, b, k2, v⟩) 35 (0, 0))))).skip' (.cells #[.slice none 0 0, .slice none 0 0] 79 (0, 0))
        have u2 := (Upd.refl (In.nil (w.alloc (.cells (stepCells ⟨3, k, b, k2, v⟩) 35 (0, 0))))).skip' (.cells #[.slice ap N.ptrs.length capp, .slice az N.scal.length caps] 79 (0, 0))
        have c0z1 := u1.keepc c0
        have c0z2 := u2.keepc c0
        have c1z1 := u1.keepc c1
        have c1z2 := u2.keepc c1
        have ckz1 := u1.keepc ck
        have ckz2 := u2.keepc ck
        have d1z1 := u1.keepc d1
        have d1z2 := u2.keepc d1
        have d2z1 := u1.keepc d2
        have d2z2 := u2.keepc d2
        clear e1 h0 hc hnd hN hget hget2 hm0 d3 d4 ok fk u1 u2 hhas hwrong hi cf ch
        simp only [stepCells] at *
        go_enter Tryz.func31, Tryz.ntmps31
        go_wp2_with (first | (go_at_call 32; with_reducible refine Calls.mono hw ?_; rintro e w1 ⟨rfl, rfl⟩) | (go_at_call 33; with_reducible refine Calls.mono hhc ?_; rintro e w1 ⟨rfl, rfl⟩))
        go_region
        go_wp2
        go_ret
        exact ⟨rfl, h, gh, (U0.drew'.skip' _).drop1⟩
    · have hc2 : tblOk g.hs c = false := by simpa using hc
      rw [hc2] at hhc
      have e1 : g.setE a b c = 3 := by unfold GraphS.setE; rw [if_pos h0, if_neg hc]
      rw [e1, if_neg (by decide)]
      clear e1 h0 hc hc2 c0 c1 c2 ok hhas hwrong hi cf ch
      simp only [stepCells] at *
      go_enter Tryz.func31, Tryz.ntmps31
      go_wp2_with (first | (go_at_call 32; with_reducible refine Calls.mono hw ?_; rintro e w1 ⟨rfl, rfl⟩) | (go_at_call 33; with_reducible refine Calls.mono hhc ?_; rintro e w1 ⟨rfl, rfl⟩))
      go_ret
      exact ⟨rfl, h, gh, U0.drop1⟩
  · have e1 : g.setE a b c = g.wrong a := by unfold GraphS.setE; rw [if_neg h0]
    rw [e1, if_neg h0]
    have hne : (g.wrong a != 0) = true := by simpa using h0
    generalize g.wrong a = E at *
    clear e1 h0 c0 c1 c2 ok hhas hwrong hi cf ch
    simp only [stepCells] at *
    go_enter Tryz.func31, Tryz.ntmps31
    go_wp2_with (first | (go_at_call 32; with_reducible refine Calls.mono hw ?_; rintro e w1 ⟨rfl, rfl⟩))
    go_ret
    exact ⟨rfl, h, gh, U0.drop1⟩

set_option maxRecDepth 100000 in
set_option maxHeartbeats 2000000 in
theorem ref_write (p : Nat) (g : GraphS) (ok : g.Ok) (a b c v : Int) (w : World) (h : Hp) (hi : In w h) (gh : GraphH p g h) :
    Calls Tryz.prog 31 #[.pointer (some ⟨p, 0, none⟩), .agg (stepCells ⟨5, a, b, c, v⟩)] w fun e w' =>
      e = .returned (.int .i64 (g.scalE a b)) ∧ ∃ h', GraphH p (if g.scalE a b = 0 then g.write a b v else g) h' ∧ Upd h h' w w' := by
  have U0 := Upd.alloc hi (.cells (stepCells ⟨5, a, b, c, v⟩) 35 (0, 0))
  have hhas := fun i => ref_has p g i _ h U0.inn.tail gh
  have hwrong := fun i => ref_wrong p g i _ h U0.inn.tail gh
  obtain ⟨an, capn, ah, caph, c0, c1, c2, cf, ch⟩ := gh.own (x := [_]) U0.inn
  have hw := hwrong a
  by_cases h0 : g.wrong a = 0
  · rw [h0] at hw
    obtain ⟨k, rfl, hk, hget⟩ := tblOk_nat (wrong_ok h0)
    obtain ⟨bq, oq, rfl, ck, fk⟩ := ch k hk
    obtain ⟨m, hm0, hm⟩ := ok.num hk
    rw [hm0] at ck
    have hnd : g.nd k = g.nodes.getD m nd0 := by unfold GraphS.nd; rw [hget, hm0]; rfl
    obtain ⟨bn, on, capn', ap, capp, az, caps, d0, d1, d2, d3, d4⟩ := gh.node (x := [_]) U0.inn hm
    rw [c0] at d0
    cases d0
    have hkl : ((k : Int) < g.hs.length) := by omega
    have hml : ((m : Int) < g.nodes.length) := by omega
    obtain ⟨N, hN⟩ : ∃ N, N = g.nodes.getD m nd0 := ⟨_, rfl⟩
    rw [← hN] at d1 d2 d3 d4 hnd
    by_cases hb0 : 0 ≤ b
    · by_cases hb1 : b < N.scal.length
      · obtain ⟨cn, rfl⟩ : ∃ cn : Nat, b = cn := ⟨b.toNat, by omega⟩
        have e1 : g.scalE k cn = 0 := by unfold GraphS.scalE inL; rw [if_pos h0, hnd, if_pos (by simp; omega)]
        obtain ⟨gp, op, rfl, cp, fp⟩ := d4 cn (by omega)
        have u1 := (Upd.refl (In.nil (w.alloc (.cells (stepCells ⟨5, k, cn, c, v⟩) 35 (0, 0))))).skip' (.cells #[.slice none 0 0, .slice none 0 0] 79 (0, 0))
        have u2 := (Upd.refl (In.nil (w.alloc (.cells (stepCells ⟨5, k, cn, c, v⟩) 35 (0, 0))))).skip' (.cells #[.slice ap N.ptrs.length capp, .slice (some ⟨gp, op, none⟩) N.scal.length caps] 79 (0, 0))
        have c0z1 := u1.keepc c0
        have c0z2 := u2.keepc c0
        have c1z1 := u1.keepc c1
        have c1z2 := u2.keepc c1
        have ckz1 := u1.keepc ck
        have ckz2 := u2.keepc ck
        have d1z1 := u1.keepc d1
        have d1z2 := u2.keepc d1
        have d2z1 := u1.keepc d2
        have d2z2 := u2.keepc d2
        have cpz1 := u1.keepc cp
        have cpz2 := u2.keepc cp
        have uW := u2.drew'
        have UW := (U0.skip' (.cells #[.slice ap N.ptrs.length capp, .slice (some ⟨gp, op, none⟩) N.scal.length caps] 79 (0, 0))).drew'
        obtain ⟨h', gh', U⟩ := gh.setS (x := [_]) UW hm (uW.keepc c0) (uW.keepc d2) (j := cn) (by rw [← hN]; omega) v
        have e2 : g.write k cn v = { g with nodes := g.nodes.set m { g.nodes.getD m nd0 with scal := (g.nodes.getD m nd0).scal.set cn v } } := by
          unfold GraphS.write GraphS.putN
          rw [hnd, hget, hm0, ← hN]
          rfl
        rw [e1, if_pos rfl, e2]
        have f1 := fp (op + cn)
        have f2 := u2.keepf cp f1
        have HU := Lib.hid U
        have HG := Lib.hid gh'
        clear e1 e2 h0 hnd hN hget hm0 d3 d4 ok fk fp U gh' uW UW u1 u2 gh hhas hwrong hi cf ch
        simp only [stepCells] at *
        go_enter Tryz.func31, Tryz.ntmps31
        go_wp2_with (first | (go_at_call 32; with_reducible refine Calls.mono hw ?_; rintro e w1 ⟨rfl, rfl⟩))
        go_region
        go_wp2
        go_ret
        exact ⟨rfl, h', HG.out, HU.out.drop1⟩
      · have e1 : g.scalE k b = 5 := by unfold GraphS.scalE inL; rw [if_pos h0, hnd, if_neg (by simp; omega)]
        rw [e1, if_neg (by decide)]
        have u1 := (Upd.refl (In.nil (w.alloc (.cells (stepCells ⟨5, k, b, c, v⟩) 35 (0, 0))))).skip' (.cells #[.slice none 0 0, .slice none 0 0] 79 (0, 0))
        have u2 := (Upd.refl (In.nil (w.alloc (.cells (stepCells ⟨5, k, b, c, v⟩) 35 (0, 0))))).skip' (.cells #[.slice ap N.ptrs.length capp, .slice az N.scal.length caps] 79 (0, 0))
        have c0z1 := u1.keepc c0
        have c0z2 := u2.keepc c0
        have c1z1 := u1.keepc c1
        have c1z2 := u2.keepc c1
        have ckz1 := u1.keepc ck
        have ckz2 := u2.keepc ck
        have d1z1 := u1.keepc d1
        have d1z2 := u2.keepc d1
        have d2z1 := u1.keepc d2
        have d2z2 := u2.keepc d2
        clear e1 h0 hnd hN hget hm0 d3 d4 ok fk u1 u2 hhas hwrong hi cf ch
        simp only [stepCells] at *
        go_enter Tryz.func31, Tryz.ntmps31
        go_wp2_with (first | (go_at_call 32; with_reducible refine Calls.mono hw ?_; rintro e w1 ⟨rfl, rfl⟩))
        go_region
        go_wp2
        go_ret
        exact ⟨rfl, h, gh, (U0.drew'.skip' _).drop1⟩
    · have e1 : g.scalE k b = 5 := by unfold GraphS.scalE inL; rw [if_pos h0, hnd, if_neg (by simp; omega)]
      rw [e1, if_neg (by decide)]
      have u1 := (Upd.refl (In.nil (w.alloc (.cells (stepCells ⟨5, k, b, c, v⟩) 35 (0, 0))))).skip' (.cells #[.slice none 0 0, .slice none 0 0] 79 (0, 0))
      have u2 := (Upd.refl (In.nil (w.alloc (.cells (stepCells ⟨5, k, b, c, v⟩) 35 (0, 0))))).skip' (.cells #[.slice ap N.ptrs.length capp, .slice az N.scal.length caps] 79 (0, 0))
      have c0z1 := u1.keepc c0
      have c0z2 := u2.keepc c0
      have c1z1 := u1.keepc c1
      have c1z2 := u2.keepc c1
      have ckz1 := u1.keepc ck
      have ckz2 := u2.keepc ck
      have d1z1 := u1.keepc d1
      have d1z2 := u2.keepc d1
      have d2z1 := u1.keepc d2
      have d2z2 := u2.keepc d2
      clear e1 h0 hnd hN hget hm0 d3 d4 ok fk u1 u2 hhas hwrong hi cf ch
      simp only [stepCells] at *
      go_enter Tryz.func31, Tryz.ntmps31
      go_wp2_with (first | (go_at_call 32; with_reducible refine Calls.mono hw ?_; rintro e w1 ⟨rfl, rfl⟩))
      go_region
      go_wp2
      go_ret
      exact ⟨rfl, h, gh, (U0.drew'.skip' _).drop1⟩
  · have e1 : g.scalE a b = g.wrong a := by unfold GraphS.scalE; rw [if_neg h0]
    rw [e1, if_neg h0]
    have hne : (g.wrong a != 0) = true := by simpa using h0
    generalize g.wrong a = E at *
    clear e1 h0 c0 c1 c2 ok hhas hwrong hi cf ch
    simp only [stepCells] at *
    go_enter Tryz.func31, Tryz.ntmps31
    go_wp2_with (first | (go_at_call 32; with_reducible refine Calls.mono hw ?_; rintro e w1 ⟨rfl, rfl⟩))
    go_ret
    exact ⟨rfl, h, gh, U0.drop1⟩


end Go.Proofs.YtglbhcoikgbcmaaGreat
