/- What Note and Mark of package core come to. Conditions: a core as New makes it. -/
import Derived.Test.YtglbhcoikgbcmaaGreatRows
import Derived.Test.YtglbhcoikgbcmaaGreatLib
import Derived.Test.YtglbhcoikgbcmaaGreatCoreC
set_option linter.unusedVariables false
set_option linter.unusedSimpArgs false
namespace Go.Proofs.YtglbhcoikgbcmaaGreat
open Go.RowKit

/-- an old object that is noted -/
def CoreS.noteOk (s : CoreS) (i : Int) : Bool := !decide (i = 0) && (headS s.ws i).old && !(headS s.ws i).noted
def CoreS.note (s : CoreS) (i : Int) : CoreS := if s.noteOk i then { s with ws := stW s.ws i { headS s.ws i with noted := true }.enc, r := s.r.add i } else s

set_option maxRecDepth 100000 in
set_option maxHeartbeats 1000000 in
theorem core_note (pc : Nat) (L : CoreL) (s : CoreS) (i : Int) (w : World) (h : Hp) (hi : In w h) (hc : CoreH pc L s h) (hb : I64 i) :
    Calls Tryz.prog 53 #[ptr pc, .int .i64 i] w fun e w' =>
      e = .returned (.tuple #[]) ∧ ∃ h', CoreH pc L (s.note i) h' ∧ Upd h h' w w' := by
  by_cases hz : i = 0
  · have e1 : s.note i = s := by simp [CoreS.note, CoreS.noteOk, hz]
    have hq : (i == 0) = true := by simpa using hz
    rw [e1]
    clear e1 hz
    simp only [ptr] at *
    go_enter Tryz.func53, Tryz.ntmps53
    go_wp2
    refine bodyPost_ret (results_none rfl _ _ _) rfl ?_
    exact ⟨rfl, _, hc, Upd.refl hi⟩
  · have hq : (i == 0) = false := by simpa using hz
    have hh := core_head pc L s i w h hi hc
    have hG : (headS s.ws i).Good := unH_good _
    by_cases hk : (headS s.ws i).old = true ∧ (headS s.ws i).noted = false
    · have e1 : s.note i = { s with ws := stW s.ws i { headS s.ws i with noted := true }.enc, r := s.r.add i } := by simp [CoreS.note, CoreS.noteOk, hz, hk]
      rw [e1]
      obtain ⟨k1, k2⟩ := hk
      have hset := fun W h (hiW : In W h) (hc : CoreH pc L s h) => core_sethead pc L s i { headS s.ws i with noted := true } hG W h hiW hc
      have hadd := fun W h (hiW : In W h) (hr : RemH L.pr s.r h) => rem_add L.pr s.r i W h hiW hr hb
      generalize headS s.ws i = H at *
      obtain ⟨a1, a2, a3, a4, a5, a6, a7⟩ := H
      simp only at k1 k2
      subst k1 k2
      clear e1 hz hi hG
      simp only [ptr, hdCells] at *
      go_enter Tryz.func53, Tryz.ntmps53
      go_wp2_with (first | (go_at_call 65; refine Calls.mono hh ?_; rintro e w1 ⟨rfl, h1, c1, u1⟩) | (go_at_call 69; have U1 := u1.alloc' (.cells (hdCells ⟨a1, a2, a3, a4, a5, true, true⟩) 112 (0, 0)); refine Calls.mono (hset _ _ U1.inn.tail c1) ?_; rintro e w2 ⟨rfl, h2, ⟨v, ha, hy, ho, hr, hg, ht, hw, rfl, ca, cy, co, cr, cg, ct, cw⟩, u2⟩; have U2 := (U1.under u2).drop1; obtain ⟨p1, p2, p3, p4, p5, p6⟩ := core_ptrs (In.core (x := []) U2.inn); clear p1 p2 p3 p5 p6; simp only [ptr] at p4) | (go_at_call 70; refine Calls.mono (hadd _ _ (In.rem (x := []) U2.inn) cr) ?_; rintro e w3 ⟨rfl, hr', cr', u3⟩; have U3 := Upd.rem (x := []) U2 u3))
      go_end0
      exact ⟨rfl, _, ⟨v, ha, hy, ho, hr', hg, ht, hw, rfl, ca, cy, co, cr', cg, ct, cw⟩, U3⟩
    · have e1 : s.note i = s := by
        have : s.noteOk i = false := by
          simp only [CoreS.noteOk]
          cases h1 : (headS s.ws i).old <;> cases h2 : (headS s.ws i).noted <;> simp_all
        simp [CoreS.note, this]
      rw [e1]
      clear e1 hz hG
      generalize headS s.ws i = H at *
      obtain ⟨a1, a2, a3, a4, a5, a6, a7⟩ := H
      simp only at hk
      cases a7
      · clear hk
        simp only [ptr, hdCells] at *
        go_enter Tryz.func53, Tryz.ntmps53
        go_wp2_with (go_at_call 65; refine Calls.mono hh ?_; rintro e w1 ⟨rfl, h1, c1, u1⟩)
        go_end0
        exact ⟨rfl, _, c1, u1.skip' _⟩
      · have k2 : a6 = true := by simpa using hk
        subst k2
        clear hk
        simp only [ptr, hdCells] at *
        go_enter Tryz.func53, Tryz.ntmps53
        go_wp2_with (go_at_call 65; refine Calls.mono hh ?_; rintro e w1 ⟨rfl, h1, c1, u1⟩)
        go_end0
        exact ⟨rfl, _, c1, u1.skip' _⟩


/-- what Mark marks -/
def CoreS.markOk (s : CoreS) (i : Int) : Bool := !decide (i = 0) && decide (s.phase = 1) && !decide ((headS s.ws (s.now i)).parity = s.parity)
def CoreS.mark (s : CoreS) (i : Int) : CoreS := if s.markOk i then { s with ws := stW s.ws (s.now i) { headS s.ws (s.now i) with parity := s.parity, grey := true }.enc, g := s.g.push (s.now i) } else s

theorem CoreS.now_I64 (s : CoreS) {i : Int} (h : I64 i) : I64 (s.now i) := by
  unfold CoreS.now
  split
  · unfold wayW
    split
    · exact I64.wrap _
    · exact I64.small (by decide) (by decide)
  · exact h

set_option maxRecDepth 100000 in
set_option maxHeartbeats 2000000 in
theorem core_mark (pc : Nat) (L : CoreL) (s : CoreS) (i : Int) (w : World) (h : Hp) (hi : In w h) (hc : CoreH pc L s h) (hb : I64 i) (hpar : s.parity = 0 ∨ s.parity = 1) :
    Calls Tryz.prog 56 #[ptr pc, .int .i64 i] w fun e w' =>
      e = .returned (.tuple #[]) ∧ ∃ h', CoreH pc L (s.mark i) h' ∧ Upd h h' w w' := by
  by_cases hz : i = 0
  · have e1 : s.mark i = s := by simp [CoreS.mark, CoreS.markOk, hz]
    have hq : (i == 0) = true := by simpa using hz
    rw [e1]
    clear e1 hz hpar
    simp only [ptr] at *
    go_enter Tryz.func56, Tryz.ntmps56
    go_wp2
    refine bodyPost_ret (results_none rfl _ _ _) rfl ?_
    exact ⟨rfl, _, hc, Upd.refl hi⟩
  · have hq : (i == 0) = false := by simpa using hz
    have hc0 := hc
    obtain ⟨v, ha, hy, ho, hr, hg, ht, hw, rfl, ca, cy, co, cr, cg, ct, cw⟩ := hc
    obtain ⟨q1, q2, q3, q4, q5, q6⟩ := core_vars (In.core (x := []) hi)
    clear q1 q3 q4 q5 q6
    by_cases hp : s.phase = 1
    · have hnow := core_now pc L s i w _ hi hc0 hb
      have hh := fun W h (hiW : In W h) (hc : CoreH pc L s h) => core_head pc L s (s.now i) W h hiW hc
      have hG : (headS s.ws (s.now i)).Good := unH_good _
      have hjb := s.now_I64 hb
      by_cases hk : (headS s.ws (s.now i)).parity = s.parity
      · have e1 : s.mark i = s := by simp [CoreS.mark, CoreS.markOk, hk]
        rw [e1]
        rw [hp] at q2
        generalize s.now i = j at *
        generalize headS s.ws j = H at *
        have hk' : (H.parity == s.parity) = true := by simpa using hk
        clear e1 hz hG hpar hk hp
        simp only [ptr, hdCells] at *
        go_enter Tryz.func56, Tryz.ntmps56
        go_wp2_with (first | (go_at_call 72; refine Calls.mono hnow ?_; rintro e w1 ⟨rfl, h1, c1, u1⟩) | (go_at_call 65; refine Calls.mono (hh _ _ u1.inn c1) ?_; rintro e w2 ⟨rfl, h2, ⟨v2, ha2, hy2, ho2, hr2, hg2, ht2, hw2, rfl, ca2, cy2, co2, cr2, cg2, ct2, cw2⟩, u2⟩; have U2 := Upd.box (x := []) (u1.trans u2) (.cells (hdCells H) 112 (0, 0)); obtain ⟨q1, q2, q3, q4, q5, q6⟩ := core_vars U2.inn.core; simp only [hdCells] at q1; clear q2 q3 q4 q5 q6))
        go_quiet (fail)
        go_wp2
        refine bodyPost_ret (results_none rfl _ _ _) rfl ?_
        exact ⟨rfl, _, ⟨v2, ha2, hy2, ho2, hr2, hg2, ht2, hw2, rfl, ca2, cy2, co2, cr2, cg2, ct2, cw2⟩, (U2.drop1).drewN' nq⟩
      · have e1 : s.mark i = { s with ws := stW s.ws (s.now i) { headS s.ws (s.now i) with parity := s.parity, grey := true }.enc, g := s.g.push (s.now i) } := by simp [CoreS.mark, CoreS.markOk, hk, hp, hz]
        rw [e1]
        have hG2 : Hd.Good { headS s.ws (s.now i) with parity := s.parity, grey := true } := by
          obtain ⟨g1, g2, g3, g4, g5, g6, g7⟩ := hG
          exact ⟨g1, g2, g3, g4, g5, g6, hpar⟩
        have hset := fun W h (hiW : In W h) (hc : CoreH pc L s h) => core_sethead pc L s (s.now i) { headS s.ws (s.now i) with parity := s.parity, grey := true } hG2 W h hiW hc
        have hpush := fun W h (hiW : In W h) (hr : GreyH L.pg s.g h) => grey_push L.pg s.g (s.now i) W h hiW hr hjb
        rw [hp] at q2
        generalize s.now i = j at *
        generalize headS s.ws j = H at *
        have hk' : (H.parity == s.parity) = false := by simpa using hk
        obtain ⟨a1, a2, a3, a4, a5, a6, a7⟩ := H
        clear e1 hz hG hG2 hpar hk hp
        simp only [ptr, hdCells] at *
        go_enter Tryz.func56, Tryz.ntmps56
        go_wp2_with (first | (go_at_call 72; refine Calls.mono hnow ?_; rintro e w1 ⟨rfl, h1, c1, u1⟩) | (go_at_call 65; refine Calls.mono (hh _ _ u1.inn c1) ?_; rintro e w2 ⟨rfl, h2, ⟨v2, ha2, hy2, ho2, hr2, hg2, ht2, hw2, rfl, ca2, cy2, co2, cr2, cg2, ct2, cw2⟩, u2⟩; have U2 := Upd.box (x := []) (u1.trans u2) (.cells (hdCells ⟨a1, a2, a3, a4, a5, a6, a7⟩) 112 (0, 0)); obtain ⟨q1, q2, q3, q4, q5, q6⟩ := core_vars U2.inn.core; simp only [hdCells] at q1; clear q2 q3 q4 q5 q6))
        go_quiet (fail)
        have q1' : (World.drewN (w2.alloc (.cells #[.int .i64 a1, .int .i64 a2, .int .i64 a3, .int .i64 a4, .bool a5, .bool a6, .bool a7] 112 (0, 0))) nq).cell? ⟨pc, 19, none⟩ = some (.int .i64 s.parity) := q1
        go_wp2_with (first | (go_at_call 69; have U3 := (((((u1.trans u2).alloc' (.cells (hdCells ⟨a1, a2, a3, a4, a5, a6, a7⟩) 112 (0, 0))).drewN' nq)).store1 3 (.int .i64 s.parity)).store1 4 (.bool true); refine Calls.mono (hset _ _ U3.inn.tail ⟨v2, ha2, hy2, ho2, hr2, hg2, ht2, hw2, rfl, ca2, cy2, co2, cr2, cg2, ct2, cw2⟩) ?_; rintro e w4 ⟨rfl, h4, ⟨v4, ha4, hy4, ho4, hr4, hg4, ht4, hw4, rfl, ca4, cy4, co4, cr4, cg4, ct4, cw4⟩, u4⟩; have U4 := (U3.under u4).drop1; obtain ⟨p1, p2, p3, p4, p5, p6⟩ := core_ptrs (In.core (x := []) U4.inn); clear p1 p2 p3 p4 p6; simp only [ptr] at p5) | (go_at_call 75; refine Calls.mono (hpush _ _ (In.grey (x := []) U4.inn) cg4) ?_; rintro e w5 ⟨rfl, hg5, cg5, u5⟩; have U5 := Upd.grey (x := []) U4 u5))
        go_end0
        exact ⟨rfl, _, ⟨v4, ha4, hy4, ho4, hr4, hg5, ht4, hw4, rfl, ca4, cy4, co4, cr4, cg5, ct4, cw4⟩, U5⟩
    · have e1 : s.mark i = s := by simp [CoreS.mark, CoreS.markOk, hp]
      have hp' : (s.phase != 1) = true := by simpa using hp
      rw [e1]
      clear e1 hz hp hpar
      simp only [ptr] at *
      go_enter Tryz.func56, Tryz.ntmps56
      go_wp2
      refine bodyPost_ret (results_none rfl _ _ _) rfl ?_
      exact ⟨rfl, _, hc0, Upd.refl hi⟩

end Go.Proofs.YtglbhcoikgbcmaaGreat
