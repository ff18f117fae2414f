/- What an entry comes to on a core without cycles, as one pure step; the call do as that step. Conditions: the core is quiet. -/
import Derived.Test.YtglbhcoikgbcmaaGreatRows
import Derived.Test.YtglbhcoikgbcmaaGreatLawB
import Derived.Test.YtglbhcoikgbcmaaGreatLawD
set_option linter.unusedVariables false
set_option linter.unusedSimpArgs false
namespace Go.Proofs.YtglbhcoikgbcmaaGreat
open Go.RowKit

/-- no cycle goes on, and nothing is old -/
structure CoreS.Quiet (s : CoreS) : Prop where
  ph : s.phase = 0
  nw : s.y.now = false
  u1 : s.y.u1 = 0
  cp : s.copied = 0
  par : s.parity = 0
  mv : s.moving = false
  l0 : 0 ≤ s.C.largest
  l1 : s.C.largest ≤ 64
  em : s.o.empty

theorem YoungS.take_now (y : YoungS) (n : Int) : (y.take n).now = y.now := by
  unfold YoungS.take
  split
  · split <;> rfl
  · rfl
theorem YoungS.take_u1 {y : YoungS} (n : Int) (h : y.now = false) : (y.take n).u1 = y.u1 := by
  unfold YoungS.take
  rw [h]
  split <;> rfl

theorem CoreS.Quiet.make {s : CoreS} (q : s.Quiet) (i p c : Int) : (s.make i p c).Quiet := by
  unfold CoreS.make
  split
  · exact ⟨q.ph, (YoungS.take_now ..).trans q.nw, (YoungS.take_u1 _ q.nw).trans q.u1, q.cp, q.par, q.mv, q.l0, q.l1, q.em⟩
  · exact q
theorem CoreS.Quiet.note {s : CoreS} (q : s.Quiet) (i : Int) : (s.note i).Quiet := by
  unfold CoreS.note
  split
  · exact ⟨q.ph, q.nw, q.u1, q.cp, q.par, q.mv, q.l0, q.l1, q.em⟩
  · exact q
theorem CoreS.Quiet.words {s : CoreS} (q : s.Quiet) (ws : List Int) : ({ s with ws := ws } : CoreS).Quiet := ⟨q.ph, q.nw, q.u1, q.cp, q.par, q.mv, q.l0, q.l1, q.em⟩
theorem CoreS.Quiet.table {s : CoreS} (q : s.Quiet) (t : List Int) : ({ s with t := t } : CoreS).Quiet := ⟨q.ph, q.nw, q.u1, q.cp, q.par, q.mv, q.l0, q.l1, q.em⟩
theorem CoreS.Quiet.set {s : CoreS} (q : s.Quiet) (i n k : Int) : (s.set i n k).Quiet := by
  unfold CoreS.set CoreS.setTo
  have h : (s.put i n k).Quiet := q.words _
  split
  · split
    · exact h.note _
    · exact h
  · exact q

theorem CoreS.Quiet.from_no {s : CoreS} (q : s.Quiet) (i : Int) : s.y.isFrom i = false := by
  unfold YoungS.isFrom YoungS.of YoungS.ou
  simp [q.nw, q.u1]
theorem CoreS.Quiet.now {s : CoreS} (q : s.Quiet) (i : Int) : s.now i = i := by
  unfold CoreS.now
  rw [q.from_no i]
  simp
theorem CoreS.Quiet.mark {s : CoreS} (q : s.Quiet) (i : Int) : s.mark i = s := by
  unfold CoreS.mark CoreS.markOk
  simp [q.ph]

def CoreS.got (s : CoreS) (a b c : Int) : CoreS := if s.refE b c a = 0 then { s with t := tblSet s.t a (refS s.ws (tblGet s.t b) c) } else s

/-- the core behind an entry -/
def stepS (s : CoreS) (x : StepS) : CoreS :=
  if x.kind = 1 then s.make x.a x.b x.c
  else if x.kind = 2 then s.got x.a x.b x.c
  else if x.kind = 3 then s.set x.a x.b x.c
  else if x.kind = 5 then { s with ws := s.writeW x.a x.b x.v }
  else if x.kind = 6 then { s with t := tblSet s.t x.a 0 }
  else if x.kind = 7 then { s with t := s.copyT x.a x.b }
  else s
/-- the answer -/
def ansS (s : CoreS) (x : StepS) : AnsS :=
  if x.kind = 1 then ⟨s.makeE x.a x.b x.c, false, 0, 0⟩
  else if x.kind = 2 then ⟨s.refE x.b x.c x.a, false, 0, 0⟩
  else if x.kind = 3 then ⟨s.refE x.a x.b x.c, false, 0, 0⟩
  else if x.kind = 4 then ⟨s.scalE x.a x.b, false, 0, s.readV x.a x.b⟩
  else if x.kind = 5 then ⟨s.scalE x.a x.b, false, 0, 0⟩
  else if x.kind = 6 then ⟨tblErr s.t x.a, false, 0, 0⟩
  else if x.kind = 7 then ⟨s.copyE x.a x.b, false, 0, 0⟩
  else if x.kind = 8 then ⟨s.sameE x.a x.b, s.sameV x.a x.b, 0, 0⟩
  else if x.kind = 9 then ⟨tblErr s.t x.a, s.nilV x.a, 0, 0⟩
  else if x.kind = 10 then ⟨s.objE x.a, false, (s.objH x.a).ptrs, u64 ((s.objH x.a).size - (s.objH x.a).ptrs)⟩
  else ans0

theorem CoreS.Quiet.got {s : CoreS} (q : s.Quiet) (a b c : Int) : (s.got a b c).Quiet := by
  unfold CoreS.got
  split
  · exact q.table _
  · exact q
theorem CoreS.Quiet.step {s : CoreS} (q : s.Quiet) (x : StepS) : (stepS s x).Quiet := by
  unfold stepS
  split
  · exact q.make ..
  split
  · exact q.got ..
  split
  · exact q.set ..
  split
  · exact q.words _
  split
  · exact q.table _
  split
  · exact q.table _
  exact q
/-- the core behind a script -/
def runS (s : CoreS) (l : List StepS) : CoreS := l.foldl stepS s
theorem CoreS.Quiet.run {s : CoreS} (q : s.Quiet) (l : List StepS) : (runS s l).Quiet := by
  induction l generalizing s with
  | nil => exact q
  | cons x l ih => exact ih (q.step x)
theorem runS_snoc (s : CoreS) (l : List StepS) (x : StepS) : runS s (l ++ [x]) = stepS (runS s l) x := by simp [runS]

theorem core_got (pc : Nat) (L : CoreL) (s : CoreS) (a b c : Int) (q : s.Quiet) (w : World) (h : Hp) (hi : In w h) (hc : CoreH pc L s h) :
    Calls Tryz.prog 24 #[ptr pc, .int .i64 a, .int .i64 b, .int .i64 c] w fun e w' => e = .returned (.int .i64 (s.refE b c a)) ∧ ∃ h', CoreH pc L (s.got a b c) h' ∧ Upd h h' w w' := by
  by_cases hok : s.refE b c a = 0
  · have hr : I64 (refS s.ws (tblGet s.t b) c) := I64.wrap _
    have hm : ∀ W h, In W h → CoreH pc L s h → Calls Tryz.prog 54 #[ptr pc, .int .i64 (refS s.ws (tblGet s.t b) c)] W fun e w' => e = .returned (.int .i64 (refS s.ws (tblGet s.t b) c)) ∧ ∃ h', CoreH pc L s h' ∧ Upd h h' W w' :=
      fun W h hi hc => Calls.mono (core_move_stay pc L s _ W h hi hc hr (.inr (q.from_no _))) fun e w' hh => ⟨hh.1, h, hc, hh.2⟩
    have hk : ∀ W h, In W h → CoreH pc L s h → Calls Tryz.prog 56 #[ptr pc, .int .i64 (refS s.ws (tblGet s.t b) c)] W fun e w' => e = .returned (.tuple #[]) ∧ ∃ h', CoreH pc L s h' ∧ Upd h h' W w' := by
      intro W h hi hc
      have := core_mark pc L s (refS s.ws (tblGet s.t b) c) W h hi hc hr (.inl q.par)
      rw [q.mark] at this
      exact this
    have := core_get pc L s s s (refS s.ws (tblGet s.t b) c) a b c hok w h hi hc hr hm hk
    have e1 : tblErr s.t a = s.refE b c a := by
      rw [hok]
      simp only [CoreS.refE] at hok
      split at hok
      · split at hok
        · rename_i h1
          simp [tblErr, h1]
        · cases hok
      · contradiction
    rw [e1] at this
    have e2 : s.got a b c = { s with t := tblSet s.t a (refS s.ws (tblGet s.t b) c) } := by simp [CoreS.got, hok]
    rw [e2]
    exact this
  · have e2 : s.got a b c = s := by simp [CoreS.got, hok]
    rw [e2]
    exact core_getno pc L s a b c hok w h hi hc

set_option maxRecDepth 100000 in
theorem do_step (pc : Nat) (L : CoreL) (s : CoreS) (x : StepS) (hx : U64 x.v) (q : s.Quiet) (w : World) (h : Hp) (hi : In w h) (hc : CoreH pc L s h) :
    Calls Tryz.prog 8 #[ptr pc, .agg (stepCells x)] w fun en w' => en = .returned (.agg (ansCells (ansS s x))) ∧ ∃ h', CoreH pc L (stepS s x) h' ∧ Upd h h' w w' := by
  obtain ⟨k, a, b, c, v⟩ := x
  by_cases k1 : k = 1
  · subst k1
    exact do_make (ptr pc) a b c v (s.makeE a b c) w h (fun h' => CoreH pc L (stepS s ⟨1, a, b, c, v⟩) h') hi (fun W hW => core_make pc L s a b c W h hW hc q.l0 q.l1 (by rw [q.cp]; omega) (by rw [q.cp]; omega) (.inl q.par))
  by_cases k2 : k = 2
  · subst k2
    exact do_get (ptr pc) a b c v (s.refE b c a) w h (fun h' => CoreH pc L (stepS s ⟨2, a, b, c, v⟩) h') hi (fun W hW => core_got pc L s a b c q W h hW hc)
  by_cases k3 : k = 3
  · subst k3
    exact do_set (ptr pc) a b c v (s.refE a b c) w h (fun h' => CoreH pc L (stepS s ⟨3, a, b, c, v⟩) h') hi (fun W hW => core_set pc L s a b c W h hW hc)
  by_cases k4 : k = 4
  · subst k4
    exact do_read (ptr pc) a b c v (s.readV a b) (s.scalE a b) w h (fun h' => CoreH pc L (stepS s ⟨4, a, b, c, v⟩) h') hi (fun W hW => core_read pc L s a b W h hW hc)
  by_cases k5 : k = 5
  · subst k5
    exact do_write (ptr pc) a b c v (s.scalE a b) w h (fun h' => CoreH pc L (stepS s ⟨5, a, b, c, v⟩) h') hi (fun W hW => core_write pc L s a b v W h hW hc hx)
  by_cases k6 : k = 6
  · subst k6
    exact do_clear (ptr pc) a b c v (tblErr s.t a) w h (fun h' => CoreH pc L (stepS s ⟨6, a, b, c, v⟩) h') hi (fun W hW => core_clear pc L s a W h hW hc)
  by_cases k7 : k = 7
  · subst k7
    exact do_copy (ptr pc) a b c v (s.copyE a b) w h (fun h' => CoreH pc L (stepS s ⟨7, a, b, c, v⟩) h') hi (fun W hW => core_copy pc L s a b W h hW hc)
  by_cases k8 : k = 8
  · subst k8
    exact do_same (ptr pc) a b c v (s.sameV a b) (s.sameE a b) w h (fun h' => CoreH pc L (stepS s ⟨8, a, b, c, v⟩) h') hi (fun W hW => Calls.mono (core_same pc L s a b W h hW hc) fun e w' hh => ⟨hh.1, h, hc, hh.2⟩)
  by_cases k9 : k = 9
  · subst k9
    exact do_nil (ptr pc) a b c v (s.nilV a) (tblErr s.t a) w h (fun h' => CoreH pc L (stepS s ⟨9, a, b, c, v⟩) h') hi (fun W hW => Calls.mono (core_nil pc L s a W h hW hc) fun e w' hh => ⟨hh.1, h, hc, hh.2⟩)
  by_cases k10 : k = 10
  · subst k10
    exact do_shape (ptr pc) a b c v (s.objH a).ptrs ((s.objH a).size - (s.objH a).ptrs) (s.objE a) w h (fun h' => CoreH pc L (stepS s ⟨10, a, b, c, v⟩) h') hi (fun W hW => core_shapeof pc L s a W h hW hc)
  have e1 : stepS s ⟨k, a, b, c, v⟩ = s := by simp [stepS, k1, k2, k3, k5, k6, k7]
  have e2 : ansS s ⟨k, a, b, c, v⟩ = ans0 := by simp [ansS, k1, k2, k3, k4, k5, k6, k7, k8, k9, k10]
  rw [e1, e2]
  exact Calls.mono (do_other (ptr pc) k a b c v (by omega) w h hi) fun e w' hh => ⟨hh.1, h, hc, hh.2⟩

/-- a new core is quiet -/
theorem coreNew_quiet {c : Cfg} (h : c.Fits) : (coreNew c).Quiet where
  ph := rfl
  nw := rfl
  u1 := rfl
  cp := rfl
  par := rfl
  mv := rfl
  l0 := by have := h.l1; exact this
  l1 := by have := h.l2; exact this
  em := by
    intro g hg
    have : (coreNew c).o.pages = List.replicate c.pages.toNat pg0 := rfl
    rw [this] at hg
    rw [List.eq_of_mem_replicate hg]
    exact ⟨rfl, rfl⟩

/-- what config gives may be -/
theorem cfgOf_ok {a b c d : Int} (ha : U8 a) (hb : U8 b) (hc : U8 c) (hd : U8 d) : (cfgOf a b c d).ok = true := by
  obtain ⟨a1, a2⟩ := ha
  obtain ⟨b1, b2⟩ := hb
  obtain ⟨c1, c2⟩ := hc
  obtain ⟨d1, d2⟩ := hd
  have h4 : a / 64 = 0 ∨ a / 64 = 1 ∨ a / 64 = 2 ∨ a / 64 = 3 := by omega
  have h3 : c % 3 = 0 ∨ c % 3 = 1 ∨ c % 3 = 2 := by omega
  have hpc : 1 ≤ (cfgOf a b c d).card ∧ (cfgOf a b c d).card ≤ (cfgOf a b c d).page ∧ (cfgOf a b c d).page % (cfgOf a b c d).card = 0 := by
    simp only [cfgOf]
    rcases h4 with h4 | h4 | h4 | h4 <;> rcases h3 with h3 | h3 | h3 <;> simp [h4, h3]
  simp only [Cfg.ok, Cfg.sizes, Cfg.rows, Cfg.taxes, Bool.and_eq_true, within_iff, decide_eq_true_eq]
  refine ⟨⟨⟨⟨⟨?_, hpc.1, hpc.2.1⟩, hpc.2.2⟩, ?_⟩, ?_⟩, ?_⟩ <;> simp only [cfgOf] <;> omega

end Go.Proofs.YtglbhcoikgbcmaaGreat
