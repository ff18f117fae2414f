/- What the laws of minor cycles ask of the core: what acts keep. No program in sight. Condition: the core is as it should be. -/
import Derived.Test.YtjjdjipohifgbaaGreatRows
import Derived.Test.YtjjdjipohifgbaaGreatZF
import Derived.Test.YtjjdjipohifgbaaGreatZB
import Derived.BigQuiet
import Derived.Deep.QuietTactic
import Derived.Deep.RegionHeld3
import Derived.Deep.DeepCutAuto
import Derived.ProofKit
import Derived.Below
import Derived.Lib.SmallJoins
import Derived.Deep.Slices
import Derived.Deep.Fields
import Derived.ChangeSame
import Derived.Carry
set_option linter.unusedVariables false
set_option linter.unusedSimpArgs false
/- What do of the statements' package turns: the core behind an act. Condition: the core is as it should be. -/
namespace Go.Proofs.YtjjdjipohifgbaaGreat
open Go.RowKit

/-- an act -/
structure ActS where
  what : Int
  a : Int
  b : Int
  c : Int
def actCells (x : ActS) : Array Value := #[.int .i64 x.what, .int .i64 x.a, .int .i64 x.b, .int .i64 x.c]
theorem act_cells {w : World} {b : Nat} {x : ActS} {T : TypeId} (h : w.heap[b]? = some (.cells (actCells x) T (0, 0))) :
    w.cell? ⟨b, 0, none⟩ = some (.int .i64 x.what) ∧ w.cell? ⟨b, 1, none⟩ = some (.int .i64 x.a) ∧ w.cell? ⟨b, 2, none⟩ = some (.int .i64 x.b) ∧ w.cell? ⟨b, 3, none⟩ = some (.int .i64 x.c) :=
  ⟨cell_of h 0, cell_of h 1, cell_of h 2, cell_of h 3⟩
/-- so many bits in one act -/
def actN (a : Int) : Nat := min a.toNat 20
/-- the core behind an act -/
def actS (s : CoreS) (x : ActS) : CoreS :=
  if x.what = 0 then s.make x.a x.b x.c
  else if x.what = 1 then s.gotM x.a x.b x.c
  else if x.what = 2 then s.set x.a x.b x.c
  else if x.what = 3 then { s with ws := s.writeW x.a x.b (u64 x.c) }
  else if x.what = 4 then { s with t := tblSet s.t x.a 0 }
  else if x.what = 5 then { s with t := s.copyT x.a x.b }
  else if x.what = 6 then s.startS
  else s.minSteps (actN x.a)
theorem CoreS.Sane.act {s : CoreS} (Z : s.Sane) (x : ActS) : (actS s x).Sane := by
  unfold actS
  split
  · exact Z.make ..
  split
  · exact Z.got ..
  split
  · exact Z.set ..
  split
  · exact Z.write ..
  split
  · exact Z.clear ..
  split
  · exact Z.copy ..
  split
  · exact Z.startS
  exact Z.minSteps _

theorem Upd.underA {w0 w w' : World} {h0 x h h' : Hp} (a : Upd h0 (x ++ h) w0 w) (u : Upd h h' w w') : Upd h0 (x ++ h') w0 w' := by
  have u2 := u.beside (k := x) (a.inn.perm List.perm_append_comm)
  exact a.trans (u2.perm List.perm_append_comm List.perm_append_comm)

set_option maxRecDepth 100000 in
set_option maxHeartbeats 1000000 in
theorem act_make (R : Value) (a b c e : Int) (w : World) (h : Hp) (Q : Hp → Prop) (hi : In w h)
    (hcall : ∀ W, In W h → Calls Tryz.prog 12 #[R, .int .i64 a, .int .i64 b, .int .i64 c] W fun en w' => en = .returned (.int .i64 e) ∧ ∃ h', Q h' ∧ Upd h h' W w') :
    Calls Tryz.prog 18 #[R, .agg (actCells ⟨0, a, b, c⟩)] w fun en w' => (∃ n, en = .returned (.int .i64 n)) ∧ ∃ h', Q h' ∧ Upd h h' w w' := by
  have U0 := (Upd.refl hi).alloc' (.cells (actCells ⟨0, a, b, c⟩) 53 (0, 0))
  have hcall1 := hcall _ U0.inn.tail
  clear hcall
  simp only [actCells] at *
  go_enter Tryz.func18, Tryz.ntmps18
  go_wp2_with (go_at_call 12; refine Calls.mono hcall1 ?_; rintro en w1 ⟨rfl, h', hq, u1⟩; have U1 := Upd.underA (x := [_]) U0 u1)
  go_ret
  exact ⟨⟨_, rfl⟩, h', hq, U1.drop1⟩

set_option maxRecDepth 100000 in
set_option maxHeartbeats 1000000 in
theorem act_get (R : Value) (a b c e : Int) (w : World) (h : Hp) (Q : Hp → Prop) (hi : In w h)
    (hcall : ∀ W, In W h → Calls Tryz.prog 29 #[R, .int .i64 a, .int .i64 b, .int .i64 c] W fun en w' => en = .returned (.int .i64 e) ∧ ∃ h', Q h' ∧ Upd h h' W w') :
    Calls Tryz.prog 18 #[R, .agg (actCells ⟨1, a, b, c⟩)] w fun en w' => (∃ n, en = .returned (.int .i64 n)) ∧ ∃ h', Q h' ∧ Upd h h' w w' := by
  have U0 := (Upd.refl hi).alloc' (.cells (actCells ⟨1, a, b, c⟩) 53 (0, 0))
  have hcall1 := hcall _ U0.inn.tail
  clear hcall
  simp only [actCells] at *
  go_enter Tryz.func18, Tryz.ntmps18
  go_wp2_with (go_at_call 29; refine Calls.mono hcall1 ?_; rintro en w1 ⟨rfl, h', hq, u1⟩; have U1 := Upd.underA (x := [_]) U0 u1)
  go_ret
  exact ⟨⟨_, rfl⟩, h', hq, U1.drop1⟩

set_option maxRecDepth 100000 in
set_option maxHeartbeats 1000000 in
theorem act_set (R : Value) (a b c e : Int) (w : World) (h : Hp) (Q : Hp → Prop) (hi : In w h)
    (hcall : ∀ W, In W h → Calls Tryz.prog 25 #[R, .int .i64 a, .int .i64 b, .int .i64 c] W fun en w' => en = .returned (.int .i64 e) ∧ ∃ h', Q h' ∧ Upd h h' W w') :
    Calls Tryz.prog 18 #[R, .agg (actCells ⟨2, a, b, c⟩)] w fun en w' => (∃ n, en = .returned (.int .i64 n)) ∧ ∃ h', Q h' ∧ Upd h h' w w' := by
  have U0 := (Upd.refl hi).alloc' (.cells (actCells ⟨2, a, b, c⟩) 53 (0, 0))
  have hcall1 := hcall _ U0.inn.tail
  clear hcall
  simp only [actCells] at *
  go_enter Tryz.func18, Tryz.ntmps18
  go_wp2_with (go_at_call 25; refine Calls.mono hcall1 ?_; rintro en w1 ⟨rfl, h', hq, u1⟩; have U1 := Upd.underA (x := [_]) U0 u1)
  go_ret
  exact ⟨⟨_, rfl⟩, h', hq, U1.drop1⟩

set_option maxRecDepth 100000 in
set_option maxHeartbeats 1000000 in
theorem act_write (R : Value) (a b c e : Int) (w : World) (h : Hp) (Q : Hp → Prop) (hi : In w h)
    (hcall : ∀ W, In W h → Calls Tryz.prog 41 #[R, .int .i64 a, .int .i64 b, .int .u64 (u64 c)] W fun en w' => en = .returned (.int .i64 e) ∧ ∃ h', Q h' ∧ Upd h h' W w') :
    Calls Tryz.prog 18 #[R, .agg (actCells ⟨3, a, b, c⟩)] w fun en w' => (∃ n, en = .returned (.int .i64 n)) ∧ ∃ h', Q h' ∧ Upd h h' w w' := by
  have U0 := (Upd.refl hi).alloc' (.cells (actCells ⟨3, a, b, c⟩) 53 (0, 0))
  have hcall1 := hcall _ U0.inn.tail
  clear hcall
  have hwr : IntKind.u64.wrap c = u64 c := IntKind.wrap_u64 _
  simp only [actCells] at *
  go_enter Tryz.func18, Tryz.ntmps18
  go_wp2_with (go_at_call 41; refine Calls.mono hcall1 ?_; rintro en w1 ⟨rfl, h', hq, u1⟩; have U1 := Upd.underA (x := [_]) U0 u1)
  go_ret
  exact ⟨⟨_, rfl⟩, h', hq, U1.drop1⟩

set_option maxRecDepth 100000 in
set_option maxHeartbeats 1000000 in
theorem act_clear (R : Value) (a b c e : Int) (w : World) (h : Hp) (Q : Hp → Prop) (hi : In w h)
    (hcall : ∀ W, In W h → Calls Tryz.prog 13 #[R, .int .i64 a] W fun en w' => en = .returned (.int .i64 e) ∧ ∃ h', Q h' ∧ Upd h h' W w') :
    Calls Tryz.prog 18 #[R, .agg (actCells ⟨4, a, b, c⟩)] w fun en w' => (∃ n, en = .returned (.int .i64 n)) ∧ ∃ h', Q h' ∧ Upd h h' w w' := by
  have U0 := (Upd.refl hi).alloc' (.cells (actCells ⟨4, a, b, c⟩) 53 (0, 0))
  have hcall1 := hcall _ U0.inn.tail
  clear hcall
  simp only [actCells] at *
  go_enter Tryz.func18, Tryz.ntmps18
  go_wp2_with (go_at_call 13; refine Calls.mono hcall1 ?_; rintro en w1 ⟨rfl, h', hq, u1⟩; have U1 := Upd.underA (x := [_]) U0 u1)
  go_ret
  exact ⟨⟨_, rfl⟩, h', hq, U1.drop1⟩

set_option maxRecDepth 100000 in
set_option maxHeartbeats 1000000 in
theorem act_copy (R : Value) (a b c e : Int) (w : World) (h : Hp) (Q : Hp → Prop) (hi : In w h)
    (hcall : ∀ W, In W h → Calls Tryz.prog 62 #[R, .int .i64 a, .int .i64 b] W fun en w' => en = .returned (.int .i64 e) ∧ ∃ h', Q h' ∧ Upd h h' W w') :
    Calls Tryz.prog 18 #[R, .agg (actCells ⟨5, a, b, c⟩)] w fun en w' => (∃ n, en = .returned (.int .i64 n)) ∧ ∃ h', Q h' ∧ Upd h h' w w' := by
  have U0 := (Upd.refl hi).alloc' (.cells (actCells ⟨5, a, b, c⟩) 53 (0, 0))
  have hcall1 := hcall _ U0.inn.tail
  clear hcall
  simp only [actCells] at *
  go_enter Tryz.func18, Tryz.ntmps18
  go_wp2_with (go_at_call 62; refine Calls.mono hcall1 ?_; rintro en w1 ⟨rfl, h', hq, u1⟩; have U1 := Upd.underA (x := [_]) U0 u1)
  go_ret
  exact ⟨⟨_, rfl⟩, h', hq, U1.drop1⟩


set_option maxRecDepth 100000 in
set_option maxHeartbeats 1000000 in
theorem act_start (R : Value) (a b c : Int) (e : Bool) (w : World) (h : Hp) (Q : Hp → Prop) (hi : In w h)
    (hcall : ∀ W, In W h → Calls Tryz.prog 15 #[R] W fun en w' => en = .returned (.bool e) ∧ ∃ h', Q h' ∧ Upd h h' W w') :
    Calls Tryz.prog 18 #[R, .agg (actCells ⟨6, a, b, c⟩)] w fun en w' => (∃ n, en = .returned (.int .i64 n)) ∧ ∃ h', Q h' ∧ Upd h h' w w' := by
  have U0 := (Upd.refl hi).alloc' (.cells (actCells ⟨6, a, b, c⟩) 53 (0, 0))
  have hcall1 := hcall _ U0.inn.tail
  clear hcall
  simp only [actCells] at *
  go_enter Tryz.func18, Tryz.ntmps18
  go_wp2_with (go_at_call 15; refine Calls.mono hcall1 ?_; rintro en w1 ⟨rfl, h', hq, u1⟩; have U1 := Upd.underA (x := [_]) U0 u1)
  go_ret
  exact ⟨⟨_, rfl⟩, h', hq, U1.drop1⟩

/-- the core so many bits on -/
def Bits (pc : Nat) (L : CoreL) (s : CoreS) (h0 x : Hp) (w : World) (k : Nat) (wr : World) : Prop := ∃ h, CoreH pc L (s.minSteps k) h ∧ Upd h0 (x ++ h) w wr

set_option maxRecDepth 100000 in
set_option maxHeartbeats 2000000 in
theorem act_steps (pc : Nat) (L : CoreL) {s : CoreS} (Z : s.Sane) (q a b c : Int) (hq : q < 0 ∨ 6 < q) (w : World) (h : Hp) (hi : In w h) (hc : CoreH pc L s h) :
    Calls Tryz.prog 18 #[ptr pc, .agg (actCells ⟨q, a, b, c⟩)] w fun en w' => (∃ n, en = .returned (.int .i64 n)) ∧ ∃ h', CoreH pc L (s.minSteps (actN a)) h' ∧ Upd h h' w w' := by
  have U0 := (Upd.refl hi).alloc' (.cells (actCells ⟨q, a, b, c⟩) 53 (0, 0))
  have n0 : (q == 0) = false := by simp; omega
  have n1 : (q == 1) = false := by simp; omega
  have n2 : (q == 2) = false := by simp; omega
  have n3 : (q == 3) = false := by simp; omega
  have n4 : (q == 4) = false := by simp; omega
  have n5 : (q == 5) = false := by simp; omega
  have n6 : (q == 6) = false := by simp; omega
  have HB : Hid (Bits pc L s h [(w.heap.size, .cells (actCells ⟨q, a, b, c⟩) 53 (0, 0))] w 0 (w.alloc (.cells (actCells ⟨q, a, b, c⟩) 53 (0, 0)))) := Lib.hid ⟨h, hc, U0⟩
  have HZ := Lib.hid Z
  clear hq hc U0 Z
  simp only [actCells, ptr] at *
  go_enter Tryz.func18, Tryz.ntmps18
  go_wp2

  go_loopw [5] (fun v wr => ∃ (k : Nat), k ≤ actN a ∧ v = .int .i64 k ∧ Hid (Bits pc L s h [(w.heap.size, .cells (actCells ⟨q, a, b, c⟩) 53 (0, 0))] w k wr)) (fun v _ => 20 - (intOf v).toNat)
  case atStart => exact ⟨0, by omega, rfl, HB⟩
  case round =>
    obtain ⟨k, hk, rfl, HW⟩ := hrel
    obtain ⟨h1, c1, u1⟩ := HW.out
    obtain ⟨d0, d1, d2, d3⟩ := act_cells (x := ⟨q, a, b, c⟩) u1.inn.head
    simp only at d0 d1 d2 d3
    have hk2 : k ≤ 20 := by unfold actN at hk; omega
    by_cases hlt : (k : Int) < a
    · by_cases h20 : k < 20
      · have hst := minor_step pc L (s.minSteps k) wr h1 u1.inn.tail c1 (HZ.out.minSteps k).stepOk
        have HU := Lib.hid u1
        have hk3 : k + 1 ≤ actN a := by unfold actN; omega
        simp only [ptr] at hst
        clear u1 c1 HW
        go_wp2_with (go_at_call 16; refine Calls.mono hst ?_; rintro e w2 ⟨rfl, h2, c2, u2⟩; have U2 := Lib.hid (⟨h2, c2, HU.out.underA u2⟩ : Bits pc L s h [(w.heap.size, .cells (actCells ⟨q, a, b, c⟩) 53 (0, 0))] w (k + 1) w2); clear c2 u2)
        go_roundw
        case rel => exact ⟨k + 1, hk3, by go_num, U2⟩
        case measure => simp [intOf]; omega
      · have e : k = actN a := by unfold actN at hk ⊢; omega
        have HU := Lib.hid u1
        have HC := Lib.hid c1
        rw [e] at HC
        clear u1 c1 HW e hk
        go_wp2
        go_ret
        exact ⟨⟨_, rfl⟩, h1, HC.out, HU.out.drop1⟩
    · have e : k = actN a := by unfold actN at hk ⊢; omega
      have HU := Lib.hid u1
      have HC := Lib.hid c1
      rw [e] at HC
      clear u1 c1 HW e hk
      go_wp2
      go_ret
      exact ⟨⟨_, rfl⟩, h1, HC.out, HU.out.drop1⟩

theorem do_act (pc : Nat) (L : CoreL) {s : CoreS} (Z : s.Sane) (x : ActS) (w : World) (h : Hp) (hi : In w h) (hc : CoreH pc L s h) :
    Calls Tryz.prog 18 #[ptr pc, .agg (actCells x)] w fun en w' => (∃ n, en = .returned (.int .i64 n)) ∧ ∃ h', CoreH pc L (actS s x) h' ∧ Upd h h' w w' := by
  obtain ⟨q, a, b, c⟩ := x
  by_cases k0 : q = 0
  · subst k0
    exact act_make (ptr pc) a b c (s.makeE a b c) w h (fun h' => CoreH pc L (actS s ⟨0, a, b, c⟩) h') hi (fun W hW => sane_make_call pc L Z a b c W h hW hc)
  by_cases k1 : q = 1
  · subst k1
    exact act_get (ptr pc) a b c (s.refE b c a) w h (fun h' => CoreH pc L (actS s ⟨1, a, b, c⟩) h') hi (fun W hW => sane_get_call pc L Z a b c W h hW hc)
  by_cases k2 : q = 2
  · subst k2
    exact act_set (ptr pc) a b c (s.refE a b c) w h (fun h' => CoreH pc L (actS s ⟨2, a, b, c⟩) h') hi (fun W hW => core_set pc L s a b c W h hW hc)
  by_cases k3 : q = 3
  · subst k3
    exact act_write (ptr pc) a b c (s.scalE a b) w h (fun h' => CoreH pc L (actS s ⟨3, a, b, c⟩) h') hi (fun W hW => core_write pc L s a b (u64 c) W h hW hc (U64_u64 _))
  by_cases k4 : q = 4
  · subst k4
    exact act_clear (ptr pc) a b c (tblErr s.t a) w h (fun h' => CoreH pc L (actS s ⟨4, a, b, c⟩) h') hi (fun W hW => core_clear pc L s a W h hW hc)
  by_cases k5 : q = 5
  · subst k5
    exact act_copy (ptr pc) a b c (s.copyE a b) w h (fun h' => CoreH pc L (actS s ⟨5, a, b, c⟩) h') hi (fun W hW => core_copy pc L s a b W h hW hc)
  by_cases k6 : q = 6
  · subst k6
    exact act_start (ptr pc) a b c s.startOk w h (fun h' => CoreH pc L (actS s ⟨6, a, b, c⟩) h') hi (fun W hW => minor_start pc L s W h hW hc Z.hdlOk)
  have e1 : actS s ⟨q, a, b, c⟩ = s.minSteps (actN a) := by simp [actS, k0, k1, k2, k3, k4, k5, k6]
  rw [e1]
  exact act_steps pc L Z q a b c (by omega) w h hi hc

end Go.Proofs.YtjjdjipohifgbaaGreat

/- What meet of the statements' package comes to, and whether two rows of numbers are the same. Condition: few were met. -/
namespace Go.Proofs.YtjjdjipohifgbaaGreat
open Go.RowKit

theorem idxOf_at {l : List Int} {y : Int} : ∀ {i : Nat}, i < l.length → l.getD i 0 = y → (∀ j, j < i → l.getD j 0 ≠ y) → l.idxOf y = i := by
  induction l with
  | nil => intro i h; simp at h
  | cons a l ih =>
    intro i h1 h2 h3
    rw [List.idxOf_cons]
    cases i with
    | zero =>
      have h2' : a = y := by simpa using h2
      rw [h2']
      simp
    | succ i =>
      have h0 : a ≠ y := by simpa using h3 0 (by omega)
      rw [beq_eq_false_iff_ne.2 h0]
      have := ih (i := i) (by simpa using h1) (by simpa using h2) (fun j hj => by simpa using h3 (j + 1) (by omega))
      simp [this]
theorem getD_mem' {l : List Int} {y : Int} (h : ∀ j, j < l.length → l.getD j 0 ≠ y) : y ∉ l := by
  intro hm
  obtain ⟨j, hj, rfl⟩ := List.getElem_of_mem hm
  exact h j hj (by rw [List.getD_eq_getElem?_getD, List.getElem?_eq_getElem hj]; rfl)

theorem SliceH.few {T : TypeId} {size : Nat} {v : Value} {n : Nat} {xs : List Value} {h : Hp} (hs : SliceH T size v n xs h) : (n : Int) ≤ 9223372036854775807 := by
  rcases hs.2 with ⟨_, h0, _⟩ | ⟨g', pre, post, cap', _, _, hc, _, hm⟩
  · omega
  · unfold maxLen at hm
    omega
/-- what was met so far, in memory -/
def metObj (v : Value) : Obj := .cells #[v] 42 (0, 0)
def MetH (p : Nat) (met : List Int) (h : Hp) : Prop := ∃ v hs, h = (p, metObj v) :: hs ∧ SliceH 3 1 v met.length (ints met) hs ∧ met.length ≤ 1048576

set_option maxRecDepth 100000 in
set_option maxHeartbeats 2000000 in
theorem law_ints (l m : List Int) (v1 v2 : Value) (h1 h2 : Hp) (hl : SliceH 3 1 v1 l.length (ints l) h1) (hm : SliceH 3 1 v2 m.length (ints m) h2) (w : World) (h : Hp) (hi : In w (h1 ++ h2 ++ h)) :
    Calls Tryz.prog 20 #[v1, v2] w fun en w' => en = .returned (.bool (decide (l = m))) ∧ Upd (h1 ++ h2 ++ h) (h1 ++ h2 ++ h) w w' := by
  have b1 := hl.few
  have b2 := hm.few
  obtain ⟨a1, c1, rfl, _⟩ := hl.shape
  obtain ⟨a2, c2, rfl, _⟩ := hm.shape
  obtain ⟨r, hr⟩ : ∃ r, r = decide (l = m) := ⟨_, rfl⟩
  rw [← hr]
  by_cases hlen : l.length = m.length
  · have HR := Lib.hid hr
    have hcell2 : ∀ W, In W h2 → ∀ j, j < l.length → ∃ g o, a2 = some ⟨g, o, none⟩ ∧ W.cell? ⟨g, o + j, none⟩ = some (.int .i64 (m.getD j 0)) := by
      intro W hW j hj
      obtain ⟨g2, o2, e2, d2⟩ := hm.intAt hW (k := j) (by omega)
      cases e2
      exact ⟨g2, o2, rfl, d2⟩
    have HC2 := Lib.hid hcell2
    clear hr hm hcell2
    rw [← hlen]
    have HU : Hid (Upd (h1 ++ h2 ++ h) (h1 ++ h2 ++ h) w w) := Lib.hid (Upd.refl hi)
    go_enter Tryz.func20, Tryz.ntmps20
    have HL := Lib.hid hlen
    clear hlen
    go_wp2
    go_loopw [5] (fun q wr => ∃ (k : Nat), k ≤ l.length ∧ q = .int .i64 k ∧ Hid (∀ j, j < k → l.getD j 0 = m.getD j 0) ∧ Hid (Upd (h1 ++ h2 ++ h) (h1 ++ h2 ++ h) w wr)) (fun q _ => l.length - (intOf q).toNat)
    case atStart => exact ⟨0, by omega, rfl, Lib.hid (fun j hj => by omega), HU⟩
    case round =>
      obtain ⟨k, hk, rfl, HE, HW⟩ := hrel
      by_cases hkl : k < l.length
      · have HWU := HW.out
        obtain ⟨g1, o1, e1, d1⟩ := hl.intAt HWU.inn.left.left hkl
        obtain ⟨g2, o2, rfl, d2⟩ := HC2.out _ HWU.inn.left.right k hkl
        cases e1
        by_cases hq : l.getD k 0 = m.getD k 0
        · have HE2 : Hid (∀ j, j < k + 1 → l.getD j 0 = m.getD j 0) := Lib.hid fun j hj => by
            by_cases e : j = k
            · rw [e]; exact hq
            · exact HE.out j (by omega)
          rw [← hq] at d2
          clear HWU hq HE
          generalize l.getD k 0 = x at *
          go_wp2
          go_quiet (fail)
          go_wp2
          go_roundw
          case rel => exact ⟨k + 1, by omega, by go_num, HE2, Lib.hid (HW.out.drewN' nq)⟩
          case measure => simp [intOf]; omega
        · have hd : r = false := HR.out.trans (decide_eq_false (fun e => hq (by rw [e])))
          have HD := Lib.hid hd
          clear HWU hd HE
          generalize l.getD k 0 = x at *
          generalize m.getD k 0 = y at *
          have hxy : (x != y) = true := by simpa using hq
          clear hq
          go_wp2
          go_quiet (fail)
          go_wp2
          go_ret
          exact ⟨congrArg (fun b => Ending.returned (Value.bool b)) HD.out.symm, HW.out.drewN' nq⟩
      · have hd : r = true := HR.out.trans (decide_eq_true (by
          apply List.ext_getElem HL.out
          intro j j1 j2
          have := HE.out j (by omega)
          rw [List.getD_eq_getElem?_getD, List.getElem?_eq_getElem j1, List.getD_eq_getElem?_getD, List.getElem?_eq_getElem j2] at this
          exact this))
        have HD := Lib.hid hd
        clear hd HE
        go_wp2
        go_ret
        exact ⟨congrArg (fun b => Ending.returned (Value.bool b)) HD.out.symm, HW.out⟩
  · have hd : r = false := hr.trans (decide_eq_false (fun e => hlen (by rw [e])))
    rw [hd]
    have hne : ((l.length : Int) != (m.length : Int)) = true := by simp; omega
    have U := Upd.refl hi
    clear hd hlen hr
    go_enter Tryz.func20, Tryz.ntmps20
    go_wp2
    go_ret
    exact ⟨rfl, U⟩

/-- the number of a place -/
theorem meetL_in {met : List Int} {y : Int} {i : Nat} (h0 : y ≠ 0) (h1 : i < met.length) (h2 : met.getD i 0 = y) (h3 : ∀ j, j < i → met.getD j 0 ≠ y) : meetL met y = (met, (i : Int) + 1) := by
  have hm : y ∈ met := by
    rw [← h2]
    exact mem_getD h1
  unfold meetL
  rw [if_neg h0, if_pos hm, idxOf_at h1 h2 h3]
theorem meetL_new {met : List Int} {y : Int} (h0 : y ≠ 0) (h1 : ∀ j, j < met.length → met.getD j 0 ≠ y) : meetL met y = (met ++ [y], (met.length : Int) + 1) := by
  unfold meetL
  rw [if_neg h0, if_neg (getD_mem' h1)]

set_option maxRecDepth 100000 in
set_option maxHeartbeats 2000000 in
theorem law_meet (pc : Nat) (L : CoreL) (s : CoreS) (pm : Nat) (met : List Int) (x : Int) (hx : I64 x) (hb : met.length < 1048576) (w : World) (h hm : Hp) (hi : In w (hm ++ h)) (hc : CoreH pc L s h) (hM : MetH pm met hm) (hy : I64 (s.now x)) :
    Calls Tryz.prog 63 #[ptr pc, ptr pm, .int .i64 x] w fun en w' => en = .returned (.int .i64 (meetL met (s.now x)).2) ∧ ∃ h' hm', CoreH pc L s h' ∧ MetH pm (meetL met (s.now x)).1 hm' ∧ Upd (hm ++ h) (hm' ++ h') w w' := by
  have hnow := core_now pc L s x w h hi.right hc hx
  have U0 := Upd.refl hi
  obtain ⟨v, hs, rfl, hS, _⟩ := hM
  obtain ⟨ao, cap, rfl, hcap⟩ := hS.shape
  generalize s.now x = y at *
  by_cases h0 : y = 0
  · subst h0
    have e : meetL met 0 = (met, 0) := by unfold meetL; rw [if_pos rfl]
    rw [e]
    simp only [ptr] at *
    go_enter Tryz.func63, Tryz.ntmps63
    go_wp2_with (go_at_call 24; refine Calls.mono hnow ?_; rintro en w1 ⟨rfl, h1, c1, u1⟩; have U1 := Upd.underA U0 u1)
    go_ret
    exact ⟨rfl, h1, _, c1, ⟨_, _, rfl, hS, by omega⟩, U1⟩
  · have hq : (y == 0) = false := by simpa using h0
    have HN := Lib.hid h0
    clear h0
    simp only [ptr] at *
    go_enter Tryz.func63, Tryz.ntmps63
    go_wp2_with (go_at_call 24; refine Calls.mono hnow ?_; rintro en w1 ⟨rfl, h1, c1, u1⟩; have U1 := Upd.underA U0 u1; have m0 : w1.cell? ⟨pm, 0, none⟩ = some (.slice ao met.length cap) := cell_of U1.inn.head 0)
    have HU : Hid (Upd ((pm, metObj (.slice ao met.length cap)) :: hs ++ h) ((pm, metObj (.slice ao met.length cap)) :: hs ++ h1) w w1) := U1
    have HC := Lib.hid c1
    clear c1 u1 U0 U1 hnow hc hi m0
    go_loopw [8] (fun q wr => ∃ (k : Nat), k ≤ met.length ∧ q = .int .i64 k ∧ Hid (∀ j, j < k → met.getD j 0 ≠ y) ∧ Hid (Upd ((pm, metObj (.slice ao met.length cap)) :: hs ++ h) ((pm, metObj (.slice ao met.length cap)) :: hs ++ h1) w wr)) (fun q _ => met.length - (intOf q).toNat)
    case atStart => exact ⟨0, by omega, rfl, Lib.hid (fun j hj => by omega), HU⟩
    case round =>
      obtain ⟨k, hk, rfl, HE, HW⟩ := hrel
      by_cases hkl : k < met.length
      · have HWU := HW.out
        obtain ⟨g1, o1, e1, d1⟩ := hS.intAt HWU.inn.tail.left hkl
        cases e1
        by_cases hq2 : met.getD k 0 = y
        · have e := meetL_in HN.out hkl hq2 HE.out
          have HQ : Hid ((meetL met y).2 = (k : Int) + 1 ∧ (meetL met y).1 = met) := Lib.hid (by rw [e]; exact ⟨rfl, rfl⟩)
          have hk9 : (k : Int) + 1 ≤ 1048576 := by omega
          rw [hq2] at d1
          clear HWU HE e hq2
          go_wp2
          go_ret
          refine ⟨congrArg (fun z => Ending.returned (Value.int .i64 z)) HQ.out.1.symm, h1, _, HC.out, ⟨_, _, rfl, ?_, ?_⟩, HW.out⟩
          · rw [HQ.out.2]; exact hS
          · rw [HQ.out.2]; omega
        · have HE2 : Hid (∀ j, j < k + 1 → met.getD j 0 ≠ y) := Lib.hid fun j hj => by
            by_cases e : j = k
            · rw [e]; exact hq2
            · exact HE.out j (by omega)
          clear HWU HE
          generalize met.getD k 0 = x2 at *
          have hxy : (x2 == y) = false := by simpa using hq2
          clear hq2
          go_wp2
          go_roundw
          case rel => exact ⟨k + 1, by omega, by go_num, HE2, HW⟩
          case measure => simp [intOf]; omega
      · have hkk : k = met.length := by omega
        subst hkk
        have e := meetL_new HN.out HE.out
        have HQ : Hid (meetL met y = (met ++ [y], (met.length : Int) + 1)) := Lib.hid e
        have hk9 : met.length + 1 ≤ 1048576 := by omega
        have U1 := HW.out
        have U2 := ((U1.skip' (.cells #[.int .i64 y] 3 (0, 0))))
        have hnews := news_of (news := [.int .i64 y]) (w := wr.alloc (.cells #[.int .i64 y] 3 (0, 0))) (b := wr.heap.size) (T := 3) (fr := (0, 0)) (heap_alloc_at (by simp))
        have H1 := Lib.hid hnews
        have hmax : met.length + 1 ≤ maxLen := by unfold maxLen; omega
        have UX := Lib.hid U2
        clear hnews e HE HW U1 U2
        go_wp2_with (at_builtin; refine wpList_append_mine rfl (.tmp 32) (.tmp 34) 42 rfl 3 1 8 (.int .i64 0) Tryz.underlying42 Tryz.infoInt rfl (by decide) (.slice ao met.length cap) met.length (ints met) hs rfl hS UX.out.inn.tail.left ⟨wr.heap.size, 0, none⟩ 1 1 [.int .i64 y] rfl H1.out rfl (by intro u hu; simp at hu; subst hu; rfl) (Or.inl (by decide)) hmax (by omega) ?_; intro v' w3 hX' hS' hU'; obtain ⟨ao', cap', rfl, _⟩ := hS'.shape; have U3 := UX.out.under (hU'.beside (k := h1) UX.out.inn.tail); have g1 : w3.cell? ⟨pm, 0, none⟩ = some (.slice ao met.length cap) := cell_of U3.inn.head 0; have k1 : w3.frozen? ⟨pm, 0, none⟩ = false := frozen_of U3.inn.head 0)
        go_ret
        refine ⟨congrArg (fun z => Ending.returned (Value.int .i64 z)) (by rw [HQ.out]), h1, (pm, metObj (.slice ao' (met.length + 1) cap')) :: hX', HC.out, ⟨_, _, rfl, ?_, ?_⟩, U3.store1 0 (.slice ao' (met.length + 1) cap')⟩
        · rw [HQ.out]; simpa [ints] using hS'
        · rw [HQ.out]; simp; omega

end Go.Proofs.YtjjdjipohifgbaaGreat

/- What shown of the statements' package comes to. Condition: the core is as it should be. -/
namespace Go.Proofs.YtjjdjipohifgbaaGreat
open Go.RowKit

theorem core_ohead (pc : Nat) (L : CoreL) (s : CoreS) (i : Int) (w : World) (h : Hp) (hi : In w h) (hc : CoreH pc L s h) :
    Calls Tryz.prog 27 #[.pointer (some ⟨L.pa, 0, none⟩), .int .i64 i] w fun e w' => e = .returned (.tuple #[.agg (hdCells (headS s.ws i)), .int .i64 (headE s.ws i)]) ∧ ∃ h', CoreH pc L s h' ∧ Upd h h' w w' := by
  obtain ⟨v, ha, hy, ho, hr, hg, ht, hw, rfl, ca, cy, co, cr, cg, ct, cw⟩ := hc
  refine Calls.mono (obj_head L.pa s.ws i w ha (In.arena (x := []) hi) ca) fun e w' hh => ?_
  obtain ⟨he, ha', ca', u⟩ := hh
  exact ⟨he, _, ⟨v, ha', hy, ho, hr, hg, ht, hw, rfl, ca', cy, co, cr, cg, ct, cw⟩, Upd.arena (x := []) (Upd.refl hi) u⟩
theorem core_ofield (pc : Nat) (L : CoreL) (s : CoreS) (i n : Int) (w : World) (h : Hp) (hi : In w h) (hc : CoreH pc L s h) :
    Calls Tryz.prog 64 #[.pointer (some ⟨L.pa, 0, none⟩), .int .i64 i, .int .i64 n] w fun e w' => e = .returned (.tuple #[.int .u64 (ldW s.ws (place i n)), .int .i64 (errW s.ws.length (place i n) 1)]) ∧ ∃ h', CoreH pc L s h' ∧ Upd h h' w w' := by
  obtain ⟨v, ha, hy, ho, hr, hg, ht, hw, rfl, ca, cy, co, cr, cg, ct, cw⟩ := hc
  refine Calls.mono (obj_field L.pa s.ws i n w ha (In.arena (x := []) hi) ca) fun e w' hh => ?_
  obtain ⟨he, ha', ca', u⟩ := hh
  exact ⟨he, _, ⟨v, ha', hy, ho, hr, hg, ht, hw, rfl, ca', cy, co, cr, cg, ct, cw⟩, Upd.arena (x := []) (Upd.refl hi) u⟩

theorem Upd.midC {w0 w w' : World} {h0 x c c' y : Hp} (a : Upd h0 ((x ++ c) ++ y) w0 w) (u : Upd c c' w w') : Upd h0 ((x ++ c') ++ y) w0 w' := by
  rw [List.append_assoc] at a ⊢
  exact a.underA (u.beside (k := y) a.inn.right)
/-- in the midst of an object -/
def ShI (pc pm pb : Nat) (L : CoreL) (s : CoreS) (h0 ha : Hp) (w0 : World) (a : Int) (st : List Int × List Int) (v : Value) (w : World) : Prop :=
  ∃ hm ho hc, MetH pm st.1 hm ∧ SliceH 3 1 v st.2.length (ints st.2) ho ∧ CoreH pc L s hc ∧ Upd h0 ((pb, .cells (hdCells (headS s.ws a)) 65 (0, 0)) :: ((hm ++ hc) ++ (ho ++ ha))) w0 w

/-- in the midst of shown: what was met, what was told, and the core -/
def ShW (pc pm : Nat) (L : CoreL) (s : CoreS) (h0 ha : Hp) (w0 : World) (st : List Int × List Int) (v : Value) (w : World) : Prop :=
  ∃ hm ho hc, MetH pm st.1 hm ∧ SliceH 3 1 v st.2.length (ints st.2) ho ∧ CoreH pc L s hc ∧ Upd h0 ((hm ++ hc) ++ (ho ++ ha)) w0 w

theorem SliceH.empty (T : TypeId) (g : Nat) : SliceH T 1 (.slice (some ⟨g, 0, none⟩) 0 0) 0 [] [(g, .cells #[] T (0, 0))] :=
  ⟨by simp, .inr ⟨g, [], [], 0, rfl, rfl, Nat.le_refl _, by simp, by decide⟩⟩

set_option maxRecDepth 100000 in
set_option maxHeartbeats 2000000 in
theorem law_shown (pc : Nat) (L : CoreL) {s : CoreS} (Z : s.Sane) (w : World) (h : Hp) (hi : In w h) (hc : CoreH pc L s h) :
    Calls Tryz.prog 19 #[ptr pc] w fun en w' => ∃ v hx, en = .returned v ∧ SliceH 3 1 v (s.shown 1048576).length (ints (s.shown 1048576)) hx ∧ ∃ h', CoreH pc L s h' ∧ Upd h (hx ++ h') w w' := by
  have hsz1 : (w.alloc (.cells #[] 3 (0, 0))).heap.size = w.heap.size + 1 := by simp
  have hsz2 : ((w.alloc (.cells #[] 3 (0, 0))).alloc (.cells #[] 3 (0, 0))).heap.size = w.heap.size + 1 + 1 := by simp
  have U0 := (((Upd.refl hi).alloc' (.cells #[] 3 (0, 0))).alloc' (.cells #[] 3 (0, 0))).alloc' (metObj (.slice (some ⟨w.heap.size + 1, 0, none⟩) 0 0))
  rw [hsz1, hsz2] at U0
  clear hsz1 hsz2
  obtain ⟨q1, q2, q3, q4, q5, q6⟩ := hc.ptrs (x := [_, _, _]) U0.inn
  have HA := Lib.hid (fun W h (hi : In W h) hc => core_all pc L s W h hi hc)
  have HC := Lib.hid hc
  have HU := Lib.hid U0
  have HZ := Lib.hid Z
  clear U0 Z hc q1 q2 q3 q4 q5
  simp only [ptr, metObj] at *
  go_enter Tryz.func19, Tryz.ntmps19
  go_wp2_with (go_at_call 22; refine Calls.mono (HA.out _ _ HU.out.inn.tail.tail.tail HC.out) ?_; rintro e w2 ⟨v2, h2, rfl, sl2, u2⟩; have U2 := HU.out.moreL u2; obtain ⟨ao2, cap2, rfl, _⟩ := sl2.shape)
  have hh1 := (hst_len s 0 (by omega))
  have HS0 : Hid (ShW pc (w.heap.size + 1 + 1) L s h h2 w (s.hst 0) (.slice (some ⟨w.heap.size, 0, none⟩) 0 0) w2) := Lib.hid ⟨[(w.heap.size + 1 + 1, metObj (.slice (some ⟨w.heap.size + 1, 0, none⟩) 0 0)), (w.heap.size + 1, .cells #[] 3 (0, 0))], [(w.heap.size, .cells #[] 3 (0, 0))], h, ⟨_, _, rfl, SliceH.empty _ _, Nat.zero_le _⟩, SliceH.empty _ _, HC.out, U2.perm (List.Perm.refl _) (by
    simp only [metObj, List.cons_append, List.nil_append, List.append_assoc]
    refine List.Perm.cons _ (List.Perm.cons _ ?_)
    exact (List.perm_middle (l₁ := h) (a := (w.heap.size, Obj.cells #[] 3 (0, 0))) (l₂ := h2)).symm)⟩
  have hfc := HC.out.facts
  have HF := Lib.hid hfc.2.1
  have ht64 : s.t.length ≤ 64 := hfc.1
  have SL2 := Lib.hid sl2
  clear hh1 hfc HU U2 u2 sl2 q6 HC
  go_loopw [3, 6] (fun vo q wr => ∃ (k : Nat), k ≤ s.t.length ∧ q = .int .i64 k ∧ Hid (ShW pc (w.heap.size + 1 + 1) L s h h2 w (s.hst k) vo wr)) (fun _ q _ => s.t.length - (intOf q).toNat)
  case atStart => exact ⟨0, by omega, rfl, HS0⟩
  case round =>
    obtain ⟨k, hk, rfl, HW⟩ := hrel
    by_cases hkl : k < s.t.length
    · obtain ⟨hm, ho, hc, M, SO, CC, UU⟩ := HW.out
      obtain ⟨ao, cap, rfl, _⟩ := SO.shape
      obtain ⟨gx, ox, ex, dx⟩ := SL2.out.intAt UU.inn.right.right hkl
      cases ex
      have hx := HF.out _ (mem_getD hkl)
      obtain ⟨cur, oth, N, hs, K, loc, mm, G, _⟩ := HZ.out
      have hy := G.placeI (G.handleAt (mem_getD hkl))
      have hfew := (hst_ok G k (by omega)).few G
      have hlen := hst_len s k (by omega)
      have hmeet := law_meet pc L s (w.heap.size + 1 + 1) (s.hst k).1 (s.t.getD k 0) hx (by omega) wr hc hm UU.inn.left CC M hy
      have HST := Lib.hid (hst_succ s hkl)
      have hsucc : (meetSt (s.hst k) (s.now (s.t.getD k 0))) = ((meetL (s.hst k).1 (s.now (s.t.getD k 0))).1, (s.hst k).2 ++ [(meetL (s.hst k).1 (s.now (s.t.getD k 0))).2]) := rfl
      rw [hsucc] at HST
      have hmax : k + 1 ≤ maxLen := by unfold maxLen; omega
      have hk8 : (k + 1) * 8 ≤ 140737488355328 := by omega
      rw [hlen] at SO
      generalize (s.hst k).2 = out at *
      generalize meetL (s.hst k).1 (s.now (s.t.getD k 0)) = mt at *
      obtain ⟨met', nn⟩ := mt
      generalize s.t.getD k 0 = x at *
      have HSO := Lib.hid SO
      have HUU := Lib.hid UU
      clear HW UU SO CC M hy hfew G hsucc hx
      simp only [ptr] at hmeet
      rw [hlen]
      go_wp2_with (first
        | (go_at_call 63; refine Calls.mono hmeet ?_; rintro e w3 ⟨rfl, h3, m3, c3, mm3, u3⟩; have U3 := HUU.out.trans (u3.beside (k := ho ++ h2) HUU.out.inn); have U4 := Lib.hid (U3.skip' (.cells #[.int .i64 nn] 3 (0, 0))); have H4 := Lib.hid (news_of (news := [.int .i64 nn]) (w := w3.alloc (.cells #[.int .i64 nn] 3 (0, 0))) (b := w3.heap.size) (T := 3) (fr := (0, 0)) (heap_alloc_at (by simp))))
        | (at_builtin; refine wpList_append_mine rfl (.tmp 26) (.tmp 33) 42 rfl 3 1 8 (.int .i64 0) Tryz.underlying42 Tryz.infoInt rfl (by decide) (.slice ao k cap) k (ints out) ho rfl HSO.out U4.out.inn.right.left ⟨w3.heap.size, 0, none⟩ 1 1 [.int .i64 nn] rfl H4.out rfl (by intro u hu; simp at hu; subst hu; rfl) (Or.inl (by decide)) hmax hk8 ?_; intro v' w4 hX' hS' hU'; have U5 := Lib.hid (U4.out.underA (hU'.beside (k := h2) U4.out.inn.right))))
      go_roundw
      case rel =>
        refine ⟨k + 1, by omega, by go_num, ⟨m3, hX', h3, ?_, ?_, c3, U5.out⟩⟩
        · rw [HST.out]; exact mm3
        · rw [HST.out]
          have e : (out ++ [nn]).length = k + 1 := by rw [List.length_append, hlen]; rfl
          have e2 : ints (out ++ [nn]) = ints out ++ [.int .i64 nn] := by simp [ints]
          simp only [e, e2]
          exact hS'
      case measure => simp [intOf]; omega
    · have hke : k = s.t.length := by omega
      subst hke
      clear hkl hk HS0
      obtain ⟨cur, oth, N, hs, K, loc, mm, G, _⟩ := HZ.out
      have HG := Lib.hid G
      have HS1 : Hid (∃ st, s.tst 0 st = s.tst 0 (s.hst s.t.length) ∧ MetOk K loc st.1 ∧ st.2.length ≤ 64 + 66 * 0 ∧ 0 ≤ st.1.length ∧ ShW pc (w.heap.size + 1 + 1) L s h h2 w st u3 wr) :=
        Lib.hid ⟨_, rfl, hst_ok G _ (Nat.le_refl _), by rw [hst_len s _ (Nat.le_refl _)]; omega, Nat.zero_le _, HW.out⟩
      clear G HW
      go_wp2
      go_loopw [3, 7] (fun vo q wr => ∃ (i : Nat), i ≤ 24577 ∧ q = .int .i64 i ∧ Hid (∃ st, s.tst i st = s.tst 0 (s.hst s.t.length) ∧ MetOk K loc st.1 ∧ st.2.length ≤ 64 + 66 * i ∧ i ≤ st.1.length ∧ ShW pc (w.heap.size + 1 + 1) L s h h2 w st vo wr)) (fun _ q _ => 24578 - (intOf q).toNat)
      case atStart => exact ⟨0, by omega, rfl, HS1⟩
      case round =>
        obtain ⟨i, hi9, rfl, HW⟩ := hrel
        obtain ⟨st, hst, hok, hol, hil0, hm, ho, hc, M, SO, CC, UU⟩ := HW.out
        have hfew := hok.few HG.out
        obtain ⟨vm, hsm, rfl, hS, hml⟩ := M
        obtain ⟨am, cm, rfl, _⟩ := hS.shape
        obtain ⟨ao, cap, rfl, _⟩ := SO.shape
        have m0 : wr.cell? ⟨w.heap.size + 1 + 1, 0, none⟩ = some (.slice am st.1.length cm) := cell_of UU.inn.left.left.head 0
        by_cases hil : i < st.1.length
        · obtain ⟨gm, om, em, dm⟩ := hS.intAt UU.inn.left.left.tail hil
          cases em
          obtain ⟨q1, _⟩ := CC.ptrs UU.inn.left
          have hmem : st.1.getD i 0 ∈ st.1 := mem_getD hil
          have hget : st.1[i]? = some (st.1.getD i 0) := by rw [List.getD_eq_getElem?_getD, List.getElem?_eq_getElem hil]; rfl
          obtain ⟨a, ha⟩ : ∃ a, a = st.1.getD i 0 := ⟨_, rfl⟩
          rw [← ha] at dm hmem hget
          have ha2 := ha
          have hS2 := hS
          have haK := hok.2 a hmem
          have hmore := tst_more s (i := i) (by omega) hget
          have haI := HG.out.placeI (.inr haK)
          have hhead := fun W h (hi : In W h) hc => core_ohead pc L s a W h hi hc
          obtain ⟨b1, b2, b3, b4, b5⟩ := words_bounds s.ws a
          have HMO := Lib.hid hmore
          have HOK := Lib.hid hok
          have HKA := Lib.hid haK
          have HST := Lib.hid hst
          have HM0 := Lib.hid (⟨_, _, rfl, hS, hml⟩ : MetH (w.heap.size + 1 + 1) st.1 ((w.heap.size + 1 + 1, metObj (.slice (some ⟨gm, om, none⟩) st.1.length cm)) :: hsm))
          have HSO := Lib.hid SO
          have HUU := Lib.hid UU
          have HCC := Lib.hid CC
          have hmax : st.2.length + 2 ≤ maxLen := by unfold maxLen; omega
          have hk8 : (st.2.length + 2) * 8 ≤ 140737488355328 := by omega
          clear hok hmore hst haK hmem hget ha SO CC UU HW hS hml
          simp only [ptr, hdCells] at *
          have HH := Lib.hid hhead
          have hsw : ∀ W hc', CoreH pc L s hc' → Upd h (((w.heap.size + 1 + 1, metObj (.slice (some ⟨gm, om, none⟩) st.1.length cm)) :: hsm ++ hc') ++ (ho ++ h2)) w W → W.cell? ⟨pc, 13, none⟩ = some (.pointer (some ⟨L.pa, 0, none⟩)) ∧ W.cell? ⟨w.heap.size + 1 + 1, 0, none⟩ = some (.slice (some ⟨gm, om, none⟩) st.1.length cm) ∧ W.cell? ⟨gm, om + i, none⟩ = some (.int .i64 a) := by
            intro W hc' hcc U
            obtain ⟨gz, oz, ez, dz⟩ := hS2.intAt U.inn.left.left.tail hil
            cases ez
            rw [← ha2] at dz
            exact ⟨(hcc.ptrs U.inn.left).1, cell_of U.inn.left.left.head 0, dz⟩
          have HSW := Lib.hid hsw
          have HA2 := Lib.hid ha2
          clear hsw hS2 ha2
          have UZ := HUU.out.drew'
          have UB := (HUU.out.alloc' (.cells (hdCells hd0) 65 (0, 0))).drew'
          simp only [hdCells, hd0] at UB
          have tZ := HSW.out _ _ HCC.out UZ
          have tB := HSW.out _ _ HCC.out (Upd.drop1 UB)
          clear hhead
          go_wp2
          go_cut [8] (fun v wx => ∃ pb, v = .pointer (some ⟨pb, 0, none⟩) ∧ Hid (∃ h3, CoreH pc L s h3 ∧ Upd h ((pb, .cells (hdCells (headS s.ws a)) 65 (0, 0)) :: (((w.heap.size + 1 + 1, metObj (.slice (some ⟨gm, om, none⟩) st.1.length cm)) :: hsm ++ h3) ++ (ho ++ h2))) w wx))
          case first =>
            go_region_held3 (fun w' => w'.cell? ⟨pc, 13, none⟩ = some (.pointer (some ⟨L.pa, 0, none⟩)) ∧ w'.cell? ⟨w.heap.size + 1 + 1, 0, none⟩ = some (.slice (some ⟨gm, om, none⟩) st.1.length cm) ∧ w'.cell? ⟨gm, om + i, none⟩ = some (.int .i64 a))
              (first | (with_reducible exact tZ) | (with_reducible exact tB) | (with_reducible exact t3) | (with_reducible exact t4) | (with_reducible exact t5))
              (first
                | (go_at_call 27; with_reducible refine Calls.mono (HH.out _ _ UZ.inn.left.right HCC.out) ?_; rintro e w3 ⟨rfl, h3, c3, u3⟩; have U3 := UZ.midC u3; have t3 := HSW.out _ _ c3 U3; have t4 := HSW.out _ _ c3 (U3.skip' (.cells (hdCells hd0) 65 (0, 0))); have t5 := HSW.out _ _ c3 (U3.skip' (.cells (hdCells (headS s.ws a)) 65 (0, 0))); simp only [hdCells, hd0] at t4 t5)
                | (go_at_call 27; with_reducible refine Calls.mono (HH.out _ _ (UB.inn.tail.left.right) HCC.out) ?_; rintro e w3 ⟨rfl, h3, c3, u3⟩; have U3 := UB.under ((Upd.refl UB.inn.tail).midC u3); obtain ⟨d0, d1, d2, d3, d4, d5, d6⟩ := hd_cells (x := hd0) U3.inn.head; obtain ⟨f0, f1, f2, f3, f4, f5, f6⟩ := hd_frozen (x := hd0) U3.inn.head; have U4 := Upd.hd (x := hd0) U3 (headS s.ws a); have t3 := HSW.out _ _ c3 (Upd.drop1 U3); have t4 := HSW.out _ _ c3 (Upd.drop1 U4)))
            all_goals (go_wp2_with fail; go_meet; first | exact ⟨_, rfl, ⟨h3, c3, U4⟩⟩ | exact ⟨_, rfl, ⟨h3, c3, U3.alloc' (.cells (hdCells (headS s.ws a)) 65 (0, 0))⟩⟩)
          case rest =>
            obtain ⟨pb, rfl, HC⟩ := hcut
            obtain ⟨h3, c3, U⟩ := HC.out
            obtain ⟨d0, d1, d2, d3, d4, d5, d6⟩ := hd_cells U.inn.head
            have UX := Lib.hid (U.skip' (.cells #[.int .i64 (headS s.ws a).size, .int .i64 (headS s.ws a).ptrs] 3 (0, 0)))
            have H1 := Lib.hid (news_of (news := [.int .i64 (headS s.ws a).size, .int .i64 (headS s.ws a).ptrs]) (w := wc.alloc (.cells #[.int .i64 (headS s.ws a).size, .int .i64 (headS s.ws a).ptrs] 3 (0, 0))) (b := wc.heap.size) (T := 3) (fr := (0, 0)) (heap_alloc_at (by simp)))
            have C3 := Lib.hid c3
            clear HC U c3 UZ UB tZ tB d2 d3 d4 d5 d6 m0 dm q1
            go_wp2_with (at_builtin; refine wpList_append_mine rfl (.tmp 53) (.tmp 58) 42 rfl 3 1 8 (.int .i64 0) Tryz.underlying42 Tryz.infoInt rfl (by decide) (.slice ao st.2.length cap) st.2.length (ints st.2) ho rfl HSO.out UX.out.inn.tail.right.left ⟨wc.heap.size, 0, none⟩ 2 2 [.int .i64 (headS s.ws a).size, .int .i64 (headS s.ws a).ptrs] rfl H1.out rfl (by intro u hu; simp at hu; rcases hu with rfl | rfl <;> rfl) (Or.inl (by decide)) hmax hk8 ?_; intro v' w4 hX' hS' hU'; have U5 := Lib.hid (UX.out.under ((Upd.refl UX.out.inn.tail).underA (hU'.beside (k := h2) UX.out.inn.tail.right))))
            have HI0 : Hid (ShI pc (w.heap.size + 1 + 1) pb L s h h2 w a (s.tellF a (st.1, st.2 ++ [(headS s.ws a).size, (headS s.ws a).ptrs]) 0) v' w4) := Lib.hid ⟨_, hX', h3, HM0.out, by
              show SliceH _ 1 v' (st.2 ++ [(headS s.ws a).size, (headS s.ws a).ptrs]).length (ints (st.2 ++ [(headS s.ws a).size, (headS s.ws a).ptrs])) hX'
              have e : (st.2 ++ [(headS s.ws a).size, (headS s.ws a).ptrs]).length = st.2.length + 2 := by simp
              have e2 : ints (st.2 ++ [(headS s.ws a).size, (headS s.ws a).ptrs]) = ints st.2 ++ [.int .i64 (headS s.ws a).size, .int .i64 (headS s.ws a).ptrs] := by simp [ints]
              rw [e, e2]
              exact hS', C3.out, U5.out⟩
            clear HM0 HSO UX H1 C3 U5 hS' hU'
            go_loopw [3, 10] (fun vo q wr => ∃ (k : Nat), (k : Int) ≤ (headS s.ws a).size ∧ q = .int .i64 k ∧ Hid (ShI pc (w.heap.size + 1 + 1) pb L s h h2 w a (s.tellF a (st.1, st.2 ++ [(headS s.ws a).size, (headS s.ws a).ptrs]) k) vo wr)) (fun _ q _ => 66 - (intOf q).toNat)
            case atStart => exact ⟨0, by omega, rfl, HI0⟩
            case round =>
              obtain ⟨k, hk, rfl, HV⟩ := hrel
              obtain ⟨hm, ho, hc, M, SO, CC, UU⟩ := HV.out
              obtain ⟨d0, d1, d2, d3, d4, d5, d6⟩ := hd_cells UU.inn.head
              clear d2 d3 d4 d5 d6
              by_cases hks : (k : Int) < (headS s.ws a).size
              · have hfk := (tellF_ok HG.out HKA.out HOK.out (st := (st.1, st.2 ++ [(headS s.ws a).size, (headS s.ws a).ptrs])) k).few HG.out
                have hlk := tellF_len s a (st.1, st.2 ++ [(headS s.ws a).size, (headS s.ws a).ptrs]) k
                have hsk := tellF_succ s a (st.1, st.2 ++ [(headS s.ws a).size, (headS s.ws a).ptrs]) k
                obtain ⟨r, hr⟩ := tellF_pre s a (st.1, st.2 ++ [(headS s.ws a).size, (headS s.ws a).ptrs]) k
                generalize s.tellF a (st.1, st.2 ++ [(headS s.ws a).size, (headS s.ws a).ptrs]) k = sk at *
                have hlk2 : sk.2.length ≤ 66 + 66 * i + k := by simp at hlk; omega
                have hik : i < sk.1.length := by rw [hr]; simp; omega
                have hga : sk.1.getD i 0 = a := by
                  rw [hr, List.getD_eq_getElem?_getD, List.getElem?_append_left hil, ← List.getD_eq_getElem?_getD]
                  exact HA2.out.symm
                obtain ⟨ao, cap, rfl, _⟩ := SO.shape
                obtain ⟨vm, hsm, rfl, hS, hml⟩ := M
                obtain ⟨am, cm, rfl, _⟩ := hS.shape
                obtain ⟨gm, om, em, _⟩ := hS.intAt UU.inn.tail.left.left.tail hik
                cases em
                have hsw : ∀ W hc', CoreH pc L s hc' → Upd h ((pb, .cells (hdCells (headS s.ws a)) 65 (0, 0)) :: (((w.heap.size + 1 + 1, metObj (.slice (some ⟨gm, om, none⟩) sk.1.length cm)) :: hsm ++ hc') ++ (ho ++ h2))) w W → W.cell? ⟨pc, 13, none⟩ = some (.pointer (some ⟨L.pa, 0, none⟩)) ∧ W.cell? ⟨w.heap.size + 1 + 1, 0, none⟩ = some (.slice (some ⟨gm, om, none⟩) sk.1.length cm) ∧ W.cell? ⟨gm, om + i, none⟩ = some (.int .i64 a) := by
                  intro W hc' hcc U
                  obtain ⟨gz, oz, ez, dz⟩ := hS.intAt U.inn.tail.left.left.tail hik
                  cases ez
                  rw [hga] at dz
                  exact ⟨(hcc.ptrs U.inn.tail.left).1, cell_of U.inn.tail.left.left.head 0, dz⟩
                have hMH : MetH (w.heap.size + 1 + 1) sk.1 ((w.heap.size + 1 + 1, metObj (.slice (some ⟨gm, om, none⟩) sk.1.length cm)) :: hsm) := ⟨_, _, rfl, hS, hml⟩
                have HSW := Lib.hid hsw
                have HF2 := Lib.hid (fun W h (hi : In W h) hc => core_ofield pc L s a k W h hi hc)
                have UZ := UU.drew'
                have tZ := HSW.out _ _ CC UZ
                have HCC := Lib.hid CC
                have HUZ := Lib.hid UZ
                have HSO := Lib.hid SO
                have hmax : sk.2.length + 1 ≤ maxLen := by unfold maxLen; omega
                have hk8 : (sk.2.length + 1) * 8 ≤ 140737488355328 := by omega
                have hk62 : (k : Int) ≤ 64 := by omega
                by_cases hp : (k : Int) < (headS s.ws a).ptrs
                · have hy := HG.out.refAt HKA.out (by omega : (0 : Int) ≤ k) hp
                  have hyI := HG.out.placeI hy
                  have HME := Lib.hid (fun W hc hm (hi : In W (hm ++ hc)) c m => law_meet pc L s (w.heap.size + 1 + 1) sk.1 (refS s.ws a k) (I64.wrap _) (by omega) W hc hm hi c m hyI)
                  have hcv : IntKind.i64.wrap (ldW s.ws (place a k)) = refS s.ws a k := IntWalk.i64_left _
                  have hsucc : s.tellK a sk k = ((meetL sk.1 (s.now (refS s.ws a k))).1, sk.2 ++ [(meetL sk.1 (s.now (refS s.ws a k))).2]) := by
                    unfold CoreS.tellK
                    rw [if_pos hp]
                    rfl
                  rw [hsucc] at hsk
                  have HSK := Lib.hid hsk
                  generalize meetL sk.1 (s.now (refS s.ws a k)) = mt at *
                  obtain ⟨met', nn⟩ := mt
                  generalize refS s.ws a k = x at *
                  have HMH := Lib.hid hMH
                  have hikI : (i : Int) < (sk.1.length : Int) := by omega
                  have hi0 : (0 : Int) ≤ (i : Int) := by omega
                  clear HV SO CC UU hS hml hsw hsk hsucc hMH hlk hr hga hfk hy hyI
                  try simp only [ptr] at *
                  go_wp2
                  go_cut [11] (fun v wx => v = .int .u64 (ldW s.ws (place a k)) ∧ Hid (∃ h3, CoreH pc L s h3 ∧ Upd h ((pb, .cells (hdCells (headS s.ws a)) 65 (0, 0)) :: (((w.heap.size + 1 + 1, metObj (.slice (some ⟨gm, om, none⟩) sk.1.length cm)) :: hsm ++ h3) ++ (ho ++ h2))) w wx))
                  case first =>
                    go_region_held3 (fun w' => w'.cell? ⟨pc, 13, none⟩ = some (.pointer (some ⟨L.pa, 0, none⟩)) ∧ w'.cell? ⟨w.heap.size + 1 + 1, 0, none⟩ = some (.slice (some ⟨gm, om, none⟩) sk.1.length cm) ∧ w'.cell? ⟨gm, om + i, none⟩ = some (.int .i64 a))
                      (first | (with_reducible exact tZ) | (with_reducible exact t3))
                      (first | (go_at_call 64; with_reducible refine Calls.mono (HF2.out _ _ HUZ.out.inn.tail.left.right HCC.out) ?_; rintro e w3 ⟨rfl, h3, c3, u3⟩; have U3 := HUZ.out.under ((Upd.refl HUZ.out.inn.tail).midC u3); have t3 := HSW.out _ _ c3 U3))
                    all_goals (go_wp2_with fail; go_meet; exact ⟨rfl, ⟨h3, c3, U3⟩⟩)
                  case rest =>
                    obtain ⟨rfl, HC⟩ := hcut
                    obtain ⟨h3, c3, U⟩ := HC.out
                    obtain ⟨_, e1, _⟩ := hd_cells U.inn.head
                    clear tZ HC
                    have hme := HME.out _ _ _ U.inn.tail.left c3 HMH.out
                    have UC := Lib.hid U
                    clear U c3
                    try simp only [ptr] at hme
                    go_wp2_with (first
                      | (go_at_call 63; refine Calls.mono hme ?_; rintro e w5 ⟨rfl, h5, m5, c5, mm5, u5⟩; have U5 := UC.out.under ((Upd.refl UC.out.inn.tail).trans (u5.beside (k := ho ++ h2) UC.out.inn.tail)); have U6 := Lib.hid (U5.skip' (.cells #[.int .i64 nn] 3 (0, 0))); have H6 := Lib.hid (news_of (news := [.int .i64 nn]) (w := w5.alloc (.cells #[.int .i64 nn] 3 (0, 0))) (b := w5.heap.size) (T := 3) (fr := (0, 0)) (heap_alloc_at (by simp))))
                      | (at_builtin; refine wpList_append_mine rfl (.tmp 83) (.tmp 88) 42 rfl 3 1 8 (.int .i64 0) Tryz.underlying42 Tryz.infoInt rfl (by decide) (.slice ao sk.2.length cap) sk.2.length (ints sk.2) ho rfl HSO.out U6.out.inn.tail.right.left ⟨w5.heap.size, 0, none⟩ 1 1 [.int .i64 nn] rfl H6.out rfl (by intro u hu; simp at hu; subst hu; rfl) (Or.inl (by decide)) hmax hk8 ?_; intro v' w6 hX' hS' hU'; have U7 := Lib.hid (U6.out.under ((Upd.refl U6.out.inn.tail).underA (hU'.beside (k := h2) U6.out.inn.tail.right)))))
                    go_roundw
                    case rel =>
                      refine ⟨k + 1, by omega, by go_num, ⟨m5, hX', h5, ?_, ?_, c5, U7.out⟩⟩
                      · rw [HSK.out]; exact mm5
                      · rw [HSK.out]
                        have e : (sk.2 ++ [nn]).length = sk.2.length + 1 := by rw [List.length_append]; rfl
                        have e2 : ints (sk.2 ++ [nn]) = ints sk.2 ++ [.int .i64 nn] := by simp [ints]
                        simp only [e, e2]
                        exact hS'
                    case measure => simp [intOf]; omega
                · have hcv : IntKind.i64.wrap (ldW s.ws (place a k)) = wrap64 (rd s.ws (a + 2 + k)) := by
                    obtain ⟨n, hn, hna⟩ := HKA.out
                    obtain ⟨p1, p2, p3, p4⟩ := HG.out.inv.lay.pos (HG.out.rep.pl n hn).isO
                    rw [hna] at p1 p3
                    rw [IntWalk.i64_left, ldW_eq, place_of (by omega) p3 (by omega) (by omega)]
                  have hsucc : s.tellK a sk k = (sk.1, sk.2 ++ [wrap64 (rd s.ws (a + 2 + k))]) := by
                    unfold CoreS.tellK
                    rw [if_neg hp]
                  rw [hsucc] at hsk
                  have HSK := Lib.hid hsk
                  generalize wrap64 (rd s.ws (a + 2 + k)) = nn at *
                  have HMH := Lib.hid hMH
                  have hikI : (i : Int) < (sk.1.length : Int) := by omega
                  have hi0 : (0 : Int) ≤ (i : Int) := by omega
                  clear HV SO CC UU hS hml hsw hsk hsucc hMH hlk hr hga hfk
                  try simp only [ptr] at *
                  go_wp2
                  go_cut [11] (fun v wx => v = .int .u64 (ldW s.ws (place a k)) ∧ Hid (∃ h3, CoreH pc L s h3 ∧ Upd h ((pb, .cells (hdCells (headS s.ws a)) 65 (0, 0)) :: (((w.heap.size + 1 + 1, metObj (.slice (some ⟨gm, om, none⟩) sk.1.length cm)) :: hsm ++ h3) ++ (ho ++ h2))) w wx))
                  case first =>
                    go_region_held3 (fun w' => w'.cell? ⟨pc, 13, none⟩ = some (.pointer (some ⟨L.pa, 0, none⟩)) ∧ w'.cell? ⟨w.heap.size + 1 + 1, 0, none⟩ = some (.slice (some ⟨gm, om, none⟩) sk.1.length cm) ∧ w'.cell? ⟨gm, om + i, none⟩ = some (.int .i64 a))
                      (first | (with_reducible exact tZ) | (with_reducible exact t3))
                      (first | (go_at_call 64; with_reducible refine Calls.mono (HF2.out _ _ HUZ.out.inn.tail.left.right HCC.out) ?_; rintro e w3 ⟨rfl, h3, c3, u3⟩; have U3 := HUZ.out.under ((Upd.refl HUZ.out.inn.tail).midC u3); have t3 := HSW.out _ _ c3 U3))
                    all_goals (go_wp2_with fail; go_meet; exact ⟨rfl, ⟨h3, c3, U3⟩⟩)
                  case rest =>
                    obtain ⟨rfl, HC⟩ := hcut
                    obtain ⟨h3, c3, U⟩ := HC.out
                    obtain ⟨_, e1, _⟩ := hd_cells U.inn.head
                    clear tZ HC
                    have U6 := Lib.hid (U.skip' (.cells #[.int .i64 nn] 3 (0, 0)))
                    have H6 := Lib.hid (news_of (news := [.int .i64 nn]) (w := wc.alloc (.cells #[.int .i64 nn] 3 (0, 0))) (b := wc.heap.size) (T := 3) (fr := (0, 0)) (heap_alloc_at (by simp)))
                    have C5 := Lib.hid c3
                    clear U c3
                    go_wp2_with (at_builtin; refine wpList_append_mine rfl (.tmp 90) (.tmp 93) 42 rfl 3 1 8 (.int .i64 0) Tryz.underlying42 Tryz.infoInt rfl (by decide) (.slice ao sk.2.length cap) sk.2.length (ints sk.2) ho rfl HSO.out U6.out.inn.tail.right.left ⟨wc.heap.size, 0, none⟩ 1 1 [.int .i64 nn] rfl H6.out rfl (by intro u hu; simp at hu; subst hu; rfl) (Or.inl (by decide)) hmax hk8 ?_; intro v' w6 hX' hS' hU'; have U7 := Lib.hid (U6.out.under ((Upd.refl U6.out.inn.tail).underA (hU'.beside (k := h2) U6.out.inn.tail.right))))
                    go_roundw
                    case rel =>
                      refine ⟨k + 1, by omega, by go_num, ⟨_, hX', h3, ?_, ?_, C5.out, U7.out⟩⟩
                      · rw [HSK.out]; exact HMH.out
                      · rw [HSK.out]
                        have e : (sk.2 ++ [nn]).length = sk.2.length + 1 := by rw [List.length_append]; rfl
                        have e2 : ints (sk.2 ++ [nn]) = ints sk.2 ++ [.int .i64 nn] := by simp [ints]
                        simp only [e, e2]
                        exact hS'
                    case measure => simp [intOf]; omega
              · have hke : k = (headS s.ws a).size.toNat := by omega
                have hall := tellF_all s a st
                rw [← hke] at hall
                have hoks := tellAll_ok HG.out HKA.out HOK.out
                have hlen := tellAll_len s a st
                have hpre : ∃ r, (s.tellAll st a).1 = st.1 ++ r := by
                  rw [← hall]
                  exact tellF_pre s a (st.1, st.2 ++ [(headS s.ws a).size, (headS s.ws a).ptrs]) k
                rw [hall] at M SO
                have HNX : Hid (∃ st, s.tst (i + 1) st = s.tst 0 (s.hst s.t.length) ∧ MetOk K loc st.1 ∧ st.2.length ≤ 64 + 66 * (i + 1) ∧ i + 1 ≤ st.1.length ∧ ShW pc (w.heap.size + 1 + 1) L s h h2 w st u3 wr) := Lib.hid ⟨s.tellAll st a, by rw [← HMO.out]; exact HST.out, hoks, by omega, by (obtain ⟨r, hr⟩ := hpre; rw [hr]; simp; omega), hm, ho, hc, M, SO, CC, UU.drop1⟩
                clear HV M SO CC UU hall hoks hlen hpre
                go_wp2
                go_roundw
                case rel => exact ⟨i + 1, by omega, by go_num, HNX⟩
                case measure => simp [intOf]; omega
        · have hend := tst_end s (i := i) (st := st) (by omega)
          rw [hst] at hend
          have hsh := tst_shown s
          rw [hend] at hsh
          have hfin : SliceH 3 1 (.slice ao st.2.length cap) (s.shown 1048576).length (ints (s.shown 1048576)) ho := by rw [← hsh]; exact SO
          have HFin := Lib.hid hfin
          have hup : Upd h (ho ++ hc) w wr := by
            refine (UU.perm (List.Perm.refl _) (k' := (ho ++ hc) ++ (((w.heap.size + 1 + 1, metObj (.slice am st.1.length cm)) :: hsm) ++ h2)) ?_).forget (List.sublist_append_left _ _)
            generalize (w.heap.size + 1 + 1, metObj (.slice am st.1.length cm)) :: hsm = A
            have h1 : ((A ++ hc) ++ (ho ++ h2)).Perm ((ho ++ h2) ++ (A ++ hc)) := List.perm_append_comm
            refine h1.trans ?_
            rw [List.append_assoc, List.append_assoc]
            refine List.Perm.append_left ho ?_
            have h2' : (h2 ++ (A ++ hc)).Perm ((A ++ hc) ++ h2) := List.perm_append_comm
            refine h2'.trans ?_
            have h3' : (A ++ hc).Perm (hc ++ A) := List.perm_append_comm
            have := h3'.append_right h2
            rw [List.append_assoc hc] at this
            exact this
          have HUP := Lib.hid hup
          have HCC := Lib.hid CC
          clear hend hsh hfin hup hst hok SO CC UU HW hS hml
          go_wp2
          go_ret
          exact ⟨_, ho, rfl, HFin.out, hc, HCC.out, HUP.out⟩

end Go.Proofs.YtjjdjipohifgbaaGreat

/- Small words for rows: rows of entries that came in, and what is owed behind a call that laid blocks beside. Conditions: none. -/
namespace Go.Proofs.YtjjdjipohifgbaaGreat
open Go.ChangeShapes Go.WideShapes Go.ChangeAt Go.RowKit Go.Joins Go.Deep

theorem Tryz.own : ownKnob Tryz.prog.godebug = none := by kernel_rfl
theorem Tryz.laidOut : laidOutB Tryz.prog = true := by kernel_rfl

section
variable {H : Type} {enc : TypeId × Value → H} {P : Program} {w : World} {base : Nat} {spare : Nat → Bool} {held : Bool}
theorem open_slice_fields {t e : TypeId} {fs : Array Field} {fuel : Nat} {cs : List Value} {x : DataW H × List MemPlace} (ht : P.underlying t = some (.slice e)) (he : P.underlying e = some (.struct fs))
    (hone : oneCellFields P fs = true) (hC : P.cellsOf e = fs.size) (h : DataW.trod enc P w base spare held fuel t cs = some x) :
    (cs = [.slice none 0 0] ∧ x = (.nil, [])) ∨
    ∃ (a : Addr) (len cap m : Nat) (D : Nat → DataW H) (Pl : Nat → List MemPlace), cs = [.slice (some a) len cap] ∧ base ≤ a.block ∧ len ≤ cap ∧ cap ≤ maxLen ∧ m = (if spare a.block then cap else len) ∧
      x = (.slice ((List.range len).map D) ((List.range (m - len)).map fun j => D (len + j)), MemPlace.row a (m * fs.size) ++ (List.range m).flatMap Pl) ∧
      ∀ i, i < m → ∃ (ys : List (DataW H × List MemPlace)) (n : Nat), D i = .agg (ys.map (·.1)) ∧ Pl i = ys.flatMap (·.2) ∧ ys.length = fs.size ∧
        ∀ (j : Nat) (f : Field), fs[j]? = some f → ∃ (v : Value) (y : DataW H × List MemPlace), w.cell? (a.add (i * fs.size + j)) = some v ∧ ys[j]? = some y ∧ DataW.trod enc P w base spare held n f.type [v] = some y := by
  rcases open_slice ht h with h0 | ⟨a, len, cap, m, n, D, Pl, hcs, hb, hl, hm, hmm, hx, hi⟩
  · exact .inl h0
  · refine .inr ⟨a, len, cap, m, D, Pl, hcs, hb, hl, hm, hmm, by rw [hC] at hx; exact hx, fun i him => ?_⟩
    obtain ⟨cs', hc, ht'⟩ := hi i him
    rw [hC] at hc
    obtain ⟨ys, n', hn', hy, hlen, hyl, hf⟩ := DataW.trod_struct he ht'
    obtain ⟨_, hcl, hat⟩ := World.cells?_some hc
    simp only [Prod.mk.injEq] at hy
    refine ⟨ys, n', hy.1, hy.2, hyl, fun j f hj => ?_⟩
    obtain ⟨ho, hk⟩ := hone_of hone j f hj
    have hjl : j < fs.size := (Array.getElem?_eq_some_iff.1 hj).1
    have hcell := hat j hjl
    have hv : cs'[j]? = some (cs'[j]'(by omega)) := List.getElem?_eq_getElem (by omega)
    have h1 := hf j f hj
    rw [ho, hk] at h1
    have hone' : (cs'.drop j).take 1 = [cs'[j]'(by omega)] := by
      rw [List.drop_eq_getElem_cons (by omega)]
      rfl
    rw [hone'] at h1
    have hys : ys[j]? = some (ys[j]'(by omega)) := List.getElem?_eq_getElem (by omega)
    refine ⟨_, _, ?_, hys, h1.trans hys⟩
    rw [← Go.Deep.add_add, hcell, hv]
end

theorem list_of {α : Type} {P : Nat → α → Prop} : ∀ (n : Nat), (∀ i, i < n → ∃ x, P i x) → ∃ l : List α, l.length = n ∧ ∀ i (h : i < l.length), P i l[i] := by
  intro n
  induction n with
  | zero => intro _; exact ⟨[], rfl, fun i h => by simp at h⟩
  | succ n ih =>
    intro h
    obtain ⟨l, hl, hp⟩ := ih fun i hi => h i (by omega)
    obtain ⟨x, hx⟩ := h n (by omega)
    refine ⟨l ++ [x], by simp [hl], fun i hi => ?_⟩
    rw [List.getElem_append]
    split
    · exact hp i _
    · rename_i hge
      simp at hi
      have : i = n := by omega
      subst this
      simpa [hl] using hx

/-- what is owed behind a call that laid blocks beside what there was, scripts among the arguments -/
theorem post_below2 {H : Type} {enc : TypeId × Value → H} {P : Program} {f : Func} {s : ChangeSpec} {apart fresh handsOn : Bool} {W W' : World} {args : Array Value} {v : Value} {ds gs : List (DataW H)} {before pa pv : List MemPlace}
    (hW : DataW.Whole enc P f.params.toList s.vars apart W args.toList ds gs before)
    (hres : ∀ (b : Nat) (sp : Nat → Bool) (hd : Bool), DataW.TrodAll enc P W' b sp hd f.resultTypes.toList (v.resultList f.resultTypes.size) (s.fn H (ds ++ gs)).results [])
    (hargs : DataW.TrodAll enc P W' 0 (fun b => decide (b < W.heap.size)) true f.params.toList args.toList (s.fn H (ds ++ gs)).args pa)
    (hvars : ∀ sp : Nat → Bool, (∀ p ∈ before, sp p.block = true) → DataW.TrodVars enc P W' sp s.vars (s.fn H (ds ++ gs)).vars pv)
    (hps : before = pa ++ pv) (hk : W.keptBut W' (· ∈ before)) : s.post enc P f apart fresh handsOn false W args v W' := by
  have hold : ∀ p ∈ before, (fun b => decide (b < W.heap.size)) p.block = true := fun p hp => by simpa using hW.lt p hp
  refine ⟨ds, gs, before, [], pa, pv, hW, hres _ _ _, hargs, hvars _ hold, World.keptBut_mono (fun p hp => ⟨hp, ?_⟩) hk, fun hc => by cases hc⟩
  rw [hps, List.mem_append] at hp
  exact Or.inr hp

theorem U8_wf {x : Int} (h : (Lit.int .u8 x).wf = true) : U8 x := by
  simp [Lit.wf, IntKind.min, IntKind.max, IntKind.signed, IntKind.bits] at h
  unfold U8
  omega
theorem U64_wf {x : Int} (h : (Lit.int .u64 x).wf = true) : U64 x := by
  simp [Lit.wf, IntKind.min, IntKind.max, IntKind.signed, IntKind.bits] at h
  unfold U64
  omega
theorem I64_wf {x : Int} (h : (Lit.int .i64 x).wf = true) : I64 x := by
  simp [Lit.wf, IntKind.min, IntKind.max, IntKind.signed, IntKind.bits] at h
  unfold I64
  omega

/-- what config gives may be -/
theorem cfgOf_ok {a b c d : Int} (ha : U8 a) (hb : U8 b) (hc : U8 c) (hd : U8 d) : (cfgOf a b c d).ok = true := by
  obtain ⟨a1, a2⟩ := ha
  obtain ⟨b1, b2⟩ := hb
  obtain ⟨c1, c2⟩ := hc
  obtain ⟨d1, d2⟩ := hd
  have h4 : a / 64 = 0 ∨ a / 64 = 1 ∨ a / 64 = 2 ∨ a / 64 = 3 := by omega
  have h3 : c % 3 = 0 ∨ c % 3 = 1 ∨ c % 3 = 2 := by omega
  have hpc : 1 ≤ (cfgOf a b c d).card ∧ (cfgOf a b c d).card ≤ (cfgOf a b c d).page ∧ (cfgOf a b c d).page % (cfgOf a b c d).card = 0 := by
    simp only [cfgOf]
    rcases h4 with h4 | h4 | h4 | h4 <;> rcases h3 with h3 | h3 | h3 <;> simp [h4, h3]
  simp only [Cfg.ok, Cfg.sizes, Cfg.rows, Cfg.taxes, Bool.and_eq_true, within_iff, decide_eq_true_eq]
  refine ⟨⟨⟨⟨⟨?_, hpc.1, hpc.2.1⟩, hpc.2.2⟩, ?_⟩, ?_⟩, ?_⟩ <;> simp only [cfgOf] <;> omega

end Go.Proofs.YtjjdjipohifgbaaGreat

/- Acts and bytes that came in. Conditions: none. -/
namespace Go.Proofs.YtjjdjipohifgbaaGreat
open Go.ChangeShapes Go.WideShapes Go.ChangeAt Go.RowKit Go.Joins Go.Deep

/-- a row that came in: entries, one behind the other, in memory -/
structure IsActs (w : World) (v : Value) (l : List ActS) : Prop where
  fits : ∀ x ∈ l, (Lit.int .i64 x.what).wf = true ∧ (Lit.int .i64 x.a).wf = true ∧ (Lit.int .i64 x.b).wf = true ∧ (Lit.int .i64 x.c).wf = true
  len : l.length ≤ 9223372036854775807
  shape : ∃ ao cap, v = .slice ao l.length cap ∧ ∀ i (h : i < l.length), ∃ b off, ao = some ⟨b, off, none⟩ ∧ b < w.heap.size ∧
    w.cell? ⟨b, off + i * 4, none⟩ = some (.int .i64 l[i].what) ∧ w.cell? ⟨b, off + i * 4 + 1, none⟩ = some (.int .i64 l[i].a) ∧ w.cell? ⟨b, off + i * 4 + 2, none⟩ = some (.int .i64 l[i].b) ∧ w.cell? ⟨b, off + i * 4 + 3, none⟩ = some (.int .i64 l[i].c)

set_option maxRecDepth 100000 in
theorem open_acts {H : Type} {enc : TypeId × Value → H} {w : World} {v : Value} {d : DataW H} {p : List MemPlace} {r : Reach} {b0 : Nat}
    (hv : Value.okWide Tryz.prog w r b0 51 v) (h : DataW.Trod enc Tryz.prog w 0 (fun _ => true) true 51 v d p) : ∃ l, IsActs w v l := by
  obtain ⟨a0, len0, cap0, rfl⟩ := okWide_slice Tryz.underlying51 hv
  obtain ⟨fuel, hf⟩ := h
  rcases open_slice_fields Tryz.underlying51 Tryz.underlying53 (by kernel_rfl) (by kernel_rfl) hf with ⟨hcs, _⟩ | ⟨a, len, cap, m, D, Pl, hcs, _, hl, hm, hmm, _, hi⟩
  · simp [Value.cells] at hcs
    obtain ⟨rfl, rfl, rfl⟩ := hcs
    exact ⟨[], by simp, by simp, none, 0, rfl, fun i h => by simp at h⟩
  · simp [Value.cells] at hcs
    obtain ⟨rfl, rfl, rfl⟩ := hcs
    simp only [if_true] at hmm
    subst hmm
    have key : ∀ i, i < len0 → ∃ x : ActS, ((Lit.int .i64 x.what).wf = true ∧ (Lit.int .i64 x.a).wf = true ∧ (Lit.int .i64 x.b).wf = true ∧ (Lit.int .i64 x.c).wf = true) ∧ ∃ b off, a = ⟨b, off, none⟩ ∧ b < w.heap.size ∧ w.cell? ⟨b, off + i * 4, none⟩ = some (.int .i64 x.what) ∧ w.cell? ⟨b, off + i * 4 + 1, none⟩ = some (.int .i64 x.a) ∧ w.cell? ⟨b, off + i * 4 + 2, none⟩ = some (.int .i64 x.b) ∧ w.cell? ⟨b, off + i * 4 + 3, none⟩ = some (.int .i64 x.c) := by
      intro i hil
      obtain ⟨ys, n, _, _, _, hfs⟩ := hi i (by omega)
      obtain ⟨v0, y0, c0, _, t0⟩ := hfs 0 _ rfl
      obtain ⟨v1, y1, c1, _, t1⟩ := hfs 1 _ rfl
      obtain ⟨v2, y2, c2, _, t2⟩ := hfs 2 _ rfl
      obtain ⟨v3, y3, c3, _, t3⟩ := hfs 3 _ rfl
      obtain ⟨n0, e0, _, w0⟩ := DataW.trod_int Tryz.underlying3 t0
      obtain ⟨n1, e1, _, w1⟩ := DataW.trod_int Tryz.underlying3 t1
      obtain ⟨n2, e2, _, w2⟩ := DataW.trod_int Tryz.underlying3 t2
      obtain ⟨n3, e3, _, w3⟩ := DataW.trod_int Tryz.underlying3 t3
      simp only [List.cons.injEq, and_true] at e0 e1 e2 e3
      subst e0 e1 e2 e3
      obtain ⟨_, _, _, _, _, hz⟩ := hi 0 (by omega)
      obtain ⟨_, _, cz, _, _⟩ := hz 0 _ rfl
      obtain ⟨b, off, spot⟩ := a
      have hspot : spot = none := by simpa [Addr.add] using World.cell?_spot cz
      subst hspot
      have hbl := World.block_lt_of_cell? w _ c0
      simp only [Addr.add_lit, List.size_toArray, List.length_cons, List.length_nil, Nat.zero_add, Nat.add_zero, ← Nat.add_assoc] at c0 c1 c2 c3 hbl
      exact ⟨⟨n0, n1, n2, n3⟩, ⟨w0, w1, w2, w3⟩, b, off, rfl, hbl, c0, c1, c2, c3⟩
    obtain ⟨l, hll, hp⟩ := list_of len0 key
    subst hll
    have hmem : ∀ x ∈ l, (Lit.int .i64 x.what).wf = true ∧ (Lit.int .i64 x.a).wf = true ∧ (Lit.int .i64 x.b).wf = true ∧ (Lit.int .i64 x.c).wf = true := by
      intro x hx
      obtain ⟨i, hi, rfl⟩ := List.getElem_of_mem hx
      exact (hp i hi).1
    refine ⟨l, hmem, by unfold maxLen at hm; omega, some a, _, rfl, fun i hi => ?_⟩
    obtain ⟨_, b, off, rfl, hh⟩ := hp i hi
    exact ⟨b, off, rfl, hh⟩

/-- a row that came in: entries, one behind the other, in memory -/
structure IsBytes (w : World) (v : Value) (l : List Int) : Prop where
  fits : ∀ x ∈ l, (Lit.int .u8 x).wf = true
  len : l.length ≤ 9223372036854775807
  shape : ∃ ao cap, v = .slice ao l.length cap ∧ ∀ i (h : i < l.length), ∃ b off, ao = some ⟨b, off, none⟩ ∧ b < w.heap.size ∧
    w.cell? ⟨b, off + i, none⟩ = some (.int .u8 l[i])

set_option maxRecDepth 100000 in
theorem open_bytes {H : Type} {enc : TypeId × Value → H} {w : World} {v : Value} {d : DataW H} {p : List MemPlace} {r : Reach} {b0 : Nat}
    (hv : Value.okWide Tryz.prog w r b0 22 v) (h : DataW.Trod enc Tryz.prog w 0 (fun _ => true) true 22 v d p) : ∃ l, IsBytes w v l := by
  obtain ⟨a0, len0, cap0, rfl⟩ := okWide_slice Tryz.underlying22 hv
  obtain ⟨fuel, hf⟩ := h
  rcases open_slice Tryz.underlying22 hf with ⟨hcs, _⟩ | ⟨a, len, cap, m, n, D, Pl, hcs, _, hl, hm, hmm, _, hi⟩
  · simp [Value.cells] at hcs
    obtain ⟨rfl, rfl, rfl⟩ := hcs
    exact ⟨[], by simp, by simp, none, 0, rfl, fun i h => by simp at h⟩
  · simp [Value.cells] at hcs
    obtain ⟨rfl, rfl, rfl⟩ := hcs
    simp only [if_true] at hmm
    subst hmm
    have key : ∀ i, i < len0 → ∃ x : Int, ((Lit.int .u8 x).wf = true) ∧ ∃ b off, a = ⟨b, off, none⟩ ∧ b < w.heap.size ∧ w.cell? ⟨b, off + i, none⟩ = some (.int .u8 x) := by
      intro i hil
      have hC : Tryz.prog.cellsOf 5 = 1 := by kernel_rfl
      obtain ⟨cs', hc, ht'⟩ := hi i (by omega)
      obtain ⟨cz', hcz, _⟩ := hi 0 (by omega)
      rw [hC] at hc hcz
      obtain ⟨n0, e0, _, w0⟩ := DataW.trod_int Tryz.underlying5 ht'
      obtain ⟨_, hcl, hat⟩ := World.cells?_some hc
      obtain ⟨_, hczl, hzat⟩ := World.cells?_some hcz
      have c0 := hat 0 (by omega)
      have cz := hzat 0 (by omega)
      obtain ⟨b, off, spot⟩ := a
      rw [e0] at c0
      have czs : cz'[0]? = some (cz'[0]'(by omega)) := List.getElem?_eq_getElem (by omega)
      rw [czs] at cz
      have hspot : spot = none := by simpa [Addr.add] using World.cell?_spot cz
      subst hspot
      have hbl := World.block_lt_of_cell? w _ c0
      simp only [Addr.add_lit, Nat.mul_one, Nat.add_zero, Nat.zero_add] at c0 hbl
      exact ⟨n0, w0, b, off, rfl, hbl, by simpa using c0⟩
    obtain ⟨l, hll, hp⟩ := list_of len0 key
    subst hll
    have hmem : ∀ x ∈ l, (Lit.int .u8 x).wf = true := by
      intro x hx
      obtain ⟨i, hi, rfl⟩ := List.getElem_of_mem hx
      exact (hp i hi).1
    refine ⟨l, hmem, by unfold maxLen at hm; omega, some a, _, rfl, fun i hi => ?_⟩
    obtain ⟨_, b, off, rfl, hh⟩ := hp i hi
    exact ⟨b, off, rfl, hh⟩

end Go.Proofs.YtjjdjipohifgbaaGreat

/- awake of the statements' package is true. Conditions: none. -/
namespace Go.Proofs.YtjjdjipohifgbaaGreat
open Go.RowKit

def aw0 : CoreS := coreNew (cfgOf 3 40 80 20)
def aw1 : CoreS := aw0.make 0 1 1
def aw2 : CoreS := aw1.make 1 0 1
def aw3 : CoreS := aw2.set 0 0 1
def aw4 : CoreS := { aw3 with ws := aw3.writeW 1 0 5 }
def aw5 : CoreS := aw4.make 2 3 0
def aw6 : CoreS := { aw5 with t := tblSet aw5.t 2 0 }
def aw7 : CoreS := { aw6 with t := tblSet aw6.t 1 0 }
def aw8 : CoreS := aw7.startS
def aw9 : CoreS := aw8.startS
def awA : CoreS := aw9.minSteps 3
def awB : CoreS := awA.gotM 1 0 0
def awC : CoreS := awB.minStep
def awT : StatS := awC.statsS

theorem aw_ok : (cfgOf 3 40 80 20).ok = true := by kernel_rfl
theorem aw_s0 : aw0.Sane := sane_new (Cfg.fits aw_ok)
theorem aw_s1 : aw1.Sane := aw_s0.make ..
theorem aw_s2 : aw2.Sane := aw_s1.make ..
theorem aw_s3 : aw3.Sane := aw_s2.set ..
theorem aw_s4 : aw4.Sane := aw_s3.write ..
theorem aw_s5 : aw5.Sane := aw_s4.make ..
theorem aw_s6 : aw6.Sane := aw_s5.clear ..
theorem aw_s7 : aw7.Sane := aw_s6.clear ..
theorem aw_s8 : aw8.Sane := aw_s7.startS
theorem aw_s9 : aw9.Sane := aw_s8.startS
theorem aw_sA : awA.Sane := aw_s9.minSteps 3
theorem aw_sB : awB.Sane := aw_sA.got ..
theorem aw_sC : awC.Sane := aw_sB.minStep
theorem aw_st1 : aw7.startOk = true := by kernel_rfl
theorem aw_st2 : aw8.startOk = false := by kernel_rfl
theorem aw_mv : ∀ k, k < 3 → (aw9.minSteps k).moving = true := by decide +kernel
theorem aw_mvA : (aw9.minSteps 3).moving = false := by kernel_rfl
theorem aw_mvC : awC.moving = false := by kernel_rfl
theorem aw_g : awA.refE 0 0 1 = 0 := by kernel_rfl
theorem aw_rv : awB.readV 1 0 = 5 := by kernel_rfl
theorem aw_re : awB.scalE 1 0 = 0 := by kernel_rfl
theorem aw_b : awB.minB = false := by kernel_rfl
theorem aw_y : awT.young = 7 := by kernel_rfl
theorem aw_m : awT.minors = 1 := by kernel_rfl

/-- the calls, one by one -/
abbrev CallsCore (f : FuncId) (args : List Value) (s : CoreS) (v : Value) (s' : CoreS) : Prop :=
  ∀ pc L W h, In W h → CoreH pc L s h → Calls Tryz.prog f (.pointer (some ⟨pc, 0, none⟩) :: args).toArray W fun e w' => e = .returned v ∧ ∃ h', CoreH pc L s' h' ∧ Upd h h' W w'

theorem aw_c1 : CallsCore 12 [.int .i64 0, .int .i64 1, .int .i64 1] aw0 (.int .i64 (aw0.makeE 0 1 1)) aw1 := fun pc L W h hi hc => sane_make_call pc L aw_s0 0 1 1 W h hi hc
theorem aw_c2 : CallsCore 12 [.int .i64 1, .int .i64 0, .int .i64 1] aw1 (.int .i64 (aw1.makeE 1 0 1)) aw2 := fun pc L W h hi hc => sane_make_call pc L aw_s1 1 0 1 W h hi hc
theorem aw_c3 : CallsCore 25 [.int .i64 0, .int .i64 0, .int .i64 1] aw2 (.int .i64 (aw2.refE 0 0 1)) aw3 := fun pc L W h hi hc => core_set pc L aw2 0 0 1 W h hi hc
theorem aw_c4 : CallsCore 41 [.int .i64 1, .int .i64 0, .int .u64 5] aw3 (.int .i64 (aw3.scalE 1 0)) aw4 := fun pc L W h hi hc => core_write pc L aw3 1 0 5 W h hi hc (by unfold U64; omega)
theorem aw_c5 : CallsCore 12 [.int .i64 2, .int .i64 3, .int .i64 0] aw4 (.int .i64 (aw4.makeE 2 3 0)) aw5 := fun pc L W h hi hc => sane_make_call pc L aw_s4 2 3 0 W h hi hc
theorem aw_c6 : CallsCore 13 [.int .i64 2] aw5 (.int .i64 (tblErr aw5.t 2)) aw6 := fun pc L W h hi hc => core_clear pc L aw5 2 W h hi hc
theorem aw_c7 : CallsCore 13 [.int .i64 1] aw6 (.int .i64 (tblErr aw6.t 1)) aw7 := fun pc L W h hi hc => core_clear pc L aw6 1 W h hi hc
theorem aw_c8 : CallsCore 15 [] aw7 (.bool true) aw8 := fun pc L W h hi hc => by
  have := sane_start_call pc L aw_s7 W h hi hc
  rw [aw_st1] at this
  exact this
theorem aw_c9 : CallsCore 15 [] aw8 (.bool false) aw9 := fun pc L W h hi hc => by
  have := sane_start_call pc L aw_s8 W h hi hc
  rw [aw_st2] at this
  exact this
theorem aw_cA : CallsCore 29 [.int .i64 1, .int .i64 0, .int .i64 0] awA (.int .i64 0) awB := fun pc L W h hi hc => by
  have := sane_get_call pc L aw_sA 1 0 0 W h hi hc
  rw [aw_g] at this
  exact this
theorem aw_cB : CallsCore 42 [.int .i64 1, .int .i64 0] awB (.tuple #[.int .u64 5, .int .i64 0]) awB := fun pc L W h hi hc => by
  have := core_read pc L awB 1 0 W h hi hc
  rw [aw_rv, aw_re] at this
  exact this
theorem aw_cC : CallsCore 16 [] awB (.tuple #[.int .i64 awB.minN, .bool false]) awC := fun pc L W h hi hc => by
  have := sane_step_call pc L aw_sB W h hi hc
  rw [aw_b] at this
  exact this
theorem aw_cT : CallsCore 17 [] awC (.agg (statCells awT)) awC := fun pc L W h hi hc => sane_stats_call pc L aw_sC W h hi hc

def AwL (pc : Nat) (L : CoreL) (s : CoreS) (w wr : World) : Prop := ∃ h, CoreH pc L s h ∧ Upd [] h w wr

set_option maxRecDepth 100000 in
set_option maxHeartbeats 2000000 in
theorem law_awake (w : World) : Calls Tryz.prog 11 #[] w fun e w' => e = .returned (.bool true) ∧ Upd [] [] w w' := by
  go_enter Tryz.func11, Tryz.ntmps11
  go_wp2_with (first
    | (go_at_call 9; refine Calls.mono (law_config 3 40 80 20 ⟨by decide, by decide⟩ ⟨by decide, by decide⟩ ⟨by decide, by decide⟩ ⟨by decide, by decide⟩ _) ?_; rintro e v0 ⟨rfl, x0⟩)
    | (go_at_call 10; refine Calls.mono (core_new _ aw_ok _) ?_; rintro e w0 ⟨pc, L, h0, rfl, c00, u0⟩; have c0 : CoreH pc L aw0 h0 := c00; clear c00; have U0 := x0.trans u0; simp only [ptr])
    | (go_at_call 12; with_reducible refine Calls.mono (aw_c1 pc L _ _ U0.inn c0) ?_; rintro e w1 ⟨rfl, h1, c1, u1⟩; have U1 := U0.trans u1; clear U0 c0)
    | (go_at_call 12; with_reducible refine Calls.mono (aw_c2 pc L _ _ U1.inn c1) ?_; rintro e w2 ⟨rfl, h2, c2, u2⟩; have U2 := U1.trans u2; clear U1 c1)
    | (go_at_call 25; with_reducible refine Calls.mono (aw_c3 pc L _ _ U2.inn c2) ?_; rintro e w3 ⟨rfl, h3, c3, u3⟩; have U3 := U2.trans u3; clear U2 c2)
    | (go_at_call 41; with_reducible refine Calls.mono (aw_c4 pc L _ _ U3.inn c3) ?_; rintro e w4 ⟨rfl, h4, c4, u4⟩; have U4 := U3.trans u4; clear U3 c3)
    | (go_at_call 12; with_reducible refine Calls.mono (aw_c5 pc L _ _ U4.inn c4) ?_; rintro e w5 ⟨rfl, h5, c5, u5⟩; have U5 := U4.trans u5; clear U4 c4)
    | (go_at_call 13; with_reducible refine Calls.mono (aw_c6 pc L _ _ U5.inn c5) ?_; rintro e w6 ⟨rfl, h6, c6, u6⟩; have U6 := U5.trans u6; clear U5 c5)
    | (go_at_call 13; with_reducible refine Calls.mono (aw_c7 pc L _ _ U6.inn c6) ?_; rintro e w7 ⟨rfl, h7, c7, u7⟩; have U7 := U6.trans u7; clear U6 c6)
    | (go_at_call 15; with_reducible refine Calls.mono (aw_c8 pc L _ _ U7.inn c7) ?_; rintro e w8 ⟨rfl, h8, c8, u8⟩; have U8 := U7.trans u8; clear U7 c7)
    | (go_at_call 15; with_reducible refine Calls.mono (aw_c9 pc L _ _ U8.inn c8) ?_; rintro e w9 ⟨rfl, h9, c9, u9⟩; have U9 := U8.trans u9; clear U8 c8))
  have HS : Hid (AwL pc L (aw9.minSteps 0) w w9) := Lib.hid ⟨h9, c9, U9⟩
  clear c9 U9
  go_loopw [4] (fun q wr => ∃ (k : Nat), k ≤ 3 ∧ q = .int .i64 k ∧ Hid (AwL pc L (aw9.minSteps k) w wr)) (fun q _ => 3 - (intOf q).toNat)
  case atStart => exact ⟨0, by omega, rfl, HS⟩
  case round =>
    obtain ⟨k, hk, rfl, HW⟩ := hrel
    obtain ⟨h, hc, hU⟩ := HW.out
    have m0 := (hc.vars (x := []) hU.inn).2
    by_cases h3 : k < 3
    · rw [aw_mv k h3] at m0
      have hst := sane_step_call pc L (aw_s9.minSteps k) wr h hU.inn hc
      have HU := Lib.hid hU
      simp only [ptr] at hst
      clear hc hU HW
      go_wp2_with (go_at_call 16; refine Calls.mono hst ?_; rintro e w2 ⟨rfl, h2, c2, u2⟩; have U2 : Hid (AwL pc L (aw9.minSteps (k + 1)) w w2) := Lib.hid ⟨h2, c2, HU.out.trans u2⟩; clear c2 u2)
      go_roundw
      case rel => exact ⟨k + 1, by omega, by go_num, U2⟩
      case measure => simp [intOf]; omega
    · have hk3 : k = 3 := by omega
      subst hk3
      rw [aw_mvA] at m0
      have U20 := hU
      have c20 : CoreH pc L awA h := hc
      clear hc hU HW HS
      go_wp2_with (first
        | (go_at_call 29; with_reducible refine Calls.mono (aw_cA pc L _ _ U20.inn c20) ?_; rintro e w21 ⟨rfl, h21, c21, u21⟩; have U21 := U20.trans u21; clear U20 c20)
        | (go_at_call 42; with_reducible refine Calls.mono (aw_cB pc L _ _ U21.inn c21) ?_; rintro e w22 ⟨rfl, h22, c22, u22⟩; have U22 := U21.trans u22; clear U21 c21)
        | (go_at_call 16; with_reducible refine Calls.mono (aw_cC pc L _ _ U22.inn c22) ?_; rintro e w23 ⟨rfl, h23, c23, u23⟩; have U23 := U22.trans u23; clear U22 c22; have m0 : w23.cell? ⟨pc, 21, none⟩ = some (.bool false) := by (have := (c23.vars (x := []) U23.inn).2; rw [aw_mvC] at this; exact this))
        | (go_at_call 17; with_reducible refine Calls.mono (aw_cT pc L _ _ U23.inn c23) ?_; rintro e w24 ⟨rfl, h24, c24, u24⟩; have U24 := U23.trans u24; clear U23 c23; obtain ⟨T3, hT⟩ : ∃ T, T = awT := ⟨_, rfl⟩; rw [← hT]; have hy : T3.young = 7 := hT ▸ aw_y; have hF3 := stat_young T3.allocs T3.words T3.promoted T3.minors T3.majors T3.young T3.old T3.free w24; rw [hy] at hF3; clear hT; simp only [statCells])
        | (go_at_call 17; with_reducible refine Calls.mono (aw_cT pc L _ _ U24.inn c24) ?_; rintro e w25 ⟨rfl, h25, c25, u25⟩; have U25 := U24.trans u25; clear U24 c24; obtain ⟨T4, hT⟩ : ∃ T, T = awT := ⟨_, rfl⟩; rw [← hT]; have hy : T4.minors = 1 := hT ▸ aw_m; have hF4 := stat_minors T4.allocs T4.words T4.promoted T4.minors T4.majors T4.young T4.old T4.free w25; rw [hy] at hF4; clear hT; simp only [statCells]))
      go_ret
      exact ⟨rfl, U25.forget (List.nil_sublist _)⟩

end Go.Proofs.YtjjdjipohifgbaaGreat

/- What the laws of minor cycles ask of the core: what acts keep. No program in sight. Condition: the core is as it should be. -/
namespace Go.Proofs.YtjjdjipohifgbaaGreat
open Go.RowKit

/-- behind acts -/
def runA (s : CoreS) (l : List ActS) : CoreS := l.foldl actS s
theorem runA_snoc (s : CoreS) (l : List ActS) (k : Nat) (h : k < l.length) : runA s (l.take (k + 1)) = actS (runA s (l.take k)) l[k] := by
  unfold runA
  rw [List.take_succ_eq_append_getElem h, List.foldl_append]
  rfl
theorem CoreS.Sane.runA {s : CoreS} (Z : s.Sane) (l : List ActS) : (runA s l).Sane := by
  induction l generalizing s with
  | nil => exact Z
  | cons x l ih => exact ih (Z.act x)

theorem CoreS.Sane.shown_step {s : CoreS} (Z : s.Sane) (f : Nat) : s.minStep.shown f = s.shown f := by
  obtain ⟨cur, oth, N, hs, K, loc, m, G, _⟩ := Z
  exact step_shown G.inv G.rep G.hdl f
theorem CoreS.Sane.shown_start {s : CoreS} (Z : s.Sane) (f : Nat) : s.startS.shown f = s.shown f := by
  obtain ⟨cur, oth, N, hs, K, loc, m, G, _⟩ := Z
  exact start_shown G.inv G.rep G.hdl f
theorem CoreS.Sane.shown_steps {s : CoreS} (Z : s.Sane) (f : Nat) : ∀ k, (s.minSteps k).shown f = s.shown f
  | 0 => rfl
  | k + 1 => ((Z.minSteps k).shown_step f).trans (Z.shown_steps f k)
/-- cycles change nothing that is shown -/
theorem CoreS.Sane.shown_act {s : CoreS} (Z : s.Sane) (x : ActS) (h : ¬ (x.what < 6 ∧ 0 ≤ x.what)) (f : Nat) : (actS s x).shown f = s.shown f := by
  unfold actS
  rw [if_neg (by omega), if_neg (by omega), if_neg (by omega), if_neg (by omega), if_neg (by omega), if_neg (by omega)]
  split
  · exact Z.shown_start f
  · exact Z.shown_steps f _

end Go.Proofs.YtjjdjipohifgbaaGreat
