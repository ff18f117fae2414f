/- MinorRuns of the statements' package answers true, whatever the input: the given statement. Conditions: none. -/
import Derived.Test.YtjjdjipohifgbaaGreatRows
import Derived.Test.YtjjdjipohifgbaaGreatZF
import Derived.Test.YtjjdjipohifgbaaGreatZG
import Derived.Deep.RegionHeld3
import Derived.Deep.DeepCutAuto
import Derived.Deep.CutBlock
set_option linter.unusedVariables false
set_option linter.unusedSimpArgs false
/- A cycle ends; how much is young then, and what is counted. No program in sight. Condition: the core is as it should be. -/
namespace Go.Proofs.YtjjdjipohifgbaaGreat
open Go.RowKit

theorem minSteps_front (s : CoreS) : ∀ k, s.minSteps (k + 1) = s.minStep.minSteps k
  | 0 => rfl
  | k + 1 => by
    show (s.minSteps (k + 1)).minStep = (s.minStep.minSteps k).minStep
    rw [minSteps_front s k]

/-- without a cycle a bit is nothing -/
theorem step_rest {s : CoreS} (h : s.moving = false) : s.minStep = s ∧ s.minN = 0 ∧ s.minB = false := by
  unfold CoreS.minStep CoreS.minN CoreS.minB CoreS.which
  rw [if_pos h]
  exact ⟨rfl, rfl, rfl⟩
/-- in a cycle a bit is something -/
theorem step_some {s : CoreS} (h : s.moving = true) : 1 ≤ s.minN := by
  unfold CoreS.minN CoreS.which
  rw [if_neg (by rw [h]; decide)]
  have h1 := rowN_bounds s
  have h2 := scanN_bounds s
  split
  · simp only [CoreS.stepNOf]; omega
  · split
    · rename_i x l _
      have := notedN_bounds s.popBuf x
      simp only [CoreS.stepNOf]; omega
    · split
      · rename_i n _
        have := (partN_bounds (s.cardStarts n) (s.popCard n)).1
        simp only [CoreS.stepNOf]; omega
      · split
        · simp only [CoreS.stepNOf]; omega
        · simp only [CoreS.stepNOf]; omega

theorem move_minors (s : CoreS) (a : Int) : (s.move a).done.minors = s.done.minors := by
  unfold CoreS.move
  split
  · rfl
  · split
    · unfold CoreS.moved
      simp only
      split <;> rfl
    · rfl
theorem thrOne_minors (s : CoreS) (a : Int) (k : Nat) : (s.thrOne a k).done.minors = s.done.minors := by
  unfold CoreS.thrOne
  split
  · exact move_minors ..
  · exact move_minors ..
theorem thr_minors (s : CoreS) (a : Int) : ∀ k, (s.thr a k).done.minors = s.done.minors
  | 0 => rfl
  | k + 1 => (thrOne_minors (s.thr a k) a k).trans (thr_minors s a k)
theorem note_minors (s : CoreS) (a : Int) : (s.note a).done.minors = s.done.minors := by rw [(note_others s a).2.2.2.2.2.2.2.2.2.2.2.2]
theorem through_minors (s : CoreS) (a : Int) : (s.through a).done.minors = s.done.minors := by
  unfold CoreS.through
  split
  · rw [note_minors]; exact thr_minors ..
  · exact thr_minors ..
theorem noted_minors (s : CoreS) (a : Int) : (s.notedS a).done.minors = s.done.minors := by
  unfold CoreS.notedS
  split
  · exact through_minors ..
  · rfl
theorem part_minors : ∀ (s : CoreS) (l : List Int), (s.partS l).done.minors = s.done.minors
  | s, [] => rfl
  | s, a :: l => (part_minors (s.notedS a) l).trans (noted_minors s a)
theorem row_minors (s : CoreS) : s.rowS.done.minors = s.done.minors := by
  unfold CoreS.rowS
  split
  · exact through_minors ..
  · rfl

/-- a bit, or the end -/
theorem step_way {s : CoreS} {cur oth : List Int} (I : Inv s cur oth NoI NoI) (hmv : s.moving = true) :
    (s.minB = true ∧ s.minStep.meas 1 ≤ s.meas 1 ∧ s.minStep.done.minors = s.done.minors) ∨ (s.minB = false ∧ s.minStep = s.finishS ∧ s.row = []) := by
  have key : (stepBOf s.which = true ∧ (s.stepOf s.which).meas 1 ≤ s.meas 1 ∧ (s.stepOf s.which).done.minors = s.done.minors) ∨ (stepBOf s.which = false ∧ s.stepOf s.which = s.finishS ∧ s.row = []) := by
    unfold CoreS.which
    rw [if_neg (by rw [hmv]; decide)]
    by_cases hr : 0 < s.row.length
    · rw [if_pos hr]
      left
      obtain ⟨h1, _⟩ := row_meas I hmv (c := 1) (.inl rfl) hr
      refine ⟨rfl, ?_, row_minors s⟩
      show s.rowS.meas 1 ≤ s.meas 1
      omega
    · rw [if_neg hr]
      cases hx : s.r.tb.list with
      | cons x l =>
        left
        obtain ⟨h1, _⟩ := noted_meas (popBuf_inv I hmv hx) hmv (c := 1) (.inl rfl) x
        exact ⟨rfl, h1, noted_minors _ _⟩
      | nil =>
        cases hf : s.r.tc.first with
        | some n =>
          left
          obtain ⟨IP, ho⟩ := popCard_inv I hmv hx n
          obtain ⟨h1, _⟩ := part_meas (c := 1) (.inl rfl) (s.cardStarts n) IP hmv ho
          exact ⟨rfl, h1, part_minors _ _⟩
        | none =>
          by_cases hs' : s.scanOk = true
          · simp only [hs', if_true]
            left
            obtain ⟨hsc, c1, L, I2, hq⟩ := scan_inv I hmv hs'
            have h1 := look_meas I hmv (c := 1) (.inl rfl) (E := NoI) (.inl hsc)
            exact ⟨rfl, h1, through_minors s _⟩
          · simp only [hs']
            right
            exact ⟨rfl, rfl, List.length_eq_zero_iff.1 (by omega)⟩
  exact key

/-- a cycle ends -/
theorem ends_at : ∀ (f : Nat) {s : CoreS} {cur oth : List Int} (_ : Inv s cur oth NoI NoI), (s.moving = true → s.todo < f) → ∃ n : Nat, n ≤ f ∧ (∀ k, k < n → (s.minSteps k).moving = true) ∧ (s.minSteps n).moving = false ∧
    (s.moving = true → (s.minSteps n).y.cu ≤ s.meas 1 ∧ (s.minSteps n).done.minors = wrap64 (s.done.minors + 1)) ∧ (s.moving = false → n = 0)
  | f, s, cur, oth, I, h => by
    cases hmv : s.moving with
    | false => exact ⟨0, by omega, fun k hk => by omega, hmv, fun h => (by cases h), fun _ => rfl⟩
    | true =>
      have hf := h hmv
      have hb := (todo_bounds I hmv).1
      cases f with
      | zero => omega
      | succ f =>
        rcases step_way I hmv with ⟨hB, h1, h2⟩ | ⟨hB, h1, h2⟩
        · obtain ⟨_, c1, o1, J, K, hm⟩ := step_inv I
          have ht := step_todo I hB
          have hmv1 := (hm hB).2.2
          obtain ⟨n, n1, n2, n3, n4, n5⟩ := ends_at f J (fun _ => by omega)
          obtain ⟨n6, n7⟩ := n4 hmv1
          refine ⟨n + 1, by omega, ?_, by rw [minSteps_front]; exact n3, fun _ => ⟨by rw [minSteps_front]; omega, by rw [minSteps_front, n7, h2]⟩, fun h => by cases h⟩
          intro k hk
          cases k with
          | zero => exact hmv
          | succ k => rw [minSteps_front]; exact n2 k (by omega)
        · have e : s.minSteps 1 = s.finishS := h1
          refine ⟨1, by omega, ?_, by rw [e]; rfl, fun _ => ?_, fun h => by cases h⟩
          · intro k hk
            obtain rfl : k = 0 := by omega
            exact hmv
          · rw [e]
            obtain ⟨n1, n2, n3, n4, n5, n6, n7, n8, n9, n10⟩ := I.lay.nums
            have hgl := goneW_le I.lay.ro
            have hcp := I.hds.cp
            refine ⟨?_, rfl⟩
            have hcu : s.finishS.y.cu = s.y.cu := by
              show s.y.drop.cu = s.y.cu
              obtain ⟨a1, a2, a3, a4, a5, a6⟩ := s.y
              cases a6 <;> rfl
            rw [hcu]
            unfold CoreS.meas
            omega

/-- of any core that is as it should be -/
theorem CoreS.Sane.ends {s : CoreS} (Z : s.Sane) (hN : 7 * s.C.nursery + 2 * (s.C.buffer + s.C.pages * s.C.page + 1) ≤ 7000) : ∃ n : Nat, n < 3999 ∧ (∀ k, k < n → (s.minSteps k).moving = true) ∧ (s.minSteps n).moving = false ∧
    (s.moving = true → (s.minSteps n).y.cu ≤ s.y.cu + s.y.ou ∧ (s.minSteps n).done.minors = wrap64 (s.done.minors + 1)) ∧ (s.moving = false → n = 0) := by
  obtain ⟨cur, oth, I, _⟩ := Z.inv
  obtain ⟨n1, n2, n3, n4, n5, n6, n7, n8, n9, n10⟩ := I.lay.nums
  obtain ⟨n, m1, m2, m3, m4, m5⟩ := ends_at 3998 I (fun hmv => by
    have h1 := (todo_bounds I hmv).2
    have h2 := I.rem.tc.2.2.2
    have h3 := many_leW (words := s.C.pages * s.C.page) (card := s.C.card) (by omega) I.lay.cf.c1
    have h4 := I.rem.bm.2.2.2
    omega)
  refine ⟨n, by omega, m2, m3, fun hmv => ?_, m5⟩
  obtain ⟨k1, k2⟩ := m4 hmv
  refine ⟨?_, k2⟩
  have hgl := goneW_le I.lay.ro
  have hcp := I.hds.cp
  have hrl := I.hds.rl
  unfold CoreS.meas at k1
  omega

end Go.Proofs.YtjjdjipohifgbaaGreat

/- MinorKeeps of the statements' package answers true. Conditions: none. -/
namespace Go.Proofs.YtjjdjipohifgbaaGreat
open Go.RowKit

/-- the core behind so many acts -/
def ActL (pc : Nat) (L : CoreL) (s : CoreS) (w wr : World) : Prop := ∃ h, CoreH pc L s h ∧ Upd [] h w wr
theorem Upd.oldcell {w w' : World} {h : Hp} (u : Upd [] h w w') {b o : Nat} {v : Value} (hb : b < w.heap.size) (hc : w.cell? ⟨b, o, none⟩ = some v) : w'.cell? ⟨b, o, none⟩ = some v := by
  rw [u.below.cell (p := ⟨b, o, none⟩) hb]
  exact hc

set_option maxRecDepth 100000 in
set_option maxHeartbeats 4000000 in
theorem minorKeeps_any (a b c d : Int) (sv : Value) (l : List ActS) (ha : U8 a) (hb : U8 b) (hc : U8 c) (hd : U8 d) {w : World} (hs : IsActs w sv l) :
    Calls Tryz.prog 4 #[.int .u8 a, .int .u8 b, .int .u8 c, .int .u8 d, sv] w fun e w' => e = .returned (.bool true) ∧ Upd [] [] w w' := by
  have hok := cfgOf_ok ha hb hc hd
  have hcfg := law_config a b c d ha hb hc hd w
  obtain ⟨hfit, hlen, ao, cap, rfl, hsh⟩ := hs
  have HSc := Lib.hid hsh
  clear ha hb hc hd hsh hfit
  generalize cfgOf a b c d = C at *
  have HZ0 := Lib.hid (sane_new (Cfg.fits hok))
  have HOK := Lib.hid hok
  clear hok
  simp only [cfgCells] at hcfg
  go_enter Tryz.func4, Tryz.ntmps4
  go_wp2_with (first
    | (go_at_call 9; refine Calls.mono hcfg ?_; rintro e v0 ⟨rfl, x0⟩; clear hcfg)
    | (go_at_call 10; refine Calls.mono (core_new C HOK.out _) ?_; rintro e w0 ⟨pc, L, h0, rfl, c0, u0⟩; have U0 := x0.trans u0; clear x0 u0; simp only [ptr])
    | (go_at_call 11; refine Calls.mono (law_awake _) ?_; rintro e w1 ⟨rfl, x1⟩; have U1 := U0.under0 x1; clear U0 x1))
  have HS : Hid (ActL pc L (runA (coreNew C) (l.take 0)) w w1) := ⟨h0, c0, U1⟩
  clear U1 c0
  go_loopw [13] (fun q wr => ∃ (k : Nat), k ≤ l.length ∧ q = .int .i64 k ∧ Hid (ActL pc L (runA (coreNew C) (l.take k)) w wr)) (fun q _ => l.length - (intOf q).toNat)
  case atStart => exact ⟨0, by omega, rfl, HS⟩
  case round =>
    obtain ⟨k, hk, rfl, HW⟩ := hrel
    obtain ⟨h, hW⟩ := HW.out
    have HZ := Lib.hid (HZ0.out.runA (l.take k))
    by_cases hlt : k < l.length
    · by_cases h80 : k < 80
      · obtain ⟨bq, off, rfl, hbl, e0, e1, e2, e3⟩ := HSc.out k hlt
        have hsn := runA_snoc (coreNew C) l k hlt
        have hWr : ∀ W, Upd [] [] w W → W.cell? ⟨bq, off + k * 4, none⟩ = some (.int .i64 l[k].what) ∧ W.cell? ⟨bq, off + k * 4 + 1, none⟩ = some (.int .i64 l[k].a) ∧ W.cell? ⟨bq, off + k * 4 + 2, none⟩ = some (.int .i64 l[k].b) ∧ W.cell? ⟨bq, off + k * 4 + 3, none⟩ = some (.int .i64 l[k].c) :=
          fun W U => ⟨U.oldcell hbl e0, U.oldcell hbl e1, U.oldcell hbl e2, U.oldcell hbl e3⟩
        have HWr := Lib.hid hWr
        generalize runA (coreNew C) (l.take k) = s at *
        generalize l[k] = x at *
        have HSN := Lib.hid hsn
        have HD := Lib.hid (fun W h (hi : In W h) (hc : CoreH pc L s h) => do_act pc L HZ.out x W h hi hc)
        obtain ⟨d0, d1, d2, d3⟩ := hWr wr (hW.2.forget (List.nil_sublist _))
        have HWW := Lib.hid hW
        clear e0 e1 e2 e3 hW HW hWr hsn
        simp only [actCells, ptr] at *
        by_cases hq : x.what < 6 ∧ 0 ≤ x.what
        · obtain ⟨hq1, hq2⟩ := hq
          go_wp2_with (go_at_call 18; refine Calls.mono (HD.out _ _ HWW.out.2.inn HWW.out.1) ?_; rintro e w2 ⟨⟨n, rfl⟩, h2, c2, u2⟩; have U2 : Hid (ActL pc L (actS s x) w w2) := Lib.hid ⟨h2, c2, HWW.out.2.trans u2⟩; clear c2 u2)
          go_roundw
          case rel => exact ⟨k + 1, by omega, by go_num, by rw [HSN.out]; exact U2⟩
          case measure => simp [intOf]; omega
        · have hsame := HZ.out.shown_act x hq 1048576
          have HSH := Lib.hid (fun W h (hi : In W h) (hc : CoreH pc L s h) => law_shown pc L HZ.out W h hi hc)
          have HSH2 := Lib.hid (fun W h (hi : In W h) (hc : CoreH pc L (actS s x) h) => law_shown pc L (HZ.out.act x) W h hi hc)
          rw [hsame] at HSH2
          clear hsame
          generalize s.shown 1048576 = out at *
          simp only [ptr] at HSH HSH2
          by_cases hq1 : x.what < 6
          · have hq2 : ¬ 0 ≤ x.what := fun h => hq ⟨hq1, h⟩
            clear hq
            go_wp2_with (first
              | (go_at_call 18; with_reducible refine Calls.mono (HD.out _ _ U2.out.inn.right C2.out) ?_; rintro e w3 ⟨⟨n, rfl⟩, h3, c3, u3⟩; have C3 := Lib.hid c3; have U3 := Lib.hid (U2.out.underA u3); clear c3 u3)
              | (go_at_call 19; with_reducible refine Calls.mono (HSH.out _ _ HWW.out.2.inn HWW.out.1) ?_; rintro e w2 ⟨v2, hx2, rfl, s2, h2, c2, u2⟩; have S2 := Lib.hid s2; have C2 := Lib.hid c2; have U2 := Lib.hid (HWW.out.2.trans u2); obtain ⟨y0, y1, y2, y3⟩ := HWr.out w2 (U2.out.forget (List.nil_sublist _)); clear s2 c2 u2)
              | (go_at_call 19; with_reducible refine Calls.mono (HSH2.out _ _ U3.out.inn.right C3.out) ?_; rintro e w4 ⟨v4, hx4, rfl, s4, h4, c4, u4⟩; have S4 := Lib.hid s4; have C4 := Lib.hid c4; have U4 := Lib.hid (U3.out.underA u4); clear s4 c4 u4)
              | (go_at_call 20; refine Calls.mono (law_ints out out v2 v4 hx2 hx4 S2.out S4.out _ h4 (by rw [List.append_assoc]; exact U4.out.inn)) ?_; rintro e w5 ⟨rfl, u5⟩; rw [decide_eq_true rfl]; have U5 : Hid (ActL pc L (actS s x) w w5) := Lib.hid ⟨h4, C4.out, (U4.out.trans (by rw [List.append_assoc] at u5; exact u5)).forget (by rw [← List.append_assoc]; exact List.sublist_append_right _ _)⟩; clear u5))
            go_roundw
            case rel => exact ⟨k + 1, by omega, by go_num, by rw [HSN.out]; exact U5⟩
            case measure => simp [intOf]; omega
          · clear hq
            go_wp2_with (first
              | (go_at_call 18; with_reducible refine Calls.mono (HD.out _ _ U2.out.inn.right C2.out) ?_; rintro e w3 ⟨⟨n, rfl⟩, h3, c3, u3⟩; have C3 := Lib.hid c3; have U3 := Lib.hid (U2.out.underA u3); clear c3 u3)
              | (go_at_call 19; with_reducible refine Calls.mono (HSH.out _ _ HWW.out.2.inn HWW.out.1) ?_; rintro e w2 ⟨v2, hx2, rfl, s2, h2, c2, u2⟩; have S2 := Lib.hid s2; have C2 := Lib.hid c2; have U2 := Lib.hid (HWW.out.2.trans u2); obtain ⟨y0, y1, y2, y3⟩ := HWr.out w2 (U2.out.forget (List.nil_sublist _)); clear s2 c2 u2)
              | (go_at_call 19; with_reducible refine Calls.mono (HSH2.out _ _ U3.out.inn.right C3.out) ?_; rintro e w4 ⟨v4, hx4, rfl, s4, h4, c4, u4⟩; have S4 := Lib.hid s4; have C4 := Lib.hid c4; have U4 := Lib.hid (U3.out.underA u4); clear s4 c4 u4)
              | (go_at_call 20; refine Calls.mono (law_ints out out v2 v4 hx2 hx4 S2.out S4.out _ h4 (by rw [List.append_assoc]; exact U4.out.inn)) ?_; rintro e w5 ⟨rfl, u5⟩; rw [decide_eq_true rfl]; have U5 : Hid (ActL pc L (actS s x) w w5) := Lib.hid ⟨h4, C4.out, (U4.out.trans (by rw [List.append_assoc] at u5; exact u5)).forget (by rw [← List.append_assoc]; exact List.sublist_append_right _ _)⟩; clear u5))
            go_roundw
            case rel => exact ⟨k + 1, by omega, by go_num, by rw [HSN.out]; exact U5⟩
            case measure => simp [intOf]; omega
      · have HU := Lib.hid hW.2
        clear HW hW
        go_wp2
        go_ret
        exact ⟨rfl, HU.out.forget (List.nil_sublist _)⟩
    · have HU := Lib.hid hW.2
      clear HW hW
      go_wp2
      go_ret
      exact ⟨rfl, HU.out.forget (List.nil_sublist _)⟩

end Go.Proofs.YtjjdjipohifgbaaGreat

/- MinorRuns of the statements' package answers true. Conditions: none. -/
namespace Go.Proofs.YtjjdjipohifgbaaGreat
open Go.RowKit

/-- two cores, one beside the other -/
def TwoL (pc : Nat) (L : CoreL) (qc : Nat) (M : CoreL) (s t : CoreS) (w wr : World) : Prop := ∃ h k, CoreH pc L s h ∧ CoreH qc M t k ∧ Upd [] (h ++ k) w wr
theorem Upd.overA {w0 w w' : World} {h0 h k h' : Hp} (a : Upd h0 (h ++ k) w0 w) (u : Upd h h' w w') : Upd h0 (h' ++ k) w0 w' := a.trans (u.beside a.inn)

theorem CoreS.Sane.runF {work : Int} : ∀ (k : Nat) {s s' : CoreS} {d d' : Int}, s.Sane → s.runF k d work = some (s', d') → s'.Sane
  | 0, _, _, _, _, _, h => by cases h
  | k + 1, s, s', d, d', Z, h => by
    unfold CoreS.runF at h
    split at h
    · split at h
      · exact CoreS.Sane.runF k Z.minStep h
      · cases h
        exact Z.minStep
    · cases h
      exact Z

theorem four_perm (x h y g : Hp) : ((x ++ h) ++ (y ++ g)).Perm (x ++ y ++ (h ++ g)) := by
  rw [List.append_assoc, List.append_assoc]
  refine List.Perm.append_left x ?_
  rw [← List.append_assoc, ← List.append_assoc]
  exact (List.perm_append_comm).append_right g

set_option maxRecDepth 100000 in
set_option maxHeartbeats 8000000 in
theorem minorRuns_any (a b c d : Int) (sv : Value) (l : List ActS) (work : Int) (ha : U8 a) (hb : U8 b) (hc : U8 c) (hd : U8 d) {w : World} (hs : IsActs w sv l) (hwk : I64 work) :
    Calls Tryz.prog 8 #[.int .u8 a, .int .u8 b, .int .u8 c, .int .u8 d, sv, .int .i64 work] w fun e w' => e = .returned (.bool true) ∧ Upd [] [] w w' := by
  have hok := cfgOf_ok ha hb hc hd
  have hcfg := fun w => law_config a b c d ha hb hc hd w
  obtain ⟨hfit, hlen, ao, cap, rfl, hsh⟩ := hs
  have HSc := Lib.hid hsh
  clear ha hb hc hd hsh hfit
  generalize cfgOf a b c d = C at *
  have HZ0 := Lib.hid (sane_new (Cfg.fits hok))
  have HOK := Lib.hid hok
  have HCF := Lib.hid hcfg
  clear hok hcfg
  simp only [cfgCells] at HCF
  go_enter Tryz.func8, Tryz.ntmps8
  go_upto_block 0 with (first
    | (go_at_call 11; refine Calls.mono (law_awake _) ?_; rintro e w2 ⟨rfl, x2⟩; have U2 := U1.out.under0 x2)
    | (go_at_call 9; refine Calls.mono (HCF.out _) ?_; rintro e v0 ⟨rfl, x0⟩)
    | (go_at_call 10; refine Calls.mono (core_new C HOK.out _) ?_; rintro e w1 ⟨qc, M, k0, rfl, c1, u1⟩; have U1 := Lib.hid (U0.out.moreL (x0.trans u1)); have E1 := Lib.hid c1; clear u1 c1 x0; simp only [ptr])
    | (go_at_call 10; refine Calls.mono (core_new C HOK.out _) ?_; rintro e w0 ⟨pc, L, h0, rfl, c0, u0⟩; have U0 := Lib.hid (x0.trans u0); have E0 := Lib.hid c0; clear u0 c0 x0; simp only [ptr]))
  have HS : Hid (TwoL pc L qc M (runA (coreNew C) (l.take 0)) (runA (coreNew C) (l.take 0)) w w2) := Lib.hid ⟨h0, k0, E0.out, E1.out, U2⟩
  clear U0 U1 U2 E0 E1 x2
  go_cut [17] (fun q wx => ∃ s : CoreS, Hid (s.Sane ∧ TwoL pc L qc M s s w wx))
  case first =>
    go_wp2_with fail
    go_loopw [17] (fun q wr => ∃ (k : Nat), k ≤ l.length ∧ q = .int .i64 k ∧ Hid (TwoL pc L qc M (runA (coreNew C) (l.take k)) (runA (coreNew C) (l.take k)) w wr)) (fun q _ => l.length - (intOf q).toNat)
    case atStart => exact ⟨0, by omega, rfl, HS⟩
    case round =>
      obtain ⟨k, hk, rfl, HW⟩ := hrel
      obtain ⟨h, g, c1, c2, hW⟩ := HW.out
      have HZ := Lib.hid (HZ0.out.runA (l.take k))
      by_cases hlt : k < l.length
      · by_cases h80 : k < 60
        · obtain ⟨bq, off, rfl, hbl, e0, e1, e2, e3⟩ := HSc.out k hlt
          have HSN := Lib.hid (runA_snoc (coreNew C) l k hlt)
          have hWr : ∀ W, Upd [] [] w W → W.cell? ⟨bq, off + k * 4, none⟩ = some (.int .i64 l[k].what) ∧ W.cell? ⟨bq, off + k * 4 + 1, none⟩ = some (.int .i64 l[k].a) ∧ W.cell? ⟨bq, off + k * 4 + 2, none⟩ = some (.int .i64 l[k].b) ∧ W.cell? ⟨bq, off + k * 4 + 3, none⟩ = some (.int .i64 l[k].c) :=
            fun W U => ⟨U.oldcell hbl e0, U.oldcell hbl e1, U.oldcell hbl e2, U.oldcell hbl e3⟩
          have HWr := Lib.hid hWr
          generalize runA (coreNew C) (l.take k) = s at *
          generalize l[k] = x at *
          have HD := Lib.hid (fun W h (hi : In W h) (hc : CoreH pc L s h) => do_act pc L HZ.out x W h hi hc)
          have HD2 := Lib.hid (fun W h (hi : In W h) (hc : CoreH qc M s h) => do_act qc M HZ.out x W h hi hc)
          obtain ⟨d0, d1, d2, d3⟩ := hWr _ (hW.forget (List.nil_sublist _))
          have C1 := Lib.hid c1
          have C2 := Lib.hid c2
          have UW := Lib.hid hW
          clear e0 e1 e2 e3 hW HW hWr c1 c2
          simp only [actCells, ptr] at *
          go_wp2_with (first
            | (go_at_call 18; have hU3 := U3; refine Calls.mono (HD2.out _ _ U3.out.inn.right C2.out) ?_; rintro e w4 ⟨⟨n, rfl⟩, h4, c4, u4⟩; have U4 : Hid (TwoL pc L qc M (actS s x) (actS s x) w w4) := Lib.hid ⟨h3, h4, C3.out, c4, U3.out.underA u4⟩; clear c4 u4)
            | (go_at_call 18; refine Calls.mono (HD.out _ _ UW.out.inn.left C1.out) ?_; rintro e w3 ⟨⟨n, rfl⟩, h3, c3, u3⟩; have U3 := Lib.hid (UW.out.overA u3); have C3 := Lib.hid c3; obtain ⟨y0, y1, y2, y3⟩ := HWr.out w3 (U3.out.forget (List.nil_sublist _)); clear c3 u3))
          go_roundw
          case rel => exact ⟨k + 1, by omega, by go_num, by rw [HSN.out]; exact U4⟩
          case measure => simp [intOf]; omega
        · have HX := Lib.hid (⟨h, g, c1, c2, hW⟩ : TwoL pc L qc M (runA (coreNew C) (l.take k)) (runA (coreNew C) (l.take k)) w _)
          clear c1 c2 hW HW
          go_wp2
          go_meet
          exact ⟨_, ⟨HZ.out, HX.out⟩⟩
      · have HX := Lib.hid (⟨h, g, c1, c2, hW⟩ : TwoL pc L qc M (runA (coreNew C) (l.take k)) (runA (coreNew C) (l.take k)) w _)
        clear c1 c2 hW HW
        go_wp2
        go_meet
        exact ⟨_, ⟨HZ.out, HX.out⟩⟩
  case rest =>
    obtain ⟨s, HX⟩ := hcut
    obtain ⟨Zs, h, g, c1, c2, hW⟩ := HX.out
    have HZ := Lib.hid Zs
    obtain ⟨s', d', hrun, hrok⟩ := HZ.out.run work
    have HZ2 := Lib.hid (HZ.out.runF 40000 hrun)
    have HRX := Lib.hid (fun W h (hi : In W h) (hc : CoreH pc L s h) => minor_run pc L s work W h hi hc 40000 s' d' hrun hrok)
    have HRK := Lib.hid hrok
    have HRR := Lib.hid hrun
    have C1 := Lib.hid c1
    have C2 := Lib.hid c2
    have UW := Lib.hid hW
    clear HX hW c1 c2 hrun hrok HS Zs HSc hlen
    simp only [ptr] at HRX
    go_upto_block 2 with (go_at_call 30; with_reducible refine Calls.mono (HRX.out _ _ UW.out.inn.left C1.out) ?_; rintro e w3 ⟨rfl, h3, c3, u3⟩; have C3 := Lib.hid c3; have U3 := Lib.hid (UW.out.overA u3); clear c3 u3)
    have HD0 : Hid (∃ j S g', S.runF j 0 work = some (s', d') ∧ S.RunOk j 0 work ∧ S.Sane ∧ CoreH qc M S g' ∧ Upd [] (h3 ++ g') w w3) := Lib.hid ⟨40000, s, g, HRR.out, HRK.out, HZ.out, C2.out, U3.out⟩
    clear HRX UW C2 U3 HRK HRR
    go_cut [19] (fun q wx => q = .int .i64 d' ∧ Hid (∃ g', CoreH qc M s' g' ∧ Upd [] (h3 ++ g') w wx))
    case first =>
      go_wp2_with fail
      go_loopw [19] (fun q wr => ∃ d : Int, 0 ≤ d ∧ d ≤ 1000000000000 ∧ q = .int .i64 d ∧ Hid (∃ j S g', S.runF j d work = some (s', d') ∧ S.RunOk j d work ∧ S.Sane ∧ CoreH qc M S g' ∧ Upd [] (h3 ++ g') w wr)) (fun q _ => (work - intOf q).toNat)
      case atStart => exact ⟨0, by omega, by omega, rfl, HD0⟩
      case round =>
        obtain ⟨d, hd0, hd1, rfl, HV⟩ := hrel
        obtain ⟨j, S, g', hr, hm, ZS, cS, uS⟩ := HV.out
        have vS := (cS.vars (x := h3) uS.inn).2
        cases j with
        | zero => cases hr
        | succ j =>
          by_cases hlt : d < work
          · simp only [CoreS.runF, if_pos hlt] at hr
            obtain ⟨m1, m2, m3⟩ := hm hlt
            cases hmv : S.moving
            · obtain ⟨r1, r2, r3⟩ := step_rest hmv
              rw [r1, r2, r3, if_neg (by decide), Int.add_zero] at hr
              simp only [Option.some.injEq, Prod.mk.injEq] at hr
              have R1 := Lib.hid hr.1
              have R2 := Lib.hid hr.2
              have CS := Lib.hid cS
              have US := Lib.hid uS
              rw [hmv] at vS
              clear hr m1 m2 m3 hm cS uS HV hmv r1 r2 r3
              go_wp2
              go_meet
              exact ⟨by rw [R2.out], ⟨g', by rw [← R1.out]; exact CS.out, US.out⟩⟩
            · rw [hmv] at vS
              have hst := sane_step_call qc M ZS _ g' uS.inn.right cS
              have hnn := minN_nonneg S
              have hnp := minN_pos S
              have HU := Lib.hid uS
              have HZS := Lib.hid ZS.minStep
              simp only [ptr] at hst
              cases hb : S.minB
              · rw [hb] at hst
                rw [hb, if_neg (by decide)] at hr
                simp only [Option.some.injEq, Prod.mk.injEq] at hr
                have R1 := Lib.hid hr.1
                have R2 := Lib.hid hr.2
                have hdd : d + S.minN ≤ 1000000000000 := m2
                clear hb m1 m2 m3 hnp cS uS HV hr hm hmv
                generalize S.minN = n at *
                go_wp2_with (go_at_call 16; refine Calls.mono hst ?_; rintro e w5 ⟨rfl, h5, c5, u5⟩; have C5 := Lib.hid c5; have U5 := Lib.hid (HU.out.underA u5); clear c5 u5 hst)
                go_meet
                exact ⟨by rw [R2.out], ⟨h5, by rw [← R1.out]; exact C5.out, U5.out⟩⟩
              · rw [hb] at hst
                rw [hb, if_pos rfl] at hr
                have hp := hnp hb
                have M3 := Lib.hid (m3 hb)
                have HR := Lib.hid hr
                have hdd : d + S.minN ≤ 1000000000000 := m2
                clear hb m1 m2 m3 hnp cS uS HV hr hm hmv
                generalize S.minN = n at *
                generalize S.minStep = T at *
                go_wp2_with (go_at_call 16; refine Calls.mono hst ?_; rintro e w5 ⟨rfl, h5, c5, u5⟩; have C5 := Lib.hid c5; have U5 := Lib.hid (HU.out.underA u5); clear c5 u5 hst)
                go_roundw
                case rel => exact ⟨d + n, by omega, by omega, rfl, Lib.hid ⟨j, T, h5, HR.out, M3.out, HZS.out, C5.out, U5.out⟩⟩
                case measure => simp [intOf]; omega
          · simp only [CoreS.runF, if_neg hlt, Option.some.injEq, Prod.mk.injEq] at hr
            have R1 := Lib.hid hr.1
            have R2 := Lib.hid hr.2
            have CS := Lib.hid cS
            have US := Lib.hid uS
            clear hr hm cS uS HV
            cases hmv : S.moving
            · rw [hmv] at vS
              clear hmv
              go_wp2
              go_meet
              exact ⟨by rw [R2.out], ⟨g', by rw [← R1.out]; exact CS.out, US.out⟩⟩
            · rw [hmv] at vS
              clear hmv
              go_wp2
              go_meet
              exact ⟨by rw [R2.out], ⟨g', by rw [← R1.out]; exact CS.out, US.out⟩⟩
    case rest =>
      obtain ⟨rfl, HX⟩ := hcut
      obtain ⟨g', c4, u4⟩ := HX.out
      have hsw : ∀ W h k, CoreH pc L s' h → CoreH qc M s' k → Upd [] (h ++ k) w W → W.cell? ⟨pc, 21, none⟩ = some (.bool s'.moving) ∧ W.cell? ⟨qc, 21, none⟩ = some (.bool s'.moving) := by
        intro W h k ch ck U
        exact ⟨(ch.vars (x := []) U.inn.left).2, (ck.vars (x := h) U.inn).2⟩
      have HSW := Lib.hid hsw
      have HSX := Lib.hid (fun W h (hi : In W h) (hc : CoreH pc L s' h) => law_shown pc L HZ2.out W h hi hc)
      have HSY := Lib.hid (fun W h (hi : In W h) (hc : CoreH qc M s' h) => law_shown qc M HZ2.out W h hi hc)
      generalize s'.shown 1048576 = out at *
      have UZ := u4.drew'
      have tZ := hsw _ _ _ C3.out c4 UZ
      have HUZ := Lib.hid UZ
      have C4 := Lib.hid c4
      clear hsw UZ c4 u4 HX HZ HZ0 HOK HCF HD0
      simp only [ptr] at HSX HSY
      go_wp2
      go_region_held3 (fun w' => w'.cell? ⟨pc, 21, none⟩ = some (.bool s'.moving) ∧ w'.cell? ⟨qc, 21, none⟩ = some (.bool s'.moving))
        (first | (with_reducible exact tZ) | (with_reducible exact t5) | (with_reducible exact t6) | (with_reducible exact t7))
        (first
          | (go_at_call 19; have hU5 := U5; with_reducible refine Calls.mono (HSY.out _ _ U5.inn.right C4.out) ?_; rintro e w6 ⟨v6, hx6, rfl, s6, h6, c6, u6⟩; have U6 := (U5.underA u6).perm (List.Perm.refl _) (four_perm hx5 h5 hx6 h6); have t6 := HSW.out _ _ _ c5 c6 (U6.forget (List.sublist_append_right _ _)))
          | (go_at_call 19; with_reducible refine Calls.mono (HSX.out _ _ HUZ.out.inn.left C3.out) ?_; rintro e w5 ⟨v5, hx5, rfl, s5, h5, c5, u5⟩; have U5 := HUZ.out.overA u5; have t5 := HSW.out _ _ _ c5 C4.out (U5.forget (by rw [List.append_assoc]; exact List.sublist_append_right _ _)))
          | (go_at_call 20; refine Calls.mono (law_ints out out v5 v6 hx5 hx6 s5 s6 _ (h5 ++ h6) U6.inn) ?_; rintro e w7 ⟨rfl, u7⟩; rw [decide_eq_true rfl]; have U7 := U6.trans u7; have t7 := HSW.out _ _ _ c5 c6 (U7.forget (List.sublist_append_right _ _))))
      go_wp2
      go_ret
      exact ⟨rfl, U7.forget (List.nil_sublist _)⟩

end Go.Proofs.YtjjdjipohifgbaaGreat

/- MinorRuns of the statements' package answers true, whatever the input: the given statement. Conditions: none. -/
namespace Go.Proofs.YtjjdjipohifgbaaGreat
open Go.ChangeShapes Go.WideShapes Go.ChangeAt Go.RowKit

set_option maxRecDepth 100000 in
theorem minorRuns_lifted (os : Os) (started : os.Started) (H : Type) (enc : TypeId × Value → H) :
    ReturnsInHanded {} Tryz.checked os 8 .any (Rows.minorRunsSpec.pre6 enc Tryz.prog Tryz.f8 Rows.minorRunsRow.domain false) (Rows.minorRunsSpec.post enc Tryz.prog Tryz.f8 false true false false) := by
  refine returnsInHanded_of_change (C := Tryz.checked) Tryz.own started (by kernel_rfl) Tryz.func8
    (ChangeSpec.witness6 (enc := enc) (C := Tryz.checked) false ⟨#[], #[.int .u8 0, .int .u8 0, .int .u8 0, .int .u8 0, .slice none 0 0, .int .i64 0], []⟩ 8 (by kernel_rfl) (by kernel_rfl) (by kernel_rfl) (by kernel_rfl)) ?_
  intro W base args ds gs before hval0 hW hcnd _
  have hval : ∀ (j : Nat) t v, Tryz.f8.params[j]? = some t → args[j]? = some v → Value.okWide Tryz.prog W .any base t v := hval0
  have hW' := hW
  obtain ⟨p, q, hA0, hV, rfl, hfz, hnd⟩ := hW
  have hA : DataW.TrodAll enc Tryz.prog W 0 (fun _ => true) true Tryz.f8.params.toList args.toList ds p := hA0
  rw [Tryz.params8] at hA hval
  obtain ⟨v0, vs0, d0, ds0, p0, q0, hargs, rfl, rfl, h0, r0⟩ := trodAll_cons hA
  obtain ⟨v1, vs1, d1, ds1, p1, q1, rfl, rfl, rfl, h1, r1⟩ := trodAll_cons r0
  obtain ⟨v2, vs2, d2, ds2, p2, q2, rfl, rfl, rfl, h2, r2⟩ := trodAll_cons r1
  obtain ⟨v3, vs3, d3, ds3, p3, q3, rfl, rfl, rfl, h3, r3⟩ := trodAll_cons r2
  obtain ⟨v4, vs4, d4, ds4, p4, q4, rfl, rfl, rfl, h4, r4⟩ := trodAll_cons r3
  obtain ⟨v5, vs5, d5, ds5, p5, q5, rfl, rfl, rfl, h5, r5⟩ := trodAll_cons r4
  obtain ⟨rfl, rfl, rfl⟩ := trodAll_nil r5
  obtain rfl : args = #[v0, v1, v2, v3, v4, v5] := by cases args; simp_all
  obtain ⟨rfl, rfl⟩ := trodVars_none hV
  obtain ⟨a0, rfl, rfl, rfl, w0⟩ := open_int Tryz.underlying5 (hval 0 5 v0 rfl rfl) h0
  obtain ⟨a1, rfl, rfl, rfl, w1⟩ := open_int Tryz.underlying5 (hval 1 5 v1 rfl rfl) h1
  obtain ⟨a2, rfl, rfl, rfl, w2⟩ := open_int Tryz.underlying5 (hval 2 5 v2 rfl rfl) h2
  obtain ⟨a3, rfl, rfl, rfl, w3⟩ := open_int Tryz.underlying5 (hval 3 5 v3 rfl rfl) h3
  have k4 := h4
  have lt4 : ∀ x ∈ p4, x.block < W.heap.size := by obtain ⟨m, hm⟩ := k4; exact DataW.trod_lt m _ _ _ hm
  obtain ⟨a4, w4⟩ := open_acts (hval 4 51 v4 rfl rfl) h4
  obtain ⟨a5, rfl, rfl, rfl, w5⟩ := open_int Tryz.underlying3 (hval 5 3 v5 rfl rfl) h5
  clear hA0 hval0
  refine (minorRuns_any a0 a1 a2 a3 v4 a4 a5 (U8_wf w0) (U8_wf w1) (U8_wf w2) (U8_wf w3) w4 (I64_wf w5)).mono fun e W' ⟨he, hu⟩ => ?_
  subst he
  exact ⟨_, rfl, post_below2 (pv := []) hW' (fun _ _ _ => trodAll_cons_mk (shut_bool Tryz.underlying4 _) trodAll_mk0) (trodAll_cons_mk (shut_int Tryz.underlying5 w0) (trodAll_cons_mk (shut_int Tryz.underlying5 w1) (trodAll_cons_mk (shut_int Tryz.underlying5 w2) (trodAll_cons_mk (shut_int Tryz.underlying5 w3) (trodAll_cons_mk (Below.trod Tryz.laidOut (by kernel_rfl) (of_decide_eq_true (by kernel_rfl)) k4 hu.below lt4) (trodAll_cons_mk (shut_int Tryz.underlying3 w5) trodAll_mk0)))))) (fun _ _ => rfl) rfl
    (hu.below.frame _)⟩

theorem minorRuns_holds : Rows.MinorRunsSaid :=
  OpenClaim.holds_of_wide 8 Tryz.f8 rfl rfl rfl rfl rfl rfl rfl ⟨rfl, rfl, rfl, rfl, rfl⟩ rfl rfl rfl rfl rfl (by kernel_rfl) Tryz.func8 (by kernel_rfl)
    (of_decide_eq_true (by kernel_rfl)) (by unfold Func.isWrapper; first | (rw [if_pos (by decide +kernel)]; kernel_rfl) | (rw [if_neg (by decide +kernel)]; exact ⟨rfl, rfl⟩))
    (fun os started H enc _ => minorRuns_lifted os started H enc)

#print axioms minorRuns_holds
end Go.Proofs.YtjjdjipohifgbaaGreat
