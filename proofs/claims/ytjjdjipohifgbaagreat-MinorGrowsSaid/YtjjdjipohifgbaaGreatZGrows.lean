/- MinorGrows of the statements' package answers true, whatever the input: the given statement. Conditions: none. -/
import Derived.Test.YtjjdjipohifgbaaGreatRows
import Derived.Test.YtjjdjipohifgbaaGreatZF
import Derived.Test.YtjjdjipohifgbaaGreatZE
import Derived.Test.YtjjdjipohifgbaaGreatZG
import Derived.Deep.RegionHeld3
import Derived.Deep.DeepCutAuto
import Derived.Deep.CutBlock
set_option linter.unusedVariables false
set_option linter.unusedSimpArgs false
/- A cycle ends; how much is young then, and what is counted. No program in sight. Condition: the core is as it should be. -/
namespace Go.Proofs.YtjjdjipohifgbaaGreat
open Go.RowKit

theorem minSteps_front (s : CoreS) : ∀ k, s.minSteps (k + 1) = s.minStep.minSteps k
  | 0 => rfl
  | k + 1 => by
    show (s.minSteps (k + 1)).minStep = (s.minStep.minSteps k).minStep
    rw [minSteps_front s k]

/-- without a cycle a bit is nothing -/
theorem step_rest {s : CoreS} (h : s.moving = false) : s.minStep = s ∧ s.minN = 0 ∧ s.minB = false := by
  unfold CoreS.minStep CoreS.minN CoreS.minB CoreS.which
  rw [if_pos h]
  exact ⟨rfl, rfl, rfl⟩
/-- in a cycle a bit is something -/
theorem step_some {s : CoreS} (h : s.moving = true) : 1 ≤ s.minN := by
  unfold CoreS.minN CoreS.which
  rw [if_neg (by rw [h]; decide)]
  have h1 := rowN_bounds s
  have h2 := scanN_bounds s
  split
  · simp only [CoreS.stepNOf]; omega
  · split
    · rename_i x l _
      have := notedN_bounds s.popBuf x
      simp only [CoreS.stepNOf]; omega
    · split
      · rename_i n _
        have := (partN_bounds (s.cardStarts n) (s.popCard n)).1
        simp only [CoreS.stepNOf]; omega
      · split
        · simp only [CoreS.stepNOf]; omega
        · simp only [CoreS.stepNOf]; omega

theorem move_minors (s : CoreS) (a : Int) : (s.move a).done.minors = s.done.minors := by
  unfold CoreS.move
  split
  · rfl
  · split
    · unfold CoreS.moved
      simp only
      split <;> rfl
    · rfl
theorem thrOne_minors (s : CoreS) (a : Int) (k : Nat) : (s.thrOne a k).done.minors = s.done.minors := by
  unfold CoreS.thrOne
  split
  · exact move_minors ..
  · exact move_minors ..
theorem thr_minors (s : CoreS) (a : Int) : ∀ k, (s.thr a k).done.minors = s.done.minors
  | 0 => rfl
  | k + 1 => (thrOne_minors (s.thr a k) a k).trans (thr_minors s a k)
theorem note_minors (s : CoreS) (a : Int) : (s.note a).done.minors = s.done.minors := by rw [(note_others s a).2.2.2.2.2.2.2.2.2.2.2.2]
theorem through_minors (s : CoreS) (a : Int) : (s.through a).done.minors = s.done.minors := by
  unfold CoreS.through
  split
  · rw [note_minors]; exact thr_minors ..
  · exact thr_minors ..
theorem noted_minors (s : CoreS) (a : Int) : (s.notedS a).done.minors = s.done.minors := by
  unfold CoreS.notedS
  split
  · exact through_minors ..
  · rfl
theorem part_minors : ∀ (s : CoreS) (l : List Int), (s.partS l).done.minors = s.done.minors
  | s, [] => rfl
  | s, a :: l => (part_minors (s.notedS a) l).trans (noted_minors s a)
theorem row_minors (s : CoreS) : s.rowS.done.minors = s.done.minors := by
  unfold CoreS.rowS
  split
  · exact through_minors ..
  · rfl

/-- a bit, or the end -/
theorem step_way {s : CoreS} {cur oth : List Int} (I : Inv s cur oth NoI NoI) (hmv : s.moving = true) :
    (s.minB = true ∧ s.minStep.meas 1 ≤ s.meas 1 ∧ s.minStep.done.minors = s.done.minors) ∨ (s.minB = false ∧ s.minStep = s.finishS ∧ s.row = []) := by
  have key : (stepBOf s.which = true ∧ (s.stepOf s.which).meas 1 ≤ s.meas 1 ∧ (s.stepOf s.which).done.minors = s.done.minors) ∨ (stepBOf s.which = false ∧ s.stepOf s.which = s.finishS ∧ s.row = []) := by
    unfold CoreS.which
    rw [if_neg (by rw [hmv]; decide)]
    by_cases hr : 0 < s.row.length
    · rw [if_pos hr]
      left
      obtain ⟨h1, _⟩ := row_meas I hmv (c := 1) (.inl rfl) hr
      refine ⟨rfl, ?_, row_minors s⟩
      show s.rowS.meas 1 ≤ s.meas 1
      omega
    · rw [if_neg hr]
      cases hx : s.r.tb.list with
      | cons x l =>
        left
        obtain ⟨h1, _⟩ := noted_meas (popBuf_inv I hmv hx) hmv (c := 1) (.inl rfl) x
        exact ⟨rfl, h1, noted_minors _ _⟩
      | nil =>
        cases hf : s.r.tc.first with
        | some n =>
          left
          obtain ⟨IP, ho⟩ := popCard_inv I hmv hx n
          obtain ⟨h1, _⟩ := part_meas (c := 1) (.inl rfl) (s.cardStarts n) IP hmv ho
          exact ⟨rfl, h1, part_minors _ _⟩
        | none =>
          by_cases hs' : s.scanOk = true
          · simp only [hs', if_true]
            left
            obtain ⟨hsc, c1, L, I2, hq⟩ := scan_inv I hmv hs'
            have h1 := look_meas I hmv (c := 1) (.inl rfl) (E := NoI) (.inl hsc)
            exact ⟨rfl, h1, through_minors s _⟩
          · simp only [hs']
            right
            exact ⟨rfl, rfl, List.length_eq_zero_iff.1 (by omega)⟩
  exact key

/-- a cycle ends -/
theorem ends_at : ∀ (f : Nat) {s : CoreS} {cur oth : List Int} (_ : Inv s cur oth NoI NoI), (s.moving = true → s.todo < f) → ∃ n : Nat, n ≤ f ∧ (∀ k, k < n → (s.minSteps k).moving = true) ∧ (s.minSteps n).moving = false ∧
    (s.moving = true → (s.minSteps n).y.cu ≤ s.meas 1 ∧ (s.minSteps n).done.minors = wrap64 (s.done.minors + 1)) ∧ (s.moving = false → n = 0)
  | f, s, cur, oth, I, h => by
    cases hmv : s.moving with
    | false => exact ⟨0, by omega, fun k hk => by omega, hmv, fun h => (by cases h), fun _ => rfl⟩
    | true =>
      have hf := h hmv
      have hb := (todo_bounds I hmv).1
      cases f with
      | zero => omega
      | succ f =>
        rcases step_way I hmv with ⟨hB, h1, h2⟩ | ⟨hB, h1, h2⟩
        · obtain ⟨_, c1, o1, J, K, hm⟩ := step_inv I
          have ht := step_todo I hB
          have hmv1 := (hm hB).2.2
          obtain ⟨n, n1, n2, n3, n4, n5⟩ := ends_at f J (fun _ => by omega)
          obtain ⟨n6, n7⟩ := n4 hmv1
          refine ⟨n + 1, by omega, ?_, by rw [minSteps_front]; exact n3, fun _ => ⟨by rw [minSteps_front]; omega, by rw [minSteps_front, n7, h2]⟩, fun h => by cases h⟩
          intro k hk
          cases k with
          | zero => exact hmv
          | succ k => rw [minSteps_front]; exact n2 k (by omega)
        · have e : s.minSteps 1 = s.finishS := h1
          refine ⟨1, by omega, ?_, by rw [e]; rfl, fun _ => ?_, fun h => by cases h⟩
          · intro k hk
            obtain rfl : k = 0 := by omega
            exact hmv
          · rw [e]
            obtain ⟨n1, n2, n3, n4, n5, n6, n7, n8, n9, n10⟩ := I.lay.nums
            have hgl := goneW_le I.lay.ro
            have hcp := I.hds.cp
            refine ⟨?_, rfl⟩
            have hcu : s.finishS.y.cu = s.y.cu := by
              show s.y.drop.cu = s.y.cu
              obtain ⟨a1, a2, a3, a4, a5, a6⟩ := s.y
              cases a6 <;> rfl
            rw [hcu]
            unfold CoreS.meas
            omega

/-- of any core that is as it should be -/
theorem CoreS.Sane.ends {s : CoreS} (Z : s.Sane) (hN : 7 * s.C.nursery + 2 * (s.C.buffer + s.C.pages * s.C.page + 1) ≤ 7000) : ∃ n : Nat, n < 3999 ∧ (∀ k, k < n → (s.minSteps k).moving = true) ∧ (s.minSteps n).moving = false ∧
    (s.moving = true → (s.minSteps n).y.cu ≤ s.y.cu + s.y.ou ∧ (s.minSteps n).done.minors = wrap64 (s.done.minors + 1)) ∧ (s.moving = false → n = 0) := by
  obtain ⟨cur, oth, I, _⟩ := Z.inv
  obtain ⟨n1, n2, n3, n4, n5, n6, n7, n8, n9, n10⟩ := I.lay.nums
  obtain ⟨n, m1, m2, m3, m4, m5⟩ := ends_at 3998 I (fun hmv => by
    have h1 := (todo_bounds I hmv).2
    have h2 := I.rem.tc.2.2.2
    have h3 := many_leW (words := s.C.pages * s.C.page) (card := s.C.card) (by omega) I.lay.cf.c1
    have h4 := I.rem.bm.2.2.2
    omega)
  refine ⟨n, by omega, m2, m3, fun hmv => ?_, m5⟩
  obtain ⟨k1, k2⟩ := m4 hmv
  refine ⟨?_, k2⟩
  have hgl := goneW_le I.lay.ro
  have hcp := I.hds.cp
  have hrl := I.hds.rl
  unfold CoreS.meas at k1
  omega

end Go.Proofs.YtjjdjipohifgbaaGreat

/- No more is used than there is. No program in sight. Condition: pages as the calls make them. -/
namespace Go.Proofs.YtjjdjipohifgbaaGreat
open Go.RowKit

theorem sumI_same {f : Int → Int} {z : Int} : ∀ {l : List Int}, (∀ a ∈ l, f a = z) → sumI (l.map f) = (l.length : Int) * z
  | [], _ => by simp [sumI]
  | a :: l, h => by
    have ih := sumI_same (fun b hb => h b (List.mem_cons_of_mem _ hb))
    simp only [List.map_cons, sumI, List.length_cons]
    rw [h a (List.mem_cons_self ..), ih]
    have : (((l.length + 1 : Nat) : Int)) * z = (l.length : Int) * z + z := by
      rw [Int.natCast_add, Int.add_mul]
      simp
    rw [this]
    omega

theorem usedL_end {s : MatS} (v : s.V) : ∀ k : Nat, k ≤ s.pages.length → ∃ e : Int, s.base + s.usedL k ≤ e ∧ s.base ≤ e ∧ 0 ≤ s.usedL k ∧ (∀ j : Nat, k ≤ j → s.begin j < e → ∃ g', s.pages[j]? = some g' ∧ g'.kind = 3) ∧ e ≤ s.begin s.pages.length
  | 0, _ => by
    have hw := v.w16
    have hp : 0 ≤ (s.pages.length : Int) * s.words := Int.mul_nonneg (by omega) (by omega)
    refine ⟨s.base, by simp [MatS.usedL], Int.le_refl _, by simp [MatS.usedL], fun j _ h => ?_, ?_⟩
    · have : 0 ≤ (j : Int) * s.words := Int.mul_nonneg (by omega) (by omega)
      unfold MatS.begin at h
      omega
    · unfold MatS.begin
      omega
  | k + 1, hk => by
    obtain ⟨e, h1, h2, h0, h3, h4⟩ := usedL_end v k (by omega)
    have hw := v.w16
    obtain ⟨g, hg⟩ : ∃ g, s.pages[k]? = some g := ⟨_, List.getElem?_eq_getElem (by omega)⟩
    have hu : s.usedL (k + 1) = s.usedL k + sumI ((s.startsOf k g).map s.sizeOr) := by
      simp [MatS.usedL, MatS.pageUsed, hg]
    have hb : s.begin (k + 1) = s.begin k + s.words := by
      unfold MatS.begin
      have : (((k + 1 : Nat) : Int)) * s.words = (k : Int) * s.words + s.words := by
        rw [Int.natCast_add, Int.add_mul]
        simp
      omega
    have hmono : ∀ i j : Nat, i ≤ j → s.begin i ≤ s.begin j := by
      intro i j hij
      unfold MatS.begin
      have := Int.mul_le_mul_of_nonneg_right (show (i : Int) ≤ j by omega) (show 0 ≤ s.words by omega)
      omega
    have hsz : ∀ a ∈ s.startsOf k g, s.sizeOr a = if g.kind = 2 then pagesN s.words g.size * s.words else g.size := by
      intro a ha
      unfold MatS.sizeOr
      rcases (startsOf_iff v hg).1 ha with ⟨h, he⟩ | ⟨h, n, hn, he⟩
      · rw [(sizeAt_iff v).2 ⟨k, g, hg, .inl ⟨h, he, rfl⟩⟩, if_pos h]
        rfl
      · rw [(sizeAt_iff v).2 ⟨k, g, hg, .inr ⟨h, rfl, n, hn, he⟩⟩, if_neg (by omega)]
        rfl
    rw [hu, sumI_same hsz]
    by_cases k2 : g.kind = 2
    · obtain ⟨z1, z2, z3, z4⟩ := v.big k g hg k2
      obtain ⟨p1, p2, _⟩ := pagesN_bounds (page := s.words) z1 z2 hw
      have hl : s.startsOf k g = [s.begin k] := by unfold MatS.startsOf; rw [if_pos k2]
      have hek : e ≤ s.begin k := by
        by_cases h : s.begin k < e
        · obtain ⟨g', hg', hk'⟩ := h3 k (Nat.le_refl _) h
          rw [hg] at hg'
          cases hg'
          omega
        · omega
      have hpos : 0 ≤ pagesN s.words g.size * s.words := Int.mul_nonneg (by omega) (by omega)
      rw [hl, if_pos k2]
      simp only [List.length_cons, List.length_nil]
      have e1 : (((0 + 1 : Nat) : Int)) * (pagesN s.words g.size * s.words) = pagesN s.words g.size * s.words := by simp
      rw [e1]
      refine ⟨s.begin k + pagesN s.words g.size * s.words, by omega, by omega, by omega, ?_, ?_⟩
      · intro j hj hlt
        have hjk : (j : Int) < k + pagesN s.words g.size := by
          by_cases hh : (j : Int) < k + pagesN s.words g.size
          · exact hh
          · exfalso
            have := Int.mul_le_mul_of_nonneg_right (show (k : Int) + pagesN s.words g.size ≤ j by omega) (show 0 ≤ s.words by omega)
            rw [Int.add_mul] at this
            unfold MatS.begin at hlt
            omega
        obtain ⟨g', hg', hk'⟩ := z4 (j - k) (by omega) (by omega)
        rw [show k + (j - k) = j by omega] at hg'
        exact ⟨g', hg', hk'⟩
      · have := Int.mul_le_mul_of_nonneg_right z3 (show 0 ≤ s.words by omega)
        rw [Int.add_mul] at this
        unfold MatS.begin
        omega
    · rw [if_neg k2]
      by_cases k1 : g.kind = 1
      · obtain ⟨z1, z2, z3, z4⟩ := v.blk k g hg k1
        have hek : e ≤ s.begin k := by
          by_cases h : s.begin k < e
          · obtain ⟨g', hg', hk'⟩ := h3 k (Nat.le_refl _) h
            rw [hg] at hg'
            cases hg'
            omega
          · omega
        have hl : ((s.startsOf k g).length : Int) ≤ g.used.length := by
          unfold MatS.startsOf
          rw [if_neg k2]
          have := startsF_len (s.begin k) g.size g.used 0
          omega
        have hm1 := Int.mul_le_mul_of_nonneg_right hl (show 0 ≤ g.size by omega)
        have hm2 : (g.used.length : Int) * g.size ≤ s.words := by
          rw [z4]
          exact Int.ediv_mul_le _ (by omega)
        have hm3 : 0 ≤ ((s.startsOf k g).length : Int) * g.size := Int.mul_nonneg (by omega) (by omega)
        refine ⟨s.begin (k + 1), by omega, by omega, by omega, ?_, hmono _ _ hk⟩
        intro j hj hlt
        have := hmono (k + 1) j hj
        omega
      · have hl : s.startsOf k g = [] := by
          unfold MatS.startsOf
          rw [if_neg k2, v.oth k g hg k1]
          rfl
        rw [hl]
        refine ⟨e, by simp; omega, h2, by simp; omega, fun j hj => h3 j (by omega), h4⟩

theorem used_le {s : MatS} (v : s.V) : 0 ≤ s.used ∧ s.used ≤ (s.pages.length : Int) * s.words := by
  obtain ⟨e, h1, h2, h0, h3, h4⟩ := usedL_end v s.pages.length (Nat.le_refl _)
  unfold MatS.used
  unfold MatS.begin at h4
  omega

end Go.Proofs.YtjjdjipohifgbaaGreat

/- What acts leave: the configuration, and how many cycles ended; how it is when a cycle has ended. No program in sight. Condition: the core is as it should be. -/
namespace Go.Proofs.YtjjdjipohifgbaaGreat
open Go.RowKit

theorem move_C (s : CoreS) (a : Int) : (s.move a).C = s.C := by
  unfold CoreS.move
  split
  · rfl
  · split
    · exact (moved_other s a).1
    · rfl
theorem mark_keep (s : CoreS) (a : Int) : (s.mark a).C = s.C ∧ (s.mark a).done = s.done ∧ (s.mark a).phase = s.phase := by
  unfold CoreS.mark
  split <;> exact ⟨rfl, rfl, rfl⟩
theorem handles_minors (s : CoreS) (l : List Int) : ∀ k, (s.handles l k).done.minors = s.done.minors ∧ (s.handles l k).C = s.C
  | 0 => ⟨rfl, rfl⟩
  | k + 1 => by
    obtain ⟨h1, h2⟩ := handles_minors s l k
    exact ⟨(move_minors (s.handles l k) _).trans h1, (move_C (s.handles l k) _).trans h2⟩
theorem start_keep (s : CoreS) : s.startS.done.minors = s.done.minors ∧ s.startS.C = s.C := by
  unfold CoreS.startS
  split
  · exact handles_minors s.begun s.t s.t.length
  · exact ⟨rfl, rfl⟩
theorem CoreS.Sane.step_keep {s : CoreS} (Z : s.Sane) : s.minStep.C = s.C ∧ (s.minStep.done.minors = s.done.minors ∨ s.minStep.done.minors = wrap64 (s.done.minors + 1)) := by
  obtain ⟨cur, oth, I, _⟩ := Z.inv
  obtain ⟨_, _, _, _, K, _⟩ := step_inv I
  refine ⟨K.C, ?_⟩
  cases hmv : s.moving with
  | false => rw [(step_rest hmv).1]; exact .inl rfl
  | true =>
    rcases step_way I hmv with ⟨_, _, h⟩ | ⟨_, h, _⟩
    · exact .inl h
    · rw [h]; exact .inr rfl
theorem CoreS.Sane.steps_keep {s : CoreS} (Z : s.Sane) {B : Int} (h0 : 0 ≤ s.done.minors) (h1 : s.done.minors ≤ B) : ∀ k : Nat, B + k ≤ 1000000 → (s.minSteps k).C = s.C ∧ 0 ≤ (s.minSteps k).done.minors ∧ (s.minSteps k).done.minors ≤ B + k
  | 0, _ => ⟨rfl, h0, by show s.done.minors ≤ B + ((0 : Nat) : Int); omega⟩
  | k + 1, hk => by
    obtain ⟨a1, a2, a3⟩ := Z.steps_keep h0 h1 k (by omega)
    obtain ⟨b1, b2⟩ := (Z.minSteps k).step_keep
    refine ⟨b1.trans a1, ?_⟩
    show 0 ≤ (s.minSteps k).minStep.done.minors ∧ (s.minSteps k).minStep.done.minors ≤ B + (k + 1 : Nat)
    rcases b2 with b2 | b2
    · rw [b2]; omega
    · rw [b2, wrap_of ⟨by omega, by omega⟩]; omega
theorem CoreS.Sane.act_keep {s : CoreS} (Z : s.Sane) (x : ActS) {B : Int} (h0 : 0 ≤ s.done.minors) (h1 : s.done.minors ≤ B) (hB : B + 20 ≤ 1000000) (hB0 : 0 ≤ B) : (actS s x).C = s.C ∧ 0 ≤ (actS s x).done.minors ∧ (actS s x).done.minors ≤ B + 20 := by
  have key : ∀ s' : CoreS, s'.C = s.C → s'.done.minors = s.done.minors → s'.C = s.C ∧ 0 ≤ s'.done.minors ∧ s'.done.minors ≤ B + 20 := fun s' e1 e2 => ⟨e1, by rw [e2]; exact h0, by rw [e2]; omega⟩
  unfold actS
  split
  · apply key
    · unfold CoreS.make; split <;> rfl
    · unfold CoreS.make; split <;> rfl
  split
  · apply key
    · unfold CoreS.gotM
      split
      · exact ((mark_keep _ _).1).trans (move_C ..)
      · rfl
    · unfold CoreS.gotM
      split
      · show ((s.move _).mark _).done.minors = _
        rw [(mark_keep _ _).2.1]
        exact move_minors ..
      · rfl
  split
  · apply key
    · unfold CoreS.set CoreS.setTo
      split
      · split
        · exact (note_others _ _).1
        · rfl
      · rfl
    · unfold CoreS.set CoreS.setTo
      split
      · split
        · exact note_minors _ _
        · rfl
      · rfl
  split
  · exact key _ rfl rfl
  split
  · exact key _ rfl rfl
  split
  · exact key _ rfl rfl
  split
  · exact key _ (start_keep s).2 (start_keep s).1
  · obtain ⟨a1, a2, a3⟩ := Z.steps_keep h0 h1 (actN x.a) (by unfold actN; omega)
    have : actN x.a ≤ 20 := by unfold actN; omega
    exact ⟨a1, a2, by omega⟩
theorem runA_keep {s : CoreS} (Z : s.Sane) (h0 : s.done.minors = 0) (l : List ActS) : ∀ k : Nat, k ≤ l.length → k ≤ 100 → (runA s (l.take k)).C = s.C ∧ 0 ≤ (runA s (l.take k)).done.minors ∧ (runA s (l.take k)).done.minors ≤ 20 * k
  | 0, _, _ => ⟨rfl, by show 0 ≤ s.done.minors; omega, by show s.done.minors ≤ _; omega⟩
  | k + 1, h1, h2 => by
    obtain ⟨a1, a2, a3⟩ := runA_keep Z h0 l k (by omega) (by omega)
    obtain ⟨b1, b2, b3⟩ := (Z.runA (l.take k)).act_keep l[k] a2 a3 (by omega) (by omega)
    rw [runA_snoc s l k (by omega)]
    exact ⟨b1.trans a1, b2, by omega⟩

/-- how it is when a cycle has ended -/
structure Ended (s e : CoreS) : Prop where
  mv : e.moving = false
  ou : e.y.ou = 0
  cp : e.copied = 0
  young : e.statsS.young ≤ s.statsS.young
  all : wrap64 (e.statsS.young + e.statsS.old) ≤ wrap64 (wrap64 (s.statsS.young + s.statsS.old) + wrap64 (s.C.pages * s.C.page))
  minors : decide (e.statsS.minors = wrap64 (s.statsS.minors + 1)) = s.moving
  more : s.statsS.minors ≤ e.statsS.minors
theorem CoreS.Sane.ended {s : CoreS} (Z : s.Sane) (h0 : 0 ≤ s.done.minors) (h1 : s.done.minors ≤ 2000) {n : Nat} (hmv : (s.minSteps n).moving = false)
    (hy : s.moving = true → (s.minSteps n).y.cu ≤ s.y.cu + s.y.ou ∧ (s.minSteps n).done.minors = wrap64 (s.done.minors + 1)) (hn : s.moving = false → n = 0) (hC : (s.minSteps n).C = s.C) : Ended s (s.minSteps n) := by
  obtain ⟨cur, oth, I, _⟩ := Z.inv
  obtain ⟨cur', oth', J, _⟩ := (Z.minSteps n).inv
  obtain ⟨r1, r2, r3, r4, r5⟩ := rest_facts J hmv
  obtain ⟨n1, n2, n3, n4, n5, n6, n7, n8, n9, n10⟩ := I.lay.nums
  obtain ⟨m1, m2, m3, m4, m5, m6, m7, m8, m9, m10⟩ := J.lay.nums
  have u1 := used_le I.lay.ov
  have u2 := used_le J.lay.ov
  have e1 : ((s.o.pages.length : Int)) * s.o.words = s.C.pages * s.C.page := by rw [I.lay.ol, I.lay.ow]
  have e2 : (((s.minSteps n).o.pages.length : Int)) * (s.minSteps n).o.words = s.C.pages * s.C.page := by rw [J.lay.ol, J.lay.ow, hC]
  rw [e1] at u1
  rw [e2] at u2
  rw [hC] at m1 m2 m3 m4 m5 m7
  have ey : (s.minSteps n).statsS.young = (s.minSteps n).y.cu := by
    show wrap64 ((s.minSteps n).y.cu + (s.minSteps n).y.ou) = _
    rw [r2, wrap_of ⟨by omega, by omega⟩]
    omega
  have ey0 : s.statsS.young = s.y.cu + s.y.ou := wrap_of ⟨by omega, by omega⟩
  have eo : (s.minSteps n).statsS.old = (s.minSteps n).o.used := rfl
  have eo0 : s.statsS.old = s.o.used := rfl
  have em : (s.minSteps n).statsS.minors = (s.minSteps n).done.minors := rfl
  have em0 : s.statsS.minors = s.done.minors := rfl
  have hyy : (s.minSteps n).y.cu ≤ s.y.cu + s.y.ou := by
    cases hm : s.moving with
    | true => exact (hy hm).1
    | false =>
      rw [hn hm]
      show s.y.cu ≤ _
      omega
  have hcp : (s.minSteps n).copied = 0 := by
    rw [J.hds.cp, r1]
    rfl
  refine ⟨hmv, r2, hcp, by rw [ey, ey0]; exact hyy, ?_, ?_, ?_⟩
  · rw [ey, ey0, eo, eo0, wrap_of (x := (s.minSteps n).y.cu + (s.minSteps n).o.used) ⟨by omega, by omega⟩, wrap_of (x := s.y.cu + s.y.ou + s.o.used) ⟨by omega, by omega⟩, wrap_of (x := s.C.pages * s.C.page) ⟨by omega, by omega⟩, wrap_of ⟨by omega, by omega⟩]
    omega
  · rw [em, em0]
    cases hm : s.moving with
    | true => rw [(hy hm).2]; simp
    | false =>
      rw [hn hm]
      show decide (s.done.minors = wrap64 (s.done.minors + 1)) = false
      rw [wrap_of ⟨by omega, by omega⟩]
      exact decide_eq_false (by omega)
  · rw [em, em0]
    cases hm : s.moving with
    | true => rw [(hy hm).2, wrap_of ⟨by omega, by omega⟩]; omega
    | false => rw [hn hm]; exact Int.le_refl _

/-- what config gives is small -/
theorem cfgOf_small {a b c d : Int} (ha : U8 a) (hb : U8 b) (hc : U8 c) (hd : U8 d) : 7 * (cfgOf a b c d).nursery + 2 * ((cfgOf a b c d).buffer + (cfgOf a b c d).pages * (cfgOf a b c d).page + 1) ≤ 7000 := by
  obtain ⟨a1, a2⟩ := ha
  obtain ⟨b1, b2⟩ := hb
  obtain ⟨c1, c2⟩ := hc
  have h1 : (b / 16 % 12 + 1) * (16 + 16 * (a / 64)) ≤ 12 * 64 := by
    refine Int.mul_le_mul (by omega) (by omega) (by omega) (by omega)
  simp only [cfgOf]
  omega

end Go.Proofs.YtjjdjipohifgbaaGreat

/- What holds of a core without a cycle, and of its handles; what its nursery's calls answer. Condition: the core is as it should be. -/
namespace Go.Proofs.YtjjdjipohifgbaaGreat
open Go.RowKit

theorem CoreS.Sane.handle {s : CoreS} (Z : s.Sane) {x : Int} (hx : x ∈ s.t) : s.y.isFrom x = false ∧ s.now x = x := by
  obtain ⟨cur, oth, I, H⟩ := Z.inv
  refine ⟨?_, I.lay.now_stay (H x hx)⟩
  rcases H x hx with h | h | h
  · exact I.lay.from_old (.inr h)
  · exact I.lay.from_old (.inl h)
  · exact I.lay.from_not (.inl h)
theorem CoreS.Sane.rest {s : CoreS} (Z : s.Sane) (h : s.moving = false) : s.y.ou = 0 ∧ s.copied = 0 := by
  obtain ⟨cur, oth, I, H⟩ := Z.inv
  have ho := I.hds.nm h
  have hr := I.lay.ro
  have hc := I.hds.cp
  rw [ho] at hr hc
  simp only [ORow] at hr
  exact ⟨by omega, by rw [hc]; rfl⟩
theorem core_yleft (pc : Nat) (L : CoreL) (s : CoreS) (w : World) (h : Hp) (hi : In w h) (hc : CoreH pc L s h) :
    Calls Tryz.prog 21 #[.pointer (some ⟨L.py, 0, none⟩)] w fun e w' => e = .returned (.int .i64 s.y.ou) ∧ ∃ h', CoreH pc L s h' ∧ Upd h h' w w' := by
  obtain ⟨v, ha, hy, ho, hr, hg, ht, hw, rfl, ca, cy, co, cr, cg, ct, cw⟩ := hc
  refine Calls.mono (bump_left L.py s.y w hy (In.young (x := []) hi) cy) fun e w' hh => ?_
  exact ⟨hh.1, _, ⟨v, ha, hy, ho, hr, hg, ht, hw, rfl, ca, cy, co, cr, cg, ct, cw⟩, Upd.young (x := []) (Upd.refl hi) hh.2⟩
theorem core_yfrom (pc : Nat) (L : CoreL) (s : CoreS) (i : Int) (hi64 : I64 i) (w : World) (h : Hp) (hi : In w h) (hc : CoreH pc L s h) :
    Calls Tryz.prog 23 #[.pointer (some ⟨L.py, 0, none⟩), .int .i64 i] w fun e w' => e = .returned (.bool (s.y.isFrom i)) ∧ ∃ h', CoreH pc L s h' ∧ Upd h h' w w' := by
  obtain ⟨v, ha, hy, ho, hr, hg, ht, hw, rfl, ca, cy, co, cr, cg, ct, cw⟩ := hc
  refine Calls.mono (bump_from L.py s.y i w hy (In.young (x := []) hi) cy hi64) fun e w' hh => ?_
  exact ⟨hh.1, _, ⟨v, ha, hy, ho, hr, hg, ht, hw, rfl, ca, cy, co, cr, cg, ct, cw⟩, Upd.young (x := []) (Upd.refl hi) hh.2⟩

end Go.Proofs.YtjjdjipohifgbaaGreat

/- What is young or old is a node's: each turn of a cycle keeps it, and its end; so nothing stays that is not held. No program in sight. Conditions: a core whose parts fit its configuration. -/
namespace Go.Proofs.YtjjdjipohifgbaaGreat
open Go.RowKit

/-- all that has not gone, or is old, is a node's -/
def Tight (K : Int → Prop) (s : CoreS) (cur : List Int) (loc : Int → Int) : Prop := ∀ a, (a ∈ cur ∨ (s.o.sizeAt a).isSome = true) → ∃ n, K n ∧ loc n = a

section
variable {oth : List Int} {N : Int → NodeG} {hs : List Int} {K : Int → Prop}

theorem Mic.tight {s s' : CoreS} {cur cur' : List Int} {loc loc' : Int → Int} (m : Mic oth N hs K s cur loc s' cur' loc') (T : Tight K s cur loc) : Tight K s' cur' loc' := by
  cases m with
  | @mv a _ M ha hw hsrc MT hmono hT =>
    obtain ⟨hmv, R, ht, E, F, I⟩ := M
    have h0 : a ≠ 0 := I.lay.not_zero (.inr (.inl ha))
    have hnowa : s.now a = a := by rw [I.lay.now_oth ha, hw]
    have hna : ∀ b, (b ∈ cur ∨ (s.o.sizeAt b).isSome = true) → b ≠ a := by
      intro b hb e
      have h1 := I.lay.from_oth ha
      rw [← e, I.lay.from_not hb] at h1
      cases h1
    have hnode : ∃ n, K n ∧ loc n = a := by
      rcases hsrc with h | ⟨b, k, hb, k0, k1, hk⟩
      · obtain ⟨j, hj, e⟩ := List.getElem_of_mem h
        have hj2 : j < hs.length := by rw [R.hl]; exact hj
        have h1 := R.hv j hj2
        rw [List.getD_eq_getElem?_getD, List.getElem?_eq_getElem hj] at h1
        have h2 : s.now a = loc (hs.getD j 0) := by rw [← h1, ← e]; rfl
        rw [hnowa] at h2
        rcases R.hk _ (mem_getD hj2) with h3 | h3
        · rw [h3, R.l0] at h2
          exact absurd h2 h0
        · exact ⟨_, h3, h2.symm⟩
      · obtain ⟨n, hn, rfl⟩ := T b hb
        have hpn := R.pn n hn
        have h1 := R.pt n hn k.toNat (by omega)
        rw [show ((k.toNat : Nat) : Int) = k by omega, hk, hnowa] at h1
        rcases R.pk n hn _ (mem_getD (l := (N n).ptrs) (j := k.toNat) (by omega)) with h3 | h3
        · rw [h3, R.l0] at h1
          exact absurd h1 h0
        · exact ⟨_, h3, h1.symm⟩
    intro b hb
    by_cases e : b = s.mvTo a
    · obtain ⟨n, hn, hl⟩ := hnode
      exact ⟨n, hn, by show (if loc n = a then s.mvTo a else loc n) = b; rw [if_pos hl, e]⟩
    · have hb' : b ∈ cur ∨ (s.o.sizeAt b).isSome = true := by
        rcases hb with hb | hb
        · rw [MT.curE] at hb
          split at hb
          · exact .inl hb
          · rcases List.mem_append.1 hb with h | h
            · exact .inl h
            · exact absurd (List.mem_singleton.1 h) e
        · rw [MT.size b (.inl e)] at hb
          exact .inr hb
      obtain ⟨n, hn, hl⟩ := T b hb'
      refine ⟨n, hn, ?_⟩
      show (if loc n = a then s.mvTo a else loc n) = b
      rw [if_neg (by rw [hl]; exact hna b hb'), hl]
  | ref M ha k0 k1 hT hn => exact T
  | @note a M ha =>
    intro b hb
    rw [(note_others s a).2.2.2.2.2.2.1] at hb
    exact T b hb
  | unnote M ha => exact T
  | other M h1 h2 h3 h4 h5 h6 h7 h8 h9 h10 h11 h12 =>
    intro b hb
    rw [h4] at hb
    exact T b hb
  | hdl M h1 h2 => exact T

/-- nothing becomes old: heads of what is emptied are as young as this, and Tenure is more -/
def NoOld (oth : List Int) (o0 : MatS) (s : CoreS) : Prop := s.o = o0 ∧ (∀ b ∈ oth, (headS s.ws b).age = 0) ∧ 2 ≤ s.C.tenure

theorem note_head {s : CoreS} {cur : List Int} {E F : Int → Prop} (I : Inv s cur oth E F) {a b : Int} (ha : (s.o.sizeAt a).isSome = true) (hb : b ∈ oth) : headS (s.note a).ws b = headS s.ws b := by
  unfold CoreS.note
  split
  · have hba : b ≠ a := by
      intro e
      have h1 := I.lay.from_oth hb
      rw [e, I.lay.from_not (.inr ha)] at h1
      cases h1
    obtain ⟨p1, p2, p3, p4⟩ := I.lay.pos (.inr (.inr ha))
    have := (words_bounds s.ws a).1
    show headS (stW s.ws a _) b = headS s.ws b
    rw [headS_eq, rd_st (by omega) (by omega), if_neg hba, ← headS_eq]
  · rfl

theorem Mic.noOld {o0 : MatS} {s s' : CoreS} {cur cur' : List Int} {loc loc' : Int → Int} (m : Mic oth N hs K s cur loc s' cur' loc') (T : NoOld oth o0 s) : NoOld oth o0 s' := by
  obtain ⟨t1, t2, t3⟩ := T
  cases m with
  | @mv a _ M ha hw hsrc MT hmono hT =>
    obtain ⟨hmv, R, ht, E, F, I⟩ := M
    have hage := t2 a ha
    have htk : s.takeOld (headS s.ws a).words (s.mvAge a) = none := by
      unfold CoreS.takeOld
      rw [if_neg]
      unfold CoreS.mvAge
      rw [hage]
      omega
    refine ⟨?_, ?_, by rw [(moved_other s a).1]; exact t3⟩
    · have e : (s.moved a).o = (s.placed (headS s.ws a).words (s.mvAge a)).o := rfl
      rw [e, CoreS.placed, htk]
      exact t1
    · intro b hb
      by_cases e : b = a
      · rw [e, MT.hdA]; exact hage
      · have hO : IsO s cur oth b := .inr (.inl hb)
        have := (words_bounds s.ws b).1
        rw [(MT.rest b hO e).head (by omega)]
        exact t2 b hb
  | @ref a k T M ha k0 k1 hT hn =>
    obtain ⟨hmv, R, ht, E, F, I⟩ := M
    have I1 : Inv s cur oth (fun b => E b ∨ b = a) F := I.weak (fun b h => .inl h) (fun b h => h)
    obtain ⟨_, r1, r2, r3, r4, r5⟩ := setRef_inv I1 (a := a) (ha.elim .inl (fun h => .inr ⟨h, .inr rfl⟩)) k0 k1 hT
    refine ⟨t1, ?_, t3⟩
    intro b hb
    have hba : b ≠ a := by
      intro e
      have h1 := I.lay.from_oth hb
      rw [e, I.lay.from_not ha] at h1
      cases h1
    have := (words_bounds s.ws b).1
    show (headS (stW s.ws (place a k) (u64 T)) b).age = 0
    rw [(r2 b (.inr (.inl hb)) hba).head (by omega)]
    exact t2 b hb
  | @note a M ha =>
    obtain ⟨hmv, R, ht, E, F, I⟩ := M
    obtain ⟨m1, m2, m3, m4, m5, m6, m7, _⟩ := note_others s a
    refine ⟨m7.trans t1, ?_, by rw [m1]; exact t3⟩
    intro b hb
    rw [note_head I ha hb]
    exact t2 b hb
  | @unnote a M ha =>
    obtain ⟨hmv, R, ht, E, F, I⟩ := M
    obtain ⟨I1, u1, u2, u3, u4, u5, u6⟩ := unnote_inv (E' := fun b => E b ∨ b = a) (F' := F) I ha (fun b h => .inl h) (.inr rfl) (fun _ _ h => h)
    refine ⟨t1, ?_, t3⟩
    intro b hb
    have hba : b ≠ a := by
      intro e
      have h1 := I.lay.from_oth hb
      rw [e, I.lay.from_not (.inr ha)] at h1
      cases h1
    rw [u2 b (.inr (.inl hb)) hba]
    exact t2 b hb
  | other M h1 h2 h3 h4 h5 h6 h7 h8 h9 h10 h11 h12 =>
    refine ⟨h4.trans t1, ?_, by rw [h1]; exact t3⟩
    intro b hb
    rw [h2]
    exact t2 b hb
  | hdl M h1 h2 => exact ⟨t1, t2, t3⟩

/-- fewer nodes -/
theorem Rep.fewer {s : CoreS} {cur : List Int} {loc : Int → Int} {K' : Int → Prop} (R : Rep s cur oth N hs K loc) (hk : ∀ n, K' n → K n) (hh : ∀ x ∈ hs, x = 0 ∨ K' x) (hp : ∀ n, K' n → ∀ m ∈ (N n).ptrs, m = 0 ∨ K' m) : Rep s cur oth N hs K' loc :=
  ⟨fun h => R.k0 (hk 0 h), R.l0, fun n m hn hm => R.inj n m (hk n hn) (hk m hm), fun n hn => R.pl n (hk n hn), fun n hn => R.sz n (hk n hn), fun n hn => R.pn n (hk n hn), hp, fun n hn => R.pt n (hk n hn), fun n hn => R.sc n (hk n hn), R.hl, hh, R.hv⟩

/-- in a cycle without entries, to its end -/
theorem cycle_tight {o0 : MatS} : ∀ (k : Nat) {s : CoreS} {cur : List Int} {loc : Int → Int}, Good s cur oth N hs K loc → Tight K s cur loc → (∀ j, j < k → (s.minSteps j).moving = true) → 
    ((s.minSteps k).moving = true ∧ ∃ cur' loc', Good (s.minSteps k) cur' oth N hs K loc' ∧ Tight K (s.minSteps k) cur' loc' ∧ (NoOld oth o0 s → NoOld oth o0 (s.minSteps k))) ∨ ((s.minSteps k).moving = false ∧ (s.moving = true → ∃ cur' K' loc', Good (s.minSteps k) cur' [] N hs K' loc' ∧ Tight K' (s.minSteps k) cur' loc' ∧ (∀ n, K' n → K n) ∧ (NoOld oth o0 s → (s.minSteps k).o = o0)))
  | 0, s, cur, loc, G, T, _ => by
    cases hmv : s.moving with
    | true => exact .inl ⟨hmv, cur, loc, G, T, id⟩
    | false => exact .inr ⟨hmv, fun h => by cases h⟩
  | k + 1, s, cur, loc, G, T, hj => by
    have hk := hj k (by omega)
    rcases cycle_tight k G T (fun j h => hj j (by omega)) with ⟨h1, c1, l1, G1, T1, O1⟩ | ⟨h1, _⟩
    · rcases step_mic G1 h1 with ⟨hB, c2, l2, G2, C2⟩ | ⟨hB, hf, h3, h4, h5, G2⟩
      · have hm2 : (s.minSteps k).minStep.moving = true := by
          obtain ⟨_, c3, o3, J, K3, hm⟩ := step_inv G1.inv
          exact (hm hB).2.2
        refine .inl ⟨hm2, c2, l2, G2, Mics.keep (P := fun s c l => Tight K s c l) (fun m => m.tight) C2 T1, fun h => Mics.keep (P := fun s _ _ => NoOld oth o0 s) (fun m => m.noOld) C2 (O1 h)⟩
      · have e : s.minSteps (k + 1) = (s.minSteps k).finishS := hf
        rw [e]
        refine .inr ⟨rfl, fun _ => ⟨c1, _, l1, G2, ?_, fun n h => h.1, fun h => (O1 h).1⟩⟩
        intro a ha
        obtain ⟨n, hn, hl⟩ := T1 a ha
        refine ⟨n, ⟨hn, ?_⟩, hl⟩
        rw [hl]
        intro ho
        have h1 := G1.inv.lay.from_oth ho
        rw [G1.inv.lay.from_not ha] at h1
        cases h1
    · rw [hk] at h1
      cases h1
end

end Go.Proofs.YtjjdjipohifgbaaGreat

/- Of objects without references there are, behind a cycle, just those that are held. No program in sight. Conditions: nothing is old, and each object is held by one handle at the most. -/
namespace Go.Proofs.YtjjdjipohifgbaaGreat
open Go.RowKit

/-! sums -/
theorem sumI_perm {l m : List Int} (h : l.Perm m) : sumI l = sumI m := by
  induction h with
  | nil => rfl
  | cons x _ ih => simp only [sumI]; omega
  | swap x y l => simp only [sumI]; omega
  | trans _ _ ih1 ih2 => exact ih1.trans ih2
theorem row_sum {ws : List Int} : ∀ {l : List Int} {f t : Int}, ORow ws f t l → t - f = sumI (l.map fun a => (headS ws a).words)
  | [], f, t, h => by simp only [ORow] at h; simp [sumI]; omega
  | a :: l, f, t, h => by
    obtain ⟨rfl, h2⟩ := h
    have := row_sum h2
    simp only [List.map_cons, sumI]
    omega
theorem perm_of_nodup {l m : List Int} (hl : l.Nodup) (hm : m.Nodup) (h : ∀ a, a ∈ l ↔ a ∈ m) : l.Perm m := (List.perm_ext_iff_of_nodup hl hm).2 h

theorem nodup_map {f : Int → Int} : ∀ {l : List Int}, (∀ a ∈ l, ∀ b ∈ l, f a = f b → a = b) → l.Nodup → (l.map f).Nodup
  | [], _, _ => List.nodup_nil
  | a :: l, h, hn => by
    obtain ⟨n1, n2⟩ := List.nodup_cons.1 hn
    rw [List.map_cons]
    refine List.nodup_cons.2 ⟨fun hm => ?_, nodup_map (fun b hb c hc => h b (List.mem_cons_of_mem _ hb) c (List.mem_cons_of_mem _ hc)) n2⟩
    obtain ⟨b, hb, e⟩ := List.mem_map.1 hm
    have := h b (List.mem_cons_of_mem _ hb) a (List.mem_cons_self ..) e
    exact n1 (this ▸ hb)
/-- none is held twice -/
def Dis (l : List Int) : Prop := ∀ i j : Nat, i < l.length → j < l.length → l.getD i 0 = l.getD j 0 → l.getD i 0 ≠ 0 → i = j
theorem Dis.tail {a : Int} {l : List Int} (h : Dis (a :: l)) : Dis l := by
  intro i j hi hj e h0
  have := h (i + 1) (j + 1) (by simpa using hi) (by simpa using hj) (by simpa using e) (by simpa using h0)
  omega
theorem Dis.filter : ∀ {l : List Int}, Dis l → (l.filter (· ≠ 0)).Nodup
  | [], _ => List.nodup_nil
  | a :: l, h => by
    have ih := h.tail.filter
    by_cases h0 : a = 0
    · rw [List.filter_cons_of_neg (by simpa using h0)]
      exact ih
    · rw [List.filter_cons_of_pos (by simpa using h0)]
      refine List.nodup_cons.2 ⟨fun hm => ?_, ih⟩
      obtain ⟨j, hj, e⟩ := List.getElem_of_mem (List.mem_filter.1 hm).1
      have := h 0 (j + 1) (by simp) (by simpa using hj) (by simp [List.getD_eq_getElem?_getD, List.getElem?_eq_getElem hj, e]) (by simpa using h0)
      omega
theorem Dis.set {l : List Int} (h : Dis l) (i : Int) {m : Int} (hm : m = 0 ∨ m ∉ l) : Dis (tblSet l i m) := by
  intro j k hj hk e h0
  rw [tblSet_len] at hj hk
  rw [tblSet_get' j hj] at e h0
  rw [tblSet_get' k hk] at e
  by_cases e1 : (j : Int) = i
  · by_cases e2 : (k : Int) = i
    · omega
    · rw [if_pos e1] at e h0
      rw [if_neg e2] at e
      rcases hm with hm | hm
      · exact absurd hm h0
      · exact absurd (e ▸ mem_getD hk) hm
  · rw [if_neg e1] at e h0
    by_cases e2 : (k : Int) = i
    · rw [if_pos e2] at e
      rcases hm with hm | hm
      · exact absurd (e.trans hm) h0
      · exact absurd (e ▸ mem_getD hj) hm
    · rw [if_neg e2] at e
      exact h j k hj hk e h0

/-- what is held, in words -/
def heldG (N : Int → NodeG) (hs : List Int) : Int := sumI (hs.map fun n => if n = 0 then 0 else ((N n).scal.length : Int) + 2)
theorem held_filter (N : Int → NodeG) : ∀ hs : List Int, heldG N hs = sumI ((hs.filter (· ≠ 0)).map fun n => ((N n).scal.length : Int) + 2)
  | [] => rfl
  | a :: l => by
    have ih := held_filter N l
    unfold heldG at ih ⊢
    by_cases h0 : a = 0
    · rw [List.filter_cons_of_neg (by simpa using h0), List.map_cons, if_pos h0]
      simp only [sumI]
      omega
    · rw [List.filter_cons_of_pos (by simpa using h0), List.map_cons, List.map_cons, if_neg h0]
      simp only [sumI]
      omega

/-- objects without references, each of one handle, none old, no cycle -/
structure Flat (C : Cfg) (s : CoreS) (N : Int → NodeG) (hs : List Int) : Prop where
  good : ∃ cur K loc, ∃ m : Int, Good s cur [] N hs K loc ∧ 0 < m ∧ (∀ n, K n → n < m) ∧ (∀ n, K n → (N n).ptrs = []) ∧ ∀ a ∈ cur, (headS s.ws a).age = 0
  dis : Dis hs
  mv : s.moving = false
  o : s.o = (coreNew C).o
  cf : s.C = C
  hl : (hs.length : Int) = C.handles

theorem flat_new {C : Cfg} (h : C.Fits) : Flat C (coreNew C) (fun _ => ng0) (List.replicate C.handles.toNat 0) := by
  refine ⟨⟨[], _, _, 1, good_new h, by omega, fun _ h => h.elim, fun _ h => h.elim, fun a ha => by cases ha⟩, ?_, rfl, rfl, rfl, by rw [List.length_replicate]; have := h.h1; omega⟩
  intro i j hi hj e h0
  exact absurd (getD_zeros _ _) h0

theorem Flat.make {C : Cfg} {s : CoreS} {N : Int → NodeG} {hs : List Int} (F : Flat C s N hs) (i c : Int) : ∃ N' hs', Flat C (s.make i 0 c) N' hs' := by
  obtain ⟨cur, K, loc, m, G, h0, hm, hp, ha⟩ := F.good
  unfold CoreS.make
  split
  · rename_i he
    have hk : ¬ K m := fun h => by have := hm m h; omega
    obtain ⟨l1, G1⟩ := good_made G he (m := m) (by omega) hk
    have hsh : s.shapeOk 0 c = true ∧ s.roomOk (0 + c + 2) = true := by
      unfold CoreS.makeE at he
      split at he
      · split at he
        · split at he
          · rename_i h1 h2
            exact ⟨h1, h2⟩
          · cases he
        · cases he
      · cases he
    obtain ⟨p0, c0, p1, c1⟩ := shapeOk_iff.1 hsh.1
    have hl := G.inv.lay.cf.l2
    have M := made_inv G.inv p0 c0 (by omega) hsh.2 (tblSet s.t i (s.y.takeAt (0 + c + 2))) { s.done with allocs := wrap64 (s.done.allocs + 1), words := wrap64 (s.done.words + (0 + c + 2)) }
    refine ⟨_, _, ⟨⟨_, _, l1, m + 1, G1, by omega, ?_, ?_, ?_⟩, F.dis.set i (.inr fun h => ?_), F.mv, F.o, F.cf, by rw [tblSet_len]; exact F.hl⟩⟩
    · rintro n (rfl | h)
      · omega
      · have := hm n h; omega
    · rintro n (rfl | h)
      · rw [updN_at]; rfl
      · rw [updN_ne N _ (fun (e : n = m) => hk (e ▸ h))]; exact hp n h
    · intro a hma
      rcases List.mem_append.1 hma with hma | hma
      · have := (words_bounds s.ws a).1
        have e := (M.rest a (.inl hma)).head (by omega)
        show (headS (objMakeW s.ws (s.y.takeAt (0 + c + 2)) (s.newHd 0 c)) a).age = 0
        rw [e]
        exact ha a hma
      · rw [List.mem_singleton.1 hma]
        have e := M.hd
        show (headS (objMakeW s.ws (s.y.takeAt (0 + c + 2)) (s.newHd 0 c)) (s.y.takeAt (0 + c + 2))).age = 0
        rw [e]
        rfl
    · rcases G.rep.hk m h with h | h
      · omega
      · exact hk h
  · exact ⟨N, hs, F⟩
theorem Flat.clear {C : Cfg} {s : CoreS} {N : Int → NodeG} {hs : List Int} (F : Flat C s N hs) (i : Int) : Flat C { s with t := tblSet s.t i 0 } N (tblSet hs i 0) := by
  obtain ⟨cur, K, loc, m, G, h0, hm, hp, ha⟩ := F.good
  exact ⟨⟨cur, K, loc, m, good_clear G i, h0, hm, hp, ha⟩, F.dis.set i (.inl rfl), F.mv, F.o, F.cf, by rw [tblSet_len]; exact F.hl⟩
theorem Flat.sane {C : Cfg} {s : CoreS} {N : Int → NodeG} {hs : List Int} (F : Flat C s N hs) : s.Sane := by
  obtain ⟨cur, K, loc, m, G, h0, hm, hp, ha⟩ := F.good
  exact ⟨cur, [], N, hs, K, loc, m, G, h0, hm⟩
/-- what Shape tells of a handle -/
theorem Flat.shape {C : Cfg} {s : CoreS} {N : Int → NodeG} {hs : List Int} (F : Flat C s N hs) {i : Nat} (hi : i < hs.length) : (s.objE i = 0 ↔ hs.getD i 0 ≠ 0) ∧ (s.objE i = 0 → (s.objH i).size - (s.objH i).ptrs = ((N (hs.getD i 0)).scal.length : Int)) := by
  obtain ⟨cur, K, loc, m, G, h0, hm, hp, ha⟩ := F.good
  have hok : tblOk hs i = true := by rw [tblOk_iff]; omega
  have hget : tblGet hs i = hs.getD i 0 := by
    obtain ⟨e, _⟩ := tblGet_in hok
    rw [e]
    simp
  refine ⟨?_, fun h => ?_⟩
  · rw [G.objE]
    unfold objEG
    rw [if_pos hok, hget]
    by_cases h : hs.getD i 0 = 0
    · rw [if_pos h]; exact ⟨fun e => (by cases e), fun e => absurd h e⟩
    · rw [if_neg h]; exact ⟨fun _ => h, fun _ => rfl⟩
  · obtain ⟨hk, _, _, _, e1, e2⟩ := G.obj h
    rw [e1, e2, hget]
    omega

theorem newMat_used {b : Int} {p : Int} {words : Int} (s : MatS) (h : ∀ g ∈ s.pages, g.kind = 0 ∧ g.used = []) : s.used = 0 := by
  have key : ∀ k, k ≤ s.pages.length → s.usedL k = 0 := by
    intro k
    induction k with
    | zero => intro _; rfl
    | succ k ih =>
      intro hk
      obtain ⟨g, hg⟩ : ∃ g, s.pages[k]? = some g := ⟨_, List.getElem?_eq_getElem (by omega)⟩
      obtain ⟨h1, h2⟩ := h g (List.mem_of_getElem? hg)
      have : s.startsOf k g = [] := by
        unfold MatS.startsOf
        rw [if_neg (by omega), h2]
        rfl
      simp [MatS.usedL, MatS.pageUsed, hg, ih (by omega), this, sumI]
  exact key _ (Nat.le_refl _)

/-- the cycle: what is young then is what was held -/
theorem Flat.cycle {C : Cfg} {s : CoreS} {N : Int → NodeG} {hs : List Int} (F : Flat C s N hs) (hT : 2 ≤ C.tenure) (hF : C.Fits) (hsm : 7 * C.nursery + 2 * (C.buffer + CardS.many (C.pages * C.page) C.card) ≤ 1900) :
    s.startOk = true ∧ ∃ n : Nat, n < 999 ∧ (∀ k, k < n → (s.startS.minSteps k).moving = true) ∧ (s.startS.minSteps n).moving = false ∧ (s.startS.minSteps n).statsS.young = heldG N hs ∧ (s.startS.minSteps n).statsS.old = 0 := by
  obtain ⟨cur, K, loc, m, G, h0, hm, hp, ha⟩ := F.good
  have G' : Good s cur [] N hs (fun n => n ≠ 0 ∧ n ∈ hs) loc := by
    refine ⟨G.inv, G.hdl, G.rep.fewer (fun n h => (G.rep.hk n h.2).resolve_left h.1) (fun x hx => ?_) (fun n h y hy => ?_)⟩
    · by_cases e : x = 0
      · exact .inl e
      · exact .inr ⟨e, hx⟩
    · rw [hp n ((G.rep.hk n h.2).resolve_left h.1)] at hy
      cases hy
  have hno : ∀ a, ((coreNew C).o.sizeAt a).isSome = true → False := fun a h => by
    have : (coreNew C).o.sizeAt a = none := newMat_none (by have := hF.n1; show 1 ≤ 1 + 2 * C.nursery; omega) hF.g1 hF.g2 _ a
    rw [this] at h
    cases h
  obtain ⟨_, hst, B, RB, c1, l1, G1, C1⟩ := start_mic G' F.mv
  obtain ⟨cI, oI, I1, _, e1C, _, _, _, hmv1⟩ := (start_inv G.inv G.hdl).2
  have T0 : Tight (fun n => n ≠ 0 ∧ n ∈ hs) s.begun [] loc := by
    intro a h
    rcases h with h | h
    · cases h
    · have e : s.begun.o = (coreNew C).o := F.o
      rw [e] at h
      exact (hno a h).elim
  have O0 : NoOld cur (coreNew C).o s.begun := ⟨F.o, ha, by show 2 ≤ s.C.tenure; rw [F.cf]; exact hT⟩
  have T1 := Mics.keep (P := fun s c l => Tight (fun n => n ≠ 0 ∧ n ∈ hs) s c l) (fun m => m.tight) C1 T0
  have O1 := Mics.keep (P := fun s _ _ => NoOld cur (coreNew C).o s) (fun m => m.noOld) C1 O0
  have htd := (todo_bounds G1.inv hmv1).2
  have h2 := G1.inv.rem.tc.2.2.2
  have h4 := G1.inv.rem.bm.2.2.2
  rw [e1C, F.cf] at htd h2 h4
  obtain ⟨n, n1, n2, n3, _, _⟩ := ends_at 998 G1.inv (fun _ => by omega)
  refine ⟨hst, n, by omega, n2, n3, ?_⟩
  rcases cycle_tight (o0 := (coreNew C).o) n G1 T1 n2 with ⟨h, _⟩ | ⟨_, h⟩
  · rw [n3] at h; cases h
  · obtain ⟨c2, K2, l2, G2, T2, hK, hO⟩ := h hmv1
    have hO := hO O1
    generalize s.startS.minSteps n = e at *
    obtain ⟨q1, q2, q3, q4, q5, q6, q7, q8, q9, q10⟩ := G2.inv.lay.nums
    have hcu := row_sum G2.inv.lay.rc
    have hou := (rest_facts G2.inv n3).2.1
    have hmem : ∀ a, a ∈ c2 ↔ a ∈ (hs.filter (· ≠ 0)).map l2 := by
      intro a
      constructor
      · intro h
        obtain ⟨k, hk, e⟩ := T2 a (.inl h)
        obtain ⟨k0, k1⟩ := hK k hk
        exact List.mem_map.2 ⟨k, List.mem_filter.2 ⟨k1, by simpa using k0⟩, e⟩
      · intro h
        obtain ⟨k, hk, rfl⟩ := List.mem_map.1 h
        obtain ⟨k1, k0⟩ := List.mem_filter.1 hk
        have k0' : k ≠ 0 := by simpa using k0
        have hkk := (G2.rep.hk k k1).resolve_left k0'
        rcases G2.rep.pl k hkk with h | h | h
        · exact h
        · rw [hO] at h
          exact (hno _ h).elim
        · cases h.1
    have hnd : ((hs.filter (· ≠ 0)).map l2).Nodup := by
      have hin : ∀ a ∈ hs.filter (· ≠ 0), ∀ b ∈ hs.filter (· ≠ 0), l2 a = l2 b → a = b := by
        intro a ha b hb e
        obtain ⟨a1, a0⟩ := List.mem_filter.1 ha
        obtain ⟨b1, b0⟩ := List.mem_filter.1 hb
        exact G2.rep.inj a b ((G2.rep.hk a a1).resolve_left (by simpa using a0)) ((G2.rep.hk b b1).resolve_left (by simpa using b0)) e
      exact nodup_map hin F.dis.filter
    have hperm := perm_of_nodup G2.inv.lay.rc.nodup hnd hmem
    have hsum : e.y.cu = heldG N hs := by
      rw [held_filter]
      have h5 : sumI (c2.map fun a => (headS e.ws a).words) = sumI (((hs.filter (· ≠ 0)).map l2).map fun a => (headS e.ws a).words) := sumI_perm (hperm.map _)
      rw [h5] at hcu
      rw [List.map_map] at hcu
      have h6 : (hs.filter (· ≠ 0)).map ((fun a => (headS e.ws a).words) ∘ l2) = (hs.filter (· ≠ 0)).map fun n => ((N n).scal.length : Int) + 2 := by
        apply List.map_congr_left
        intro k hk
        obtain ⟨k1, k0⟩ := List.mem_filter.1 hk
        have hkk := (G2.rep.hk k k1).resolve_left (by simpa using k0)
        have hs1 := G2.rep.sz k hkk
        have hp1 := hp k ((G.rep.hk k k1).resolve_left (by simpa using k0))
        rw [hp1] at hs1
        simp only [List.length_nil, Int.natCast_zero, Int.zero_add] at hs1
        show (headS e.ws (l2 k)).words = _
        have := (words_bounds e.ws (l2 k)).2.2.1
        omega
      rw [h6] at hcu
      omega
    refine ⟨?_, ?_⟩
    · show wrap64 (e.y.cu + e.y.ou) = _
      rw [hou, wrap_of ⟨by omega, by omega⟩]
      omega
    · show e.o.used = 0
      rw [hO]
      refine newMat_used (b := 0) (p := 0) (words := 0) _ (fun g hg => ?_)
      have : (coreNew C).o.pages = List.replicate C.pages.toNat pg0 := rfl
      rw [this] at hg
      rw [List.eq_of_mem_replicate hg]
      exact ⟨rfl, rfl⟩

/-- a configuration of the statement: nothing gets old enough -/
def cfg7 (a b c d : Int) : Cfg := { cfgOf a b c d with tenure := 7 }
theorem cfg7_ok {a b c d : Int} (ha : U8 a) (hb : U8 b) (hc : U8 c) (hd : U8 d) : (cfg7 a b c d).ok = true := by
  have h := cfgOf_ok ha hb hc hd
  have e : (cfg7 a b c d).ok = (cfgOf a b c d).ok := by
    have ht : within (cfgOf a b c d).tenure 1 7 = true := within_iff.2 (by
      obtain ⟨c1, c2⟩ := hc
      show 1 ≤ c / 64 % 3 + 1 ∧ c / 64 % 3 + 1 ≤ 7
      omega)
    simp only [Cfg.ok, Cfg.sizes, Cfg.rows, Cfg.taxes, cfg7]
    rw [ht, show within 7 1 7 = true from by decide]
    rfl
  rw [e]
  exact h
theorem cfg7_small {a b c d : Int} (ha : U8 a) (hb : U8 b) (hc : U8 c) (hd : U8 d) : 7 * (cfg7 a b c d).nursery + 2 * ((cfg7 a b c d).buffer + CardS.many ((cfg7 a b c d).pages * (cfg7 a b c d).page) (cfg7 a b c d).card) ≤ 1900 := by
  obtain ⟨a1, a2⟩ := ha
  obtain ⟨b1, b2⟩ := hb
  obtain ⟨c1, c2⟩ := hc
  have hcard : 1 ≤ (cfgOf a b c d).card ∧ ∃ q : Int, 1 ≤ q ∧ q ≤ 4 ∧ (cfgOf a b c d).page = q * (cfgOf a b c d).card := by
    have h4 : a / 64 = 0 ∨ a / 64 = 1 ∨ a / 64 = 2 ∨ a / 64 = 3 := by omega
    have h3 : c % 3 = 0 ∨ c % 3 = 1 ∨ c % 3 = 2 := by omega
    rcases h3 with h3 | h3 | h3
    · refine ⟨?_, 1, by omega, by omega, ?_⟩ <;> simp only [cfgOf, h3] <;> rcases h4 with h4 | h4 | h4 | h4 <;> simp [h4]
    · refine ⟨?_, 2, by omega, by omega, ?_⟩ <;> simp only [cfgOf, h3] <;> rcases h4 with h4 | h4 | h4 | h4 <;> simp [h4]
    · refine ⟨?_, 4, by omega, by omega, ?_⟩ <;> simp only [cfgOf, h3] <;> rcases h4 with h4 | h4 | h4 | h4 <;> simp [h4]
  obtain ⟨k1, q, q1, q2, hq⟩ := hcard
  have hm : CardS.many ((cfgOf a b c d).pages * (cfgOf a b c d).page) (cfgOf a b c d).card ≤ 49 := by
    unfold CardS.many
    have e : (cfgOf a b c d).pages * (cfgOf a b c d).page = ((cfgOf a b c d).pages * q) * (cfgOf a b c d).card := by rw [hq, Int.mul_assoc]
    rw [e, Int.mul_ediv_cancel _ (by omega)]
    have h2 : (cfgOf a b c d).pages * q ≤ 12 * 4 := Int.mul_le_mul (by show b / 16 % 12 + 1 ≤ 12; omega) q2 (by omega) (by omega)
    omega
  have e1 : (cfg7 a b c d).nursery = 24 + b % 60 := rfl
  have e2 : (cfg7 a b c d).buffer = c / 4 % 4 := rfl
  have e3 : CardS.many ((cfg7 a b c d).pages * (cfg7 a b c d).page) (cfg7 a b c d).card = CardS.many ((cfgOf a b c d).pages * (cfgOf a b c d).page) (cfgOf a b c d).card := rfl
  rw [e1, e2, e3]
  omega

end Go.Proofs.YtjjdjipohifgbaaGreat

/- One object that refers to itself: how old it is behind each cycle, and where it lies. No program in sight. Conditions: a core whose parts fit its configuration. -/
namespace Go.Proofs.YtjjdjipohifgbaaGreat
open Go.RowKit

theorem cfg_many {a b c d : Int} (ha : U8 a) (hb : U8 b) (hc : U8 c) : CardS.many ((cfgOf a b c d).pages * (cfgOf a b c d).page) (cfgOf a b c d).card ≤ 49 := by
  obtain ⟨a1, a2⟩ := ha
  obtain ⟨b1, b2⟩ := hb
  obtain ⟨c1, c2⟩ := hc
  have hcard : 1 ≤ (cfgOf a b c d).card ∧ ∃ q : Int, 1 ≤ q ∧ q ≤ 4 ∧ (cfgOf a b c d).page = q * (cfgOf a b c d).card := by
    have h4 : a / 64 = 0 ∨ a / 64 = 1 ∨ a / 64 = 2 ∨ a / 64 = 3 := by omega
    have h3 : c % 3 = 0 ∨ c % 3 = 1 ∨ c % 3 = 2 := by omega
    rcases h3 with h3 | h3 | h3
    · refine ⟨?_, 1, by omega, by omega, ?_⟩ <;> simp only [cfgOf, h3] <;> rcases h4 with h4 | h4 | h4 | h4 <;> simp [h4]
    · refine ⟨?_, 2, by omega, by omega, ?_⟩ <;> simp only [cfgOf, h3] <;> rcases h4 with h4 | h4 | h4 | h4 <;> simp [h4]
    · refine ⟨?_, 4, by omega, by omega, ?_⟩ <;> simp only [cfgOf, h3] <;> rcases h4 with h4 | h4 | h4 | h4 <;> simp [h4]
  obtain ⟨k1, q, q1, q2, hq⟩ := hcard
  have hm : CardS.many ((cfgOf a b c d).pages * (cfgOf a b c d).page) (cfgOf a b c d).card ≤ 49 := by
    unfold CardS.many
    have e : (cfgOf a b c d).pages * (cfgOf a b c d).page = ((cfgOf a b c d).pages * q) * (cfgOf a b c d).card := by rw [hq, Int.mul_assoc]
    rw [e, Int.mul_ediv_cancel _ (by omega)]
    have h2 : (cfgOf a b c d).pages * q ≤ 12 * 4 := Int.mul_le_mul (by show b / 16 % 12 + 1 ≤ 12; omega) q2 (by omega) (by omega)
    omega
  exact hm

theorem take_first {C : Cfg} (h1 : 1 ≤ C.pages) (h2 : 16 ≤ C.page) : ((coreNew C).o.take 3).isSome = true := by
  have hw : (coreNew C).o.words = C.page := rfl
  have hp : (coreNew C).o.pages = List.replicate C.pages.toNat pg0 := rfl
  generalize (coreNew C).o = o at *
  obtain ⟨n, hn⟩ : ∃ n, C.pages.toNat = n + 1 := ⟨C.pages.toNat - 1, by omega⟩
  have hl : largeB o.words 3 = false := by
    unfold largeB
    rw [hw, show rnd 3 = 4 from rfl]
    exact decide_eq_false (by omega)
  unfold MatS.take
  rw [hl, if_neg (by decide)]
  unfold MatS.inB
  rw [hp, hn]
  cases fitIn (rnd 3) (List.replicate (n + 1) pg0) 0 with
  | some x => rfl
  | none =>
    unfold MatS.fitted
    simp only
    rw [hp, hn]
    rfl

section
variable {oth : List Int} {N : Int → NodeG} {hs : List Int} {K : Int → Prop}

/-- what moves is a node -/
theorem mv_node {s : CoreS} {cur : List Int} {loc : Int → Int} {a : Int} (M : Mid oth N hs K s cur loc) (ha : a ∈ oth) (hw : wayW s.ws a = a) (hsrc : Src s cur a) (T : Tight K s cur loc) : ∃ n, K n ∧ loc n = a := by
  obtain ⟨hmv, R, ht, E, F, I⟩ := M
  have h0 : a ≠ 0 := I.lay.not_zero (.inr (.inl ha))
  have hnowa : s.now a = a := by rw [I.lay.now_oth ha, hw]
  rcases hsrc with h | ⟨b, k, hb, k0, k1, hk⟩
  · obtain ⟨j, hj, e⟩ := List.getElem_of_mem h
    have hj2 : j < hs.length := by rw [R.hl]; exact hj
    have h1 := R.hv j hj2
    rw [List.getD_eq_getElem?_getD, List.getElem?_eq_getElem hj] at h1
    have h2 : s.now a = loc (hs.getD j 0) := by rw [← h1, ← e]; rfl
    rw [hnowa] at h2
    rcases R.hk _ (mem_getD hj2) with h3 | h3
    · rw [h3, R.l0] at h2
      exact absurd h2 h0
    · exact ⟨_, h3, h2.symm⟩
  · obtain ⟨n, hn, rfl⟩ := T b hb
    have hpn := R.pn n hn
    have h1 := R.pt n hn k.toNat (by omega)
    rw [show ((k.toNat : Nat) : Int) = k by omega, hk, hnowa] at h1
    rcases R.pk n hn _ (mem_getD (l := (N n).ptrs) (j := k.toNat) (by omega)) with h3 | h3
    · rw [h3, R.l0] at h1
      exact absurd h1 h0
    · exact ⟨_, h3, h1.symm⟩

theorem note_age {s : CoreS} {cur : List Int} {E F : Int → Prop} (I : Inv s cur oth E F) {a b : Int} (ha : (s.o.sizeAt a).isSome = true) (hb : IsO s cur oth b) : (headS (s.note a).ws b).age = (headS s.ws b).age := by
  obtain ⟨p1, p2, p3, p4⟩ := I.lay.pos (.inr (.inr ha) : IsO s cur oth a)
  have hwa := (words_bounds s.ws a).1
  unfold CoreS.note
  split
  · by_cases e : b = a
    · subst e
      have hg : ({ headS s.ws b with noted := true } : Hd).Good := unH_good (ldW s.ws b)
      show (headS (stW s.ws b _) b).age = _
      rw [headS_eq, rd_st (by omega) (by omega), if_pos rfl, unH_enc hg]
    · show (headS (stW s.ws a _) b).age = _
      rw [headS_eq, rd_st (by omega) (by omega), if_neg e, ← headS_eq]
  · rfl

/-- where the object lies behind so many cycles, and how old it is -/
def GrowAt (C : Cfg) (s : CoreS) (cur : List Int) (a i : Int) : Prop := (i < C.tenure ∧ a ∈ cur ∧ (headS s.ws a).age = i ∧ s.o = (coreNew C).o) ∨ (C.tenure ≤ i ∧ (s.o.sizeAt a).isSome = true ∧ (headS s.ws a).age = C.tenure)
/-- in the midst of a cycle -/
def GrowQ (C : Cfg) (oth : List Int) (i : Int) (s : CoreS) (cur : List Int) (loc : Int → Int) : Prop :=
  s.C = C ∧ s.phase = 0 ∧ s.y.ou ≤ 3 ∧ ((loc 1 ∈ oth ∧ i < C.tenure ∧ (headS s.ws (loc 1)).age = i ∧ s.o = (coreNew C).o) ∨ GrowAt C s cur (loc 1) (i + 1))

theorem GrowQ.isO {C : Cfg} {i : Int} {s : CoreS} {cur : List Int} {loc : Int → Int} (Q : GrowQ C oth i s cur loc) : IsO s cur oth (loc 1) := by
  obtain ⟨q1, q2, q3, h | h | h⟩ := Q
  · exact .inr (.inl h.1)
  · exact .inl h.2.1
  · exact .inr (.inr h.2.1)
theorem GrowQ.keep {C : Cfg} {i : Int} {s s' : CoreS} {cur : List Int} {loc : Int → Int} (Q : GrowQ C oth i s cur loc) (e1 : s'.C = s.C) (e2 : s'.phase = s.phase) (e3 : s'.y = s.y) (e4 : s'.o = s.o) (e5 : (headS s'.ws (loc 1)).age = (headS s.ws (loc 1)).age) : GrowQ C oth i s' cur loc := by
  unfold GrowQ GrowAt at Q ⊢
  rw [e1, e2, e3, e4, e5]
  exact Q

theorem Mic.grow {C : Cfg} {i : Int} (hK : ∀ n, K n ↔ n = 1) (hN : N 1 = ⟨[1], []⟩) (hT : C.tenure ≤ 7) (hi : 0 ≤ i) (htk : ((coreNew C).o.take 3).isSome = true) {s s' : CoreS} {cur cur' : List Int} {loc loc' : Int → Int} (m : Mic oth N hs K s cur loc s' cur' loc') (T : Tight K s cur loc) (Q : GrowQ C oth i s cur loc) : GrowQ C oth i s' cur' loc' := by
  cases m with
  | @mv a _ M ha hw hsrc MT hmono hTo =>
    obtain ⟨n, hn, hl⟩ := mv_node M ha hw hsrc T
    obtain rfl := (hK n).1 hn
    obtain ⟨hmv, R, ht, E, F, I⟩ := M
    obtain ⟨q1, q2, q3, h | h⟩ := Q
    · obtain ⟨_, h2, h3, h4⟩ := h
      rw [hl] at h3
      have hsz := R.sz 1 hn
      rw [hN, hl] at hsz
      have hwd : (headS s.ws a).words = 3 := by
        have := (words_bounds s.ws a).2.2.1
        simp at hsz
        omega
      have hag : s.mvAge a = i + 1 := by unfold CoreS.mvAge; rw [h3]; omega
      have hou : (s.moved a).y.ou = s.y.ou := by
        show (s.placed (headS s.ws a).words (s.mvAge a)).y.ou = s.y.ou
        unfold CoreS.placed
        split
        · rfl
        · show (s.y.take _).ou = _
          obtain ⟨a1, a2, a3, a4, a5, a6⟩ := s.y
          cases a6 <;> (unfold YoungS.take; split <;> rfl)
      refine ⟨by rw [(moved_other s a).1]; exact q1, by rw [(moved_other s a).2.2.2.2.2.1]; exact q2, by rw [hou]; exact q3, .inr ?_⟩
      show GrowAt C (s.moved a) cur' (if loc 1 = a then s.mvTo a else loc 1) (i + 1)
      rw [if_pos hl]
      have hga : (headS (s.moved a).ws (s.mvTo a)).age = i + 1 := by
        rw [MT.hdT]
        unfold CoreS.mvHd
        split <;> exact hag
      by_cases hti : C.tenure ≤ i + 1
      · have hold : s.mvOld a = true := by
          unfold CoreS.mvOld CoreS.takeOld
          rw [q1, hag, if_pos hti, hwd, h4]
          exact htk
        exact .inr ⟨hti, (MT.old hold).1, by rw [hga]; omega⟩
      · have htn : s.takeOld (headS s.ws a).words (s.mvAge a) = none := by
          unfold CoreS.takeOld
          rw [q1, hag, if_neg hti]
        have hold : s.mvOld a = false := by unfold CoreS.mvOld; rw [htn]; rfl
        refine .inl ⟨by omega, ?_, hga, ?_⟩
        · rw [MT.curE, hold]
          exact List.mem_append_right _ (List.mem_singleton.2 rfl)
        · have e : (s.moved a).o = (s.placed (headS s.ws a).words (s.mvAge a)).o := rfl
          rw [e, CoreS.placed, htn]
          exact h4
    · exfalso
      have h1 := I.lay.from_oth ha
      have h2 : loc 1 ∈ cur ∨ (s.o.sizeAt (loc 1)).isSome = true := by
        rcases h with h | h
        · exact .inl h.2.1
        · exact .inr h.2.1
      rw [← hl, I.lay.from_not h2] at h1
      cases h1
  | @ref a k T' M ha k0 k1 hT' hn =>
    obtain ⟨hmv, R, ht, E, F, I⟩ := M
    have I1 : Inv s cur oth (fun b => E b ∨ b = a) F := I.weak (fun b h => .inl h) (fun b h => h)
    obtain ⟨_, r1, r2, r3, r4, r5⟩ := setRef_inv I1 (a := a) (ha.elim .inl (fun h => .inr ⟨h, .inr rfl⟩)) k0 k1 hT'
    refine Q.keep rfl rfl rfl rfl ?_
    show (headS (stW s.ws (place a k) (u64 T')) (loc 1)).age = _
    by_cases e : loc 1 = a
    · rw [e, r3]
    · have := (words_bounds s.ws (loc 1)).1
      rw [(r2 _ Q.isO e).head (by omega)]
  | @note a M ha =>
    obtain ⟨hmv, R, ht, E, F, I⟩ := M
    obtain ⟨m1, m2, m3, m4, m5, m6, m7, m8, m9, _⟩ := note_others s a
    exact Q.keep m1 m4 m9 m7 (note_age I ha Q.isO)
  | @unnote a M ha =>
    obtain ⟨hmv, R, ht, E, F, I⟩ := M
    obtain ⟨I1, u1, u2, u3, u4, u5, u6⟩ := unnote_inv (E' := fun b => E b ∨ b = a) (F' := F) I ha (fun b h => .inl h) (.inr rfl) (fun _ _ h => h)
    refine Q.keep rfl rfl rfl rfl ?_
    by_cases e : loc 1 = a
    · rw [e, u1]
    · rw [u2 _ Q.isO e]
  | other M h1 h2 h3 h4 h5 h6 h7 h8 h9 h10 h11 h12 => exact Q.keep h1 h8 h3 h4 (by rw [h2])
  | hdl M h1 h2 => exact Q.keep rfl rfl rfl rfl rfl

/-- a cycle without entries, to its end: what its turns keep is kept till then -/
theorem cycle_mics {P : CoreS → List Int → (Int → Int) → Prop} (hP : ∀ {s cur loc s' cur' loc'}, Mic oth N hs K s cur loc s' cur' loc' → P s cur loc → P s' cur' loc') : ∀ (k : Nat) {s : CoreS} {cur : List Int} {loc : Int → Int}, Good s cur oth N hs K loc → P s cur loc → (∀ j, j < k → (s.minSteps j).moving = true) →
    ((s.minSteps k).moving = true ∧ ∃ cur' loc', Good (s.minSteps k) cur' oth N hs K loc' ∧ P (s.minSteps k) cur' loc') ∨ ((s.minSteps k).moving = false ∧ (s.moving = true → ∃ s1 cur' loc', s.minSteps k = s1.finishS ∧ Good s1 cur' oth N hs K loc' ∧ P s1 cur' loc' ∧ Good s1.finishS cur' [] N hs (fun n => K n ∧ loc' n ∉ oth) loc'))
  | 0, s, cur, loc, G, T, _ => by
    cases hmv : s.moving with
    | true => exact .inl ⟨hmv, cur, loc, G, T⟩
    | false => exact .inr ⟨hmv, fun h => by cases h⟩
  | k + 1, s, cur, loc, G, T, hj => by
    have hk := hj k (by omega)
    rcases cycle_mics hP k G T (fun j h => hj j (by omega)) with ⟨h1, c1, l1, G1, T1⟩ | ⟨h1, _⟩
    · rcases step_mic G1 h1 with ⟨hB, c2, l2, G2, C2⟩ | ⟨hB, hf, h3, h4, h5, G2⟩
      · have hm2 : (s.minSteps k).minStep.moving = true := by
          obtain ⟨_, c3, o3, J, K3, hm⟩ := step_inv G1.inv
          exact (hm hB).2.2
        exact .inl ⟨hm2, c2, l2, G2, Mics.keep (P := P) hP C2 T1⟩
      · have e : s.minSteps (k + 1) = (s.minSteps k).finishS := hf
        rw [e]
        exact .inr ⟨rfl, fun _ => ⟨_, c1, l1, rfl, G1, T1, G2⟩⟩
    · rw [hk] at h1
      cases h1
end

theorem one_sum {f : Int → Int} {b : Int} (hb : f b = 3) : ∀ {l : List Int}, l.Nodup → (∀ a ∈ l, a = b) → sumI (l.map f) ≤ 3
  | [], _, _ => by simp [sumI]
  | [a], _, h => by
    rw [h a (List.mem_singleton.2 rfl)]
    simp [sumI, hb]
  | a :: c :: l, hn, h => by
    exfalso
    have h1 := h a (List.mem_cons_self ..)
    have h2 := h c (List.mem_cons_of_mem _ (List.mem_cons_self ..))
    exact (List.nodup_cons.1 hn).1 (by rw [h1, ← h2]; exact List.mem_cons_self ..)

/-- between the cycles -/
structure Grow (C : Cfg) (i : Int) (s : CoreS) : Prop where
  good : ∃ cur N hs K loc, Good s cur [] N hs K loc ∧ (∀ n, K n ↔ n = 1) ∧ N 1 = ⟨[1], []⟩ ∧ tblGet hs 0 = 1 ∧ (hs.length : Int) = C.handles ∧ Tight K s cur loc ∧ GrowAt C s cur (loc 1) i
  mv : s.moving = false
  ph : s.phase = 0
  cf : s.C = C

theorem young_small {s : CoreS} {cur oth : List Int} {N : Int → NodeG} {hs : List Int} {K : Int → Prop} {loc : Int → Int} (I : Lay s cur oth) (R : Rep s cur oth N hs K loc) (hK : ∀ n, K n ↔ n = 1) (hN : N 1 = ⟨[1], []⟩) (T : Tight K s cur loc) : s.y.cu ≤ 3 := by
  have h := row_sum I.rc
  have hsz := R.sz 1 ((hK 1).2 rfl)
  rw [hN] at hsz
  have hwd : (headS s.ws (loc 1)).words = 3 := by
    have := (words_bounds s.ws (loc 1)).2.2.1
    simp at hsz
    omega
  have := one_sum (f := fun a => (headS s.ws a).words) hwd I.rc.nodup (fun a ha => by
    obtain ⟨n, hn, e⟩ := T a (.inl ha)
    rw [(hK n).1 hn] at e
    exact e.symm)
  omega

theorem Grow.cycle {C : Cfg} {i : Int} {s : CoreS} (F : Grow C i s) (hi : 0 ≤ i) (hF : C.Fits) (hT : C.tenure ≤ 7) (hp : 1 ≤ C.pages) (hm : C.buffer + CardS.many (C.pages * C.page) C.card ≤ 80) :
    s.startOk = true ∧ ∃ n : Nat, n < 99 ∧ (∀ k, k < n → (s.startS.minSteps k).moving = true) ∧ (s.startS.minSteps n).moving = false ∧ Grow C (i + 1) (s.startS.minSteps n) := by
  obtain ⟨cur, N, hs, K, loc, G, hK, hN, hh, hl, T, A⟩ := F.good
  have htk := take_first hp hF.g1
  obtain ⟨_, hst, B, RB, c1, l1, G1, C1⟩ := start_mic G F.mv
  obtain ⟨cI, oI, I1, _, e1C, _, _, _, hmv1⟩ := (start_inv G.inv G.hdl).2
  have hcu := young_small G.inv.lay G.rep hK hN T
  have T0 : Tight K s.begun [] loc := by
    intro a h
    rcases h with h | h
    · cases h
    · exact T a (.inr h)
  have Q0 : GrowQ C cur i s.begun [] loc := by
    refine ⟨F.cf, F.ph, ?_, ?_⟩
    · show s.y.flip.ou ≤ 3
      obtain ⟨_, r2, _⟩ := rest_facts G.inv F.mv
      have hx : s.y.flip.ou ≤ max s.y.cu s.y.ou := by
        obtain ⟨a1, a2, a3, a4, a5, a6⟩ := s.y
        unfold YoungS.flip
        split <;> cases a6 <;> simp [YoungS.ou, YoungS.cu] <;> omega
      omega
    · rcases A with h | h
      · exact .inl ⟨h.2.1, h.1, h.2.2.1, h.2.2.2⟩
      · exact .inr (.inr ⟨by omega, h.2.1, h.2.2⟩)
  have P1 := Mics.keep (P := fun s c l => Tight K s c l ∧ GrowQ C cur i s c l) (fun m h => ⟨m.tight h.1, m.grow hK hN hT hi htk h.1 h.2⟩) C1 ⟨T0, Q0⟩
  have hcu1 := young_small G1.inv.lay G1.rep hK hN P1.1
  have hgl := goneW_le G1.inv.lay.ro
  have hcp := G1.inv.hds.cp
  have hrl := G1.inv.hds.rl
  obtain ⟨q1, q2, q3, q4, q5, q6, q7, q8, q9, q10⟩ := G1.inv.lay.nums
  obtain ⟨hs1, _⟩ := G1.inv.hds.sc hmv1
  have hou := P1.2.2.2.1
  have hct := countT_le s.startS.r.tc.marks
  have h2 := G1.inv.rem.tc.2.2.2
  have h4 := G1.inv.rem.bm.2.2.2
  rw [e1C, F.cf] at h2 h4
  obtain ⟨n, n1, n2, n3, _, _⟩ := ends_at 98 G1.inv (fun _ => by
    unfold CoreS.todo CoreS.meas
    omega)
  refine ⟨hst, n, by omega, n2, n3, ?_⟩
  rcases cycle_mics (P := fun s c l => Tight K s c l ∧ GrowQ C cur i s c l) (fun m h => ⟨m.tight h.1, m.grow hK hN hT hi htk h.1 h.2⟩) n G1 P1 n2 with ⟨h, _⟩ | ⟨_, h⟩
  · rw [n3] at h; cases h
  · obtain ⟨s1, c2, l2, e, G2, ⟨T2, Q2⟩, G3⟩ := h hmv1
    rw [e]
    have hk1 : K 1 ∧ l2 1 ∉ cur := by
      rcases G3.node 0 with h | h
      · rw [hh] at h; cases h
      · rw [hh] at h; exact h
    have hK' : ∀ n, (K n ∧ l2 n ∉ cur) ↔ n = 1 := fun n => ⟨fun h => (hK n).1 h.1, fun h => h ▸ hk1⟩
    obtain ⟨w1, w2, w3, w4⟩ := Q2
    refine ⟨⟨c2, N, hs, _, l2, G3, hK', hN, hh, hl, ?_, ?_⟩, rfl, w2, w1⟩
    · intro a ha
      obtain ⟨n, hn, hl⟩ := T2 a ha
      exact ⟨n, (hK' n).2 ((hK n).1 hn), hl⟩
    · rcases w4 with h | h
      · exact absurd h.1 hk1.2
      · exact h

/-- at the start -/
theorem grow_new {C : Cfg} (hF : C.Fits) (hl : 1 ≤ C.largest) : (coreNew C).makeE 0 1 0 = 0 ∧ ((coreNew C).make 0 1 0).refE 0 0 0 = 0 ∧ Grow C 0 (((coreNew C).make 0 1 0).set 0 0 0) := by
  have G0 := good_new hF
  have hok : tblOk (List.replicate C.handles.toNat 0) 0 = true := by
    rw [tblOk_iff, List.length_replicate]
    have := hF.h1
    omega
  have hsh : (coreNew C).shapeOk 1 0 = true := by
    unfold CoreS.shapeOk
    exact decide_eq_true ⟨by decide, by decide, hl, by show 0 ≤ C.largest - 1; omega⟩
  have hro : (coreNew C).roomOk (1 + 0 + 2) = true := by
    unfold CoreS.roomOk
    refine decide_eq_true ?_
    have h1 : (coreNew C).kept = 0 := rfl
    have h2 : (coreNew C).y.room = C.nursery := by
      show C.nursery - 0 = C.nursery
      omega
    have := hF.n1
    rw [h1, h2]
    omega
  have he : (coreNew C).makeE 0 1 0 = 0 := by
    unfold CoreS.makeE
    rw [show (coreNew C).t = List.replicate C.handles.toNat 0 from rfl, hok, if_pos rfl, hsh, if_pos rfl, hro, if_pos rfl]
  have hmk : (coreNew C).make 0 1 0 = (coreNew C).made 0 1 0 := by unfold CoreS.make; rw [if_pos he]
  obtain ⟨l1, G1⟩ := good_made G0 he (m := 1) (by decide) (fun h => h)
  have M := made_inv G0.inv (p := 1) (c := 0) (by decide) (by decide) (by decide) hro (tblSet (coreNew C).t 0 ((coreNew C).y.takeAt (1 + 0 + 2))) { (coreNew C).done with allocs := wrap64 ((coreNew C).done.allocs + 1), words := wrap64 ((coreNew C).done.words + (1 + 0 + 2)) }
  have hh : tblGet (tblSet (List.replicate C.handles.toNat 0) 0 1) 0 = 1 := by rw [tblGet_set hok, if_pos rfl]
  have hok1 : tblOk (tblSet (List.replicate C.handles.toNat 0) 0 1) 0 = true := by
    rw [tblOk_iff, tblSet_len, List.length_replicate]
    have := hF.h1
    omega
  have hN1 : updN (fun _ => ng0) 1 (newG 1 0) 1 = ⟨[0], []⟩ := by rw [updN_at]; rfl
  have hoE : objEG (tblSet (List.replicate C.handles.toNat 0) 0 1) 0 = 0 := by
    unfold objEG
    rw [hok1, if_pos rfl, hh]
    rfl
  have hr0 : refEG (updN (fun _ => ng0) 1 (newG 1 0)) (tblSet (List.replicate C.handles.toNat 0) 0 1) 0 0 0 = 0 := by
    unfold refEG refOkG
    rw [hoE, if_pos rfl, hok1, if_pos rfl, hh, hN1]
    rfl
  have hrE : ((coreNew C).made 0 1 0).refE 0 0 0 = 0 := by rw [G1.refE]; exact hr0
  rw [hmk]
  refine ⟨he, hrE, ?_⟩
  have G2 := good_set G1 0 0 0
  have hgt := G1.get 0
  rw [hh] at hgt
  have hta : tblGet ((coreNew C).made 0 1 0).t 0 = (coreNew C).y.takeAt (1 + 0 + 2) := by
    show tblGet (tblSet (List.replicate C.handles.toNat 0) 0 _) 0 = _
    rw [tblGet_set hok, if_pos rfl]
  have hc : (coreNew C).y.takeAt (1 + 0 + 2) ∈ [] ++ [(coreNew C).y.takeAt (1 + 0 + 2)] := List.mem_append_right _ (List.mem_singleton.2 rfl)
  have hptr : (headS ((coreNew C).made 0 1 0).ws ((coreNew C).y.takeAt (1 + 0 + 2))) = (coreNew C).newHd 1 0 := M.hd
  have hT : NewRef ((coreNew C).made 0 1 0) ([] ++ [(coreNew C).y.takeAt (1 + 0 + 2)]) (tblGet ((coreNew C).made 0 1 0).t 0) := .inr (.inr (by rw [hta]; exact hc))
  obtain ⟨I2, r1, r2, r3, r4, r5⟩ := setRef_inv (k := 0) G1.inv (.inl hc) (by decide) (by rw [hptr]; show (0 : Int) < 1; decide) hT
  have hset : ((coreNew C).made 0 1 0).set 0 0 0 = ((coreNew C).made 0 1 0).put 0 0 0 := by
    unfold CoreS.set
    rw [if_pos hrE]
    unfold CoreS.setTo
    split
    · have e : ((coreNew C).made 0 1 0).put 0 0 0 = { (coreNew C).made 0 1 0 with ws := stW ((coreNew C).made 0 1 0).ws (place ((coreNew C).y.takeAt (1 + 0 + 2)) 0) (u64 (tblGet ((coreNew C).made 0 1 0).t 0)) } := by
        unfold CoreS.put
        rw [hta]
      rw [e, hta]
      rw [hta] at I2
      exact Go.Proofs.YtjjdjipohifgbaaGreat.note_young I2 hc
    · rfl
  have hN2 : setG (updN (fun _ => ng0) 1 (newG 1 0)) (tblSet (List.replicate C.handles.toNat 0) 0 1) 0 0 0 1 = ⟨[1], []⟩ := by
    unfold setG
    rw [if_pos hr0, hh, updN_at, hN1]
    rfl
  refine ⟨⟨_, _, _, _, l1, G2, fun n => ⟨fun h => h.resolve_right id, .inl⟩, hN2, hh, by rw [tblSet_len, List.length_replicate]; have := hF.h1; omega, ?_, ?_⟩, ?_, ?_, ?_⟩
  · rw [hset]
    intro a ha
    refine ⟨1, .inl rfl, ?_⟩
    rw [← hgt, hta]
    rcases ha with ha | ha
    · exact (List.mem_singleton.1 ha).symm
    · exfalso
      have e : (((coreNew C).made 0 1 0).put 0 0 0).o = (coreNew C).o := rfl
      rw [e] at ha
      have : (coreNew C).o.sizeAt a = none := newMat_none (by have := hF.n1; show 1 ≤ 1 + 2 * C.nursery; omega) hF.g1 hF.g2 _ a
      rw [this] at ha
      cases ha
  · rw [hset]
    refine .inl ⟨by have := hF.t1; omega, ?_, ?_, rfl⟩
    · rw [← hgt, hta]
      exact hc
    · rw [← hgt, hta]
      have e : (((coreNew C).made 0 1 0).put 0 0 0).ws = stW ((coreNew C).made 0 1 0).ws (place ((coreNew C).y.takeAt (1 + 0 + 2)) 0) (u64 (tblGet ((coreNew C).made 0 1 0).t 0)) := by
        unfold CoreS.put
        rw [hta]
      rw [e, r3, hptr]
      rfl
  · rw [hset]; rfl
  · rw [hset]; rfl
  · rw [hset]; rfl

/-- what the law asks of it between the cycles -/
theorem Grow.look {C : Cfg} {i : Int} {s : CoreS} (F : Grow C i s) (h2 : 2 ≤ C.handles) :
    s.Sane ∧ 1 ≤ tblGet s.t 0 ∧ (tblGet s.t 0) + 2 ≤ (s.ws.length : Int) ∧ isHd (rd s.ws (tblGet s.t 0)) = true ∧ (headS s.ws (tblGet s.t 0)).old = decide (C.tenure ≤ i) ∧ (headS s.ws (tblGet s.t 0)).age = (if C.tenure ≤ i then C.tenure else i) ∧
    s.sameV 0 0 = true ∧ s.sameE 0 0 = 0 ∧ s.refE 0 0 1 = 0 ∧ Grow C i (s.gotM 1 0 0) ∧ (s.gotM 1 0 0).sameV 0 1 = true ∧ (s.gotM 1 0 0).sameE 0 1 = 0 := by
  obtain ⟨cur, N, hs, K, loc, G, hK, hN, hh, hl, T, A⟩ := F.good
  have k1 := (hK 1).2 rfl
  have o0 : tblOk hs 0 = true := by rw [tblOk_iff]; omega
  have o1 : tblOk hs 1 = true := by rw [tblOk_iff]; omega
  have hgt := G.get 0
  rw [hh] at hgt
  have hA : loc 1 ∈ cur ∨ (s.o.sizeAt (loc 1)).isSome = true := by
    rcases A with h | h
    · exact .inl h.2.1
    · exact .inr h.2.1
  have hI : IsO s cur [] (loc 1) := hA.elim .inl (fun h => .inr (.inr h))
  obtain ⟨p1, p2, p3, p4⟩ := G.inv.lay.pos hI
  have hwd := (words_bounds s.ws (loc 1)).1
  have hE0 : objEG hs 0 = 0 := by unfold objEG; rw [o0, if_pos rfl, hh]; rfl
  have hrG : refEG N hs 0 0 1 = 0 := by
    unfold refEG refOkG
    rw [hE0, if_pos rfl, o1, if_pos rfl, hh, hN]
    rfl
  have hrE : s.refE 0 0 1 = 0 := by rw [G.refE]; exact hrG
  have hpn := G.rep.pn 1 k1
  rw [hN] at hpn
  have hro := G.inv.refOk hI (k := 0) (by decide) (by rw [hpn]; show (0 : Int) < 1; decide)
  have hnr : NewRef s cur (refS s.ws (loc 1) 0) := by
    rcases hro with h | h | h | h
    · exact .inl h
    · exact .inr (.inl h)
    · exact .inr (.inr h)
    · cases h
  have hpt := G.rep.pt 1 k1 0 (by rw [hN]; decide)
  rw [hN, show ((0 : Nat) : Int) = 0 from rfl, G.inv.lay.now_stay hnr] at hpt
  have hr1 : refS s.ws (loc 1) 0 = loc 1 := hpt
  have hfrom : s.y.isFrom (loc 1) = false := G.inv.lay.from_not hA
  have hmv : s.move (loc 1) = s := by unfold CoreS.move; rw [if_pos (.inr hfrom)]
  have hmV : s.moveV (loc 1) = loc 1 := by unfold CoreS.moveV; rw [if_pos (.inr hfrom)]
  have hmk : s.mark (loc 1) = s := by
    unfold CoreS.mark CoreS.markOk
    rw [F.ph]
    simp
  have hgot : s.gotM 1 0 0 = { s with t := tblSet s.t 1 (loc 1) } := by
    unfold CoreS.gotM CoreS.fetch
    rw [if_pos hrE, hgt, hr1, hmv, hmV, hmk]
  have G2 := G.setH 1 (loc 1) 1 (.inr k1) (by rw [← hr1]; exact hnr) rfl
  have hh2 : tblGet (tblSet hs 1 1) 0 = 1 := by rw [tblGet_set o1, if_neg (by decide)]; exact hh
  have hh3 : tblGet (tblSet hs 1 1) 1 = 1 := by rw [tblGet_set o1, if_pos rfl]
  have o2 : tblOk (tblSet hs 1 1) 0 = true := by rw [tblOk_iff, tblSet_len]; omega
  have o3 : tblOk (tblSet hs 1 1) 1 = true := by rw [tblOk_iff, tblSet_len]; omega
  refine ⟨⟨cur, [], N, hs, K, loc, 2, G, by decide, fun n h => by rw [(hK n).1 h]; decide⟩, by rw [hgt]; exact p1, by rw [hgt]; omega, ?_, ?_, ?_, ?_, ?_, hrE, ?_, ?_, ?_⟩
  · rw [hgt]
    rcases hA with h | h
    · exact (G.inv.hds.hdC _ h).1
    · exact (G.inv.hds.hdM _ h).1
  · rw [hgt]
    rcases A with ⟨h1, h, _⟩ | ⟨h1, h, _⟩
    · rw [(G.inv.hds.hdC _ h).2.1, decide_eq_false (by omega)]
    · rw [(G.inv.hds.hdM _ h).2.1, decide_eq_true h1]
  · rw [hgt]
    rcases A with ⟨h1, _, h, _⟩ | ⟨h1, _, h⟩
    · rw [if_neg (by omega)]; exact h
    · rw [if_pos h1]; exact h
  · rw [G.sameV, o0]; simp
  · unfold CoreS.sameE; rw [G.ok, o0]; rfl
  · rw [hgot]
    exact ⟨⟨cur, N, _, K, loc, G2, hK, hN, hh2, by rw [tblSet_len]; exact hl, T, A⟩, F.mv, F.ph, F.cf⟩
  · rw [hgot, G2.sameV, o2, o3, hh2, hh3]; rfl
  · rw [hgot]; unfold CoreS.sameE; rw [G2.ok, G2.ok, o2, o3]; rfl

end Go.Proofs.YtjjdjipohifgbaaGreat

/- MinorFrees of the statements' package answers true. Conditions: none. -/
namespace Go.Proofs.YtjjdjipohifgbaaGreat
open Go.RowKit

/-- a core, and its configuration beside it -/
def FreeL (pg pc : Nat) (L : CoreL) (C : Cfg) (s : CoreS) (w wr : World) : Prop := ∃ h, CoreH pc L s h ∧ Upd [] ([(pg, .cells (cfgCells C) 24 (0, 0))] ++ h) w wr
theorem Upd.oldcell2 {w w' : World} {h : Hp} (u : Upd [] h w w') {b o : Nat} {v : Value} (hb : b < w.heap.size) (hc : w.cell? ⟨b, o, none⟩ = some v) : w'.cell? ⟨b, o, none⟩ = some v := by
  rw [u.below.cell (p := ⟨b, o, none⟩) hb]
  exact hc
theorem free_make {pg pc : Nat} {L : CoreL} {C : Cfg} {s : CoreS} {N : Int → NodeG} {hs : List Int} (F : Flat C s N hs) (i c : Int) {h : Hp} {w W : World} (hc : CoreH pc L (s.make i 0 c) h) (U : Upd [] ([(pg, .cells (cfgCells C) 24 (0, 0))] ++ h) w W) : ∃ s N hs, Flat C s N hs ∧ FreeL pg pc L C s w W := by
  obtain ⟨N3, hs3, F3⟩ := F.make i c
  exact ⟨_, N3, hs3, F3, h, hc, U⟩
theorem free_clear {pg pc : Nat} {L : CoreL} {C : Cfg} {s : CoreS} {N : Int → NodeG} {hs : List Int} (F : Flat C s N hs) (i : Int) {h : Hp} {w W : World} (hc : CoreH pc L { s with t := tblSet s.t i 0 } h) (U : Upd [] ([(pg, .cells (cfgCells C) 24 (0, 0))] ++ h) w W) : ∃ s N hs, Flat C s N hs ∧ FreeL pg pc L C s w W := ⟨_, N, _, F.clear i, h, hc, U⟩
def wantL (N : Int → NodeG) (hs : List Int) (k : Nat) : Int := heldG N (hs.take k)
theorem wantL_succ (N : Int → NodeG) (hs : List Int) {k : Nat} (h : k < hs.length) : wantL N hs (k + 1) = wantL N hs k + (if hs.getD k 0 = 0 then 0 else ((N (hs.getD k 0)).scal.length : Int) + 2) := by
  unfold wantL heldG
  rw [List.take_succ_eq_append_getElem h, List.map_append, sumI_append, List.getD_eq_getElem?_getD, List.getElem?_eq_getElem h]
  simp [sumI]
theorem wantL_nonneg (N : Int → NodeG) (hs : List Int) : ∀ k, k ≤ hs.length → 0 ≤ wantL N hs k
  | 0, _ => by simp [wantL, heldG, sumI]
  | k + 1, h => by
    have := wantL_nonneg N hs k (by omega)
    rw [wantL_succ N hs (by omega)]
    split <;> omega

set_option maxRecDepth 100000 in
set_option maxHeartbeats 8000000 in
theorem minorFrees_any (a b c d : Int) (zv : Value) (zl : List Int) (kv : Value) (kl : List Int) (ha : U8 a) (hb : U8 b) (hc : U8 c) (hd : U8 d) {w : World} (hz : IsBytes w zv zl) (hk : IsBytes w kv kl) :
    Calls Tryz.prog 3 #[.int .u8 a, .int .u8 b, .int .u8 c, .int .u8 d, zv, kv] w fun e w' => e = .returned (.bool true) ∧ Upd [] [] w w' := by
  have hok := cfg7_ok ha hb hc hd
  have hsm := cfg7_small ha hb hc hd
  have hcfg := law_config a b c d ha hb hc hd w
  obtain ⟨hzf, hzl, za, zc, rfl, hzs⟩ := hz
  obtain ⟨hkf, hkl, ka, kc, rfl, hks⟩ := hk
  have HZS := Lib.hid hzs
  have HKS := Lib.hid hks
  have HFT := Lib.hid (Cfg.fits hok)
  have hten : (2 : Int) ≤ (cfg7 a b c d).tenure := by show (2 : Int) ≤ 7; omega
  have HTN := Lib.hid hten
  have HSM := Lib.hid hsm
  have HOK := Lib.hid hok
  have hh1 : 2 ≤ (cfg7 a b c d).handles := by obtain ⟨a1, a2⟩ := ha; show 2 ≤ a % 5 + 2; omega
  have hh2 : (cfg7 a b c d).handles ≤ 6 := by obtain ⟨a1, a2⟩ := ha; show a % 5 + 2 ≤ 6; omega
  have hl1 : 1 ≤ (cfg7 a b c d).largest := by obtain ⟨a1, a2⟩ := hd; show 1 ≤ d % 8 + 1; omega
  have hl2 : (cfg7 a b c d).largest ≤ 8 := by obtain ⟨a1, a2⟩ := hd; show d % 8 + 1 ≤ 8; omega
  have hcc : cfgCells (cfg7 a b c d) = #[.int .i64 (cfgOf a b c d).handles, .int .i64 (cfgOf a b c d).nursery, .int .i64 (cfgOf a b c d).pages, .int .i64 (cfgOf a b c d).page, .int .i64 (cfgOf a b c d).card, .int .i64 (cfgOf a b c d).buffer, .int .i64 (cfgOf a b c d).stack, .int .i64 7, .int .i64 (cfgOf a b c d).largest, .int .i64 (cfgOf a b c d).minor, .int .i64 (cfgOf a b c d).major, .int .i64 (cfgOf a b c d).minorAt, .int .i64 (cfgOf a b c d).majorAt] := rfl
  have HCC := Lib.hid hcc
  clear ha hb hc hd hzs hks hok hsm hten hcc hzf hkf
  generalize cfg7 a b c d = C at *
  generalize cfgOf a b c d = B at *
  simp only [cfgCells] at hcfg
  go_enter Tryz.func3, Tryz.ntmps3
  go_upto_block 0 with (first
    | (go_at_call 9; refine Calls.mono hcfg ?_; rintro e v0 ⟨rfl, x0⟩; clear hcfg)
    | (go_at_call 10; rw [← HCC.out]; refine Calls.mono (core_new C HOK.out _) ?_; rintro e w0 ⟨pc, L, h0, rfl, c0, u0⟩; have U0 := ((x0.alloc' (.cells (cfgCells C) 24 (0, 0))).more u0); have E0 := Lib.hid c0; clear x0 u0 c0; simp only [ptr])
    | (go_at_call 11; refine Calls.mono (law_awake _) ?_; rintro e w1 ⟨rfl, x1⟩; have U1 := U0.under0 x1; clear U0 x1))
  generalize v0.heap.size = pg at *
  have HX0 : Hid (∃ s N hs, Flat C s N hs ∧ FreeL pg pc L C s w w1) := Lib.hid ⟨_, _, _, flat_new HFT.out, h0, E0.out, U1.perm (List.Perm.refl _) List.perm_append_comm⟩
  clear U1 E0
  have hH0 : C.handles ≠ 0 := by omega
  have hL0 : C.largest + 1 ≠ 0 := by omega
  have hwl : IntKind.i64.wrap (C.largest + 1) = C.largest + 1 := IntWalk.i64_in _ (by omega)
  have hL1 : (C.largest + 1 == 0) = false := by simpa using hL0
  go_cut [16] (fun q wx => Hid (∃ s N hs, Flat C s N hs ∧ FreeL pg pc L C s w wx))
  case first =>
    go_wp2_with fail
    go_loopw [16] (fun q wr => ∃ (i : Nat), i ≤ zl.length ∧ q = .int .i64 i ∧ Hid (∃ s N hs, Flat C s N hs ∧ FreeL pg pc L C s w wr)) (fun q _ => zl.length - (intOf q).toNat)
    case atStart => exact ⟨0, by omega, rfl, HX0⟩
    case round =>
      obtain ⟨i, hi, rfl, HV⟩ := hrel
      by_cases hil : i < zl.length
      · by_cases hi60 : i < 60
        · obtain ⟨s, N, hs, F, h, hc, U⟩ := HV.out
          obtain ⟨zb, zo, rfl, hzb, ez⟩ := HZS.out i hil
          generalize zl[i] = z at *
          have HF := Lib.hid F
          have HMK := Lib.hid (fun i c W h (hi : In W h) (hc : CoreH pc L s h) => sane_make_call pc L F.sane i 0 c W h hi hc)
          have hsw : ∀ W h, Upd [] ([(pg, .cells (cfgCells C) 24 (0, 0))] ++ h) w W → W.cell? ⟨pg, 0, none⟩ = some (.int .i64 C.handles) ∧ W.cell? ⟨pg, 8, none⟩ = some (.int .i64 C.largest) ∧ W.cell? ⟨zb, zo + i, none⟩ = some (.int .u8 z) := by
            intro W h U
            obtain ⟨y0, y1, y2, y3, y4, y5, y6, y7, y8, _⟩ := cfg_cells (c := C) U.inn.head
            exact ⟨y0, y8, U.oldcell2 hzb ez⟩
          have HSW := Lib.hid hsw
          have UZ := U.drew'
          have tZ := hsw _ _ UZ
          have HC := Lib.hid hc
          have HUZ := Lib.hid UZ
          have hiI : (i : Int) < (zl.length : Int) := by omega
          have hi0 : (0 : Int) ≤ (i : Int) := by omega
          have HKI := Lib.hid (HKS.out i)
          clear F hsw UZ U hc HV ez HX0
          simp only [ptr] at HMK
          by_cases hik : i < kl.length
          · obtain ⟨kb, ko, rfl, hkb, ek⟩ := HKI.out hik
            generalize kl[i] = kk at *
            have HKW := Lib.hid (fun W (U : Upd [] [] w W) => U.oldcell2 hkb ek)
            clear ek
            go_wp2
            go_cut [70] (fun q wx => ∃ e7 : Bool, q = .bool e7 ∧ Hid (∃ s N hs, Flat C s N hs ∧ FreeL pg pc L C s w wx))
            case first =>
              go_region_held3 (fun w' => w'.cell? ⟨pg, 0, none⟩ = some (.int .i64 C.handles) ∧ w'.cell? ⟨pg, 8, none⟩ = some (.int .i64 C.largest) ∧ w'.cell? ⟨zb, zo + i, none⟩ = some (.int .u8 z))
                (first | (with_reducible exact tZ) | (with_reducible exact t3))
                (first
                  | (go_at_call 12; with_reducible refine Calls.mono (HMK.out _ _ _ _ HUZ.out.inn.right HC.out) ?_; rintro e w3 ⟨rfl, h3, c3, u3⟩; have U3 := HUZ.out.underA u3; have t3 := HSW.out _ _ U3; have HX3 : Hid (∃ s N hs, Flat C s N hs ∧ FreeL pg pc L C s w w3) := Lib.hid (free_make HF.out _ _ c3 U3)))
              all_goals (go_wp2_with fail; go_meet; exact ⟨_, rfl, HX3⟩)
            case rest =>
              obtain ⟨e7, rfl, HX3⟩ := hcut
              clear HMK HF HSW tZ HC HUZ
              cases e7
              · obtain ⟨s2, N2, hs2, F2, h2, hc2, U2⟩ := HX3.out
                have ek2 := HKW.out wc (U2.forget (List.nil_sublist _))
                have HCL := Lib.hid (fun i W h (hi : In W h) (hc : CoreH pc L s2 h) => core_clear pc L s2 i W h hi hc)
                have hsw : ∀ W h, Upd [] ([(pg, .cells (cfgCells C) 24 (0, 0))] ++ h) w W → W.cell? ⟨pg, 0, none⟩ = some (.int .i64 C.handles) ∧ W.cell? ⟨kb, ko + i, none⟩ = some (.int .u8 kk) := by
                  intro W h U
                  obtain ⟨y0, _⟩ := cfg_cells (c := C) U.inn.head
                  exact ⟨y0, HKW.out W (U.forget (List.nil_sublist _))⟩
                have HSW := Lib.hid hsw
                have UZ := U2.drew'
                have tZ := hsw _ _ UZ
                have HC := Lib.hid hc2
                have HUZ := Lib.hid UZ
                have HF := Lib.hid F2
                have hikI : (i : Int) < (kl.length : Int) := by omega
                clear hsw UZ U2 hc2 F2
                simp only [ptr] at HCL
                go_wp2
                · go_region_held3 (fun w' => w'.cell? ⟨pg, 0, none⟩ = some (.int .i64 C.handles) ∧ w'.cell? ⟨kb, ko + i, none⟩ = some (.int .u8 kk))
                    (first | (with_reducible exact tZ) | (with_reducible exact t5))
                    (first
                      | (go_at_call 13; with_reducible refine Calls.mono (HCL.out _ _ _ HUZ.out.inn.right HC.out) ?_; rintro e w5 ⟨rfl, h5, c5, u5⟩; have U5 := HUZ.out.underA u5; have t5 := HSW.out _ _ U5; have HX5 : Hid (∃ s N hs, Flat C s N hs ∧ FreeL pg pc L C s w w5) := Lib.hid (free_clear HF.out _ c5 U5)))
                  go_wp2
                  go_roundw
                  case rel => exact ⟨i + 1, by omega, by go_num, HX5⟩
                  case measure => simp [intOf]; omega
                · go_roundw
                  case rel => exact ⟨i + 1, by omega, by go_num, HX3⟩
                  case measure => simp [intOf]; omega
              · go_wp2
                go_meet
                exact HX3
          · go_wp2
            go_cut [70] (fun q wx => ∃ e7 : Bool, q = .bool e7 ∧ Hid (∃ s N hs, Flat C s N hs ∧ FreeL pg pc L C s w wx))
            case first =>
              go_region_held3 (fun w' => w'.cell? ⟨pg, 0, none⟩ = some (.int .i64 C.handles) ∧ w'.cell? ⟨pg, 8, none⟩ = some (.int .i64 C.largest) ∧ w'.cell? ⟨zb, zo + i, none⟩ = some (.int .u8 z))
                (first | (with_reducible exact tZ) | (with_reducible exact t3))
                (first
                  | (go_at_call 12; with_reducible refine Calls.mono (HMK.out _ _ _ _ HUZ.out.inn.right HC.out) ?_; rintro e w3 ⟨rfl, h3, c3, u3⟩; have U3 := HUZ.out.underA u3; have t3 := HSW.out _ _ U3; have HX3 : Hid (∃ s N hs, Flat C s N hs ∧ FreeL pg pc L C s w w3) := Lib.hid (free_make HF.out _ _ c3 U3)))
              all_goals (go_wp2_with fail; go_meet; exact ⟨_, rfl, HX3⟩)
            case rest =>
              obtain ⟨e7, rfl, HX3⟩ := hcut
              clear HMK HF HSW tZ HC HUZ
              cases e7
              · go_wp2
                go_roundw
                case rel => exact ⟨i + 1, by omega, by go_num, HX3⟩
                case measure => simp [intOf]; omega
              · go_wp2
                go_meet
                exact HX3
        · clear HX0
          go_wp2
          go_meet
          exact HV
      · clear HX0
        go_wp2
        go_meet
        exact HV
  case rest =>
    obtain ⟨s, N, hs, F, h, hc, U⟩ := hcut.out
    have HF := Lib.hid F
    have HHL := Lib.hid F.hl
    have hh6 : (hs.length : Int) ≤ 6 := by rw [F.hl]; exact hh2
    have HP0 : Hid (∃ h, CoreH pc L s h ∧ Upd [] ((pg, .cells (cfgCells C) 24 (0, 0)) :: h) w wc) := Lib.hid ⟨h, hc, U⟩
    clear F hc U hcut HKS HZS
    go_wp2
    go_loopw [17, 18] (fun v q wr => ∃ (k : Nat), k ≤ hs.length ∧ v = .int .i64 (wantL N hs k) ∧ wantL N hs k ≤ 100 * k ∧ q = .int .i64 k ∧ Hid (∃ h, CoreH pc L s h ∧ Upd [] ((pg, .cells (cfgCells C) 24 (0, 0)) :: h) w wr)) (fun _ q _ => hs.length - (intOf q).toNat)
    case atStart => exact ⟨0, by omega, rfl, by simp [wantL, heldG, sumI], rfl, HP0⟩
    case round =>
      obtain ⟨k, hk, rfl, hW, rfl, HV⟩ := hrel
      obtain ⟨h2, c2, u2⟩ := HV.out
      have hW0 := wantL_nonneg N hs k hk
      have d0 : wr.cell? ⟨pg, 0, none⟩ = some (.int .i64 C.handles) := (cfg_cells (c := C) u2.inn.head).1
      by_cases hkl : k < hs.length
      · obtain ⟨e1, e2⟩ := HF.out.shape hkl
        have hS := wantL_succ N hs hkl
        have hsh := core_shapeof pc L s k wr h2 u2.inn.tail c2
        have hgd := s.objH_good k
        have hkh : (k : Int) < C.handles := by rw [← HHL.out]; omega
        have HU2 := Lib.hid u2
        clear HP0 HV c2 u2
        simp only [ptr] at hsh
        obtain ⟨g1, g2, g3, g4, g5, g6, g7⟩ := hgd
        by_cases hE : s.objE k = 0
        · rw [hE] at hsh
          rw [if_neg (e1.1 hE), ← e2 hE] at hS
          generalize (s.objH k).size = sz at *
          generalize (s.objH k).ptrs = pt at *
          have hv1 : 0 ≤ sz - pt ∧ sz - pt ≤ 64 := by omega
          generalize sz - pt = df at *
          have hS' : wantL N hs (k + 1) = wantL N hs k + df + 2 := by omega
          clear e1 e2 hE g1 g2 g3 g4 g5 g6 g7 hS
          have hWn : wantL N hs (k + 1) ≤ 100 * ((k + 1 : Nat) : Int) := by omega
          have HS' := Lib.hid hS'
          obtain ⟨Wn, hWnE⟩ : ∃ W, W = wantL N hs (k + 1) := ⟨_, rfl⟩
          have HWN := Lib.hid hWnE
          rw [← hWnE] at hWn
          clear hWnE
          generalize wantL N hs k = Wk at *
          go_wp2_with (go_at_call 14; refine Calls.mono hsh ?_; rintro e w3 ⟨rfl, h3, c3, u3⟩; have U3 : Hid (∃ h, CoreH pc L s h ∧ Upd [] ((pg, .cells (cfgCells C) 24 (0, 0)) :: h) w w3) := Lib.hid ⟨h3, c3, HU2.out.under u3⟩; clear c3 u3)
          go_roundw
          case rel => exact ⟨k + 1, by omega, by rw [HS'.out], by rw [← HWN.out]; exact hWn, by go_num, U3⟩
          case measure => simp [intOf]; omega
        · have h0 : hs.getD k 0 = 0 := Classical.byContradiction fun hn => hE (e1.2 hn)
          rw [if_pos h0, Int.add_zero] at hS
          have HS := Lib.hid hS
          have hE' : (s.objE k == 0) = false := by simpa using hE
          have hWn : wantL N hs (k + 1) ≤ 100 * ((k + 1 : Nat) : Int) := by omega
          generalize s.objE k = E at *
          generalize (s.objH k).size - (s.objH k).ptrs = df at *
          generalize (s.objH k).ptrs = pt at *
          clear e1 e2 g1 g2 g4 g5 g6 g7 hS h0
          obtain ⟨Wn, hWnE⟩ : ∃ W, W = wantL N hs (k + 1) := ⟨_, rfl⟩
          have HWN := Lib.hid hWnE
          rw [← hWnE] at hWn
          clear hWnE
          generalize wantL N hs k = Wk at *
          go_wp2_with (go_at_call 14; refine Calls.mono hsh ?_; rintro e w3 ⟨rfl, h3, c3, u3⟩; have U3 : Hid (∃ h, CoreH pc L s h ∧ Upd [] ((pg, .cells (cfgCells C) 24 (0, 0)) :: h) w w3) := Lib.hid ⟨h3, c3, HU2.out.under u3⟩; clear c3 u3)
          go_roundw
          case rel => exact ⟨k + 1, by omega, by rw [HS.out], by rw [← HWN.out]; exact hWn, by go_num, U3⟩
          case measure => simp [intOf]; omega
      · have hke : k = hs.length := by omega
        subst hke
        have hkh : ¬ ((hs.length : Int) < C.handles) := by rw [HHL.out]; omega
        have hWe : wantL N hs hs.length = heldG N hs := by unfold wantL; rw [List.take_length]
        rw [hWe] at hW hW0 ⊢
        obtain ⟨hsok, n, hn9, hmv, hmvn, hyg, hol⟩ := HF.out.cycle HTN.out HFT.out HSM.out
        have Z := HF.out.sane
        have ZS := Lib.hid Z.startS
        have hst := sane_start_call pc L Z
        rw [hsok] at hst
        have HST := Lib.hid hst
        have HU2 := Lib.hid u2
        have HC2 := Lib.hid c2
        have HMV := Lib.hid hmv
        have HMN := Lib.hid hmvn
        have HYG := Lib.hid hyg
        have HOL := Lib.hid hol
        clear HP0 HV c2 u2 HF Z hst hmv hmvn hyg hol hsok HTN HFT HSM hWe hk
        generalize s.startS = s1 at *
        generalize heldG N hs = Wt at *
        simp only [ptr] at HST
        go_wp2_with (go_at_call 15; refine Calls.mono (HST.out _ _ HU2.out.inn.tail HC2.out) ?_; rintro e w3 ⟨rfl, h3, c3, u3⟩; have U3 : Hid (∃ h, CoreH pc L (s1.minSteps 0) h ∧ Upd [] ((pg, .cells (cfgCells C) 24 (0, 0)) :: h) w w3) := Lib.hid ⟨h3, c3, HU2.out.under u3⟩; clear c3 u3)
        clear HU2 HC2 HST
        go_loopw [22] (fun q wr => ∃ (k : Nat), k ≤ n ∧ q = .int .i64 k ∧ Hid (∃ h, CoreH pc L (s1.minSteps k) h ∧ Upd [] ((pg, .cells (cfgCells C) 24 (0, 0)) :: h) w wr)) (fun q _ => n - (intOf q).toNat)
        case atStart => exact ⟨0, by omega, rfl, U3⟩
        case round =>
          obtain ⟨k, hkn, rfl, HV⟩ := hrel
          obtain ⟨h4, c4, u4⟩ := HV.out
          have v4 := (c4.vars (x := [_]) u4.inn).2
          have hk4 : (k : Int) < 1000 := by omega
          by_cases hlt2 : k < n
          · have hmk := HMV.out k hlt2
            rw [hmk] at v4
            have hst := sane_step_call pc L (ZS.out.minSteps k) _ h4 u4.inn.tail c4
            have HU4 := Lib.hid u4
            simp only [ptr] at hst
            clear hmk HV u4 c4 U3
            generalize (s1.minSteps k).minN = mN at *
            generalize (s1.minSteps k).minB = mB at *
            go_wp2_with (go_at_call 16; refine Calls.mono hst ?_; rintro e w5 ⟨rfl, h5, c5, u5⟩; have U5 : Hid (∃ h, CoreH pc L (s1.minSteps (k + 1)) h ∧ Upd [] ((pg, .cells (cfgCells C) 24 (0, 0)) :: h) w w5) := Lib.hid ⟨h5, c5, HU4.out.under u5⟩; clear c5 u5)
            go_roundw
            case rel => exact ⟨k + 1, by omega, by go_num, U5⟩
            case measure => simp [intOf]; omega
          · have hkn' : k = n := by omega
            subst hkn'
            rw [HMN.out] at v4
            have hsts := sane_stats_call pc L (ZS.out.minSteps k)
            have hyE := HYG
            have hoE := HOL
            have hmE := Lib.hid HMN.out
            have HU4 := Lib.hid u4
            have C4 := Lib.hid c4
            clear HV u4 c4 U3 HYG HOL HMN HMV ZS
            generalize s1.minSteps k = e at *
            generalize e.statsS = T at *
            obtain ⟨T1, T2, T3, T4, T5, T6, T7, T8⟩ := T
            have hq1 : T6 = Wt := hyE.out
            have hq2 : T7 = 0 := hoE.out
            clear hyE hoE
            subst hq1 hq2
            obtain ⟨T, hT⟩ : ∃ T : StatS, T = ⟨T1, T2, T3, T4, T5, T6, 0, T8⟩ := ⟨_, rfl⟩
            rw [← hT] at hsts
            have HSS := Lib.hid hsts
            clear hsts
            have hsx : ∀ (W : World) (hc : Hp), CoreH pc L e hc → Upd [] ((W.heap.size, .cells (statCells T) 44 (0, 0)) :: (pg, .cells (cfgCells C) 24 (0, 0)) :: hc) w (W.alloc (.cells (statCells T) 44)) →
                (W.alloc (.cells (statCells T) 44)).cell? ⟨pc, 21, none⟩ = some (.bool false) ∧ (W.alloc (.cells (statCells T) 44)).cell? ⟨W.heap.size, 5, none⟩ = some (.int .i64 T.young) ∧ (W.alloc (.cells (statCells T) 44)).cell? ⟨W.heap.size, 6, none⟩ = some (.int .i64 T.old) := by
              intro W hc hcc U
              have x2 := (hcc.vars (x := [_, _]) U.inn).2
              rw [hmE.out] at x2
              obtain ⟨_, _, _, _, _, y5, y6, _⟩ := stat_cells (d := T) U.inn.head
              exact ⟨x2, y5, y6⟩
            have HSX := Lib.hid hsx
            clear hsx
            subst hT
            simp only [ptr, statCells] at HSX HSS
            go_wp2_with (go_at_call 17; go_loud (refine Calls.mono (HSS.out _ _ HU4.out.inn.tail C4.out) ?_; rintro en w5 ⟨rfl, h5, c5, u5⟩; have U5 := ((HU4.out.under u5).alloc' (.cells (statCells ⟨T1, T2, T3, T4, T5, T6, 0, T8⟩) 44 (0, 0))); have t5 := HSX.out _ _ c5 U5))
            go_ret
            exact ⟨rfl, U5.forget (List.nil_sublist _)⟩

end Go.Proofs.YtjjdjipohifgbaaGreat

/- MinorGrows of the statements' package answers true. Conditions: none. -/
namespace Go.Proofs.YtjjdjipohifgbaaGreat
open Go.RowKit

theorem core_tget (pc : Nat) (L : CoreL) (s : CoreS) (i : Int) (w : World) (h : Hp) (hi : In w h) (hc : CoreH pc L s h) :
    Calls Tryz.prog 26 #[.pointer (some ⟨L.pt, 0, none⟩), .int .i64 i] w fun e w' => e = .returned (.tuple #[.int .i64 (tblGet s.t i), .int .i64 (tblErr s.t i)]) ∧ w = w' := by
  obtain ⟨v, ha, hy, ho, hr, hg, ht, hw, rfl, ca, cy, co, cr, cg, ct, cw⟩ := hc
  exact table_get L.pt s.t i w ht (In.table (x := []) hi) ct

/-- between the cycles, in memory -/
@[reducible] def GrowL (pg pc : Nat) (L : CoreL) (C : Cfg) (k : Nat) (w wr : World) : Prop := ∃ s h, Grow C k s ∧ CoreH pc L s h ∧ Upd [] ((pg, .cells (cfgCells C) 24 (0, 0)) :: h) w wr

theorem cfgGrow {a b c d : Int} (ha : U8 a) (hb : U8 b) (hc : U8 c) (hd : U8 d) : (cfgOf a b c d).tenure ≤ 7 ∧ 1 ≤ (cfgOf a b c d).pages ∧ (cfgOf a b c d).buffer + CardS.many ((cfgOf a b c d).pages * (cfgOf a b c d).page) (cfgOf a b c d).card ≤ 80 ∧ 2 ≤ (cfgOf a b c d).handles ∧ 1 ≤ (cfgOf a b c d).largest := by
  have h := cfg7_small ha hb hc hd
  obtain ⟨a1, a2⟩ := ha
  obtain ⟨b1, b2⟩ := hb
  obtain ⟨c1, c2⟩ := hc
  obtain ⟨d1, d2⟩ := hd
  refine ⟨?_, ?_, ?_, ?_, ?_⟩
  · show c / 64 % 3 + 1 ≤ 7; omega
  · show 1 ≤ b / 16 % 12 + 1; omega
  · have := cfg_many ⟨a1, a2⟩ ⟨b1, b2⟩ ⟨c1, c2⟩ (d := d)
    show c / 4 % 4 + _ ≤ _
    omega
  · show 2 ≤ a % 5 + 2; omega
  · show 1 ≤ d % 8 + 1; omega

set_option maxRecDepth 100000 in
set_option maxHeartbeats 8000000 in
theorem minorGrows_any (a b c d t : Int) (ha : U8 a) (hb : U8 b) (hc : U8 c) (hd : U8 d) (ht : U8 t) (w : World) :
    Calls Tryz.prog 7 #[.int .u8 a, .int .u8 b, .int .u8 c, .int .u8 d, .int .u8 t] w fun e w' => e = .returned (.bool true) ∧ Upd [] [] w w' := by
  have hok := cfgOf_ok ha hb hc hd
  have hcfg := law_config a b c d ha hb hc hd w
  obtain ⟨g1, g2, g3, g4, g5⟩ := cfgGrow ha hb hc hd
  have HF := Lib.hid (Cfg.fits hok)
  have hmod : t.tmod 12 = t % 12 := Int.tmod_eq_emod_of_nonneg ht.1
  obtain ⟨m, hm⟩ : ∃ m : Nat, (m : Int) = t % 12 := ⟨(t % 12).toNat, by omega⟩
  have hm11 : m ≤ 11 := by omega
  generalize cfgOf a b c d = C at *
  have hcc : cfgCells C = #[.int .i64 C.handles, .int .i64 C.nursery, .int .i64 C.pages, .int .i64 C.page, .int .i64 C.card, .int .i64 C.buffer, .int .i64 C.stack, .int .i64 C.tenure, .int .i64 C.largest, .int .i64 C.minor, .int .i64 C.major, .int .i64 C.minorAt, .int .i64 C.majorAt] := rfl
  have HCC := Lib.hid hcc
  have HOK := Lib.hid hok
  obtain ⟨e1, e2, hG⟩ := grow_new (Cfg.fits hok) g5
  have HG := Lib.hid hG
  have Z0 := sane_new (Cfg.fits hok)
  have HMK := Lib.hid (fun pc L W h (hi : In W h) (hc : CoreH pc L (coreNew C) h) => sane_make_call pc L Z0 0 1 0 W h hi hc)
  have HST := Lib.hid (fun pc L W h (hi : In W h) (hc : CoreH pc L ((coreNew C).make 0 1 0) h) => core_set pc L ((coreNew C).make 0 1 0) 0 0 0 W h hi hc)
  rw [e1] at HMK
  rw [e2] at HST
  clear ha hb hc hd hok hcc e1 e2 hG Z0
  simp only [cfgCells] at hcfg
  simp only [ptr] at HMK HST
  go_enter Tryz.func7, Tryz.ntmps7
  go_upto_block 0 with (first
    | (go_at_call 9; refine Calls.mono hcfg ?_; rintro e v0 ⟨rfl, x0⟩; clear hcfg)
    | (go_at_call 10; rw [← HCC.out]; refine Calls.mono (core_new C HOK.out _) ?_; rintro e w0 ⟨pc, L, h0, rfl, c0, u0⟩; have U0 := ((x0.alloc' (.cells (cfgCells C) 24 (0, 0))).more u0).perm (List.Perm.refl _) List.perm_append_comm; have E0 := Lib.hid c0; clear x0 u0 c0; simp only [ptr])
    | (go_at_call 11; refine Calls.mono (law_awake _) ?_; rintro e w1 ⟨rfl, x1⟩; have U1 : Upd [] ((v0.heap.size, .cells (cfgCells C) 24 (0, 0)) :: h0) w w1 := U0.under0 x1; clear U0 x1)
    | (go_at_call 12; with_reducible refine Calls.mono (HMK.out _ _ _ _ U1.inn.tail E0.out) ?_; rintro e w2 ⟨rfl, h2, c2, u2⟩; have U2 := U1.under u2; have C2 := Lib.hid c2; clear U1 u2 c2 E0)
    | (go_at_call 25; with_reducible refine Calls.mono (HST.out _ _ _ _ U2.inn.tail C2.out) ?_; rintro e w3 ⟨rfl, h3, c3, u3⟩; have U3 := U2.under u3; have HX0 : Hid (GrowL v0.heap.size pc L C 0 w w3) := Lib.hid ⟨_, h3, HG.out, c3, U3⟩; clear U2 u3 c3 C2 U3))
  generalize v0.heap.size = pg at *
  go_wp2
  go_loopw [14] (fun q wr => ∃ (k : Nat), k ≤ m ∧ q = .int .i64 (k + 1 : Nat) ∧ Hid (GrowL pg pc L C k w wr)) (fun q _ => m + 1 - (intOf q).toNat)
  case atStart => exact ⟨0, by omega, rfl, HX0⟩
  case round =>
    obtain ⟨k, hk, rfl, HV⟩ := hrel
    obtain ⟨s, h, F, hc, U⟩ := HV.out
    by_cases hkm : k < m
    · have hkm1 : ((k + 1 : Nat) : Int) ≤ (t % 12) := by omega
      obtain ⟨hsok, n, hn9, hmv, hmvn, F1⟩ := F.cycle (by omega) HF.out g1 g2 g3
      have Z := (F.look g4).1
      have ZS := Lib.hid Z.startS
      have hst := sane_start_call pc L Z
      rw [hsok] at hst
      have HST1 := Lib.hid hst
      have HU := Lib.hid U
      have HC := Lib.hid hc
      have HMV := Lib.hid hmv
      have HMN := Lib.hid hmvn
      have HF1 := Lib.hid F1
      clear HV U hc F Z hst hmv hmvn hsok F1 HMK HST HX0
      generalize s.startS = s1 at *
      simp only [ptr] at HST1
      go_wp2_with (go_at_call 15; refine Calls.mono (HST1.out _ _ HU.out.inn.tail HC.out) ?_; rintro e w4 ⟨rfl, h4, c4, u4⟩; have U4 : Hid (∃ h, CoreH pc L (s1.minSteps 0) h ∧ Upd [] ((pg, .cells (cfgCells C) 24 (0, 0)) :: h) w w4) := Lib.hid ⟨h4, c4, HU.out.under u4⟩; clear c4 u4)
      clear HU HC HST1
      go_loopw [15] (fun q wr => ∃ (j : Nat), j ≤ n ∧ q = .int .i64 j ∧ Hid (∃ h, CoreH pc L (s1.minSteps j) h ∧ Upd [] ((pg, .cells (cfgCells C) 24 (0, 0)) :: h) w wr)) (fun q _ => n - (intOf q).toNat)
      case atStart => exact ⟨0, by omega, rfl, U4⟩
      case round =>
        obtain ⟨j, hjn, rfl, HV⟩ := hrel
        obtain ⟨h5, c5, u5⟩ := HV.out
        have v5 := (c5.vars (x := [_]) u5.inn).2
        have hj4 : (j : Int) < 100 := by omega
        by_cases hlt2 : j < n
        · have hmk := HMV.out j hlt2
          rw [hmk] at v5
          have hst := sane_step_call pc L (ZS.out.minSteps j) _ h5 u5.inn.tail c5
          have HU5 := Lib.hid u5
          simp only [ptr] at hst
          clear hmk HV u5 c5 U4
          generalize (s1.minSteps j).minN = mN at *
          generalize (s1.minSteps j).minB = mB at *
          go_wp2_with (go_at_call 16; refine Calls.mono hst ?_; rintro e w6 ⟨rfl, h6, c6, u6⟩; have U6 : Hid (∃ h, CoreH pc L (s1.minSteps (j + 1)) h ∧ Upd [] ((pg, .cells (cfgCells C) 24 (0, 0)) :: h) w w6) := Lib.hid ⟨h6, c6, HU5.out.under u6⟩; clear c6 u6)
          go_roundw
          case rel => exact ⟨j + 1, by omega, by go_num, U6⟩
          case measure => simp [intOf]; omega
        · have hjn' : j = n := by omega
          subst hjn'
          rw [HMN.out] at v5
          obtain ⟨ZE, a1, a2, a3, a4, a5, b1, b2, b3, F2, b4, b5⟩ := HF1.out.look g4
          obtain ⟨ZF, _⟩ := F2.look g4
          have hptr := c5.ptrs (x := [_]) u5.inn
          have r13 := hptr.1
          have r18 := hptr.2.2.2.2.2
          have HU5 := Lib.hid u5
          have C5 := Lib.hid c5
          have HF2 := Lib.hid F2
          clear HV u5 c5 U4 HF1 HMN HMV ZS hptr F2 hjn hlt2
          generalize s1.minSteps j = e at *
          have hE : headE e.ws (tblGet e.t 0) = 0 := by
            unfold headE
            rw [show hasW e.ws.length (tblGet e.t 0) 1 = true from decide_eq_true (by omega), if_pos rfl, a3, if_pos rfl]
          have HTG := Lib.hid (fun W h (hi : In W h) (hc : CoreH pc L e h) => core_tget pc L e 0 W h hi hc)
          have HOH := Lib.hid (fun W h (hi : In W h) (hc : CoreH pc L e h) => core_ohead pc L e (tblGet e.t 0) W h hi hc)
          have HSA := Lib.hid (fun W h (hi : In W h) (hc : CoreH pc L e h) => core_same pc L e 0 0 W h hi hc)
          have HGT := Lib.hid (fun W h (hi : In W h) (hc : CoreH pc L e h) => sane_get_call pc L ZE 1 0 0 W h hi hc)
          have HSB := Lib.hid (fun W h (hi : In W h) (hc : CoreH pc L (e.gotM 1 0 0) h) => core_same pc L (e.gotM 1 0 0) 0 1 W h hi hc)
          rw [hE] at HOH
          rw [b1, b2] at HSA
          rw [b3] at HGT
          rw [b4, b5] at HSB
          clear ZE ZF a1 a2 a3 b1 b2 b3 b4 b5 hE
          generalize headS e.ws (tblGet e.t 0) = H at *
          generalize tblGet e.t 0 = at0 at *
          generalize tblErr e.t 0 = er0 at *
          obtain ⟨x0, x1, x2, x3, x4, x5, x6⟩ := H
          simp only at a4 a5
          have hsx : ∀ (W : World) (h : Hp), Upd [] ((W.heap.size, .cells (hdCells ⟨x0, x1, x2, x3, x4, x5, x6⟩) 65 (0, 0)) :: (pg, .cells (cfgCells C) 24 (0, 0)) :: h) w (W.alloc (.cells (hdCells ⟨x0, x1, x2, x3, x4, x5, x6⟩) 65)) →
              (W.alloc (.cells (hdCells ⟨x0, x1, x2, x3, x4, x5, x6⟩) 65)).cell? ⟨W.heap.size, 6, none⟩ = some (.bool x6) ∧ (W.alloc (.cells (hdCells ⟨x0, x1, x2, x3, x4, x5, x6⟩) 65)).cell? ⟨W.heap.size, 2, none⟩ = some (.int .i64 x2) ∧ (W.alloc (.cells (hdCells ⟨x0, x1, x2, x3, x4, x5, x6⟩) 65)).cell? ⟨pg, 7, none⟩ = some (.int .i64 C.tenure) := by
            intro W h U
            obtain ⟨y0, y1, y2, y3, y4, y5, y6⟩ := hd_cells (x := ⟨x0, x1, x2, x3, x4, x5, x6⟩) U.inn.head
            obtain ⟨z0, z1, z2, z3, z4, z5, z6, z7, _⟩ := cfg_cells (c := C) U.inn.tail.head
            exact ⟨y6, y2, z7⟩
          have HSX := Lib.hid hsx
          clear hsx
          simp only [ptr, hdCells] at HTG HOH HSA HGT HSB HSX r13 r18
          by_cases hT : C.tenure ≤ (k : Int) + 1
          · rw [decide_eq_true hT] at a4
            rw [if_pos hT] at a5
            subst a4 a5
            go_wp2_with (first
              | (go_at_call 26; with_reducible refine Calls.mono (HTG.out _ _ HU5.out.inn.tail C5.out) ?_; rintro en w6 ⟨rfl, rfl⟩)
              | (go_at_call 27; with_reducible refine Calls.mono (HOH.out _ _ HU5.out.inn.tail C5.out) ?_; rintro en w7 ⟨rfl, h7, c7, u7⟩; have U7 := (HU5.out.under u7).alloc' (.cells (hdCells ⟨x0, x1, C.tenure, x3, x4, x5, true⟩) 65 (0, 0)); have t7 := HSX.out _ _ U7; simp only [hdCells] at U7; have C7 := Lib.hid c7; clear u7 c7)
              | (go_at_call 28; with_reducible refine Calls.mono (HSA.out _ _ U7.inn.tail.tail C7.out) ?_; rintro en w8 ⟨rfl, u8⟩; have U8 := U7.drop1.under u8)
              | (go_at_call 29; with_reducible refine Calls.mono (HGT.out _ _ U8.inn.tail C7.out) ?_; rintro en w9 ⟨rfl, h9, c9, u9⟩; have U9 := U8.under u9)
              | (go_at_call 28; with_reducible refine Calls.mono (HSB.out _ _ U9.inn.tail c9) ?_; rintro en w10 ⟨rfl, u10⟩; have U10 := U9.under u10))
            go_roundw
            case rel => exact ⟨k + 1, by omega, by go_num, Lib.hid ⟨_, _, HF2.out, c9, U10⟩⟩
            case measure => simp [intOf]; omega
          · rw [decide_eq_false hT] at a4
            rw [if_neg hT] at a5
            subst a4 a5
            go_wp2_with (first
              | (go_at_call 26; with_reducible refine Calls.mono (HTG.out _ _ HU5.out.inn.tail C5.out) ?_; rintro en w6 ⟨rfl, rfl⟩)
              | (go_at_call 27; with_reducible refine Calls.mono (HOH.out _ _ HU5.out.inn.tail C5.out) ?_; rintro en w7 ⟨rfl, h7, c7, u7⟩; have U7 := (HU5.out.under u7).alloc' (.cells (hdCells ⟨x0, x1, (k : Int) + 1, x3, x4, x5, false⟩) 65 (0, 0)); have t7 := HSX.out _ _ U7; simp only [hdCells] at U7; have C7 := Lib.hid c7; clear u7 c7)
              | (go_at_call 28; with_reducible refine Calls.mono (HSA.out _ _ U7.inn.tail.tail C7.out) ?_; rintro en w8 ⟨rfl, u8⟩; have U8 := U7.drop1.under u8)
              | (go_at_call 29; with_reducible refine Calls.mono (HGT.out _ _ U8.inn.tail C7.out) ?_; rintro en w9 ⟨rfl, h9, c9, u9⟩; have U9 := U8.under u9)
              | (go_at_call 28; with_reducible refine Calls.mono (HSB.out _ _ U9.inn.tail c9) ?_; rintro en w10 ⟨rfl, u10⟩; have U10 := U9.under u10))
            go_roundw
            case rel => exact ⟨k + 1, by omega, by go_num, Lib.hid ⟨_, _, HF2.out, c9, U10⟩⟩
            case measure => simp [intOf]; omega
    · have hkm1 : ¬ (((k + 1 : Nat) : Int) ≤ (t % 12)) := by omega
      go_wp2
      go_ret
      exact ⟨rfl, U.forget (List.nil_sublist _)⟩

end Go.Proofs.YtjjdjipohifgbaaGreat

/- MinorGrows of the statements' package answers true, whatever the input: the given statement. Conditions: none. -/
namespace Go.Proofs.YtjjdjipohifgbaaGreat
open Go.ChangeShapes Go.WideShapes Go.ChangeAt Go.RowKit

set_option maxRecDepth 100000 in
theorem minorGrows_lifted (os : Os) (started : os.Started) (H : Type) (enc : TypeId × Value → H) :
    ReturnsInHanded {} Tryz.checked os 7 .any (Rows.minorGrowsSpec.pre6 enc Tryz.prog Tryz.f7 Rows.minorGrowsRow.domain false) (Rows.minorGrowsSpec.post enc Tryz.prog Tryz.f7 false true false false) := by
  refine returnsInHanded_of_change (C := Tryz.checked) Tryz.own started (by kernel_rfl) Tryz.func7
    (ChangeSpec.witness6 (enc := enc) (C := Tryz.checked) false ⟨#[], #[.int .u8 0, .int .u8 0, .int .u8 0, .int .u8 0, .int .u8 0], []⟩ 8 (by kernel_rfl) (by kernel_rfl) (by kernel_rfl) (by kernel_rfl)) ?_
  intro W base args ds gs before hval0 hW hcnd _
  have hval : ∀ (j : Nat) t v, Tryz.f7.params[j]? = some t → args[j]? = some v → Value.okWide Tryz.prog W .any base t v := hval0
  have hW' := hW
  obtain ⟨p, q, hA0, hV, rfl, hfz, hnd⟩ := hW
  have hA : DataW.TrodAll enc Tryz.prog W 0 (fun _ => true) true Tryz.f7.params.toList args.toList ds p := hA0
  rw [Tryz.params7] at hA hval
  obtain ⟨v0, vs0, d0, ds0, p0, q0, hargs, rfl, rfl, h0, r0⟩ := trodAll_cons hA
  obtain ⟨v1, vs1, d1, ds1, p1, q1, rfl, rfl, rfl, h1, r1⟩ := trodAll_cons r0
  obtain ⟨v2, vs2, d2, ds2, p2, q2, rfl, rfl, rfl, h2, r2⟩ := trodAll_cons r1
  obtain ⟨v3, vs3, d3, ds3, p3, q3, rfl, rfl, rfl, h3, r3⟩ := trodAll_cons r2
  obtain ⟨v4, vs4, d4, ds4, p4, q4, rfl, rfl, rfl, h4, r4⟩ := trodAll_cons r3
  obtain ⟨rfl, rfl, rfl⟩ := trodAll_nil r4
  obtain rfl : args = #[v0, v1, v2, v3, v4] := by cases args; simp_all
  obtain ⟨rfl, rfl⟩ := trodVars_none hV
  obtain ⟨a0, rfl, rfl, rfl, w0⟩ := open_int Tryz.underlying5 (hval 0 5 v0 rfl rfl) h0
  obtain ⟨a1, rfl, rfl, rfl, w1⟩ := open_int Tryz.underlying5 (hval 1 5 v1 rfl rfl) h1
  obtain ⟨a2, rfl, rfl, rfl, w2⟩ := open_int Tryz.underlying5 (hval 2 5 v2 rfl rfl) h2
  obtain ⟨a3, rfl, rfl, rfl, w3⟩ := open_int Tryz.underlying5 (hval 3 5 v3 rfl rfl) h3
  obtain ⟨a4, rfl, rfl, rfl, w4⟩ := open_int Tryz.underlying5 (hval 4 5 v4 rfl rfl) h4
  clear hA0 hval0
  refine (minorGrows_any a0 a1 a2 a3 a4 (U8_wf w0) (U8_wf w1) (U8_wf w2) (U8_wf w3) (U8_wf w4) W).mono fun e W' ⟨he, hu⟩ => ?_
  subst he
  exact ⟨_, rfl, post_below2 (pv := []) hW' (fun _ _ _ => trodAll_cons_mk (shut_bool Tryz.underlying4 _) trodAll_mk0) (trodAll_cons_mk (shut_int Tryz.underlying5 w0) (trodAll_cons_mk (shut_int Tryz.underlying5 w1) (trodAll_cons_mk (shut_int Tryz.underlying5 w2) (trodAll_cons_mk (shut_int Tryz.underlying5 w3) (trodAll_cons_mk (shut_int Tryz.underlying5 w4) trodAll_mk0))))) (fun _ _ => rfl) rfl
    (hu.below.frame _)⟩

theorem minorGrows_holds : Rows.MinorGrowsSaid :=
  OpenClaim.holds_of_wide 7 Tryz.f7 rfl rfl rfl rfl rfl rfl rfl ⟨rfl, rfl, rfl, rfl, rfl⟩ rfl rfl rfl rfl rfl (by kernel_rfl) Tryz.func7 (by kernel_rfl)
    (of_decide_eq_true (by kernel_rfl)) (by unfold Func.isWrapper; first | (rw [if_pos (by decide +kernel)]; kernel_rfl) | (rw [if_neg (by decide +kernel)]; exact ⟨rfl, rfl⟩))
    (fun os started H enc _ => minorGrows_lifted os started H enc)

#print axioms minorGrows_holds
end Go.Proofs.YtjjdjipohifgbaaGreat
