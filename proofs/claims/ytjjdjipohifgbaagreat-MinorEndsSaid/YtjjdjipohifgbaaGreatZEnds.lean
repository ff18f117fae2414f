/- MinorEnds of the statements' package answers true, whatever the input: the given statement. Conditions: none. -/
import Derived.Test.YtjjdjipohifgbaaGreatRows
import Derived.Test.YtjjdjipohifgbaaGreatZF
import Derived.Test.YtjjdjipohifgbaaGreatZE
import Derived.Test.YtjjdjipohifgbaaGreatZG
import Derived.Deep.RegionHeld3
import Derived.Deep.DeepCutAuto
set_option linter.unusedVariables false
set_option linter.unusedSimpArgs false
/- A cycle ends; how much is young then, and what is counted. No program in sight. Condition: the core is as it should be. -/
namespace Go.Proofs.YtjjdjipohifgbaaGreat
open Go.RowKit

theorem minSteps_front (s : CoreS) : ∀ k, s.minSteps (k + 1) = s.minStep.minSteps k
  | 0 => rfl
  | k + 1 => by
    show (s.minSteps (k + 1)).minStep = (s.minStep.minSteps k).minStep
    rw [minSteps_front s k]

/-- without a cycle a bit is nothing -/
theorem step_rest {s : CoreS} (h : s.moving = false) : s.minStep = s ∧ s.minN = 0 ∧ s.minB = false := by
  unfold CoreS.minStep CoreS.minN CoreS.minB CoreS.which
  rw [if_pos h]
  exact ⟨rfl, rfl, rfl⟩
/-- in a cycle a bit is something -/
theorem step_some {s : CoreS} (h : s.moving = true) : 1 ≤ s.minN := by
  unfold CoreS.minN CoreS.which
  rw [if_neg (by rw [h]; decide)]
  have h1 := rowN_bounds s
  have h2 := scanN_bounds s
  split
  · simp only [CoreS.stepNOf]; omega
  · split
    · rename_i x l _
      have := notedN_bounds s.popBuf x
      simp only [CoreS.stepNOf]; omega
    · split
      · rename_i n _
        have := (partN_bounds (s.cardStarts n) (s.popCard n)).1
        simp only [CoreS.stepNOf]; omega
      · split
        · simp only [CoreS.stepNOf]; omega
        · simp only [CoreS.stepNOf]; omega

theorem move_minors (s : CoreS) (a : Int) : (s.move a).done.minors = s.done.minors := by
  unfold CoreS.move
  split
  · rfl
  · split
    · unfold CoreS.moved
      simp only
      split <;> rfl
    · rfl
theorem thrOne_minors (s : CoreS) (a : Int) (k : Nat) : (s.thrOne a k).done.minors = s.done.minors := by
  unfold CoreS.thrOne
  split
  · exact move_minors ..
  · exact move_minors ..
theorem thr_minors (s : CoreS) (a : Int) : ∀ k, (s.thr a k).done.minors = s.done.minors
  | 0 => rfl
  | k + 1 => (thrOne_minors (s.thr a k) a k).trans (thr_minors s a k)
theorem note_minors (s : CoreS) (a : Int) : (s.note a).done.minors = s.done.minors := by rw [(note_others s a).2.2.2.2.2.2.2.2.2.2.2.2]
theorem through_minors (s : CoreS) (a : Int) : (s.through a).done.minors = s.done.minors := by
  unfold CoreS.through
  split
  · rw [note_minors]; exact thr_minors ..
  · exact thr_minors ..
theorem noted_minors (s : CoreS) (a : Int) : (s.notedS a).done.minors = s.done.minors := by
  unfold CoreS.notedS
  split
  · exact through_minors ..
  · rfl
theorem part_minors : ∀ (s : CoreS) (l : List Int), (s.partS l).done.minors = s.done.minors
  | s, [] => rfl
  | s, a :: l => (part_minors (s.notedS a) l).trans (noted_minors s a)
theorem row_minors (s : CoreS) : s.rowS.done.minors = s.done.minors := by
  unfold CoreS.rowS
  split
  · exact through_minors ..
  · rfl

/-- a bit, or the end -/
theorem step_way {s : CoreS} {cur oth : List Int} (I : Inv s cur oth NoI NoI) (hmv : s.moving = true) :
    (s.minB = true ∧ s.minStep.meas 1 ≤ s.meas 1 ∧ s.minStep.done.minors = s.done.minors) ∨ (s.minB = false ∧ s.minStep = s.finishS ∧ s.row = []) := by
  have key : (stepBOf s.which = true ∧ (s.stepOf s.which).meas 1 ≤ s.meas 1 ∧ (s.stepOf s.which).done.minors = s.done.minors) ∨ (stepBOf s.which = false ∧ s.stepOf s.which = s.finishS ∧ s.row = []) := by
    unfold CoreS.which
    rw [if_neg (by rw [hmv]; decide)]
    by_cases hr : 0 < s.row.length
    · rw [if_pos hr]
      left
      obtain ⟨h1, _⟩ := row_meas I hmv (c := 1) (.inl rfl) hr
      refine ⟨rfl, ?_, row_minors s⟩
      show s.rowS.meas 1 ≤ s.meas 1
      omega
    · rw [if_neg hr]
      cases hx : s.r.tb.list with
      | cons x l =>
        left
        obtain ⟨h1, _⟩ := noted_meas (popBuf_inv I hmv hx) hmv (c := 1) (.inl rfl) x
        exact ⟨rfl, h1, noted_minors _ _⟩
      | nil =>
        cases hf : s.r.tc.first with
        | some n =>
          left
          obtain ⟨IP, ho⟩ := popCard_inv I hmv hx n
          obtain ⟨h1, _⟩ := part_meas (c := 1) (.inl rfl) (s.cardStarts n) IP hmv ho
          exact ⟨rfl, h1, part_minors _ _⟩
        | none =>
          by_cases hs' : s.scanOk = true
          · simp only [hs', if_true]
            left
            obtain ⟨hsc, c1, L, I2, hq⟩ := scan_inv I hmv hs'
            have h1 := look_meas I hmv (c := 1) (.inl rfl) (E := NoI) (.inl hsc)
            exact ⟨rfl, h1, through_minors s _⟩
          · simp only [hs']
            right
            exact ⟨rfl, rfl, List.length_eq_zero_iff.1 (by omega)⟩
  exact key

/-- a cycle ends -/
theorem ends_at : ∀ (f : Nat) {s : CoreS} {cur oth : List Int} (_ : Inv s cur oth NoI NoI), (s.moving = true → s.todo < f) → ∃ n : Nat, n ≤ f ∧ (∀ k, k < n → (s.minSteps k).moving = true) ∧ (s.minSteps n).moving = false ∧
    (s.moving = true → (s.minSteps n).y.cu ≤ s.meas 1 ∧ (s.minSteps n).done.minors = wrap64 (s.done.minors + 1)) ∧ (s.moving = false → n = 0)
  | f, s, cur, oth, I, h => by
    cases hmv : s.moving with
    | false => exact ⟨0, by omega, fun k hk => by omega, hmv, fun h => (by cases h), fun _ => rfl⟩
    | true =>
      have hf := h hmv
      have hb := (todo_bounds I hmv).1
      cases f with
      | zero => omega
      | succ f =>
        rcases step_way I hmv with ⟨hB, h1, h2⟩ | ⟨hB, h1, h2⟩
        · obtain ⟨_, c1, o1, J, K, hm⟩ := step_inv I
          have ht := step_todo I hB
          have hmv1 := (hm hB).2.2
          obtain ⟨n, n1, n2, n3, n4, n5⟩ := ends_at f J (fun _ => by omega)
          obtain ⟨n6, n7⟩ := n4 hmv1
          refine ⟨n + 1, by omega, ?_, by rw [minSteps_front]; exact n3, fun _ => ⟨by rw [minSteps_front]; omega, by rw [minSteps_front, n7, h2]⟩, fun h => by cases h⟩
          intro k hk
          cases k with
          | zero => exact hmv
          | succ k => rw [minSteps_front]; exact n2 k (by omega)
        · have e : s.minSteps 1 = s.finishS := h1
          refine ⟨1, by omega, ?_, by rw [e]; rfl, fun _ => ?_, fun h => by cases h⟩
          · intro k hk
            obtain rfl : k = 0 := by omega
            exact hmv
          · rw [e]
            obtain ⟨n1, n2, n3, n4, n5, n6, n7, n8, n9, n10⟩ := I.lay.nums
            have hgl := goneW_le I.lay.ro
            have hcp := I.hds.cp
            refine ⟨?_, rfl⟩
            have hcu : s.finishS.y.cu = s.y.cu := by
              show s.y.drop.cu = s.y.cu
              obtain ⟨a1, a2, a3, a4, a5, a6⟩ := s.y
              cases a6 <;> rfl
            rw [hcu]
            unfold CoreS.meas
            omega

/-- of any core that is as it should be -/
theorem CoreS.Sane.ends {s : CoreS} (Z : s.Sane) (hN : 7 * s.C.nursery + 2 * (s.C.buffer + s.C.pages * s.C.page + 1) ≤ 7000) : ∃ n : Nat, n < 3999 ∧ (∀ k, k < n → (s.minSteps k).moving = true) ∧ (s.minSteps n).moving = false ∧
    (s.moving = true → (s.minSteps n).y.cu ≤ s.y.cu + s.y.ou ∧ (s.minSteps n).done.minors = wrap64 (s.done.minors + 1)) ∧ (s.moving = false → n = 0) := by
  obtain ⟨cur, oth, I, _⟩ := Z.inv
  obtain ⟨n1, n2, n3, n4, n5, n6, n7, n8, n9, n10⟩ := I.lay.nums
  obtain ⟨n, m1, m2, m3, m4, m5⟩ := ends_at 3998 I (fun hmv => by
    have h1 := (todo_bounds I hmv).2
    have h2 := I.rem.tc.2.2.2
    have h3 := many_leW (words := s.C.pages * s.C.page) (card := s.C.card) (by omega) I.lay.cf.c1
    have h4 := I.rem.bm.2.2.2
    omega)
  refine ⟨n, by omega, m2, m3, fun hmv => ?_, m5⟩
  obtain ⟨k1, k2⟩ := m4 hmv
  refine ⟨?_, k2⟩
  have hgl := goneW_le I.lay.ro
  have hcp := I.hds.cp
  have hrl := I.hds.rl
  unfold CoreS.meas at k1
  omega

end Go.Proofs.YtjjdjipohifgbaaGreat

/- No more is used than there is. No program in sight. Condition: pages as the calls make them. -/
namespace Go.Proofs.YtjjdjipohifgbaaGreat
open Go.RowKit

theorem sumI_same {f : Int → Int} {z : Int} : ∀ {l : List Int}, (∀ a ∈ l, f a = z) → sumI (l.map f) = (l.length : Int) * z
  | [], _ => by simp [sumI]
  | a :: l, h => by
    have ih := sumI_same (fun b hb => h b (List.mem_cons_of_mem _ hb))
    simp only [List.map_cons, sumI, List.length_cons]
    rw [h a (List.mem_cons_self ..), ih]
    have : (((l.length + 1 : Nat) : Int)) * z = (l.length : Int) * z + z := by
      rw [Int.natCast_add, Int.add_mul]
      simp
    rw [this]
    omega

theorem usedL_end {s : MatS} (v : s.V) : ∀ k : Nat, k ≤ s.pages.length → ∃ e : Int, s.base + s.usedL k ≤ e ∧ s.base ≤ e ∧ 0 ≤ s.usedL k ∧ (∀ j : Nat, k ≤ j → s.begin j < e → ∃ g', s.pages[j]? = some g' ∧ g'.kind = 3) ∧ e ≤ s.begin s.pages.length
  | 0, _ => by
    have hw := v.w16
    have hp : 0 ≤ (s.pages.length : Int) * s.words := Int.mul_nonneg (by omega) (by omega)
    refine ⟨s.base, by simp [MatS.usedL], Int.le_refl _, by simp [MatS.usedL], fun j _ h => ?_, ?_⟩
    · have : 0 ≤ (j : Int) * s.words := Int.mul_nonneg (by omega) (by omega)
      unfold MatS.begin at h
      omega
    · unfold MatS.begin
      omega
  | k + 1, hk => by
    obtain ⟨e, h1, h2, h0, h3, h4⟩ := usedL_end v k (by omega)
    have hw := v.w16
    obtain ⟨g, hg⟩ : ∃ g, s.pages[k]? = some g := ⟨_, List.getElem?_eq_getElem (by omega)⟩
    have hu : s.usedL (k + 1) = s.usedL k + sumI ((s.startsOf k g).map s.sizeOr) := by
      simp [MatS.usedL, MatS.pageUsed, hg]
    have hb : s.begin (k + 1) = s.begin k + s.words := by
      unfold MatS.begin
      have : (((k + 1 : Nat) : Int)) * s.words = (k : Int) * s.words + s.words := by
        rw [Int.natCast_add, Int.add_mul]
        simp
      omega
    have hmono : ∀ i j : Nat, i ≤ j → s.begin i ≤ s.begin j := by
      intro i j hij
      unfold MatS.begin
      have := Int.mul_le_mul_of_nonneg_right (show (i : Int) ≤ j by omega) (show 0 ≤ s.words by omega)
      omega
    have hsz : ∀ a ∈ s.startsOf k g, s.sizeOr a = if g.kind = 2 then pagesN s.words g.size * s.words else g.size := by
      intro a ha
      unfold MatS.sizeOr
      rcases (startsOf_iff v hg).1 ha with ⟨h, he⟩ | ⟨h, n, hn, he⟩
      · rw [(sizeAt_iff v).2 ⟨k, g, hg, .inl ⟨h, he, rfl⟩⟩, if_pos h]
        rfl
      · rw [(sizeAt_iff v).2 ⟨k, g, hg, .inr ⟨h, rfl, n, hn, he⟩⟩, if_neg (by omega)]
        rfl
    rw [hu, sumI_same hsz]
    by_cases k2 : g.kind = 2
    · obtain ⟨z1, z2, z3, z4⟩ := v.big k g hg k2
      obtain ⟨p1, p2, _⟩ := pagesN_bounds (page := s.words) z1 z2 hw
      have hl : s.startsOf k g = [s.begin k] := by unfold MatS.startsOf; rw [if_pos k2]
      have hek : e ≤ s.begin k := by
        by_cases h : s.begin k < e
        · obtain ⟨g', hg', hk'⟩ := h3 k (Nat.le_refl _) h
          rw [hg] at hg'
          cases hg'
          omega
        · omega
      have hpos : 0 ≤ pagesN s.words g.size * s.words := Int.mul_nonneg (by omega) (by omega)
      rw [hl, if_pos k2]
      simp only [List.length_cons, List.length_nil]
      have e1 : (((0 + 1 : Nat) : Int)) * (pagesN s.words g.size * s.words) = pagesN s.words g.size * s.words := by simp
      rw [e1]
      refine ⟨s.begin k + pagesN s.words g.size * s.words, by omega, by omega, by omega, ?_, ?_⟩
      · intro j hj hlt
        have hjk : (j : Int) < k + pagesN s.words g.size := by
          by_cases hh : (j : Int) < k + pagesN s.words g.size
          · exact hh
          · exfalso
            have := Int.mul_le_mul_of_nonneg_right (show (k : Int) + pagesN s.words g.size ≤ j by omega) (show 0 ≤ s.words by omega)
            rw [Int.add_mul] at this
            unfold MatS.begin at hlt
            omega
        obtain ⟨g', hg', hk'⟩ := z4 (j - k) (by omega) (by omega)
        rw [show k + (j - k) = j by omega] at hg'
        exact ⟨g', hg', hk'⟩
      · have := Int.mul_le_mul_of_nonneg_right z3 (show 0 ≤ s.words by omega)
        rw [Int.add_mul] at this
        unfold MatS.begin
        omega
    · rw [if_neg k2]
      by_cases k1 : g.kind = 1
      · obtain ⟨z1, z2, z3, z4⟩ := v.blk k g hg k1
        have hek : e ≤ s.begin k := by
          by_cases h : s.begin k < e
          · obtain ⟨g', hg', hk'⟩ := h3 k (Nat.le_refl _) h
            rw [hg] at hg'
            cases hg'
            omega
          · omega
        have hl : ((s.startsOf k g).length : Int) ≤ g.used.length := by
          unfold MatS.startsOf
          rw [if_neg k2]
          have := startsF_len (s.begin k) g.size g.used 0
          omega
        have hm1 := Int.mul_le_mul_of_nonneg_right hl (show 0 ≤ g.size by omega)
        have hm2 : (g.used.length : Int) * g.size ≤ s.words := by
          rw [z4]
          exact Int.ediv_mul_le _ (by omega)
        have hm3 : 0 ≤ ((s.startsOf k g).length : Int) * g.size := Int.mul_nonneg (by omega) (by omega)
        refine ⟨s.begin (k + 1), by omega, by omega, by omega, ?_, hmono _ _ hk⟩
        intro j hj hlt
        have := hmono (k + 1) j hj
        omega
      · have hl : s.startsOf k g = [] := by
          unfold MatS.startsOf
          rw [if_neg k2, v.oth k g hg k1]
          rfl
        rw [hl]
        refine ⟨e, by simp; omega, h2, by simp; omega, fun j hj => h3 j (by omega), h4⟩

theorem used_le {s : MatS} (v : s.V) : 0 ≤ s.used ∧ s.used ≤ (s.pages.length : Int) * s.words := by
  obtain ⟨e, h1, h2, h0, h3, h4⟩ := usedL_end v s.pages.length (Nat.le_refl _)
  unfold MatS.used
  unfold MatS.begin at h4
  omega

end Go.Proofs.YtjjdjipohifgbaaGreat

/- What acts leave: the configuration, and how many cycles ended; how it is when a cycle has ended. No program in sight. Condition: the core is as it should be. -/
namespace Go.Proofs.YtjjdjipohifgbaaGreat
open Go.RowKit

theorem move_C (s : CoreS) (a : Int) : (s.move a).C = s.C := by
  unfold CoreS.move
  split
  · rfl
  · split
    · exact (moved_other s a).1
    · rfl
theorem mark_keep (s : CoreS) (a : Int) : (s.mark a).C = s.C ∧ (s.mark a).done = s.done ∧ (s.mark a).phase = s.phase := by
  unfold CoreS.mark
  split <;> exact ⟨rfl, rfl, rfl⟩
theorem handles_minors (s : CoreS) (l : List Int) : ∀ k, (s.handles l k).done.minors = s.done.minors ∧ (s.handles l k).C = s.C
  | 0 => ⟨rfl, rfl⟩
  | k + 1 => by
    obtain ⟨h1, h2⟩ := handles_minors s l k
    exact ⟨(move_minors (s.handles l k) _).trans h1, (move_C (s.handles l k) _).trans h2⟩
theorem start_keep (s : CoreS) : s.startS.done.minors = s.done.minors ∧ s.startS.C = s.C := by
  unfold CoreS.startS
  split
  · exact handles_minors s.begun s.t s.t.length
  · exact ⟨rfl, rfl⟩
theorem CoreS.Sane.step_keep {s : CoreS} (Z : s.Sane) : s.minStep.C = s.C ∧ (s.minStep.done.minors = s.done.minors ∨ s.minStep.done.minors = wrap64 (s.done.minors + 1)) := by
  obtain ⟨cur, oth, I, _⟩ := Z.inv
  obtain ⟨_, _, _, _, K, _⟩ := step_inv I
  refine ⟨K.C, ?_⟩
  cases hmv : s.moving with
  | false => rw [(step_rest hmv).1]; exact .inl rfl
  | true =>
    rcases step_way I hmv with ⟨_, _, h⟩ | ⟨_, h, _⟩
    · exact .inl h
    · rw [h]; exact .inr rfl
theorem CoreS.Sane.steps_keep {s : CoreS} (Z : s.Sane) {B : Int} (h0 : 0 ≤ s.done.minors) (h1 : s.done.minors ≤ B) : ∀ k : Nat, B + k ≤ 1000000 → (s.minSteps k).C = s.C ∧ 0 ≤ (s.minSteps k).done.minors ∧ (s.minSteps k).done.minors ≤ B + k
  | 0, _ => ⟨rfl, h0, by show s.done.minors ≤ B + ((0 : Nat) : Int); omega⟩
  | k + 1, hk => by
    obtain ⟨a1, a2, a3⟩ := Z.steps_keep h0 h1 k (by omega)
    obtain ⟨b1, b2⟩ := (Z.minSteps k).step_keep
    refine ⟨b1.trans a1, ?_⟩
    show 0 ≤ (s.minSteps k).minStep.done.minors ∧ (s.minSteps k).minStep.done.minors ≤ B + (k + 1 : Nat)
    rcases b2 with b2 | b2
    · rw [b2]; omega
    · rw [b2, wrap_of ⟨by omega, by omega⟩]; omega
theorem CoreS.Sane.act_keep {s : CoreS} (Z : s.Sane) (x : ActS) {B : Int} (h0 : 0 ≤ s.done.minors) (h1 : s.done.minors ≤ B) (hB : B + 20 ≤ 1000000) (hB0 : 0 ≤ B) : (actS s x).C = s.C ∧ 0 ≤ (actS s x).done.minors ∧ (actS s x).done.minors ≤ B + 20 := by
  have key : ∀ s' : CoreS, s'.C = s.C → s'.done.minors = s.done.minors → s'.C = s.C ∧ 0 ≤ s'.done.minors ∧ s'.done.minors ≤ B + 20 := fun s' e1 e2 => ⟨e1, by rw [e2]; exact h0, by rw [e2]; omega⟩
  unfold actS
  split
  · apply key
    · unfold CoreS.make; split <;> rfl
    · unfold CoreS.make; split <;> rfl
  split
  · apply key
    · unfold CoreS.gotM
      split
      · exact ((mark_keep _ _).1).trans (move_C ..)
      · rfl
    · unfold CoreS.gotM
      split
      · show ((s.move _).mark _).done.minors = _
        rw [(mark_keep _ _).2.1]
        exact move_minors ..
      · rfl
  split
  · apply key
    · unfold CoreS.set CoreS.setTo
      split
      · split
        · exact (note_others _ _).1
        · rfl
      · rfl
    · unfold CoreS.set CoreS.setTo
      split
      · split
        · exact note_minors _ _
        · rfl
      · rfl
  split
  · exact key _ rfl rfl
  split
  · exact key _ rfl rfl
  split
  · exact key _ rfl rfl
  split
  · exact key _ (start_keep s).2 (start_keep s).1
  · obtain ⟨a1, a2, a3⟩ := Z.steps_keep h0 h1 (actN x.a) (by unfold actN; omega)
    have : actN x.a ≤ 20 := by unfold actN; omega
    exact ⟨a1, a2, by omega⟩
theorem runA_keep {s : CoreS} (Z : s.Sane) (h0 : s.done.minors = 0) (l : List ActS) : ∀ k : Nat, k ≤ l.length → k ≤ 100 → (runA s (l.take k)).C = s.C ∧ 0 ≤ (runA s (l.take k)).done.minors ∧ (runA s (l.take k)).done.minors ≤ 20 * k
  | 0, _, _ => ⟨rfl, by show 0 ≤ s.done.minors; omega, by show s.done.minors ≤ _; omega⟩
  | k + 1, h1, h2 => by
    obtain ⟨a1, a2, a3⟩ := runA_keep Z h0 l k (by omega) (by omega)
    obtain ⟨b1, b2, b3⟩ := (Z.runA (l.take k)).act_keep l[k] a2 a3 (by omega) (by omega)
    rw [runA_snoc s l k (by omega)]
    exact ⟨b1.trans a1, b2, by omega⟩

/-- how it is when a cycle has ended -/
structure Ended (s e : CoreS) : Prop where
  mv : e.moving = false
  ou : e.y.ou = 0
  cp : e.copied = 0
  young : e.statsS.young ≤ s.statsS.young
  all : wrap64 (e.statsS.young + e.statsS.old) ≤ wrap64 (wrap64 (s.statsS.young + s.statsS.old) + wrap64 (s.C.pages * s.C.page))
  minors : decide (e.statsS.minors = wrap64 (s.statsS.minors + 1)) = s.moving
  more : s.statsS.minors ≤ e.statsS.minors
theorem CoreS.Sane.ended {s : CoreS} (Z : s.Sane) (h0 : 0 ≤ s.done.minors) (h1 : s.done.minors ≤ 2000) {n : Nat} (hmv : (s.minSteps n).moving = false)
    (hy : s.moving = true → (s.minSteps n).y.cu ≤ s.y.cu + s.y.ou ∧ (s.minSteps n).done.minors = wrap64 (s.done.minors + 1)) (hn : s.moving = false → n = 0) (hC : (s.minSteps n).C = s.C) : Ended s (s.minSteps n) := by
  obtain ⟨cur, oth, I, _⟩ := Z.inv
  obtain ⟨cur', oth', J, _⟩ := (Z.minSteps n).inv
  obtain ⟨r1, r2, r3, r4, r5⟩ := rest_facts J hmv
  obtain ⟨n1, n2, n3, n4, n5, n6, n7, n8, n9, n10⟩ := I.lay.nums
  obtain ⟨m1, m2, m3, m4, m5, m6, m7, m8, m9, m10⟩ := J.lay.nums
  have u1 := used_le I.lay.ov
  have u2 := used_le J.lay.ov
  have e1 : ((s.o.pages.length : Int)) * s.o.words = s.C.pages * s.C.page := by rw [I.lay.ol, I.lay.ow]
  have e2 : (((s.minSteps n).o.pages.length : Int)) * (s.minSteps n).o.words = s.C.pages * s.C.page := by rw [J.lay.ol, J.lay.ow, hC]
  rw [e1] at u1
  rw [e2] at u2
  rw [hC] at m1 m2 m3 m4 m5 m7
  have ey : (s.minSteps n).statsS.young = (s.minSteps n).y.cu := by
    show wrap64 ((s.minSteps n).y.cu + (s.minSteps n).y.ou) = _
    rw [r2, wrap_of ⟨by omega, by omega⟩]
    omega
  have ey0 : s.statsS.young = s.y.cu + s.y.ou := wrap_of ⟨by omega, by omega⟩
  have eo : (s.minSteps n).statsS.old = (s.minSteps n).o.used := rfl
  have eo0 : s.statsS.old = s.o.used := rfl
  have em : (s.minSteps n).statsS.minors = (s.minSteps n).done.minors := rfl
  have em0 : s.statsS.minors = s.done.minors := rfl
  have hyy : (s.minSteps n).y.cu ≤ s.y.cu + s.y.ou := by
    cases hm : s.moving with
    | true => exact (hy hm).1
    | false =>
      rw [hn hm]
      show s.y.cu ≤ _
      omega
  have hcp : (s.minSteps n).copied = 0 := by
    rw [J.hds.cp, r1]
    rfl
  refine ⟨hmv, r2, hcp, by rw [ey, ey0]; exact hyy, ?_, ?_, ?_⟩
  · rw [ey, ey0, eo, eo0, wrap_of (x := (s.minSteps n).y.cu + (s.minSteps n).o.used) ⟨by omega, by omega⟩, wrap_of (x := s.y.cu + s.y.ou + s.o.used) ⟨by omega, by omega⟩, wrap_of (x := s.C.pages * s.C.page) ⟨by omega, by omega⟩, wrap_of ⟨by omega, by omega⟩]
    omega
  · rw [em, em0]
    cases hm : s.moving with
    | true => rw [(hy hm).2]; simp
    | false =>
      rw [hn hm]
      show decide (s.done.minors = wrap64 (s.done.minors + 1)) = false
      rw [wrap_of ⟨by omega, by omega⟩]
      exact decide_eq_false (by omega)
  · rw [em, em0]
    cases hm : s.moving with
    | true => rw [(hy hm).2, wrap_of ⟨by omega, by omega⟩]; omega
    | false => rw [hn hm]; exact Int.le_refl _

/-- what config gives is small -/
theorem cfgOf_small {a b c d : Int} (ha : U8 a) (hb : U8 b) (hc : U8 c) (hd : U8 d) : 7 * (cfgOf a b c d).nursery + 2 * ((cfgOf a b c d).buffer + (cfgOf a b c d).pages * (cfgOf a b c d).page + 1) ≤ 7000 := by
  obtain ⟨a1, a2⟩ := ha
  obtain ⟨b1, b2⟩ := hb
  obtain ⟨c1, c2⟩ := hc
  have h1 : (b / 16 % 12 + 1) * (16 + 16 * (a / 64)) ≤ 12 * 64 := by
    refine Int.mul_le_mul (by omega) (by omega) (by omega) (by omega)
  simp only [cfgOf]
  omega

end Go.Proofs.YtjjdjipohifgbaaGreat

/- What holds of a core without a cycle, and of its handles; what its nursery's calls answer. Condition: the core is as it should be. -/
namespace Go.Proofs.YtjjdjipohifgbaaGreat
open Go.RowKit

theorem CoreS.Sane.handle {s : CoreS} (Z : s.Sane) {x : Int} (hx : x ∈ s.t) : s.y.isFrom x = false ∧ s.now x = x := by
  obtain ⟨cur, oth, I, H⟩ := Z.inv
  refine ⟨?_, I.lay.now_stay (H x hx)⟩
  rcases H x hx with h | h | h
  · exact I.lay.from_old (.inr h)
  · exact I.lay.from_old (.inl h)
  · exact I.lay.from_not (.inl h)
theorem CoreS.Sane.rest {s : CoreS} (Z : s.Sane) (h : s.moving = false) : s.y.ou = 0 ∧ s.copied = 0 := by
  obtain ⟨cur, oth, I, H⟩ := Z.inv
  have ho := I.hds.nm h
  have hr := I.lay.ro
  have hc := I.hds.cp
  rw [ho] at hr hc
  simp only [ORow] at hr
  exact ⟨by omega, by rw [hc]; rfl⟩
theorem core_yleft (pc : Nat) (L : CoreL) (s : CoreS) (w : World) (h : Hp) (hi : In w h) (hc : CoreH pc L s h) :
    Calls Tryz.prog 21 #[.pointer (some ⟨L.py, 0, none⟩)] w fun e w' => e = .returned (.int .i64 s.y.ou) ∧ ∃ h', CoreH pc L s h' ∧ Upd h h' w w' := by
  obtain ⟨v, ha, hy, ho, hr, hg, ht, hw, rfl, ca, cy, co, cr, cg, ct, cw⟩ := hc
  refine Calls.mono (bump_left L.py s.y w hy (In.young (x := []) hi) cy) fun e w' hh => ?_
  exact ⟨hh.1, _, ⟨v, ha, hy, ho, hr, hg, ht, hw, rfl, ca, cy, co, cr, cg, ct, cw⟩, Upd.young (x := []) (Upd.refl hi) hh.2⟩
theorem core_yfrom (pc : Nat) (L : CoreL) (s : CoreS) (i : Int) (hi64 : I64 i) (w : World) (h : Hp) (hi : In w h) (hc : CoreH pc L s h) :
    Calls Tryz.prog 23 #[.pointer (some ⟨L.py, 0, none⟩), .int .i64 i] w fun e w' => e = .returned (.bool (s.y.isFrom i)) ∧ ∃ h', CoreH pc L s h' ∧ Upd h h' w w' := by
  obtain ⟨v, ha, hy, ho, hr, hg, ht, hw, rfl, ca, cy, co, cr, cg, ct, cw⟩ := hc
  refine Calls.mono (bump_from L.py s.y i w hy (In.young (x := []) hi) cy hi64) fun e w' hh => ?_
  exact ⟨hh.1, _, ⟨v, ha, hy, ho, hr, hg, ht, hw, rfl, ca, cy, co, cr, cg, ct, cw⟩, Upd.young (x := []) (Upd.refl hi) hh.2⟩

end Go.Proofs.YtjjdjipohifgbaaGreat

/- MinorKeeps of the statements' package answers true. Conditions: none. -/
namespace Go.Proofs.YtjjdjipohifgbaaGreat
open Go.RowKit

/-- the core behind so many acts -/
def ActL (pc : Nat) (L : CoreL) (s : CoreS) (w wr : World) : Prop := ∃ h, CoreH pc L s h ∧ Upd [] h w wr
theorem Upd.oldcell {w w' : World} {h : Hp} (u : Upd [] h w w') {b o : Nat} {v : Value} (hb : b < w.heap.size) (hc : w.cell? ⟨b, o, none⟩ = some v) : w'.cell? ⟨b, o, none⟩ = some v := by
  rw [u.below.cell (p := ⟨b, o, none⟩) hb]
  exact hc

set_option maxRecDepth 100000 in
set_option maxHeartbeats 4000000 in
theorem minorKeeps_any (a b c d : Int) (sv : Value) (l : List ActS) (ha : U8 a) (hb : U8 b) (hc : U8 c) (hd : U8 d) {w : World} (hs : IsActs w sv l) :
    Calls Tryz.prog 4 #[.int .u8 a, .int .u8 b, .int .u8 c, .int .u8 d, sv] w fun e w' => e = .returned (.bool true) ∧ Upd [] [] w w' := by
  have hok := cfgOf_ok ha hb hc hd
  have hcfg := law_config a b c d ha hb hc hd w
  obtain ⟨hfit, hlen, ao, cap, rfl, hsh⟩ := hs
  have HSc := Lib.hid hsh
  clear ha hb hc hd hsh hfit
  generalize cfgOf a b c d = C at *
  have HZ0 := Lib.hid (sane_new (Cfg.fits hok))
  have HOK := Lib.hid hok
  clear hok
  simp only [cfgCells] at hcfg
  go_enter Tryz.func4, Tryz.ntmps4
  go_wp2_with (first
    | (go_at_call 9; refine Calls.mono hcfg ?_; rintro e v0 ⟨rfl, x0⟩; clear hcfg)
    | (go_at_call 10; refine Calls.mono (core_new C HOK.out _) ?_; rintro e w0 ⟨pc, L, h0, rfl, c0, u0⟩; have U0 := x0.trans u0; clear x0 u0; simp only [ptr])
    | (go_at_call 11; refine Calls.mono (law_awake _) ?_; rintro e w1 ⟨rfl, x1⟩; have U1 := U0.under0 x1; clear U0 x1))
  have HS : Hid (ActL pc L (runA (coreNew C) (l.take 0)) w w1) := ⟨h0, c0, U1⟩
  clear U1 c0
  go_loopw [13] (fun q wr => ∃ (k : Nat), k ≤ l.length ∧ q = .int .i64 k ∧ Hid (ActL pc L (runA (coreNew C) (l.take k)) w wr)) (fun q _ => l.length - (intOf q).toNat)
  case atStart => exact ⟨0, by omega, rfl, HS⟩
  case round =>
    obtain ⟨k, hk, rfl, HW⟩ := hrel
    obtain ⟨h, hW⟩ := HW.out
    have HZ := Lib.hid (HZ0.out.runA (l.take k))
    by_cases hlt : k < l.length
    · by_cases h80 : k < 80
      · obtain ⟨bq, off, rfl, hbl, e0, e1, e2, e3⟩ := HSc.out k hlt
        have hsn := runA_snoc (coreNew C) l k hlt
        have hWr : ∀ W, Upd [] [] w W → W.cell? ⟨bq, off + k * 4, none⟩ = some (.int .i64 l[k].what) ∧ W.cell? ⟨bq, off + k * 4 + 1, none⟩ = some (.int .i64 l[k].a) ∧ W.cell? ⟨bq, off + k * 4 + 2, none⟩ = some (.int .i64 l[k].b) ∧ W.cell? ⟨bq, off + k * 4 + 3, none⟩ = some (.int .i64 l[k].c) :=
          fun W U => ⟨U.oldcell hbl e0, U.oldcell hbl e1, U.oldcell hbl e2, U.oldcell hbl e3⟩
        have HWr := Lib.hid hWr
        generalize runA (coreNew C) (l.take k) = s at *
        generalize l[k] = x at *
        have HSN := Lib.hid hsn
        have HD := Lib.hid (fun W h (hi : In W h) (hc : CoreH pc L s h) => do_act pc L HZ.out x W h hi hc)
        obtain ⟨d0, d1, d2, d3⟩ := hWr wr (hW.2.forget (List.nil_sublist _))
        have HWW := Lib.hid hW
        clear e0 e1 e2 e3 hW HW hWr hsn
        simp only [actCells, ptr] at *
        by_cases hq : x.what < 6 ∧ 0 ≤ x.what
        · obtain ⟨hq1, hq2⟩ := hq
          go_wp2_with (go_at_call 18; refine Calls.mono (HD.out _ _ HWW.out.2.inn HWW.out.1) ?_; rintro e w2 ⟨⟨n, rfl⟩, h2, c2, u2⟩; have U2 : Hid (ActL pc L (actS s x) w w2) := Lib.hid ⟨h2, c2, HWW.out.2.trans u2⟩; clear c2 u2)
          go_roundw
          case rel => exact ⟨k + 1, by omega, by go_num, by rw [HSN.out]; exact U2⟩
          case measure => simp [intOf]; omega
        · have hsame := HZ.out.shown_act x hq 1048576
          have HSH := Lib.hid (fun W h (hi : In W h) (hc : CoreH pc L s h) => law_shown pc L HZ.out W h hi hc)
          have HSH2 := Lib.hid (fun W h (hi : In W h) (hc : CoreH pc L (actS s x) h) => law_shown pc L (HZ.out.act x) W h hi hc)
          rw [hsame] at HSH2
          clear hsame
          generalize s.shown 1048576 = out at *
          simp only [ptr] at HSH HSH2
          by_cases hq1 : x.what < 6
          · have hq2 : ¬ 0 ≤ x.what := fun h => hq ⟨hq1, h⟩
            clear hq
            go_wp2_with (first
              | (go_at_call 18; with_reducible refine Calls.mono (HD.out _ _ U2.out.inn.right C2.out) ?_; rintro e w3 ⟨⟨n, rfl⟩, h3, c3, u3⟩; have C3 := Lib.hid c3; have U3 := Lib.hid (U2.out.underA u3); clear c3 u3)
              | (go_at_call 19; with_reducible refine Calls.mono (HSH.out _ _ HWW.out.2.inn HWW.out.1) ?_; rintro e w2 ⟨v2, hx2, rfl, s2, h2, c2, u2⟩; have S2 := Lib.hid s2; have C2 := Lib.hid c2; have U2 := Lib.hid (HWW.out.2.trans u2); obtain ⟨y0, y1, y2, y3⟩ := HWr.out w2 (U2.out.forget (List.nil_sublist _)); clear s2 c2 u2)
              | (go_at_call 19; with_reducible refine Calls.mono (HSH2.out _ _ U3.out.inn.right C3.out) ?_; rintro e w4 ⟨v4, hx4, rfl, s4, h4, c4, u4⟩; have S4 := Lib.hid s4; have C4 := Lib.hid c4; have U4 := Lib.hid (U3.out.underA u4); clear s4 c4 u4)
              | (go_at_call 20; refine Calls.mono (law_ints out out v2 v4 hx2 hx4 S2.out S4.out _ h4 (by rw [List.append_assoc]; exact U4.out.inn)) ?_; rintro e w5 ⟨rfl, u5⟩; rw [decide_eq_true rfl]; have U5 : Hid (ActL pc L (actS s x) w w5) := Lib.hid ⟨h4, C4.out, (U4.out.trans (by rw [List.append_assoc] at u5; exact u5)).forget (by rw [← List.append_assoc]; exact List.sublist_append_right _ _)⟩; clear u5))
            go_roundw
            case rel => exact ⟨k + 1, by omega, by go_num, by rw [HSN.out]; exact U5⟩
            case measure => simp [intOf]; omega
          · clear hq
            go_wp2_with (first
              | (go_at_call 18; with_reducible refine Calls.mono (HD.out _ _ U2.out.inn.right C2.out) ?_; rintro e w3 ⟨⟨n, rfl⟩, h3, c3, u3⟩; have C3 := Lib.hid c3; have U3 := Lib.hid (U2.out.underA u3); clear c3 u3)
              | (go_at_call 19; with_reducible refine Calls.mono (HSH.out _ _ HWW.out.2.inn HWW.out.1) ?_; rintro e w2 ⟨v2, hx2, rfl, s2, h2, c2, u2⟩; have S2 := Lib.hid s2; have C2 := Lib.hid c2; have U2 := Lib.hid (HWW.out.2.trans u2); obtain ⟨y0, y1, y2, y3⟩ := HWr.out w2 (U2.out.forget (List.nil_sublist _)); clear s2 c2 u2)
              | (go_at_call 19; with_reducible refine Calls.mono (HSH2.out _ _ U3.out.inn.right C3.out) ?_; rintro e w4 ⟨v4, hx4, rfl, s4, h4, c4, u4⟩; have S4 := Lib.hid s4; have C4 := Lib.hid c4; have U4 := Lib.hid (U3.out.underA u4); clear s4 c4 u4)
              | (go_at_call 20; refine Calls.mono (law_ints out out v2 v4 hx2 hx4 S2.out S4.out _ h4 (by rw [List.append_assoc]; exact U4.out.inn)) ?_; rintro e w5 ⟨rfl, u5⟩; rw [decide_eq_true rfl]; have U5 : Hid (ActL pc L (actS s x) w w5) := Lib.hid ⟨h4, C4.out, (U4.out.trans (by rw [List.append_assoc] at u5; exact u5)).forget (by rw [← List.append_assoc]; exact List.sublist_append_right _ _)⟩; clear u5))
            go_roundw
            case rel => exact ⟨k + 1, by omega, by go_num, by rw [HSN.out]; exact U5⟩
            case measure => simp [intOf]; omega
      · have HU := Lib.hid hW.2
        clear HW hW
        go_wp2
        go_ret
        exact ⟨rfl, HU.out.forget (List.nil_sublist _)⟩
    · have HU := Lib.hid hW.2
      clear HW hW
      go_wp2
      go_ret
      exact ⟨rfl, HU.out.forget (List.nil_sublist _)⟩

end Go.Proofs.YtjjdjipohifgbaaGreat

/- MinorEnds of the statements' package answers true. Conditions: none. -/
namespace Go.Proofs.YtjjdjipohifgbaaGreat
open Go.RowKit

/-- two rows of numbers that were told, and the core -/
def EndL (pc pb : Nat) (L : CoreL) (s : CoreS) (T : StatS) (w wr : World) : Prop := ∃ h, CoreH pc L s h ∧ Upd [] ((pb, .cells (statCells T) 44 (0, 0)) :: h) w wr

set_option maxRecDepth 100000 in
set_option maxHeartbeats 8000000 in
theorem minorEnds_any (a b c d : Int) (sv : Value) (l : List ActS) (ha : U8 a) (hb : U8 b) (hc : U8 c) (hd : U8 d) {w : World} (hs : IsActs w sv l) :
    Calls Tryz.prog 5 #[.int .u8 a, .int .u8 b, .int .u8 c, .int .u8 d, sv] w fun e w' => e = .returned (.bool true) ∧ Upd [] [] w w' := by
  have hok := cfgOf_ok ha hb hc hd
  have hcfg := law_config a b c d ha hb hc hd w
  obtain ⟨hfit, hlen, ao, cap, rfl, hsh⟩ := hs
  have HSc := Lib.hid hsh
  have hCN := cfgOf_small ha hb hc hd
  clear ha hb hc hd hsh hfit
  generalize cfgOf a b c d = C at *
  have HZ0 := Lib.hid (sane_new (Cfg.fits hok))
  have HOK := Lib.hid hok
  have HCN := Lib.hid hCN
  clear hok hCN
  simp only [cfgCells] at hcfg
  go_enter Tryz.func5, Tryz.ntmps5
  go_wp2_with (first
    | (go_at_call 9; refine Calls.mono hcfg ?_; rintro e v0 ⟨rfl, x0⟩; clear hcfg)
    | (go_at_call 10; refine Calls.mono (core_new C HOK.out _) ?_; rintro e w0 ⟨pc, L, h0, rfl, c0, u0⟩; have U0 := x0.trans u0; clear x0 u0; simp only [ptr])
    | (go_at_call 11; refine Calls.mono (law_awake _) ?_; rintro e w1 ⟨rfl, x1⟩; have U1 := U0.under0 x1; clear U0 x1))
  have HS : Hid (ActL pc L (runA (coreNew C) (l.take 0)) w w1) := ⟨h0, c0, U1⟩
  clear U1 c0
  go_loopw [13] (fun q wr => ∃ (k : Nat), k ≤ l.length ∧ k ≤ 80 ∧ q = .int .i64 k ∧ Hid (ActL pc L (runA (coreNew C) (l.take k)) w wr)) (fun q _ => l.length - (intOf q).toNat)
  case atStart => exact ⟨0, by omega, by omega, rfl, HS⟩
  case round =>
    obtain ⟨k, hk, hk80, rfl, HW⟩ := hrel
    obtain ⟨h, hW⟩ := HW.out
    have HZ := Lib.hid (HZ0.out.runA (l.take k))
    by_cases hlt : k < l.length
    · by_cases h80 : k < 80
      · obtain ⟨bq, off, rfl, hbl, e0, e1, e2, e3⟩ := HSc.out k hlt
        have HSN := Lib.hid (runA_snoc (coreNew C) l k hlt)
        have d0 := hW.2.oldcell hbl e0
        have d1 := hW.2.oldcell hbl e1
        have d2 := hW.2.oldcell hbl e2
        have d3 := hW.2.oldcell hbl e3
        generalize runA (coreNew C) (l.take k) = s at *
        generalize l[k] = x at *
        have HD := Lib.hid (fun W h (hi : In W h) (hc : CoreH pc L s h) => do_act pc L HZ.out x W h hi hc)
        have HWW := Lib.hid hW
        clear e0 e1 e2 e3 hW HW
        simp only [actCells, ptr] at *
        go_wp2_with (go_at_call 18; refine Calls.mono (HD.out _ _ HWW.out.2.inn HWW.out.1) ?_; rintro e w2 ⟨⟨n, rfl⟩, h2, c2, u2⟩; have U2 : Hid (ActL pc L (actS s x) w w2) := Lib.hid ⟨h2, c2, HWW.out.2.trans u2⟩; clear c2 u2)
        go_roundw
        case rel => exact ⟨k + 1, by omega, by omega, by go_num, by rw [HSN.out]; exact U2⟩
        case measure => simp [intOf]; omega
      · obtain ⟨hC, m0, m1⟩ := runA_keep HZ0.out rfl l k hk (by omega)
        generalize runA (coreNew C) (l.take k) = s at *
        have hCs : 7 * s.C.nursery + 2 * (s.C.buffer + s.C.pages * s.C.page + 1) ≤ 7000 := by rw [hC]; exact HCN.out
        obtain ⟨n, hn9, hmvs, hmv, hy, hn0⟩ := HZ.out.ends hCs
        obtain ⟨hCn, _⟩ := HZ.out.steps_keep (B := 2000) m0 (by omega) n (by omega)
        have HE := Lib.hid (HZ.out.ended m0 (by omega) hmv hy hn0 hCn)
        have HMV := Lib.hid hmvs
        have hSt := Lib.hid (fun W h (hi : In W h) (hc : CoreH pc L s h) => sane_stats_call pc L HZ.out W h hi hc)
        have hv0 := (hW.1.vars (x := []) hW.2.inn).2
        have hvd := (hW.1.vars (x := []) hW.2.drew'.inn).2
        have HWW := Lib.hid hW
        have HCn := Lib.hid hCn
        clear HW hW hy hn0 hmvs hC m0 m1 hCs HS hCn
        simp only [ptr] at hSt
        have hsw : ∀ W hc, CoreH pc L s hc → Upd [] hc w W → W.cell? ⟨pc, 21, none⟩ = some (.bool s.moving) := fun W hc hcc U => (hcc.vars (x := []) U.inn).2
        have HSW := Lib.hid hsw
        have UZ := HWW.out.2.drew'
        have UB := (HWW.out.2.alloc' (.cells (statCells stat0) 44 (0, 0))).drew'
        have tZ := hsw _ _ HWW.out.1 UZ
        have tB := hsw _ _ HWW.out.1 UB.drop1
        simp only [statCells, stat0] at UB tB hSt
        clear hsw
        go_wp2
        go_cut [14, 15] (fun v q wx => ∃ pb, v = .pointer (some ⟨pb, 0, none⟩) ∧ q = .bool s.moving ∧ Hid (EndL pc pb L s s.statsS w wx))
        case first =>
          go_region_held3 (fun w' => w'.cell? ⟨pc, 21, none⟩ = some (.bool s.moving))
            (first | (with_reducible exact tZ) | (with_reducible exact tB) | (with_reducible exact t3) | (with_reducible exact t4) | (with_reducible exact t5))
            (first
              | (go_at_call 17; with_reducible refine Calls.mono (hSt.out _ _ UZ.inn HWW.out.1) ?_; rintro e w3 ⟨rfl, h3, c3, u3⟩; have U3 := UZ.trans u3; have t3 := HSW.out _ _ c3 U3; have t4 := HSW.out _ _ c3 (U3.skip' (.cells (statCells stat0) 44 (0, 0))); have t5 := HSW.out _ _ c3 (U3.skip' (.cells (statCells s.statsS) 44 (0, 0))); simp only [statCells, stat0] at t4 t5)
              | (go_at_call 17; with_reducible refine Calls.mono (hSt.out _ _ UB.inn.tail HWW.out.1) ?_; rintro e w3 ⟨rfl, h3, c3, u3⟩; have U3 := UB.under u3; obtain ⟨d0, d1, d2, d3, d4, d5, d6, d7⟩ := stat_cells (d := stat0) U3.inn.head; obtain ⟨f0, f1, f2, f3, f4, f5, f6, f7⟩ := stat_frozen (d := stat0) U3.inn.head; have U4 := Upd.stat (x := stat0) U3 s.statsS; have t3 := HSW.out _ _ c3 (Upd.drop1 U3); have t4 := HSW.out _ _ c3 (Upd.drop1 U4)))
          all_goals (go_wp2_with fail; go_meet; first | exact ⟨_, rfl, rfl, ⟨h3, c3, U4⟩⟩ | exact ⟨_, rfl, rfl, ⟨h3, c3, U3.alloc' (.cells (statCells s.statsS) 44 (0, 0))⟩⟩)
        case rest =>
          obtain ⟨pb, rfl, rfl, HE0⟩ := hcut
          clear tZ tB UZ UB HSW hSt hv0 hvd HWW
          have HS1 : Hid (EndL pc pb L (s.minSteps 0) s.statsS w wc) := HE0
          clear HE0
          go_wp2
          go_loopw [16] (fun q wr => ∃ (k : Nat), k ≤ n ∧ q = .int .i64 k ∧ Hid (EndL pc pb L (s.minSteps k) s.statsS w wr)) (fun q _ => n - (intOf q).toNat)
          case atStart => exact ⟨0, by omega, rfl, HS1⟩
          case round =>
            obtain ⟨k, hkn, rfl, HV⟩ := hrel
            obtain ⟨h4, c4, u4⟩ := HV.out
            have v4 := (c4.vars (x := [_]) u4.inn).2
            have hk4 : (k : Int) < 4000 := by omega
            by_cases hlt2 : k < n
            · have hmk := HMV.out k hlt2
              rw [hmk] at v4
              have hst := sane_step_call pc L (HZ.out.minSteps k) _ h4 u4.inn.tail c4
              have hN := step_some hmk
              have hN1 : ¬ (s.minSteps k).minN < 1 := by omega
              have HU4 := Lib.hid u4
              simp only [ptr] at hst
              clear hmk hN HV u4 c4
              generalize (s.minSteps k).minN = mN at *
              generalize (s.minSteps k).minB = mB at *
              go_wp2_with (go_at_call 16; refine Calls.mono hst ?_; rintro e w5 ⟨rfl, h5, c5, u5⟩; have U5 : Hid (EndL pc pb L (s.minSteps (k + 1)) s.statsS w w5) := Lib.hid ⟨h5, c5, HU4.out.under u5⟩; clear c5 u5)
              go_roundw
              case rel => exact ⟨k + 1, by omega, by go_num, U5⟩
              case measure => simp [intOf]; omega
            · have hkn' : k = n := by omega
              subst hkn'
              have hE := HE.out
              rw [hE.mv] at v4
              obtain ⟨g1, g2, g3⟩ := step_rest hE.mv
              have hst := sane_step_call pc L (HZ.out.minSteps k)
              rw [g1, g2, g3] at hst
              have hsts := sane_stats_call pc L (HZ.out.minSteps k)
              have hlf := core_yleft pc L (s.minSteps k)
              rw [hE.ou] at hlf
              have hmvE := Lib.hid hE.mv
              have hcopE := Lib.hid hE.cp
              obtain ⟨T1, hT1⟩ : ∃ T, T = s.statsS := ⟨_, rfl⟩
              obtain ⟨T2, hT2⟩ : ∃ T, T = (s.minSteps k).statsS := ⟨_, rfl⟩
              have hy1 : ¬ T1.young < T2.young := by rw [hT1, hT2]; have := hE.young; omega
              obtain ⟨A, hA⟩ : ∃ A, IntKind.i64.wrap (T2.young + T2.old) = A := ⟨_, rfl⟩
              obtain ⟨B1, hB1⟩ : ∃ A, IntKind.i64.wrap (T1.young + T1.old) = A := ⟨_, rfl⟩
              obtain ⟨PQ, hPQ⟩ : ∃ A, IntKind.i64.wrap ((s.minSteps k).C.pages * (s.minSteps k).C.page) = A := ⟨_, rfl⟩
              obtain ⟨B, hB⟩ : ∃ A, IntKind.i64.wrap (B1 + PQ) = A := ⟨_, rfl⟩
              have hAB : ¬ B < A := by
                have h := hE.all
                rw [← hT1, ← hT2] at h
                rw [← hA, ← hB, ← hB1, ← hPQ, HCn.out, IntWalk.i64_left, IntWalk.i64_left, IntWalk.i64_left, IntWalk.i64_left]
                omega
              have hM : (T2.minors == wrap64 (T1.minors + 1)) = s.moving := by
                rw [← hE.minors, hT1, hT2]
                rfl
              have hM2 : T1.minors ≤ T2.minors := by rw [hT1, hT2]; exact hE.more
              rw [← hT2] at hsts
              have HU4 : Hid (EndL pc pb L (s.minSteps k) T1 w _) := Lib.hid ⟨h4, c4, by rw [hT1]; exact u4⟩
              have C4 := Lib.hid c4
              have U4 : Hid (Upd [] ((pb, .cells (statCells T1) 44 (0, 0)) :: h4) w _) := Lib.hid (by rw [hT1]; exact u4)
              clear HV u4 c4 hE hT1 hT2 g1 g2 g3 HE HS1 HMV HCn HZ
              generalize s.minSteps k = e at *
              have HST := Lib.hid hst
              have HSS := Lib.hid hsts
              have HLF := Lib.hid hlf
              clear hst hsts hlf
              simp only [ptr, statCells] at HST HSS HLF
              go_wp2_with (first
                | (go_at_call 17; with_reducible refine Calls.mono (HSS.out _ _ U4.out.inn.tail C4.out) ?_; rintro en w5 ⟨rfl, h5, c5, u5⟩; have C5 := Lib.hid c5; have U5 := Lib.hid ((U4.out.under u5).alloc' (.cells (statCells T2) 44 (0, 0))); clear c5 u5)
                | (go_at_call 16; with_reducible refine Calls.mono (HST.out _ _ (by (have := U5.out.inn.tail.tail; simp only [statCells] at this; exact this)) C5.out) ?_; rintro en w6 ⟨rfl, h6, c6, u6⟩; have U6 := Lib.hid (Upd.under U5.out ((Upd.refl U5.out.inn.tail).under (by simp only [statCells]; exact u6))); have C6 := Lib.hid c6; clear c6 u6))
              have hsx : ∀ W hc, CoreH pc L e hc → Upd [] ((w5.heap.size, .cells (statCells T2) 44 (0, 0)) :: (pb, .cells (statCells T1) 44 (0, 0)) :: hc) w W →
                  W.cell? ⟨pc, 21, none⟩ = some (.bool false) ∧ W.cell? ⟨pc, 14, none⟩ = some (.pointer (some ⟨L.py, 0, none⟩)) ∧ W.cell? ⟨pc, 23, none⟩ = some (.int .i64 0) ∧ W.cell? ⟨pc, 2, none⟩ = some (.int .i64 e.C.pages) ∧ W.cell? ⟨pc, 3, none⟩ = some (.int .i64 e.C.page) ∧
                  W.cell? ⟨w5.heap.size, 5, none⟩ = some (.int .i64 T2.young) ∧ W.cell? ⟨w5.heap.size, 6, none⟩ = some (.int .i64 T2.old) ∧ W.cell? ⟨pb, 5, none⟩ = some (.int .i64 T1.young) ∧ W.cell? ⟨pb, 6, none⟩ = some (.int .i64 T1.old) := by
                intro W hc hcc U
                obtain ⟨_, x1, _⟩ := hcc.ptrs (x := [_, _]) U.inn
                have x2 := (hcc.vars (x := [_, _]) U.inn).2
                obtain ⟨v, ha, hy, ho, hr, hg, ht, hw, rfl, ca, cy, co, cr, cg, ct, cw⟩ := hcc
                obtain ⟨_, _, x4, x5, _⟩ := core_cfg (In.core (x := [_, _]) U.inn)
                obtain ⟨_, _, _, _, x3, _⟩ := core_vars (In.core (x := [_, _]) U.inn)
                obtain ⟨_, _, _, _, _, y5, y6, _⟩ := stat_cells (d := T2) U.inn.head
                obtain ⟨_, _, _, _, _, z5, z6, _⟩ := stat_cells (d := T1) U.inn.tail.head
                rw [hmvE.out] at x2
                rw [hcopE.out] at x3
                exact ⟨x2, x1, x3, x4, x5, y5, y6, z5, z6⟩
              have HSX := Lib.hid hsx
              have UZ := U6.out.drew'
              have tZ := hsx _ _ C6.out UZ
              have hyd : decide (T1.young < T2.young) = false := decide_eq_false (by omega)
              have hABd : decide (B < A) = false := decide_eq_false (by omega)
              have HUZ := Lib.hid UZ
              clear hsx UZ C5 U5 C4 U4
              go_region_held3 (fun w' => w'.cell? ⟨pc, 21, none⟩ = some (.bool false) ∧ w'.cell? ⟨pc, 14, none⟩ = some (.pointer (some ⟨L.py, 0, none⟩)) ∧ w'.cell? ⟨pc, 23, none⟩ = some (.int .i64 0) ∧ w'.cell? ⟨pc, 2, none⟩ = some (.int .i64 e.C.pages) ∧ w'.cell? ⟨pc, 3, none⟩ = some (.int .i64 e.C.page) ∧
                  w'.cell? ⟨w5.heap.size, 5, none⟩ = some (.int .i64 T2.young) ∧ w'.cell? ⟨w5.heap.size, 6, none⟩ = some (.int .i64 T2.old) ∧ w'.cell? ⟨pb, 5, none⟩ = some (.int .i64 T1.young) ∧ w'.cell? ⟨pb, 6, none⟩ = some (.int .i64 T1.old))
                (first | (with_reducible exact tZ) | (with_reducible exact t7))
                (first
                  | (go_at_call 21; with_reducible refine Calls.mono (HLF.out _ _ HUZ.out.inn.tail.tail C6.out) ?_; rintro en w7 ⟨rfl, h7, c7, u7⟩; have U7 := Upd.under HUZ.out ((Upd.refl HUZ.out.inn.tail).under u7); have t7 := HSX.out _ _ c7 U7))
              have y3 : w7.cell? ⟨w5.heap.size, 3, none⟩ = some (.int .i64 T2.minors) := (stat_cells (d := T2) U7.inn.head).2.2.2.1
              have z3 : w7.cell? ⟨pb, 3, none⟩ = some (.int .i64 T1.minors) := (stat_cells (d := T1) U7.inn.tail.head).2.2.2.1
              go_wp2
              go_ret
              exact ⟨rfl, U7.forget (List.nil_sublist _)⟩
    · obtain ⟨hC, m0, m1⟩ := runA_keep HZ0.out rfl l k hk (by omega)
      generalize runA (coreNew C) (l.take k) = s at *
      have hCs : 7 * s.C.nursery + 2 * (s.C.buffer + s.C.pages * s.C.page + 1) ≤ 7000 := by rw [hC]; exact HCN.out
      obtain ⟨n, hn9, hmvs, hmv, hy, hn0⟩ := HZ.out.ends hCs
      obtain ⟨hCn, _⟩ := HZ.out.steps_keep (B := 2000) m0 (by omega) n (by omega)
      have HE := Lib.hid (HZ.out.ended m0 (by omega) hmv hy hn0 hCn)
      have HMV := Lib.hid hmvs
      have hSt := Lib.hid (fun W h (hi : In W h) (hc : CoreH pc L s h) => sane_stats_call pc L HZ.out W h hi hc)
      have hv0 := (hW.1.vars (x := []) hW.2.inn).2
      have hvd := (hW.1.vars (x := []) hW.2.drew'.inn).2
      have HWW := Lib.hid hW
      have HCn := Lib.hid hCn
      clear HW hW hy hn0 hmvs hC m0 m1 hCs HS hCn
      simp only [ptr] at hSt
      have hsw : ∀ W hc, CoreH pc L s hc → Upd [] hc w W → W.cell? ⟨pc, 21, none⟩ = some (.bool s.moving) := fun W hc hcc U => (hcc.vars (x := []) U.inn).2
      have HSW := Lib.hid hsw
      have UZ := HWW.out.2.drew'
      have UB := (HWW.out.2.alloc' (.cells (statCells stat0) 44 (0, 0))).drew'
      have tZ := hsw _ _ HWW.out.1 UZ
      have tB := hsw _ _ HWW.out.1 UB.drop1
      simp only [statCells, stat0] at UB tB hSt
      clear hsw
      go_wp2
      go_cut [14, 15] (fun v q wx => ∃ pb, v = .pointer (some ⟨pb, 0, none⟩) ∧ q = .bool s.moving ∧ Hid (EndL pc pb L s s.statsS w wx))
      case first =>
        go_region_held3 (fun w' => w'.cell? ⟨pc, 21, none⟩ = some (.bool s.moving))
          (first | (with_reducible exact tZ) | (with_reducible exact tB) | (with_reducible exact t3) | (with_reducible exact t4) | (with_reducible exact t5))
          (first
            | (go_at_call 17; with_reducible refine Calls.mono (hSt.out _ _ UZ.inn HWW.out.1) ?_; rintro e w3 ⟨rfl, h3, c3, u3⟩; have U3 := UZ.trans u3; have t3 := HSW.out _ _ c3 U3; have t4 := HSW.out _ _ c3 (U3.skip' (.cells (statCells stat0) 44 (0, 0))); have t5 := HSW.out _ _ c3 (U3.skip' (.cells (statCells s.statsS) 44 (0, 0))); simp only [statCells, stat0] at t4 t5)
            | (go_at_call 17; with_reducible refine Calls.mono (hSt.out _ _ UB.inn.tail HWW.out.1) ?_; rintro e w3 ⟨rfl, h3, c3, u3⟩; have U3 := UB.under u3; obtain ⟨d0, d1, d2, d3, d4, d5, d6, d7⟩ := stat_cells (d := stat0) U3.inn.head; obtain ⟨f0, f1, f2, f3, f4, f5, f6, f7⟩ := stat_frozen (d := stat0) U3.inn.head; have U4 := Upd.stat (x := stat0) U3 s.statsS; have t3 := HSW.out _ _ c3 (Upd.drop1 U3); have t4 := HSW.out _ _ c3 (Upd.drop1 U4)))
        all_goals (go_wp2_with fail; go_meet; first | exact ⟨_, rfl, rfl, ⟨h3, c3, U4⟩⟩ | exact ⟨_, rfl, rfl, ⟨h3, c3, U3.alloc' (.cells (statCells s.statsS) 44 (0, 0))⟩⟩)
      case rest =>
        obtain ⟨pb, rfl, rfl, HE0⟩ := hcut
        clear tZ tB UZ UB HSW hSt hv0 hvd HWW
        have HS1 : Hid (EndL pc pb L (s.minSteps 0) s.statsS w wc) := HE0
        clear HE0
        go_wp2
        go_loopw [16] (fun q wr => ∃ (k : Nat), k ≤ n ∧ q = .int .i64 k ∧ Hid (EndL pc pb L (s.minSteps k) s.statsS w wr)) (fun q _ => n - (intOf q).toNat)
        case atStart => exact ⟨0, by omega, rfl, HS1⟩
        case round =>
          obtain ⟨k, hkn, rfl, HV⟩ := hrel
          obtain ⟨h4, c4, u4⟩ := HV.out
          have v4 := (c4.vars (x := [_]) u4.inn).2
          have hk4 : (k : Int) < 4000 := by omega
          by_cases hlt2 : k < n
          · have hmk := HMV.out k hlt2
            rw [hmk] at v4
            have hst := sane_step_call pc L (HZ.out.minSteps k) _ h4 u4.inn.tail c4
            have hN := step_some hmk
            have hN1 : ¬ (s.minSteps k).minN < 1 := by omega
            have HU4 := Lib.hid u4
            simp only [ptr] at hst
            clear hmk hN HV u4 c4
            generalize (s.minSteps k).minN = mN at *
            generalize (s.minSteps k).minB = mB at *
            go_wp2_with (go_at_call 16; refine Calls.mono hst ?_; rintro e w5 ⟨rfl, h5, c5, u5⟩; have U5 : Hid (EndL pc pb L (s.minSteps (k + 1)) s.statsS w w5) := Lib.hid ⟨h5, c5, HU4.out.under u5⟩; clear c5 u5)
            go_roundw
            case rel => exact ⟨k + 1, by omega, by go_num, U5⟩
            case measure => simp [intOf]; omega
          · have hkn' : k = n := by omega
            subst hkn'
            have hE := HE.out
            rw [hE.mv] at v4
            obtain ⟨g1, g2, g3⟩ := step_rest hE.mv
            have hst := sane_step_call pc L (HZ.out.minSteps k)
            rw [g1, g2, g3] at hst
            have hsts := sane_stats_call pc L (HZ.out.minSteps k)
            have hlf := core_yleft pc L (s.minSteps k)
            rw [hE.ou] at hlf
            have hmvE := Lib.hid hE.mv
            have hcopE := Lib.hid hE.cp
            obtain ⟨T1, hT1⟩ : ∃ T, T = s.statsS := ⟨_, rfl⟩
            obtain ⟨T2, hT2⟩ : ∃ T, T = (s.minSteps k).statsS := ⟨_, rfl⟩
            have hy1 : ¬ T1.young < T2.young := by rw [hT1, hT2]; have := hE.young; omega
            obtain ⟨A, hA⟩ : ∃ A, IntKind.i64.wrap (T2.young + T2.old) = A := ⟨_, rfl⟩
            obtain ⟨B1, hB1⟩ : ∃ A, IntKind.i64.wrap (T1.young + T1.old) = A := ⟨_, rfl⟩
            obtain ⟨PQ, hPQ⟩ : ∃ A, IntKind.i64.wrap ((s.minSteps k).C.pages * (s.minSteps k).C.page) = A := ⟨_, rfl⟩
            obtain ⟨B, hB⟩ : ∃ A, IntKind.i64.wrap (B1 + PQ) = A := ⟨_, rfl⟩
            have hAB : ¬ B < A := by
              have h := hE.all
              rw [← hT1, ← hT2] at h
              rw [← hA, ← hB, ← hB1, ← hPQ, HCn.out, IntWalk.i64_left, IntWalk.i64_left, IntWalk.i64_left, IntWalk.i64_left]
              omega
            have hM : (T2.minors == wrap64 (T1.minors + 1)) = s.moving := by
              rw [← hE.minors, hT1, hT2]
              rfl
            have hM2 : T1.minors ≤ T2.minors := by rw [hT1, hT2]; exact hE.more
            rw [← hT2] at hsts
            have HU4 : Hid (EndL pc pb L (s.minSteps k) T1 w _) := Lib.hid ⟨h4, c4, by rw [hT1]; exact u4⟩
            have C4 := Lib.hid c4
            have U4 : Hid (Upd [] ((pb, .cells (statCells T1) 44 (0, 0)) :: h4) w _) := Lib.hid (by rw [hT1]; exact u4)
            clear HV u4 c4 hE hT1 hT2 g1 g2 g3 HE HS1 HMV HCn HZ
            generalize s.minSteps k = e at *
            have HST := Lib.hid hst
            have HSS := Lib.hid hsts
            have HLF := Lib.hid hlf
            clear hst hsts hlf
            simp only [ptr, statCells] at HST HSS HLF
            go_wp2_with (first
              | (go_at_call 17; with_reducible refine Calls.mono (HSS.out _ _ U4.out.inn.tail C4.out) ?_; rintro en w5 ⟨rfl, h5, c5, u5⟩; have C5 := Lib.hid c5; have U5 := Lib.hid ((U4.out.under u5).alloc' (.cells (statCells T2) 44 (0, 0))); clear c5 u5)
              | (go_at_call 16; with_reducible refine Calls.mono (HST.out _ _ (by (have := U5.out.inn.tail.tail; simp only [statCells] at this; exact this)) C5.out) ?_; rintro en w6 ⟨rfl, h6, c6, u6⟩; have U6 := Lib.hid (Upd.under U5.out ((Upd.refl U5.out.inn.tail).under (by simp only [statCells]; exact u6))); have C6 := Lib.hid c6; clear c6 u6))
            have hsx : ∀ W hc, CoreH pc L e hc → Upd [] ((w5.heap.size, .cells (statCells T2) 44 (0, 0)) :: (pb, .cells (statCells T1) 44 (0, 0)) :: hc) w W →
                W.cell? ⟨pc, 21, none⟩ = some (.bool false) ∧ W.cell? ⟨pc, 14, none⟩ = some (.pointer (some ⟨L.py, 0, none⟩)) ∧ W.cell? ⟨pc, 23, none⟩ = some (.int .i64 0) ∧ W.cell? ⟨pc, 2, none⟩ = some (.int .i64 e.C.pages) ∧ W.cell? ⟨pc, 3, none⟩ = some (.int .i64 e.C.page) ∧
                W.cell? ⟨w5.heap.size, 5, none⟩ = some (.int .i64 T2.young) ∧ W.cell? ⟨w5.heap.size, 6, none⟩ = some (.int .i64 T2.old) ∧ W.cell? ⟨pb, 5, none⟩ = some (.int .i64 T1.young) ∧ W.cell? ⟨pb, 6, none⟩ = some (.int .i64 T1.old) := by
              intro W hc hcc U
              obtain ⟨_, x1, _⟩ := hcc.ptrs (x := [_, _]) U.inn
              have x2 := (hcc.vars (x := [_, _]) U.inn).2
              obtain ⟨v, ha, hy, ho, hr, hg, ht, hw, rfl, ca, cy, co, cr, cg, ct, cw⟩ := hcc
              obtain ⟨_, _, x4, x5, _⟩ := core_cfg (In.core (x := [_, _]) U.inn)
              obtain ⟨_, _, _, _, x3, _⟩ := core_vars (In.core (x := [_, _]) U.inn)
              obtain ⟨_, _, _, _, _, y5, y6, _⟩ := stat_cells (d := T2) U.inn.head
              obtain ⟨_, _, _, _, _, z5, z6, _⟩ := stat_cells (d := T1) U.inn.tail.head
              rw [hmvE.out] at x2
              rw [hcopE.out] at x3
              exact ⟨x2, x1, x3, x4, x5, y5, y6, z5, z6⟩
            have HSX := Lib.hid hsx
            have UZ := U6.out.drew'
            have tZ := hsx _ _ C6.out UZ
            have hyd : decide (T1.young < T2.young) = false := decide_eq_false (by omega)
            have hABd : decide (B < A) = false := decide_eq_false (by omega)
            have HUZ := Lib.hid UZ
            clear hsx UZ C5 U5 C4 U4
            go_region_held3 (fun w' => w'.cell? ⟨pc, 21, none⟩ = some (.bool false) ∧ w'.cell? ⟨pc, 14, none⟩ = some (.pointer (some ⟨L.py, 0, none⟩)) ∧ w'.cell? ⟨pc, 23, none⟩ = some (.int .i64 0) ∧ w'.cell? ⟨pc, 2, none⟩ = some (.int .i64 e.C.pages) ∧ w'.cell? ⟨pc, 3, none⟩ = some (.int .i64 e.C.page) ∧
                w'.cell? ⟨w5.heap.size, 5, none⟩ = some (.int .i64 T2.young) ∧ w'.cell? ⟨w5.heap.size, 6, none⟩ = some (.int .i64 T2.old) ∧ w'.cell? ⟨pb, 5, none⟩ = some (.int .i64 T1.young) ∧ w'.cell? ⟨pb, 6, none⟩ = some (.int .i64 T1.old))
              (first | (with_reducible exact tZ) | (with_reducible exact t7))
              (first
                | (go_at_call 21; with_reducible refine Calls.mono (HLF.out _ _ HUZ.out.inn.tail.tail C6.out) ?_; rintro en w7 ⟨rfl, h7, c7, u7⟩; have U7 := Upd.under HUZ.out ((Upd.refl HUZ.out.inn.tail).under u7); have t7 := HSX.out _ _ c7 U7))
            have y3 : w7.cell? ⟨w5.heap.size, 3, none⟩ = some (.int .i64 T2.minors) := (stat_cells (d := T2) U7.inn.head).2.2.2.1
            have z3 : w7.cell? ⟨pb, 3, none⟩ = some (.int .i64 T1.minors) := (stat_cells (d := T1) U7.inn.tail.head).2.2.2.1
            go_wp2
            go_ret
            exact ⟨rfl, U7.forget (List.nil_sublist _)⟩

end Go.Proofs.YtjjdjipohifgbaaGreat

/- MinorEnds of the statements' package answers true, whatever the input: the given statement. Conditions: none. -/
namespace Go.Proofs.YtjjdjipohifgbaaGreat
open Go.ChangeShapes Go.WideShapes Go.ChangeAt Go.RowKit

set_option maxRecDepth 100000 in
theorem minorEnds_lifted (os : Os) (started : os.Started) (H : Type) (enc : TypeId × Value → H) :
    ReturnsInHanded {} Tryz.checked os 5 .any (Rows.minorEndsSpec.pre6 enc Tryz.prog Tryz.f5 Rows.minorEndsRow.domain false) (Rows.minorEndsSpec.post enc Tryz.prog Tryz.f5 false true false false) := by
  refine returnsInHanded_of_change (C := Tryz.checked) Tryz.own started (by kernel_rfl) Tryz.func5
    (ChangeSpec.witness6 (enc := enc) (C := Tryz.checked) false ⟨#[], #[.int .u8 0, .int .u8 0, .int .u8 0, .int .u8 0, .slice none 0 0], []⟩ 8 (by kernel_rfl) (by kernel_rfl) (by kernel_rfl) (by kernel_rfl)) ?_
  intro W base args ds gs before hval0 hW hcnd _
  have hval : ∀ (j : Nat) t v, Tryz.f5.params[j]? = some t → args[j]? = some v → Value.okWide Tryz.prog W .any base t v := hval0
  have hW' := hW
  obtain ⟨p, q, hA0, hV, rfl, hfz, hnd⟩ := hW
  have hA : DataW.TrodAll enc Tryz.prog W 0 (fun _ => true) true Tryz.f5.params.toList args.toList ds p := hA0
  rw [Tryz.params5] at hA hval
  obtain ⟨v0, vs0, d0, ds0, p0, q0, hargs, rfl, rfl, h0, r0⟩ := trodAll_cons hA
  obtain ⟨v1, vs1, d1, ds1, p1, q1, rfl, rfl, rfl, h1, r1⟩ := trodAll_cons r0
  obtain ⟨v2, vs2, d2, ds2, p2, q2, rfl, rfl, rfl, h2, r2⟩ := trodAll_cons r1
  obtain ⟨v3, vs3, d3, ds3, p3, q3, rfl, rfl, rfl, h3, r3⟩ := trodAll_cons r2
  obtain ⟨v4, vs4, d4, ds4, p4, q4, rfl, rfl, rfl, h4, r4⟩ := trodAll_cons r3
  obtain ⟨rfl, rfl, rfl⟩ := trodAll_nil r4
  obtain rfl : args = #[v0, v1, v2, v3, v4] := by cases args; simp_all
  obtain ⟨rfl, rfl⟩ := trodVars_none hV
  obtain ⟨a0, rfl, rfl, rfl, w0⟩ := open_int Tryz.underlying5 (hval 0 5 v0 rfl rfl) h0
  obtain ⟨a1, rfl, rfl, rfl, w1⟩ := open_int Tryz.underlying5 (hval 1 5 v1 rfl rfl) h1
  obtain ⟨a2, rfl, rfl, rfl, w2⟩ := open_int Tryz.underlying5 (hval 2 5 v2 rfl rfl) h2
  obtain ⟨a3, rfl, rfl, rfl, w3⟩ := open_int Tryz.underlying5 (hval 3 5 v3 rfl rfl) h3
  have k4 := h4
  have lt4 : ∀ x ∈ p4, x.block < W.heap.size := by obtain ⟨m, hm⟩ := k4; exact DataW.trod_lt m _ _ _ hm
  obtain ⟨a4, w4⟩ := open_acts (hval 4 51 v4 rfl rfl) h4
  clear hA0 hval0
  refine (minorEnds_any a0 a1 a2 a3 v4 a4 (U8_wf w0) (U8_wf w1) (U8_wf w2) (U8_wf w3) w4).mono fun e W' ⟨he, hu⟩ => ?_
  subst he
  exact ⟨_, rfl, post_below2 (pv := []) hW' (fun _ _ _ => trodAll_cons_mk (shut_bool Tryz.underlying4 _) trodAll_mk0) (trodAll_cons_mk (shut_int Tryz.underlying5 w0) (trodAll_cons_mk (shut_int Tryz.underlying5 w1) (trodAll_cons_mk (shut_int Tryz.underlying5 w2) (trodAll_cons_mk (shut_int Tryz.underlying5 w3) (trodAll_cons_mk (Below.trod Tryz.laidOut (by kernel_rfl) (of_decide_eq_true (by kernel_rfl)) k4 hu.below lt4) trodAll_mk0))))) (fun _ _ => rfl) rfl
    (hu.below.frame _)⟩

theorem minorEnds_holds : Rows.MinorEndsSaid :=
  OpenClaim.holds_of_wide 5 Tryz.f5 rfl rfl rfl rfl rfl rfl rfl ⟨rfl, rfl, rfl, rfl, rfl⟩ rfl rfl rfl rfl rfl (by kernel_rfl) Tryz.func5 (by kernel_rfl)
    (of_decide_eq_true (by kernel_rfl)) (by unfold Func.isWrapper; first | (rw [if_pos (by decide +kernel)]; kernel_rfl) | (rw [if_neg (by decide +kernel)]; exact ⟨rfl, rfl⟩))
    (fun os started H enc _ => minorEnds_lifted os started H enc)

#print axioms minorEnds_holds
end Go.Proofs.YtjjdjipohifgbaaGreat
