/- Plain facts for CoreErrors and CoreSteady: what has an error changes nothing that one sees; what is young needs no note. No program in sight. Conditions: none. -/
import Derived.Test.YtnemfdbllmahkabGreatRows
import Derived.Test.YtnemfdbllmahkabGreatGraphB
set_option linter.unusedVariables false
set_option linter.unusedSimpArgs false
namespace Go.Proofs.YtnemfdbllmahkabGreat
open Go.RowKit

theorem tblSet_err {l : List Int} {i : Int} (h : tblErr l i ≠ 0) (v : Int) : tblSet l i v = l := by
  unfold tblErr at h
  unfold tblSet
  split
  · rename_i ho
    rw [if_pos ho] at h
    exact absurd rfl h
  · rfl

theorem errors_law (s : CoreS) (x : StepS) (h1 : 1 ≤ x.kind) (h2 : x.kind ≤ 10) (he : (ansS s x).e ≠ 0) :
    (ansS s x).yes = false ∧ (ansS s x).n = 0 ∧ (ansS s x).v = 0 ∧ (stepS s x).t = s.t ∧ (stepS s x).ws = s.ws := by
  obtain ⟨k, a, b, c, v⟩ := x
  have hk : k = 1 ∨ k = 2 ∨ k = 3 ∨ k = 4 ∨ k = 5 ∨ k = 6 ∨ k = 7 ∨ k = 8 ∨ k = 9 ∨ k = 10 := by
    have h1' : 1 ≤ k := h1
    have h2' : k ≤ 10 := h2
    omega
  rcases hk with rfl | rfl | rfl | rfl | rfl | rfl | rfl | rfl | rfl | rfl
  · have he' : s.makeE a b c ≠ 0 := he
    refine ⟨rfl, rfl, rfl, ?_, ?_⟩ <;> simp [stepS, CoreS.make, he']
  · have he' : s.refE b c a ≠ 0 := he
    refine ⟨rfl, rfl, rfl, ?_, ?_⟩ <;> simp [stepS, CoreS.got, he']
  · have he' : s.refE a b c ≠ 0 := he
    refine ⟨rfl, rfl, rfl, ?_, ?_⟩ <;> simp [stepS, CoreS.set, he']
  · have he' : s.scalE a b ≠ 0 := he
    refine ⟨rfl, rfl, ?_, rfl, rfl⟩
    show s.readV a b = 0
    unfold CoreS.readV
    split
    · rename_i hc
      unfold CoreS.scalE at he'
      rw [if_pos hc.1, if_pos hc.2] at he'
      unfold errW at he'
      split at he'
      · exact absurd rfl he'
      · rename_i hw
        unfold ldW
        rw [if_neg hw]
    · rfl
  · have he' : s.scalE a b ≠ 0 := he
    refine ⟨rfl, rfl, rfl, rfl, ?_⟩
    show s.writeW a b v = s.ws
    unfold CoreS.writeW
    split
    · rename_i hc
      unfold CoreS.scalE at he'
      rw [if_pos hc.1, if_pos hc.2] at he'
      unfold errW at he'
      split at he'
      · exact absurd rfl he'
      · rename_i hw
        unfold stW
        rw [if_neg hw]
    · rfl
  · have he' : tblErr s.t a ≠ 0 := he
    exact ⟨rfl, rfl, rfl, tblSet_err he' 0, rfl⟩
  · have he' : s.copyE a b ≠ 0 := he
    refine ⟨rfl, rfl, rfl, ?_, rfl⟩
    show s.copyT a b = s.t
    unfold CoreS.copyT
    split
    · rename_i hb
      unfold CoreS.copyE at he'
      rw [if_pos hb] at he'
      exact tblSet_err he' _
    · rfl
  · have he' : s.sameE a b ≠ 0 := he
    refine ⟨?_, rfl, rfl, rfl, rfl⟩
    show s.sameV a b = false
    unfold CoreS.sameE at he'
    unfold CoreS.sameV
    split at he'
    · exact absurd rfl he'
    · rename_i hc
      have hc' : (tblOk s.t a && tblOk s.t b) = false := by simpa using hc
      rw [hc']
      rfl
  · have he' : tblErr s.t a ≠ 0 := he
    refine ⟨?_, rfl, rfl, rfl, rfl⟩
    show s.nilV a = false
    unfold tblErr at he'
    unfold CoreS.nilV
    split at he'
    · exact absurd rfl he'
    · rename_i hc
      have hc' : tblOk s.t a = false := by simpa using hc
      rw [hc']
      rfl
  · have he' : s.objE a ≠ 0 := he
    have hH : s.objH a = hd0 := by unfold CoreS.objH; rw [if_neg he']
    refine ⟨rfl, ?_, ?_, rfl, rfl⟩
    · show (s.objH a).ptrs = 0
      rw [hH]
      rfl
    · show u64 ((s.objH a).size - (s.objH a).ptrs) = 0
      rw [hH]
      rfl

/-- what any handle holds is young -/
theorem Rel.notes {s : CoreS} {g : GraphS} {loc : List Int} (r : Rel s g loc) (f : s.Fine) (i : Int) : s.note (tblGet s.t i) = s := by
  by_cases h : g.wrong i = 0
  · have hH := (r.held f h).1
    rw [hH.ho]
    exact note_young (by rw [hH.headS]; rfl)
  · have hz : tblGet s.t i = 0 := by
      unfold GraphS.wrong at h
      split at h
      · split at h
        · rename_i hz
          rw [r.get, hz]
          exact r.l0
        · exact absurd rfl h
      · rename_i ho
        exact tblGet_out (by rw [r.ok]; simpa using ho)
    rw [hz]
    unfold CoreS.note CoreS.noteOk
    simp

/-- nothing is noted, nothing is grey -/
def CoreS.Bare (s : CoreS) : Prop := s.g.list = [] ∧ s.r.nb.list = []

theorem runS_rg {s : CoreS} (f : s.Fine) (l : List StepS) : (∃ g loc, Rel s g loc) → (runS s l).r = s.r ∧ (runS s l).g = s.g := by
  induction l generalizing s with
  | nil => intro _; exact ⟨rfl, rfl⟩
  | cons x l ih =>
    rintro ⟨g, loc, r⟩
    have hr1 := run_rel f [x] ⟨g, loc, r⟩
    obtain ⟨h1, h2⟩ := ih (f.step x) hr1
    have h3 : (stepS s x).r = s.r ∧ (stepS s x).g = s.g := by
      obtain ⟨k, a, b, c, v⟩ := x
      unfold stepS
      split
      · unfold CoreS.make; split <;> exact ⟨rfl, rfl⟩
      split
      · unfold CoreS.got; split <;> exact ⟨rfl, rfl⟩
      split
      · by_cases h : s.refE a b c = 0
        · have hw : g.wrong a = 0 ∧ tblOk g.hs c = true ∧ inL (g.nd a).ptrs b = true := by
            rw [r.refE f] at h
            split at h
            · rename_i hw
              split at h
              · rename_i hc
                split at h
                · rename_i hb
                  exact ⟨hw, hc, hb⟩
                · cases h
              · cases h
            · rename_i hw
              exact absurd h hw
          have hH := (r.held f hw.1).1
          have hb := inL_iff.1 hw.2.2
          have := hH.set rfl hb.1 hb.2 (k := c) (by rw [r.ok]; exact hw.2.1)
          show (s.set a b c).r = _ ∧ (s.set a b c).g = _
          rw [this]
          exact ⟨rfl, rfl⟩
        · show (s.set a b c).r = _ ∧ (s.set a b c).g = _
          unfold CoreS.set
          rw [if_neg h]
          exact ⟨rfl, rfl⟩
      split
      · exact ⟨rfl, rfl⟩
      split
      · exact ⟨rfl, rfl⟩
      split
      · exact ⟨rfl, rfl⟩
      exact ⟨rfl, rfl⟩
    exact ⟨h1.trans h3.1, h2.trans h3.2⟩

end Go.Proofs.YtnemfdbllmahkabGreat
