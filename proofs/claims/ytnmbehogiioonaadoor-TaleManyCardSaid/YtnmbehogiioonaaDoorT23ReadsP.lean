/- Plain law: a text's lines, one by one. No program in sight but the words' laws. -/
import Derived.Test.YtnmbehogiioonaaDoorT23All
set_option linter.unusedVariables false
set_option linter.unusedSimpArgs false
namespace Go.Proofs.YtnmbehogiioonaaDoor
open Go.RowKit Go.Shelf Go.Lib

theorem trimNl_no {r : List UInt8} (h : ∀ c ∈ r, c ≠ 10) : trimNl r = r := by
  unfold trimNl Lib.trimSuffix Lib.hasSuffix
  rw [if_neg]
  intro hs
  rw [List.isSuffixOf_iff_suffix] at hs
  obtain ⟨t, ht⟩ := hs
  exact h 10 (by rw [← ht]; simp) rfl
theorem trimNl_nl (a : List UInt8) : trimNl (a ++ [10]) = a := by
  unfold trimNl Lib.trimSuffix Lib.hasSuffix
  rw [if_pos (by rw [List.isSuffixOf_iff_suffix]; exact ⟨a, rfl⟩)]
  simp
theorem lines_seg {r : List UInt8} (hr : r ≠ []) {e : Nat} (he : e ≤ r.length) (hno : ∀ i (h : i < r.length), i < e → r[i] ≠ 10) (hend : e = r.length ∨ r[e]? = some 10) :
    ∃ x, linesL r = x :: linesL (r.drop (e + 1)) ∧ trimNl x = r.take e := by
  have hn : ∀ c ∈ r.take e, c ≠ 10 := by
    intro c hc
    obtain ⟨i, hi⟩ := List.mem_iff_getElem?.1 hc
    rw [List.getElem?_take] at hi
    split at hi
    · rename_i hie
      obtain ⟨h, rfl⟩ := List.getElem?_eq_some_iff.1 hi
      exact hno i h hie
    · cases hi
  rcases hend with rfl | h10
  · rw [List.take_length] at hn ⊢
    refine ⟨r, ?_, trimNl_no hn⟩
    rw [linesL_miss r hr hn, List.drop_eq_nil_of_le (by omega)]
    rfl
  · have hlt := (List.getElem?_eq_some_iff.1 h10).1
    have hsplit : r = r.take e ++ 10 :: r.drop (e + 1) := by
      conv => lhs; rw [← List.take_append_drop e r, List.drop_eq_getElem_cons hlt]
      rw [(List.getElem?_eq_some_iff.1 h10).2]
    refine ⟨r.take e ++ [10], ?_, trimNl_nl _⟩
    conv => lhs; rw [hsplit]
    exact linesL_hit _ _ hn

theorem entsCells_at (l : List EntS) (j : Nat) (hj : j < l.length) (i : Nat) (hi : i < 5) : (entsCells l)[j * 5 + i]? = (entCells (l[j])).toList[i]? := by
  induction l generalizing j with
  | nil => simp at hj
  | cons x r ih =>
    have e : entsCells (x :: r) = (entCells x).toList ++ entsCells r := rfl
    rw [e]
    cases j with
    | zero =>
      rw [List.getElem?_append_left (by simp [entCells]; omega)]
      simp
    | succ j =>
      rw [List.getElem?_append_right (by simp [entCells]; omega)]
      have := ih j (by simpa using hj)
      simp only [entCells] at this ⊢
      simp only [List.length_cons, List.length_nil, List.getElem_cons_succ]
      rw [show (j + 1) * 5 + i - (0 + 1 + 1 + 1 + 1 + 1) = j * 5 + i by omega]
      exact this

theorem rdGo_ok : ∀ (xs : List (List UInt8)) (o L : List EntS), rdGo xs o = .ok L → o <+: L
  | [], o, L, h => by simp [rdGo] at h; rw [h]; exact List.prefix_refl _
  | x :: xs, o, L, h => by
    simp only [rdGo] at h
    split at h
    · cases h
    · split at h
      · cases h
      · have := rdGo_ok xs _ L h
        exact (List.prefix_append o _).trans this

end Go.Proofs.YtnmbehogiioonaaDoor
