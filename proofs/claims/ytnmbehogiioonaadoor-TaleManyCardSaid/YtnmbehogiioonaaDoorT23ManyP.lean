/- Plain law: entries' lines, one behind the other, are read as these entries. No program in sight but the words' laws. -/
import Derived.Test.YtnmbehogiioonaaDoorT23ReadsP
import Derived.Test.YtnmbehogiioonaaDoorT23P
set_option linter.unusedVariables false
set_option linter.unusedSimpArgs false
namespace Go.Proofs.YtnmbehogiioonaaDoor
open Go.RowKit Go.Shelf Go.Lib

/-- an entry's line with its end; of an entry without a line: nothing -/
def lineNl (x : EntS) : List UInt8 := match lineOf x with | some l => l ++ [10] | none => []
def goodOf (l : List EntS) : List EntS := l.filter fun x => (lineOf x).isSome
def textOf (l : List EntS) : List UInt8 := (l.map lineNl).flatten
theorem textOf_snoc (l : List EntS) (x : EntS) : textOf (l ++ [x]) = textOf l ++ lineNl x := by simp [textOf]
theorem goodOf_some {l : List EntS} {x : EntS} {s : List UInt8} (h : lineOf x = some s) : goodOf (l ++ [x]) = goodOf l ++ [x] := by simp [goodOf, h]
theorem goodOf_none {l : List EntS} {x : EntS} (h : lineOf x = none) : goodOf (l ++ [x]) = goodOf l := by simp [goodOf, h]
theorem lineOf_form {x : EntS} {l : List UInt8} (h : lineOf x = some l) : ∃ f ∈ formsL, l = Lib.join (wordsOf x f) [32] := by
  unfold lineOf at h
  cases hfo : formOf x.kind with
  | none => rw [hfo] at h; cases h
  | some f =>
    rw [hfo] at h
    simp only at h
    split at h
    · injection h with h
      unfold formOf at hfo
      split at hfo
      · exact ⟨f, List.mem_of_getElem? hfo, h.symm⟩
      · cases hfo
    · cases h
theorem lineOf_len {x : EntS} (hx : x.Ok) {l : List UInt8} (h : lineOf x = some l) : l.length ≤ 200 := by
  obtain ⟨f, hf, rfl⟩ := lineOf_form h
  exact (words_len hx hf).2
theorem lineOf_no {x : EntS} {l : List UInt8} (h : lineOf x = some l) : ∀ c ∈ l, c ≠ 10 := by
  obtain ⟨f, hf, rfl⟩ := lineOf_form h
  have hw : ∀ w ∈ wordsOf x f, ∀ c ∈ w, c ≠ 10 := by
    have h0 : ∀ f ∈ formsL, ∀ c ∈ f.word, c ≠ 10 := by decide
    intro w hw c hc e
    subst e
    rw [show wordsOf x f = f.word :: ((([x.a, x.b, x.c].take f.size).map Lib.itoa) ++ (if f.scalar then [Lib.decDigits x.v] else [])) from rfl] at hw
    rcases List.mem_cons.1 hw with rfl | hw
    · exact h0 f hf 10 hc rfl
    · rcases List.mem_append.1 hw with hw | hw
      · obtain ⟨n, _, rfl⟩ := List.mem_map.1 hw
        have := (itoa_no n 10 hc).1
        revert this; decide
      · split at hw
        · simp at hw; subst hw
          have := isDig_iff.1 (dec_dig _ 10 hc)
          revert this; decide
        · simp at hw
  have key : ∀ (ws : List (List UInt8)), (∀ w ∈ ws, ∀ c ∈ w, c ≠ 10) → ∀ c ∈ Lib.join ws [32], c ≠ 10 := by
    intro ws h
    cases ws with
    | nil => intro c hc; simp [Lib.join, List.intercalate] at hc
    | cons a r =>
      intro c hc
      rw [join_cons] at hc
      rcases List.mem_append.1 hc with hc | hc
      · exact h a (by simp) c hc
      · unfold joinTail at hc
        obtain ⟨s, hs, hc⟩ := List.mem_flatten.1 hc
        obtain ⟨b, hb, rfl⟩ := List.mem_map.1 hs
        rcases List.mem_append.1 hc with hc | hc
        · simp at hc; rw [hc]; decide
        · exact h b (by simp [hb]) c hc
  exact key _ hw
theorem textOf_len : ∀ (l : List EntS), (∀ x ∈ l, x.Ok) → (textOf l).length ≤ 201 * l.length
  | [], _ => by simp [textOf]
  | x :: r, h => by
    have ih := textOf_len r (fun y hy => h y (by simp [hy]))
    have h1 : (lineNl x).length ≤ 201 := by
      unfold lineNl
      cases hl : lineOf x with
      | none => simp
      | some s => have := lineOf_len (h x (by simp)) hl; simp; omega
    simp only [textOf, List.map_cons, List.flatten_cons, List.length_append, List.length_cons] at ih ⊢
    omega
theorem rd_text : ∀ (l : List EntS) (out : List EntS), (∀ x ∈ l, x.Ok) → out.length + l.length ≤ 65536 → rdGo (linesL (textOf l)) out = .ok (out ++ goodOf l)
  | [], out, _, _ => by simp [textOf, linesL, rdGo, goodOf]
  | x :: r, out, h, hlen => by
    have hr := fun y hy => h y (List.mem_cons_of_mem x hy)
    have e1 : textOf (x :: r) = lineNl x ++ textOf r := by simp [textOf]
    rw [e1]
    simp only [List.length_cons] at hlen
    cases hl : lineOf x with
    | none =>
      have : lineNl x = [] := by unfold lineNl; rw [hl]
      rw [this, List.nil_append, rd_text r out hr (by omega)]
      congr 2
      simp [goodOf, hl]
    | some s =>
      have : lineNl x = s ++ [10] := by unfold lineNl; rw [hl]
      rw [this, List.append_assoc, List.singleton_append, linesL_hit s (textOf r) (lineOf_no hl)]
      simp only [rdGo]
      rw [if_neg (by omega), trimNl_nl, line_step (h x (by simp)) hl]
      simp only
      rw [rd_text r (out ++ [x]) hr (by simp; omega)]
      congr 1
      simp [goodOf, hl]
theorem read_text (l : List EntS) (h : ∀ x ∈ l, x.Ok) (hlen : l.length ≤ 65536) : readOf (textOf l) = .ok (goodOf l) := by
  unfold readOf
  rw [rd_text l [] h (by simpa using hlen)]
  simp

end Go.Proofs.YtnmbehogiioonaaDoor
