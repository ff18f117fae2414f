/- Plain law: a line is the entry that it was written from, and no other text is. No program in sight but the words' laws. -/
import Derived.Test.YtnmbehogiioonaaDoorT23Step
set_option linter.unusedVariables false
set_option linter.unusedSimpArgs false
namespace Go.Proofs.YtnmbehogiioonaaDoor
open Go.RowKit Go.Shelf Go.Lib

theorem stepGo_at (l : List UInt8) (x : EntS) : ∀ (fs : List FormS) (k : Int) (j : Nat) (f : FormS), fs[j]? = some f → (∀ i g, i < j → fs[i]? = some g → tryF l (k + i) g = none) → tryF l (k + j) f = some x → stepGo l fs k = some x
  | [], _, j, f, h, _, _ => by simp at h
  | g :: r, k, 0, f, h, _, h2 => by
    simp at h
    subst h
    simp only [stepGo]
    rw [show k = k + ((0 : Nat) : Int) by simp, h2]
  | g :: r, k, j + 1, f, h, h1, h2 => by
    have h0 := h1 0 g (by omega) (by simp)
    simp only [stepGo]
    rw [show k + ((0 : Nat) : Int) = k by simp] at h0
    rw [h0]
    refine stepGo_at l x r (k + 1) j f (by simpa using h) (fun i g' hi hg => ?_) ?_
    · have := h1 (i + 1) g' (by omega) (by simpa using hg)
      rw [show k + 1 + (i : Int) = k + ((i + 1 : Nat) : Int) by omega]
      exact this
    · rw [show k + 1 + (j : Int) = k + ((j + 1 : Nat) : Int) by omega]
      exact h2
theorem stepGo_some (l : List UInt8) (x : EntS) : ∀ (fs : List FormS) (k : Int), stepGo l fs k = some x → ∃ (j : Nat) (f : FormS), fs[j]? = some f ∧ tryF l (k + j) f = some x
  | [], _, h => by simp [stepGo] at h
  | g :: r, k, h => by
    simp only [stepGo] at h
    cases ht : tryF l k g with
    | some y =>
      rw [ht] at h
      refine ⟨0, g, by simp, ?_⟩
      rw [show k + ((0 : Nat) : Int) = k by simp, ht]
      exact h
    | none =>
      rw [ht] at h
      obtain ⟨j, f, hf, hx⟩ := stepGo_some l x r (k + 1) h
      refine ⟨j + 1, f, by simpa using hf, ?_⟩
      rw [show k + ((j + 1 : Nat) : Int) = k + 1 + (j : Int) by omega]
      exact hx
theorem formOf_at {j : Nat} {f : FormS} (h : formsL[j]? = some f) : formOf (1 + (j : Int)) = some f := by
  have hj : j < 12 := (List.getElem?_eq_some_iff.1 h).1
  unfold formOf
  rw [if_pos (by omega), show (1 + (j : Int) - 1).toNat = j by omega, h]
theorem fits_readX (l : List (List UInt8)) (k : Int) (f : FormS) : fitsS (readX l k f) f = true := by
  unfold fitsS readX
  have h1 : (([(arrN l f.size).getD 0 0, (arrN l f.size).getD 1 0, (arrN l f.size).getD 2 0] : List Int).drop f.size).all (fun n => decide (n = 0)) = true := by
    have e : ([(arrN l f.size).getD 0 0, (arrN l f.size).getD 1 0, (arrN l f.size).getD 2 0] : List Int) = arrN l f.size := rfl
    rw [e, List.all_eq_true]
    intro n hn
    obtain ⟨i, hi⟩ := List.mem_iff_getElem?.1 hn
    rw [List.getElem?_drop] at hi
    unfold arrN at hi
    rw [List.getElem?_map] at hi
    obtain ⟨q, hq, rfl⟩ := Option.map_eq_some_iff.1 hi
    have hlt : f.size + i < 3 := by simpa using (List.getElem?_eq_some_iff.1 hq).1
    have : q = f.size + i := by
      rcases (by omega : f.size + i = 0 ∨ f.size + i = 1 ∨ f.size + i = 2) with e | e | e <;> rw [e] at hq ⊢ <;> simp at hq <;> exact hq.symm
    rw [if_neg (by omega)]
    simp
  rw [h1]
  cases f.scalar <;> simp
/-- what a text is read as is written so -/
theorem step_line {l : List UInt8} {x : EntS} (h : stepOf l = some x) : x.Ok ∧ lineOf x = some l := by
  obtain ⟨j, f, hf, ht⟩ := stepGo_some l x formsL 1 h
  have hj : j < 12 := (List.getElem?_eq_some_iff.1 hf).1
  unfold tryF at ht
  split at ht
  · rename_i hc
    obtain ⟨hc1, hc2⟩ := hc
    have hok : readOk (splitL l) f = true := by
      cases hr : readOk (splitL l) f with
      | true => rfl
      | false => rw [readL_no hr] at hc1; cases hc1
    rw [readL_yes hok] at ht hc2
    injection ht with ht
    simp only at ht hc2
    rw [ht] at hc2
    refine ⟨ht ▸ readX_ok _ _ ⟨by omega, by omega⟩ f, ?_⟩
    have hk : x.kind = 1 + (j : Int) := by rw [← ht]; rfl
    unfold lineOf
    rw [hk, formOf_at hf]
    simp only
    rw [if_pos (by rw [← ht]; exact fits_readX _ _ _), hc2]
  · cases ht

theorem words_no (x : EntS) {f : FormS} (hf : f ∈ formsL) : ∀ w ∈ wordsOf x f, ∀ c ∈ w, c ≠ 32 := by
  have h0 : ∀ f ∈ formsL, ∀ c ∈ f.word, c ≠ 32 := by decide
  intro w hw c hc e
  subst e
  have e1 : wordsOf x f = f.word :: ((([x.a, x.b, x.c].take f.size).map Lib.itoa) ++ (if f.scalar then [Lib.decDigits x.v] else [])) := rfl
  rw [e1] at hw
  rcases List.mem_cons.1 hw with rfl | hw
  · exact h0 f hf 32 hc rfl
  · rcases List.mem_append.1 hw with hw | hw
    · obtain ⟨n, _, rfl⟩ := List.mem_map.1 hw
      have := (itoa_no n 32 hc).1
      revert this; decide
    · split at hw
      · simp at hw; subst hw
        have := isDig_iff.1 (dec_dig _ 32 hc)
        revert this; decide
      · simp at hw
theorem split_line (x : EntS) {f : FormS} (hf : f ∈ formsL) : splitL (Lib.join (wordsOf x f) [32]) = wordsOf x f := splitL_join _ (by simp [wordsOf]) (words_no x hf)
theorem words_apart : ∀ i j : Fin 12, i ≠ j → (formsL.getD i.val ⟨[], 0, false⟩).word ≠ (formsL.getD j.val ⟨[], 0, false⟩).word := by decide

theorem read_words {x : EntS} (hx : x.Ok) {f : FormS} (hf : f ∈ formsL) (hfit : fitsS x f = true) : readOk (wordsOf x f) f = true ∧ readX (wordsOf x f) x.kind f = x := by
  obtain ⟨x0, x1, x2, x3, x4⟩ := x
  obtain ⟨hx0, hx1, hx2, hx3, hx4⟩ := hx
  simp only at hx0 hx1 hx2 hx3 hx4
  have hp := plain_itoa
  have ha1 := atoiV_itoa x1 hx1
  have ha2 := atoiV_itoa x2 hx2
  have ha3 := atoiV_itoa x3 hx3
  have hv := puV_dec x4 hx4
  unfold fitsS at hfit
  simp only [Bool.and_eq_true] at hfit
  obtain ⟨h1, h2⟩ := hfit
  simp only [formsL, List.mem_cons, List.not_mem_nil, or_false] at hf
  rcases hf with rfl | rfl | rfl | rfl | rfl | rfl | rfl | rfl | rfl | rfl | rfl | rfl <;>
    simp at h1 h2 <;>
    refine ⟨?_, ?_⟩ <;>
    simp [readOk, readX, wordsOf, sizeOf, arrN, hp, ha1, ha2, ha3, hv, h1, h2]

/-- a written entry is read as itself -/
theorem line_step {x : EntS} (hx : x.Ok) {l : List UInt8} (h : lineOf x = some l) : stepOf l = some x := by
  unfold lineOf at h
  cases hfo : formOf x.kind with
  | none => rw [hfo] at h; cases h
  | some f =>
    rw [hfo] at h
    simp only at h
    split at h
    · rename_i hfit
      injection h with h
      unfold formOf at hfo
      split at hfo
      · rename_i hk
        obtain ⟨j, hj⟩ : ∃ j : Nat, x.kind = 1 + (j : Int) := ⟨(x.kind - 1).toNat, by omega⟩
        rw [show (x.kind - 1).toNat = j by omega] at hfo
        have hj12 : j < 12 := by omega
        have hf : f ∈ formsL := List.mem_of_getElem? hfo
        have hs : splitL l = wordsOf x f := by rw [← h]; exact split_line x hf
        obtain ⟨hr1, hr2⟩ := read_words hx hf hfit
        refine stepGo_at l x formsL 1 j f hfo (fun i g hi hg => ?_) ?_
        · have hne : (splitL l).getD 0 [] ≠ g.word := by
            rw [hs]
            show f.word ≠ g.word
            have := words_apart ⟨j, hj12⟩ ⟨i, by omega⟩ (by intro e; injection e; omega)
            rw [List.getD_eq_getElem?_getD, List.getD_eq_getElem?_getD, hfo, hg] at this
            exact this
          unfold tryF
          rw [readL_no (by unfold readOk; rw [decide_eq_false hne]; rfl)]
          rw [if_neg (by simp)]
        · unfold tryF
          rw [hs, readL_yes hr1, ← hj, hr2]
          rw [if_pos ⟨rfl, h⟩]
      · cases hfo
    · cases h
theorem line_inj {x y : EntS} (hx : x.Ok) (hy : y.Ok) {l : List UInt8} (h : lineOf x = some l) (h' : lineOf y = some l) : x = y := by
  have h1 := line_step hx h
  rw [line_step hy h'] at h1
  injection h1 with h1
  exact h1.symm

end Go.Proofs.YtnmbehogiioonaaDoor
