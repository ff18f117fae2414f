/- A line cut at its blanks. Condition: the library's variables are as its text lays them. -/
import Derived.Test.YtnmbehogiioonaaDoorT23Read
import Derived.Lib.SplitLaws
set_option linter.unusedVariables false
set_option linter.unusedSimpArgs false
namespace Go.Proofs.YtnmbehogiioonaaDoor
open Go.RowKit Go.Shelf Go.Lib

def splitL (s : List UInt8) : List (List UInt8) := Lib.split s [32]
theorem splitL_one {w : List UInt8} (h : ∀ c ∈ w, c ≠ 32) : splitL w = [w] := by
  unfold splitL Lib.split
  have : count w [32] = 0 := by rw [count_one]; exact List.count_eq_zero.2 (fun hc => h 32 hc rfl)
  rw [this]
  rfl
theorem indexByte_word : ∀ (w r : List UInt8), (∀ c ∈ w, c ≠ 32) → indexByte (w ++ 32 :: r) 32 = w.length
  | [], r, _ => by simp [indexByte]
  | c :: w, r, h => by
    have h1 := h c (by simp)
    have ih := indexByte_word w r (fun d hd => h d (by simp [hd]))
    simp only [List.cons_append, indexByte]
    rw [if_neg (by simpa using h1), ih, if_neg (by simp)]
    simp
theorem splitL_cons {w r : List UInt8} (h : ∀ c ∈ w, c ≠ 32) : splitL (w ++ 32 :: r) = w :: splitL r := by
  unfold splitL Lib.split
  have h1 : count (w ++ 32 :: r) [32] = count r [32] + 1 := by
    rw [count_one, count_one, List.count_append, List.count_cons, List.count_eq_zero.2 (fun hc => h 32 hc rfl)]
    simp
  rw [h1, splitK.eq_2, index_one, indexByte_word w r h, if_neg (by simp)]
  simp
theorem splitL_join : ∀ (ws : List (List UInt8)), ws ≠ [] → (∀ w ∈ ws, ∀ c ∈ w, c ≠ 32) → splitL (Lib.join ws [32]) = ws
  | [], h, _ => absurd rfl h
  | [w], _, h => by rw [join_one]; exact splitL_one (h w (by simp))
  | w :: v :: r, _, h => by
    have e : Lib.join (w :: v :: r) [32] = w ++ 32 :: Lib.join (v :: r) [32] := by
      rw [join_cons, join_cons]
      simp [joinTail]
    rw [e, splitL_cons (h w (by simp)), splitL_join (v :: r) (by simp) (fun x hx => h x (by simp at hx ⊢; right; exact hx))]
theorem splitK_len (sep : List UInt8) : ∀ (k : Nat) (s : List UInt8), ∀ x ∈ splitK sep 0 k s, x.length ≤ s.length
  | 0, s, x, hx => by simp [splitK] at hx; rw [hx]; exact Nat.le_refl _
  | k + 1, s, x, hx => by
    unfold splitK at hx
    split at hx
    · simp at hx; rw [hx]; exact Nat.le_refl _
    · rcases List.mem_cons.1 hx with rfl | hx
      · simp only [List.length_take]; omega
      · have := splitK_len sep k _ x hx
        simp only [List.length_drop] at this
        omega
theorem splitL_len (s : List UInt8) : ∀ x ∈ splitL s, x.length ≤ s.length := splitK_len _ _ _
theorem splitK_pos (sep : List UInt8) : ∀ (k : Nat) (s : List UInt8), 0 < (splitK sep 0 k s).length
  | 0, s => by simp [splitK]
  | k + 1, s => by unfold splitK; split <;> simp

theorem split_call (l : List UInt8) (hl : l.length ≤ 1000000000) (w : World) (hL : Laid w) : Calls Tryd.prog 19 #[.string ⟨l.toArray⟩, .string ⟨#[32]⟩] w fun e w' =>
    ∃ v h, e = .returned v ∧ SliceH 9 1 v (splitL l).length (strs (splitL l)) h ∧ Upd [] h w w' := by
  obtain ⟨m, hm⟩ := hL.mx
  have hsz : (⟨l.toArray⟩ : ByteArray).size = l.length := rfl
  refine Calls.mono (Any.strings_Split Tryd.laysSplit (by kernel_rfl) ⟨l.toArray⟩ ⟨#[32]⟩ m w (by omega) hm (by decide)) ?_
  rintro e w' ⟨rfl, rfl⟩
  have e1 := splitB_data ⟨#[32]⟩ 0 (countB ⟨l.toArray⟩ ⟨#[32]⟩) ⟨l.toArray⟩
  have e2 : countB ⟨l.toArray⟩ ⟨#[32]⟩ = count l [32] := by simp [countB]
  have e3 : (splitB ⟨#[32]⟩ 0 (countB ⟨l.toArray⟩ ⟨#[32]⟩) ⟨l.toArray⟩).map (·.data.toList) = splitL l := by
    rw [e1, e2]; simp [splitL, Lib.split]
  have e4 := splitB_all ⟨#[32]⟩ (by decide) 0 _ ⟨l.toArray⟩ rfl
  have e5 : (splitB ⟨#[32]⟩ 0 (countB ⟨l.toArray⟩ ⟨#[32]⟩) ⟨l.toArray⟩).map Value.string = strs (splitL l) := by
    rw [← e3]; simp [strs]
  have e6 : (splitL l).length = countB ⟨l.toArray⟩ ⟨#[32]⟩ + 1 := by rw [← e3, List.length_map, e4]
  rw [e5, ← e6]
  have hmx : (splitL l).length ≤ maxLen := by
    rw [e6, e2, count_one]
    have := List.count_le_length (a := (32 : UInt8)) (l := l)
    unfold maxLen; omega
  have hu := Upd.alloc (In.nil w) (.cells (strs (splitL l)).toArray 9 (0, 0))
  exact ⟨_, _, rfl, SliceH.made (by simp [strs]) hmx, hu⟩

end Go.Proofs.YtnmbehogiioonaaDoor
