/- strings.Lines: what it hands a loop's body, line by line. No condition. -/
import Derived.RangeFuncNested
import Derived.RangeFuncBound
import Derived.RangeFuncCalls
import Derived.RangeFuncLeaves
import Derived.Shelf.Abstract
import Derived.Shelf.RegionOpen
import Derived.WalkKit
import Derived.OwnWalkIn
import Derived.TacticsInMore
import Derived.LoopNIn
import Derived.LoopIn
import Derived.BigRegionIn
import Derived.Shelf.Small.Strs
import Derived.Shelf.Strings.Prefix
import Derived.Test.YtnmbehogiioonaaDoorT23Lay
import Derived.Test.YtnmbehogiioonaaDoorSlice
set_option linter.unusedVariables false
set_option linter.unusedSimpArgs false
namespace Go.Proofs
open Go.Shelf Go.RowKit
shelf_lay Lays.n137 Nm 137 at Tryd as Tryd.laysIndexByte
shelf_lay Lays.n102 Nm 102 at Tryd as Tryd.laysTrimSuffix
end Go.Proofs
namespace Go.Proofs.YtnmbehogiioonaaDoor
open Go.RowKit Go.Shelf Go.Lib
attribute [local go_sem] Oper.semAt_some

/-- a text's lines, each with its end -/
def linesL : List UInt8 → List (List UInt8)
  | [] => []
  | c :: r => if c = 10 then [c] :: linesL r else match linesL r with
    | [] => [[c]]
    | x :: xs => (c :: x) :: xs
theorem linesL_miss : ∀ (s : List UInt8), s ≠ [] → (∀ c ∈ s, c ≠ 10) → linesL s = [s]
  | [], h, _ => absurd rfl h
  | [c], _, h => by simp [linesL, h c (by simp)]
  | c :: d :: r, _, h => by
    have ih := linesL_miss (d :: r) (by simp) (fun x hx => h x (by simp at hx ⊢; right; exact hx))
    rw [linesL, if_neg (h c (by simp)), ih]
theorem linesL_hit : ∀ (s r : List UInt8), (∀ c ∈ s, c ≠ 10) → linesL (s ++ 10 :: r) = (s ++ [10]) :: linesL r
  | [], r, _ => by simp [linesL]
  | c :: s, r, h => by
    have ih := linesL_hit s r (fun x hx => h x (by simp [hx]))
    rw [List.cons_append, linesL, if_neg (h c (by simp)), ih]
    rfl
theorem indexByte_cases (s : List UInt8) : (indexByte s 10 = -1 ∧ ∀ c ∈ s, c ≠ 10) ∨ ∃ a b, s = a ++ 10 :: b ∧ (∀ c ∈ a, c ≠ 10) ∧ indexByte s 10 = (a.length : Int) := by
  induction s with
  | nil => left; exact ⟨rfl, by simp⟩
  | cons c s ih =>
    by_cases hc : c = 10
    · right; exact ⟨[], s, by simp [hc], by simp, by simp [indexByte, hc]⟩
    · rcases ih with ⟨h1, h2⟩ | ⟨a, b, rfl, h2, h3⟩
      · left
        refine ⟨by simp [indexByte, hc, h1], ?_⟩
        intro x hx
        rcases List.mem_cons.1 hx with rfl | hx
        · exact hc
        · exact h2 x hx
      · right
        refine ⟨c :: a, b, rfl, ?_, ?_⟩
        · intro x hx
          rcases List.mem_cons.1 hx with rfl | hx
          · exact hc
          · exact h2 x hx
        · simp only [indexByte]
          rw [if_neg (by simpa using hc), h3, if_neg (by simp)]
          simp

def cellLen (b : Nat) (w : World) : Nat := match w.cell? ⟨b, 0, none⟩ with | some (.string s) => s.size | _ => 0
theorem cellLen_of {b : Nat} {w : World} {s : ByteArray} (h : w.cell? ⟨b, 0, none⟩ = some (.string s)) : cellLen b w = s.size := by unfold cellLen; rw [h]

theorem idx_call (l : List UInt8) (w : World) : Calls Tryd.prog 33 #[.string ⟨l.toArray⟩, .int .u8 10] w fun e w' => e = .returned (.int .i64 (indexByte l 10)) ∧ w' = w := by
  have h := Any.strings_IndexByte Tryd.laysIndexByte ⟨l.toArray⟩ 10 w
  have hd : (⟨l.toArray⟩ : ByteArray).data.toList = l := by simp
  rw [hd] at h
  exact h

set_option maxRecDepth 100000 in
set_option maxHeartbeats 1000000 in
theorem lines_stops (l Bs n : Nat) (hn : 1 ≤ n) (text : List UInt8) (ht : text.length ≤ 1000000000)
    (J : List (List UInt8) → List UInt8 → World → Prop) (Jx : List (List UInt8) → World → Prop)
    (hA : ∀ pre rest W, J pre rest W → W.cell? ⟨Bs, 0, none⟩ = some (.string ⟨rest.toArray⟩) ∧ W.frozen? ⟨Bs, 0, none⟩ = false)
    (hB : ∀ pre rest rest' W, J pre rest W → J pre rest' (W.setCell ⟨Bs, 0, none⟩ (.string ⟨rest'.toArray⟩)) ∧ J pre rest' (W.setCell ⟨Bs, 0, none⟩ (.string ⟨rest'.toArray⟩)).drew)
    (hY : ∀ pre x rest W, J pre rest W → x.length ≤ text.length → pre.length < text.length + 1 → YieldAt Fence.wide (n - 1) Tryd.prog l #[.string ⟨x.toArray⟩] W fun e W' => (e = .returned (.bool true) ∧ J (pre ++ [x]) rest W') ∨ (e = .returned (.bool false) ∧ Jx (pre ++ [x]) W'))
    (W : World) (h0 : J [] text W) :
    CallsIn Fence.wide n Tryd.prog 32 #[.func (.yield l) #[] #[], .pointer (some ⟨Bs, 0, none⟩)] W fun e W' => (∃ v, e = .returned v) ∧
      (J (linesL text) [] W' ∨ ∃ pre, pre <+: linesL text ∧ Jx pre W') := by
  refine callsIn_of_wp Tryd.func32 rfl trivial ?_ rfl
  simp only [Tryd.ntmps32, List.size_toArray, List.length_cons, List.length_nil, Nat.reduceAdd, Nat.reduceSub, Array.replicate_succ, Array.replicate_zero, List.push_toArray, List.append_toArray, List.nil_append, List.cons_append]
  gi_wp2
  gi_loopw [3] (fun q wr => ∃ (pre : List (List UInt8)) (rest : List UInt8), linesL text = pre ++ linesL rest ∧ pre.length + rest.length ≤ text.length ∧ J pre rest wr) (fun _ wr => cellLen Bs wr)
  case atStart => exact ⟨[], text, rfl, by simp, h0⟩
  case round =>
    obtain ⟨pre, rest, hx, hl, hJ⟩ := hrel
    obtain ⟨hc, hf⟩ := hA _ _ _ hJ
    cases rest with
    | nil =>
      have hs0 : (⟨([] : List UInt8).toArray⟩ : ByteArray).size = 0 := rfl
      gi_wp2
      go_end0
      refine ⟨⟨_, rfl⟩, .inl ?_⟩
      rw [hx]
      simpa [linesL] using hJ
    | cons c0 r0 =>
      obtain ⟨rest, hre⟩ : ∃ r, c0 :: r0 = r := ⟨_, rfl⟩
      have hne : rest ≠ [] := by rw [← hre]; simp
      rw [hre] at hx hl hJ hc
      clear hre c0 r0
      have hpos : 0 < rest.length := List.length_pos_iff.2 hne
      have hrl : rest.length ≤ text.length := by omega
      obtain ⟨S, hS⟩ : ∃ s : ByteArray, (⟨rest.toArray⟩ : ByteArray) = s := ⟨_, rfl⟩
      have hsz : S.size = rest.length := by rw [← hS]; rfl
      have hcl : cellLen Bs wr = rest.length := by rw [cellLen_of hc]; rfl
      have HIX := Lib.hid (fun W => callsIn_wide (n := n - 1) |>.2 (idx_call rest W))
      rw [hS] at hc HIX
      have hpz : (0 : Int) < (S.size : Int) := by omega
      rcases indexByte_cases rest with ⟨h1, h2⟩ | ⟨a, b, h1, h2, h3⟩
      · rw [h1] at HIX
        have hJ1 := (hB pre rest [] wr hJ).1
        have hlin := linesL_miss rest hne h2
        have HY := Lib.hid (hY pre rest [] _ hJ1 hrl (by omega))
        obtain ⟨fn, tmps, assign, body, hy, hR⟩ := HY.out
        rw [hS] at hy
        have HR := Lib.hid hR
        clear hR
        gi_wp2_with (refine ⟨trivial, ?_⟩; gi_at_call 33; refine (HIX.out _).mono ?_; rintro e w' ⟨rfl, rfl⟩)
        refine HR.out.mono ?_
        rintro e W3 (⟨rfl, hJ3⟩ | ⟨rfl, hJ3⟩)
        · gi_wp2
          go_roundw
          case rel => exact ⟨pre ++ [rest], [], by rw [hx, hlin]; simp [linesL], by simp; omega, hJ3⟩
          case measure => rw [hcl, cellLen_of (hA _ _ _ hJ3).1]; exact hpos
        · gi_wp2
          refine bodyPost_ret (results_none rfl _ _ _) rfl ?_
          exact ⟨⟨_, rfl⟩, .inr ⟨pre ++ [rest], by rw [hx, hlin]; exact List.prefix_refl _, hJ3⟩⟩
      · rw [h3] at HIX
        have hJ1 := (hB pre rest b wr hJ).2
        have hlin : linesL rest = (a ++ [10]) :: linesL b := by rw [h1]; exact linesL_hit a b h2
        have hal : a.length + 1 + b.length = rest.length := by rw [h1]; simp; omega
        have e1 : S.extract 0 (a.length + 1) = ⟨(a ++ [10]).toArray⟩ := by
          rw [← hS, h1]
          apply ByteArray.ext
          simp [ByteArray.data_extract]
          rw [List.take_append, List.take_of_length_le (by omega)]
          simp
        have e2 : S.extract (a.length + 1) (a.length + (b.length + 1)) = ⟨b.toArray⟩ := by
          rw [← hS, h1]
          apply ByteArray.ext
          simp [ByteArray.data_extract]
          rw [show a.length + (b.length + 1) - (a.length + 1) = b.length by omega, List.take_length]
        have HY := Lib.hid (hY pre (a ++ [10]) b _ hJ1 (by simp; omega) (by omega))
        obtain ⟨fn, tmps, assign, body, hy, hR⟩ := HY.out
        have HR := Lib.hid hR
        clear hR
        have hza : (0 : Int) ≤ (a.length : Int) := by omega
        have hzb : (a.length : Int) + 1 ≤ (S.size : Int) := by omega
        have hzw : IntKind.i64.wrap ((a.length : Int) + 1) = (a.length : Int) + 1 := IntWalk.i64_in _ (by omega)
        gi_wp2_with (refine ⟨trivial, ?_⟩; gi_at_call 33; refine (HIX.out _).mono ?_; rintro e w' ⟨rfl, rfl⟩)
        gi_region
        gi_wp2
        refine HR.out.mono ?_
        rintro e W3 (⟨rfl, hJ3⟩ | ⟨rfl, hJ3⟩)
        · gi_wp2
          go_roundw
          case rel => exact ⟨pre ++ [a ++ [10]], b, by rw [hx, hlin]; simp, by simp; omega, hJ3⟩
          case measure => rw [hcl, cellLen_of (hA _ _ _ hJ3).1]; show b.length < _; omega
        · gi_wp2
          refine bodyPost_ret (results_none rfl _ _ _) rfl ?_
          exact ⟨⟨_, rfl⟩, .inr ⟨pre ++ [a ++ [10]], by rw [hx, hlin]; exact ⟨linesL b, by simp⟩, hJ3⟩⟩

end Go.Proofs.YtnmbehogiioonaaDoor
