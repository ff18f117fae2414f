/- What New and Push of package grey come to. Conditions: a stack as New makes it. -/
import Derived.Test.YtglbhcoikgbcmaaGreatRows
import Derived.Test.YtglbhcoikgbcmaaGreatLib
import Derived.Test.YtglbhcoikgbcmaaGreatSlice
import Derived.Test.YtglbhcoikgbcmaaGreatTable
set_option linter.unusedVariables false
set_option linter.unusedSimpArgs false
namespace Go.Proofs.YtglbhcoikgbcmaaGreat
open Go.RowKit

structure GreyS where
  most : Int
  list : List Int
  lost : Bool

def GreyS.WF (s : GreyS) : Prop := 0 ≤ s.most ∧ s.most ≤ 1048576 ∧ s.list.length ≤ s.most ∧ ∀ x ∈ s.list, I64 x
def greyObj (s : GreyS) (v : Value) : Obj := .cells #[.int .i64 s.most, v, .bool s.lost] 105 (0, 0)
def GreyH (p : Nat) (s : GreyS) (h : Hp) : Prop :=
  ∃ v hs, h = (p, greyObj s v) :: hs ∧ SliceH 3 1 v s.list.length (ints s.list) hs ∧ s.WF

def GreyS.full (s : GreyS) : Bool := decide (s.most ≤ s.list.length)
def GreyS.push (s : GreyS) (x : Int) : GreyS := if s.full then { s with lost := true } else { s with list := s.list ++ [x] }

set_option maxRecDepth 100000 in
set_option maxHeartbeats 1000000 in
theorem grey_push (p : Nat) (s : GreyS) (x : Int) (w : World) (h : Hp) (hi : In w h) (hg : GreyH p s h) (hx : I64 x) :
    Calls Tryz.prog 75 #[.pointer (some ⟨p, 0, none⟩), .int .i64 x] w fun e w' => e = .returned (.bool (!s.full)) ∧ ∃ h', GreyH p (s.push x) h' ∧ Upd h h' w w' := by
  obtain ⟨v, hs, rfl, hS, w1, w2, w3, w4⟩ := hg
  have hv := hS.shape
  obtain ⟨ao, cap, rfl, hcap⟩ := hv
  have e0 : w.cell? ⟨p, 0, none⟩ = some (.int .i64 s.most) := cell_of hi.head 0
  have e1 : w.cell? ⟨p, 1, none⟩ = some (.slice ao s.list.length cap) := cell_of hi.head 1
  have e2 : w.cell? ⟨p, 2, none⟩ = some (.bool s.lost) := cell_of hi.head 2
  have f1 : w.frozen? ⟨p, 1, none⟩ = false := frozen_of hi.head 1
  have f2 : w.frozen? ⟨p, 2, none⟩ = false := frozen_of hi.head 2
  by_cases hf : s.most ≤ s.list.length
  · have hb : s.full = true := by simp [GreyS.full, hf]
    have hp : s.push x = { s with lost := true } := by simp [GreyS.push, hb]
    rw [hb, hp]
    have hU := Upd.store1 (Upd.drew (Upd.refl hi).inn) 2 (.bool true)
    clear hb hp
    go_enter Tryz.func75, Tryz.ntmps75
    go_wp2
    refine wp_still (by kernel_rfl) (by kernel_rfl) fun w1 hw1 => ?_
    subst hw1
    repeat still_step
    refine wpStill_nil ?_
    go_wp2
    go_ret
    exact ⟨rfl, _, ⟨_, _, rfl, hS, w1, w2, w3, w4⟩, hU⟩
  · have hb : s.full = false := by simp [GreyS.full]; omega
    have hp : s.push x = { s with list := s.list ++ [x] } := by simp [GreyS.push, hb]
    rw [hb, hp]
    have U1 := ((Upd.refl hi).drew').skip' (.cells #[.int .i64 x] 3 (0, 0))
    have hnews := news_of (news := [.int .i64 x]) (w := w.drew.alloc (.cells #[.int .i64 x] 3 (0, 0))) (b := w.heap.size) (T := 3) (fr := (0, 0)) (heap_alloc_at (by simp))
    have hl : ((s.list.length : Nat) : Int) < s.most := by omega
    have hmax : s.list.length + 1 ≤ maxLen := by unfold maxLen; omega
    have hmem : ∀ y ∈ s.list ++ [x], I64 y := by
      intro y hy
      rcases List.mem_append.1 hy with h1 | h1
      · exact w4 y h1
      · simp at h1; exact h1 ▸ hx
    have H1 := Lib.hid hnews
    clear hb hp hnews
    go_enter Tryz.func75, Tryz.ntmps75
    go_wp2
    refine wp_still (by kernel_rfl) (by kernel_rfl) fun w1 hw1 => ?_
    subst hw1
    repeat still_step
    refine wpStill_nil ?_
    go_wp2_with (at_builtin; refine wpList_append_mine rfl (.tmp 24) (.tmp 26) 59 rfl 3 1 8 (.int .i64 0) Tryz.underlying59 Tryz.infoInt rfl (by decide) (.slice ao s.list.length cap) s.list.length (ints s.list) hs rfl hS U1.inn.tail ⟨w.heap.size, 0, none⟩ 1 1 [.int .i64 x] rfl H1.out rfl (by intro u hu; simp at hu; subst hu; rfl) (Or.inl (by decide)) hmax (by omega) ?_; intro v' w3 hX' hS' hU'; obtain ⟨ao', cap', rfl, _⟩ := hS'.shape; have U2 := U1.under hU'; have g1 : w3.cell? ⟨p, 1, none⟩ = some (.slice ao s.list.length cap) := cell_of U2.inn.head 1; have k1 : w3.frozen? ⟨p, 1, none⟩ = false := frozen_of U2.inn.head 1)
    go_ret
    refine ⟨rfl, _, ⟨.slice ao' (s.list.length + 1) cap', hX', rfl, ?_, w1, w2, ?_, hmem⟩, U2.store1 1 (.slice ao' (s.list.length + 1) cap')⟩
    · simpa [ints] using hS'
    · simp; omega

set_option maxRecDepth 100000 in
set_option maxHeartbeats 1000000 in
theorem grey_new (n : Nat) (w : World) (h0 : 0 < n) (h1 : n ≤ 1048576) :
    Calls Tryz.prog 19 #[.int .i64 n] w fun e w' => ∃ p h', e = .returned (.pointer (some ⟨p, 0, none⟩)) ∧ GreyH p ⟨n, [], false⟩ h' ∧ Upd [] h' w w' := by
  have hU := Upd.alloc (In.nil w) (greyObj ⟨n, [], false⟩ (.slice none 0 0))
  have hH : GreyH w.heap.size ⟨n, [], false⟩ [(w.heap.size, greyObj ⟨n, [], false⟩ (.slice none 0 0))] :=
    ⟨_, [], rfl, SliceH.nil _ _, by simp only [GreyS.WF, List.length_nil]; omega, by simp only; omega, by simp only [List.length_nil]; omega, by simp⟩
  have h0' : (0 : Int) < n := by omega
  have h1' : (n : Int) ≤ 1048576 := by omega
  go_enter Tryz.func19, Tryz.ntmps19
  go_wp2
  go_ret
  exact ⟨_, _, rfl, hH, hU⟩

end Go.Proofs.YtglbhcoikgbcmaaGreat
