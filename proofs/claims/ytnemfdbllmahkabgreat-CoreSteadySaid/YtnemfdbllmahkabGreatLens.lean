/- How much there is in a stack, a buffer, a card table and a set. Conditions: as New makes them. -/
import Derived.Test.YtnemfdbllmahkabGreatRows
import Derived.Test.YtnemfdbllmahkabGreatRem
import Derived.Test.YtnemfdbllmahkabGreatGrey
import Derived.Test.YtnemfdbllmahkabGreatCard
import Derived.BigQuiet
import Derived.Deep.QuietTactic
set_option linter.unusedVariables false
set_option linter.unusedSimpArgs false
namespace Go.Proofs.YtnemfdbllmahkabGreat
open Go.RowKit

theorem grey_len (p : Nat) (s : GreyS) (w : World) (h : Hp) (hi : In w h) (hg : GreyH p s h) :
    Calls Tryz.prog 14 #[.pointer (some ⟨p, 0, none⟩)] w fun e w' => e = .returned (.int .i64 s.list.length) ∧ w' = w := by
  obtain ⟨v, hs, rfl, hS, w1, w2, w3, w4⟩ := hg
  obtain ⟨ao, cap, rfl, hcap⟩ := hS.shape
  have e1 : w.cell? ⟨p, 1, none⟩ = some (.slice ao s.list.length cap) := cell_of hi.head 1
  go_enter Tryz.func14, Tryz.ntmps14
  go_wp2
  go_ret
  exact ⟨rfl, rfl⟩

theorem buf_len (p : Nat) (s : BufS) (w : World) (h : Hp) (hi : In w h) (hg : BufH p s h) :
    Calls Tryz.prog 50 #[.pointer (some ⟨p, 0, none⟩)] w fun e w' => e = .returned (.int .i64 s.list.length) ∧ w' = w := by
  obtain ⟨v, hs, rfl, hS, w1, w2, w3, w4⟩ := hg
  obtain ⟨ao, cap, rfl, hcap⟩ := hS.shape
  have e1 : w.cell? ⟨p, 1, none⟩ = some (.slice ao s.list.length cap) := cell_of hi.head 1
  go_enter Tryz.func50, Tryz.ntmps50
  go_wp2
  go_ret
  exact ⟨rfl, rfl⟩

/-- how many marks are set -/
def countT (l : List Bool) : Nat := (l.filter id).length
theorem countT_le (l : List Bool) : countT l ≤ l.length := List.length_filter_le _ _
theorem countT_succ (l : List Bool) (k : Nat) (h : k < l.length) : countT (l.take (k + 1)) = countT (l.take k) + if l.getD k false then 1 else 0 := by
  have e : l.getD k false = l[k] := by simp [List.getD, h]
  rw [List.take_succ_eq_append_getElem h, e]
  unfold countT
  rw [List.filter_append, List.length_append]
  congr 1
  cases l[k] <;> rfl
theorem many_le {s : CardS} (h : s.WF) : s.marks.length ≤ 1048576 := by
  obtain ⟨_, _, h3, h4, h5, _, h7⟩ := h
  have := many_bounds h3 h4 h5
  omega

set_option maxRecDepth 100000 in
set_option maxHeartbeats 1000000 in
theorem card_count (p : Nat) (s : CardS) (w : World) (h : Hp) (hi : In w h) (hg : CardH p s h) :
    Calls Tryz.prog 51 #[.pointer (some ⟨p, 0, none⟩)] w fun e w' => e = .returned (.int .i64 (countT s.marks)) ∧ w' = w := by
  obtain ⟨b, rfl, hwf⟩ := hg
  have hle := many_le hwf
  have e3 : w.cell? ⟨p, 3, none⟩ = some (.slice (some ⟨b, 0, none⟩) s.marks.length s.marks.length) := cell_of hi.head 3
  have hc : ∀ k, k < s.marks.length → w.cell? ⟨b, k, none⟩ = some (.bool (s.marks.getD k false)) := by
    intro k hk
    rw [cell_of hi.tail.head k]
    simp [List.getD, hk]
  have HC := Lib.hid hc
  clear hc hwf
  go_enter Tryz.func51, Tryz.ntmps51
  go_wp2
  go_loop [3, 13] (fun n i => ∃ k : Nat, k ≤ s.marks.length ∧ i = .int .i64 k ∧ n = .int .i64 (countT (s.marks.take k))) (fun _ i => s.marks.length - (intOf i).toNat)
  case atStart => exact ⟨0, by omega, rfl, rfl⟩
  case round =>
    obtain ⟨k, hk, rfl, rfl⟩ := hrel
    by_cases hlt : k < s.marks.length
    · have h1 := HC.out k hlt
      have h2 := countT_succ s.marks k hlt
      have h3 := countT_le (s.marks.take k)
      have h4 : (s.marks.take k).length ≤ k := List.length_take_le _ _
      generalize countT (s.marks.take k) = m at *
      cases hb : s.marks.getD k false
      · rw [hb] at h1 h2
        have H2 := Lib.hid h2
        clear h2 hb
        go_wp2
        go_round
        case rel => exact ⟨k + 1, by omega, by go_num, by rw [H2.out]; rfl⟩
        case measure => simp [intOf]; omega
      · rw [hb] at h1 h2
        have H2 := Lib.hid h2
        clear h2 hb
        go_wp2
        go_round
        case rel => exact ⟨k + 1, by omega, by go_num, by rw [H2.out]; go_num⟩
        case measure => simp [intOf]; omega
    · rw [List.take_of_length_le (show s.marks.length ≤ k by omega)]
      go_wp2
      go_ret
      exact ⟨rfl, rfl⟩

set_option maxRecDepth 100000 in
set_option maxHeartbeats 1000000 in
theorem rem_len (p : Nat) (s : RemS) (w : World) (h : Hp) (hi : In w h) (hr : RemH p s h) :
    Calls Tryz.prog 15 #[.pointer (some ⟨p, 0, none⟩)] w fun e w' => e = .returned (.int .i64 (s.nb.list.length + countT s.nc.marks)) ∧ ∃ n, w' = w.drewN n := by
  obtain ⟨q, h1, h2, h3, h4, rfl, y1, y2, y3, y4, hwf⟩ := hr
  have hb := (hi.part (i := 0) rfl).head
  have e3 : w.cell? ⟨p, 3, none⟩ = some (.pointer (some ⟨q.nb, 0, none⟩)) := cell_of hb 3
  have e4 : w.cell? ⟨p, 4, none⟩ = some (.pointer (some ⟨q.nc, 0, none⟩)) := cell_of hb 4
  have hbl := fun n => buf_len q.nb s.nb (w.drewN n) h1 ((hi.part (i := 1) rfl).drewN n) y1
  have hcc := fun n => card_count q.nc s.nc (w.drewN n) h2 ((hi.part (i := 2) rfl).drewN n) y2
  have l1 : s.nb.list.length ≤ 1048576 := by obtain ⟨v, hs, _, _, _, k2, k3, _⟩ := y1; omega
  have l2 : countT s.nc.marks ≤ 1048576 := by
    obtain ⟨b, _, hw⟩ := y2
    have := many_le hw
    have := countT_le s.nc.marks
    omega
  have hw : IntKind.i64.wrap ((s.nb.list.length : Int) + countT s.nc.marks) = (s.nb.list.length : Int) + countT s.nc.marks := IntWalk.i64_in _ (by omega)
  have HB := Lib.hid hbl
  have HC := Lib.hid hcc
  clear hb hbl hcc y1 y2 y3 y4 hwf
  go_enter Tryz.func15, Tryz.ntmps15
  go_wp2
  go_quiet ((first | (go_at_call 50; exact Calls.quiet_of_same (HB.out _)) | (go_at_call 51; exact Calls.quiet_of_same (HC.out _))))
  go_wp2
  go_ret
  exact ⟨rfl, _, rfl⟩

end Go.Proofs.YtnemfdbllmahkabGreat
