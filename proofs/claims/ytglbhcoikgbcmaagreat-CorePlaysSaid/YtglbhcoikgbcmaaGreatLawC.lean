/- What the calls of package core answer without a heap. Conditions: none. -/
import Derived.Test.YtglbhcoikgbcmaaGreatRows
import Derived.Test.YtglbhcoikgbcmaaGreatLib
import Derived.Test.YtglbhcoikgbcmaaGreatLawB
set_option linter.unusedVariables false
set_option linter.unusedSimpArgs false
namespace Go.Proofs.YtglbhcoikgbcmaaGreat
open Go.RowKit

set_option maxRecDepth 100000 in
set_option maxHeartbeats 1000000 in
theorem nil_object (i : Int) (w : World) :
    Calls Tryz.prog 50 #[.pointer none, .int .i64 i] w fun e w' => e = .returned (.tuple #[.int .i64 0, .agg (hdCells hd0), .int .i64 1]) ∧ Upd [] [] w w' := by
  go_enter Tryz.func50, Tryz.ntmps50
  go_wp2
  have UF := Upd.alloc (In.nil w) (.cells (hdCells hd0) 112 (0, 0))
  have G := hd_cells UF.inn.head
  simp only [hdCells, hd0] at G
  obtain ⟨g0, g1, g2, g3, g4, g5, g6⟩ := G
  refine bodyPost_ret (v := .tuple #[.int .i64 0, .agg (hdCells hd0), .int .i64 1]) ?_ rfl ⟨rfl, UF.drop1⟩
  simp only [results, Tryz.results50]
  simp [go_sem, hdCells, hd0, g0, g1, g2, g3, g4, g5, g6]

set_option maxRecDepth 100000 in
set_option maxHeartbeats 1000000 in
theorem nil_make (a b c : Int) (w : World) :
    Calls Tryz.prog 21 #[.pointer none, .int .i64 a, .int .i64 b, .int .i64 c] w fun e w' => e = .returned (.int .i64 1) ∧ Upd [] [] w w' := by
  go_enter Tryz.func21, Tryz.ntmps21
  go_wp2
  go_ret
  exact ⟨rfl, Upd.refl (In.nil w)⟩

set_option maxRecDepth 100000 in
set_option maxHeartbeats 1000000 in
theorem nil_clear (a : Int) (w : World) :
    Calls Tryz.prog 28 #[.pointer none, .int .i64 a] w fun e w' => e = .returned (.int .i64 1) ∧ Upd [] [] w w' := by
  go_enter Tryz.func28, Tryz.ntmps28
  go_wp2
  go_ret
  exact ⟨rfl, Upd.refl (In.nil w)⟩

set_option maxRecDepth 100000 in
set_option maxHeartbeats 1000000 in
theorem nil_copy (a b : Int) (w : World) :
    Calls Tryz.prog 29 #[.pointer none, .int .i64 a, .int .i64 b] w fun e w' => e = .returned (.int .i64 1) ∧ Upd [] [] w w' := by
  go_enter Tryz.func29, Tryz.ntmps29
  go_wp2
  go_ret
  exact ⟨rfl, Upd.refl (In.nil w)⟩

set_option maxRecDepth 100000 in
set_option maxHeartbeats 1000000 in
theorem nil_same (a b : Int) (w : World) :
    Calls Tryz.prog 26 #[.pointer none, .int .i64 a, .int .i64 b] w fun e w' => e = .returned (.tuple #[.bool false, .int .i64 1]) ∧ Upd [] [] w w' := by
  go_enter Tryz.func26, Tryz.ntmps26
  go_wp2
  go_ret2
  exact ⟨rfl, Upd.refl (In.nil w)⟩

set_option maxRecDepth 100000 in
set_option maxHeartbeats 1000000 in
theorem nil_nil (a : Int) (w : World) :
    Calls Tryz.prog 30 #[.pointer none, .int .i64 a] w fun e w' => e = .returned (.tuple #[.bool false, .int .i64 1]) ∧ Upd [] [] w w' := by
  go_enter Tryz.func30, Tryz.ntmps30
  go_wp2
  go_ret2
  exact ⟨rfl, Upd.refl (In.nil w)⟩

set_option maxRecDepth 100000 in
set_option maxHeartbeats 1000000 in
theorem nil_now (a : Int) (w : World) :
    Calls Tryz.prog 72 #[.pointer none, .int .i64 a] w fun e w' => e = .returned (.int .i64 a) ∧ Upd [] [] w w' := by
  go_enter Tryz.func72, Tryz.ntmps72
  go_wp2
  go_ret
  exact ⟨rfl, Upd.refl (In.nil w)⟩

set_option maxRecDepth 100000 in
set_option maxHeartbeats 1000000 in
theorem nil_move (a : Int) (w : World) :
    Calls Tryz.prog 54 #[.pointer none, .int .i64 a] w fun e w' => e = .returned (.int .i64 a) ∧ Upd [] [] w w' := by
  go_enter Tryz.func54, Tryz.ntmps54
  go_wp2
  go_ret
  exact ⟨rfl, Upd.refl (In.nil w)⟩

set_option maxRecDepth 100000 in
set_option maxHeartbeats 1000000 in
theorem nil_mark (a : Int) (w : World) :
    Calls Tryz.prog 56 #[.pointer none, .int .i64 a] w fun e w' => e = .returned (.tuple #[]) ∧ Upd [] [] w w' := by
  go_enter Tryz.func56, Tryz.ntmps56
  go_wp2
  refine bodyPost_ret (results_none rfl _ _ _) rfl ?_
  exact ⟨rfl, Upd.refl (In.nil w)⟩

set_option maxRecDepth 100000 in
set_option maxHeartbeats 1000000 in
theorem nil_note (a : Int) (w : World) :
    Calls Tryz.prog 53 #[.pointer none, .int .i64 a] w fun e w' => e = .returned (.tuple #[]) ∧ Upd [] [] w w' := by
  go_enter Tryz.func53, Tryz.ntmps53
  go_wp2
  refine bodyPost_ret (results_none rfl _ _ _) rfl ?_
  exact ⟨rfl, Upd.refl (In.nil w)⟩

set_option maxRecDepth 100000 in
set_option maxHeartbeats 1000000 in
theorem nil_get (a b c : Int) (w : World) :
    Calls Tryz.prog 24 #[.pointer none, .int .i64 a, .int .i64 b, .int .i64 c] w fun e w' => e = .returned (.int .i64 1) ∧ Upd [] [] w w' := by
  have ho := nil_object b w
  simp only [hdCells, hd0] at ho
  go_enter Tryz.func24, Tryz.ntmps24
  go_wp2_with (go_at_call 50; refine Calls.mono ho ?_; rintro e w1 ⟨rfl, u1⟩)
  go_ret
  exact ⟨rfl, u1.skip' _⟩

set_option maxRecDepth 100000 in
set_option maxHeartbeats 1000000 in
theorem nil_set (a b c : Int) (w : World) :
    Calls Tryz.prog 22 #[.pointer none, .int .i64 a, .int .i64 b, .int .i64 c] w fun e w' => e = .returned (.int .i64 1) ∧ Upd [] [] w w' := by
  have ho := nil_object a w
  simp only [hdCells, hd0] at ho
  go_enter Tryz.func22, Tryz.ntmps22
  go_wp2_with (go_at_call 50; refine Calls.mono ho ?_; rintro e w1 ⟨rfl, u1⟩)
  go_ret
  exact ⟨rfl, u1.skip' _⟩

set_option maxRecDepth 100000 in
set_option maxHeartbeats 1000000 in
theorem nil_read (a b : Int) (w : World) :
    Calls Tryz.prog 25 #[.pointer none, .int .i64 a, .int .i64 b] w fun e w' => e = .returned (.tuple #[.int .u64 0, .int .i64 1]) ∧ Upd [] [] w w' := by
  have ho := nil_object a w
  simp only [hdCells, hd0] at ho
  go_enter Tryz.func25, Tryz.ntmps25
  go_wp2_with (go_at_call 50; refine Calls.mono ho ?_; rintro e w1 ⟨rfl, u1⟩)
  go_ret2
  exact ⟨rfl, u1.skip' _⟩

set_option maxRecDepth 100000 in
set_option maxHeartbeats 1000000 in
theorem nil_write (a b c : Int) (w : World) :
    Calls Tryz.prog 23 #[.pointer none, .int .i64 a, .int .i64 b, .int .u64 c] w fun e w' => e = .returned (.int .i64 1) ∧ Upd [] [] w w' := by
  have ho := nil_object a w
  simp only [hdCells, hd0] at ho
  go_enter Tryz.func23, Tryz.ntmps23
  go_wp2_with (go_at_call 50; refine Calls.mono ho ?_; rintro e w1 ⟨rfl, u1⟩)
  go_ret
  exact ⟨rfl, u1.skip' _⟩

set_option maxRecDepth 100000 in
set_option maxHeartbeats 1000000 in
theorem nil_shape (a : Int) (w : World) :
    Calls Tryz.prog 27 #[.pointer none, .int .i64 a] w fun e w' => e = .returned (.tuple #[.int .i64 0, .int .i64 0, .int .i64 1]) ∧ Upd [] [] w w' := by
  have ho := nil_object a w
  simp only [hdCells, hd0] at ho
  go_enter Tryz.func27, Tryz.ntmps27
  go_wp2_with (go_at_call 50; refine Calls.mono ho ?_; rintro e w1 ⟨rfl, u1⟩)
  go_ret3
  exact ⟨rfl, u1.skip' _⟩


set_option maxRecDepth 100000 in
set_option maxHeartbeats 1000000 in
theorem nil_stats (w : World) :
    Calls Tryz.prog 10 #[.pointer none] w fun e w' => e = .returned (.agg (statCells stat0)) ∧ Upd [] [] w w' := by
  go_enter Tryz.func10, Tryz.ntmps10
  go_wp2
  have UF := Upd.alloc (In.nil w) (.cells (statCells stat0) 41 (0, 0))
  have G := stat_cells UF.inn.head
  simp only [statCells, stat0] at G
  obtain ⟨g0, g1, g2, g3, g4, g5, g6, g7⟩ := G
  refine bodyPost_ret (v := .agg (statCells stat0)) ?_ rfl ⟨rfl, UF.drop1⟩
  simp only [results, Tryz.results10]
  simp [go_sem, statCells, stat0, g0, g1, g2, g3, g4, g5, g6, g7]

end Go.Proofs.YtglbhcoikgbcmaaGreat
