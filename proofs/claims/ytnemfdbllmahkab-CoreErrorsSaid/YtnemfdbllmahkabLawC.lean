/- What the calls of package core answer without a heap. Conditions: none. -/
import Derived.Test.YtnemfdbllmahkabRows
import Derived.Test.YtnemfdbllmahkabLib
import Derived.Test.YtnemfdbllmahkabLawB
set_option linter.unusedVariables false
set_option linter.unusedSimpArgs false
namespace Go.Proofs.Ytnemfdbllmahkab
open Go.RowKit

set_option maxRecDepth 100000 in
set_option maxHeartbeats 1000000 in
theorem nil_object (i : Int) (w : World) :
    Calls Try.prog 48 #[.pointer none, .int .i64 i] w fun e w' => e = .returned (.tuple #[.int .i64 0, .agg (hdCells hd0), .int .i64 1]) ∧ Upd [] [] w w' := by
  go_enter Try.func48, Try.ntmps48
  go_wp2
  have UF := Upd.alloc (In.nil w) (.cells (hdCells hd0) 105 (0, 0))
  have G := hd_cells UF.inn.head
  simp only [hdCells, hd0] at G
  obtain ⟨g0, g1, g2, g3, g4, g5, g6⟩ := G
  refine bodyPost_ret (v := .tuple #[.int .i64 0, .agg (hdCells hd0), .int .i64 1]) ?_ rfl ⟨rfl, UF.drop1⟩
  simp only [results, Try.results48]
  simp [go_sem, hdCells, hd0, g0, g1, g2, g3, g4, g5, g6]

set_option maxRecDepth 100000 in
set_option maxHeartbeats 1000000 in
theorem nil_make (a b c : Int) (w : World) :
    Calls Try.prog 21 #[.pointer none, .int .i64 a, .int .i64 b, .int .i64 c] w fun e w' => e = .returned (.int .i64 1) ∧ Upd [] [] w w' := by
  go_enter Try.func21, Try.ntmps21
  go_wp2
  go_ret
  exact ⟨rfl, Upd.refl (In.nil w)⟩

set_option maxRecDepth 100000 in
set_option maxHeartbeats 1000000 in
theorem nil_clear (a : Int) (w : World) :
    Calls Try.prog 28 #[.pointer none, .int .i64 a] w fun e w' => e = .returned (.int .i64 1) ∧ Upd [] [] w w' := by
  go_enter Try.func28, Try.ntmps28
  go_wp2
  go_ret
  exact ⟨rfl, Upd.refl (In.nil w)⟩

set_option maxRecDepth 100000 in
set_option maxHeartbeats 1000000 in
theorem nil_copy (a b : Int) (w : World) :
    Calls Try.prog 30 #[.pointer none, .int .i64 a, .int .i64 b] w fun e w' => e = .returned (.int .i64 1) ∧ Upd [] [] w w' := by
  go_enter Try.func30, Try.ntmps30
  go_wp2
  go_ret
  exact ⟨rfl, Upd.refl (In.nil w)⟩

set_option maxRecDepth 100000 in
set_option maxHeartbeats 1000000 in
theorem nil_same (a b : Int) (w : World) :
    Calls Try.prog 26 #[.pointer none, .int .i64 a, .int .i64 b] w fun e w' => e = .returned (.tuple #[.bool false, .int .i64 1]) ∧ Upd [] [] w w' := by
  go_enter Try.func26, Try.ntmps26
  go_wp2
  go_ret2
  exact ⟨rfl, Upd.refl (In.nil w)⟩

set_option maxRecDepth 100000 in
set_option maxHeartbeats 1000000 in
theorem nil_nil (a : Int) (w : World) :
    Calls Try.prog 31 #[.pointer none, .int .i64 a] w fun e w' => e = .returned (.tuple #[.bool false, .int .i64 1]) ∧ Upd [] [] w w' := by
  go_enter Try.func31, Try.ntmps31
  go_wp2
  go_ret2
  exact ⟨rfl, Upd.refl (In.nil w)⟩

set_option maxRecDepth 100000 in
set_option maxHeartbeats 1000000 in
theorem nil_now (a : Int) (w : World) :
    Calls Try.prog 71 #[.pointer none, .int .i64 a] w fun e w' => e = .returned (.int .i64 a) ∧ Upd [] [] w w' := by
  go_enter Try.func71, Try.ntmps71
  go_wp2
  go_ret
  exact ⟨rfl, Upd.refl (In.nil w)⟩

set_option maxRecDepth 100000 in
set_option maxHeartbeats 1000000 in
theorem nil_move (a : Int) (w : World) :
    Calls Try.prog 52 #[.pointer none, .int .i64 a] w fun e w' => e = .returned (.int .i64 a) ∧ Upd [] [] w w' := by
  go_enter Try.func52, Try.ntmps52
  go_wp2
  go_ret
  exact ⟨rfl, Upd.refl (In.nil w)⟩

set_option maxRecDepth 100000 in
set_option maxHeartbeats 1000000 in
theorem nil_mark (a : Int) (w : World) :
    Calls Try.prog 54 #[.pointer none, .int .i64 a] w fun e w' => e = .returned (.tuple #[]) ∧ Upd [] [] w w' := by
  go_enter Try.func54, Try.ntmps54
  go_wp2
  refine bodyPost_ret (results_none rfl _ _ _) rfl ?_
  exact ⟨rfl, Upd.refl (In.nil w)⟩

set_option maxRecDepth 100000 in
set_option maxHeartbeats 1000000 in
theorem nil_note (a : Int) (w : World) :
    Calls Try.prog 51 #[.pointer none, .int .i64 a] w fun e w' => e = .returned (.tuple #[]) ∧ Upd [] [] w w' := by
  go_enter Try.func51, Try.ntmps51
  go_wp2
  refine bodyPost_ret (results_none rfl _ _ _) rfl ?_
  exact ⟨rfl, Upd.refl (In.nil w)⟩

set_option maxRecDepth 100000 in
set_option maxHeartbeats 1000000 in
theorem nil_get (a b c : Int) (w : World) :
    Calls Try.prog 24 #[.pointer none, .int .i64 a, .int .i64 b, .int .i64 c] w fun e w' => e = .returned (.int .i64 1) ∧ Upd [] [] w w' := by
  have ho := nil_object b w
  simp only [hdCells, hd0] at ho
  go_enter Try.func24, Try.ntmps24
  go_wp2_with (go_at_call 48; refine Calls.mono ho ?_; rintro e w1 ⟨rfl, u1⟩)
  go_ret
  exact ⟨rfl, u1.skip' _⟩

set_option maxRecDepth 100000 in
set_option maxHeartbeats 1000000 in
theorem nil_set (a b c : Int) (w : World) :
    Calls Try.prog 22 #[.pointer none, .int .i64 a, .int .i64 b, .int .i64 c] w fun e w' => e = .returned (.int .i64 1) ∧ Upd [] [] w w' := by
  have ho := nil_object a w
  simp only [hdCells, hd0] at ho
  go_enter Try.func22, Try.ntmps22
  go_wp2_with (go_at_call 48; refine Calls.mono ho ?_; rintro e w1 ⟨rfl, u1⟩)
  go_ret
  exact ⟨rfl, u1.skip' _⟩

set_option maxRecDepth 100000 in
set_option maxHeartbeats 1000000 in
theorem nil_read (a b : Int) (w : World) :
    Calls Try.prog 25 #[.pointer none, .int .i64 a, .int .i64 b] w fun e w' => e = .returned (.tuple #[.int .u64 0, .int .i64 1]) ∧ Upd [] [] w w' := by
  have ho := nil_object a w
  simp only [hdCells, hd0] at ho
  go_enter Try.func25, Try.ntmps25
  go_wp2_with (go_at_call 48; refine Calls.mono ho ?_; rintro e w1 ⟨rfl, u1⟩)
  go_ret2
  exact ⟨rfl, u1.skip' _⟩

set_option maxRecDepth 100000 in
set_option maxHeartbeats 1000000 in
theorem nil_write (a b c : Int) (w : World) :
    Calls Try.prog 23 #[.pointer none, .int .i64 a, .int .i64 b, .int .u64 c] w fun e w' => e = .returned (.int .i64 1) ∧ Upd [] [] w w' := by
  have ho := nil_object a w
  simp only [hdCells, hd0] at ho
  go_enter Try.func23, Try.ntmps23
  go_wp2_with (go_at_call 48; refine Calls.mono ho ?_; rintro e w1 ⟨rfl, u1⟩)
  go_ret
  exact ⟨rfl, u1.skip' _⟩

set_option maxRecDepth 100000 in
set_option maxHeartbeats 1000000 in
theorem nil_shape (a : Int) (w : World) :
    Calls Try.prog 27 #[.pointer none, .int .i64 a] w fun e w' => e = .returned (.tuple #[.int .i64 0, .int .i64 0, .int .i64 1]) ∧ Upd [] [] w w' := by
  have ho := nil_object a w
  simp only [hdCells, hd0] at ho
  go_enter Try.func27, Try.ntmps27
  go_wp2_with (go_at_call 48; refine Calls.mono ho ?_; rintro e w1 ⟨rfl, u1⟩)
  go_ret3
  exact ⟨rfl, u1.skip' _⟩


set_option maxRecDepth 100000 in
set_option maxHeartbeats 1000000 in
theorem nil_stats (w : World) :
    Calls Try.prog 29 #[.pointer none] w fun e w' => e = .returned (.agg (statCells stat0)) ∧ Upd [] [] w w' := by
  go_enter Try.func29, Try.ntmps29
  go_wp2
  have UF := Upd.alloc (In.nil w) (.cells (statCells stat0) 45 (0, 0))
  have G := stat_cells UF.inn.head
  simp only [statCells, stat0] at G
  obtain ⟨g0, g1, g2, g3, g4, g5, g6, g7⟩ := G
  refine bodyPost_ret (v := .agg (statCells stat0)) ?_ rfl ⟨rfl, UF.drop1⟩
  simp only [results, Try.results29]
  simp [go_sem, statCells, stat0, g0, g1, g2, g3, g4, g5, g6, g7]

end Go.Proofs.Ytnemfdbllmahkab
