/- What the calls of package core answer without a heap. Conditions: none. -/
import Derived.Test.YtnemfdbllmahkaaRows
import Derived.Test.YtnemfdbllmahkaaLib
import Derived.Test.YtnemfdbllmahkaaLawB
set_option linter.unusedVariables false
set_option linter.unusedSimpArgs false
namespace Go.Proofs.Ytnemfdbllmahkaa
open Go.RowKit

set_option maxRecDepth 100000 in
set_option maxHeartbeats 1000000 in
theorem nil_object (i : Int) (w : World) :
    Calls Try.prog 46 #[.pointer none, .int .i64 i] w fun e w' => e = .returned (.tuple #[.int .i64 0, .agg (hdCells hd0), .int .i64 1]) ∧ Upd [] [] w w' := by
  go_enter Try.func46, Try.ntmps46
  go_wp2
  have UF := Upd.alloc (In.nil w) (.cells (hdCells hd0) 82 (0, 0))
  have G := hd_cells UF.inn.head
  simp only [hdCells, hd0] at G
  obtain ⟨g0, g1, g2, g3, g4, g5, g6⟩ := G
  refine bodyPost_ret (v := .tuple #[.int .i64 0, .agg (hdCells hd0), .int .i64 1]) ?_ rfl ⟨rfl, UF.drop1⟩
  simp only [results, Try.results46]
  simp [go_sem, hdCells, hd0, g0, g1, g2, g3, g4, g5, g6]

set_option maxRecDepth 100000 in
set_option maxHeartbeats 1000000 in
theorem nil_make (a b c : Int) (w : World) :
    Calls Try.prog 11 #[.pointer none, .int .i64 a, .int .i64 b, .int .i64 c] w fun e w' => e = .returned (.int .i64 1) ∧ Upd [] [] w w' := by
  go_enter Try.func11, Try.ntmps11
  go_wp2
  go_ret
  exact ⟨rfl, Upd.refl (In.nil w)⟩

set_option maxRecDepth 100000 in
set_option maxHeartbeats 1000000 in
theorem nil_clear (a : Int) (w : World) :
    Calls Try.prog 26 #[.pointer none, .int .i64 a] w fun e w' => e = .returned (.int .i64 1) ∧ Upd [] [] w w' := by
  go_enter Try.func26, Try.ntmps26
  go_wp2
  go_ret
  exact ⟨rfl, Upd.refl (In.nil w)⟩

set_option maxRecDepth 100000 in
set_option maxHeartbeats 1000000 in
theorem nil_copy (a b : Int) (w : World) :
    Calls Try.prog 24 #[.pointer none, .int .i64 a, .int .i64 b] w fun e w' => e = .returned (.int .i64 1) ∧ Upd [] [] w w' := by
  go_enter Try.func24, Try.ntmps24
  go_wp2
  go_ret
  exact ⟨rfl, Upd.refl (In.nil w)⟩

set_option maxRecDepth 100000 in
set_option maxHeartbeats 1000000 in
theorem nil_same (a b : Int) (w : World) :
    Calls Try.prog 25 #[.pointer none, .int .i64 a, .int .i64 b] w fun e w' => e = .returned (.tuple #[.bool false, .int .i64 1]) ∧ Upd [] [] w w' := by
  go_enter Try.func25, Try.ntmps25
  go_wp2
  go_ret2
  exact ⟨rfl, Upd.refl (In.nil w)⟩

set_option maxRecDepth 100000 in
set_option maxHeartbeats 1000000 in
theorem nil_nil (a : Int) (w : World) :
    Calls Try.prog 16 #[.pointer none, .int .i64 a] w fun e w' => e = .returned (.tuple #[.bool false, .int .i64 1]) ∧ Upd [] [] w w' := by
  go_enter Try.func16, Try.ntmps16
  go_wp2
  go_ret2
  exact ⟨rfl, Upd.refl (In.nil w)⟩

set_option maxRecDepth 100000 in
set_option maxHeartbeats 1000000 in
theorem nil_now (a : Int) (w : World) :
    Calls Try.prog 20 #[.pointer none, .int .i64 a] w fun e w' => e = .returned (.int .i64 a) ∧ Upd [] [] w w' := by
  go_enter Try.func20, Try.ntmps20
  go_wp2
  go_ret
  exact ⟨rfl, Upd.refl (In.nil w)⟩

set_option maxRecDepth 100000 in
set_option maxHeartbeats 1000000 in
theorem nil_move (a : Int) (w : World) :
    Calls Try.prog 21 #[.pointer none, .int .i64 a] w fun e w' => e = .returned (.int .i64 a) ∧ Upd [] [] w w' := by
  go_enter Try.func21, Try.ntmps21
  go_wp2
  go_ret
  exact ⟨rfl, Upd.refl (In.nil w)⟩

set_option maxRecDepth 100000 in
set_option maxHeartbeats 1000000 in
theorem nil_mark (a : Int) (w : World) :
    Calls Try.prog 17 #[.pointer none, .int .i64 a] w fun e w' => e = .returned (.tuple #[]) ∧ Upd [] [] w w' := by
  go_enter Try.func17, Try.ntmps17
  go_wp2
  refine bodyPost_ret (results_none rfl _ _ _) rfl ?_
  exact ⟨rfl, Upd.refl (In.nil w)⟩

set_option maxRecDepth 100000 in
set_option maxHeartbeats 1000000 in
theorem nil_note (a : Int) (w : World) :
    Calls Try.prog 18 #[.pointer none, .int .i64 a] w fun e w' => e = .returned (.tuple #[]) ∧ Upd [] [] w w' := by
  go_enter Try.func18, Try.ntmps18
  go_wp2
  refine bodyPost_ret (results_none rfl _ _ _) rfl ?_
  exact ⟨rfl, Upd.refl (In.nil w)⟩

set_option maxRecDepth 100000 in
set_option maxHeartbeats 1000000 in
theorem nil_get (a b c : Int) (w : World) :
    Calls Try.prog 15 #[.pointer none, .int .i64 a, .int .i64 b, .int .i64 c] w fun e w' => e = .returned (.int .i64 1) ∧ Upd [] [] w w' := by
  have ho := nil_object b w
  simp only [hdCells, hd0] at ho
  go_enter Try.func15, Try.ntmps15
  go_wp2_with (go_at_call 46; refine Calls.mono ho ?_; rintro e w1 ⟨rfl, u1⟩)
  go_ret
  exact ⟨rfl, u1.skip' _⟩

set_option maxRecDepth 100000 in
set_option maxHeartbeats 1000000 in
theorem nil_set (a b c : Int) (w : World) :
    Calls Try.prog 13 #[.pointer none, .int .i64 a, .int .i64 b, .int .i64 c] w fun e w' => e = .returned (.int .i64 1) ∧ Upd [] [] w w' := by
  have ho := nil_object a w
  simp only [hdCells, hd0] at ho
  go_enter Try.func13, Try.ntmps13
  go_wp2_with (go_at_call 46; refine Calls.mono ho ?_; rintro e w1 ⟨rfl, u1⟩)
  go_ret
  exact ⟨rfl, u1.skip' _⟩

set_option maxRecDepth 100000 in
set_option maxHeartbeats 1000000 in
theorem nil_read (a b : Int) (w : World) :
    Calls Try.prog 14 #[.pointer none, .int .i64 a, .int .i64 b] w fun e w' => e = .returned (.tuple #[.int .u64 0, .int .i64 1]) ∧ Upd [] [] w w' := by
  have ho := nil_object a w
  simp only [hdCells, hd0] at ho
  go_enter Try.func14, Try.ntmps14
  go_wp2_with (go_at_call 46; refine Calls.mono ho ?_; rintro e w1 ⟨rfl, u1⟩)
  go_ret2
  exact ⟨rfl, u1.skip' _⟩

set_option maxRecDepth 100000 in
set_option maxHeartbeats 1000000 in
theorem nil_write (a b c : Int) (w : World) :
    Calls Try.prog 12 #[.pointer none, .int .i64 a, .int .i64 b, .int .u64 c] w fun e w' => e = .returned (.int .i64 1) ∧ Upd [] [] w w' := by
  have ho := nil_object a w
  simp only [hdCells, hd0] at ho
  go_enter Try.func12, Try.ntmps12
  go_wp2_with (go_at_call 46; refine Calls.mono ho ?_; rintro e w1 ⟨rfl, u1⟩)
  go_ret
  exact ⟨rfl, u1.skip' _⟩

set_option maxRecDepth 100000 in
set_option maxHeartbeats 1000000 in
theorem nil_shape (a : Int) (w : World) :
    Calls Try.prog 23 #[.pointer none, .int .i64 a] w fun e w' => e = .returned (.tuple #[.int .i64 0, .int .i64 0, .int .i64 1]) ∧ Upd [] [] w w' := by
  have ho := nil_object a w
  simp only [hdCells, hd0] at ho
  go_enter Try.func23, Try.ntmps23
  go_wp2_with (go_at_call 46; refine Calls.mono ho ?_; rintro e w1 ⟨rfl, u1⟩)
  go_ret3
  exact ⟨rfl, u1.skip' _⟩


set_option maxRecDepth 100000 in
set_option maxHeartbeats 1000000 in
theorem nil_stats (w : World) :
    Calls Try.prog 22 #[.pointer none] w fun e w' => e = .returned (.agg (statCells stat0)) ∧ Upd [] [] w w' := by
  go_enter Try.func22, Try.ntmps22
  go_wp2
  have UF := Upd.alloc (In.nil w) (.cells (statCells stat0) 46 (0, 0))
  have G := stat_cells UF.inn.head
  simp only [statCells, stat0] at G
  obtain ⟨g0, g1, g2, g3, g4, g5, g6, g7⟩ := G
  refine bodyPost_ret (v := .agg (statCells stat0)) ?_ rfl ⟨rfl, UF.drop1⟩
  simp only [results, Try.results22]
  simp [go_sem, statCells, stat0, g0, g1, g2, g3, g4, g5, g6, g7]

end Go.Proofs.Ytnemfdbllmahkaa
