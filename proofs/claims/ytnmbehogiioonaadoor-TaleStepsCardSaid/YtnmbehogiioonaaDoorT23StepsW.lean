/- The law TaleSteps answers true. Condition: the library's variables are as its text lays them. -/
import Derived.Test.YtnmbehogiioonaaDoorT23Awake
import Derived.Laws.StructEq
set_option linter.unusedVariables false
set_option linter.unusedSimpArgs false
namespace Go.Proofs.YtnmbehogiioonaaDoor
open Go.RowKit Go.Shelf Go.Lib

set_option maxRecDepth 100000 in
set_option maxHeartbeats 4000000 in
theorem taleSteps_any (s : ByteArray) (hs : s.size ≤ maxLen) (w : World) (hL : Laid w) : Calls Tryd.prog 4 #[.string s] w fun e w' => e = .returned (.bool true) ∧ Upd [] [] w w' := by
  have H3 := Lib.hid (fun W (h : Laid W) => law_awake W h)
  have HL := Lib.hid hL
  have HU := Lib.hid (Upd.refl (In.nil w))
  obtain ⟨l, hl⟩ : ∃ l : List UInt8, (⟨l.toArray⟩ : ByteArray) = s := ⟨s.data.toList, by simp⟩
  have hsz : s.size = l.length := by rw [← hl]; rfl
  by_cases hlen : 4000 < s.size
  · have hI : (s.size : Int) > 4000 := by omega
    clear hsz hl hs
    go_enter Tryd.func4, Tryd.ntmps4
    go_wp2_with (go_at_call 10; refine Calls.mono (H3.out _ HL.out) ?_; rintro e w4 ⟨rfl, u4⟩)
    go_ret
    exact ⟨rfl, u4⟩
  · have hI : ¬ (s.size : Int) > 4000 := by omega
    have H4 := Lib.hid (fun W (h : Laid W) => tale_step l (by omega) W h)
    rw [hl] at H4
    cases hst : stepOf l with
    | none =>
      rw [stepV_none hst] at H4
      simp only [entCells, entZ] at H4
      clear hsz hl hs hst hlen
      go_enter Tryd.func4, Tryd.ntmps4
      go_wp2_with (first | (go_at_call 11; refine Calls.mono (H4.out _ HL.out) ?_; rintro e w5 ⟨rfl, u5⟩; have V5 := (HU.out.under0 u5).alloc' (.cells #[.int .i64 0, .int .i64 0, .int .i64 0, .int .i64 0, .int .u64 0] 24 (0, 0)); have HL5 := Lib.hid (HL.out.upd V5); have HU5 := Lib.hid V5; clear V5) | (go_at_call 10; refine Calls.mono (H3.out _ HL5.out) ?_; rintro e w6 ⟨rfl, u6⟩; have U6 := HU5.out.under0 u6; have d0 : w6.cell? ⟨w5.heap.size, 0, none⟩ = some (.int .i64 0) := cell_of U6.inn.head 0; have d1 : w6.cell? ⟨w5.heap.size, 1, none⟩ = some (.int .i64 0) := cell_of U6.inn.head 1; have d2 : w6.cell? ⟨w5.heap.size, 2, none⟩ = some (.int .i64 0) := cell_of U6.inn.head 2; have d3 : w6.cell? ⟨w5.heap.size, 3, none⟩ = some (.int .i64 0) := cell_of U6.inn.head 3; have d4 : w6.cell? ⟨w5.heap.size, 4, none⟩ = some (.int .u64 0) := cell_of U6.inn.head 4; have HU6 := Lib.hid U6; clear U6))
      go_ret
      exact ⟨rfl, HU6.out.forget (List.nil_sublist _)⟩
    | some x =>
      rw [stepV_some hst] at H4
      obtain ⟨hx, hlo⟩ := step_line hst
      have H2 := Lib.hid (fun W => law_line x hx W)
      rw [lawV_some hlo, hl] at H2
      obtain ⟨x0, x1, x2, x3, x4⟩ := x
      simp only [entCells] at H2 H4
      clear hsz hl hs hst hlen hx hlo
      go_enter Tryd.func4, Tryd.ntmps4
      go_wp2_with (first | (go_at_call 11; refine Calls.mono (H4.out _ HL.out) ?_; rintro e w5 ⟨rfl, u5⟩; have V5 := (HU.out.under0 u5).alloc' (.cells #[.int .i64 x0, .int .i64 x1, .int .i64 x2, .int .i64 x3, .int .u64 (x4 : Int)] 24 (0, 0)); have HU5 := Lib.hid V5; clear V5) | (go_at_call 9; refine Calls.mono (H2.out _) ?_; rintro e w3 ⟨rfl, u3⟩; have U3 := HU5.out.under0 u3; have HL3 := Lib.hid (HL.out.upd U3); have HU3 := Lib.hid U3; clear U3) | (go_at_call 10; refine Calls.mono (H3.out _ HL3.out) ?_; rintro e w6 ⟨rfl, u6⟩; have HU6 := Lib.hid (HU3.out.under0 u6)))
      go_ret
      exact ⟨rfl, HU6.out.forget (List.nil_sublist _)⟩

end Go.Proofs.YtnmbehogiioonaaDoor
