/- The law TaleLines answers true. Condition: the library's variables are as its text lays them. -/
import Derived.Test.YtnmbehogiioonaaDoorT23Awake
import Derived.Laws.StructEq
set_option linter.unusedVariables false
set_option linter.unusedSimpArgs false
namespace Go.Proofs.YtnmbehogiioonaaDoor
open Go.RowKit Go.Shelf Go.Lib

set_option maxRecDepth 100000 in
set_option maxHeartbeats 4000000 in
theorem taleLines_any (x : EntS) (hx : x.Ok) (w : World) (hL : Laid w) : Calls Tryd.prog 3 #[.agg (entCells x)] w fun e w' => e = .returned (.bool true) ∧ Upd [] [] w w' := by
  have H1 := Lib.hid (fun W (h : Laid W) => tale_line x hx W h.tab)
  have H2 := Lib.hid (fun W => law_line x hx W)
  have H3 := Lib.hid (fun W (h : Laid W) => law_awake W h)
  have HL := Lib.hid hL
  cases hl : lineOf x with
  | none =>
    rw [lineV_none hl] at H1
    rw [lawV_none hl] at H2
    obtain ⟨x0, x1, x2, x3, x4⟩ := x
    simp only [entCells] at H1 H2 ⊢
    have U1 := (Upd.refl (In.nil w)).alloc' (.cells #[.int .i64 x0, .int .i64 x1, .int .i64 x2, .int .i64 x3, .int .u64 (x4 : Int)] 24 (0, 0))
    have HL1 := Lib.hid (hL.upd U1)
    have HU1 := Lib.hid U1
    clear hl U1 hx
    go_enter Tryd.func3, Tryd.ntmps3
    go_wp2_with (first | (go_at_call 8; refine Calls.mono (H1.out _ HL1.out) ?_; rintro e w2 ⟨rfl, u2⟩; have U2 := HU1.out.under0 u2; have a0 : w2.cell? ⟨w.heap.size, 0, none⟩ = some (.int .i64 x0) := cell_of U2.inn.head 0; have a1 : w2.cell? ⟨w.heap.size, 1, none⟩ = some (.int .i64 x1) := cell_of U2.inn.head 1; have a2 : w2.cell? ⟨w.heap.size, 2, none⟩ = some (.int .i64 x2) := cell_of U2.inn.head 2; have a3 : w2.cell? ⟨w.heap.size, 3, none⟩ = some (.int .i64 x3) := cell_of U2.inn.head 3; have a4 : w2.cell? ⟨w.heap.size, 4, none⟩ = some (.int .u64 (x4 : Int)) := cell_of U2.inn.head 4; have HL2 := Lib.hid (HL.out.upd U2); have HU2 := Lib.hid U2; clear U2) | (go_at_call 9; refine Calls.mono (H2.out _) ?_; rintro e w3 ⟨rfl, u3⟩; have U3 := HU2.out.under0 u3; have b0 : w3.cell? ⟨w.heap.size, 0, none⟩ = some (.int .i64 x0) := cell_of U3.inn.head 0; have b1 : w3.cell? ⟨w.heap.size, 1, none⟩ = some (.int .i64 x1) := cell_of U3.inn.head 1; have b2 : w3.cell? ⟨w.heap.size, 2, none⟩ = some (.int .i64 x2) := cell_of U3.inn.head 2; have b3 : w3.cell? ⟨w.heap.size, 3, none⟩ = some (.int .i64 x3) := cell_of U3.inn.head 3; have b4 : w3.cell? ⟨w.heap.size, 4, none⟩ = some (.int .u64 (x4 : Int)) := cell_of U3.inn.head 4; have HL3 := Lib.hid (HL.out.upd U3); have HU3 := Lib.hid U3; clear U3) | (go_at_call 10; refine Calls.mono (H3.out _ HL3.out) ?_; rintro e w4 ⟨rfl, u4⟩; have HU4 := Lib.hid (HU3.out.under0 u4)))
    go_ret
    exact ⟨rfl, HU4.out.forget (List.nil_sublist _)⟩
  | some l =>
    have hstep := line_step hx hl
    rw [lineV_some hl] at H1
    rw [lawV_some hl] at H2
    have hll : l.length ≤ 1000000000 := by
      unfold lineOf at hl
      cases hfo : formOf x.kind with
      | none => rw [hfo] at hl; cases hl
      | some f =>
        rw [hfo] at hl
        simp only at hl
        split at hl
        · injection hl with hl
          unfold formOf at hfo
          split at hfo
          · have := (words_len hx (List.mem_of_getElem? hfo)).2
            rw [hl] at this
            omega
          · cases hfo
        · cases hl
    have H4 := Lib.hid (fun W (h : Laid W) => tale_step l hll W h)
    rw [stepV_some hstep] at H4
    obtain ⟨x0, x1, x2, x3, x4⟩ := x
    obtain ⟨S, hS⟩ : ∃ s : ByteArray, (⟨l.toArray⟩ : ByteArray) = s := ⟨_, rfl⟩
    rw [hS] at H1 H2 H4
    simp only [entCells] at H1 H2 H4 ⊢
    have U1 := (Upd.refl (In.nil w)).alloc' (.cells #[.int .i64 x0, .int .i64 x1, .int .i64 x2, .int .i64 x3, .int .u64 (x4 : Int)] 24 (0, 0))
    have HL1 := Lib.hid (hL.upd U1)
    have HU1 := Lib.hid U1
    clear hl U1 hx hstep hS hll
    go_enter Tryd.func3, Tryd.ntmps3
    go_wp2_with (first | (go_at_call 8; refine Calls.mono (H1.out _ HL1.out) ?_; rintro e w2 ⟨rfl, u2⟩; have U2 := HU1.out.under0 u2; have a0 : w2.cell? ⟨w.heap.size, 0, none⟩ = some (.int .i64 x0) := cell_of U2.inn.head 0; have a1 : w2.cell? ⟨w.heap.size, 1, none⟩ = some (.int .i64 x1) := cell_of U2.inn.head 1; have a2 : w2.cell? ⟨w.heap.size, 2, none⟩ = some (.int .i64 x2) := cell_of U2.inn.head 2; have a3 : w2.cell? ⟨w.heap.size, 3, none⟩ = some (.int .i64 x3) := cell_of U2.inn.head 3; have a4 : w2.cell? ⟨w.heap.size, 4, none⟩ = some (.int .u64 (x4 : Int)) := cell_of U2.inn.head 4; have HL2 := Lib.hid (HL.out.upd U2); have HU2 := Lib.hid U2; clear U2) | (go_at_call 9; refine Calls.mono (H2.out _) ?_; rintro e w3 ⟨rfl, u3⟩; have U3 := HU2.out.under0 u3; have b0 : w3.cell? ⟨w.heap.size, 0, none⟩ = some (.int .i64 x0) := cell_of U3.inn.head 0; have b1 : w3.cell? ⟨w.heap.size, 1, none⟩ = some (.int .i64 x1) := cell_of U3.inn.head 1; have b2 : w3.cell? ⟨w.heap.size, 2, none⟩ = some (.int .i64 x2) := cell_of U3.inn.head 2; have b3 : w3.cell? ⟨w.heap.size, 3, none⟩ = some (.int .i64 x3) := cell_of U3.inn.head 3; have b4 : w3.cell? ⟨w.heap.size, 4, none⟩ = some (.int .u64 (x4 : Int)) := cell_of U3.inn.head 4; have HL3 := Lib.hid (HL.out.upd U3); have HU3 := Lib.hid U3; clear U3) | (go_at_call 11; refine Calls.mono (H4.out _ HL3.out) ?_; rintro e w5 ⟨rfl, u5⟩; have V5 := (HU3.out.under0 u5).alloc' (.cells #[.int .i64 x0, .int .i64 x1, .int .i64 x2, .int .i64 x3, .int .u64 (x4 : Int)] 24 (0, 0)); have HL5 := Lib.hid (HL.out.upd V5); have HU5 := Lib.hid V5; clear V5) | (go_at_call 10; refine Calls.mono (H3.out _ HL5.out) ?_; rintro e w6 ⟨rfl, u6⟩; have U6 := HU5.out.under0 u6; have c0 : w6.cell? ⟨w.heap.size, 0, none⟩ = some (.int .i64 x0) := cell_of U6.inn.tail.head 0; have c1 : w6.cell? ⟨w.heap.size, 1, none⟩ = some (.int .i64 x1) := cell_of U6.inn.tail.head 1; have c2 : w6.cell? ⟨w.heap.size, 2, none⟩ = some (.int .i64 x2) := cell_of U6.inn.tail.head 2; have c3 : w6.cell? ⟨w.heap.size, 3, none⟩ = some (.int .i64 x3) := cell_of U6.inn.tail.head 3; have c4 : w6.cell? ⟨w.heap.size, 4, none⟩ = some (.int .u64 (x4 : Int)) := cell_of U6.inn.tail.head 4; have d0 : w6.cell? ⟨w5.heap.size, 0, none⟩ = some (.int .i64 x0) := cell_of U6.inn.head 0; have d1 : w6.cell? ⟨w5.heap.size, 1, none⟩ = some (.int .i64 x1) := cell_of U6.inn.head 1; have d2 : w6.cell? ⟨w5.heap.size, 2, none⟩ = some (.int .i64 x2) := cell_of U6.inn.head 2; have d3 : w6.cell? ⟨w5.heap.size, 3, none⟩ = some (.int .i64 x3) := cell_of U6.inn.head 3; have d4 : w6.cell? ⟨w5.heap.size, 4, none⟩ = some (.int .u64 (x4 : Int)) := cell_of U6.inn.head 4; have HU6 := Lib.hid U6; clear U6))
    go_ret
    exact ⟨rfl, HU6.out.forget (List.nil_sublist _)⟩

end Go.Proofs.YtnmbehogiioonaaDoor
