/- Whether an entry has nothing that its form has not. No condition. -/
import Derived.Test.YtnmbehogiioonaaDoorT23Words
set_option linter.unusedVariables false
set_option linter.unusedSimpArgs false
namespace Go.Proofs.YtnmbehogiioonaaDoor
open Go.RowKit

def fitsS (x : EntS) (f : FormS) : Bool := (([x.a, x.b, x.c].drop f.size).all (fun n => decide (n = 0))) && (f.scalar || decide (x.v = 0))

set_option maxRecDepth 100000 in
set_option maxHeartbeats 4000000 in
theorem tale_fits (x : EntS) (f : FormS) (hf : f.size ≤ 3) (w : World) :
    Calls Tryd.prog 14 #[.agg (entCells x), .agg (formCells f).toArray] w fun e w' => e = .returned (.bool (fitsS x f)) ∧ Upd [] [] w w' := by
  obtain ⟨x0, x1, x2, x3, x4⟩ := x
  obtain ⟨f0, f1, f2⟩ := f
  simp only at hf
  simp only [entCells, formCells, fitsS]
  rcases (by omega : f1 = 0 ∨ f1 = 1 ∨ f1 = 2 ∨ f1 = 3) with rfl | rfl | rfl | rfl
  · have U1 := (((Upd.refl (In.nil w)).alloc' (.cells #[.int .i64 x0, .int .i64 x1, .int .i64 x2, .int .i64 x3, .int .u64 x4] 24 (0, 0))).alloc' (.cells #[.string ⟨f0.toArray⟩, .int .i64 0, .bool f2] 45 (0, 0))).alloc' (.cells #[.int .i64 x1, .int .i64 x2, .int .i64 x3] 3 (0, 0))
    simp only [World.size_alloc] at U1
    obtain ⟨B0, hB0⟩ : ∃ b, b = w.heap.size := ⟨_, rfl⟩
    obtain ⟨B1, hB1⟩ : ∃ b, b = w.heap.size + 1 := ⟨_, rfl⟩
    obtain ⟨B2, hB2⟩ : ∃ b, b = w.heap.size + 1 + 1 := ⟨_, rfl⟩
    rw [← hB2, ← hB1, ← hB0] at U1
    have HU1 := Lib.hid U1
    clear U1
    go_enter Tryd.func14, Tryd.ntmps14
    go_upto_block 0 with (fail)
    rw [← hB2, ← hB1, ← hB0]
    clear hB0 hB1 hB2
    go_wp2_with fail
    go_loopw [18] (fun q wr => ∃ (j : Nat), j ≤ 3 ∧ q = .int .i64 j ∧ (∀ i, i < j → ([x1, x2, x3] : List Int).getD (0 + i) 0 = 0) ∧ Hid (Upd [] [(B2, .cells #[.int .i64 x1, .int .i64 x2, .int .i64 x3] 3 (0, 0)), (B1, .cells #[.string ⟨f0.toArray⟩, .int .i64 0, .bool f2] 45 (0, 0)), (B0, .cells #[.int .i64 x0, .int .i64 x1, .int .i64 x2, .int .i64 x3, .int .u64 x4] 24 (0, 0))] w wr)) (fun q _ => 3 - (RowKit.intOf q).toNat)
    case atStart => exact ⟨0, by omega, rfl, fun i h => by omega, HU1⟩
    case round =>
      obtain ⟨j, hj, rfl, hz, HV⟩ := hrel
      have U := HV.out
      have c1 : wr.cell? ⟨B1, 2, none⟩ = some (.bool f2) := cell_of U.inn.tail.head 2
      have c0 : wr.cell? ⟨B0, 4, none⟩ = some (.int .u64 x4) := cell_of U.inn.tail.tail.head 4
      have d1 : wr.cell? ⟨B2, 0, none⟩ = some (.int .i64 x1) := cell_of U.inn.head 0
      have d2 : wr.cell? ⟨B2, 1, none⟩ = some (.int .i64 x2) := cell_of U.inn.head 1
      have d3 : wr.cell? ⟨B2, 2, none⟩ = some (.int .i64 x3) := cell_of U.inn.head 2
      clear U
      rcases (by omega : j = 0 ∨ j = 1 ∨ j = 2 ∨ j = 3) with rfl | rfl | rfl | rfl
      · by_cases hx : x1 = 0
        · subst hx
          go_wp2
          go_roundw
          case rel => exact ⟨1, by omega, rfl, fun i hi => (by rcases (by omega : i = 0) with rfl <;> first | rfl | (exact hz _ (by omega))), HV⟩
          case measure => simp [RowKit.intOf]
        · go_wp2
          go_ret
          exact ⟨by simp [hx], HV.out.forget (List.nil_sublist _)⟩
      · by_cases hx : x2 = 0
        · subst hx
          go_wp2
          go_roundw
          case rel => exact ⟨2, by omega, rfl, fun i hi => (by rcases (by omega : i = 0 ∨ i = 1) with rfl | rfl <;> first | rfl | (exact hz _ (by omega))), HV⟩
          case measure => simp [RowKit.intOf]
        · go_wp2
          go_ret
          exact ⟨by simp [hx], HV.out.forget (List.nil_sublist _)⟩
      · by_cases hx : x3 = 0
        · subst hx
          go_wp2
          go_roundw
          case rel => exact ⟨3, by omega, rfl, fun i hi => (by rcases (by omega : i = 0 ∨ i = 1 ∨ i = 2) with rfl | rfl | rfl <;> first | rfl | (exact hz _ (by omega))), HV⟩
          case measure => simp [RowKit.intOf]
        · go_wp2
          go_ret
          exact ⟨by simp [hx], HV.out.forget (List.nil_sublist _)⟩
      · have z0 := hz 0 (by omega); have z1 := hz 1 (by omega); have z2 := hz 2 (by omega); skip
        simp at z0 z1 z2
        subst z0 z1 z2
        clear hz
        cases f2 with
        | true => go_wp2; go_ret; exact ⟨by simp, HV.out.forget (List.nil_sublist _)⟩
        | false =>
          by_cases h4 : x4 = 0
          · subst h4; go_wp2; go_ret; exact ⟨by simp, HV.out.forget (List.nil_sublist _)⟩
          · have h5 : ¬ (x4 : Int) = 0 := by omega
            go_wp2; go_ret; exact ⟨by simp [h4], HV.out.forget (List.nil_sublist _)⟩
  · have U1 := (((Upd.refl (In.nil w)).alloc' (.cells #[.int .i64 x0, .int .i64 x1, .int .i64 x2, .int .i64 x3, .int .u64 x4] 24 (0, 0))).alloc' (.cells #[.string ⟨f0.toArray⟩, .int .i64 1, .bool f2] 45 (0, 0))).alloc' (.cells #[.int .i64 x1, .int .i64 x2, .int .i64 x3] 3 (0, 0))
    simp only [World.size_alloc] at U1
    obtain ⟨B0, hB0⟩ : ∃ b, b = w.heap.size := ⟨_, rfl⟩
    obtain ⟨B1, hB1⟩ : ∃ b, b = w.heap.size + 1 := ⟨_, rfl⟩
    obtain ⟨B2, hB2⟩ : ∃ b, b = w.heap.size + 1 + 1 := ⟨_, rfl⟩
    rw [← hB2, ← hB1, ← hB0] at U1
    have HU1 := Lib.hid U1
    clear U1
    go_enter Tryd.func14, Tryd.ntmps14
    go_upto_block 0 with (fail)
    rw [← hB2, ← hB1, ← hB0]
    clear hB0 hB1 hB2
    go_wp2_with fail
    go_loopw [18] (fun q wr => ∃ (j : Nat), j ≤ 2 ∧ q = .int .i64 j ∧ (∀ i, i < j → ([x1, x2, x3] : List Int).getD (1 + i) 0 = 0) ∧ Hid (Upd [] [(B2, .cells #[.int .i64 x1, .int .i64 x2, .int .i64 x3] 3 (0, 0)), (B1, .cells #[.string ⟨f0.toArray⟩, .int .i64 1, .bool f2] 45 (0, 0)), (B0, .cells #[.int .i64 x0, .int .i64 x1, .int .i64 x2, .int .i64 x3, .int .u64 x4] 24 (0, 0))] w wr)) (fun q _ => 2 - (RowKit.intOf q).toNat)
    case atStart => exact ⟨0, by omega, rfl, fun i h => by omega, HU1⟩
    case round =>
      obtain ⟨j, hj, rfl, hz, HV⟩ := hrel
      have U := HV.out
      have c1 : wr.cell? ⟨B1, 2, none⟩ = some (.bool f2) := cell_of U.inn.tail.head 2
      have c0 : wr.cell? ⟨B0, 4, none⟩ = some (.int .u64 x4) := cell_of U.inn.tail.tail.head 4
      have d1 : wr.cell? ⟨B2, 0, none⟩ = some (.int .i64 x1) := cell_of U.inn.head 0
      have d2 : wr.cell? ⟨B2, 1, none⟩ = some (.int .i64 x2) := cell_of U.inn.head 1
      have d3 : wr.cell? ⟨B2, 2, none⟩ = some (.int .i64 x3) := cell_of U.inn.head 2
      clear U
      rcases (by omega : j = 0 ∨ j = 1 ∨ j = 2) with rfl | rfl | rfl
      · by_cases hx : x2 = 0
        · subst hx
          go_wp2
          go_roundw
          case rel => exact ⟨1, by omega, rfl, fun i hi => (by rcases (by omega : i = 0) with rfl <;> first | rfl | (exact hz _ (by omega))), HV⟩
          case measure => simp [RowKit.intOf]
        · go_wp2
          go_ret
          exact ⟨by simp [hx], HV.out.forget (List.nil_sublist _)⟩
      · by_cases hx : x3 = 0
        · subst hx
          go_wp2
          go_roundw
          case rel => exact ⟨2, by omega, rfl, fun i hi => (by rcases (by omega : i = 0 ∨ i = 1) with rfl | rfl <;> first | rfl | (exact hz _ (by omega))), HV⟩
          case measure => simp [RowKit.intOf]
        · go_wp2
          go_ret
          exact ⟨by simp [hx], HV.out.forget (List.nil_sublist _)⟩
      · have z0 := hz 0 (by omega); have z1 := hz 1 (by omega); skip
        simp at z0 z1
        subst z0 z1
        clear hz
        cases f2 with
        | true => go_wp2; go_ret; exact ⟨by simp, HV.out.forget (List.nil_sublist _)⟩
        | false =>
          by_cases h4 : x4 = 0
          · subst h4; go_wp2; go_ret; exact ⟨by simp, HV.out.forget (List.nil_sublist _)⟩
          · have h5 : ¬ (x4 : Int) = 0 := by omega
            go_wp2; go_ret; exact ⟨by simp [h4], HV.out.forget (List.nil_sublist _)⟩
  · have U1 := (((Upd.refl (In.nil w)).alloc' (.cells #[.int .i64 x0, .int .i64 x1, .int .i64 x2, .int .i64 x3, .int .u64 x4] 24 (0, 0))).alloc' (.cells #[.string ⟨f0.toArray⟩, .int .i64 2, .bool f2] 45 (0, 0))).alloc' (.cells #[.int .i64 x1, .int .i64 x2, .int .i64 x3] 3 (0, 0))
    simp only [World.size_alloc] at U1
    obtain ⟨B0, hB0⟩ : ∃ b, b = w.heap.size := ⟨_, rfl⟩
    obtain ⟨B1, hB1⟩ : ∃ b, b = w.heap.size + 1 := ⟨_, rfl⟩
    obtain ⟨B2, hB2⟩ : ∃ b, b = w.heap.size + 1 + 1 := ⟨_, rfl⟩
    rw [← hB2, ← hB1, ← hB0] at U1
    have HU1 := Lib.hid U1
    clear U1
    go_enter Tryd.func14, Tryd.ntmps14
    go_upto_block 0 with (fail)
    rw [← hB2, ← hB1, ← hB0]
    clear hB0 hB1 hB2
    go_wp2_with fail
    go_loopw [18] (fun q wr => ∃ (j : Nat), j ≤ 1 ∧ q = .int .i64 j ∧ (∀ i, i < j → ([x1, x2, x3] : List Int).getD (2 + i) 0 = 0) ∧ Hid (Upd [] [(B2, .cells #[.int .i64 x1, .int .i64 x2, .int .i64 x3] 3 (0, 0)), (B1, .cells #[.string ⟨f0.toArray⟩, .int .i64 2, .bool f2] 45 (0, 0)), (B0, .cells #[.int .i64 x0, .int .i64 x1, .int .i64 x2, .int .i64 x3, .int .u64 x4] 24 (0, 0))] w wr)) (fun q _ => 1 - (RowKit.intOf q).toNat)
    case atStart => exact ⟨0, by omega, rfl, fun i h => by omega, HU1⟩
    case round =>
      obtain ⟨j, hj, rfl, hz, HV⟩ := hrel
      have U := HV.out
      have c1 : wr.cell? ⟨B1, 2, none⟩ = some (.bool f2) := cell_of U.inn.tail.head 2
      have c0 : wr.cell? ⟨B0, 4, none⟩ = some (.int .u64 x4) := cell_of U.inn.tail.tail.head 4
      have d1 : wr.cell? ⟨B2, 0, none⟩ = some (.int .i64 x1) := cell_of U.inn.head 0
      have d2 : wr.cell? ⟨B2, 1, none⟩ = some (.int .i64 x2) := cell_of U.inn.head 1
      have d3 : wr.cell? ⟨B2, 2, none⟩ = some (.int .i64 x3) := cell_of U.inn.head 2
      clear U
      rcases (by omega : j = 0 ∨ j = 1) with rfl | rfl
      · by_cases hx : x3 = 0
        · subst hx
          go_wp2
          go_roundw
          case rel => exact ⟨1, by omega, rfl, fun i hi => (by rcases (by omega : i = 0) with rfl <;> first | rfl | (exact hz _ (by omega))), HV⟩
          case measure => simp [RowKit.intOf]
        · go_wp2
          go_ret
          exact ⟨by simp [hx], HV.out.forget (List.nil_sublist _)⟩
      · have z0 := hz 0 (by omega); skip
        simp at z0
        subst z0
        clear hz
        cases f2 with
        | true => go_wp2; go_ret; exact ⟨by simp, HV.out.forget (List.nil_sublist _)⟩
        | false =>
          by_cases h4 : x4 = 0
          · subst h4; go_wp2; go_ret; exact ⟨by simp, HV.out.forget (List.nil_sublist _)⟩
          · have h5 : ¬ (x4 : Int) = 0 := by omega
            go_wp2; go_ret; exact ⟨by simp [h4], HV.out.forget (List.nil_sublist _)⟩
  · have U1 := (((Upd.refl (In.nil w)).alloc' (.cells #[.int .i64 x0, .int .i64 x1, .int .i64 x2, .int .i64 x3, .int .u64 x4] 24 (0, 0))).alloc' (.cells #[.string ⟨f0.toArray⟩, .int .i64 3, .bool f2] 45 (0, 0))).alloc' (.cells #[.int .i64 x1, .int .i64 x2, .int .i64 x3] 3 (0, 0))
    simp only [World.size_alloc] at U1
    obtain ⟨B0, hB0⟩ : ∃ b, b = w.heap.size := ⟨_, rfl⟩
    obtain ⟨B1, hB1⟩ : ∃ b, b = w.heap.size + 1 := ⟨_, rfl⟩
    obtain ⟨B2, hB2⟩ : ∃ b, b = w.heap.size + 1 + 1 := ⟨_, rfl⟩
    rw [← hB2, ← hB1, ← hB0] at U1
    have HU1 := Lib.hid U1
    clear U1
    go_enter Tryd.func14, Tryd.ntmps14
    go_upto_block 0 with (fail)
    rw [← hB2, ← hB1, ← hB0]
    clear hB0 hB1 hB2
    go_wp2_with fail
    go_loopw [18] (fun q wr => ∃ (j : Nat), j ≤ 0 ∧ q = .int .i64 j ∧ (∀ i, i < j → ([x1, x2, x3] : List Int).getD (3 + i) 0 = 0) ∧ Hid (Upd [] [(B2, .cells #[.int .i64 x1, .int .i64 x2, .int .i64 x3] 3 (0, 0)), (B1, .cells #[.string ⟨f0.toArray⟩, .int .i64 3, .bool f2] 45 (0, 0)), (B0, .cells #[.int .i64 x0, .int .i64 x1, .int .i64 x2, .int .i64 x3, .int .u64 x4] 24 (0, 0))] w wr)) (fun q _ => 0 - (RowKit.intOf q).toNat)
    case atStart => exact ⟨0, by omega, rfl, fun i h => by omega, HU1⟩
    case round =>
      obtain ⟨j, hj, rfl, hz, HV⟩ := hrel
      have U := HV.out
      have c1 : wr.cell? ⟨B1, 2, none⟩ = some (.bool f2) := cell_of U.inn.tail.head 2
      have c0 : wr.cell? ⟨B0, 4, none⟩ = some (.int .u64 x4) := cell_of U.inn.tail.tail.head 4
      have d1 : wr.cell? ⟨B2, 0, none⟩ = some (.int .i64 x1) := cell_of U.inn.head 0
      have d2 : wr.cell? ⟨B2, 1, none⟩ = some (.int .i64 x2) := cell_of U.inn.head 1
      have d3 : wr.cell? ⟨B2, 2, none⟩ = some (.int .i64 x3) := cell_of U.inn.head 2
      clear U
      rcases (by omega : j = 0) with rfl
      · skip
        skip
        clear hz
        cases f2 with
        | true => go_wp2; go_ret; exact ⟨by simp, HV.out.forget (List.nil_sublist _)⟩
        | false =>
          by_cases h4 : x4 = 0
          · subst h4; go_wp2; go_ret; exact ⟨by simp, HV.out.forget (List.nil_sublist _)⟩
          · have h5 : ¬ (x4 : Int) = 0 := by omega
            go_wp2; go_ret; exact ⟨by simp [h4], HV.out.forget (List.nil_sublist _)⟩

end Go.Proofs.YtnmbehogiioonaaDoor
