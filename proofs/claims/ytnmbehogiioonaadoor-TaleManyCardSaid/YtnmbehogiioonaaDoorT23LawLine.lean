/- The law's own line of an entry. No condition. -/
import Derived.Test.YtnmbehogiioonaaDoorT23Law
set_option linter.unusedVariables false
set_option linter.unusedSimpArgs false
namespace Go.Proofs.YtnmbehogiioonaaDoor
open Go.RowKit Go.Shelf Go.Lib

def lawV (x : EntS) : Value := match lineOf x with | some l => .tuple #[.string ⟨l.toArray⟩, .bool true] | none => .tuple #[.string ⟨#[]⟩, .bool false]
theorem lawV_none {x : EntS} (h : lineOf x = none) : lawV x = .tuple #[.string ⟨#[]⟩, .bool false] := by unfold lawV; rw [h]
theorem lawV_some {x : EntS} {l : List UInt8} (h : lineOf x = some l) : lawV x = .tuple #[.string ⟨l.toArray⟩, .bool true] := by unfold lawV; rw [h]
theorem itoa_size (n : Int) (hn : I64 n) : (itoa n).length ≤ 21 := itoa_length_le n hn.1 hn.2

set_option maxRecDepth 100000 in
set_option maxHeartbeats 4000000 in
theorem law_line_1 (x1 x2 x3 : Int) (x4 : Nat) (hx : EntS.Ok ⟨1, x1, x2, x3, x4⟩) (w : World) :
    Calls Tryd.prog 9 #[.agg (entCells ⟨1, x1, x2, x3, x4⟩)] w fun e w' => e = .returned (lawV ⟨1, x1, x2, x3, x4⟩) ∧ Upd [] [] w w' := by
  obtain ⟨hx0, hx1, hx2, hx3, hx4⟩ := hx
  simp only at hx0 hx1 hx2 hx3 hx4
  have hform : formOf 1 = some ⟨[109, 97, 107, 101], 3, false⟩ := rfl
  have hlo : lineOf ⟨1, x1, x2, x3, x4⟩ = if fitsS ⟨1, x1, x2, x3, x4⟩ ⟨[109, 97, 107, 101], 3, false⟩ then some (Lib.join (wordsOf ⟨1, x1, x2, x3, x4⟩ ⟨[109, 97, 107, 101], 3, false⟩) [32]) else none := rfl
  by_cases hx4 : x4 = 0
  rotate_left
  · have HL : Hid (lineOf (⟨1, x1, x2, x3, x4⟩ : EntS) = none) := Lib.hid (by rw [hlo, if_neg (by simp [fitsS, hx4])])
    rw [lawV_none HL.out]
    have hz2 : ¬ ((x4 : Int) = 0) := by omega
    clear hlo hform
    simp only [entCells]
    go_enter Tryd.func9, Tryd.ntmps9
    go_wp2
    go_ret2
    exact ⟨rfl, (((Upd.refl (In.nil w)).skip' _).skip' _).skip' _⟩
  subst hx4
  have HL : Hid (lineOf (⟨1, x1, x2, x3, 0⟩ : EntS) = some (Lib.join (wordsOf (⟨1, x1, x2, x3, 0⟩ : EntS) ⟨[109, 97, 107, 101], 3, false⟩) [32])) := Lib.hid (by rw [hlo, if_pos (by simp [fitsS])])
  rw [lawV_some HL.out]
  clear hlo hform
  simp only [entCells]
  have hl0 := itoa_size x1 hx1
  have HD0 := Lib.hid (fun W => law_digits x1 hx1 W)
  obtain ⟨s0, hs0⟩ : ∃ s : ByteArray, (⟨(itoa x1).toArray⟩ : ByteArray) = s := ⟨_, rfl⟩
  have hz0 : s0.size ≤ 21 := by rw [← hs0]; exact hl0
  have hzi0 : (s0.size : Int) ≤ 21 := by omega
  rw [hs0] at HD0
  have HS0 := Lib.hid hs0
  clear hs0 hl0
  have hl1 := itoa_size x2 hx2
  have HD1 := Lib.hid (fun W => law_digits x2 hx2 W)
  obtain ⟨s1, hs1⟩ : ∃ s : ByteArray, (⟨(itoa x2).toArray⟩ : ByteArray) = s := ⟨_, rfl⟩
  have hz1 : s1.size ≤ 21 := by rw [← hs1]; exact hl1
  have hzi1 : (s1.size : Int) ≤ 21 := by omega
  rw [hs1] at HD1
  have HS1 := Lib.hid hs1
  clear hs1 hl1
  have hl2 := itoa_size x3 hx3
  have HD2 := Lib.hid (fun W => law_digits x3 hx3 W)
  obtain ⟨s2, hs2⟩ : ∃ s : ByteArray, (⟨(itoa x3).toArray⟩ : ByteArray) = s := ⟨_, rfl⟩
  have hz2 : s2.size ≤ 21 := by rw [← hs2]; exact hl2
  have hzi2 : (s2.size : Int) ≤ 21 := by omega
  rw [hs2] at HD2
  have HS2 := Lib.hid hs2
  clear hs2 hl2
  have hw1 : ¬ (5 + s0.size > 9223372036854775807) := by omega
  have hw2 : ¬ (9223372036854775807 < 5 + s0.size) := by omega
  have hw3 : ¬ (((⟨#[109, 97, 107, 101]⟩ : ByteArray) ++ (⟨#[32]⟩ : ByteArray)).size + s0.size > 9223372036854775807) := by (simp only [ByteArray.size_append, ByteArray.size_mk']; simp; omega)
  have U1 := (((Upd.refl (In.nil w)).alloc' (.cells #[.int .i64 1, .int .i64 x1, .int .i64 x2, .int .i64 x3, .int .u64 0] 24 (0, 0))).alloc' (.cells #[.string ⟨#[]⟩, .string ⟨#[109, 97, 107, 101]⟩, .string ⟨#[103, 101, 116]⟩, .string ⟨#[115, 101, 116]⟩, .string ⟨#[114, 101, 97, 100]⟩, .string ⟨#[119, 114, 105, 116, 101]⟩, .string ⟨#[99, 108, 101, 97, 114]⟩, .string ⟨#[99, 111, 112, 121]⟩, .string ⟨#[115, 97, 109, 101]⟩, .string ⟨#[110, 105, 108]⟩, .string ⟨#[115, 104, 97, 112, 101]⟩, .string ⟨#[105, 100, 108, 101]⟩, .string ⟨#[102, 111, 114, 99, 101]⟩] 9 (0, 0))).alloc' (.cells #[.int .i64 0, .int .i64 3, .int .i64 3, .int .i64 3, .int .i64 2, .int .i64 2, .int .i64 1, .int .i64 2, .int .i64 2, .int .i64 1, .int .i64 1, .int .i64 2, .int .i64 1] 3 (0, 0))
  simp only [World.size_alloc] at U1
  go_enter Tryd.func9, Tryd.ntmps9
  go_wp2
  generalize (((w.alloc (.cells #[.int .i64 1, .int .i64 x1, .int .i64 x2, .int .i64 x3, .int .u64 0] 24 (0, 0))).alloc (.cells #[.string ⟨#[]⟩, .string ⟨#[109, 97, 107, 101]⟩, .string ⟨#[103, 101, 116]⟩, .string ⟨#[115, 101, 116]⟩, .string ⟨#[114, 101, 97, 100]⟩, .string ⟨#[119, 114, 105, 116, 101]⟩, .string ⟨#[99, 108, 101, 97, 114]⟩, .string ⟨#[99, 111, 112, 121]⟩, .string ⟨#[115, 97, 109, 101]⟩, .string ⟨#[110, 105, 108]⟩, .string ⟨#[115, 104, 97, 112, 101]⟩, .string ⟨#[105, 100, 108, 101]⟩, .string ⟨#[102, 111, 114, 99, 101]⟩] 9 (0, 0))).alloc (.cells #[.int .i64 0, .int .i64 3, .int .i64 3, .int .i64 3, .int .i64 2, .int .i64 2, .int .i64 1, .int .i64 2, .int .i64 2, .int .i64 1, .int .i64 1, .int .i64 2, .int .i64 1] 3 (0, 0))) = W3 at *
  obtain ⟨B0, hB0⟩ : ∃ b, b = w.heap.size := ⟨_, rfl⟩
  obtain ⟨B1, hB1⟩ : ∃ b, b = w.heap.size + 1 := ⟨_, rfl⟩
  obtain ⟨B2, hB2⟩ : ∃ b, b = w.heap.size + 1 + 1 := ⟨_, rfl⟩
  rw [← hB2, ← hB1] at U1 ⊢
  simp only [← hB0] at U1 ⊢
  clear hB2 hB1 hB0
  have U2 := U1.drew'
  have hS : ∀ W, Upd [] [(B2, (.cells #[.int .i64 0, .int .i64 3, .int .i64 3, .int .i64 3, .int .i64 2, .int .i64 2, .int .i64 1, .int .i64 2, .int .i64 2, .int .i64 1, .int .i64 1, .int .i64 2, .int .i64 1] 3 (0, 0))), (B1, (.cells #[.string ⟨#[]⟩, .string ⟨#[109, 97, 107, 101]⟩, .string ⟨#[103, 101, 116]⟩, .string ⟨#[115, 101, 116]⟩, .string ⟨#[114, 101, 97, 100]⟩, .string ⟨#[119, 114, 105, 116, 101]⟩, .string ⟨#[99, 108, 101, 97, 114]⟩, .string ⟨#[99, 111, 112, 121]⟩, .string ⟨#[115, 97, 109, 101]⟩, .string ⟨#[110, 105, 108]⟩, .string ⟨#[115, 104, 97, 112, 101]⟩, .string ⟨#[105, 100, 108, 101]⟩, .string ⟨#[102, 111, 114, 99, 101]⟩] 9 (0, 0))), (B0, (.cells #[.int .i64 1, .int .i64 x1, .int .i64 x2, .int .i64 x3, .int .u64 0] 24 (0, 0)))] w W → (fun w' => w'.cell? ⟨B0, 0, none⟩ = some (.int .i64 1) ∧ w'.cell? ⟨B0, 1, none⟩ = some (.int .i64 x1) ∧ w'.cell? ⟨B1, 1, none⟩ = some (.string ⟨#[109, 97, 107, 101]⟩)) W := fun W U => ⟨cell_of U.inn.tail.tail.head 0, cell_of U.inn.tail.tail.head 1, cell_of U.inn.tail.head 1⟩
  have HSS := Lib.hid hS
  have t2 := hS _ U2
  have HU2 := Lib.hid U2
  clear hS U1 U2
  go_region_held3 (fun w' => w'.cell? ⟨B0, 0, none⟩ = some (.int .i64 1) ∧ w'.cell? ⟨B0, 1, none⟩ = some (.int .i64 x1) ∧ w'.cell? ⟨B1, 1, none⟩ = some (.string ⟨#[109, 97, 107, 101]⟩))
    (first | (with_reducible exact t2) | (with_reducible exact t4))
    (first | (go_at_call 17; refine Calls.mono (HD0.out _) ?_; rintro e w4 ⟨rfl, u4⟩; have U4 := HU2.out.under0 u4; have t4 := HSS.out _ U4; have HU4 := Lib.hid U4; clear U4))
  have U4 := HU4.out
  have e0 : w4.cell? ⟨B0, 0, none⟩ = some (.int .i64 1) := cell_of U4.inn.tail.tail.head 0
  have e2 : w4.cell? ⟨B0, 2, none⟩ = some (.int .i64 x2) := cell_of U4.inn.tail.tail.head 2
  have e3 : w4.cell? ⟨B0, 3, none⟩ = some (.int .i64 x3) := cell_of U4.inn.tail.tail.head 3
  have e4 : w4.cell? ⟨B0, 4, none⟩ = some (.int .u64 0) := cell_of U4.inn.tail.tail.head 4
  clear U4
  go_wp2_with (first | (have hU := HU5; go_at_call 17; (with_reducible refine Calls.mono (HD2.out _) ?_); rintro e w6 ⟨rfl, u6⟩; have V2 := HU5.out.under0 u6; have e02 : w6.cell? ⟨B0, 0, none⟩ = some (.int .i64 1) := cell_of V2.inn.tail.tail.head 0; have e22 : w6.cell? ⟨B0, 2, none⟩ = some (.int .i64 x2) := cell_of V2.inn.tail.tail.head 2; have e32 : w6.cell? ⟨B0, 3, none⟩ = some (.int .i64 x3) := cell_of V2.inn.tail.tail.head 3; have e42 : w6.cell? ⟨B0, 4, none⟩ = some (.int .u64 0) := cell_of V2.inn.tail.tail.head 4; have HU6 := Lib.hid V2; clear V2 hU) | (have hU := HU4; go_at_call 17; (with_reducible refine Calls.mono (HD1.out _) ?_); rintro e w5 ⟨rfl, u5⟩; have V1 := HU4.out.under0 u5; have e01 : w5.cell? ⟨B0, 0, none⟩ = some (.int .i64 1) := cell_of V1.inn.tail.tail.head 0; have e21 : w5.cell? ⟨B0, 2, none⟩ = some (.int .i64 x2) := cell_of V1.inn.tail.tail.head 2; have e31 : w5.cell? ⟨B0, 3, none⟩ = some (.int .i64 x3) := cell_of V1.inn.tail.tail.head 3; have e41 : w5.cell? ⟨B0, 4, none⟩ = some (.int .u64 0) := cell_of V1.inn.tail.tail.head 4; have HU5 := Lib.hid V1; clear V1 hU))
  go_ret2
  refine ⟨?_, HU6.out.forget (List.nil_sublist _)⟩
  refine congrArg (fun s => Ending.returned (.tuple #[.string s, .bool true])) ?_
  rw [← HS0.out, ← HS1.out, ← HS2.out]
  apply ByteArray.ext
  simp [wordsOf, join_cons, joinTail]
set_option maxRecDepth 100000 in
set_option maxHeartbeats 4000000 in
theorem law_line_2 (x1 x2 x3 : Int) (x4 : Nat) (hx : EntS.Ok ⟨2, x1, x2, x3, x4⟩) (w : World) :
    Calls Tryd.prog 9 #[.agg (entCells ⟨2, x1, x2, x3, x4⟩)] w fun e w' => e = .returned (lawV ⟨2, x1, x2, x3, x4⟩) ∧ Upd [] [] w w' := by
  obtain ⟨hx0, hx1, hx2, hx3, hx4⟩ := hx
  simp only at hx0 hx1 hx2 hx3 hx4
  have hform : formOf 2 = some ⟨[103, 101, 116], 3, false⟩ := rfl
  have hlo : lineOf ⟨2, x1, x2, x3, x4⟩ = if fitsS ⟨2, x1, x2, x3, x4⟩ ⟨[103, 101, 116], 3, false⟩ then some (Lib.join (wordsOf ⟨2, x1, x2, x3, x4⟩ ⟨[103, 101, 116], 3, false⟩) [32]) else none := rfl
  by_cases hx4 : x4 = 0
  rotate_left
  · have HL : Hid (lineOf (⟨2, x1, x2, x3, x4⟩ : EntS) = none) := Lib.hid (by rw [hlo, if_neg (by simp [fitsS, hx4])])
    rw [lawV_none HL.out]
    have hz2 : ¬ ((x4 : Int) = 0) := by omega
    clear hlo hform
    simp only [entCells]
    go_enter Tryd.func9, Tryd.ntmps9
    go_wp2
    go_ret2
    exact ⟨rfl, (((Upd.refl (In.nil w)).skip' _).skip' _).skip' _⟩
  subst hx4
  have HL : Hid (lineOf (⟨2, x1, x2, x3, 0⟩ : EntS) = some (Lib.join (wordsOf (⟨2, x1, x2, x3, 0⟩ : EntS) ⟨[103, 101, 116], 3, false⟩) [32])) := Lib.hid (by rw [hlo, if_pos (by simp [fitsS])])
  rw [lawV_some HL.out]
  clear hlo hform
  simp only [entCells]
  have hl0 := itoa_size x1 hx1
  have HD0 := Lib.hid (fun W => law_digits x1 hx1 W)
  obtain ⟨s0, hs0⟩ : ∃ s : ByteArray, (⟨(itoa x1).toArray⟩ : ByteArray) = s := ⟨_, rfl⟩
  have hz0 : s0.size ≤ 21 := by rw [← hs0]; exact hl0
  have hzi0 : (s0.size : Int) ≤ 21 := by omega
  rw [hs0] at HD0
  have HS0 := Lib.hid hs0
  clear hs0 hl0
  have hl1 := itoa_size x2 hx2
  have HD1 := Lib.hid (fun W => law_digits x2 hx2 W)
  obtain ⟨s1, hs1⟩ : ∃ s : ByteArray, (⟨(itoa x2).toArray⟩ : ByteArray) = s := ⟨_, rfl⟩
  have hz1 : s1.size ≤ 21 := by rw [← hs1]; exact hl1
  have hzi1 : (s1.size : Int) ≤ 21 := by omega
  rw [hs1] at HD1
  have HS1 := Lib.hid hs1
  clear hs1 hl1
  have hl2 := itoa_size x3 hx3
  have HD2 := Lib.hid (fun W => law_digits x3 hx3 W)
  obtain ⟨s2, hs2⟩ : ∃ s : ByteArray, (⟨(itoa x3).toArray⟩ : ByteArray) = s := ⟨_, rfl⟩
  have hz2 : s2.size ≤ 21 := by rw [← hs2]; exact hl2
  have hzi2 : (s2.size : Int) ≤ 21 := by omega
  rw [hs2] at HD2
  have HS2 := Lib.hid hs2
  clear hs2 hl2
  have hw1 : ¬ (4 + s0.size > 9223372036854775807) := by omega
  have hw2 : ¬ (9223372036854775807 < 4 + s0.size) := by omega
  have hw3 : ¬ (((⟨#[103, 101, 116]⟩ : ByteArray) ++ (⟨#[32]⟩ : ByteArray)).size + s0.size > 9223372036854775807) := by (simp only [ByteArray.size_append, ByteArray.size_mk']; simp; omega)
  have U1 := (((Upd.refl (In.nil w)).alloc' (.cells #[.int .i64 2, .int .i64 x1, .int .i64 x2, .int .i64 x3, .int .u64 0] 24 (0, 0))).alloc' (.cells #[.string ⟨#[]⟩, .string ⟨#[109, 97, 107, 101]⟩, .string ⟨#[103, 101, 116]⟩, .string ⟨#[115, 101, 116]⟩, .string ⟨#[114, 101, 97, 100]⟩, .string ⟨#[119, 114, 105, 116, 101]⟩, .string ⟨#[99, 108, 101, 97, 114]⟩, .string ⟨#[99, 111, 112, 121]⟩, .string ⟨#[115, 97, 109, 101]⟩, .string ⟨#[110, 105, 108]⟩, .string ⟨#[115, 104, 97, 112, 101]⟩, .string ⟨#[105, 100, 108, 101]⟩, .string ⟨#[102, 111, 114, 99, 101]⟩] 9 (0, 0))).alloc' (.cells #[.int .i64 0, .int .i64 3, .int .i64 3, .int .i64 3, .int .i64 2, .int .i64 2, .int .i64 1, .int .i64 2, .int .i64 2, .int .i64 1, .int .i64 1, .int .i64 2, .int .i64 1] 3 (0, 0))
  simp only [World.size_alloc] at U1
  go_enter Tryd.func9, Tryd.ntmps9
  go_wp2
  generalize (((w.alloc (.cells #[.int .i64 2, .int .i64 x1, .int .i64 x2, .int .i64 x3, .int .u64 0] 24 (0, 0))).alloc (.cells #[.string ⟨#[]⟩, .string ⟨#[109, 97, 107, 101]⟩, .string ⟨#[103, 101, 116]⟩, .string ⟨#[115, 101, 116]⟩, .string ⟨#[114, 101, 97, 100]⟩, .string ⟨#[119, 114, 105, 116, 101]⟩, .string ⟨#[99, 108, 101, 97, 114]⟩, .string ⟨#[99, 111, 112, 121]⟩, .string ⟨#[115, 97, 109, 101]⟩, .string ⟨#[110, 105, 108]⟩, .string ⟨#[115, 104, 97, 112, 101]⟩, .string ⟨#[105, 100, 108, 101]⟩, .string ⟨#[102, 111, 114, 99, 101]⟩] 9 (0, 0))).alloc (.cells #[.int .i64 0, .int .i64 3, .int .i64 3, .int .i64 3, .int .i64 2, .int .i64 2, .int .i64 1, .int .i64 2, .int .i64 2, .int .i64 1, .int .i64 1, .int .i64 2, .int .i64 1] 3 (0, 0))) = W3 at *
  obtain ⟨B0, hB0⟩ : ∃ b, b = w.heap.size := ⟨_, rfl⟩
  obtain ⟨B1, hB1⟩ : ∃ b, b = w.heap.size + 1 := ⟨_, rfl⟩
  obtain ⟨B2, hB2⟩ : ∃ b, b = w.heap.size + 1 + 1 := ⟨_, rfl⟩
  rw [← hB2, ← hB1] at U1 ⊢
  simp only [← hB0] at U1 ⊢
  clear hB2 hB1 hB0
  have U2 := U1.drew'
  have hS : ∀ W, Upd [] [(B2, (.cells #[.int .i64 0, .int .i64 3, .int .i64 3, .int .i64 3, .int .i64 2, .int .i64 2, .int .i64 1, .int .i64 2, .int .i64 2, .int .i64 1, .int .i64 1, .int .i64 2, .int .i64 1] 3 (0, 0))), (B1, (.cells #[.string ⟨#[]⟩, .string ⟨#[109, 97, 107, 101]⟩, .string ⟨#[103, 101, 116]⟩, .string ⟨#[115, 101, 116]⟩, .string ⟨#[114, 101, 97, 100]⟩, .string ⟨#[119, 114, 105, 116, 101]⟩, .string ⟨#[99, 108, 101, 97, 114]⟩, .string ⟨#[99, 111, 112, 121]⟩, .string ⟨#[115, 97, 109, 101]⟩, .string ⟨#[110, 105, 108]⟩, .string ⟨#[115, 104, 97, 112, 101]⟩, .string ⟨#[105, 100, 108, 101]⟩, .string ⟨#[102, 111, 114, 99, 101]⟩] 9 (0, 0))), (B0, (.cells #[.int .i64 2, .int .i64 x1, .int .i64 x2, .int .i64 x3, .int .u64 0] 24 (0, 0)))] w W → (fun w' => w'.cell? ⟨B0, 0, none⟩ = some (.int .i64 2) ∧ w'.cell? ⟨B0, 1, none⟩ = some (.int .i64 x1) ∧ w'.cell? ⟨B1, 2, none⟩ = some (.string ⟨#[103, 101, 116]⟩)) W := fun W U => ⟨cell_of U.inn.tail.tail.head 0, cell_of U.inn.tail.tail.head 1, cell_of U.inn.tail.head 2⟩
  have HSS := Lib.hid hS
  have t2 := hS _ U2
  have HU2 := Lib.hid U2
  clear hS U1 U2
  go_region_held3 (fun w' => w'.cell? ⟨B0, 0, none⟩ = some (.int .i64 2) ∧ w'.cell? ⟨B0, 1, none⟩ = some (.int .i64 x1) ∧ w'.cell? ⟨B1, 2, none⟩ = some (.string ⟨#[103, 101, 116]⟩))
    (first | (with_reducible exact t2) | (with_reducible exact t4))
    (first | (go_at_call 17; refine Calls.mono (HD0.out _) ?_; rintro e w4 ⟨rfl, u4⟩; have U4 := HU2.out.under0 u4; have t4 := HSS.out _ U4; have HU4 := Lib.hid U4; clear U4))
  have U4 := HU4.out
  have e0 : w4.cell? ⟨B0, 0, none⟩ = some (.int .i64 2) := cell_of U4.inn.tail.tail.head 0
  have e2 : w4.cell? ⟨B0, 2, none⟩ = some (.int .i64 x2) := cell_of U4.inn.tail.tail.head 2
  have e3 : w4.cell? ⟨B0, 3, none⟩ = some (.int .i64 x3) := cell_of U4.inn.tail.tail.head 3
  have e4 : w4.cell? ⟨B0, 4, none⟩ = some (.int .u64 0) := cell_of U4.inn.tail.tail.head 4
  clear U4
  go_wp2_with (first | (have hU := HU5; go_at_call 17; (with_reducible refine Calls.mono (HD2.out _) ?_); rintro e w6 ⟨rfl, u6⟩; have V2 := HU5.out.under0 u6; have e02 : w6.cell? ⟨B0, 0, none⟩ = some (.int .i64 2) := cell_of V2.inn.tail.tail.head 0; have e22 : w6.cell? ⟨B0, 2, none⟩ = some (.int .i64 x2) := cell_of V2.inn.tail.tail.head 2; have e32 : w6.cell? ⟨B0, 3, none⟩ = some (.int .i64 x3) := cell_of V2.inn.tail.tail.head 3; have e42 : w6.cell? ⟨B0, 4, none⟩ = some (.int .u64 0) := cell_of V2.inn.tail.tail.head 4; have HU6 := Lib.hid V2; clear V2 hU) | (have hU := HU4; go_at_call 17; (with_reducible refine Calls.mono (HD1.out _) ?_); rintro e w5 ⟨rfl, u5⟩; have V1 := HU4.out.under0 u5; have e01 : w5.cell? ⟨B0, 0, none⟩ = some (.int .i64 2) := cell_of V1.inn.tail.tail.head 0; have e21 : w5.cell? ⟨B0, 2, none⟩ = some (.int .i64 x2) := cell_of V1.inn.tail.tail.head 2; have e31 : w5.cell? ⟨B0, 3, none⟩ = some (.int .i64 x3) := cell_of V1.inn.tail.tail.head 3; have e41 : w5.cell? ⟨B0, 4, none⟩ = some (.int .u64 0) := cell_of V1.inn.tail.tail.head 4; have HU5 := Lib.hid V1; clear V1 hU))
  go_ret2
  refine ⟨?_, HU6.out.forget (List.nil_sublist _)⟩
  refine congrArg (fun s => Ending.returned (.tuple #[.string s, .bool true])) ?_
  rw [← HS0.out, ← HS1.out, ← HS2.out]
  apply ByteArray.ext
  simp [wordsOf, join_cons, joinTail]
set_option maxRecDepth 100000 in
set_option maxHeartbeats 4000000 in
theorem law_line_3 (x1 x2 x3 : Int) (x4 : Nat) (hx : EntS.Ok ⟨3, x1, x2, x3, x4⟩) (w : World) :
    Calls Tryd.prog 9 #[.agg (entCells ⟨3, x1, x2, x3, x4⟩)] w fun e w' => e = .returned (lawV ⟨3, x1, x2, x3, x4⟩) ∧ Upd [] [] w w' := by
  obtain ⟨hx0, hx1, hx2, hx3, hx4⟩ := hx
  simp only at hx0 hx1 hx2 hx3 hx4
  have hform : formOf 3 = some ⟨[115, 101, 116], 3, false⟩ := rfl
  have hlo : lineOf ⟨3, x1, x2, x3, x4⟩ = if fitsS ⟨3, x1, x2, x3, x4⟩ ⟨[115, 101, 116], 3, false⟩ then some (Lib.join (wordsOf ⟨3, x1, x2, x3, x4⟩ ⟨[115, 101, 116], 3, false⟩) [32]) else none := rfl
  by_cases hx4 : x4 = 0
  rotate_left
  · have HL : Hid (lineOf (⟨3, x1, x2, x3, x4⟩ : EntS) = none) := Lib.hid (by rw [hlo, if_neg (by simp [fitsS, hx4])])
    rw [lawV_none HL.out]
    have hz2 : ¬ ((x4 : Int) = 0) := by omega
    clear hlo hform
    simp only [entCells]
    go_enter Tryd.func9, Tryd.ntmps9
    go_wp2
    go_ret2
    exact ⟨rfl, (((Upd.refl (In.nil w)).skip' _).skip' _).skip' _⟩
  subst hx4
  have HL : Hid (lineOf (⟨3, x1, x2, x3, 0⟩ : EntS) = some (Lib.join (wordsOf (⟨3, x1, x2, x3, 0⟩ : EntS) ⟨[115, 101, 116], 3, false⟩) [32])) := Lib.hid (by rw [hlo, if_pos (by simp [fitsS])])
  rw [lawV_some HL.out]
  clear hlo hform
  simp only [entCells]
  have hl0 := itoa_size x1 hx1
  have HD0 := Lib.hid (fun W => law_digits x1 hx1 W)
  obtain ⟨s0, hs0⟩ : ∃ s : ByteArray, (⟨(itoa x1).toArray⟩ : ByteArray) = s := ⟨_, rfl⟩
  have hz0 : s0.size ≤ 21 := by rw [← hs0]; exact hl0
  have hzi0 : (s0.size : Int) ≤ 21 := by omega
  rw [hs0] at HD0
  have HS0 := Lib.hid hs0
  clear hs0 hl0
  have hl1 := itoa_size x2 hx2
  have HD1 := Lib.hid (fun W => law_digits x2 hx2 W)
  obtain ⟨s1, hs1⟩ : ∃ s : ByteArray, (⟨(itoa x2).toArray⟩ : ByteArray) = s := ⟨_, rfl⟩
  have hz1 : s1.size ≤ 21 := by rw [← hs1]; exact hl1
  have hzi1 : (s1.size : Int) ≤ 21 := by omega
  rw [hs1] at HD1
  have HS1 := Lib.hid hs1
  clear hs1 hl1
  have hl2 := itoa_size x3 hx3
  have HD2 := Lib.hid (fun W => law_digits x3 hx3 W)
  obtain ⟨s2, hs2⟩ : ∃ s : ByteArray, (⟨(itoa x3).toArray⟩ : ByteArray) = s := ⟨_, rfl⟩
  have hz2 : s2.size ≤ 21 := by rw [← hs2]; exact hl2
  have hzi2 : (s2.size : Int) ≤ 21 := by omega
  rw [hs2] at HD2
  have HS2 := Lib.hid hs2
  clear hs2 hl2
  have hw1 : ¬ (4 + s0.size > 9223372036854775807) := by omega
  have hw2 : ¬ (9223372036854775807 < 4 + s0.size) := by omega
  have hw3 : ¬ (((⟨#[115, 101, 116]⟩ : ByteArray) ++ (⟨#[32]⟩ : ByteArray)).size + s0.size > 9223372036854775807) := by (simp only [ByteArray.size_append, ByteArray.size_mk']; simp; omega)
  have U1 := (((Upd.refl (In.nil w)).alloc' (.cells #[.int .i64 3, .int .i64 x1, .int .i64 x2, .int .i64 x3, .int .u64 0] 24 (0, 0))).alloc' (.cells #[.string ⟨#[]⟩, .string ⟨#[109, 97, 107, 101]⟩, .string ⟨#[103, 101, 116]⟩, .string ⟨#[115, 101, 116]⟩, .string ⟨#[114, 101, 97, 100]⟩, .string ⟨#[119, 114, 105, 116, 101]⟩, .string ⟨#[99, 108, 101, 97, 114]⟩, .string ⟨#[99, 111, 112, 121]⟩, .string ⟨#[115, 97, 109, 101]⟩, .string ⟨#[110, 105, 108]⟩, .string ⟨#[115, 104, 97, 112, 101]⟩, .string ⟨#[105, 100, 108, 101]⟩, .string ⟨#[102, 111, 114, 99, 101]⟩] 9 (0, 0))).alloc' (.cells #[.int .i64 0, .int .i64 3, .int .i64 3, .int .i64 3, .int .i64 2, .int .i64 2, .int .i64 1, .int .i64 2, .int .i64 2, .int .i64 1, .int .i64 1, .int .i64 2, .int .i64 1] 3 (0, 0))
  simp only [World.size_alloc] at U1
  go_enter Tryd.func9, Tryd.ntmps9
  go_wp2
  generalize (((w.alloc (.cells #[.int .i64 3, .int .i64 x1, .int .i64 x2, .int .i64 x3, .int .u64 0] 24 (0, 0))).alloc (.cells #[.string ⟨#[]⟩, .string ⟨#[109, 97, 107, 101]⟩, .string ⟨#[103, 101, 116]⟩, .string ⟨#[115, 101, 116]⟩, .string ⟨#[114, 101, 97, 100]⟩, .string ⟨#[119, 114, 105, 116, 101]⟩, .string ⟨#[99, 108, 101, 97, 114]⟩, .string ⟨#[99, 111, 112, 121]⟩, .string ⟨#[115, 97, 109, 101]⟩, .string ⟨#[110, 105, 108]⟩, .string ⟨#[115, 104, 97, 112, 101]⟩, .string ⟨#[105, 100, 108, 101]⟩, .string ⟨#[102, 111, 114, 99, 101]⟩] 9 (0, 0))).alloc (.cells #[.int .i64 0, .int .i64 3, .int .i64 3, .int .i64 3, .int .i64 2, .int .i64 2, .int .i64 1, .int .i64 2, .int .i64 2, .int .i64 1, .int .i64 1, .int .i64 2, .int .i64 1] 3 (0, 0))) = W3 at *
  obtain ⟨B0, hB0⟩ : ∃ b, b = w.heap.size := ⟨_, rfl⟩
  obtain ⟨B1, hB1⟩ : ∃ b, b = w.heap.size + 1 := ⟨_, rfl⟩
  obtain ⟨B2, hB2⟩ : ∃ b, b = w.heap.size + 1 + 1 := ⟨_, rfl⟩
  rw [← hB2, ← hB1] at U1 ⊢
  simp only [← hB0] at U1 ⊢
  clear hB2 hB1 hB0
  have U2 := U1.drew'
  have hS : ∀ W, Upd [] [(B2, (.cells #[.int .i64 0, .int .i64 3, .int .i64 3, .int .i64 3, .int .i64 2, .int .i64 2, .int .i64 1, .int .i64 2, .int .i64 2, .int .i64 1, .int .i64 1, .int .i64 2, .int .i64 1] 3 (0, 0))), (B1, (.cells #[.string ⟨#[]⟩, .string ⟨#[109, 97, 107, 101]⟩, .string ⟨#[103, 101, 116]⟩, .string ⟨#[115, 101, 116]⟩, .string ⟨#[114, 101, 97, 100]⟩, .string ⟨#[119, 114, 105, 116, 101]⟩, .string ⟨#[99, 108, 101, 97, 114]⟩, .string ⟨#[99, 111, 112, 121]⟩, .string ⟨#[115, 97, 109, 101]⟩, .string ⟨#[110, 105, 108]⟩, .string ⟨#[115, 104, 97, 112, 101]⟩, .string ⟨#[105, 100, 108, 101]⟩, .string ⟨#[102, 111, 114, 99, 101]⟩] 9 (0, 0))), (B0, (.cells #[.int .i64 3, .int .i64 x1, .int .i64 x2, .int .i64 x3, .int .u64 0] 24 (0, 0)))] w W → (fun w' => w'.cell? ⟨B0, 0, none⟩ = some (.int .i64 3) ∧ w'.cell? ⟨B0, 1, none⟩ = some (.int .i64 x1) ∧ w'.cell? ⟨B1, 3, none⟩ = some (.string ⟨#[115, 101, 116]⟩)) W := fun W U => ⟨cell_of U.inn.tail.tail.head 0, cell_of U.inn.tail.tail.head 1, cell_of U.inn.tail.head 3⟩
  have HSS := Lib.hid hS
  have t2 := hS _ U2
  have HU2 := Lib.hid U2
  clear hS U1 U2
  go_region_held3 (fun w' => w'.cell? ⟨B0, 0, none⟩ = some (.int .i64 3) ∧ w'.cell? ⟨B0, 1, none⟩ = some (.int .i64 x1) ∧ w'.cell? ⟨B1, 3, none⟩ = some (.string ⟨#[115, 101, 116]⟩))
    (first | (with_reducible exact t2) | (with_reducible exact t4))
    (first | (go_at_call 17; refine Calls.mono (HD0.out _) ?_; rintro e w4 ⟨rfl, u4⟩; have U4 := HU2.out.under0 u4; have t4 := HSS.out _ U4; have HU4 := Lib.hid U4; clear U4))
  have U4 := HU4.out
  have e0 : w4.cell? ⟨B0, 0, none⟩ = some (.int .i64 3) := cell_of U4.inn.tail.tail.head 0
  have e2 : w4.cell? ⟨B0, 2, none⟩ = some (.int .i64 x2) := cell_of U4.inn.tail.tail.head 2
  have e3 : w4.cell? ⟨B0, 3, none⟩ = some (.int .i64 x3) := cell_of U4.inn.tail.tail.head 3
  have e4 : w4.cell? ⟨B0, 4, none⟩ = some (.int .u64 0) := cell_of U4.inn.tail.tail.head 4
  clear U4
  go_wp2_with (first | (have hU := HU5; go_at_call 17; (with_reducible refine Calls.mono (HD2.out _) ?_); rintro e w6 ⟨rfl, u6⟩; have V2 := HU5.out.under0 u6; have e02 : w6.cell? ⟨B0, 0, none⟩ = some (.int .i64 3) := cell_of V2.inn.tail.tail.head 0; have e22 : w6.cell? ⟨B0, 2, none⟩ = some (.int .i64 x2) := cell_of V2.inn.tail.tail.head 2; have e32 : w6.cell? ⟨B0, 3, none⟩ = some (.int .i64 x3) := cell_of V2.inn.tail.tail.head 3; have e42 : w6.cell? ⟨B0, 4, none⟩ = some (.int .u64 0) := cell_of V2.inn.tail.tail.head 4; have HU6 := Lib.hid V2; clear V2 hU) | (have hU := HU4; go_at_call 17; (with_reducible refine Calls.mono (HD1.out _) ?_); rintro e w5 ⟨rfl, u5⟩; have V1 := HU4.out.under0 u5; have e01 : w5.cell? ⟨B0, 0, none⟩ = some (.int .i64 3) := cell_of V1.inn.tail.tail.head 0; have e21 : w5.cell? ⟨B0, 2, none⟩ = some (.int .i64 x2) := cell_of V1.inn.tail.tail.head 2; have e31 : w5.cell? ⟨B0, 3, none⟩ = some (.int .i64 x3) := cell_of V1.inn.tail.tail.head 3; have e41 : w5.cell? ⟨B0, 4, none⟩ = some (.int .u64 0) := cell_of V1.inn.tail.tail.head 4; have HU5 := Lib.hid V1; clear V1 hU))
  go_ret2
  refine ⟨?_, HU6.out.forget (List.nil_sublist _)⟩
  refine congrArg (fun s => Ending.returned (.tuple #[.string s, .bool true])) ?_
  rw [← HS0.out, ← HS1.out, ← HS2.out]
  apply ByteArray.ext
  simp [wordsOf, join_cons, joinTail]
set_option maxRecDepth 100000 in
set_option maxHeartbeats 4000000 in
theorem law_line_4 (x1 x2 x3 : Int) (x4 : Nat) (hx : EntS.Ok ⟨4, x1, x2, x3, x4⟩) (w : World) :
    Calls Tryd.prog 9 #[.agg (entCells ⟨4, x1, x2, x3, x4⟩)] w fun e w' => e = .returned (lawV ⟨4, x1, x2, x3, x4⟩) ∧ Upd [] [] w w' := by
  obtain ⟨hx0, hx1, hx2, hx3, hx4⟩ := hx
  simp only at hx0 hx1 hx2 hx3 hx4
  have hform : formOf 4 = some ⟨[114, 101, 97, 100], 2, false⟩ := rfl
  have hlo : lineOf ⟨4, x1, x2, x3, x4⟩ = if fitsS ⟨4, x1, x2, x3, x4⟩ ⟨[114, 101, 97, 100], 2, false⟩ then some (Lib.join (wordsOf ⟨4, x1, x2, x3, x4⟩ ⟨[114, 101, 97, 100], 2, false⟩) [32]) else none := rfl
  by_cases hx3 : x3 = 0
  rotate_left
  · have HL : Hid (lineOf (⟨4, x1, x2, x3, x4⟩ : EntS) = none) := Lib.hid (by rw [hlo, if_neg (by simp [fitsS, hx3])])
    rw [lawV_none HL.out]
    have hz2 : ¬ ((x3 : Int) = 0) := by omega
    clear hlo hform
    simp only [entCells]
    go_enter Tryd.func9, Tryd.ntmps9
    go_wp2
    go_ret2
    exact ⟨rfl, (((Upd.refl (In.nil w)).skip' _).skip' _).skip' _⟩
  subst hx3
  by_cases hx4 : x4 = 0
  rotate_left
  · have HL : Hid (lineOf (⟨4, x1, x2, 0, x4⟩ : EntS) = none) := Lib.hid (by rw [hlo, if_neg (by simp [fitsS, hx4])])
    rw [lawV_none HL.out]
    have hz2 : ¬ ((x4 : Int) = 0) := by omega
    clear hlo hform
    simp only [entCells]
    go_enter Tryd.func9, Tryd.ntmps9
    go_wp2
    go_ret2
    exact ⟨rfl, (((Upd.refl (In.nil w)).skip' _).skip' _).skip' _⟩
  subst hx4
  have HL : Hid (lineOf (⟨4, x1, x2, 0, 0⟩ : EntS) = some (Lib.join (wordsOf (⟨4, x1, x2, 0, 0⟩ : EntS) ⟨[114, 101, 97, 100], 2, false⟩) [32])) := Lib.hid (by rw [hlo, if_pos (by simp [fitsS])])
  rw [lawV_some HL.out]
  clear hlo hform
  simp only [entCells]
  have hl0 := itoa_size x1 hx1
  have HD0 := Lib.hid (fun W => law_digits x1 hx1 W)
  obtain ⟨s0, hs0⟩ : ∃ s : ByteArray, (⟨(itoa x1).toArray⟩ : ByteArray) = s := ⟨_, rfl⟩
  have hz0 : s0.size ≤ 21 := by rw [← hs0]; exact hl0
  have hzi0 : (s0.size : Int) ≤ 21 := by omega
  rw [hs0] at HD0
  have HS0 := Lib.hid hs0
  clear hs0 hl0
  have hl1 := itoa_size x2 hx2
  have HD1 := Lib.hid (fun W => law_digits x2 hx2 W)
  obtain ⟨s1, hs1⟩ : ∃ s : ByteArray, (⟨(itoa x2).toArray⟩ : ByteArray) = s := ⟨_, rfl⟩
  have hz1 : s1.size ≤ 21 := by rw [← hs1]; exact hl1
  have hzi1 : (s1.size : Int) ≤ 21 := by omega
  rw [hs1] at HD1
  have HS1 := Lib.hid hs1
  clear hs1 hl1
  have hw1 : ¬ (5 + s0.size > 9223372036854775807) := by omega
  have hw2 : ¬ (9223372036854775807 < 5 + s0.size) := by omega
  have hw3 : ¬ (((⟨#[114, 101, 97, 100]⟩ : ByteArray) ++ (⟨#[32]⟩ : ByteArray)).size + s0.size > 9223372036854775807) := by (simp only [ByteArray.size_append, ByteArray.size_mk']; simp; omega)
  have U1 := (((Upd.refl (In.nil w)).alloc' (.cells #[.int .i64 4, .int .i64 x1, .int .i64 x2, .int .i64 0, .int .u64 0] 24 (0, 0))).alloc' (.cells #[.string ⟨#[]⟩, .string ⟨#[109, 97, 107, 101]⟩, .string ⟨#[103, 101, 116]⟩, .string ⟨#[115, 101, 116]⟩, .string ⟨#[114, 101, 97, 100]⟩, .string ⟨#[119, 114, 105, 116, 101]⟩, .string ⟨#[99, 108, 101, 97, 114]⟩, .string ⟨#[99, 111, 112, 121]⟩, .string ⟨#[115, 97, 109, 101]⟩, .string ⟨#[110, 105, 108]⟩, .string ⟨#[115, 104, 97, 112, 101]⟩, .string ⟨#[105, 100, 108, 101]⟩, .string ⟨#[102, 111, 114, 99, 101]⟩] 9 (0, 0))).alloc' (.cells #[.int .i64 0, .int .i64 3, .int .i64 3, .int .i64 3, .int .i64 2, .int .i64 2, .int .i64 1, .int .i64 2, .int .i64 2, .int .i64 1, .int .i64 1, .int .i64 2, .int .i64 1] 3 (0, 0))
  simp only [World.size_alloc] at U1
  go_enter Tryd.func9, Tryd.ntmps9
  go_wp2
  generalize (((w.alloc (.cells #[.int .i64 4, .int .i64 x1, .int .i64 x2, .int .i64 0, .int .u64 0] 24 (0, 0))).alloc (.cells #[.string ⟨#[]⟩, .string ⟨#[109, 97, 107, 101]⟩, .string ⟨#[103, 101, 116]⟩, .string ⟨#[115, 101, 116]⟩, .string ⟨#[114, 101, 97, 100]⟩, .string ⟨#[119, 114, 105, 116, 101]⟩, .string ⟨#[99, 108, 101, 97, 114]⟩, .string ⟨#[99, 111, 112, 121]⟩, .string ⟨#[115, 97, 109, 101]⟩, .string ⟨#[110, 105, 108]⟩, .string ⟨#[115, 104, 97, 112, 101]⟩, .string ⟨#[105, 100, 108, 101]⟩, .string ⟨#[102, 111, 114, 99, 101]⟩] 9 (0, 0))).alloc (.cells #[.int .i64 0, .int .i64 3, .int .i64 3, .int .i64 3, .int .i64 2, .int .i64 2, .int .i64 1, .int .i64 2, .int .i64 2, .int .i64 1, .int .i64 1, .int .i64 2, .int .i64 1] 3 (0, 0))) = W3 at *
  obtain ⟨B0, hB0⟩ : ∃ b, b = w.heap.size := ⟨_, rfl⟩
  obtain ⟨B1, hB1⟩ : ∃ b, b = w.heap.size + 1 := ⟨_, rfl⟩
  obtain ⟨B2, hB2⟩ : ∃ b, b = w.heap.size + 1 + 1 := ⟨_, rfl⟩
  rw [← hB2, ← hB1] at U1 ⊢
  simp only [← hB0] at U1 ⊢
  clear hB2 hB1 hB0
  have U2 := U1.drew'
  have hS : ∀ W, Upd [] [(B2, (.cells #[.int .i64 0, .int .i64 3, .int .i64 3, .int .i64 3, .int .i64 2, .int .i64 2, .int .i64 1, .int .i64 2, .int .i64 2, .int .i64 1, .int .i64 1, .int .i64 2, .int .i64 1] 3 (0, 0))), (B1, (.cells #[.string ⟨#[]⟩, .string ⟨#[109, 97, 107, 101]⟩, .string ⟨#[103, 101, 116]⟩, .string ⟨#[115, 101, 116]⟩, .string ⟨#[114, 101, 97, 100]⟩, .string ⟨#[119, 114, 105, 116, 101]⟩, .string ⟨#[99, 108, 101, 97, 114]⟩, .string ⟨#[99, 111, 112, 121]⟩, .string ⟨#[115, 97, 109, 101]⟩, .string ⟨#[110, 105, 108]⟩, .string ⟨#[115, 104, 97, 112, 101]⟩, .string ⟨#[105, 100, 108, 101]⟩, .string ⟨#[102, 111, 114, 99, 101]⟩] 9 (0, 0))), (B0, (.cells #[.int .i64 4, .int .i64 x1, .int .i64 x2, .int .i64 0, .int .u64 0] 24 (0, 0)))] w W → (fun w' => w'.cell? ⟨B0, 0, none⟩ = some (.int .i64 4) ∧ w'.cell? ⟨B0, 1, none⟩ = some (.int .i64 x1) ∧ w'.cell? ⟨B1, 4, none⟩ = some (.string ⟨#[114, 101, 97, 100]⟩)) W := fun W U => ⟨cell_of U.inn.tail.tail.head 0, cell_of U.inn.tail.tail.head 1, cell_of U.inn.tail.head 4⟩
  have HSS := Lib.hid hS
  have t2 := hS _ U2
  have HU2 := Lib.hid U2
  clear hS U1 U2
  go_region_held3 (fun w' => w'.cell? ⟨B0, 0, none⟩ = some (.int .i64 4) ∧ w'.cell? ⟨B0, 1, none⟩ = some (.int .i64 x1) ∧ w'.cell? ⟨B1, 4, none⟩ = some (.string ⟨#[114, 101, 97, 100]⟩))
    (first | (with_reducible exact t2) | (with_reducible exact t4))
    (first | (go_at_call 17; refine Calls.mono (HD0.out _) ?_; rintro e w4 ⟨rfl, u4⟩; have U4 := HU2.out.under0 u4; have t4 := HSS.out _ U4; have HU4 := Lib.hid U4; clear U4))
  have U4 := HU4.out
  have e0 : w4.cell? ⟨B0, 0, none⟩ = some (.int .i64 4) := cell_of U4.inn.tail.tail.head 0
  have e2 : w4.cell? ⟨B0, 2, none⟩ = some (.int .i64 x2) := cell_of U4.inn.tail.tail.head 2
  have e3 : w4.cell? ⟨B0, 3, none⟩ = some (.int .i64 0) := cell_of U4.inn.tail.tail.head 3
  have e4 : w4.cell? ⟨B0, 4, none⟩ = some (.int .u64 0) := cell_of U4.inn.tail.tail.head 4
  clear U4
  go_wp2_with (first | (have hU := HU4; go_at_call 17; (with_reducible refine Calls.mono (HD1.out _) ?_); rintro e w5 ⟨rfl, u5⟩; have V1 := HU4.out.under0 u5; have e01 : w5.cell? ⟨B0, 0, none⟩ = some (.int .i64 4) := cell_of V1.inn.tail.tail.head 0; have e21 : w5.cell? ⟨B0, 2, none⟩ = some (.int .i64 x2) := cell_of V1.inn.tail.tail.head 2; have e31 : w5.cell? ⟨B0, 3, none⟩ = some (.int .i64 0) := cell_of V1.inn.tail.tail.head 3; have e41 : w5.cell? ⟨B0, 4, none⟩ = some (.int .u64 0) := cell_of V1.inn.tail.tail.head 4; have HU5 := Lib.hid V1; clear V1 hU))
  go_ret2
  refine ⟨?_, HU5.out.forget (List.nil_sublist _)⟩
  refine congrArg (fun s => Ending.returned (.tuple #[.string s, .bool true])) ?_
  rw [← HS0.out, ← HS1.out]
  apply ByteArray.ext
  simp [wordsOf, join_cons, joinTail]
set_option maxRecDepth 100000 in
set_option maxHeartbeats 4000000 in
theorem law_line_5 (x1 x2 x3 : Int) (x4 : Nat) (hx : EntS.Ok ⟨5, x1, x2, x3, x4⟩) (w : World) :
    Calls Tryd.prog 9 #[.agg (entCells ⟨5, x1, x2, x3, x4⟩)] w fun e w' => e = .returned (lawV ⟨5, x1, x2, x3, x4⟩) ∧ Upd [] [] w w' := by
  obtain ⟨hx0, hx1, hx2, hx3, hx4⟩ := hx
  simp only at hx0 hx1 hx2 hx3 hx4
  have hform : formOf 5 = some ⟨[119, 114, 105, 116, 101], 2, true⟩ := rfl
  have hlo : lineOf ⟨5, x1, x2, x3, x4⟩ = if fitsS ⟨5, x1, x2, x3, x4⟩ ⟨[119, 114, 105, 116, 101], 2, true⟩ then some (Lib.join (wordsOf ⟨5, x1, x2, x3, x4⟩ ⟨[119, 114, 105, 116, 101], 2, true⟩) [32]) else none := rfl
  by_cases hx3 : x3 = 0
  rotate_left
  · have HL : Hid (lineOf (⟨5, x1, x2, x3, x4⟩ : EntS) = none) := Lib.hid (by rw [hlo, if_neg (by simp [fitsS, hx3])])
    rw [lawV_none HL.out]
    have hz2 : ¬ ((x3 : Int) = 0) := by omega
    clear hlo hform
    simp only [entCells]
    go_enter Tryd.func9, Tryd.ntmps9
    go_wp2
    go_ret2
    exact ⟨rfl, (((Upd.refl (In.nil w)).skip' _).skip' _).skip' _⟩
  subst hx3
  have HL : Hid (lineOf (⟨5, x1, x2, 0, x4⟩ : EntS) = some (Lib.join (wordsOf (⟨5, x1, x2, 0, x4⟩ : EntS) ⟨[119, 114, 105, 116, 101], 2, true⟩) [32])) := Lib.hid (by rw [hlo, if_pos (by simp [fitsS])])
  rw [lawV_some HL.out]
  clear hlo hform
  simp only [entCells]
  have hl0 := itoa_size x1 hx1
  have HD0 := Lib.hid (fun W => law_digits x1 hx1 W)
  obtain ⟨s0, hs0⟩ : ∃ s : ByteArray, (⟨(itoa x1).toArray⟩ : ByteArray) = s := ⟨_, rfl⟩
  have hz0 : s0.size ≤ 21 := by rw [← hs0]; exact hl0
  have hzi0 : (s0.size : Int) ≤ 21 := by omega
  rw [hs0] at HD0
  have HS0 := Lib.hid hs0
  clear hs0 hl0
  have hl1 := itoa_size x2 hx2
  have HD1 := Lib.hid (fun W => law_digits x2 hx2 W)
  obtain ⟨s1, hs1⟩ : ∃ s : ByteArray, (⟨(itoa x2).toArray⟩ : ByteArray) = s := ⟨_, rfl⟩
  have hz1 : s1.size ≤ 21 := by rw [← hs1]; exact hl1
  have hzi1 : (s1.size : Int) ≤ 21 := by omega
  rw [hs1] at HD1
  have HS1 := Lib.hid hs1
  clear hs1 hl1
  have hlv : (decDigits x4).length ≤ 20 := by rw [decDigits_length]; exact nDigits_le20 x4 hx4
  have HDv := Lib.hid (fun W => law_plain x4 hx4 W)
  obtain ⟨sv, hsv⟩ : ∃ s : ByteArray, (⟨(decDigits x4).toArray⟩ : ByteArray) = s := ⟨_, rfl⟩
  have hzv : sv.size ≤ 21 := by rw [← hsv]; show (decDigits x4).length ≤ 21; omega
  have hziv : (sv.size : Int) ≤ 21 := by omega
  rw [hsv] at HDv
  have HSv := Lib.hid hsv
  clear hsv hlv
  have hw1 : ¬ (6 + s0.size > 9223372036854775807) := by omega
  have hw2 : ¬ (9223372036854775807 < 6 + s0.size) := by omega
  have hw3 : ¬ (((⟨#[119, 114, 105, 116, 101]⟩ : ByteArray) ++ (⟨#[32]⟩ : ByteArray)).size + s0.size > 9223372036854775807) := by (simp only [ByteArray.size_append, ByteArray.size_mk']; simp; omega)
  have U1 := (((Upd.refl (In.nil w)).alloc' (.cells #[.int .i64 5, .int .i64 x1, .int .i64 x2, .int .i64 0, .int .u64 (x4 : Int)] 24 (0, 0))).alloc' (.cells #[.string ⟨#[]⟩, .string ⟨#[109, 97, 107, 101]⟩, .string ⟨#[103, 101, 116]⟩, .string ⟨#[115, 101, 116]⟩, .string ⟨#[114, 101, 97, 100]⟩, .string ⟨#[119, 114, 105, 116, 101]⟩, .string ⟨#[99, 108, 101, 97, 114]⟩, .string ⟨#[99, 111, 112, 121]⟩, .string ⟨#[115, 97, 109, 101]⟩, .string ⟨#[110, 105, 108]⟩, .string ⟨#[115, 104, 97, 112, 101]⟩, .string ⟨#[105, 100, 108, 101]⟩, .string ⟨#[102, 111, 114, 99, 101]⟩] 9 (0, 0))).alloc' (.cells #[.int .i64 0, .int .i64 3, .int .i64 3, .int .i64 3, .int .i64 2, .int .i64 2, .int .i64 1, .int .i64 2, .int .i64 2, .int .i64 1, .int .i64 1, .int .i64 2, .int .i64 1] 3 (0, 0))
  simp only [World.size_alloc] at U1
  go_enter Tryd.func9, Tryd.ntmps9
  go_wp2
  generalize (((w.alloc (.cells #[.int .i64 5, .int .i64 x1, .int .i64 x2, .int .i64 0, .int .u64 (x4 : Int)] 24 (0, 0))).alloc (.cells #[.string ⟨#[]⟩, .string ⟨#[109, 97, 107, 101]⟩, .string ⟨#[103, 101, 116]⟩, .string ⟨#[115, 101, 116]⟩, .string ⟨#[114, 101, 97, 100]⟩, .string ⟨#[119, 114, 105, 116, 101]⟩, .string ⟨#[99, 108, 101, 97, 114]⟩, .string ⟨#[99, 111, 112, 121]⟩, .string ⟨#[115, 97, 109, 101]⟩, .string ⟨#[110, 105, 108]⟩, .string ⟨#[115, 104, 97, 112, 101]⟩, .string ⟨#[105, 100, 108, 101]⟩, .string ⟨#[102, 111, 114, 99, 101]⟩] 9 (0, 0))).alloc (.cells #[.int .i64 0, .int .i64 3, .int .i64 3, .int .i64 3, .int .i64 2, .int .i64 2, .int .i64 1, .int .i64 2, .int .i64 2, .int .i64 1, .int .i64 1, .int .i64 2, .int .i64 1] 3 (0, 0))) = W3 at *
  obtain ⟨B0, hB0⟩ : ∃ b, b = w.heap.size := ⟨_, rfl⟩
  obtain ⟨B1, hB1⟩ : ∃ b, b = w.heap.size + 1 := ⟨_, rfl⟩
  obtain ⟨B2, hB2⟩ : ∃ b, b = w.heap.size + 1 + 1 := ⟨_, rfl⟩
  rw [← hB2, ← hB1] at U1 ⊢
  simp only [← hB0] at U1 ⊢
  clear hB2 hB1 hB0
  have U2 := U1.drew'
  have hS : ∀ W, Upd [] [(B2, (.cells #[.int .i64 0, .int .i64 3, .int .i64 3, .int .i64 3, .int .i64 2, .int .i64 2, .int .i64 1, .int .i64 2, .int .i64 2, .int .i64 1, .int .i64 1, .int .i64 2, .int .i64 1] 3 (0, 0))), (B1, (.cells #[.string ⟨#[]⟩, .string ⟨#[109, 97, 107, 101]⟩, .string ⟨#[103, 101, 116]⟩, .string ⟨#[115, 101, 116]⟩, .string ⟨#[114, 101, 97, 100]⟩, .string ⟨#[119, 114, 105, 116, 101]⟩, .string ⟨#[99, 108, 101, 97, 114]⟩, .string ⟨#[99, 111, 112, 121]⟩, .string ⟨#[115, 97, 109, 101]⟩, .string ⟨#[110, 105, 108]⟩, .string ⟨#[115, 104, 97, 112, 101]⟩, .string ⟨#[105, 100, 108, 101]⟩, .string ⟨#[102, 111, 114, 99, 101]⟩] 9 (0, 0))), (B0, (.cells #[.int .i64 5, .int .i64 x1, .int .i64 x2, .int .i64 0, .int .u64 (x4 : Int)] 24 (0, 0)))] w W → (fun w' => w'.cell? ⟨B0, 0, none⟩ = some (.int .i64 5) ∧ w'.cell? ⟨B0, 1, none⟩ = some (.int .i64 x1) ∧ w'.cell? ⟨B1, 5, none⟩ = some (.string ⟨#[119, 114, 105, 116, 101]⟩)) W := fun W U => ⟨cell_of U.inn.tail.tail.head 0, cell_of U.inn.tail.tail.head 1, cell_of U.inn.tail.head 5⟩
  have HSS := Lib.hid hS
  have t2 := hS _ U2
  have HU2 := Lib.hid U2
  clear hS U1 U2
  go_region_held3 (fun w' => w'.cell? ⟨B0, 0, none⟩ = some (.int .i64 5) ∧ w'.cell? ⟨B0, 1, none⟩ = some (.int .i64 x1) ∧ w'.cell? ⟨B1, 5, none⟩ = some (.string ⟨#[119, 114, 105, 116, 101]⟩))
    (first | (with_reducible exact t2) | (with_reducible exact t4))
    (first | (go_at_call 17; refine Calls.mono (HD0.out _) ?_; rintro e w4 ⟨rfl, u4⟩; have U4 := HU2.out.under0 u4; have t4 := HSS.out _ U4; have HU4 := Lib.hid U4; clear U4))
  have U4 := HU4.out
  have e0 : w4.cell? ⟨B0, 0, none⟩ = some (.int .i64 5) := cell_of U4.inn.tail.tail.head 0
  have e2 : w4.cell? ⟨B0, 2, none⟩ = some (.int .i64 x2) := cell_of U4.inn.tail.tail.head 2
  have e3 : w4.cell? ⟨B0, 3, none⟩ = some (.int .i64 0) := cell_of U4.inn.tail.tail.head 3
  have e4 : w4.cell? ⟨B0, 4, none⟩ = some (.int .u64 (x4 : Int)) := cell_of U4.inn.tail.tail.head 4
  clear U4
  go_wp2_with (first | (go_at_call 18; refine Calls.mono (HDv.out _) ?_; rintro e w9 ⟨rfl, u9⟩; have V9 := HU5.out.under0 u9; have e09 : w9.cell? ⟨B0, 0, none⟩ = some (.int .i64 5) := cell_of V9.inn.tail.tail.head 0; have HU9 := Lib.hid V9; clear V9) | (have hU := HU4; go_at_call 17; (with_reducible refine Calls.mono (HD1.out _) ?_); rintro e w5 ⟨rfl, u5⟩; have V1 := HU4.out.under0 u5; have e01 : w5.cell? ⟨B0, 0, none⟩ = some (.int .i64 5) := cell_of V1.inn.tail.tail.head 0; have e21 : w5.cell? ⟨B0, 2, none⟩ = some (.int .i64 x2) := cell_of V1.inn.tail.tail.head 2; have e31 : w5.cell? ⟨B0, 3, none⟩ = some (.int .i64 0) := cell_of V1.inn.tail.tail.head 3; have e41 : w5.cell? ⟨B0, 4, none⟩ = some (.int .u64 (x4 : Int)) := cell_of V1.inn.tail.tail.head 4; have HU5 := Lib.hid V1; clear V1 hU))
  go_ret2
  refine ⟨?_, HU9.out.forget (List.nil_sublist _)⟩
  refine congrArg (fun s => Ending.returned (.tuple #[.string s, .bool true])) ?_
  rw [← HS0.out, ← HS1.out, ← HSv.out]
  apply ByteArray.ext
  simp [wordsOf, join_cons, joinTail]
set_option maxRecDepth 100000 in
set_option maxHeartbeats 4000000 in
theorem law_line_6 (x1 x2 x3 : Int) (x4 : Nat) (hx : EntS.Ok ⟨6, x1, x2, x3, x4⟩) (w : World) :
    Calls Tryd.prog 9 #[.agg (entCells ⟨6, x1, x2, x3, x4⟩)] w fun e w' => e = .returned (lawV ⟨6, x1, x2, x3, x4⟩) ∧ Upd [] [] w w' := by
  obtain ⟨hx0, hx1, hx2, hx3, hx4⟩ := hx
  simp only at hx0 hx1 hx2 hx3 hx4
  have hform : formOf 6 = some ⟨[99, 108, 101, 97, 114], 1, false⟩ := rfl
  have hlo : lineOf ⟨6, x1, x2, x3, x4⟩ = if fitsS ⟨6, x1, x2, x3, x4⟩ ⟨[99, 108, 101, 97, 114], 1, false⟩ then some (Lib.join (wordsOf ⟨6, x1, x2, x3, x4⟩ ⟨[99, 108, 101, 97, 114], 1, false⟩) [32]) else none := rfl
  by_cases hx3 : x3 = 0
  rotate_left
  · have HL : Hid (lineOf (⟨6, x1, x2, x3, x4⟩ : EntS) = none) := Lib.hid (by rw [hlo, if_neg (by simp [fitsS, hx3])])
    rw [lawV_none HL.out]
    have hz2 : ¬ ((x3 : Int) = 0) := by omega
    clear hlo hform
    simp only [entCells]
    go_enter Tryd.func9, Tryd.ntmps9
    go_wp2
    go_ret2
    exact ⟨rfl, (((Upd.refl (In.nil w)).skip' _).skip' _).skip' _⟩
  subst hx3
  by_cases hx2 : x2 = 0
  rotate_left
  · have HL : Hid (lineOf (⟨6, x1, x2, 0, x4⟩ : EntS) = none) := Lib.hid (by rw [hlo, if_neg (by simp [fitsS, hx2])])
    rw [lawV_none HL.out]
    have hz2 : ¬ ((x2 : Int) = 0) := by omega
    clear hlo hform
    simp only [entCells]
    go_enter Tryd.func9, Tryd.ntmps9
    go_wp2
    go_ret2
    exact ⟨rfl, (((Upd.refl (In.nil w)).skip' _).skip' _).skip' _⟩
  subst hx2
  by_cases hx4 : x4 = 0
  rotate_left
  · have HL : Hid (lineOf (⟨6, x1, 0, 0, x4⟩ : EntS) = none) := Lib.hid (by rw [hlo, if_neg (by simp [fitsS, hx4])])
    rw [lawV_none HL.out]
    have hz2 : ¬ ((x4 : Int) = 0) := by omega
    clear hlo hform
    simp only [entCells]
    go_enter Tryd.func9, Tryd.ntmps9
    go_wp2
    go_ret2
    exact ⟨rfl, (((Upd.refl (In.nil w)).skip' _).skip' _).skip' _⟩
  subst hx4
  have HL : Hid (lineOf (⟨6, x1, 0, 0, 0⟩ : EntS) = some (Lib.join (wordsOf (⟨6, x1, 0, 0, 0⟩ : EntS) ⟨[99, 108, 101, 97, 114], 1, false⟩) [32])) := Lib.hid (by rw [hlo, if_pos (by simp [fitsS])])
  rw [lawV_some HL.out]
  clear hlo hform
  simp only [entCells]
  have hl0 := itoa_size x1 hx1
  have HD0 := Lib.hid (fun W => law_digits x1 hx1 W)
  obtain ⟨s0, hs0⟩ : ∃ s : ByteArray, (⟨(itoa x1).toArray⟩ : ByteArray) = s := ⟨_, rfl⟩
  have hz0 : s0.size ≤ 21 := by rw [← hs0]; exact hl0
  have hzi0 : (s0.size : Int) ≤ 21 := by omega
  rw [hs0] at HD0
  have HS0 := Lib.hid hs0
  clear hs0 hl0
  have hw1 : ¬ (6 + s0.size > 9223372036854775807) := by omega
  have hw2 : ¬ (9223372036854775807 < 6 + s0.size) := by omega
  have hw3 : ¬ (((⟨#[99, 108, 101, 97, 114]⟩ : ByteArray) ++ (⟨#[32]⟩ : ByteArray)).size + s0.size > 9223372036854775807) := by (simp only [ByteArray.size_append, ByteArray.size_mk']; simp; omega)
  have U1 := (((Upd.refl (In.nil w)).alloc' (.cells #[.int .i64 6, .int .i64 x1, .int .i64 0, .int .i64 0, .int .u64 0] 24 (0, 0))).alloc' (.cells #[.string ⟨#[]⟩, .string ⟨#[109, 97, 107, 101]⟩, .string ⟨#[103, 101, 116]⟩, .string ⟨#[115, 101, 116]⟩, .string ⟨#[114, 101, 97, 100]⟩, .string ⟨#[119, 114, 105, 116, 101]⟩, .string ⟨#[99, 108, 101, 97, 114]⟩, .string ⟨#[99, 111, 112, 121]⟩, .string ⟨#[115, 97, 109, 101]⟩, .string ⟨#[110, 105, 108]⟩, .string ⟨#[115, 104, 97, 112, 101]⟩, .string ⟨#[105, 100, 108, 101]⟩, .string ⟨#[102, 111, 114, 99, 101]⟩] 9 (0, 0))).alloc' (.cells #[.int .i64 0, .int .i64 3, .int .i64 3, .int .i64 3, .int .i64 2, .int .i64 2, .int .i64 1, .int .i64 2, .int .i64 2, .int .i64 1, .int .i64 1, .int .i64 2, .int .i64 1] 3 (0, 0))
  simp only [World.size_alloc] at U1
  go_enter Tryd.func9, Tryd.ntmps9
  go_wp2
  generalize (((w.alloc (.cells #[.int .i64 6, .int .i64 x1, .int .i64 0, .int .i64 0, .int .u64 0] 24 (0, 0))).alloc (.cells #[.string ⟨#[]⟩, .string ⟨#[109, 97, 107, 101]⟩, .string ⟨#[103, 101, 116]⟩, .string ⟨#[115, 101, 116]⟩, .string ⟨#[114, 101, 97, 100]⟩, .string ⟨#[119, 114, 105, 116, 101]⟩, .string ⟨#[99, 108, 101, 97, 114]⟩, .string ⟨#[99, 111, 112, 121]⟩, .string ⟨#[115, 97, 109, 101]⟩, .string ⟨#[110, 105, 108]⟩, .string ⟨#[115, 104, 97, 112, 101]⟩, .string ⟨#[105, 100, 108, 101]⟩, .string ⟨#[102, 111, 114, 99, 101]⟩] 9 (0, 0))).alloc (.cells #[.int .i64 0, .int .i64 3, .int .i64 3, .int .i64 3, .int .i64 2, .int .i64 2, .int .i64 1, .int .i64 2, .int .i64 2, .int .i64 1, .int .i64 1, .int .i64 2, .int .i64 1] 3 (0, 0))) = W3 at *
  obtain ⟨B0, hB0⟩ : ∃ b, b = w.heap.size := ⟨_, rfl⟩
  obtain ⟨B1, hB1⟩ : ∃ b, b = w.heap.size + 1 := ⟨_, rfl⟩
  obtain ⟨B2, hB2⟩ : ∃ b, b = w.heap.size + 1 + 1 := ⟨_, rfl⟩
  rw [← hB2, ← hB1] at U1 ⊢
  simp only [← hB0] at U1 ⊢
  clear hB2 hB1 hB0
  have U2 := U1.drew'
  have hS : ∀ W, Upd [] [(B2, (.cells #[.int .i64 0, .int .i64 3, .int .i64 3, .int .i64 3, .int .i64 2, .int .i64 2, .int .i64 1, .int .i64 2, .int .i64 2, .int .i64 1, .int .i64 1, .int .i64 2, .int .i64 1] 3 (0, 0))), (B1, (.cells #[.string ⟨#[]⟩, .string ⟨#[109, 97, 107, 101]⟩, .string ⟨#[103, 101, 116]⟩, .string ⟨#[115, 101, 116]⟩, .string ⟨#[114, 101, 97, 100]⟩, .string ⟨#[119, 114, 105, 116, 101]⟩, .string ⟨#[99, 108, 101, 97, 114]⟩, .string ⟨#[99, 111, 112, 121]⟩, .string ⟨#[115, 97, 109, 101]⟩, .string ⟨#[110, 105, 108]⟩, .string ⟨#[115, 104, 97, 112, 101]⟩, .string ⟨#[105, 100, 108, 101]⟩, .string ⟨#[102, 111, 114, 99, 101]⟩] 9 (0, 0))), (B0, (.cells #[.int .i64 6, .int .i64 x1, .int .i64 0, .int .i64 0, .int .u64 0] 24 (0, 0)))] w W → (fun w' => w'.cell? ⟨B0, 0, none⟩ = some (.int .i64 6) ∧ w'.cell? ⟨B0, 1, none⟩ = some (.int .i64 x1) ∧ w'.cell? ⟨B1, 6, none⟩ = some (.string ⟨#[99, 108, 101, 97, 114]⟩)) W := fun W U => ⟨cell_of U.inn.tail.tail.head 0, cell_of U.inn.tail.tail.head 1, cell_of U.inn.tail.head 6⟩
  have HSS := Lib.hid hS
  have t2 := hS _ U2
  have HU2 := Lib.hid U2
  clear hS U1 U2
  go_region_held3 (fun w' => w'.cell? ⟨B0, 0, none⟩ = some (.int .i64 6) ∧ w'.cell? ⟨B0, 1, none⟩ = some (.int .i64 x1) ∧ w'.cell? ⟨B1, 6, none⟩ = some (.string ⟨#[99, 108, 101, 97, 114]⟩))
    (first | (with_reducible exact t2) | (with_reducible exact t4))
    (first | (go_at_call 17; refine Calls.mono (HD0.out _) ?_; rintro e w4 ⟨rfl, u4⟩; have U4 := HU2.out.under0 u4; have t4 := HSS.out _ U4; have HU4 := Lib.hid U4; clear U4))
  have U4 := HU4.out
  have e0 : w4.cell? ⟨B0, 0, none⟩ = some (.int .i64 6) := cell_of U4.inn.tail.tail.head 0
  have e2 : w4.cell? ⟨B0, 2, none⟩ = some (.int .i64 0) := cell_of U4.inn.tail.tail.head 2
  have e3 : w4.cell? ⟨B0, 3, none⟩ = some (.int .i64 0) := cell_of U4.inn.tail.tail.head 3
  have e4 : w4.cell? ⟨B0, 4, none⟩ = some (.int .u64 0) := cell_of U4.inn.tail.tail.head 4
  clear U4
  go_wp2_with fail
  go_ret2
  refine ⟨?_, HU4.out.forget (List.nil_sublist _)⟩
  refine congrArg (fun s => Ending.returned (.tuple #[.string s, .bool true])) ?_
  rw [← HS0.out]
  apply ByteArray.ext
  simp [wordsOf, join_cons, joinTail]
set_option maxRecDepth 100000 in
set_option maxHeartbeats 4000000 in
theorem law_line_7 (x1 x2 x3 : Int) (x4 : Nat) (hx : EntS.Ok ⟨7, x1, x2, x3, x4⟩) (w : World) :
    Calls Tryd.prog 9 #[.agg (entCells ⟨7, x1, x2, x3, x4⟩)] w fun e w' => e = .returned (lawV ⟨7, x1, x2, x3, x4⟩) ∧ Upd [] [] w w' := by
  obtain ⟨hx0, hx1, hx2, hx3, hx4⟩ := hx
  simp only at hx0 hx1 hx2 hx3 hx4
  have hform : formOf 7 = some ⟨[99, 111, 112, 121], 2, false⟩ := rfl
  have hlo : lineOf ⟨7, x1, x2, x3, x4⟩ = if fitsS ⟨7, x1, x2, x3, x4⟩ ⟨[99, 111, 112, 121], 2, false⟩ then some (Lib.join (wordsOf ⟨7, x1, x2, x3, x4⟩ ⟨[99, 111, 112, 121], 2, false⟩) [32]) else none := rfl
  by_cases hx3 : x3 = 0
  rotate_left
  · have HL : Hid (lineOf (⟨7, x1, x2, x3, x4⟩ : EntS) = none) := Lib.hid (by rw [hlo, if_neg (by simp [fitsS, hx3])])
    rw [lawV_none HL.out]
    have hz2 : ¬ ((x3 : Int) = 0) := by omega
    clear hlo hform
    simp only [entCells]
    go_enter Tryd.func9, Tryd.ntmps9
    go_wp2
    go_ret2
    exact ⟨rfl, (((Upd.refl (In.nil w)).skip' _).skip' _).skip' _⟩
  subst hx3
  by_cases hx4 : x4 = 0
  rotate_left
  · have HL : Hid (lineOf (⟨7, x1, x2, 0, x4⟩ : EntS) = none) := Lib.hid (by rw [hlo, if_neg (by simp [fitsS, hx4])])
    rw [lawV_none HL.out]
    have hz2 : ¬ ((x4 : Int) = 0) := by omega
    clear hlo hform
    simp only [entCells]
    go_enter Tryd.func9, Tryd.ntmps9
    go_wp2
    go_ret2
    exact ⟨rfl, (((Upd.refl (In.nil w)).skip' _).skip' _).skip' _⟩
  subst hx4
  have HL : Hid (lineOf (⟨7, x1, x2, 0, 0⟩ : EntS) = some (Lib.join (wordsOf (⟨7, x1, x2, 0, 0⟩ : EntS) ⟨[99, 111, 112, 121], 2, false⟩) [32])) := Lib.hid (by rw [hlo, if_pos (by simp [fitsS])])
  rw [lawV_some HL.out]
  clear hlo hform
  simp only [entCells]
  have hl0 := itoa_size x1 hx1
  have HD0 := Lib.hid (fun W => law_digits x1 hx1 W)
  obtain ⟨s0, hs0⟩ : ∃ s : ByteArray, (⟨(itoa x1).toArray⟩ : ByteArray) = s := ⟨_, rfl⟩
  have hz0 : s0.size ≤ 21 := by rw [← hs0]; exact hl0
  have hzi0 : (s0.size : Int) ≤ 21 := by omega
  rw [hs0] at HD0
  have HS0 := Lib.hid hs0
  clear hs0 hl0
  have hl1 := itoa_size x2 hx2
  have HD1 := Lib.hid (fun W => law_digits x2 hx2 W)
  obtain ⟨s1, hs1⟩ : ∃ s : ByteArray, (⟨(itoa x2).toArray⟩ : ByteArray) = s := ⟨_, rfl⟩
  have hz1 : s1.size ≤ 21 := by rw [← hs1]; exact hl1
  have hzi1 : (s1.size : Int) ≤ 21 := by omega
  rw [hs1] at HD1
  have HS1 := Lib.hid hs1
  clear hs1 hl1
  have hw1 : ¬ (5 + s0.size > 9223372036854775807) := by omega
  have hw2 : ¬ (9223372036854775807 < 5 + s0.size) := by omega
  have hw3 : ¬ (((⟨#[99, 111, 112, 121]⟩ : ByteArray) ++ (⟨#[32]⟩ : ByteArray)).size + s0.size > 9223372036854775807) := by (simp only [ByteArray.size_append, ByteArray.size_mk']; simp; omega)
  have U1 := (((Upd.refl (In.nil w)).alloc' (.cells #[.int .i64 7, .int .i64 x1, .int .i64 x2, .int .i64 0, .int .u64 0] 24 (0, 0))).alloc' (.cells #[.string ⟨#[]⟩, .string ⟨#[109, 97, 107, 101]⟩, .string ⟨#[103, 101, 116]⟩, .string ⟨#[115, 101, 116]⟩, .string ⟨#[114, 101, 97, 100]⟩, .string ⟨#[119, 114, 105, 116, 101]⟩, .string ⟨#[99, 108, 101, 97, 114]⟩, .string ⟨#[99, 111, 112, 121]⟩, .string ⟨#[115, 97, 109, 101]⟩, .string ⟨#[110, 105, 108]⟩, .string ⟨#[115, 104, 97, 112, 101]⟩, .string ⟨#[105, 100, 108, 101]⟩, .string ⟨#[102, 111, 114, 99, 101]⟩] 9 (0, 0))).alloc' (.cells #[.int .i64 0, .int .i64 3, .int .i64 3, .int .i64 3, .int .i64 2, .int .i64 2, .int .i64 1, .int .i64 2, .int .i64 2, .int .i64 1, .int .i64 1, .int .i64 2, .int .i64 1] 3 (0, 0))
  simp only [World.size_alloc] at U1
  go_enter Tryd.func9, Tryd.ntmps9
  go_wp2
  generalize (((w.alloc (.cells #[.int .i64 7, .int .i64 x1, .int .i64 x2, .int .i64 0, .int .u64 0] 24 (0, 0))).alloc (.cells #[.string ⟨#[]⟩, .string ⟨#[109, 97, 107, 101]⟩, .string ⟨#[103, 101, 116]⟩, .string ⟨#[115, 101, 116]⟩, .string ⟨#[114, 101, 97, 100]⟩, .string ⟨#[119, 114, 105, 116, 101]⟩, .string ⟨#[99, 108, 101, 97, 114]⟩, .string ⟨#[99, 111, 112, 121]⟩, .string ⟨#[115, 97, 109, 101]⟩, .string ⟨#[110, 105, 108]⟩, .string ⟨#[115, 104, 97, 112, 101]⟩, .string ⟨#[105, 100, 108, 101]⟩, .string ⟨#[102, 111, 114, 99, 101]⟩] 9 (0, 0))).alloc (.cells #[.int .i64 0, .int .i64 3, .int .i64 3, .int .i64 3, .int .i64 2, .int .i64 2, .int .i64 1, .int .i64 2, .int .i64 2, .int .i64 1, .int .i64 1, .int .i64 2, .int .i64 1] 3 (0, 0))) = W3 at *
  obtain ⟨B0, hB0⟩ : ∃ b, b = w.heap.size := ⟨_, rfl⟩
  obtain ⟨B1, hB1⟩ : ∃ b, b = w.heap.size + 1 := ⟨_, rfl⟩
  obtain ⟨B2, hB2⟩ : ∃ b, b = w.heap.size + 1 + 1 := ⟨_, rfl⟩
  rw [← hB2, ← hB1] at U1 ⊢
  simp only [← hB0] at U1 ⊢
  clear hB2 hB1 hB0
  have U2 := U1.drew'
  have hS : ∀ W, Upd [] [(B2, (.cells #[.int .i64 0, .int .i64 3, .int .i64 3, .int .i64 3, .int .i64 2, .int .i64 2, .int .i64 1, .int .i64 2, .int .i64 2, .int .i64 1, .int .i64 1, .int .i64 2, .int .i64 1] 3 (0, 0))), (B1, (.cells #[.string ⟨#[]⟩, .string ⟨#[109, 97, 107, 101]⟩, .string ⟨#[103, 101, 116]⟩, .string ⟨#[115, 101, 116]⟩, .string ⟨#[114, 101, 97, 100]⟩, .string ⟨#[119, 114, 105, 116, 101]⟩, .string ⟨#[99, 108, 101, 97, 114]⟩, .string ⟨#[99, 111, 112, 121]⟩, .string ⟨#[115, 97, 109, 101]⟩, .string ⟨#[110, 105, 108]⟩, .string ⟨#[115, 104, 97, 112, 101]⟩, .string ⟨#[105, 100, 108, 101]⟩, .string ⟨#[102, 111, 114, 99, 101]⟩] 9 (0, 0))), (B0, (.cells #[.int .i64 7, .int .i64 x1, .int .i64 x2, .int .i64 0, .int .u64 0] 24 (0, 0)))] w W → (fun w' => w'.cell? ⟨B0, 0, none⟩ = some (.int .i64 7) ∧ w'.cell? ⟨B0, 1, none⟩ = some (.int .i64 x1) ∧ w'.cell? ⟨B1, 7, none⟩ = some (.string ⟨#[99, 111, 112, 121]⟩)) W := fun W U => ⟨cell_of U.inn.tail.tail.head 0, cell_of U.inn.tail.tail.head 1, cell_of U.inn.tail.head 7⟩
  have HSS := Lib.hid hS
  have t2 := hS _ U2
  have HU2 := Lib.hid U2
  clear hS U1 U2
  go_region_held3 (fun w' => w'.cell? ⟨B0, 0, none⟩ = some (.int .i64 7) ∧ w'.cell? ⟨B0, 1, none⟩ = some (.int .i64 x1) ∧ w'.cell? ⟨B1, 7, none⟩ = some (.string ⟨#[99, 111, 112, 121]⟩))
    (first | (with_reducible exact t2) | (with_reducible exact t4))
    (first | (go_at_call 17; refine Calls.mono (HD0.out _) ?_; rintro e w4 ⟨rfl, u4⟩; have U4 := HU2.out.under0 u4; have t4 := HSS.out _ U4; have HU4 := Lib.hid U4; clear U4))
  have U4 := HU4.out
  have e0 : w4.cell? ⟨B0, 0, none⟩ = some (.int .i64 7) := cell_of U4.inn.tail.tail.head 0
  have e2 : w4.cell? ⟨B0, 2, none⟩ = some (.int .i64 x2) := cell_of U4.inn.tail.tail.head 2
  have e3 : w4.cell? ⟨B0, 3, none⟩ = some (.int .i64 0) := cell_of U4.inn.tail.tail.head 3
  have e4 : w4.cell? ⟨B0, 4, none⟩ = some (.int .u64 0) := cell_of U4.inn.tail.tail.head 4
  clear U4
  go_wp2_with (first | (have hU := HU4; go_at_call 17; (with_reducible refine Calls.mono (HD1.out _) ?_); rintro e w5 ⟨rfl, u5⟩; have V1 := HU4.out.under0 u5; have e01 : w5.cell? ⟨B0, 0, none⟩ = some (.int .i64 7) := cell_of V1.inn.tail.tail.head 0; have e21 : w5.cell? ⟨B0, 2, none⟩ = some (.int .i64 x2) := cell_of V1.inn.tail.tail.head 2; have e31 : w5.cell? ⟨B0, 3, none⟩ = some (.int .i64 0) := cell_of V1.inn.tail.tail.head 3; have e41 : w5.cell? ⟨B0, 4, none⟩ = some (.int .u64 0) := cell_of V1.inn.tail.tail.head 4; have HU5 := Lib.hid V1; clear V1 hU))
  go_ret2
  refine ⟨?_, HU5.out.forget (List.nil_sublist _)⟩
  refine congrArg (fun s => Ending.returned (.tuple #[.string s, .bool true])) ?_
  rw [← HS0.out, ← HS1.out]
  apply ByteArray.ext
  simp [wordsOf, join_cons, joinTail]
set_option maxRecDepth 100000 in
set_option maxHeartbeats 4000000 in
theorem law_line_8 (x1 x2 x3 : Int) (x4 : Nat) (hx : EntS.Ok ⟨8, x1, x2, x3, x4⟩) (w : World) :
    Calls Tryd.prog 9 #[.agg (entCells ⟨8, x1, x2, x3, x4⟩)] w fun e w' => e = .returned (lawV ⟨8, x1, x2, x3, x4⟩) ∧ Upd [] [] w w' := by
  obtain ⟨hx0, hx1, hx2, hx3, hx4⟩ := hx
  simp only at hx0 hx1 hx2 hx3 hx4
  have hform : formOf 8 = some ⟨[115, 97, 109, 101], 2, false⟩ := rfl
  have hlo : lineOf ⟨8, x1, x2, x3, x4⟩ = if fitsS ⟨8, x1, x2, x3, x4⟩ ⟨[115, 97, 109, 101], 2, false⟩ then some (Lib.join (wordsOf ⟨8, x1, x2, x3, x4⟩ ⟨[115, 97, 109, 101], 2, false⟩) [32]) else none := rfl
  by_cases hx3 : x3 = 0
  rotate_left
  · have HL : Hid (lineOf (⟨8, x1, x2, x3, x4⟩ : EntS) = none) := Lib.hid (by rw [hlo, if_neg (by simp [fitsS, hx3])])
    rw [lawV_none HL.out]
    have hz2 : ¬ ((x3 : Int) = 0) := by omega
    clear hlo hform
    simp only [entCells]
    go_enter Tryd.func9, Tryd.ntmps9
    go_wp2
    go_ret2
    exact ⟨rfl, (((Upd.refl (In.nil w)).skip' _).skip' _).skip' _⟩
  subst hx3
  by_cases hx4 : x4 = 0
  rotate_left
  · have HL : Hid (lineOf (⟨8, x1, x2, 0, x4⟩ : EntS) = none) := Lib.hid (by rw [hlo, if_neg (by simp [fitsS, hx4])])
    rw [lawV_none HL.out]
    have hz2 : ¬ ((x4 : Int) = 0) := by omega
    clear hlo hform
    simp only [entCells]
    go_enter Tryd.func9, Tryd.ntmps9
    go_wp2
    go_ret2
    exact ⟨rfl, (((Upd.refl (In.nil w)).skip' _).skip' _).skip' _⟩
  subst hx4
  have HL : Hid (lineOf (⟨8, x1, x2, 0, 0⟩ : EntS) = some (Lib.join (wordsOf (⟨8, x1, x2, 0, 0⟩ : EntS) ⟨[115, 97, 109, 101], 2, false⟩) [32])) := Lib.hid (by rw [hlo, if_pos (by simp [fitsS])])
  rw [lawV_some HL.out]
  clear hlo hform
  simp only [entCells]
  have hl0 := itoa_size x1 hx1
  have HD0 := Lib.hid (fun W => law_digits x1 hx1 W)
  obtain ⟨s0, hs0⟩ : ∃ s : ByteArray, (⟨(itoa x1).toArray⟩ : ByteArray) = s := ⟨_, rfl⟩
  have hz0 : s0.size ≤ 21 := by rw [← hs0]; exact hl0
  have hzi0 : (s0.size : Int) ≤ 21 := by omega
  rw [hs0] at HD0
  have HS0 := Lib.hid hs0
  clear hs0 hl0
  have hl1 := itoa_size x2 hx2
  have HD1 := Lib.hid (fun W => law_digits x2 hx2 W)
  obtain ⟨s1, hs1⟩ : ∃ s : ByteArray, (⟨(itoa x2).toArray⟩ : ByteArray) = s := ⟨_, rfl⟩
  have hz1 : s1.size ≤ 21 := by rw [← hs1]; exact hl1
  have hzi1 : (s1.size : Int) ≤ 21 := by omega
  rw [hs1] at HD1
  have HS1 := Lib.hid hs1
  clear hs1 hl1
  have hw1 : ¬ (5 + s0.size > 9223372036854775807) := by omega
  have hw2 : ¬ (9223372036854775807 < 5 + s0.size) := by omega
  have hw3 : ¬ (((⟨#[115, 97, 109, 101]⟩ : ByteArray) ++ (⟨#[32]⟩ : ByteArray)).size + s0.size > 9223372036854775807) := by (simp only [ByteArray.size_append, ByteArray.size_mk']; simp; omega)
  have U1 := (((Upd.refl (In.nil w)).alloc' (.cells #[.int .i64 8, .int .i64 x1, .int .i64 x2, .int .i64 0, .int .u64 0] 24 (0, 0))).alloc' (.cells #[.string ⟨#[]⟩, .string ⟨#[109, 97, 107, 101]⟩, .string ⟨#[103, 101, 116]⟩, .string ⟨#[115, 101, 116]⟩, .string ⟨#[114, 101, 97, 100]⟩, .string ⟨#[119, 114, 105, 116, 101]⟩, .string ⟨#[99, 108, 101, 97, 114]⟩, .string ⟨#[99, 111, 112, 121]⟩, .string ⟨#[115, 97, 109, 101]⟩, .string ⟨#[110, 105, 108]⟩, .string ⟨#[115, 104, 97, 112, 101]⟩, .string ⟨#[105, 100, 108, 101]⟩, .string ⟨#[102, 111, 114, 99, 101]⟩] 9 (0, 0))).alloc' (.cells #[.int .i64 0, .int .i64 3, .int .i64 3, .int .i64 3, .int .i64 2, .int .i64 2, .int .i64 1, .int .i64 2, .int .i64 2, .int .i64 1, .int .i64 1, .int .i64 2, .int .i64 1] 3 (0, 0))
  simp only [World.size_alloc] at U1
  go_enter Tryd.func9, Tryd.ntmps9
  go_wp2
  generalize (((w.alloc (.cells #[.int .i64 8, .int .i64 x1, .int .i64 x2, .int .i64 0, .int .u64 0] 24 (0, 0))).alloc (.cells #[.string ⟨#[]⟩, .string ⟨#[109, 97, 107, 101]⟩, .string ⟨#[103, 101, 116]⟩, .string ⟨#[115, 101, 116]⟩, .string ⟨#[114, 101, 97, 100]⟩, .string ⟨#[119, 114, 105, 116, 101]⟩, .string ⟨#[99, 108, 101, 97, 114]⟩, .string ⟨#[99, 111, 112, 121]⟩, .string ⟨#[115, 97, 109, 101]⟩, .string ⟨#[110, 105, 108]⟩, .string ⟨#[115, 104, 97, 112, 101]⟩, .string ⟨#[105, 100, 108, 101]⟩, .string ⟨#[102, 111, 114, 99, 101]⟩] 9 (0, 0))).alloc (.cells #[.int .i64 0, .int .i64 3, .int .i64 3, .int .i64 3, .int .i64 2, .int .i64 2, .int .i64 1, .int .i64 2, .int .i64 2, .int .i64 1, .int .i64 1, .int .i64 2, .int .i64 1] 3 (0, 0))) = W3 at *
  obtain ⟨B0, hB0⟩ : ∃ b, b = w.heap.size := ⟨_, rfl⟩
  obtain ⟨B1, hB1⟩ : ∃ b, b = w.heap.size + 1 := ⟨_, rfl⟩
  obtain ⟨B2, hB2⟩ : ∃ b, b = w.heap.size + 1 + 1 := ⟨_, rfl⟩
  rw [← hB2, ← hB1] at U1 ⊢
  simp only [← hB0] at U1 ⊢
  clear hB2 hB1 hB0
  have U2 := U1.drew'
  have hS : ∀ W, Upd [] [(B2, (.cells #[.int .i64 0, .int .i64 3, .int .i64 3, .int .i64 3, .int .i64 2, .int .i64 2, .int .i64 1, .int .i64 2, .int .i64 2, .int .i64 1, .int .i64 1, .int .i64 2, .int .i64 1] 3 (0, 0))), (B1, (.cells #[.string ⟨#[]⟩, .string ⟨#[109, 97, 107, 101]⟩, .string ⟨#[103, 101, 116]⟩, .string ⟨#[115, 101, 116]⟩, .string ⟨#[114, 101, 97, 100]⟩, .string ⟨#[119, 114, 105, 116, 101]⟩, .string ⟨#[99, 108, 101, 97, 114]⟩, .string ⟨#[99, 111, 112, 121]⟩, .string ⟨#[115, 97, 109, 101]⟩, .string ⟨#[110, 105, 108]⟩, .string ⟨#[115, 104, 97, 112, 101]⟩, .string ⟨#[105, 100, 108, 101]⟩, .string ⟨#[102, 111, 114, 99, 101]⟩] 9 (0, 0))), (B0, (.cells #[.int .i64 8, .int .i64 x1, .int .i64 x2, .int .i64 0, .int .u64 0] 24 (0, 0)))] w W → (fun w' => w'.cell? ⟨B0, 0, none⟩ = some (.int .i64 8) ∧ w'.cell? ⟨B0, 1, none⟩ = some (.int .i64 x1) ∧ w'.cell? ⟨B1, 8, none⟩ = some (.string ⟨#[115, 97, 109, 101]⟩)) W := fun W U => ⟨cell_of U.inn.tail.tail.head 0, cell_of U.inn.tail.tail.head 1, cell_of U.inn.tail.head 8⟩
  have HSS := Lib.hid hS
  have t2 := hS _ U2
  have HU2 := Lib.hid U2
  clear hS U1 U2
  go_region_held3 (fun w' => w'.cell? ⟨B0, 0, none⟩ = some (.int .i64 8) ∧ w'.cell? ⟨B0, 1, none⟩ = some (.int .i64 x1) ∧ w'.cell? ⟨B1, 8, none⟩ = some (.string ⟨#[115, 97, 109, 101]⟩))
    (first | (with_reducible exact t2) | (with_reducible exact t4))
    (first | (go_at_call 17; refine Calls.mono (HD0.out _) ?_; rintro e w4 ⟨rfl, u4⟩; have U4 := HU2.out.under0 u4; have t4 := HSS.out _ U4; have HU4 := Lib.hid U4; clear U4))
  have U4 := HU4.out
  have e0 : w4.cell? ⟨B0, 0, none⟩ = some (.int .i64 8) := cell_of U4.inn.tail.tail.head 0
  have e2 : w4.cell? ⟨B0, 2, none⟩ = some (.int .i64 x2) := cell_of U4.inn.tail.tail.head 2
  have e3 : w4.cell? ⟨B0, 3, none⟩ = some (.int .i64 0) := cell_of U4.inn.tail.tail.head 3
  have e4 : w4.cell? ⟨B0, 4, none⟩ = some (.int .u64 0) := cell_of U4.inn.tail.tail.head 4
  clear U4
  go_wp2_with (first | (have hU := HU4; go_at_call 17; (with_reducible refine Calls.mono (HD1.out _) ?_); rintro e w5 ⟨rfl, u5⟩; have V1 := HU4.out.under0 u5; have e01 : w5.cell? ⟨B0, 0, none⟩ = some (.int .i64 8) := cell_of V1.inn.tail.tail.head 0; have e21 : w5.cell? ⟨B0, 2, none⟩ = some (.int .i64 x2) := cell_of V1.inn.tail.tail.head 2; have e31 : w5.cell? ⟨B0, 3, none⟩ = some (.int .i64 0) := cell_of V1.inn.tail.tail.head 3; have e41 : w5.cell? ⟨B0, 4, none⟩ = some (.int .u64 0) := cell_of V1.inn.tail.tail.head 4; have HU5 := Lib.hid V1; clear V1 hU))
  go_ret2
  refine ⟨?_, HU5.out.forget (List.nil_sublist _)⟩
  refine congrArg (fun s => Ending.returned (.tuple #[.string s, .bool true])) ?_
  rw [← HS0.out, ← HS1.out]
  apply ByteArray.ext
  simp [wordsOf, join_cons, joinTail]
set_option maxRecDepth 100000 in
set_option maxHeartbeats 4000000 in
theorem law_line_9 (x1 x2 x3 : Int) (x4 : Nat) (hx : EntS.Ok ⟨9, x1, x2, x3, x4⟩) (w : World) :
    Calls Tryd.prog 9 #[.agg (entCells ⟨9, x1, x2, x3, x4⟩)] w fun e w' => e = .returned (lawV ⟨9, x1, x2, x3, x4⟩) ∧ Upd [] [] w w' := by
  obtain ⟨hx0, hx1, hx2, hx3, hx4⟩ := hx
  simp only at hx0 hx1 hx2 hx3 hx4
  have hform : formOf 9 = some ⟨[110, 105, 108], 1, false⟩ := rfl
  have hlo : lineOf ⟨9, x1, x2, x3, x4⟩ = if fitsS ⟨9, x1, x2, x3, x4⟩ ⟨[110, 105, 108], 1, false⟩ then some (Lib.join (wordsOf ⟨9, x1, x2, x3, x4⟩ ⟨[110, 105, 108], 1, false⟩) [32]) else none := rfl
  by_cases hx3 : x3 = 0
  rotate_left
  · have HL : Hid (lineOf (⟨9, x1, x2, x3, x4⟩ : EntS) = none) := Lib.hid (by rw [hlo, if_neg (by simp [fitsS, hx3])])
    rw [lawV_none HL.out]
    have hz2 : ¬ ((x3 : Int) = 0) := by omega
    clear hlo hform
    simp only [entCells]
    go_enter Tryd.func9, Tryd.ntmps9
    go_wp2
    go_ret2
    exact ⟨rfl, (((Upd.refl (In.nil w)).skip' _).skip' _).skip' _⟩
  subst hx3
  by_cases hx2 : x2 = 0
  rotate_left
  · have HL : Hid (lineOf (⟨9, x1, x2, 0, x4⟩ : EntS) = none) := Lib.hid (by rw [hlo, if_neg (by simp [fitsS, hx2])])
    rw [lawV_none HL.out]
    have hz2 : ¬ ((x2 : Int) = 0) := by omega
    clear hlo hform
    simp only [entCells]
    go_enter Tryd.func9, Tryd.ntmps9
    go_wp2
    go_ret2
    exact ⟨rfl, (((Upd.refl (In.nil w)).skip' _).skip' _).skip' _⟩
  subst hx2
  by_cases hx4 : x4 = 0
  rotate_left
  · have HL : Hid (lineOf (⟨9, x1, 0, 0, x4⟩ : EntS) = none) := Lib.hid (by rw [hlo, if_neg (by simp [fitsS, hx4])])
    rw [lawV_none HL.out]
    have hz2 : ¬ ((x4 : Int) = 0) := by omega
    clear hlo hform
    simp only [entCells]
    go_enter Tryd.func9, Tryd.ntmps9
    go_wp2
    go_ret2
    exact ⟨rfl, (((Upd.refl (In.nil w)).skip' _).skip' _).skip' _⟩
  subst hx4
  have HL : Hid (lineOf (⟨9, x1, 0, 0, 0⟩ : EntS) = some (Lib.join (wordsOf (⟨9, x1, 0, 0, 0⟩ : EntS) ⟨[110, 105, 108], 1, false⟩) [32])) := Lib.hid (by rw [hlo, if_pos (by simp [fitsS])])
  rw [lawV_some HL.out]
  clear hlo hform
  simp only [entCells]
  have hl0 := itoa_size x1 hx1
  have HD0 := Lib.hid (fun W => law_digits x1 hx1 W)
  obtain ⟨s0, hs0⟩ : ∃ s : ByteArray, (⟨(itoa x1).toArray⟩ : ByteArray) = s := ⟨_, rfl⟩
  have hz0 : s0.size ≤ 21 := by rw [← hs0]; exact hl0
  have hzi0 : (s0.size : Int) ≤ 21 := by omega
  rw [hs0] at HD0
  have HS0 := Lib.hid hs0
  clear hs0 hl0
  have hw1 : ¬ (4 + s0.size > 9223372036854775807) := by omega
  have hw2 : ¬ (9223372036854775807 < 4 + s0.size) := by omega
  have hw3 : ¬ (((⟨#[110, 105, 108]⟩ : ByteArray) ++ (⟨#[32]⟩ : ByteArray)).size + s0.size > 9223372036854775807) := by (simp only [ByteArray.size_append, ByteArray.size_mk']; simp; omega)
  have U1 := (((Upd.refl (In.nil w)).alloc' (.cells #[.int .i64 9, .int .i64 x1, .int .i64 0, .int .i64 0, .int .u64 0] 24 (0, 0))).alloc' (.cells #[.string ⟨#[]⟩, .string ⟨#[109, 97, 107, 101]⟩, .string ⟨#[103, 101, 116]⟩, .string ⟨#[115, 101, 116]⟩, .string ⟨#[114, 101, 97, 100]⟩, .string ⟨#[119, 114, 105, 116, 101]⟩, .string ⟨#[99, 108, 101, 97, 114]⟩, .string ⟨#[99, 111, 112, 121]⟩, .string ⟨#[115, 97, 109, 101]⟩, .string ⟨#[110, 105, 108]⟩, .string ⟨#[115, 104, 97, 112, 101]⟩, .string ⟨#[105, 100, 108, 101]⟩, .string ⟨#[102, 111, 114, 99, 101]⟩] 9 (0, 0))).alloc' (.cells #[.int .i64 0, .int .i64 3, .int .i64 3, .int .i64 3, .int .i64 2, .int .i64 2, .int .i64 1, .int .i64 2, .int .i64 2, .int .i64 1, .int .i64 1, .int .i64 2, .int .i64 1] 3 (0, 0))
  simp only [World.size_alloc] at U1
  go_enter Tryd.func9, Tryd.ntmps9
  go_wp2
  generalize (((w.alloc (.cells #[.int .i64 9, .int .i64 x1, .int .i64 0, .int .i64 0, .int .u64 0] 24 (0, 0))).alloc (.cells #[.string ⟨#[]⟩, .string ⟨#[109, 97, 107, 101]⟩, .string ⟨#[103, 101, 116]⟩, .string ⟨#[115, 101, 116]⟩, .string ⟨#[114, 101, 97, 100]⟩, .string ⟨#[119, 114, 105, 116, 101]⟩, .string ⟨#[99, 108, 101, 97, 114]⟩, .string ⟨#[99, 111, 112, 121]⟩, .string ⟨#[115, 97, 109, 101]⟩, .string ⟨#[110, 105, 108]⟩, .string ⟨#[115, 104, 97, 112, 101]⟩, .string ⟨#[105, 100, 108, 101]⟩, .string ⟨#[102, 111, 114, 99, 101]⟩] 9 (0, 0))).alloc (.cells #[.int .i64 0, .int .i64 3, .int .i64 3, .int .i64 3, .int .i64 2, .int .i64 2, .int .i64 1, .int .i64 2, .int .i64 2, .int .i64 1, .int .i64 1, .int .i64 2, .int .i64 1] 3 (0, 0))) = W3 at *
  obtain ⟨B0, hB0⟩ : ∃ b, b = w.heap.size := ⟨_, rfl⟩
  obtain ⟨B1, hB1⟩ : ∃ b, b = w.heap.size + 1 := ⟨_, rfl⟩
  obtain ⟨B2, hB2⟩ : ∃ b, b = w.heap.size + 1 + 1 := ⟨_, rfl⟩
  rw [← hB2, ← hB1] at U1 ⊢
  simp only [← hB0] at U1 ⊢
  clear hB2 hB1 hB0
  have U2 := U1.drew'
  have hS : ∀ W, Upd [] [(B2, (.cells #[.int .i64 0, .int .i64 3, .int .i64 3, .int .i64 3, .int .i64 2, .int .i64 2, .int .i64 1, .int .i64 2, .int .i64 2, .int .i64 1, .int .i64 1, .int .i64 2, .int .i64 1] 3 (0, 0))), (B1, (.cells #[.string ⟨#[]⟩, .string ⟨#[109, 97, 107, 101]⟩, .string ⟨#[103, 101, 116]⟩, .string ⟨#[115, 101, 116]⟩, .string ⟨#[114, 101, 97, 100]⟩, .string ⟨#[119, 114, 105, 116, 101]⟩, .string ⟨#[99, 108, 101, 97, 114]⟩, .string ⟨#[99, 111, 112, 121]⟩, .string ⟨#[115, 97, 109, 101]⟩, .string ⟨#[110, 105, 108]⟩, .string ⟨#[115, 104, 97, 112, 101]⟩, .string ⟨#[105, 100, 108, 101]⟩, .string ⟨#[102, 111, 114, 99, 101]⟩] 9 (0, 0))), (B0, (.cells #[.int .i64 9, .int .i64 x1, .int .i64 0, .int .i64 0, .int .u64 0] 24 (0, 0)))] w W → (fun w' => w'.cell? ⟨B0, 0, none⟩ = some (.int .i64 9) ∧ w'.cell? ⟨B0, 1, none⟩ = some (.int .i64 x1) ∧ w'.cell? ⟨B1, 9, none⟩ = some (.string ⟨#[110, 105, 108]⟩)) W := fun W U => ⟨cell_of U.inn.tail.tail.head 0, cell_of U.inn.tail.tail.head 1, cell_of U.inn.tail.head 9⟩
  have HSS := Lib.hid hS
  have t2 := hS _ U2
  have HU2 := Lib.hid U2
  clear hS U1 U2
  go_region_held3 (fun w' => w'.cell? ⟨B0, 0, none⟩ = some (.int .i64 9) ∧ w'.cell? ⟨B0, 1, none⟩ = some (.int .i64 x1) ∧ w'.cell? ⟨B1, 9, none⟩ = some (.string ⟨#[110, 105, 108]⟩))
    (first | (with_reducible exact t2) | (with_reducible exact t4))
    (first | (go_at_call 17; refine Calls.mono (HD0.out _) ?_; rintro e w4 ⟨rfl, u4⟩; have U4 := HU2.out.under0 u4; have t4 := HSS.out _ U4; have HU4 := Lib.hid U4; clear U4))
  have U4 := HU4.out
  have e0 : w4.cell? ⟨B0, 0, none⟩ = some (.int .i64 9) := cell_of U4.inn.tail.tail.head 0
  have e2 : w4.cell? ⟨B0, 2, none⟩ = some (.int .i64 0) := cell_of U4.inn.tail.tail.head 2
  have e3 : w4.cell? ⟨B0, 3, none⟩ = some (.int .i64 0) := cell_of U4.inn.tail.tail.head 3
  have e4 : w4.cell? ⟨B0, 4, none⟩ = some (.int .u64 0) := cell_of U4.inn.tail.tail.head 4
  clear U4
  go_wp2_with fail
  go_ret2
  refine ⟨?_, HU4.out.forget (List.nil_sublist _)⟩
  refine congrArg (fun s => Ending.returned (.tuple #[.string s, .bool true])) ?_
  rw [← HS0.out]
  apply ByteArray.ext
  simp [wordsOf, join_cons, joinTail]
set_option maxRecDepth 100000 in
set_option maxHeartbeats 4000000 in
theorem law_line_10 (x1 x2 x3 : Int) (x4 : Nat) (hx : EntS.Ok ⟨10, x1, x2, x3, x4⟩) (w : World) :
    Calls Tryd.prog 9 #[.agg (entCells ⟨10, x1, x2, x3, x4⟩)] w fun e w' => e = .returned (lawV ⟨10, x1, x2, x3, x4⟩) ∧ Upd [] [] w w' := by
  obtain ⟨hx0, hx1, hx2, hx3, hx4⟩ := hx
  simp only at hx0 hx1 hx2 hx3 hx4
  have hform : formOf 10 = some ⟨[115, 104, 97, 112, 101], 1, false⟩ := rfl
  have hlo : lineOf ⟨10, x1, x2, x3, x4⟩ = if fitsS ⟨10, x1, x2, x3, x4⟩ ⟨[115, 104, 97, 112, 101], 1, false⟩ then some (Lib.join (wordsOf ⟨10, x1, x2, x3, x4⟩ ⟨[115, 104, 97, 112, 101], 1, false⟩) [32]) else none := rfl
  by_cases hx3 : x3 = 0
  rotate_left
  · have HL : Hid (lineOf (⟨10, x1, x2, x3, x4⟩ : EntS) = none) := Lib.hid (by rw [hlo, if_neg (by simp [fitsS, hx3])])
    rw [lawV_none HL.out]
    have hz2 : ¬ ((x3 : Int) = 0) := by omega
    clear hlo hform
    simp only [entCells]
    go_enter Tryd.func9, Tryd.ntmps9
    go_wp2
    go_ret2
    exact ⟨rfl, (((Upd.refl (In.nil w)).skip' _).skip' _).skip' _⟩
  subst hx3
  by_cases hx2 : x2 = 0
  rotate_left
  · have HL : Hid (lineOf (⟨10, x1, x2, 0, x4⟩ : EntS) = none) := Lib.hid (by rw [hlo, if_neg (by simp [fitsS, hx2])])
    rw [lawV_none HL.out]
    have hz2 : ¬ ((x2 : Int) = 0) := by omega
    clear hlo hform
    simp only [entCells]
    go_enter Tryd.func9, Tryd.ntmps9
    go_wp2
    go_ret2
    exact ⟨rfl, (((Upd.refl (In.nil w)).skip' _).skip' _).skip' _⟩
  subst hx2
  by_cases hx4 : x4 = 0
  rotate_left
  · have HL : Hid (lineOf (⟨10, x1, 0, 0, x4⟩ : EntS) = none) := Lib.hid (by rw [hlo, if_neg (by simp [fitsS, hx4])])
    rw [lawV_none HL.out]
    have hz2 : ¬ ((x4 : Int) = 0) := by omega
    clear hlo hform
    simp only [entCells]
    go_enter Tryd.func9, Tryd.ntmps9
    go_wp2
    go_ret2
    exact ⟨rfl, (((Upd.refl (In.nil w)).skip' _).skip' _).skip' _⟩
  subst hx4
  have HL : Hid (lineOf (⟨10, x1, 0, 0, 0⟩ : EntS) = some (Lib.join (wordsOf (⟨10, x1, 0, 0, 0⟩ : EntS) ⟨[115, 104, 97, 112, 101], 1, false⟩) [32])) := Lib.hid (by rw [hlo, if_pos (by simp [fitsS])])
  rw [lawV_some HL.out]
  clear hlo hform
  simp only [entCells]
  have hl0 := itoa_size x1 hx1
  have HD0 := Lib.hid (fun W => law_digits x1 hx1 W)
  obtain ⟨s0, hs0⟩ : ∃ s : ByteArray, (⟨(itoa x1).toArray⟩ : ByteArray) = s := ⟨_, rfl⟩
  have hz0 : s0.size ≤ 21 := by rw [← hs0]; exact hl0
  have hzi0 : (s0.size : Int) ≤ 21 := by omega
  rw [hs0] at HD0
  have HS0 := Lib.hid hs0
  clear hs0 hl0
  have hw1 : ¬ (6 + s0.size > 9223372036854775807) := by omega
  have hw2 : ¬ (9223372036854775807 < 6 + s0.size) := by omega
  have hw3 : ¬ (((⟨#[115, 104, 97, 112, 101]⟩ : ByteArray) ++ (⟨#[32]⟩ : ByteArray)).size + s0.size > 9223372036854775807) := by (simp only [ByteArray.size_append, ByteArray.size_mk']; simp; omega)
  have U1 := (((Upd.refl (In.nil w)).alloc' (.cells #[.int .i64 10, .int .i64 x1, .int .i64 0, .int .i64 0, .int .u64 0] 24 (0, 0))).alloc' (.cells #[.string ⟨#[]⟩, .string ⟨#[109, 97, 107, 101]⟩, .string ⟨#[103, 101, 116]⟩, .string ⟨#[115, 101, 116]⟩, .string ⟨#[114, 101, 97, 100]⟩, .string ⟨#[119, 114, 105, 116, 101]⟩, .string ⟨#[99, 108, 101, 97, 114]⟩, .string ⟨#[99, 111, 112, 121]⟩, .string ⟨#[115, 97, 109, 101]⟩, .string ⟨#[110, 105, 108]⟩, .string ⟨#[115, 104, 97, 112, 101]⟩, .string ⟨#[105, 100, 108, 101]⟩, .string ⟨#[102, 111, 114, 99, 101]⟩] 9 (0, 0))).alloc' (.cells #[.int .i64 0, .int .i64 3, .int .i64 3, .int .i64 3, .int .i64 2, .int .i64 2, .int .i64 1, .int .i64 2, .int .i64 2, .int .i64 1, .int .i64 1, .int .i64 2, .int .i64 1] 3 (0, 0))
  simp only [World.size_alloc] at U1
  go_enter Tryd.func9, Tryd.ntmps9
  go_wp2
  generalize (((w.alloc (.cells #[.int .i64 10, .int .i64 x1, .int .i64 0, .int .i64 0, .int .u64 0] 24 (0, 0))).alloc (.cells #[.string ⟨#[]⟩, .string ⟨#[109, 97, 107, 101]⟩, .string ⟨#[103, 101, 116]⟩, .string ⟨#[115, 101, 116]⟩, .string ⟨#[114, 101, 97, 100]⟩, .string ⟨#[119, 114, 105, 116, 101]⟩, .string ⟨#[99, 108, 101, 97, 114]⟩, .string ⟨#[99, 111, 112, 121]⟩, .string ⟨#[115, 97, 109, 101]⟩, .string ⟨#[110, 105, 108]⟩, .string ⟨#[115, 104, 97, 112, 101]⟩, .string ⟨#[105, 100, 108, 101]⟩, .string ⟨#[102, 111, 114, 99, 101]⟩] 9 (0, 0))).alloc (.cells #[.int .i64 0, .int .i64 3, .int .i64 3, .int .i64 3, .int .i64 2, .int .i64 2, .int .i64 1, .int .i64 2, .int .i64 2, .int .i64 1, .int .i64 1, .int .i64 2, .int .i64 1] 3 (0, 0))) = W3 at *
  obtain ⟨B0, hB0⟩ : ∃ b, b = w.heap.size := ⟨_, rfl⟩
  obtain ⟨B1, hB1⟩ : ∃ b, b = w.heap.size + 1 := ⟨_, rfl⟩
  obtain ⟨B2, hB2⟩ : ∃ b, b = w.heap.size + 1 + 1 := ⟨_, rfl⟩
  rw [← hB2, ← hB1] at U1 ⊢
  simp only [← hB0] at U1 ⊢
  clear hB2 hB1 hB0
  have U2 := U1.drew'
  have hS : ∀ W, Upd [] [(B2, (.cells #[.int .i64 0, .int .i64 3, .int .i64 3, .int .i64 3, .int .i64 2, .int .i64 2, .int .i64 1, .int .i64 2, .int .i64 2, .int .i64 1, .int .i64 1, .int .i64 2, .int .i64 1] 3 (0, 0))), (B1, (.cells #[.string ⟨#[]⟩, .string ⟨#[109, 97, 107, 101]⟩, .string ⟨#[103, 101, 116]⟩, .string ⟨#[115, 101, 116]⟩, .string ⟨#[114, 101, 97, 100]⟩, .string ⟨#[119, 114, 105, 116, 101]⟩, .string ⟨#[99, 108, 101, 97, 114]⟩, .string ⟨#[99, 111, 112, 121]⟩, .string ⟨#[115, 97, 109, 101]⟩, .string ⟨#[110, 105, 108]⟩, .string ⟨#[115, 104, 97, 112, 101]⟩, .string ⟨#[105, 100, 108, 101]⟩, .string ⟨#[102, 111, 114, 99, 101]⟩] 9 (0, 0))), (B0, (.cells #[.int .i64 10, .int .i64 x1, .int .i64 0, .int .i64 0, .int .u64 0] 24 (0, 0)))] w W → (fun w' => w'.cell? ⟨B0, 0, none⟩ = some (.int .i64 10) ∧ w'.cell? ⟨B0, 1, none⟩ = some (.int .i64 x1) ∧ w'.cell? ⟨B1, 10, none⟩ = some (.string ⟨#[115, 104, 97, 112, 101]⟩)) W := fun W U => ⟨cell_of U.inn.tail.tail.head 0, cell_of U.inn.tail.tail.head 1, cell_of U.inn.tail.head 10⟩
  have HSS := Lib.hid hS
  have t2 := hS _ U2
  have HU2 := Lib.hid U2
  clear hS U1 U2
  go_region_held3 (fun w' => w'.cell? ⟨B0, 0, none⟩ = some (.int .i64 10) ∧ w'.cell? ⟨B0, 1, none⟩ = some (.int .i64 x1) ∧ w'.cell? ⟨B1, 10, none⟩ = some (.string ⟨#[115, 104, 97, 112, 101]⟩))
    (first | (with_reducible exact t2) | (with_reducible exact t4))
    (first | (go_at_call 17; refine Calls.mono (HD0.out _) ?_; rintro e w4 ⟨rfl, u4⟩; have U4 := HU2.out.under0 u4; have t4 := HSS.out _ U4; have HU4 := Lib.hid U4; clear U4))
  have U4 := HU4.out
  have e0 : w4.cell? ⟨B0, 0, none⟩ = some (.int .i64 10) := cell_of U4.inn.tail.tail.head 0
  have e2 : w4.cell? ⟨B0, 2, none⟩ = some (.int .i64 0) := cell_of U4.inn.tail.tail.head 2
  have e3 : w4.cell? ⟨B0, 3, none⟩ = some (.int .i64 0) := cell_of U4.inn.tail.tail.head 3
  have e4 : w4.cell? ⟨B0, 4, none⟩ = some (.int .u64 0) := cell_of U4.inn.tail.tail.head 4
  clear U4
  go_wp2_with fail
  go_ret2
  refine ⟨?_, HU4.out.forget (List.nil_sublist _)⟩
  refine congrArg (fun s => Ending.returned (.tuple #[.string s, .bool true])) ?_
  rw [← HS0.out]
  apply ByteArray.ext
  simp [wordsOf, join_cons, joinTail]
set_option maxRecDepth 100000 in
set_option maxHeartbeats 4000000 in
theorem law_line_11 (x1 x2 x3 : Int) (x4 : Nat) (hx : EntS.Ok ⟨11, x1, x2, x3, x4⟩) (w : World) :
    Calls Tryd.prog 9 #[.agg (entCells ⟨11, x1, x2, x3, x4⟩)] w fun e w' => e = .returned (lawV ⟨11, x1, x2, x3, x4⟩) ∧ Upd [] [] w w' := by
  obtain ⟨hx0, hx1, hx2, hx3, hx4⟩ := hx
  simp only at hx0 hx1 hx2 hx3 hx4
  have hform : formOf 11 = some ⟨[105, 100, 108, 101], 2, false⟩ := rfl
  have hlo : lineOf ⟨11, x1, x2, x3, x4⟩ = if fitsS ⟨11, x1, x2, x3, x4⟩ ⟨[105, 100, 108, 101], 2, false⟩ then some (Lib.join (wordsOf ⟨11, x1, x2, x3, x4⟩ ⟨[105, 100, 108, 101], 2, false⟩) [32]) else none := rfl
  by_cases hx3 : x3 = 0
  rotate_left
  · have HL : Hid (lineOf (⟨11, x1, x2, x3, x4⟩ : EntS) = none) := Lib.hid (by rw [hlo, if_neg (by simp [fitsS, hx3])])
    rw [lawV_none HL.out]
    have hz2 : ¬ ((x3 : Int) = 0) := by omega
    clear hlo hform
    simp only [entCells]
    go_enter Tryd.func9, Tryd.ntmps9
    go_wp2
    go_ret2
    exact ⟨rfl, (((Upd.refl (In.nil w)).skip' _).skip' _).skip' _⟩
  subst hx3
  by_cases hx4 : x4 = 0
  rotate_left
  · have HL : Hid (lineOf (⟨11, x1, x2, 0, x4⟩ : EntS) = none) := Lib.hid (by rw [hlo, if_neg (by simp [fitsS, hx4])])
    rw [lawV_none HL.out]
    have hz2 : ¬ ((x4 : Int) = 0) := by omega
    clear hlo hform
    simp only [entCells]
    go_enter Tryd.func9, Tryd.ntmps9
    go_wp2
    go_ret2
    exact ⟨rfl, (((Upd.refl (In.nil w)).skip' _).skip' _).skip' _⟩
  subst hx4
  have HL : Hid (lineOf (⟨11, x1, x2, 0, 0⟩ : EntS) = some (Lib.join (wordsOf (⟨11, x1, x2, 0, 0⟩ : EntS) ⟨[105, 100, 108, 101], 2, false⟩) [32])) := Lib.hid (by rw [hlo, if_pos (by simp [fitsS])])
  rw [lawV_some HL.out]
  clear hlo hform
  simp only [entCells]
  have hl0 := itoa_size x1 hx1
  have HD0 := Lib.hid (fun W => law_digits x1 hx1 W)
  obtain ⟨s0, hs0⟩ : ∃ s : ByteArray, (⟨(itoa x1).toArray⟩ : ByteArray) = s := ⟨_, rfl⟩
  have hz0 : s0.size ≤ 21 := by rw [← hs0]; exact hl0
  have hzi0 : (s0.size : Int) ≤ 21 := by omega
  rw [hs0] at HD0
  have HS0 := Lib.hid hs0
  clear hs0 hl0
  have hl1 := itoa_size x2 hx2
  have HD1 := Lib.hid (fun W => law_digits x2 hx2 W)
  obtain ⟨s1, hs1⟩ : ∃ s : ByteArray, (⟨(itoa x2).toArray⟩ : ByteArray) = s := ⟨_, rfl⟩
  have hz1 : s1.size ≤ 21 := by rw [← hs1]; exact hl1
  have hzi1 : (s1.size : Int) ≤ 21 := by omega
  rw [hs1] at HD1
  have HS1 := Lib.hid hs1
  clear hs1 hl1
  have hw1 : ¬ (5 + s0.size > 9223372036854775807) := by omega
  have hw2 : ¬ (9223372036854775807 < 5 + s0.size) := by omega
  have hw3 : ¬ (((⟨#[105, 100, 108, 101]⟩ : ByteArray) ++ (⟨#[32]⟩ : ByteArray)).size + s0.size > 9223372036854775807) := by (simp only [ByteArray.size_append, ByteArray.size_mk']; simp; omega)
  have U1 := (((Upd.refl (In.nil w)).alloc' (.cells #[.int .i64 11, .int .i64 x1, .int .i64 x2, .int .i64 0, .int .u64 0] 24 (0, 0))).alloc' (.cells #[.string ⟨#[]⟩, .string ⟨#[109, 97, 107, 101]⟩, .string ⟨#[103, 101, 116]⟩, .string ⟨#[115, 101, 116]⟩, .string ⟨#[114, 101, 97, 100]⟩, .string ⟨#[119, 114, 105, 116, 101]⟩, .string ⟨#[99, 108, 101, 97, 114]⟩, .string ⟨#[99, 111, 112, 121]⟩, .string ⟨#[115, 97, 109, 101]⟩, .string ⟨#[110, 105, 108]⟩, .string ⟨#[115, 104, 97, 112, 101]⟩, .string ⟨#[105, 100, 108, 101]⟩, .string ⟨#[102, 111, 114, 99, 101]⟩] 9 (0, 0))).alloc' (.cells #[.int .i64 0, .int .i64 3, .int .i64 3, .int .i64 3, .int .i64 2, .int .i64 2, .int .i64 1, .int .i64 2, .int .i64 2, .int .i64 1, .int .i64 1, .int .i64 2, .int .i64 1] 3 (0, 0))
  simp only [World.size_alloc] at U1
  go_enter Tryd.func9, Tryd.ntmps9
  go_wp2
  generalize (((w.alloc (.cells #[.int .i64 11, .int .i64 x1, .int .i64 x2, .int .i64 0, .int .u64 0] 24 (0, 0))).alloc (.cells #[.string ⟨#[]⟩, .string ⟨#[109, 97, 107, 101]⟩, .string ⟨#[103, 101, 116]⟩, .string ⟨#[115, 101, 116]⟩, .string ⟨#[114, 101, 97, 100]⟩, .string ⟨#[119, 114, 105, 116, 101]⟩, .string ⟨#[99, 108, 101, 97, 114]⟩, .string ⟨#[99, 111, 112, 121]⟩, .string ⟨#[115, 97, 109, 101]⟩, .string ⟨#[110, 105, 108]⟩, .string ⟨#[115, 104, 97, 112, 101]⟩, .string ⟨#[105, 100, 108, 101]⟩, .string ⟨#[102, 111, 114, 99, 101]⟩] 9 (0, 0))).alloc (.cells #[.int .i64 0, .int .i64 3, .int .i64 3, .int .i64 3, .int .i64 2, .int .i64 2, .int .i64 1, .int .i64 2, .int .i64 2, .int .i64 1, .int .i64 1, .int .i64 2, .int .i64 1] 3 (0, 0))) = W3 at *
  obtain ⟨B0, hB0⟩ : ∃ b, b = w.heap.size := ⟨_, rfl⟩
  obtain ⟨B1, hB1⟩ : ∃ b, b = w.heap.size + 1 := ⟨_, rfl⟩
  obtain ⟨B2, hB2⟩ : ∃ b, b = w.heap.size + 1 + 1 := ⟨_, rfl⟩
  rw [← hB2, ← hB1] at U1 ⊢
  simp only [← hB0] at U1 ⊢
  clear hB2 hB1 hB0
  have U2 := U1.drew'
  have hS : ∀ W, Upd [] [(B2, (.cells #[.int .i64 0, .int .i64 3, .int .i64 3, .int .i64 3, .int .i64 2, .int .i64 2, .int .i64 1, .int .i64 2, .int .i64 2, .int .i64 1, .int .i64 1, .int .i64 2, .int .i64 1] 3 (0, 0))), (B1, (.cells #[.string ⟨#[]⟩, .string ⟨#[109, 97, 107, 101]⟩, .string ⟨#[103, 101, 116]⟩, .string ⟨#[115, 101, 116]⟩, .string ⟨#[114, 101, 97, 100]⟩, .string ⟨#[119, 114, 105, 116, 101]⟩, .string ⟨#[99, 108, 101, 97, 114]⟩, .string ⟨#[99, 111, 112, 121]⟩, .string ⟨#[115, 97, 109, 101]⟩, .string ⟨#[110, 105, 108]⟩, .string ⟨#[115, 104, 97, 112, 101]⟩, .string ⟨#[105, 100, 108, 101]⟩, .string ⟨#[102, 111, 114, 99, 101]⟩] 9 (0, 0))), (B0, (.cells #[.int .i64 11, .int .i64 x1, .int .i64 x2, .int .i64 0, .int .u64 0] 24 (0, 0)))] w W → (fun w' => w'.cell? ⟨B0, 0, none⟩ = some (.int .i64 11) ∧ w'.cell? ⟨B0, 1, none⟩ = some (.int .i64 x1) ∧ w'.cell? ⟨B1, 11, none⟩ = some (.string ⟨#[105, 100, 108, 101]⟩)) W := fun W U => ⟨cell_of U.inn.tail.tail.head 0, cell_of U.inn.tail.tail.head 1, cell_of U.inn.tail.head 11⟩
  have HSS := Lib.hid hS
  have t2 := hS _ U2
  have HU2 := Lib.hid U2
  clear hS U1 U2
  go_region_held3 (fun w' => w'.cell? ⟨B0, 0, none⟩ = some (.int .i64 11) ∧ w'.cell? ⟨B0, 1, none⟩ = some (.int .i64 x1) ∧ w'.cell? ⟨B1, 11, none⟩ = some (.string ⟨#[105, 100, 108, 101]⟩))
    (first | (with_reducible exact t2) | (with_reducible exact t4))
    (first | (go_at_call 17; refine Calls.mono (HD0.out _) ?_; rintro e w4 ⟨rfl, u4⟩; have U4 := HU2.out.under0 u4; have t4 := HSS.out _ U4; have HU4 := Lib.hid U4; clear U4))
  have U4 := HU4.out
  have e0 : w4.cell? ⟨B0, 0, none⟩ = some (.int .i64 11) := cell_of U4.inn.tail.tail.head 0
  have e2 : w4.cell? ⟨B0, 2, none⟩ = some (.int .i64 x2) := cell_of U4.inn.tail.tail.head 2
  have e3 : w4.cell? ⟨B0, 3, none⟩ = some (.int .i64 0) := cell_of U4.inn.tail.tail.head 3
  have e4 : w4.cell? ⟨B0, 4, none⟩ = some (.int .u64 0) := cell_of U4.inn.tail.tail.head 4
  clear U4
  go_wp2_with (first | (have hU := HU4; go_at_call 17; (with_reducible refine Calls.mono (HD1.out _) ?_); rintro e w5 ⟨rfl, u5⟩; have V1 := HU4.out.under0 u5; have e01 : w5.cell? ⟨B0, 0, none⟩ = some (.int .i64 11) := cell_of V1.inn.tail.tail.head 0; have e21 : w5.cell? ⟨B0, 2, none⟩ = some (.int .i64 x2) := cell_of V1.inn.tail.tail.head 2; have e31 : w5.cell? ⟨B0, 3, none⟩ = some (.int .i64 0) := cell_of V1.inn.tail.tail.head 3; have e41 : w5.cell? ⟨B0, 4, none⟩ = some (.int .u64 0) := cell_of V1.inn.tail.tail.head 4; have HU5 := Lib.hid V1; clear V1 hU))
  go_ret2
  refine ⟨?_, HU5.out.forget (List.nil_sublist _)⟩
  refine congrArg (fun s => Ending.returned (.tuple #[.string s, .bool true])) ?_
  rw [← HS0.out, ← HS1.out]
  apply ByteArray.ext
  simp [wordsOf, join_cons, joinTail]
set_option maxRecDepth 100000 in
set_option maxHeartbeats 4000000 in
theorem law_line_12 (x1 x2 x3 : Int) (x4 : Nat) (hx : EntS.Ok ⟨12, x1, x2, x3, x4⟩) (w : World) :
    Calls Tryd.prog 9 #[.agg (entCells ⟨12, x1, x2, x3, x4⟩)] w fun e w' => e = .returned (lawV ⟨12, x1, x2, x3, x4⟩) ∧ Upd [] [] w w' := by
  obtain ⟨hx0, hx1, hx2, hx3, hx4⟩ := hx
  simp only at hx0 hx1 hx2 hx3 hx4
  have hform : formOf 12 = some ⟨[102, 111, 114, 99, 101], 1, false⟩ := rfl
  have hlo : lineOf ⟨12, x1, x2, x3, x4⟩ = if fitsS ⟨12, x1, x2, x3, x4⟩ ⟨[102, 111, 114, 99, 101], 1, false⟩ then some (Lib.join (wordsOf ⟨12, x1, x2, x3, x4⟩ ⟨[102, 111, 114, 99, 101], 1, false⟩) [32]) else none := rfl
  by_cases hx3 : x3 = 0
  rotate_left
  · have HL : Hid (lineOf (⟨12, x1, x2, x3, x4⟩ : EntS) = none) := Lib.hid (by rw [hlo, if_neg (by simp [fitsS, hx3])])
    rw [lawV_none HL.out]
    have hz2 : ¬ ((x3 : Int) = 0) := by omega
    clear hlo hform
    simp only [entCells]
    go_enter Tryd.func9, Tryd.ntmps9
    go_wp2
    go_ret2
    exact ⟨rfl, (((Upd.refl (In.nil w)).skip' _).skip' _).skip' _⟩
  subst hx3
  by_cases hx2 : x2 = 0
  rotate_left
  · have HL : Hid (lineOf (⟨12, x1, x2, 0, x4⟩ : EntS) = none) := Lib.hid (by rw [hlo, if_neg (by simp [fitsS, hx2])])
    rw [lawV_none HL.out]
    have hz2 : ¬ ((x2 : Int) = 0) := by omega
    clear hlo hform
    simp only [entCells]
    go_enter Tryd.func9, Tryd.ntmps9
    go_wp2
    go_ret2
    exact ⟨rfl, (((Upd.refl (In.nil w)).skip' _).skip' _).skip' _⟩
  subst hx2
  by_cases hx4 : x4 = 0
  rotate_left
  · have HL : Hid (lineOf (⟨12, x1, 0, 0, x4⟩ : EntS) = none) := Lib.hid (by rw [hlo, if_neg (by simp [fitsS, hx4])])
    rw [lawV_none HL.out]
    have hz2 : ¬ ((x4 : Int) = 0) := by omega
    clear hlo hform
    simp only [entCells]
    go_enter Tryd.func9, Tryd.ntmps9
    go_wp2
    go_ret2
    exact ⟨rfl, (((Upd.refl (In.nil w)).skip' _).skip' _).skip' _⟩
  subst hx4
  have HL : Hid (lineOf (⟨12, x1, 0, 0, 0⟩ : EntS) = some (Lib.join (wordsOf (⟨12, x1, 0, 0, 0⟩ : EntS) ⟨[102, 111, 114, 99, 101], 1, false⟩) [32])) := Lib.hid (by rw [hlo, if_pos (by simp [fitsS])])
  rw [lawV_some HL.out]
  clear hlo hform
  simp only [entCells]
  have hl0 := itoa_size x1 hx1
  have HD0 := Lib.hid (fun W => law_digits x1 hx1 W)
  obtain ⟨s0, hs0⟩ : ∃ s : ByteArray, (⟨(itoa x1).toArray⟩ : ByteArray) = s := ⟨_, rfl⟩
  have hz0 : s0.size ≤ 21 := by rw [← hs0]; exact hl0
  have hzi0 : (s0.size : Int) ≤ 21 := by omega
  rw [hs0] at HD0
  have HS0 := Lib.hid hs0
  clear hs0 hl0
  have hw1 : ¬ (6 + s0.size > 9223372036854775807) := by omega
  have hw2 : ¬ (9223372036854775807 < 6 + s0.size) := by omega
  have hw3 : ¬ (((⟨#[102, 111, 114, 99, 101]⟩ : ByteArray) ++ (⟨#[32]⟩ : ByteArray)).size + s0.size > 9223372036854775807) := by (simp only [ByteArray.size_append, ByteArray.size_mk']; simp; omega)
  have U1 := (((Upd.refl (In.nil w)).alloc' (.cells #[.int .i64 12, .int .i64 x1, .int .i64 0, .int .i64 0, .int .u64 0] 24 (0, 0))).alloc' (.cells #[.string ⟨#[]⟩, .string ⟨#[109, 97, 107, 101]⟩, .string ⟨#[103, 101, 116]⟩, .string ⟨#[115, 101, 116]⟩, .string ⟨#[114, 101, 97, 100]⟩, .string ⟨#[119, 114, 105, 116, 101]⟩, .string ⟨#[99, 108, 101, 97, 114]⟩, .string ⟨#[99, 111, 112, 121]⟩, .string ⟨#[115, 97, 109, 101]⟩, .string ⟨#[110, 105, 108]⟩, .string ⟨#[115, 104, 97, 112, 101]⟩, .string ⟨#[105, 100, 108, 101]⟩, .string ⟨#[102, 111, 114, 99, 101]⟩] 9 (0, 0))).alloc' (.cells #[.int .i64 0, .int .i64 3, .int .i64 3, .int .i64 3, .int .i64 2, .int .i64 2, .int .i64 1, .int .i64 2, .int .i64 2, .int .i64 1, .int .i64 1, .int .i64 2, .int .i64 1] 3 (0, 0))
  simp only [World.size_alloc] at U1
  go_enter Tryd.func9, Tryd.ntmps9
  go_wp2
  generalize (((w.alloc (.cells #[.int .i64 12, .int .i64 x1, .int .i64 0, .int .i64 0, .int .u64 0] 24 (0, 0))).alloc (.cells #[.string ⟨#[]⟩, .string ⟨#[109, 97, 107, 101]⟩, .string ⟨#[103, 101, 116]⟩, .string ⟨#[115, 101, 116]⟩, .string ⟨#[114, 101, 97, 100]⟩, .string ⟨#[119, 114, 105, 116, 101]⟩, .string ⟨#[99, 108, 101, 97, 114]⟩, .string ⟨#[99, 111, 112, 121]⟩, .string ⟨#[115, 97, 109, 101]⟩, .string ⟨#[110, 105, 108]⟩, .string ⟨#[115, 104, 97, 112, 101]⟩, .string ⟨#[105, 100, 108, 101]⟩, .string ⟨#[102, 111, 114, 99, 101]⟩] 9 (0, 0))).alloc (.cells #[.int .i64 0, .int .i64 3, .int .i64 3, .int .i64 3, .int .i64 2, .int .i64 2, .int .i64 1, .int .i64 2, .int .i64 2, .int .i64 1, .int .i64 1, .int .i64 2, .int .i64 1] 3 (0, 0))) = W3 at *
  obtain ⟨B0, hB0⟩ : ∃ b, b = w.heap.size := ⟨_, rfl⟩
  obtain ⟨B1, hB1⟩ : ∃ b, b = w.heap.size + 1 := ⟨_, rfl⟩
  obtain ⟨B2, hB2⟩ : ∃ b, b = w.heap.size + 1 + 1 := ⟨_, rfl⟩
  rw [← hB2, ← hB1] at U1 ⊢
  simp only [← hB0] at U1 ⊢
  clear hB2 hB1 hB0
  have U2 := U1.drew'
  have hS : ∀ W, Upd [] [(B2, (.cells #[.int .i64 0, .int .i64 3, .int .i64 3, .int .i64 3, .int .i64 2, .int .i64 2, .int .i64 1, .int .i64 2, .int .i64 2, .int .i64 1, .int .i64 1, .int .i64 2, .int .i64 1] 3 (0, 0))), (B1, (.cells #[.string ⟨#[]⟩, .string ⟨#[109, 97, 107, 101]⟩, .string ⟨#[103, 101, 116]⟩, .string ⟨#[115, 101, 116]⟩, .string ⟨#[114, 101, 97, 100]⟩, .string ⟨#[119, 114, 105, 116, 101]⟩, .string ⟨#[99, 108, 101, 97, 114]⟩, .string ⟨#[99, 111, 112, 121]⟩, .string ⟨#[115, 97, 109, 101]⟩, .string ⟨#[110, 105, 108]⟩, .string ⟨#[115, 104, 97, 112, 101]⟩, .string ⟨#[105, 100, 108, 101]⟩, .string ⟨#[102, 111, 114, 99, 101]⟩] 9 (0, 0))), (B0, (.cells #[.int .i64 12, .int .i64 x1, .int .i64 0, .int .i64 0, .int .u64 0] 24 (0, 0)))] w W → (fun w' => w'.cell? ⟨B0, 0, none⟩ = some (.int .i64 12) ∧ w'.cell? ⟨B0, 1, none⟩ = some (.int .i64 x1) ∧ w'.cell? ⟨B1, 12, none⟩ = some (.string ⟨#[102, 111, 114, 99, 101]⟩)) W := fun W U => ⟨cell_of U.inn.tail.tail.head 0, cell_of U.inn.tail.tail.head 1, cell_of U.inn.tail.head 12⟩
  have HSS := Lib.hid hS
  have t2 := hS _ U2
  have HU2 := Lib.hid U2
  clear hS U1 U2
  go_region_held3 (fun w' => w'.cell? ⟨B0, 0, none⟩ = some (.int .i64 12) ∧ w'.cell? ⟨B0, 1, none⟩ = some (.int .i64 x1) ∧ w'.cell? ⟨B1, 12, none⟩ = some (.string ⟨#[102, 111, 114, 99, 101]⟩))
    (first | (with_reducible exact t2) | (with_reducible exact t4))
    (first | (go_at_call 17; refine Calls.mono (HD0.out _) ?_; rintro e w4 ⟨rfl, u4⟩; have U4 := HU2.out.under0 u4; have t4 := HSS.out _ U4; have HU4 := Lib.hid U4; clear U4))
  have U4 := HU4.out
  have e0 : w4.cell? ⟨B0, 0, none⟩ = some (.int .i64 12) := cell_of U4.inn.tail.tail.head 0
  have e2 : w4.cell? ⟨B0, 2, none⟩ = some (.int .i64 0) := cell_of U4.inn.tail.tail.head 2
  have e3 : w4.cell? ⟨B0, 3, none⟩ = some (.int .i64 0) := cell_of U4.inn.tail.tail.head 3
  have e4 : w4.cell? ⟨B0, 4, none⟩ = some (.int .u64 0) := cell_of U4.inn.tail.tail.head 4
  clear U4
  go_wp2_with fail
  go_ret2
  refine ⟨?_, HU4.out.forget (List.nil_sublist _)⟩
  refine congrArg (fun s => Ending.returned (.tuple #[.string s, .bool true])) ?_
  rw [← HS0.out]
  apply ByteArray.ext
  simp [wordsOf, join_cons, joinTail]
set_option maxRecDepth 100000 in
set_option maxHeartbeats 4000000 in
theorem law_line (x : EntS) (hx : x.Ok) (w : World) : Calls Tryd.prog 9 #[.agg (entCells x)] w fun e w' => e = .returned (lawV x) ∧ Upd [] [] w w' := by
  by_cases hk : 1 ≤ x.kind ∧ x.kind ≤ 12
  · obtain ⟨x0, x1, x2, x3, x4⟩ := x
    simp only at hk
    rcases (by omega : x0 = 1 ∨ x0 = 2 ∨ x0 = 3 ∨ x0 = 4 ∨ x0 = 5 ∨ x0 = 6 ∨ x0 = 7 ∨ x0 = 8 ∨ x0 = 9 ∨ x0 = 10 ∨ x0 = 11 ∨ x0 = 12) with rfl | rfl | rfl | rfl | rfl | rfl | rfl | rfl | rfl | rfl | rfl | rfl
    · exact law_line_1 x1 x2 x3 x4 hx w
    · exact law_line_2 x1 x2 x3 x4 hx w
    · exact law_line_3 x1 x2 x3 x4 hx w
    · exact law_line_4 x1 x2 x3 x4 hx w
    · exact law_line_5 x1 x2 x3 x4 hx w
    · exact law_line_6 x1 x2 x3 x4 hx w
    · exact law_line_7 x1 x2 x3 x4 hx w
    · exact law_line_8 x1 x2 x3 x4 hx w
    · exact law_line_9 x1 x2 x3 x4 hx w
    · exact law_line_10 x1 x2 x3 x4 hx w
    · exact law_line_11 x1 x2 x3 x4 hx w
    · exact law_line_12 x1 x2 x3 x4 hx w
  · have hl : lineOf x = none := by unfold lineOf formOf; rw [if_neg hk]
    rw [lawV_none hl]
    obtain ⟨x0, x1, x2, x3, x4⟩ := x
    simp only [entCells] at *
    have hU : Upd [] [] w _ := (((Upd.refl (In.nil w)).skip' (.cells #[.int .i64 x0, .int .i64 x1, .int .i64 x2, .int .i64 x3, .int .u64 (x4 : Int)] 24 (0, 0))).skip' (.cells #[.string ⟨#[]⟩, .string ⟨#[109, 97, 107, 101]⟩, .string ⟨#[103, 101, 116]⟩, .string ⟨#[115, 101, 116]⟩, .string ⟨#[114, 101, 97, 100]⟩, .string ⟨#[119, 114, 105, 116, 101]⟩, .string ⟨#[99, 108, 101, 97, 114]⟩, .string ⟨#[99, 111, 112, 121]⟩, .string ⟨#[115, 97, 109, 101]⟩, .string ⟨#[110, 105, 108]⟩, .string ⟨#[115, 104, 97, 112, 101]⟩, .string ⟨#[105, 100, 108, 101]⟩, .string ⟨#[102, 111, 114, 99, 101]⟩] 9 (0, 0))).skip' (.cells #[.int .i64 0, .int .i64 3, .int .i64 3, .int .i64 3, .int .i64 2, .int .i64 2, .int .i64 1, .int .i64 2, .int .i64 2, .int .i64 1, .int .i64 1, .int .i64 2, .int .i64 1] 3 (0, 0))
    clear hl
    go_enter Tryd.func9, Tryd.ntmps9
    by_cases h1 : x0 < 1
    · clear hk
      go_wp2
      go_ret2
      exact ⟨rfl, hU⟩
    · have h2 : 12 < x0 := by omega
      have h3 : ¬ x0 ≤ 12 := by omega
      clear hk
      go_wp2
      go_ret2
      exact ⟨rfl, hU⟩

end Go.Proofs.YtnmbehogiioonaaDoor
