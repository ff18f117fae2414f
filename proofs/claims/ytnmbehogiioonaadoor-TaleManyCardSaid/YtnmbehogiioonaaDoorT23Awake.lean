/- The law's fixed fact, and what the row's list gives. Condition: the library's variables are as its text lays them. -/
import Derived.Test.YtnmbehogiioonaaDoorT23LawLine
import Derived.Test.YtnmbehogiioonaaDoorT23All
import Derived.Test.YtnmbehogiioonaaDoorCards
import Derived.Test.YtnmbehogiioonaaDoorTie
import Derived.Lib.LaidTab
import Derived.Stop.LaidErr
import Derived.LaidMore
import Derived.Shelf.LaysM
set_option linter.unusedVariables false
set_option linter.unusedSimpArgs false
namespace Go.Proofs
open Go.Shelf Go.RowKit
shelf_lay LaysM.n146 Nm 146 at Tryd as Tryd.laysMSplit
end Go.Proofs
namespace Go.Proofs.YtnmbehogiioonaaDoor
open Go.RowKit Go.Shelf Go.Lib

def line0 : List UInt8 := [119, 114, 105, 116, 101, 32, 49, 32, 45, 52, 32, 49, 56, 52, 52, 54, 55, 52, 52, 48, 55, 51, 55, 48, 57, 53, 53, 49, 54, 49, 53]
theorem d0 : decDigits 18446744073709551615 = [49, 56, 52, 52, 54, 55, 52, 52, 48, 55, 51, 55, 48, 57, 53, 53, 49, 54, 49, 53] := by
  simp [decDigits]
theorem small_dec (n : Nat) (h : n < 10) : decDigits n = [UInt8.ofNat (48 + n)] := dec_small n h
theorem step0 : stepOf line0 = some ⟨5, 1, -4, 0, 18446744073709551615⟩ := by
  refine line_step ⟨?_, ?_, ?_, ?_, ?_⟩ ?_
  · exact ⟨by decide, by decide⟩
  · exact ⟨by decide, by decide⟩
  · exact ⟨by decide, by decide⟩
  · exact ⟨by decide, by decide⟩
  · decide
  · show (if fitsS ⟨5, 1, -4, 0, 18446744073709551615⟩ ⟨[119, 114, 105, 116, 101], 2, true⟩ then some (Lib.join (wordsOf ⟨5, 1, -4, 0, 18446744073709551615⟩ ⟨[119, 114, 105, 116, 101], 2, true⟩) [32]) else none) = _
    rw [if_pos (by decide)]
    simp [wordsOf, join_cons, joinTail, itoa, d0, small_dec, line0]
theorem line1 : lineOf ⟨1, 2, 1, 0, 0⟩ = some [109, 97, 107, 101, 32, 50, 32, 49, 32, 48] := by
  show (if fitsS ⟨1, 2, 1, 0, 0⟩ ⟨[109, 97, 107, 101], 3, false⟩ then some (Lib.join (wordsOf ⟨1, 2, 1, 0, 0⟩ ⟨[109, 97, 107, 101], 3, false⟩) [32]) else none) = _
  rw [if_pos (by decide)]
  simp [wordsOf, join_cons, joinTail, itoa, small_dec]
def text0 : List UInt8 := [110, 105, 108, 32, 51, 10, 102, 111, 114, 99, 101, 32, 49]
theorem step1 : stepOf [110, 105, 108, 32, 51] = some ⟨9, 3, 0, 0, 0⟩ := by
  refine line_step ⟨?_, ?_, ?_, ?_, ?_⟩ ?_
  · exact ⟨by decide, by decide⟩
  · exact ⟨by decide, by decide⟩
  · exact ⟨by decide, by decide⟩
  · exact ⟨by decide, by decide⟩
  · decide
  · show (if fitsS ⟨9, 3, 0, 0, 0⟩ ⟨[110, 105, 108], 1, false⟩ then some (Lib.join (wordsOf ⟨9, 3, 0, 0, 0⟩ ⟨[110, 105, 108], 1, false⟩) [32]) else none) = _
    rw [if_pos (by decide)]
    simp [wordsOf, join_cons, joinTail, itoa, small_dec]
theorem step2 : stepOf [102, 111, 114, 99, 101, 32, 49] = some ⟨12, 1, 0, 0, 0⟩ := by
  refine line_step ⟨?_, ?_, ?_, ?_, ?_⟩ ?_
  · exact ⟨by decide, by decide⟩
  · exact ⟨by decide, by decide⟩
  · exact ⟨by decide, by decide⟩
  · exact ⟨by decide, by decide⟩
  · decide
  · show (if fitsS ⟨12, 1, 0, 0, 0⟩ ⟨[102, 111, 114, 99, 101], 1, false⟩ then some (Lib.join (wordsOf ⟨12, 1, 0, 0, 0⟩ ⟨[102, 111, 114, 99, 101], 1, false⟩) [32]) else none) = _
    rw [if_pos (by decide)]
    simp [wordsOf, join_cons, joinTail, itoa, small_dec]
theorem read0 : readOf text0 = .ok [⟨9, 3, 0, 0, 0⟩, ⟨12, 1, 0, 0, 0⟩] := by
  have e : linesL text0 = [[110, 105, 108, 32, 51, 10], [102, 111, 114, 99, 101, 32, 49]] := by decide
  have e1 : trimNl [110, 105, 108, 32, 51, 10] = [110, 105, 108, 32, 51] := by decide
  have e2 : trimNl [102, 111, 114, 99, 101, 32, 49] = [102, 111, 114, 99, 101, 32, 49] := by decide
  unfold readOf
  rw [e]
  simp [rdGo, e1, e2, step1, step2]

set_option maxRecDepth 100000 in
set_option maxHeartbeats 4000000 in
theorem law_awake (w : World) (hL : Laid w) : Calls Tryd.prog 10 #[] w fun e w' => e = .returned (.bool true) ∧ Upd [] [] w w' := by
  have H0 := Lib.hid (fun W (h : Laid W) => tale_step line0 (by decide) W h)
  rw [stepV_some step0] at H0
  have H1 := Lib.hid (fun W (h : Laid W) => tale_line ⟨1, 2, 1, 0, 0⟩ ⟨⟨by decide, by decide⟩, ⟨by decide, by decide⟩, ⟨by decide, by decide⟩, ⟨by decide, by decide⟩, by decide⟩ W h.tab)
  rw [lineV_some line1] at H1
  have H2 := Lib.hid (fun W (h : Laid W) => tale_readAll text0 (by decide) W h)
  rw [read0] at H2
  simp only [line0, text0, entCells, RdRes.n, RdRes.e, RdRes.l] at H0 H1 H2
  have HL := Lib.hid hL
  have HU := Lib.hid (Upd.refl (In.nil w))
  go_enter Tryd.func10, Tryd.ntmps10
  go_wp2_with (first
    | (go_at_call 11; refine Calls.mono (H0.out _ HL.out) ?_; rintro e w1 ⟨rfl, u1⟩; have U1 := HU.out.trans u1; have V1 := U1.alloc' (.cells #[.int .i64 5, .int .i64 1, .int .i64 (-4), .int .i64 0, .int .u64 18446744073709551615] 24 (0, 0)); have HL1 := Lib.hid (HL.out.upd V1); have HU1 := Lib.hid V1; clear U1 V1)
    | (go_at_call 8; refine Calls.mono (H1.out _ HL1.out) ?_; rintro e w2 ⟨rfl, u2⟩; have U2 := HU1.out.under0 u2; have HL2 := Lib.hid (HL.out.upd U2); have HU2 := Lib.hid U2; clear U2)
    | (go_at_call 12; refine Calls.mono (H2.out _ HL2.out) ?_; rintro e w3 ⟨v, h, rfl, sl, u3⟩; obtain ⟨ao, cap, rfl, _⟩ := sl.shape; have U3 := HU2.out.more u3; have c0 : w3.cell? ⟨w1.heap.size, 2, none⟩ = some (.int .i64 (-4)) := cell_of U3.inn.right.head 2; have c1 : w3.cell? ⟨w1.heap.size, 4, none⟩ = some (.int .u64 18446744073709551615) := cell_of U3.inn.right.head 4; have HU3 := Lib.hid U3; clear U3))
  go_ret
  exact ⟨rfl, HU3.out.forget (List.nil_sublist _)⟩

end Go.Proofs.YtnmbehogiioonaaDoor
