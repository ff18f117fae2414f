/- The forms of entries' lines, in plain Lean and in memory. No condition. -/
import Derived.Test.YtnmbehogiioonaaDoorRows
import Derived.Test.YtnmbehogiioonaaDoorSlice
import Derived.BigQuiet
set_option linter.unusedVariables false
set_option linter.unusedSimpArgs false
namespace Go.Proofs.YtnmbehogiioonaaDoor
open Go.RowKit

structure FormS where
  word : List UInt8
  size : Nat
  scalar : Bool
deriving DecidableEq
def formsL : List FormS := [⟨[109, 97, 107, 101], 3, false⟩, ⟨[103, 101, 116], 3, false⟩, ⟨[115, 101, 116], 3, false⟩, ⟨[114, 101, 97, 100], 2, false⟩, ⟨[119, 114, 105, 116, 101], 2, true⟩, ⟨[99, 108, 101, 97, 114], 1, false⟩, ⟨[99, 111, 112, 121], 2, false⟩, ⟨[115, 97, 109, 101], 2, false⟩, ⟨[110, 105, 108], 1, false⟩, ⟨[115, 104, 97, 112, 101], 1, false⟩, ⟨[105, 100, 108, 101], 2, false⟩, ⟨[102, 111, 114, 99, 101], 1, false⟩]
def formCells (f : FormS) : List Value := [.string ⟨f.word.toArray⟩, .int .i64 f.size, .bool f.scalar]
def formsCells : List Value := (formsL.map formCells).flatten

set_option maxRecDepth 100000 in
set_option maxHeartbeats 4000000 in
theorem tale_forms (w : World) : Calls Tryd.prog 13 #[] w fun e w' => ∃ b, e = .returned (.slice (some ⟨b, 0, none⟩) 12 12) ∧ Upd [] [(b, .cells formsCells.toArray 45 (0, 0))] w w' := by
  have hz := Upd.alloc (In.nil w) (.cells formsCells.toArray 45 (0, 0))
  go_enter Tryd.func13, Tryd.ntmps13
  go_wp2
  go_ret
  exact ⟨_, rfl, hz⟩

end Go.Proofs.YtnmbehogiioonaaDoor
