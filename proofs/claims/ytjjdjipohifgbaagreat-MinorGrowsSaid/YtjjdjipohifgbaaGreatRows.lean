/-
  No cell of these rows narrows 'for every input' (looked for: loops, veiled, ifaces, maps, wideKeys, modest, calm, conditions, laid).
  DERIVED. THE GIVEN ROWS OF THIS SEAT. 6 by the template 'for every input the law returns true; each argument reads behind the call as it read before'; 0 by the template 'total and deterministic' (their statements: YtjjdjipohifgbaaGreatTotals.lean).
  GIVEN WITH THE SEED: the statements are not yours to turn. If you find one false, say at which input.
  Laid BY PROGRAM, IN A SANDBOX (cutbox-rows.mjs): the forced cells as the released guide's own fill.sh prints them over the translation 73a6aa29f003bb72… (all of the seat's roots in one cut). By AI agents, Wed Nov 11 2026. No macro, syntax, notation, axiom, sorry.
-/
import Derived.Test.YtjjdjipohifgbaaGreatChecked
import GoSem.Claim
import GoSem.ClaimJoined
import GoSem.ClaimMapViews
import Derived.JoinedTies
import Derived.KernelRfl
namespace Go.Proofs.YtjjdjipohifgbaaGreat
/- THE CELL 'sum', in the pinned program and in every row, IS THE sha256 OF THE DUMP (.gsa) THAT YtjjdjipohifgbaaGreatProg.lean LOADS. Nothing in Lean hashes anything: it is a label: what it is worth is what the hold of that sum in a sandbox is worth. -/
noncomputable def Tryz.pinned : Pinned := { name := "ytjjdjipohifgbaagreat", sum := "73a6aa29f003bb72c9bdcf6015407132b2a4ea5dadef42ade745ccefcff14969", checked := Tryz.checked }
namespace Rows
def none {H : Type} : Left H := { results := [], args := [] }

/-- 'tilthlaw14.MinorFrees': WHATEVER THE INPUT: true; the input reads as it did. -/
def minorFreesSpec : ChangeSpec := { name := "minorFrees", fn := fun _ => fun
  | [d1, d2, d3, d4, d5, d6] => { results := [.lit (.bool true)], args := [d1, d2, d3, d4, d5, d6] }
  | _ => none }
def minorFreesRow : OpenClaim := { program := "ytjjdjipohifgbaagreat", sum := "73a6aa29f003bb72c9bdcf6015407132b2a4ea5dadef42ade745ccefcff14969", func := "tilth/tilthlaw14.MinorFrees", spec := "minorFrees", unfollowed := true, recurses := true, apart := false }
def MinorFreesSaid : Prop := minorFreesRow.holds Tryz.pinned (OpenSpec.ofChange minorFreesSpec)

/-- ITS FALSE NEIGHBOUR: 'it returns false'. Refute it at one input. -/
def minorFreesWrong : ChangeSpec := { name := "minorFrees", fn := fun _ => fun
  | [d1, d2, d3, d4, d5, d6] => { results := [.lit (.bool false)], args := [d1, d2, d3, d4, d5, d6] }
  | _ => none }
def MinorFreesWrongFalsely : Prop := minorFreesRow.holds Tryz.pinned (OpenSpec.ofChange minorFreesWrong)

/-- 'tilthlaw14.MinorKeeps': WHATEVER THE INPUT: true; the input reads as it did. -/
def minorKeepsSpec : ChangeSpec := { name := "minorKeeps", fn := fun _ => fun
  | [d1, d2, d3, d4, d5] => { results := [.lit (.bool true)], args := [d1, d2, d3, d4, d5] }
  | _ => none }
def minorKeepsRow : OpenClaim := { program := "ytjjdjipohifgbaagreat", sum := "73a6aa29f003bb72c9bdcf6015407132b2a4ea5dadef42ade745ccefcff14969", func := "tilth/tilthlaw14.MinorKeeps", spec := "minorKeeps", unfollowed := true, recurses := true, apart := false }
def MinorKeepsSaid : Prop := minorKeepsRow.holds Tryz.pinned (OpenSpec.ofChange minorKeepsSpec)

/-- ITS FALSE NEIGHBOUR: 'it returns false'. Refute it at one input. -/
def minorKeepsWrong : ChangeSpec := { name := "minorKeeps", fn := fun _ => fun
  | [d1, d2, d3, d4, d5] => { results := [.lit (.bool false)], args := [d1, d2, d3, d4, d5] }
  | _ => none }
def MinorKeepsWrongFalsely : Prop := minorKeepsRow.holds Tryz.pinned (OpenSpec.ofChange minorKeepsWrong)

/-- 'tilthlaw14.MinorEnds': WHATEVER THE INPUT: true; the input reads as it did. -/
def minorEndsSpec : ChangeSpec := { name := "minorEnds", fn := fun _ => fun
  | [d1, d2, d3, d4, d5] => { results := [.lit (.bool true)], args := [d1, d2, d3, d4, d5] }
  | _ => none }
def minorEndsRow : OpenClaim := { program := "ytjjdjipohifgbaagreat", sum := "73a6aa29f003bb72c9bdcf6015407132b2a4ea5dadef42ade745ccefcff14969", func := "tilth/tilthlaw14.MinorEnds", spec := "minorEnds", unfollowed := true, recurses := true, apart := false }
def MinorEndsSaid : Prop := minorEndsRow.holds Tryz.pinned (OpenSpec.ofChange minorEndsSpec)

/-- ITS FALSE NEIGHBOUR: 'it returns false'. Refute it at one input. -/
def minorEndsWrong : ChangeSpec := { name := "minorEnds", fn := fun _ => fun
  | [d1, d2, d3, d4, d5] => { results := [.lit (.bool false)], args := [d1, d2, d3, d4, d5] }
  | _ => none }
def MinorEndsWrongFalsely : Prop := minorEndsRow.holds Tryz.pinned (OpenSpec.ofChange minorEndsWrong)

/-- 'tilthlaw14.MinorHandles': WHATEVER THE INPUT: true; the input reads as it did. -/
def minorHandlesSpec : ChangeSpec := { name := "minorHandles", fn := fun _ => fun
  | [d1, d2, d3, d4, d5] => { results := [.lit (.bool true)], args := [d1, d2, d3, d4, d5] }
  | _ => none }
def minorHandlesRow : OpenClaim := { program := "ytjjdjipohifgbaagreat", sum := "73a6aa29f003bb72c9bdcf6015407132b2a4ea5dadef42ade745ccefcff14969", func := "tilth/tilthlaw14.MinorHandles", spec := "minorHandles", unfollowed := true, recurses := true, apart := false }
def MinorHandlesSaid : Prop := minorHandlesRow.holds Tryz.pinned (OpenSpec.ofChange minorHandlesSpec)

/-- ITS FALSE NEIGHBOUR: 'it returns false'. Refute it at one input. -/
def minorHandlesWrong : ChangeSpec := { name := "minorHandles", fn := fun _ => fun
  | [d1, d2, d3, d4, d5] => { results := [.lit (.bool false)], args := [d1, d2, d3, d4, d5] }
  | _ => none }
def MinorHandlesWrongFalsely : Prop := minorHandlesRow.holds Tryz.pinned (OpenSpec.ofChange minorHandlesWrong)

/-- 'tilthlaw14.MinorGrows': WHATEVER THE INPUT: true; the input reads as it did. -/
def minorGrowsSpec : ChangeSpec := { name := "minorGrows", fn := fun _ => fun
  | [d1, d2, d3, d4, d5] => { results := [.lit (.bool true)], args := [d1, d2, d3, d4, d5] }
  | _ => none }
def minorGrowsRow : OpenClaim := { program := "ytjjdjipohifgbaagreat", sum := "73a6aa29f003bb72c9bdcf6015407132b2a4ea5dadef42ade745ccefcff14969", func := "tilth/tilthlaw14.MinorGrows", spec := "minorGrows", unfollowed := true, recurses := true, apart := false }
def MinorGrowsSaid : Prop := minorGrowsRow.holds Tryz.pinned (OpenSpec.ofChange minorGrowsSpec)

/-- ITS FALSE NEIGHBOUR: 'it returns false'. Refute it at one input. -/
def minorGrowsWrong : ChangeSpec := { name := "minorGrows", fn := fun _ => fun
  | [d1, d2, d3, d4, d5] => { results := [.lit (.bool false)], args := [d1, d2, d3, d4, d5] }
  | _ => none }
def MinorGrowsWrongFalsely : Prop := minorGrowsRow.holds Tryz.pinned (OpenSpec.ofChange minorGrowsWrong)

/-- 'tilthlaw14.MinorRuns': WHATEVER THE INPUT: true; the input reads as it did. -/
def minorRunsSpec : ChangeSpec := { name := "minorRuns", fn := fun _ => fun
  | [d1, d2, d3, d4, d5, d6] => { results := [.lit (.bool true)], args := [d1, d2, d3, d4, d5, d6] }
  | _ => none }
def minorRunsRow : OpenClaim := { program := "ytjjdjipohifgbaagreat", sum := "73a6aa29f003bb72c9bdcf6015407132b2a4ea5dadef42ade745ccefcff14969", func := "tilth/tilthlaw14.MinorRuns", spec := "minorRuns", unfollowed := true, recurses := true, apart := false }
def MinorRunsSaid : Prop := minorRunsRow.holds Tryz.pinned (OpenSpec.ofChange minorRunsSpec)

/-- ITS FALSE NEIGHBOUR: 'it returns false'. Refute it at one input. -/
def minorRunsWrong : ChangeSpec := { name := "minorRuns", fn := fun _ => fun
  | [d1, d2, d3, d4, d5, d6] => { results := [.lit (.bool false)], args := [d1, d2, d3, d4, d5, d6] }
  | _ => none }
def MinorRunsWrongFalsely : Prop := minorRunsRow.holds Tryz.pinned (OpenSpec.ofChange minorRunsWrong)

/- THE SECOND FORM. 'bulk': how many values and letters a reading holds, each counted each time it is reached (what is shared counts as often as it is met; a slice's spare places count too). A statement '..UptoSaid' is the law's where the arguments, and the package variables that the reading takes, are together of bulk at most 1048576: NARROWER than '..Said'. Prove '..Said' where nothing that the law and all that it calls make is longer than what came in: it says more and counts as full. Else prove '..UptoSaid'. A law counts once. -/
mutual
def uptoBulk {H : Type} : DataW H → Nat
  | .lit (.string bytes) => bytes.length + 1
  | .lit _ => 1
  | .nil => 1
  | .ptr d => uptoBulk d + 1
  | .slice elems spare => uptoBulkAll elems + uptoBulkAll spare + 1
  | .agg parts => uptoBulkAll parts + 1
  | .iface _ d => uptoBulk d + 1
  | .map entries => uptoBulkEntries entries + 1
  | .held _ => 1
def uptoBulkAll {H : Type} : List (DataW H) → Nat
  | [] => 0
  | d :: r => uptoBulk d + uptoBulkAll r
def uptoBulkEntries {H : Type} : List (Lit × DataW H) → Nat
  | [] => 0
  | x :: r => uptoBulkEntry x + uptoBulkEntries r
def uptoBulkEntry {H : Type} : Lit × DataW H → Nat
  | (.string bytes, d) => bytes.length + uptoBulk d + 1
  | (_, d) => uptoBulk d + 1
 end
def uptoSmall : (H : Type) → List (DataW H) → Bool := fun _ ds => decide (uptoBulkAll ds ≤ 1048576)
def OpenSpec.upto (s : _root_.Go.ChangeSpec) : _root_.Go.OpenSpec := { _root_.Go.OpenSpec.ofChange s with cond := some uptoSmall }

/-- 'tilthlaw14.MinorFrees', WHERE WHAT IT READS IS OF BULK AT MOST 1048576: true; the input reads as it did. -/
def minorFreesUptoRow : OpenClaim := { program := "ytjjdjipohifgbaagreat", sum := "73a6aa29f003bb72c9bdcf6015407132b2a4ea5dadef42ade745ccefcff14969", func := "tilth/tilthlaw14.MinorFrees", spec := "minorFrees", unfollowed := true, recurses := true, apart := false, narrowed := true }
def MinorFreesUptoSaid : Prop := minorFreesUptoRow.holds Tryz.pinned (OpenSpec.upto minorFreesSpec)

/-- 'tilthlaw14.MinorKeeps', WHERE WHAT IT READS IS OF BULK AT MOST 1048576: true; the input reads as it did. -/
def minorKeepsUptoRow : OpenClaim := { program := "ytjjdjipohifgbaagreat", sum := "73a6aa29f003bb72c9bdcf6015407132b2a4ea5dadef42ade745ccefcff14969", func := "tilth/tilthlaw14.MinorKeeps", spec := "minorKeeps", unfollowed := true, recurses := true, apart := false, narrowed := true }
def MinorKeepsUptoSaid : Prop := minorKeepsUptoRow.holds Tryz.pinned (OpenSpec.upto minorKeepsSpec)

/-- 'tilthlaw14.MinorEnds', WHERE WHAT IT READS IS OF BULK AT MOST 1048576: true; the input reads as it did. -/
def minorEndsUptoRow : OpenClaim := { program := "ytjjdjipohifgbaagreat", sum := "73a6aa29f003bb72c9bdcf6015407132b2a4ea5dadef42ade745ccefcff14969", func := "tilth/tilthlaw14.MinorEnds", spec := "minorEnds", unfollowed := true, recurses := true, apart := false, narrowed := true }
def MinorEndsUptoSaid : Prop := minorEndsUptoRow.holds Tryz.pinned (OpenSpec.upto minorEndsSpec)

/-- 'tilthlaw14.MinorHandles', WHERE WHAT IT READS IS OF BULK AT MOST 1048576: true; the input reads as it did. -/
def minorHandlesUptoRow : OpenClaim := { program := "ytjjdjipohifgbaagreat", sum := "73a6aa29f003bb72c9bdcf6015407132b2a4ea5dadef42ade745ccefcff14969", func := "tilth/tilthlaw14.MinorHandles", spec := "minorHandles", unfollowed := true, recurses := true, apart := false, narrowed := true }
def MinorHandlesUptoSaid : Prop := minorHandlesUptoRow.holds Tryz.pinned (OpenSpec.upto minorHandlesSpec)

/-- 'tilthlaw14.MinorGrows', WHERE WHAT IT READS IS OF BULK AT MOST 1048576: true; the input reads as it did. -/
def minorGrowsUptoRow : OpenClaim := { program := "ytjjdjipohifgbaagreat", sum := "73a6aa29f003bb72c9bdcf6015407132b2a4ea5dadef42ade745ccefcff14969", func := "tilth/tilthlaw14.MinorGrows", spec := "minorGrows", unfollowed := true, recurses := true, apart := false, narrowed := true }
def MinorGrowsUptoSaid : Prop := minorGrowsUptoRow.holds Tryz.pinned (OpenSpec.upto minorGrowsSpec)

/-- 'tilthlaw14.MinorRuns', WHERE WHAT IT READS IS OF BULK AT MOST 1048576: true; the input reads as it did. -/
def minorRunsUptoRow : OpenClaim := { program := "ytjjdjipohifgbaagreat", sum := "73a6aa29f003bb72c9bdcf6015407132b2a4ea5dadef42ade745ccefcff14969", func := "tilth/tilthlaw14.MinorRuns", spec := "minorRuns", unfollowed := true, recurses := true, apart := false, narrowed := true }
def MinorRunsUptoSaid : Prop := minorRunsUptoRow.holds Tryz.pinned (OpenSpec.upto minorRunsSpec)

end Rows
end Go.Proofs.YtjjdjipohifgbaaGreat
