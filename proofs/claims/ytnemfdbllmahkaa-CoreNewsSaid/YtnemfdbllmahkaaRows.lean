/-
  No cell of these rows narrows 'for every input' (looked for: loops, veiled, ifaces, maps, wideKeys, modest, calm, conditions, laid).
  DERIVED. THE GIVEN ROWS OF THIS SEAT. 5 by the template 'for every input the law returns true; each argument reads behind the call as it read before'; 0 by the template 'total and deterministic' (their statements: YtnemfdbllmahkaaTotals.lean).
  GIVEN WITH THE SEED: the statements are not yours to turn. If you find one false, say at which input.
  Laid BY PROGRAM, IN A SANDBOX (cutbox-rows.mjs): the forced cells as the released guide's own fill.sh prints them over the translation 349b17ddf970d582… (all of the seat's roots in one cut). By AI agents, Wed Nov 11 2026. No macro, syntax, notation, axiom, sorry.
-/
import Derived.Test.YtnemfdbllmahkaaChecked
import GoSem.Claim
import GoSem.ClaimJoined
import GoSem.ClaimMapViews
import Derived.JoinedTies
import Derived.KernelRfl
namespace Go.Proofs.Ytnemfdbllmahkaa
/- THE CELL 'sum', in the pinned program and in every row, IS THE sha256 OF THE DUMP (.gsa) THAT YtnemfdbllmahkaaProg.lean LOADS. Nothing in Lean hashes anything: it is a label: what it is worth is what the hold of that sum in a sandbox is worth. -/
noncomputable def Try.pinned : Pinned := { name := "ytnemfdbllmahkaa", sum := "349b17ddf970d582d220a342ea26c56bb1d731192fdddd32e82c6dceb5d9fb3a", checked := Try.checked }
namespace Rows
def none {H : Type} : Left H := { results := [], args := [] }

/-- 'tilthlaw13.CoreFields': WHATEVER THE INPUT: true; the input reads as it did. -/
def coreFieldsSpec : ChangeSpec := { name := "coreFields", fn := fun _ => fun
  | [d1, d2, d3, d4, d5, d6, d7] => { results := [.lit (.bool true)], args := [d1, d2, d3, d4, d5, d6, d7] }
  | _ => none }
def coreFieldsRow : OpenClaim := { program := "ytnemfdbllmahkaa", sum := "349b17ddf970d582d220a342ea26c56bb1d731192fdddd32e82c6dceb5d9fb3a", func := "tilth/tilthlaw13.CoreFields", spec := "coreFields", unfollowed := true, recurses := true, apart := false }
def CoreFieldsSaid : Prop := coreFieldsRow.holds Try.pinned (OpenSpec.ofChange coreFieldsSpec)

/-- ITS FALSE NEIGHBOUR: 'it returns false'. Refute it at one input. -/
def coreFieldsWrong : ChangeSpec := { name := "coreFields", fn := fun _ => fun
  | [d1, d2, d3, d4, d5, d6, d7] => { results := [.lit (.bool false)], args := [d1, d2, d3, d4, d5, d6, d7] }
  | _ => none }
def CoreFieldsWrongFalsely : Prop := coreFieldsRow.holds Try.pinned (OpenSpec.ofChange coreFieldsWrong)

/-- 'tilthlaw13.CoreNone': WHATEVER THE INPUT: true; the input reads as it did. -/
def coreNoneSpec : ChangeSpec := { name := "coreNone", fn := fun _ => fun
  | [d1, d2] => { results := [.lit (.bool true)], args := [d1, d2] }
  | _ => none }
def coreNoneRow : OpenClaim := { program := "ytnemfdbllmahkaa", sum := "349b17ddf970d582d220a342ea26c56bb1d731192fdddd32e82c6dceb5d9fb3a", func := "tilth/tilthlaw13.CoreNone", spec := "coreNone", unfollowed := true, recurses := true, apart := false }
def CoreNoneSaid : Prop := coreNoneRow.holds Try.pinned (OpenSpec.ofChange coreNoneSpec)

/-- ITS FALSE NEIGHBOUR: 'it returns false'. Refute it at one input. -/
def coreNoneWrong : ChangeSpec := { name := "coreNone", fn := fun _ => fun
  | [d1, d2] => { results := [.lit (.bool false)], args := [d1, d2] }
  | _ => none }
def CoreNoneWrongFalsely : Prop := coreNoneRow.holds Try.pinned (OpenSpec.ofChange coreNoneWrong)

/-- 'tilthlaw13.CoreFresh': WHATEVER THE INPUT: true; the input reads as it did. -/
def coreFreshSpec : ChangeSpec := { name := "coreFresh", fn := fun _ => fun
  | [d1, d2, d3, d4, d5, d6, d7] => { results := [.lit (.bool true)], args := [d1, d2, d3, d4, d5, d6, d7] }
  | _ => none }
def coreFreshRow : OpenClaim := { program := "ytnemfdbllmahkaa", sum := "349b17ddf970d582d220a342ea26c56bb1d731192fdddd32e82c6dceb5d9fb3a", func := "tilth/tilthlaw13.CoreFresh", spec := "coreFresh", unfollowed := true, recurses := true, apart := false }
def CoreFreshSaid : Prop := coreFreshRow.holds Try.pinned (OpenSpec.ofChange coreFreshSpec)

/-- ITS FALSE NEIGHBOUR: 'it returns false'. Refute it at one input. -/
def coreFreshWrong : ChangeSpec := { name := "coreFresh", fn := fun _ => fun
  | [d1, d2, d3, d4, d5, d6, d7] => { results := [.lit (.bool false)], args := [d1, d2, d3, d4, d5, d6, d7] }
  | _ => none }
def CoreFreshWrongFalsely : Prop := coreFreshRow.holds Try.pinned (OpenSpec.ofChange coreFreshWrong)

/-- 'tilthlaw13.CoreCopies': WHATEVER THE INPUT: true; the input reads as it did. -/
def coreCopiesSpec : ChangeSpec := { name := "coreCopies", fn := fun _ => fun
  | [d1, d2, d3, d4, d5] => { results := [.lit (.bool true)], args := [d1, d2, d3, d4, d5] }
  | _ => none }
def coreCopiesRow : OpenClaim := { program := "ytnemfdbllmahkaa", sum := "349b17ddf970d582d220a342ea26c56bb1d731192fdddd32e82c6dceb5d9fb3a", func := "tilth/tilthlaw13.CoreCopies", spec := "coreCopies", unfollowed := true, recurses := true, apart := false }
def CoreCopiesSaid : Prop := coreCopiesRow.holds Try.pinned (OpenSpec.ofChange coreCopiesSpec)

/-- ITS FALSE NEIGHBOUR: 'it returns false'. Refute it at one input. -/
def coreCopiesWrong : ChangeSpec := { name := "coreCopies", fn := fun _ => fun
  | [d1, d2, d3, d4, d5] => { results := [.lit (.bool false)], args := [d1, d2, d3, d4, d5] }
  | _ => none }
def CoreCopiesWrongFalsely : Prop := coreCopiesRow.holds Try.pinned (OpenSpec.ofChange coreCopiesWrong)

/-- 'tilthlaw13.CoreNews': WHATEVER THE INPUT: true; the input reads as it did. -/
def coreNewsSpec : ChangeSpec := { name := "coreNews", fn := fun _ => fun
  | [d] => { results := [.lit (.bool true)], args := [d] }
  | _ => none }
def coreNewsRow : OpenClaim := { program := "ytnemfdbllmahkaa", sum := "349b17ddf970d582d220a342ea26c56bb1d731192fdddd32e82c6dceb5d9fb3a", func := "tilth/tilthlaw13.CoreNews", spec := "coreNews", unfollowed := true, recurses := true, apart := false }
def CoreNewsSaid : Prop := coreNewsRow.holds Try.pinned (OpenSpec.ofChange coreNewsSpec)

/-- ITS FALSE NEIGHBOUR: 'it returns false'. Refute it at one input. -/
def coreNewsWrong : ChangeSpec := { name := "coreNews", fn := fun _ => fun
  | [d] => { results := [.lit (.bool false)], args := [d] }
  | _ => none }
def CoreNewsWrongFalsely : Prop := coreNewsRow.holds Try.pinned (OpenSpec.ofChange coreNewsWrong)

/- THE SECOND FORM. 'bulk': how many values and letters a reading holds, each counted each time it is reached (what is shared counts as often as it is met; a slice's spare places count too). A statement '..UptoSaid' is the law's where the arguments, and the package variables that the reading takes, are together of bulk at most 1048576: NARROWER than '..Said'. Prove '..Said' where nothing that the law and all that it calls make is longer than what came in: it says more and counts as full. Else prove '..UptoSaid'. A law counts once. -/
mutual
def uptoBulk {H : Type} : DataW H → Nat
  | .lit (.string bytes) => bytes.length + 1
  | .lit _ => 1
  | .nil => 1
  | .ptr d => uptoBulk d + 1
  | .slice elems spare => uptoBulkAll elems + uptoBulkAll spare + 1
  | .agg parts => uptoBulkAll parts + 1
  | .iface _ d => uptoBulk d + 1
  | .map entries => uptoBulkEntries entries + 1
  | .held _ => 1
def uptoBulkAll {H : Type} : List (DataW H) → Nat
  | [] => 0
  | d :: r => uptoBulk d + uptoBulkAll r
def uptoBulkEntries {H : Type} : List (Lit × DataW H) → Nat
  | [] => 0
  | x :: r => uptoBulkEntry x + uptoBulkEntries r
def uptoBulkEntry {H : Type} : Lit × DataW H → Nat
  | (.string bytes, d) => bytes.length + uptoBulk d + 1
  | (_, d) => uptoBulk d + 1
 end
def uptoSmall : (H : Type) → List (DataW H) → Bool := fun _ ds => decide (uptoBulkAll ds ≤ 1048576)
def OpenSpec.upto (s : _root_.Go.ChangeSpec) : _root_.Go.OpenSpec := { _root_.Go.OpenSpec.ofChange s with cond := some uptoSmall }

/-- 'tilthlaw13.CoreFields', WHERE WHAT IT READS IS OF BULK AT MOST 1048576: true; the input reads as it did. -/
def coreFieldsUptoRow : OpenClaim := { program := "ytnemfdbllmahkaa", sum := "349b17ddf970d582d220a342ea26c56bb1d731192fdddd32e82c6dceb5d9fb3a", func := "tilth/tilthlaw13.CoreFields", spec := "coreFields", unfollowed := true, recurses := true, apart := false, narrowed := true }
def CoreFieldsUptoSaid : Prop := coreFieldsUptoRow.holds Try.pinned (OpenSpec.upto coreFieldsSpec)

/-- 'tilthlaw13.CoreNone', WHERE WHAT IT READS IS OF BULK AT MOST 1048576: true; the input reads as it did. -/
def coreNoneUptoRow : OpenClaim := { program := "ytnemfdbllmahkaa", sum := "349b17ddf970d582d220a342ea26c56bb1d731192fdddd32e82c6dceb5d9fb3a", func := "tilth/tilthlaw13.CoreNone", spec := "coreNone", unfollowed := true, recurses := true, apart := false, narrowed := true }
def CoreNoneUptoSaid : Prop := coreNoneUptoRow.holds Try.pinned (OpenSpec.upto coreNoneSpec)

/-- 'tilthlaw13.CoreFresh', WHERE WHAT IT READS IS OF BULK AT MOST 1048576: true; the input reads as it did. -/
def coreFreshUptoRow : OpenClaim := { program := "ytnemfdbllmahkaa", sum := "349b17ddf970d582d220a342ea26c56bb1d731192fdddd32e82c6dceb5d9fb3a", func := "tilth/tilthlaw13.CoreFresh", spec := "coreFresh", unfollowed := true, recurses := true, apart := false, narrowed := true }
def CoreFreshUptoSaid : Prop := coreFreshUptoRow.holds Try.pinned (OpenSpec.upto coreFreshSpec)

/-- 'tilthlaw13.CoreCopies', WHERE WHAT IT READS IS OF BULK AT MOST 1048576: true; the input reads as it did. -/
def coreCopiesUptoRow : OpenClaim := { program := "ytnemfdbllmahkaa", sum := "349b17ddf970d582d220a342ea26c56bb1d731192fdddd32e82c6dceb5d9fb3a", func := "tilth/tilthlaw13.CoreCopies", spec := "coreCopies", unfollowed := true, recurses := true, apart := false, narrowed := true }
def CoreCopiesUptoSaid : Prop := coreCopiesUptoRow.holds Try.pinned (OpenSpec.upto coreCopiesSpec)

/-- 'tilthlaw13.CoreNews', WHERE WHAT IT READS IS OF BULK AT MOST 1048576: true; the input reads as it did. -/
def coreNewsUptoRow : OpenClaim := { program := "ytnemfdbllmahkaa", sum := "349b17ddf970d582d220a342ea26c56bb1d731192fdddd32e82c6dceb5d9fb3a", func := "tilth/tilthlaw13.CoreNews", spec := "coreNews", unfollowed := true, recurses := true, apart := false, narrowed := true }
def CoreNewsUptoSaid : Prop := coreNewsUptoRow.holds Try.pinned (OpenSpec.upto coreNewsSpec)

end Rows
end Go.Proofs.Ytnemfdbllmahkaa
