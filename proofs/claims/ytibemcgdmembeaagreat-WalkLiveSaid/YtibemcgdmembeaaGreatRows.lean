/-
  No cell of these rows narrows 'for every input' (looked for: loops, veiled, ifaces, maps, wideKeys, modest, calm, conditions, laid).
  DERIVED. THE GIVEN ROWS OF THIS SEAT. 12 by the template 'for every input the law returns true; each argument reads behind the call as it read before'; 0 by the template 'total and deterministic' (their statements: YtibemcgdmembeaaGreatTotals.lean).
  GIVEN WITH THE SEED: the statements are not yours to turn. If you find one false, say at which input.
  Laid BY PROGRAM, IN A SANDBOX (cutbox-rows.mjs): the forced cells as the released guide's own fill.sh prints them over the translation 8fdbfb31e759aa76… (all of the seat's roots in one cut). By AI agents, Wed Nov 11 2026. No macro, syntax, notation, axiom, sorry.
-/
import Derived.Test.YtibemcgdmembeaaGreatChecked
import GoSem.Claim
import GoSem.ClaimJoined
import GoSem.ClaimMapViews
import Derived.JoinedTies
import Derived.KernelRfl
namespace Go.Proofs.YtibemcgdmembeaaGreat
/- THE CELL 'sum', in the pinned program and in every row, IS THE sha256 OF THE DUMP (.gsa) THAT YtibemcgdmembeaaGreatProg.lean LOADS. Nothing in Lean hashes anything: it is a label: what it is worth is what the hold of that sum in a sandbox is worth. -/
noncomputable def Tryz.pinned : Pinned := { name := "ytibemcgdmembeaagreat", sum := "8fdbfb31e759aa76b686c34f555e647994fc3da93fcc37efb019b8072f090a37", checked := Tryz.checked }
namespace Rows
def none {H : Type} : Left H := { results := [], args := [] }

/-- 'tilthtop.WholeAnswers': WHATEVER THE INPUT: true; the input reads as it did. -/
def wholeAnswersSpec : ChangeSpec := { name := "wholeAnswers", fn := fun _ => fun
  | [d1, d2] => { results := [.lit (.bool true)], args := [d1, d2] }
  | _ => none }
def wholeAnswersRow : OpenClaim := { program := "ytibemcgdmembeaagreat", sum := "8fdbfb31e759aa76b686c34f555e647994fc3da93fcc37efb019b8072f090a37", func := "tilth/tilthtop.WholeAnswers", spec := "wholeAnswers", unfollowed := true, recurses := true, apart := false }
def WholeAnswersSaid : Prop := wholeAnswersRow.holds Tryz.pinned (OpenSpec.ofChange wholeAnswersSpec)

/-- ITS FALSE NEIGHBOUR: 'it returns false'. Refute it at one input. -/
def wholeAnswersWrong : ChangeSpec := { name := "wholeAnswers", fn := fun _ => fun
  | [d1, d2] => { results := [.lit (.bool false)], args := [d1, d2] }
  | _ => none }
def WholeAnswersWrongFalsely : Prop := wholeAnswersRow.holds Tryz.pinned (OpenSpec.ofChange wholeAnswersWrong)

/-- 'tilthtop.WholePause': WHATEVER THE INPUT: true; the input reads as it did. -/
def wholePauseSpec : ChangeSpec := { name := "wholePause", fn := fun _ => fun
  | [d1, d2, d3, d4, d5, d6, d7] => { results := [.lit (.bool true)], args := [d1, d2, d3, d4, d5, d6, d7] }
  | _ => none }
def wholePauseRow : OpenClaim := { program := "ytibemcgdmembeaagreat", sum := "8fdbfb31e759aa76b686c34f555e647994fc3da93fcc37efb019b8072f090a37", func := "tilth/tilthtop.WholePause", spec := "wholePause", unfollowed := true, recurses := true, apart := false }
def WholePauseSaid : Prop := wholePauseRow.holds Tryz.pinned (OpenSpec.ofChange wholePauseSpec)

/-- ITS FALSE NEIGHBOUR: 'it returns false'. Refute it at one input. -/
def wholePauseWrong : ChangeSpec := { name := "wholePause", fn := fun _ => fun
  | [d1, d2, d3, d4, d5, d6, d7] => { results := [.lit (.bool false)], args := [d1, d2, d3, d4, d5, d6, d7] }
  | _ => none }
def WholePauseWrongFalsely : Prop := wholePauseRow.holds Tryz.pinned (OpenSpec.ofChange wholePauseWrong)

/-- 'tilthtop.WholeRoom': WHATEVER THE INPUT: true; the input reads as it did. -/
def wholeRoomSpec : ChangeSpec := { name := "wholeRoom", fn := fun _ => fun
  | [d1, d2, d3, d4, d5] => { results := [.lit (.bool true)], args := [d1, d2, d3, d4, d5] }
  | _ => none }
def wholeRoomRow : OpenClaim := { program := "ytibemcgdmembeaagreat", sum := "8fdbfb31e759aa76b686c34f555e647994fc3da93fcc37efb019b8072f090a37", func := "tilth/tilthtop.WholeRoom", spec := "wholeRoom", unfollowed := true, recurses := true, apart := false }
def WholeRoomSaid : Prop := wholeRoomRow.holds Tryz.pinned (OpenSpec.ofChange wholeRoomSpec)

/-- ITS FALSE NEIGHBOUR: 'it returns false'. Refute it at one input. -/
def wholeRoomWrong : ChangeSpec := { name := "wholeRoom", fn := fun _ => fun
  | [d1, d2, d3, d4, d5] => { results := [.lit (.bool false)], args := [d1, d2, d3, d4, d5] }
  | _ => none }
def WholeRoomWrongFalsely : Prop := wholeRoomRow.holds Tryz.pinned (OpenSpec.ofChange wholeRoomWrong)

/-- 'tilthlaw21.CalmEnds': WHATEVER THE INPUT: true; the input reads as it did. -/
def calmEndsSpec : ChangeSpec := { name := "calmEnds", fn := fun _ => fun
  | [d1, d2, d3, d4, d5] => { results := [.lit (.bool true)], args := [d1, d2, d3, d4, d5] }
  | _ => none }
def calmEndsRow : OpenClaim := { program := "ytibemcgdmembeaagreat", sum := "8fdbfb31e759aa76b686c34f555e647994fc3da93fcc37efb019b8072f090a37", func := "tilth/tilthlaw21.CalmEnds", spec := "calmEnds", unfollowed := true, recurses := true, apart := false }
def CalmEndsSaid : Prop := calmEndsRow.holds Tryz.pinned (OpenSpec.ofChange calmEndsSpec)

/-- ITS FALSE NEIGHBOUR: 'it returns false'. Refute it at one input. -/
def calmEndsWrong : ChangeSpec := { name := "calmEnds", fn := fun _ => fun
  | [d1, d2, d3, d4, d5] => { results := [.lit (.bool false)], args := [d1, d2, d3, d4, d5] }
  | _ => none }
def CalmEndsWrongFalsely : Prop := calmEndsRow.holds Tryz.pinned (OpenSpec.ofChange calmEndsWrong)

/-- 'tilthlaw21.CalmEmpty': WHATEVER THE INPUT: true; the input reads as it did. -/
def calmEmptySpec : ChangeSpec := { name := "calmEmpty", fn := fun _ => fun
  | [d1, d2, d3, d4, d5] => { results := [.lit (.bool true)], args := [d1, d2, d3, d4, d5] }
  | _ => none }
def calmEmptyRow : OpenClaim := { program := "ytibemcgdmembeaagreat", sum := "8fdbfb31e759aa76b686c34f555e647994fc3da93fcc37efb019b8072f090a37", func := "tilth/tilthlaw21.CalmEmpty", spec := "calmEmpty", unfollowed := true, recurses := true, apart := false }
def CalmEmptySaid : Prop := calmEmptyRow.holds Tryz.pinned (OpenSpec.ofChange calmEmptySpec)

/-- ITS FALSE NEIGHBOUR: 'it returns false'. Refute it at one input. -/
def calmEmptyWrong : ChangeSpec := { name := "calmEmpty", fn := fun _ => fun
  | [d1, d2, d3, d4, d5] => { results := [.lit (.bool false)], args := [d1, d2, d3, d4, d5] }
  | _ => none }
def CalmEmptyWrongFalsely : Prop := calmEmptyRow.holds Tryz.pinned (OpenSpec.ofChange calmEmptyWrong)

/-- 'tilthlaw21.CalmNone': WHATEVER THE INPUT: true; the input reads as it did. -/
def calmNoneSpec : ChangeSpec := { name := "calmNone", fn := fun _ => fun
  | [] => { results := [.lit (.bool true)], args := [] }
  | _ => none }
def calmNoneRow : OpenClaim := { program := "ytibemcgdmembeaagreat", sum := "8fdbfb31e759aa76b686c34f555e647994fc3da93fcc37efb019b8072f090a37", func := "tilth/tilthlaw21.CalmNone", spec := "calmNone", unfollowed := true, recurses := true, apart := false }
def CalmNoneSaid : Prop := calmNoneRow.holds Tryz.pinned (OpenSpec.ofChange calmNoneSpec)

/-- ITS FALSE NEIGHBOUR: 'it returns false'. Refute it at one input. -/
def calmNoneWrong : ChangeSpec := { name := "calmNone", fn := fun _ => fun
  | [] => { results := [.lit (.bool false)], args := [] }
  | _ => none }
def CalmNoneWrongFalsely : Prop := calmNoneRow.holds Tryz.pinned (OpenSpec.ofChange calmNoneWrong)

/-- 'tilthlaw21.CalmOnce': WHATEVER THE INPUT: true; the input reads as it did. -/
def calmOnceSpec : ChangeSpec := { name := "calmOnce", fn := fun _ => fun
  | [d1, d2, d3, d4, d5] => { results := [.lit (.bool true)], args := [d1, d2, d3, d4, d5] }
  | _ => none }
def calmOnceRow : OpenClaim := { program := "ytibemcgdmembeaagreat", sum := "8fdbfb31e759aa76b686c34f555e647994fc3da93fcc37efb019b8072f090a37", func := "tilth/tilthlaw21.CalmOnce", spec := "calmOnce", unfollowed := true, recurses := true, apart := false }
def CalmOnceSaid : Prop := calmOnceRow.holds Tryz.pinned (OpenSpec.ofChange calmOnceSpec)

/-- ITS FALSE NEIGHBOUR: 'it returns false'. Refute it at one input. -/
def calmOnceWrong : ChangeSpec := { name := "calmOnce", fn := fun _ => fun
  | [d1, d2, d3, d4, d5] => { results := [.lit (.bool false)], args := [d1, d2, d3, d4, d5] }
  | _ => none }
def CalmOnceWrongFalsely : Prop := calmOnceRow.holds Tryz.pinned (OpenSpec.ofChange calmOnceWrong)

/-- 'tilthlaw19.WalkNodes': WHATEVER THE INPUT: true; the input reads as it did. -/
def walkNodesSpec : ChangeSpec := { name := "walkNodes", fn := fun _ => fun
  | [d1, d2, d3, d4, d5] => { results := [.lit (.bool true)], args := [d1, d2, d3, d4, d5] }
  | _ => none }
def walkNodesRow : OpenClaim := { program := "ytibemcgdmembeaagreat", sum := "8fdbfb31e759aa76b686c34f555e647994fc3da93fcc37efb019b8072f090a37", func := "tilth/tilthlaw19.WalkNodes", spec := "walkNodes", unfollowed := true, recurses := true, apart := false }
def WalkNodesSaid : Prop := walkNodesRow.holds Tryz.pinned (OpenSpec.ofChange walkNodesSpec)

/-- ITS FALSE NEIGHBOUR: 'it returns false'. Refute it at one input. -/
def walkNodesWrong : ChangeSpec := { name := "walkNodes", fn := fun _ => fun
  | [d1, d2, d3, d4, d5] => { results := [.lit (.bool false)], args := [d1, d2, d3, d4, d5] }
  | _ => none }
def WalkNodesWrongFalsely : Prop := walkNodesRow.holds Tryz.pinned (OpenSpec.ofChange walkNodesWrong)

/-- 'tilthlaw19.WalkNone': WHATEVER THE INPUT: true; the input reads as it did. -/
def walkNoneSpec : ChangeSpec := { name := "walkNone", fn := fun _ => fun
  | [] => { results := [.lit (.bool true)], args := [] }
  | _ => none }
def walkNoneRow : OpenClaim := { program := "ytibemcgdmembeaagreat", sum := "8fdbfb31e759aa76b686c34f555e647994fc3da93fcc37efb019b8072f090a37", func := "tilth/tilthlaw19.WalkNone", spec := "walkNone", unfollowed := true, recurses := true, apart := false }
def WalkNoneSaid : Prop := walkNoneRow.holds Tryz.pinned (OpenSpec.ofChange walkNoneSpec)

/-- ITS FALSE NEIGHBOUR: 'it returns false'. Refute it at one input. -/
def walkNoneWrong : ChangeSpec := { name := "walkNone", fn := fun _ => fun
  | [] => { results := [.lit (.bool false)], args := [] }
  | _ => none }
def WalkNoneWrongFalsely : Prop := walkNoneRow.holds Tryz.pinned (OpenSpec.ofChange walkNoneWrong)

/-- 'tilthlaw19.WalkFewer': WHATEVER THE INPUT: true; the input reads as it did. -/
def walkFewerSpec : ChangeSpec := { name := "walkFewer", fn := fun _ => fun
  | [d1, d2, d3, d4, d5] => { results := [.lit (.bool true)], args := [d1, d2, d3, d4, d5] }
  | _ => none }
def walkFewerRow : OpenClaim := { program := "ytibemcgdmembeaagreat", sum := "8fdbfb31e759aa76b686c34f555e647994fc3da93fcc37efb019b8072f090a37", func := "tilth/tilthlaw19.WalkFewer", spec := "walkFewer", unfollowed := true, recurses := true, apart := false }
def WalkFewerSaid : Prop := walkFewerRow.holds Tryz.pinned (OpenSpec.ofChange walkFewerSpec)

/-- ITS FALSE NEIGHBOUR: 'it returns false'. Refute it at one input. -/
def walkFewerWrong : ChangeSpec := { name := "walkFewer", fn := fun _ => fun
  | [d1, d2, d3, d4, d5] => { results := [.lit (.bool false)], args := [d1, d2, d3, d4, d5] }
  | _ => none }
def WalkFewerWrongFalsely : Prop := walkFewerRow.holds Tryz.pinned (OpenSpec.ofChange walkFewerWrong)

/-- 'tilthlaw21.CalmRoom': WHATEVER THE INPUT: true; the input reads as it did. -/
def calmRoomSpec : ChangeSpec := { name := "calmRoom", fn := fun _ => fun
  | [d1, d2, d3, d4, d5, d6, d7] => { results := [.lit (.bool true)], args := [d1, d2, d3, d4, d5, d6, d7] }
  | _ => none }
def calmRoomRow : OpenClaim := { program := "ytibemcgdmembeaagreat", sum := "8fdbfb31e759aa76b686c34f555e647994fc3da93fcc37efb019b8072f090a37", func := "tilth/tilthlaw21.CalmRoom", spec := "calmRoom", unfollowed := true, recurses := true, apart := false }
def CalmRoomSaid : Prop := calmRoomRow.holds Tryz.pinned (OpenSpec.ofChange calmRoomSpec)

/-- ITS FALSE NEIGHBOUR: 'it returns false'. Refute it at one input. -/
def calmRoomWrong : ChangeSpec := { name := "calmRoom", fn := fun _ => fun
  | [d1, d2, d3, d4, d5, d6, d7] => { results := [.lit (.bool false)], args := [d1, d2, d3, d4, d5, d6, d7] }
  | _ => none }
def CalmRoomWrongFalsely : Prop := calmRoomRow.holds Tryz.pinned (OpenSpec.ofChange calmRoomWrong)

/-- 'tilthlaw19.WalkLive': WHATEVER THE INPUT: true; the input reads as it did. -/
def walkLiveSpec : ChangeSpec := { name := "walkLive", fn := fun _ => fun
  | [d1, d2, d3, d4, d5] => { results := [.lit (.bool true)], args := [d1, d2, d3, d4, d5] }
  | _ => none }
def walkLiveRow : OpenClaim := { program := "ytibemcgdmembeaagreat", sum := "8fdbfb31e759aa76b686c34f555e647994fc3da93fcc37efb019b8072f090a37", func := "tilth/tilthlaw19.WalkLive", spec := "walkLive", unfollowed := true, recurses := true, apart := false }
def WalkLiveSaid : Prop := walkLiveRow.holds Tryz.pinned (OpenSpec.ofChange walkLiveSpec)

/-- ITS FALSE NEIGHBOUR: 'it returns false'. Refute it at one input. -/
def walkLiveWrong : ChangeSpec := { name := "walkLive", fn := fun _ => fun
  | [d1, d2, d3, d4, d5] => { results := [.lit (.bool false)], args := [d1, d2, d3, d4, d5] }
  | _ => none }
def WalkLiveWrongFalsely : Prop := walkLiveRow.holds Tryz.pinned (OpenSpec.ofChange walkLiveWrong)

/- THE SECOND FORM. 'bulk': how many values and letters a reading holds, each counted each time it is reached (what is shared counts as often as it is met; a slice's spare places count too). A statement '..UptoSaid' is the law's where the arguments, and the package variables that the reading takes, are together of bulk at most 1048576: NARROWER than '..Said'. Prove '..Said' where nothing that the law and all that it calls make is longer than what came in: it says more and counts as full. Else prove '..UptoSaid'. A law counts once. -/
mutual
def uptoBulk {H : Type} : DataW H → Nat
  | .lit (.string bytes) => bytes.length + 1
  | .lit _ => 1
  | .nil => 1
  | .ptr d => uptoBulk d + 1
  | .slice elems spare => uptoBulkAll elems + uptoBulkAll spare + 1
  | .agg parts => uptoBulkAll parts + 1
  | .iface _ d => uptoBulk d + 1
  | .map entries => uptoBulkEntries entries + 1
  | .held _ => 1
def uptoBulkAll {H : Type} : List (DataW H) → Nat
  | [] => 0
  | d :: r => uptoBulk d + uptoBulkAll r
def uptoBulkEntries {H : Type} : List (Lit × DataW H) → Nat
  | [] => 0
  | x :: r => uptoBulkEntry x + uptoBulkEntries r
def uptoBulkEntry {H : Type} : Lit × DataW H → Nat
  | (.string bytes, d) => bytes.length + uptoBulk d + 1
  | (_, d) => uptoBulk d + 1
 end
def uptoSmall : (H : Type) → List (DataW H) → Bool := fun _ ds => decide (uptoBulkAll ds ≤ 1048576)
def OpenSpec.upto (s : _root_.Go.ChangeSpec) : _root_.Go.OpenSpec := { _root_.Go.OpenSpec.ofChange s with cond := some uptoSmall }

/-- 'tilthtop.WholeAnswers', WHERE WHAT IT READS IS OF BULK AT MOST 1048576: true; the input reads as it did. -/
def wholeAnswersUptoRow : OpenClaim := { program := "ytibemcgdmembeaagreat", sum := "8fdbfb31e759aa76b686c34f555e647994fc3da93fcc37efb019b8072f090a37", func := "tilth/tilthtop.WholeAnswers", spec := "wholeAnswers", unfollowed := true, recurses := true, apart := false, narrowed := true }
def WholeAnswersUptoSaid : Prop := wholeAnswersUptoRow.holds Tryz.pinned (OpenSpec.upto wholeAnswersSpec)

/-- 'tilthtop.WholePause', WHERE WHAT IT READS IS OF BULK AT MOST 1048576: true; the input reads as it did. -/
def wholePauseUptoRow : OpenClaim := { program := "ytibemcgdmembeaagreat", sum := "8fdbfb31e759aa76b686c34f555e647994fc3da93fcc37efb019b8072f090a37", func := "tilth/tilthtop.WholePause", spec := "wholePause", unfollowed := true, recurses := true, apart := false, narrowed := true }
def WholePauseUptoSaid : Prop := wholePauseUptoRow.holds Tryz.pinned (OpenSpec.upto wholePauseSpec)

/-- 'tilthtop.WholeRoom', WHERE WHAT IT READS IS OF BULK AT MOST 1048576: true; the input reads as it did. -/
def wholeRoomUptoRow : OpenClaim := { program := "ytibemcgdmembeaagreat", sum := "8fdbfb31e759aa76b686c34f555e647994fc3da93fcc37efb019b8072f090a37", func := "tilth/tilthtop.WholeRoom", spec := "wholeRoom", unfollowed := true, recurses := true, apart := false, narrowed := true }
def WholeRoomUptoSaid : Prop := wholeRoomUptoRow.holds Tryz.pinned (OpenSpec.upto wholeRoomSpec)

/-- 'tilthlaw21.CalmEnds', WHERE WHAT IT READS IS OF BULK AT MOST 1048576: true; the input reads as it did. -/
def calmEndsUptoRow : OpenClaim := { program := "ytibemcgdmembeaagreat", sum := "8fdbfb31e759aa76b686c34f555e647994fc3da93fcc37efb019b8072f090a37", func := "tilth/tilthlaw21.CalmEnds", spec := "calmEnds", unfollowed := true, recurses := true, apart := false, narrowed := true }
def CalmEndsUptoSaid : Prop := calmEndsUptoRow.holds Tryz.pinned (OpenSpec.upto calmEndsSpec)

/-- 'tilthlaw21.CalmEmpty', WHERE WHAT IT READS IS OF BULK AT MOST 1048576: true; the input reads as it did. -/
def calmEmptyUptoRow : OpenClaim := { program := "ytibemcgdmembeaagreat", sum := "8fdbfb31e759aa76b686c34f555e647994fc3da93fcc37efb019b8072f090a37", func := "tilth/tilthlaw21.CalmEmpty", spec := "calmEmpty", unfollowed := true, recurses := true, apart := false, narrowed := true }
def CalmEmptyUptoSaid : Prop := calmEmptyUptoRow.holds Tryz.pinned (OpenSpec.upto calmEmptySpec)

/-- 'tilthlaw21.CalmNone', WHERE WHAT IT READS IS OF BULK AT MOST 1048576: true; the input reads as it did. -/
def calmNoneUptoRow : OpenClaim := { program := "ytibemcgdmembeaagreat", sum := "8fdbfb31e759aa76b686c34f555e647994fc3da93fcc37efb019b8072f090a37", func := "tilth/tilthlaw21.CalmNone", spec := "calmNone", unfollowed := true, recurses := true, apart := false, narrowed := true }
def CalmNoneUptoSaid : Prop := calmNoneUptoRow.holds Tryz.pinned (OpenSpec.upto calmNoneSpec)

/-- 'tilthlaw21.CalmOnce', WHERE WHAT IT READS IS OF BULK AT MOST 1048576: true; the input reads as it did. -/
def calmOnceUptoRow : OpenClaim := { program := "ytibemcgdmembeaagreat", sum := "8fdbfb31e759aa76b686c34f555e647994fc3da93fcc37efb019b8072f090a37", func := "tilth/tilthlaw21.CalmOnce", spec := "calmOnce", unfollowed := true, recurses := true, apart := false, narrowed := true }
def CalmOnceUptoSaid : Prop := calmOnceUptoRow.holds Tryz.pinned (OpenSpec.upto calmOnceSpec)

/-- 'tilthlaw19.WalkNodes', WHERE WHAT IT READS IS OF BULK AT MOST 1048576: true; the input reads as it did. -/
def walkNodesUptoRow : OpenClaim := { program := "ytibemcgdmembeaagreat", sum := "8fdbfb31e759aa76b686c34f555e647994fc3da93fcc37efb019b8072f090a37", func := "tilth/tilthlaw19.WalkNodes", spec := "walkNodes", unfollowed := true, recurses := true, apart := false, narrowed := true }
def WalkNodesUptoSaid : Prop := walkNodesUptoRow.holds Tryz.pinned (OpenSpec.upto walkNodesSpec)

/-- 'tilthlaw19.WalkNone', WHERE WHAT IT READS IS OF BULK AT MOST 1048576: true; the input reads as it did. -/
def walkNoneUptoRow : OpenClaim := { program := "ytibemcgdmembeaagreat", sum := "8fdbfb31e759aa76b686c34f555e647994fc3da93fcc37efb019b8072f090a37", func := "tilth/tilthlaw19.WalkNone", spec := "walkNone", unfollowed := true, recurses := true, apart := false, narrowed := true }
def WalkNoneUptoSaid : Prop := walkNoneUptoRow.holds Tryz.pinned (OpenSpec.upto walkNoneSpec)

/-- 'tilthlaw19.WalkFewer', WHERE WHAT IT READS IS OF BULK AT MOST 1048576: true; the input reads as it did. -/
def walkFewerUptoRow : OpenClaim := { program := "ytibemcgdmembeaagreat", sum := "8fdbfb31e759aa76b686c34f555e647994fc3da93fcc37efb019b8072f090a37", func := "tilth/tilthlaw19.WalkFewer", spec := "walkFewer", unfollowed := true, recurses := true, apart := false, narrowed := true }
def WalkFewerUptoSaid : Prop := walkFewerUptoRow.holds Tryz.pinned (OpenSpec.upto walkFewerSpec)

/-- 'tilthlaw21.CalmRoom', WHERE WHAT IT READS IS OF BULK AT MOST 1048576: true; the input reads as it did. -/
def calmRoomUptoRow : OpenClaim := { program := "ytibemcgdmembeaagreat", sum := "8fdbfb31e759aa76b686c34f555e647994fc3da93fcc37efb019b8072f090a37", func := "tilth/tilthlaw21.CalmRoom", spec := "calmRoom", unfollowed := true, recurses := true, apart := false, narrowed := true }
def CalmRoomUptoSaid : Prop := calmRoomUptoRow.holds Tryz.pinned (OpenSpec.upto calmRoomSpec)

/-- 'tilthlaw19.WalkLive', WHERE WHAT IT READS IS OF BULK AT MOST 1048576: true; the input reads as it did. -/
def walkLiveUptoRow : OpenClaim := { program := "ytibemcgdmembeaagreat", sum := "8fdbfb31e759aa76b686c34f555e647994fc3da93fcc37efb019b8072f090a37", func := "tilth/tilthlaw19.WalkLive", spec := "walkLive", unfollowed := true, recurses := true, apart := false, narrowed := true }
def WalkLiveUptoSaid : Prop := walkLiveUptoRow.holds Tryz.pinned (OpenSpec.upto walkLiveSpec)

end Rows
end Go.Proofs.YtibemcgdmembeaaGreat
