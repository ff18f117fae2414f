/- A core in memory: its own block and its parts'. No condition. -/
import Derived.Test.YtglbhcoikgbcmaaGreatRows
import Derived.Test.YtglbhcoikgbcmaaGreatLib
import Derived.Test.YtglbhcoikgbcmaaGreatArena
import Derived.Test.YtglbhcoikgbcmaaGreatBump
import Derived.Test.YtglbhcoikgbcmaaGreatConf
import Derived.Test.YtglbhcoikgbcmaaGreatObj
import Derived.Test.YtglbhcoikgbcmaaGreatMature
import Derived.Test.YtglbhcoikgbcmaaGreatRem
import Derived.Test.YtglbhcoikgbcmaaGreatGrey
import Derived.Test.YtglbhcoikgbcmaaGreatTable
set_option linter.unusedVariables false
set_option linter.unusedSimpArgs false
namespace Go.Proofs.YtglbhcoikgbcmaaGreat
open Go.RowKit

/-- what a heap has done -/
structure StatS where
  allocs : Int
  words : Int
  promoted : Int
  minors : Int
  majors : Int
  young : Int
  old : Int
  free : Int

structure CoreS where
  C : Cfg
  ws : List Int
  y : YoungS
  o : MatS
  r : RemS
  g : GreyS
  t : List Int
  parity : Int
  phase : Int
  moving : Bool
  scan : Int
  copied : Int
  look : Int
  row : List Int
  done : StatS

/-- where its parts lie -/
structure CoreL where
  pa : Nat
  py : Nat
  po : Nat
  pr : Nat
  pg : Nat
  pt : Nat

def coreCells (L : CoreL) (s : CoreS) (v : Value) : Array Value := #[.int .i64 s.C.handles, .int .i64 s.C.nursery, .int .i64 s.C.pages, .int .i64 s.C.page, .int .i64 s.C.card, .int .i64 s.C.buffer, .int .i64 s.C.stack, .int .i64 s.C.tenure, .int .i64 s.C.largest, .int .i64 s.C.minor, .int .i64 s.C.major, .int .i64 s.C.minorAt, .int .i64 s.C.majorAt, ptr L.pa, ptr L.py, ptr L.po, ptr L.pr, ptr L.pg, ptr L.pt, .int .i64 s.parity, .int .i64 s.phase, .bool s.moving, .int .i64 s.scan, .int .i64 s.copied, .int .i64 s.look, v, .int .i64 s.done.allocs, .int .i64 s.done.words, .int .i64 s.done.promoted, .int .i64 s.done.minors, .int .i64 s.done.majors, .int .i64 s.done.young, .int .i64 s.done.old, .int .i64 s.done.free]
def coreObj (L : CoreL) (s : CoreS) (v : Value) : Obj := .cells (coreCells L s v) 61 (0, 0)

abbrev coreParts (pc : Nat) (o : Obj) (ha hy ho hr hg ht hw : Hp) : List Hp := [[(pc, o)], ha, hy, ho, hr, hg, ht, hw]

def CoreH (pc : Nat) (L : CoreL) (s : CoreS) (h : Hp) : Prop :=
  ∃ v ha hy ho hr hg ht hw, h = (coreParts pc (coreObj L s v) ha hy ho hr hg ht hw).flatten ∧ ArenaH L.pa s.ws ha ∧ YoungH L.py s.y hy ∧ MatureH L.po s.o ho ∧ RemH L.pr s.r hr ∧ GreyH L.pg s.g hg ∧ TableH L.pt s.t ht ∧ SliceH 3 1 v s.row.length (ints s.row) hw

section
variable {w0 w w' : World} {h0 x : Hp} {pc : Nat} {o : Obj} {ha hy ho hr hg ht hw k : Hp}
theorem In.arena (hi : In w (x ++ (coreParts pc o ha hy ho hr hg ht hw).flatten)) : In w ha := hi.right.part (l := coreParts pc o ha hy ho hr hg ht hw) (i := 1) rfl
theorem Upd.arena (a : Upd h0 (x ++ (coreParts pc o ha hy ho hr hg ht hw).flatten) w0 w) (u : Upd ha k w w') : Upd h0 (x ++ (coreParts pc o k hy ho hr hg ht hw).flatten) w0 w' :=
  Upd.then_part (l := x :: coreParts pc o ha hy ho hr hg ht hw) (i := 2) a rfl u
theorem In.young (hi : In w (x ++ (coreParts pc o ha hy ho hr hg ht hw).flatten)) : In w hy := hi.right.part (l := coreParts pc o ha hy ho hr hg ht hw) (i := 2) rfl
theorem Upd.young (a : Upd h0 (x ++ (coreParts pc o ha hy ho hr hg ht hw).flatten) w0 w) (u : Upd hy k w w') : Upd h0 (x ++ (coreParts pc o ha k ho hr hg ht hw).flatten) w0 w' :=
  Upd.then_part (l := x :: coreParts pc o ha hy ho hr hg ht hw) (i := 3) a rfl u
theorem In.old (hi : In w (x ++ (coreParts pc o ha hy ho hr hg ht hw).flatten)) : In w ho := hi.right.part (l := coreParts pc o ha hy ho hr hg ht hw) (i := 3) rfl
theorem Upd.old (a : Upd h0 (x ++ (coreParts pc o ha hy ho hr hg ht hw).flatten) w0 w) (u : Upd ho k w w') : Upd h0 (x ++ (coreParts pc o ha hy k hr hg ht hw).flatten) w0 w' :=
  Upd.then_part (l := x :: coreParts pc o ha hy ho hr hg ht hw) (i := 4) a rfl u
theorem In.rem (hi : In w (x ++ (coreParts pc o ha hy ho hr hg ht hw).flatten)) : In w hr := hi.right.part (l := coreParts pc o ha hy ho hr hg ht hw) (i := 4) rfl
theorem Upd.rem (a : Upd h0 (x ++ (coreParts pc o ha hy ho hr hg ht hw).flatten) w0 w) (u : Upd hr k w w') : Upd h0 (x ++ (coreParts pc o ha hy ho k hg ht hw).flatten) w0 w' :=
  Upd.then_part (l := x :: coreParts pc o ha hy ho hr hg ht hw) (i := 5) a rfl u
theorem In.grey (hi : In w (x ++ (coreParts pc o ha hy ho hr hg ht hw).flatten)) : In w hg := hi.right.part (l := coreParts pc o ha hy ho hr hg ht hw) (i := 5) rfl
theorem Upd.grey (a : Upd h0 (x ++ (coreParts pc o ha hy ho hr hg ht hw).flatten) w0 w) (u : Upd hg k w w') : Upd h0 (x ++ (coreParts pc o ha hy ho hr k ht hw).flatten) w0 w' :=
  Upd.then_part (l := x :: coreParts pc o ha hy ho hr hg ht hw) (i := 6) a rfl u
theorem In.table (hi : In w (x ++ (coreParts pc o ha hy ho hr hg ht hw).flatten)) : In w ht := hi.right.part (l := coreParts pc o ha hy ho hr hg ht hw) (i := 6) rfl
theorem Upd.table (a : Upd h0 (x ++ (coreParts pc o ha hy ho hr hg ht hw).flatten) w0 w) (u : Upd ht k w w') : Upd h0 (x ++ (coreParts pc o ha hy ho hr hg k hw).flatten) w0 w' :=
  Upd.then_part (l := x :: coreParts pc o ha hy ho hr hg ht hw) (i := 7) a rfl u
theorem In.rows (hi : In w (x ++ (coreParts pc o ha hy ho hr hg ht hw).flatten)) : In w hw := hi.right.part (l := coreParts pc o ha hy ho hr hg ht hw) (i := 7) rfl
theorem Upd.rows (a : Upd h0 (x ++ (coreParts pc o ha hy ho hr hg ht hw).flatten) w0 w) (u : Upd hw k w w') : Upd h0 (x ++ (coreParts pc o ha hy ho hr hg ht k).flatten) w0 w' :=
  Upd.then_part (l := x :: coreParts pc o ha hy ho hr hg ht hw) (i := 8) a rfl u
theorem In.core (hi : In w (x ++ (coreParts pc o ha hy ho hr hg ht hw).flatten)) : w.heap[pc]? = some o := (hi.right.part (l := coreParts pc o ha hy ho hr hg ht hw) (i := 0) rfl).head
theorem Upd.core {arr : Array Value} {T : TypeId} {fr : Nat × Nat} (a : Upd h0 (x ++ (coreParts pc (.cells arr T fr) ha hy ho hr hg ht hw).flatten) w0 w) (off : Nat) (v : Value) :
    Upd h0 (x ++ (coreParts pc (.cells (arr.setIfInBounds off v) T fr) ha hy ho hr hg ht hw).flatten) w0 (w.setCell ⟨pc, off, none⟩ v) :=
  Upd.then_part (l := x :: coreParts pc (.cells arr T fr) ha hy ho hr hg ht hw) (i := 1) a rfl (Upd.store (l := []) (r := []) ((a.inn.part (l := x :: coreParts pc (.cells arr T fr) ha hy ho hr hg ht hw) (i := 1) rfl)))
theorem Upd.box (a : Upd h0 (x ++ (coreParts pc o ha hy ho hr hg ht hw).flatten) w0 w) (b : Obj) : Upd h0 (((w.heap.size, b) :: x) ++ (coreParts pc o ha hy ho hr hg ht hw).flatten) w0 (w.alloc b) := a.alloc' b
theorem Upd.unbox (a : Upd h0 (x ++ (coreParts pc o ha hy ho hr hg ht hw).flatten) w0 w) : Upd h0 ((coreParts pc o ha hy ho hr hg ht hw).flatten) w0 w := a.forget (List.sublist_append_right _ _)
end
section
variable {w : World} {pc : Nat} {L : CoreL} {s : CoreS} {v : Value}
theorem core_cfg (h : w.heap[pc]? = some (coreObj L s v)) :
    w.cell? ⟨pc, 0, none⟩ = some (.int .i64 s.C.handles) ∧ w.cell? ⟨pc, 1, none⟩ = some (.int .i64 s.C.nursery) ∧ w.cell? ⟨pc, 2, none⟩ = some (.int .i64 s.C.pages) ∧ w.cell? ⟨pc, 3, none⟩ = some (.int .i64 s.C.page) ∧ w.cell? ⟨pc, 4, none⟩ = some (.int .i64 s.C.card) ∧ w.cell? ⟨pc, 5, none⟩ = some (.int .i64 s.C.buffer) ∧ w.cell? ⟨pc, 6, none⟩ = some (.int .i64 s.C.stack) ∧ w.cell? ⟨pc, 7, none⟩ = some (.int .i64 s.C.tenure) ∧ w.cell? ⟨pc, 8, none⟩ = some (.int .i64 s.C.largest) ∧ w.cell? ⟨pc, 9, none⟩ = some (.int .i64 s.C.minor) ∧ w.cell? ⟨pc, 10, none⟩ = some (.int .i64 s.C.major) ∧ w.cell? ⟨pc, 11, none⟩ = some (.int .i64 s.C.minorAt) ∧ w.cell? ⟨pc, 12, none⟩ = some (.int .i64 s.C.majorAt) :=
  ⟨cell_of h 0, cell_of h 1, cell_of h 2, cell_of h 3, cell_of h 4, cell_of h 5, cell_of h 6, cell_of h 7, cell_of h 8, cell_of h 9, cell_of h 10, cell_of h 11, cell_of h 12⟩
theorem core_ptrs (h : w.heap[pc]? = some (coreObj L s v)) :
    w.cell? ⟨pc, 13, none⟩ = some (ptr L.pa) ∧ w.cell? ⟨pc, 14, none⟩ = some (ptr L.py) ∧ w.cell? ⟨pc, 15, none⟩ = some (ptr L.po) ∧ w.cell? ⟨pc, 16, none⟩ = some (ptr L.pr) ∧ w.cell? ⟨pc, 17, none⟩ = some (ptr L.pg) ∧ w.cell? ⟨pc, 18, none⟩ = some (ptr L.pt) :=
  ⟨cell_of h 13, cell_of h 14, cell_of h 15, cell_of h 16, cell_of h 17, cell_of h 18⟩
theorem core_vars (h : w.heap[pc]? = some (coreObj L s v)) :
    w.cell? ⟨pc, 19, none⟩ = some (.int .i64 s.parity) ∧ w.cell? ⟨pc, 20, none⟩ = some (.int .i64 s.phase) ∧ w.cell? ⟨pc, 21, none⟩ = some (.bool s.moving) ∧ w.cell? ⟨pc, 22, none⟩ = some (.int .i64 s.scan) ∧ w.cell? ⟨pc, 23, none⟩ = some (.int .i64 s.copied) ∧ w.cell? ⟨pc, 24, none⟩ = some (.int .i64 s.look) :=
  ⟨cell_of h 19, cell_of h 20, cell_of h 21, cell_of h 22, cell_of h 23, cell_of h 24⟩
theorem core_stats (h : w.heap[pc]? = some (coreObj L s v)) :
    w.cell? ⟨pc, 26, none⟩ = some (.int .i64 s.done.allocs) ∧ w.cell? ⟨pc, 27, none⟩ = some (.int .i64 s.done.words) ∧ w.cell? ⟨pc, 28, none⟩ = some (.int .i64 s.done.promoted) ∧ w.cell? ⟨pc, 29, none⟩ = some (.int .i64 s.done.minors) ∧ w.cell? ⟨pc, 30, none⟩ = some (.int .i64 s.done.majors) ∧ w.cell? ⟨pc, 31, none⟩ = some (.int .i64 s.done.young) ∧ w.cell? ⟨pc, 32, none⟩ = some (.int .i64 s.done.old) ∧ w.cell? ⟨pc, 33, none⟩ = some (.int .i64 s.done.free) :=
  ⟨cell_of h 26, cell_of h 27, cell_of h 28, cell_of h 29, cell_of h 30, cell_of h 31, cell_of h 32, cell_of h 33⟩
theorem Upd.cset_parity {w0 w : World} {h0 x : Hp} {ha hy ho hr hg ht hw : Hp} (a : Upd h0 (x ++ (coreParts pc (coreObj L s v) ha hy ho hr hg ht hw).flatten) w0 w) (u : Int) :
    Upd h0 (x ++ (coreParts pc (coreObj L { s with parity := u } v) ha hy ho hr hg ht hw).flatten) w0 (w.setCell ⟨pc, 19, none⟩ (.int .i64 u)) := a.core 19 _
theorem Upd.cset_phase {w0 w : World} {h0 x : Hp} {ha hy ho hr hg ht hw : Hp} (a : Upd h0 (x ++ (coreParts pc (coreObj L s v) ha hy ho hr hg ht hw).flatten) w0 w) (u : Int) :
    Upd h0 (x ++ (coreParts pc (coreObj L { s with phase := u } v) ha hy ho hr hg ht hw).flatten) w0 (w.setCell ⟨pc, 20, none⟩ (.int .i64 u)) := a.core 20 _
theorem Upd.cset_moving {w0 w : World} {h0 x : Hp} {ha hy ho hr hg ht hw : Hp} (a : Upd h0 (x ++ (coreParts pc (coreObj L s v) ha hy ho hr hg ht hw).flatten) w0 w) (u : Bool) :
    Upd h0 (x ++ (coreParts pc (coreObj L { s with moving := u } v) ha hy ho hr hg ht hw).flatten) w0 (w.setCell ⟨pc, 21, none⟩ (.bool u)) := a.core 21 _
theorem Upd.cset_scan {w0 w : World} {h0 x : Hp} {ha hy ho hr hg ht hw : Hp} (a : Upd h0 (x ++ (coreParts pc (coreObj L s v) ha hy ho hr hg ht hw).flatten) w0 w) (u : Int) :
    Upd h0 (x ++ (coreParts pc (coreObj L { s with scan := u } v) ha hy ho hr hg ht hw).flatten) w0 (w.setCell ⟨pc, 22, none⟩ (.int .i64 u)) := a.core 22 _
theorem Upd.cset_copied {w0 w : World} {h0 x : Hp} {ha hy ho hr hg ht hw : Hp} (a : Upd h0 (x ++ (coreParts pc (coreObj L s v) ha hy ho hr hg ht hw).flatten) w0 w) (u : Int) :
    Upd h0 (x ++ (coreParts pc (coreObj L { s with copied := u } v) ha hy ho hr hg ht hw).flatten) w0 (w.setCell ⟨pc, 23, none⟩ (.int .i64 u)) := a.core 23 _
theorem Upd.cset_look {w0 w : World} {h0 x : Hp} {ha hy ho hr hg ht hw : Hp} (a : Upd h0 (x ++ (coreParts pc (coreObj L s v) ha hy ho hr hg ht hw).flatten) w0 w) (u : Int) :
    Upd h0 (x ++ (coreParts pc (coreObj L { s with look := u } v) ha hy ho hr hg ht hw).flatten) w0 (w.setCell ⟨pc, 24, none⟩ (.int .i64 u)) := a.core 24 _
theorem Upd.cset_allocs {w0 w : World} {h0 x : Hp} {ha hy ho hr hg ht hw : Hp} (a : Upd h0 (x ++ (coreParts pc (coreObj L s v) ha hy ho hr hg ht hw).flatten) w0 w) (u : Int) :
    Upd h0 (x ++ (coreParts pc (coreObj L { s with done := { s.done with allocs := u } } v) ha hy ho hr hg ht hw).flatten) w0 (w.setCell ⟨pc, 26, none⟩ (.int .i64 u)) := a.core 26 _
theorem Upd.cset_words {w0 w : World} {h0 x : Hp} {ha hy ho hr hg ht hw : Hp} (a : Upd h0 (x ++ (coreParts pc (coreObj L s v) ha hy ho hr hg ht hw).flatten) w0 w) (u : Int) :
    Upd h0 (x ++ (coreParts pc (coreObj L { s with done := { s.done with words := u } } v) ha hy ho hr hg ht hw).flatten) w0 (w.setCell ⟨pc, 27, none⟩ (.int .i64 u)) := a.core 27 _
theorem Upd.cset_promoted {w0 w : World} {h0 x : Hp} {ha hy ho hr hg ht hw : Hp} (a : Upd h0 (x ++ (coreParts pc (coreObj L s v) ha hy ho hr hg ht hw).flatten) w0 w) (u : Int) :
    Upd h0 (x ++ (coreParts pc (coreObj L { s with done := { s.done with promoted := u } } v) ha hy ho hr hg ht hw).flatten) w0 (w.setCell ⟨pc, 28, none⟩ (.int .i64 u)) := a.core 28 _
theorem Upd.cset_minors {w0 w : World} {h0 x : Hp} {ha hy ho hr hg ht hw : Hp} (a : Upd h0 (x ++ (coreParts pc (coreObj L s v) ha hy ho hr hg ht hw).flatten) w0 w) (u : Int) :
    Upd h0 (x ++ (coreParts pc (coreObj L { s with done := { s.done with minors := u } } v) ha hy ho hr hg ht hw).flatten) w0 (w.setCell ⟨pc, 29, none⟩ (.int .i64 u)) := a.core 29 _
theorem Upd.cset_majors {w0 w : World} {h0 x : Hp} {ha hy ho hr hg ht hw : Hp} (a : Upd h0 (x ++ (coreParts pc (coreObj L s v) ha hy ho hr hg ht hw).flatten) w0 w) (u : Int) :
    Upd h0 (x ++ (coreParts pc (coreObj L { s with done := { s.done with majors := u } } v) ha hy ho hr hg ht hw).flatten) w0 (w.setCell ⟨pc, 30, none⟩ (.int .i64 u)) := a.core 30 _
theorem Upd.cset_young {w0 w : World} {h0 x : Hp} {ha hy ho hr hg ht hw : Hp} (a : Upd h0 (x ++ (coreParts pc (coreObj L s v) ha hy ho hr hg ht hw).flatten) w0 w) (u : Int) :
    Upd h0 (x ++ (coreParts pc (coreObj L { s with done := { s.done with young := u } } v) ha hy ho hr hg ht hw).flatten) w0 (w.setCell ⟨pc, 31, none⟩ (.int .i64 u)) := a.core 31 _
theorem Upd.cset_old {w0 w : World} {h0 x : Hp} {ha hy ho hr hg ht hw : Hp} (a : Upd h0 (x ++ (coreParts pc (coreObj L s v) ha hy ho hr hg ht hw).flatten) w0 w) (u : Int) :
    Upd h0 (x ++ (coreParts pc (coreObj L { s with done := { s.done with old := u } } v) ha hy ho hr hg ht hw).flatten) w0 (w.setCell ⟨pc, 32, none⟩ (.int .i64 u)) := a.core 32 _
theorem Upd.cset_free {w0 w : World} {h0 x : Hp} {ha hy ho hr hg ht hw : Hp} (a : Upd h0 (x ++ (coreParts pc (coreObj L s v) ha hy ho hr hg ht hw).flatten) w0 w) (u : Int) :
    Upd h0 (x ++ (coreParts pc (coreObj L { s with done := { s.done with free := u } } v) ha hy ho hr hg ht hw).flatten) w0 (w.setCell ⟨pc, 33, none⟩ (.int .i64 u)) := a.core 33 _
theorem core_cell (h : w.heap[pc]? = some (coreObj L s v)) (i : Nat) : w.cell? ⟨pc, i, none⟩ = (coreCells L s v)[i]? := cell_of h i
theorem core_frozen (h : w.heap[pc]? = some (coreObj L s v)) (i : Nat) : w.frozen? ⟨pc, i, none⟩ = false := frozen_of h i
end

end Go.Proofs.YtglbhcoikgbcmaaGreat
