/- Contracts of the library's functions at this program, off the shelf. -/
import Derived.Test.YtnmbehogiioonaaDoorRows
import Derived.Ground.NamesProg
import Derived.Ground.MpProg
import Derived.Shelf.Lay
import Derived.Shelf.Strings.Split
import Derived.Shelf.Strings.OnBuilder
import Derived.Shelf.Strings.PiecesUse
import Derived.Shelf.Strconv.Itoa3
import Derived.Shelf.Strconv.ErrVarAll
import Derived.Shelf.Pu.ErrVarParseUint
set_option linter.unusedVariables false
set_option linter.unusedSimpArgs false
namespace Go.Proofs
open Go.Shelf Go.RowKit

shelf_lay Lays.n146 Nm 146 at Tryd as Tryd.laysSplit
shelf_lay Lays.n156 Nm 156 at Tryd as Tryd.laysJoin
shelf_lay LaysM.n171 Nm 171 at Tryd as Tryd.laysItoa
shelf_lay LaysC.n172 Nm 172 at Tryd as Tryd.laysAtoi
shelf_lay LaysPu.n14 Mp 14 at Tryd as Tryd.laysParseUint
theorem Tryd.extra : Builder.Extra Tryd.prog Tryd.laysJoin_ren where
  sizeBuilder := by kernel_rfl
  liesBuilder := by kernel_rfl
  t5 := Tryd.laysAtoi.t5
  a5 := Tryd.laysAtoi.a5
  z5 := Tryd.laysAtoi.z5
  v5 := Tryd.laysAtoi.v5
  infoByte := by kernel_rfl
  cellsByte := by kernel_rfl
  sizeByte := by kernel_rfl
  neB5 := by decide

end Go.Proofs
