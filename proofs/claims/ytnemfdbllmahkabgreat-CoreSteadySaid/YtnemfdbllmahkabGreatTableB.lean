/- In this seat a table's list, copied, stands in the text Table. No condition. -/
import Derived.Test.YtnemfdbllmahkabGreatRows
import Derived.Test.YtnemfdbllmahkabGreatTable
namespace Go.Proofs.YtnemfdbllmahkabGreat
theorem tableB_here : True := trivial
end Go.Proofs.YtnemfdbllmahkabGreat
