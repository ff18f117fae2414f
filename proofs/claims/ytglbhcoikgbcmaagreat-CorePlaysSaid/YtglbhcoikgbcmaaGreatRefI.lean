/- Each entry of a script, in the document's graph in memory, is gStep and gAns. Conditions: a graph as New makes it, its numbers those of nodes. -/
import Derived.Test.YtglbhcoikgbcmaaGreatRows
import Derived.Test.YtglbhcoikgbcmaaGreatRefD
import Derived.Test.YtglbhcoikgbcmaaGreatRefE
import Derived.Test.YtglbhcoikgbcmaaGreatRefF
import Derived.Test.YtglbhcoikgbcmaaGreatRefG
import Derived.Test.YtglbhcoikgbcmaaGreatRefH
set_option linter.unusedVariables false
set_option linter.unusedSimpArgs false
namespace Go.Proofs.YtglbhcoikgbcmaaGreat
open Go.RowKit

theorem ref_do (p : Nat) (g : GraphS) (ok : g.Ok) (x : StepS) (h1 : 1 ≤ x.kind) (h2 : x.kind ≤ 10) (w : World) (h : Hp) (hi : In w h) (gh : GraphH p g h) :
    Calls Tryz.prog 9 #[.pointer (some ⟨p, 0, none⟩), .agg (stepCells x)] w fun en w' => en = .returned (.agg (ansCells (gAns g x))) ∧ ∃ h', GraphH p (gStep g x) h' ∧ Upd h h' w w' := by
  obtain ⟨k, a, b, c, v⟩ := x
  have h1' : 1 ≤ k := h1
  have h2' : k ≤ 10 := h2
  have hk : k = 1 ∨ k = 2 ∨ k = 3 ∨ k = 4 ∨ k = 5 ∨ k = 6 ∨ k = 7 ∨ k = 8 ∨ k = 9 ∨ k = 10 := by omega
  have quiet : ∀ {args : Array Value} {r : Value}, Calls Tryz.prog 9 args w (fun en w' => en = .returned r ∧ Upd h h w w') → Calls Tryz.prog 9 args w fun en w' => en = .returned r ∧ ∃ h', GraphH p g h' ∧ Upd h h' w w' :=
    fun hh => Calls.mono hh fun en w' hx => ⟨hx.1, h, gh, hx.2⟩
  rcases hk with rfl | rfl | rfl | rfl | rfl | rfl | rfl | rfl | rfl | rfl
  · exact rdo_1 p a b c v _ w h _ hi fun W hW => ref_make p g ok a b c v W h hW gh
  · exact rdo_2 p a b c v _ w h _ hi fun W hW => ref_get p g ok a b c v W h hW gh
  · exact rdo_3 p a b c v _ w h _ hi fun W hW => ref_set p g ok a b c v W h hW gh
  · exact quiet (rdo_read p g ok a b c v w h hi gh)
  · exact rdo_5 p a b c v _ w h _ hi fun W hW => ref_write p g ok a b c v W h hW gh
  · exact rdo_6 p a b c v _ w h _ hi fun W hW => ref_clear p g a b c v W h hW gh
  · exact rdo_7 p a b c v _ w h _ hi fun W hW => ref_copy p g ok a b c v W h hW gh
  · exact quiet (rdo_same p g a b c v w h hi gh)
  · exact quiet (rdo_nil p g a b c v w h hi gh)
  · exact quiet (rdo_shape p g ok a b c v w h hi gh)

end Go.Proofs.YtglbhcoikgbcmaaGreat
