/- CoreNone of the statements' package answers true. Conditions: none. -/
import Derived.Test.YtnemfdbllmahkaaRows
import Derived.Test.YtnemfdbllmahkaaLib
import Derived.Test.YtnemfdbllmahkaaLawD
set_option linter.unusedVariables false
set_option linter.unusedSimpArgs false
namespace Go.Proofs.Ytnemfdbllmahkaa
open Go.RowKit

def ansBad : AnsS := ⟨1, false, 0, 0⟩

/-- do without a heap -/
theorem nil_do (k a b c v : Int) (hk : 1 ≤ k ∧ k ≤ 10) (w : World) :
    Calls Try.prog 19 #[.pointer none, .agg (stepCells ⟨k, a, b, c, v⟩)] w fun en w' => en = .returned (.agg (ansCells ansBad)) ∧ Upd [] [] w w' := by
  have fin : ∀ {f : FuncId} {args : Array Value} {r : Value}, Calls Try.prog f args w (fun en w' => en = .returned r ∧ ∃ h', h' = [] ∧ Upd [] h' w w') → Calls Try.prog f args w fun en w' => en = .returned r ∧ Upd [] [] w w' := by
    intro f args r hh
    refine Calls.mono hh fun en w' hx => ?_
    obtain ⟨h1, h', rfl, h2⟩ := hx
    exact ⟨h1, h2⟩
  have lift : ∀ {f : FuncId} {args : Array Value} {r : Value}, (∀ W, Calls Try.prog f args W (fun en w' => en = .returned r ∧ Upd [] [] W w')) → ∀ W, In W [] → Calls Try.prog f args W fun en w' => en = .returned r ∧ ∃ h', h' = [] ∧ Upd [] h' W w' := by
    intro f args r hh W _
    exact Calls.mono (hh W) fun en w' hx => ⟨hx.1, [], rfl, hx.2⟩
  have hc : k = 1 ∨ k = 2 ∨ k = 3 ∨ k = 4 ∨ k = 5 ∨ k = 6 ∨ k = 7 ∨ k = 8 ∨ k = 9 ∨ k = 10 := by omega
  rcases hc with rfl | rfl | rfl | rfl | rfl | rfl | rfl | rfl | rfl | rfl
  · exact fin (do_make _ a b c v 1 w [] (· = []) (In.nil w) (lift (nil_make a b c)))
  · exact fin (do_get _ a b c v 1 w [] (· = []) (In.nil w) (lift (nil_get a b c)))
  · exact fin (do_set _ a b c v 1 w [] (· = []) (In.nil w) (lift (nil_set a b c)))
  · exact fin (do_read _ a b c v 0 1 w [] (· = []) (In.nil w) (lift (nil_read a b)))
  · exact fin (do_write _ a b c v 1 w [] (· = []) (In.nil w) (lift (nil_write a b v)))
  · exact fin (do_clear _ a b c v 1 w [] (· = []) (In.nil w) (lift (nil_clear a)))
  · exact fin (do_copy _ a b c v 1 w [] (· = []) (In.nil w) (lift (nil_copy a b)))
  · exact fin (do_same _ a b c v false 1 w [] (· = []) (In.nil w) (lift (nil_same a b)))
  · exact fin (do_nil _ a b c v false 1 w [] (· = []) (In.nil w) (lift (nil_nil a)))
  · exact fin (do_shape _ a b c v 0 0 1 w [] (· = []) (In.nil w) (lift (nil_shape a)))

set_option maxRecDepth 100000 in
set_option maxHeartbeats 4000000 in
theorem coreNone_any (k a b c v i : Int) (w : World) :
    Calls Try.prog 4 #[.agg (stepCells ⟨k, a, b, c, v⟩), .int .i64 i] w fun e w' => e = .returned (.bool true) ∧ Upd [] [] w w' := by
  have U0 := Upd.alloc (In.nil w) (.cells (stepCells ⟨k, a, b, c, v⟩) 39 (0, 0))
  have hstats := nil_stats
  by_cases h1 : 1 ≤ k
  · by_cases h2 : k ≤ 10
    · have hdo := nil_do k a b c v ⟨h1, h2⟩
      simp only [stepCells, ansCells, ansBad, statCells, stat0] at *
      go_enter Try.func4, Try.ntmps4
      go_wp2_with (first
        | (go_at_call 17; refine Calls.mono (nil_mark i _) ?_; rintro e w1 ⟨rfl, u1⟩; have U1 := Upd.under0 U0 u1)
        | (go_at_call 18; refine Calls.mono (nil_note i _) ?_; rintro e w2 ⟨rfl, u2⟩; have U2 := Upd.under0 U1 u2; obtain ⟨c0, c1, c2, c3, c4⟩ := step_cells (x := ⟨k, a, b, c, v⟩) U2.inn.head; simp only at c0 c1 c2 c3 c4)
        | (go_at_call 19; refine Calls.mono (hdo _) ?_; rintro e w3 ⟨rfl, u3⟩; have U3 := Upd.under0 U2 u3)
        | (go_at_call 10; refine Calls.mono (law_awake _) ?_; rintro e w4 ⟨rfl, u4⟩; have U4 := Upd.under0 U3 u4)
        | (go_at_call 20; refine Calls.mono (nil_now i _) ?_; rintro e w5 ⟨rfl, u5⟩; have U5 := Upd.under0 U4 u5)
        | (go_at_call 21; refine Calls.mono (nil_move i _) ?_; rintro e w6 ⟨rfl, u6⟩; have U6 := Upd.under0 U5 u6)
        | (go_at_call 22; refine Calls.mono (hstats _) ?_; rintro e w7 ⟨rfl, u7⟩; have U7 := Upd.under0 U6 u7))
      go_ret
      exact ⟨rfl, U7.drop1⟩
    · simp only [stepCells, statCells, stat0] at *
      go_enter Try.func4, Try.ntmps4
      go_wp2_with (first
        | (go_at_call 17; refine Calls.mono (nil_mark i _) ?_; rintro e w1 ⟨rfl, u1⟩; have U1 := Upd.under0 U0 u1)
        | (go_at_call 18; refine Calls.mono (nil_note i _) ?_; rintro e w2 ⟨rfl, u2⟩; have U2 := Upd.under0 U1 u2; obtain ⟨c0, c1, c2, c3, c4⟩ := step_cells (x := ⟨k, a, b, c, v⟩) U2.inn.head; simp only at c0 c1 c2 c3 c4)
        | (go_at_call 10; refine Calls.mono (law_awake _) ?_; rintro e w4 ⟨rfl, u4⟩; have U4 := Upd.under0 U2 u4)
        | (go_at_call 20; refine Calls.mono (nil_now i _) ?_; rintro e w5 ⟨rfl, u5⟩; have U5 := Upd.under0 U4 u5)
        | (go_at_call 21; refine Calls.mono (nil_move i _) ?_; rintro e w6 ⟨rfl, u6⟩; have U6 := Upd.under0 U5 u6)
        | (go_at_call 22; refine Calls.mono (hstats _) ?_; rintro e w7 ⟨rfl, u7⟩; have U7 := Upd.under0 U6 u7))
      go_ret
      exact ⟨rfl, U7.drop1⟩
  · simp only [stepCells, statCells, stat0] at *
    go_enter Try.func4, Try.ntmps4
    go_wp2_with (first
      | (go_at_call 17; refine Calls.mono (nil_mark i _) ?_; rintro e w1 ⟨rfl, u1⟩; have U1 := Upd.under0 U0 u1)
      | (go_at_call 18; refine Calls.mono (nil_note i _) ?_; rintro e w2 ⟨rfl, u2⟩; have U2 := Upd.under0 U1 u2; obtain ⟨c0, c1, c2, c3, c4⟩ := step_cells (x := ⟨k, a, b, c, v⟩) U2.inn.head; simp only at c0 c1 c2 c3 c4)
      | (go_at_call 10; refine Calls.mono (law_awake _) ?_; rintro e w4 ⟨rfl, u4⟩; have U4 := Upd.under0 U2 u4)
      | (go_at_call 20; refine Calls.mono (nil_now i _) ?_; rintro e w5 ⟨rfl, u5⟩; have U5 := Upd.under0 U4 u5)
      | (go_at_call 21; refine Calls.mono (nil_move i _) ?_; rintro e w6 ⟨rfl, u6⟩; have U6 := Upd.under0 U5 u6)
      | (go_at_call 22; refine Calls.mono (hstats _) ?_; rintro e w7 ⟨rfl, u7⟩; have U7 := Upd.under0 U6 u7))
    go_ret
    exact ⟨rfl, U7.drop1⟩


end Go.Proofs.Ytnemfdbllmahkaa
