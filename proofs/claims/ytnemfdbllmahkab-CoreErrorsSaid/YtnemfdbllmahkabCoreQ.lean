/- A core's arena as it is called from outside. Conditions: a core as New makes it. -/
import Derived.Test.YtnemfdbllmahkabRows
import Derived.Test.YtnemfdbllmahkabCoreP
set_option linter.unusedVariables false
set_option linter.unusedSimpArgs false
namespace Go.Proofs.Ytnemfdbllmahkab
open Go.RowKit

theorem core_alen (pc : Nat) (L : CoreL) (s : CoreS) (w : World) (h : Hp) (hi : In w h) (hc : CoreH pc L s h) :
    Calls Try.prog 9 #[.pointer (some ⟨L.pa, 0, none⟩)] w fun e w' => e = .returned (.int .i64 s.ws.length) ∧ w = w' := by
  obtain ⟨v, ha, hy, ho, hr, hg, ht, hw, rfl, ca, cy, co, cr, cg, ct, cw⟩ := hc
  have h1 := In.arena (x := []) hi
  obtain ⟨b, n, rfl, _⟩ := ca
  exact arena_len L.pa b s.ws.length w (cell_of h1.head 0)

theorem core_aload (pc : Nat) (L : CoreL) (s : CoreS) (i : Nat) (hl : i < s.ws.length) (w : World) (h : Hp) (hi : In w h) (hc : CoreH pc L s h) :
    Calls Try.prog 10 #[.pointer (some ⟨L.pa, 0, none⟩), .int .i64 i] w fun e w' => e = .returned (.tuple #[.int .u64 (s.ws.getD i 0), .int .i64 0]) ∧ ∃ h', CoreH pc L s h' ∧ Upd h h' w w' := by
  obtain ⟨v, ha, hy, ho, hr, hg, ht, hw, rfl, ca, cy, co, cr, cg, ct, cw⟩ := hc
  have hh : hasW s.ws.length i 1 = true := by simp [hasW]; omega
  have hr' := arena_load L.pa s.ws i w ha (In.arena (x := []) hi) ca
  have e1 : ldW s.ws i = s.ws.getD i 0 := by simp [ldW, hh, rd]
  have e2 : errW s.ws.length i 1 = 0 := by simp [errW, hh]
  rw [e1, e2] at hr'
  refine Calls.mono hr' ?_
  rintro e w' ⟨rfl, h', ca', u⟩
  exact ⟨rfl, _, ⟨v, h', hy, ho, hr, hg, ht, hw, rfl, ca', cy, co, cr, cg, ct, cw⟩, Upd.arena (x := []) (Upd.refl hi) u⟩

end Go.Proofs.Ytnemfdbllmahkab
