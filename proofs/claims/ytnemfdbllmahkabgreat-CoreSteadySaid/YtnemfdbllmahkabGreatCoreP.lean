/- A core's parts as they are called from outside: the table, the arena, the stack. Conditions: a core as New makes it. -/
import Derived.Test.YtnemfdbllmahkabGreatRows
import Derived.Test.YtnemfdbllmahkabGreatCoreH
import Derived.Test.YtnemfdbllmahkabGreatTableB
set_option linter.unusedVariables false
set_option linter.unusedSimpArgs false
namespace Go.Proofs.YtnemfdbllmahkabGreat
open Go.RowKit

theorem Upd.moreX {w0 w w' : World} {h0 x h h' : Hp} (a : Upd h0 (x ++ h) w0 w) (u : Upd [] h' w w') : Upd h0 ((h' ++ x) ++ h) w0 w' := by
  have := a.more u
  rwa [← List.append_assoc] at this
theorem Upd.moreL {w0 w w' : World} {h0 k h' : Hp} (a : Upd h0 k w0 w) (u : Upd [] h' w w') : Upd h0 (k ++ h') w0 w' := (a.more u).perm (List.Perm.refl _) List.perm_append_comm
theorem Upd.allocX {w0 w : World} {h0 x h : Hp} (a : Upd h0 (x ++ h) w0 w) (o : Obj) : Upd h0 (((w.heap.size, o) :: x) ++ h) w0 (w.alloc o) := a.alloc' o
theorem Upd.leftX {w0 w w' : World} {h0 x y y' h : Hp} (a : Upd h0 ((x ++ y) ++ h) w0 w) (u : Upd x y' w w') : Upd h0 ((y' ++ y) ++ h) w0 w' := by
  rw [List.append_assoc] at a ⊢
  exact a.trans (u.beside a.inn)

theorem CoreH.ptrs {pc : Nat} {L : CoreL} {s : CoreS} {x h : Hp} {w : World} (hc : CoreH pc L s h) (hi : In w (x ++ h)) :
    w.cell? ⟨pc, 13, none⟩ = some (ptr L.pa) ∧ w.cell? ⟨pc, 14, none⟩ = some (ptr L.py) ∧ w.cell? ⟨pc, 15, none⟩ = some (ptr L.po) ∧ w.cell? ⟨pc, 16, none⟩ = some (ptr L.pr) ∧ w.cell? ⟨pc, 17, none⟩ = some (ptr L.pg) ∧ w.cell? ⟨pc, 18, none⟩ = some (ptr L.pt) := by
  obtain ⟨v, ha, hy, ho, hr, hg, ht, hw, rfl, ca, cy, co, cr, cg, ct, cw⟩ := hc
  exact core_ptrs (In.core hi)
theorem CoreH.vars {pc : Nat} {L : CoreL} {s : CoreS} {x h : Hp} {w : World} (hc : CoreH pc L s h) (hi : In w (x ++ h)) :
    w.cell? ⟨pc, 20, none⟩ = some (.int .i64 s.phase) ∧ w.cell? ⟨pc, 21, none⟩ = some (.bool s.moving) := by
  obtain ⟨v, ha, hy, ho, hr, hg, ht, hw, rfl, ca, cy, co, cr, cg, ct, cw⟩ := hc
  exact ⟨cell_of (In.core hi) 20, cell_of (In.core hi) 21⟩
theorem CoreH.facts {pc : Nat} {L : CoreL} {s : CoreS} {h : Hp} (hc : CoreH pc L s h) : s.t.length ≤ 64 ∧ (∀ x ∈ s.t, I64 x) ∧ s.ws.length ≤ 1048576 ∧ (∀ x ∈ s.ws, U64 x) := by
  obtain ⟨v, ha, hy, ho, hr, hg, ht, hw, rfl, ca, cy, co, cr, cg, ct, cw⟩ := hc
  obtain ⟨_, _, h1, h2⟩ := ct
  obtain ⟨_, _, _, h3, h4⟩ := ca
  exact ⟨h1, h2, h3, h4⟩

theorem core_all (pc : Nat) (L : CoreL) (s : CoreS) (w : World) (h : Hp) (hi : In w h) (hc : CoreH pc L s h) :
    Calls Tryz.prog 8 #[.pointer (some ⟨L.pt, 0, none⟩)] w fun e w' => ∃ v h', e = .returned v ∧ SliceH 3 1 v s.t.length (ints s.t) h' ∧ Upd [] h' w w' := by
  obtain ⟨v, ha, hy, ho, hr, hg, ht, hw, rfl, ca, cy, co, cr, cg, ct, cw⟩ := hc
  exact table_all L.pt s.t w ht (In.table (x := []) hi) ct

/-- an element of a slice of numbers, where it lies -/
theorem SliceH.intAt {T : TypeId} {ao : Option Addr} {n cap : Nat} {l : List Int} {h : Hp} {w : World} {kd : IntKind} (sl : SliceH T 1 (.slice ao n cap) n (l.map (Value.int kd)) h) (hi : In w h) {k : Nat} (hk : k < n) :
    ∃ g off, ao = some ⟨g, off, none⟩ ∧ w.cell? ⟨g, off + k, none⟩ = some (.int kd (l.getD k 0)) := by
  obtain ⟨g, off, cap', hv, _⟩ := sl.addr (by omega)
  have hl : k < l.length := by have := sl.1; simp at this; omega
  have hc := sl.cell hi hv (j := k) (by simpa using hl)
  simp only [Value.slice.injEq] at hv
  refine ⟨g, off, hv.1, ?_⟩
  rw [hc]
  simp [List.getD, hl]

end Go.Proofs.YtnemfdbllmahkabGreat
