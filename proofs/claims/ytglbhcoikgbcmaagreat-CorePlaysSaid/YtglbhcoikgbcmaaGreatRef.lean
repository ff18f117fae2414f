/- The document's graph in memory: what it is to hold it; what has and wrong come to. Conditions: a graph as New makes it. -/
import Derived.Test.YtglbhcoikgbcmaaGreatRows
import Derived.Test.YtglbhcoikgbcmaaGreatGraphB
import Derived.BigQuiet
import Derived.Deep.QuietTactic
set_option linter.unusedVariables false
set_option linter.unusedSimpArgs false
namespace Go.Proofs.YtglbhcoikgbcmaaGreat
open Go.RowKit

abbrev u64s (l : List Int) : List Value := l.map (Value.int .u64)

/-- an element of a slice of numbers, where it lies -/
theorem SliceH.numAt {T : TypeId} {ao : Option Addr} {n cap : Nat} {l : List Int} {h : Hp} {w : World} {kd : IntKind} (sl : SliceH T 1 (.slice ao n cap) n (l.map (Value.int kd)) h) (hi : In w h) {k : Nat} (hk : k < n) :
    ∃ g off, ao = some ⟨g, off, none⟩ ∧ w.cell? ⟨g, off + k, none⟩ = some (.int kd (l.getD k 0)) ∧ ∀ j, w.frozen? ⟨g, j, none⟩ = false := by
  obtain ⟨g, off, cap', hv, _⟩ := sl.addr (by omega)
  have hl : k < l.length := by have := sl.1; simp at this; omega
  have hc := sl.cell hi hv (j := k) (by simpa using hl)
  have hf := fun j => sl.frozen hi hv j
  simp only [Value.slice.injEq] at hv
  refine ⟨g, off, hv.1, ?_, hf⟩
  rw [hc]
  simp [List.getD, hl]

/-- a node, the values of its two rows, and their blocks -/
structure NRow where
  node : NodeS
  vp : Value
  vs : Value
  hp : Hp
  hs : Hp
def NRow.cells (r : NRow) : List Value := [r.vp, r.vs]
def NRow.blocks (r : NRow) : Hp := r.hp ++ r.hs
structure NRow.Ok (r : NRow) : Prop where
  p : SliceH 3 1 r.vp r.node.ptrs.length (ints r.node.ptrs) r.hp
  s : SliceH 33 1 r.vs r.node.scal.length (u64s r.node.scal) r.hs
def graphObj (g : GraphS) (vn vh : Value) : Obj := .cells #[vn, vh, .int .i64 g.largest] 73 (0, 0)
abbrev graphParts (p : Nat) (o : Obj) (hn hh : Hp) (rows : List NRow) : List Hp := [(p, o)] :: hn :: hh :: rows.map NRow.blocks
def GraphH (p : Nat) (g : GraphS) (h : Hp) : Prop :=
  ∃ vn vh hn hh rows, h = (graphParts p (graphObj g vn vh) hn hh rows).flatten ∧ SliceH 79 2 vn rows.length (rows.flatMap NRow.cells) hn ∧ SliceH 3 1 vh g.hs.length (ints g.hs) hh ∧ (∀ r ∈ rows, r.Ok) ∧ g.nodes = rows.map NRow.node

/-- a graph whose numbers are numbers of nodes -/
structure GraphS.Ok (g : GraphS) : Prop where
  n1 : 1 ≤ g.nodes.length
  n2 : g.nodes.length ≤ 1048576
  hv : ∀ x ∈ g.hs, 0 ≤ x ∧ x < g.nodes.length
  h64 : g.hs.length ≤ 64
  pv : ∀ x ∈ g.nodes, ∀ y ∈ x.ptrs, 0 ≤ y ∧ y < g.nodes.length
  sz : ∀ x ∈ g.nodes, x.ptrs.length ≤ 64 ∧ x.scal.length ≤ 64
  l0 : 0 ≤ g.largest
  l1 : g.largest ≤ 64

theorem nrows_get : ∀ (rows : List NRow) (n j : Nat), j < 2 → (rows.flatMap NRow.cells)[n * 2 + j]? = (rows[n]?).bind fun r => (NRow.cells r)[j]? := by
  intro rows
  induction rows with
  | nil => intro n j _; simp
  | cons r rows ih =>
    intro n j hj
    cases n with
    | zero =>
      simp only [List.flatMap_cons, Nat.zero_mul, Nat.zero_add, List.getElem?_cons_zero, Option.bind_some]
      rw [List.getElem?_append_left (by simp [NRow.cells]; exact hj)]
    | succ n =>
      have e : (n + 1) * 2 + j = (NRow.cells r).length + (n * 2 + j) := by simp [NRow.cells]; omega
      simp only [List.flatMap_cons, List.getElem?_cons_succ]
      rw [e, List.getElem?_append_right (by omega)]
      rw [Nat.add_sub_cancel_left]
      exact ih n j hj
theorem nrows_len (rows : List NRow) : (rows.flatMap NRow.cells).length = rows.length * 2 := by
  induction rows with
  | nil => rfl
  | cons r rows ih => simp only [List.flatMap_cons, List.length_append, ih, List.length_cons]; simp [NRow.cells]; omega

section
variable {w : World} {p : Nat} {g : GraphS} {x h : Hp}

/-- the graph's own cells -/
theorem GraphH.own (gh : GraphH p g h) (hi : In w (x ++ h)) :
    ∃ an capn ah caph, w.cell? ⟨p, 0, none⟩ = some (.slice an g.nodes.length capn) ∧ w.cell? ⟨p, 1, none⟩ = some (.slice ah g.hs.length caph) ∧ w.cell? ⟨p, 2, none⟩ = some (.int .i64 g.largest) ∧ (∀ i, w.frozen? ⟨p, i, none⟩ = false) ∧
      ∀ i : Nat, i < g.hs.length → ∃ b o, ah = some ⟨b, o, none⟩ ∧ w.cell? ⟨b, o + i, none⟩ = some (.int .i64 (g.hs.getD i 0)) ∧ ∀ j, w.frozen? ⟨b, j, none⟩ = false := by
  obtain ⟨vn, vh, hn, hh, rows, rfl, sn, sh, hr, hg⟩ := gh
  obtain ⟨an, capn, rfl, _⟩ := sn.shape
  obtain ⟨ah, caph, rfl, _⟩ := sh.shape
  have hb := (hi.right.part (i := 0) rfl).head
  have hl : g.nodes.length = rows.length := by rw [hg]; simp
  rw [hl]
  exact ⟨an, capn, ah, caph, cell_of hb 0, cell_of hb 1, cell_of hb 2, fun i => frozen_of hb i, fun i hil => sh.numAt (hi.right.part (i := 2) rfl) hil⟩

/-- a node's cells -/
theorem GraphH.node (gh : GraphH p g h) (hi : In w (x ++ h)) {n : Nat} (hn : n < g.nodes.length) :
    ∃ b o capn ap capp az caps, w.cell? ⟨p, 0, none⟩ = some (.slice (some ⟨b, o, none⟩) g.nodes.length capn) ∧
      w.cell? ⟨b, o + n * 2, none⟩ = some (.slice ap (g.nodes.getD n nd0).ptrs.length capp) ∧ w.cell? ⟨b, o + n * 2 + 1, none⟩ = some (.slice az (g.nodes.getD n nd0).scal.length caps) ∧
      (∀ i : Nat, i < (g.nodes.getD n nd0).ptrs.length → ∃ b o, ap = some ⟨b, o, none⟩ ∧ w.cell? ⟨b, o + i, none⟩ = some (.int .i64 ((g.nodes.getD n nd0).ptrs.getD i 0)) ∧ ∀ j, w.frozen? ⟨b, j, none⟩ = false) ∧
      (∀ i : Nat, i < (g.nodes.getD n nd0).scal.length → ∃ b o, az = some ⟨b, o, none⟩ ∧ w.cell? ⟨b, o + i, none⟩ = some (.int .u64 ((g.nodes.getD n nd0).scal.getD i 0)) ∧ ∀ j, w.frozen? ⟨b, j, none⟩ = false) := by
  obtain ⟨vn, vh, hn', hh, rows, rfl, sn, sh, hr, hg⟩ := gh
  have hl : g.nodes.length = rows.length := by rw [hg]; simp
  have hb := (hi.right.part (i := 0) rfl).head
  have hnr : n < rows.length := by omega
  have hrn : rows[n]? = some rows[n] := List.getElem?_eq_getElem hnr
  have hnode : g.nodes.getD n nd0 = rows[n].node := by rw [hg]; simp [List.getD, hnr]
  have hok := hr rows[n] (List.getElem_mem hnr)
  have hpart : In w rows[n].blocks := hi.right.part (i := n + 3) (by simp [hrn])
  obtain ⟨b, o, capn, hv, _⟩ := sn.addr (by omega)
  have hxl := nrows_len rows
  have c0 := sn.cell (hi.right.part (i := 1) rfl) hv (j := n * 2) (by omega)
  have c1 := sn.cell (hi.right.part (i := 1) rfl) hv (j := n * 2 + 1) (by omega)
  have g0 := nrows_get rows n 0 (by omega)
  have g1 := nrows_get rows n 1 (by omega)
  rw [hrn] at g0 g1
  have e0 : (rows.flatMap NRow.cells)[n * 2]? = some rows[n].vp := g0
  have e1 : (rows.flatMap NRow.cells)[n * 2 + 1]? = some rows[n].vs := g1
  rw [← List.getElem?_eq_getElem] at c0 c1
  rw [e0] at c0
  rw [e1] at c1
  obtain ⟨ap, capp, hvp, _⟩ := hok.p.shape
  obtain ⟨az, caps, hvs, _⟩ := hok.s.shape
  rw [hvp] at c0
  rw [hvs] at c1
  have hp2 := hok.p
  have hs2 := hok.s
  rw [hvp] at hp2
  rw [hvs] at hs2
  subst hv
  rw [hl, hnode]
  exact ⟨b, o, capn, ap, capp, az, caps, cell_of hb 0, c0, c1, fun i hil => hp2.numAt hpart.left hil, fun i hil => hs2.numAt hpart.right hil⟩
end

set_option maxRecDepth 100000 in
set_option maxHeartbeats 1000000 in
theorem ref_has (p : Nat) (g : GraphS) (i : Int) (w : World) (h : Hp) (hi : In w h) (gh : GraphH p g h) :
    Calls Tryz.prog 33 #[.pointer (some ⟨p, 0, none⟩), .int .i64 i] w fun e w' => e = .returned (.bool (tblOk g.hs i)) ∧ w = w' := by
  obtain ⟨an, capn, ah, caph, c0, c1, c2, cf, _⟩ := gh.own (x := []) hi
  by_cases h0 : 0 ≤ i
  · by_cases h1 : i < g.hs.length
    · have e : tblOk g.hs i = true := by rw [tblOk_iff]; exact ⟨h0, h1⟩
      rw [e]
      clear e cf gh hi
      go_enter Tryz.func33, Tryz.ntmps33
      go_wp2
      go_ret
      exact ⟨rfl, rfl⟩
    · have e : tblOk g.hs i = false := by simp [tblOk]; omega
      rw [e]
      clear e cf gh hi
      go_enter Tryz.func33, Tryz.ntmps33
      go_wp2
      go_ret
      exact ⟨rfl, rfl⟩
  · have e : tblOk g.hs i = false := by simp [tblOk]; omega
    rw [e]
    clear e cf gh hi
    go_enter Tryz.func33, Tryz.ntmps33
    go_wp2
    go_ret
    exact ⟨rfl, rfl⟩

theorem tblOk_nat {l : List Int} {i : Int} (h : tblOk l i = true) : ∃ k : Nat, i = k ∧ k < l.length ∧ tblGet l i = l.getD k 0 := by
  have hi := tblOk_iff.1 h
  refine ⟨i.toNat, by omega, by omega, ?_⟩
  unfold tblGet
  rw [if_pos h]

set_option maxRecDepth 100000 in
set_option maxHeartbeats 1000000 in
theorem ref_wrong (p : Nat) (g : GraphS) (i : Int) (w : World) (h : Hp) (hi : In w h) (gh : GraphH p g h) :
    Calls Tryz.prog 32 #[.pointer (some ⟨p, 0, none⟩), .int .i64 i] w fun e w' => e = .returned (.int .i64 (g.wrong i)) ∧ w = w' := by
  have hhas := ref_has p g i w h hi gh
  obtain ⟨an, capn, ah, caph, c0, c1, c2, cf, ch⟩ := gh.own (x := []) hi
  by_cases ho : tblOk g.hs i = true
  · rw [ho] at hhas
    obtain ⟨k, rfl, hk, hget⟩ := tblOk_nat ho
    obtain ⟨b, o, rfl, ck, _⟩ := ch k hk
    have hkl : ((k : Int) < g.hs.length) := by omega
    by_cases hz : g.hs.getD k 0 = 0
    · have e : g.wrong k = 4 := by unfold GraphS.wrong; rw [if_pos ho, hget, if_pos hz]
      rw [e]
      rw [hz] at ck
      clear e hz hget ho ch cf gh hi c0 c2
      go_enter Tryz.func32, Tryz.ntmps32
      go_wp2_with (go_at_call 33; refine Calls.mono hhas ?_; rintro e w1 ⟨rfl, rfl⟩)
      go_ret
      exact ⟨rfl, rfl⟩
    · have e : g.wrong k = 0 := by unfold GraphS.wrong; rw [if_pos ho, hget, if_neg hz]
      rw [e]
      have hne : (g.hs.getD k 0 == 0) = false := by simpa using hz
      generalize g.hs.getD k 0 = y at *
      clear e hz hget ho ch cf gh hi c0 c2
      go_enter Tryz.func32, Tryz.ntmps32
      go_wp2_with (go_at_call 33; refine Calls.mono hhas ?_; rintro e w1 ⟨rfl, rfl⟩)
      go_ret
      exact ⟨rfl, rfl⟩
  · have ho2 : tblOk g.hs i = false := by simpa using ho
    rw [ho2] at hhas
    have e : g.wrong i = 3 := by simp [GraphS.wrong, ho2]
    rw [e]
    clear e ho ho2 ch cf gh hi c0 c1 c2
    go_enter Tryz.func32, Tryz.ntmps32
    go_wp2_with (go_at_call 33; refine Calls.mono hhas ?_; rintro e w1 ⟨rfl, rfl⟩)
    go_ret
    exact ⟨rfl, rfl⟩

end Go.Proofs.YtglbhcoikgbcmaaGreat
