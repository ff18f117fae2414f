/- What Make of the document's graph comes to. Conditions: a graph as New makes it, its numbers those of nodes. -/
import Derived.Test.YtglbhcoikgbcmaaGreatRows
import Derived.Test.YtglbhcoikgbcmaaGreatRefC
import Derived.Test.YtglbhcoikgbcmaaGreatSliceB
import Derived.Test.YtglbhcoikgbcmaaGreatRegionT
import Derived.Deep.DeepCutAuto
set_option linter.unusedVariables false
set_option linter.unusedSimpArgs false
namespace Go.Proofs.YtglbhcoikgbcmaaGreat
open Go.RowKit

theorem Tryz.infoNode : (Tryz.prog.info? 79).map (fun i => (i.zero, i.size, i.bytes)) = some (some (.agg #[.slice none 0 0, .slice none 0 0]), 2, 48) := by kernel_rfl

/-- a graph with a node more, its handle not yet set -/
def GraphS.more (g : GraphS) (b c : Nat) : GraphS := { g with nodes := g.nodes ++ [⟨List.replicate b 0, List.replicate c 0⟩] }

theorem skipc {w : World} {o : Obj} {b i : Nat} {v : Value} (hc : w.cell? ⟨b, i, none⟩ = some v) : (w.alloc o).cell? ⟨b, i, none⟩ = some v := ((Upd.refl (In.nil w)).skip' o).keepc hc
theorem drewc {w : World} {b i : Nat} {v : Value} (hc : w.cell? ⟨b, i, none⟩ = some v) : w.drew.cell? ⟨b, i, none⟩ = some v := hc
theorem skipf {w : World} {o : Obj} {b i j : Nat} {v : Value} (hc : w.cell? ⟨b, j, none⟩ = some v) (hf : w.frozen? ⟨b, i, none⟩ = false) : (w.alloc o).frozen? ⟨b, i, none⟩ = false := ((Upd.refl (In.nil w)).skip' o).keepf hc hf

theorem more_parts (p : Nat) (o : Obj) (hn hh : Hp) (rows : List NRow) (r : NRow) : (graphParts p o hn hh (rows ++ [r])).flatten = (graphParts p o hn hh rows).flatten ++ r.blocks := by
  simp [graphParts]
theorem more_permA (m1 m2 bx : Nat × Obj) (P : Hp) : ([m2, m1, bx] ++ P).Perm ([bx] ++ (P ++ [m1, m2])) := by
  have h1 : ([m2, m1] ++ ([bx] ++ P)).Perm (([bx] ++ P) ++ [m2, m1]) := List.perm_append_comm
  have h2 : [m2, m1].Perm [m1, m2] := List.Perm.swap ..
  have h3 := h1.trans (h2.append_left ([bx] ++ P))
  rw [List.append_assoc] at h3
  exact h3
theorem more_permB (m1 m2 bx : Nat × Obj) (P : Hp) : ([m1, m2, bx] ++ P).Perm ([bx] ++ (P ++ [m1, m2])) := by
  have h1 : ([m1, m2] ++ ([bx] ++ P)).Perm (([bx] ++ P) ++ [m1, m2]) := List.perm_append_comm
  rw [List.append_assoc] at h1
  exact h1

/-- behind the append, and the store of the row it came to -/
theorem graph_more {p : Nat} {g : GraphS} {vn vh : Value} {hh : Hp} {rows : List NRow} {bn cn : Nat} (sh : SliceH 3 1 vh g.hs.length (ints g.hs) hh) (hr : ∀ r ∈ rows, r.Ok) (hg : g.nodes = rows.map NRow.node)
    {r : NRow} (hro : r.Ok) (hrn : r.node = ⟨List.replicate bn 0, List.replicate cn 0⟩) {an : Option Addr} {capn : Nat} {hX : Hp} (hS : SliceH 79 2 (.slice an (rows.length + 1) capn) (rows.length + 1) (rows.flatMap NRow.cells ++ r.cells) hX)
    {bx : Nat × Obj} {h0 : Hp} {w w3 : World} (U : Upd h0 ([bx] ++ ((graphParts p (graphObj g vn vh) hX hh rows).flatten ++ r.blocks)) w w3) :
    ∃ h1, GraphH p (g.more bn cn) h1 ∧ Upd h0 ([bx] ++ h1) w (w3.setCell ⟨p, 0, none⟩ (.slice an (rows.length + 1) capn)) := by
  rw [← more_parts] at U
  have hin := U.inn.right.part (i := 0) (x := [(p, graphObj g vn vh)]) rfl
  have u := Upd.store (l := []) (r := []) (b := p) (off := 0) (v := .slice an (rows.length + 1) capn) (arr := #[vn, vh, .int .i64 g.largest]) (T := 73) (fr := (0, 0)) hin
  have U2 := flatten_part U (i := 0) rfl u
  refine ⟨_, ⟨.slice an (rows.length + 1) capn, vh, hX, hh, rows ++ [r], rfl, ?_, sh, ?_, ?_⟩, U2⟩
  · rw [List.length_append, List.flatMap_append]
    simpa using hS
  · intro q hq
    rcases List.mem_append.1 hq with h1 | h1
    · exact hr q h1
    · simp at h1
      rw [h1]
      exact hro
  · show g.nodes ++ _ = _
    rw [List.map_append, hg, ← hrn]
    rfl

set_option maxRecDepth 100000 in
set_option maxHeartbeats 4000000 in
theorem ref_make (p : Nat) (g : GraphS) (ok : g.Ok) (a b c v : Int) (w : World) (h : Hp) (hi : In w h) (gh : GraphH p g h) :
    Calls Tryz.prog 31 #[.pointer (some ⟨p, 0, none⟩), .agg (stepCells ⟨1, a, b, c, v⟩)] w fun e w' =>
      e = .returned (.int .i64 (g.makeE a b c)) ∧ ∃ h', GraphH p (if g.makeE a b c = 0 then g.make a b c else g) h' ∧ Upd h h' w w' := by
  have U0 := Upd.alloc hi (.cells (stepCells ⟨1, a, b, c, v⟩) 35 (0, 0))
  have hhas := ref_has p g a _ h U0.inn.tail gh
  have gh0 := gh
  by_cases ho : tblOk g.hs a = true
  · rw [ho] at hhas
    obtain ⟨an, capn, ah, caph, c0, c1, c2, cf, ch⟩ := gh.own (x := [_]) U0.inn
    have l1 := ok.l1
    have l0 := ok.l0
    by_cases hsz : g.shapeOk b c = true
    · have hs2 := hsz
      simp only [GraphS.shapeOk, decide_eq_true_eq] at hs2
      obtain ⟨b0, c00, b1, c11⟩ := hs2
      have e1 : g.makeE a b c = 0 := by unfold GraphS.makeE; rw [if_pos ho, if_pos hsz]
      rw [e1, if_pos rfl]
      obtain ⟨bn, rfl⟩ : ∃ bn : Nat, b = bn := ⟨b.toNat, by omega⟩
      obtain ⟨cn, rfl⟩ : ∃ cn : Nat, c = cn := ⟨c.toNat, by omega⟩
      have hw : IntKind.i64.wrap (g.largest - bn) = g.largest - bn := IntWalk.i64_in _ (by omega)
      have hmk1 := fun W => run_make1 (P := Tryz.prog) W 59 3 (.int .i64 0) 8 Tryz.underlying59 Tryz.infoInt rfl bn (by omega) (by decide)
      have hmk2 := fun W => run_make1 (P := Tryz.prog) W 77 33 (.int .u64 0) 8 Tryz.underlying77 Tryz.infoU64 rfl cn (by omega) (by decide)
      obtain ⟨vn, vh, hn, hh, rows, rfl, sn, sh, hr, hg⟩ := gh
      obtain ⟨an, capn, rfl, _⟩ := sn.shape
      have hgl : g.nodes.length = rows.length := by rw [hg]; simp
      have n2 : rows.length ≤ 1048576 := by rw [← hgl]; exact ok.n2
      have n1 : 1 ≤ rows.length := by rw [← hgl]; exact ok.n1
      clear hsz e1 cf ch c0 c1
      simp only [stepCells] at *
      go_enter Tryz.func31, Tryz.ntmps31
      go_wp2_with (go_at_call 33; with_reducible refine Calls.mono hhas ?_; rintro e w1 ⟨rfl, rfl⟩)
      go_quiet (fail)
      go_wp2
      have UQ := U0.drewN' nq
      generalize (w.alloc (.cells #[.int .i64 1, .int .i64 a, .int .i64 bn, .int .i64 cn, .int .u64 v] 35 (0, 0))).drewN nq = W0 at *
      have p0 : W0.cell? ⟨p, 0, none⟩ = some (.slice an rows.length capn) := cell_of (UQ.inn.tail.part (i := 0) rfl).head 0
      have pf : W0.frozen? ⟨p, 0, none⟩ = false := frozen_of (UQ.inn.tail.part (i := 0) rfl).head 0
      have x2 : W0.cell? ⟨w.heap.size, 2, none⟩ = some (.int .i64 bn) := cell_of UQ.inn.head 2
      have x3 : W0.cell? ⟨w.heap.size, 3, none⟩ = some (.int .i64 cn) := cell_of UQ.inn.head 3
      have UA0 := (UQ.alloc' (.cells (Array.replicate bn (Value.int .i64 0)) 3 (0, 0))).alloc' (.cells (Array.replicate cn (Value.int .u64 0)) 33 (0, 0))
      rw [show (W0.alloc (.cells (Array.replicate bn (Value.int .i64 0)) 3 (0, 0))).heap.size = W0.heap.size + 1 by simp] at UA0
      have UA := (UA0.skip' (.cells #[.slice (some ⟨W0.heap.size, 0, none⟩) bn bn, .slice (some ⟨W0.heap.size + 1, 0, none⟩) cn cn] 79 (0, 0))).drew'
      have hbA : ((((W0.alloc (.cells (Array.replicate bn (Value.int .i64 0)) 3 (0, 0))).alloc (.cells (Array.replicate cn (Value.int .u64 0)) 33 (0, 0))).alloc (.cells #[.slice (some ⟨W0.heap.size, 0, none⟩) bn bn, .slice (some ⟨W0.heap.size + 1, 0, none⟩) cn cn] 79 (0, 0))).drew).heap[W0.heap.size + 2]? = some (.cells #[.slice (some ⟨W0.heap.size, 0, none⟩) bn bn, .slice (some ⟨W0.heap.size + 1, 0, none⟩) cn cn] 79 (0, 0)) := heap_alloc_at (w := (W0.alloc (.cells (Array.replicate bn (Value.int .i64 0)) 3 (0, 0))).alloc (.cells (Array.replicate cn (Value.int .u64 0)) 33 (0, 0))) (by simp)
      have hnA := news_of (news := [.slice (some ⟨W0.heap.size, 0, none⟩) bn bn, .slice (some ⟨W0.heap.size + 1, 0, none⟩) cn cn]) hbA
      have HNA := Lib.hid hnA
      clear hnA hbA
      have UB0 := (UQ.alloc' (.cells (Array.replicate cn (Value.int .u64 0)) 33 (0, 0))).alloc' (.cells (Array.replicate bn (Value.int .i64 0)) 3 (0, 0))
      rw [show (W0.alloc (.cells (Array.replicate cn (Value.int .u64 0)) 33 (0, 0))).heap.size = W0.heap.size + 1 by simp] at UB0
      have UB := (UB0.skip' (.cells #[.slice (some ⟨W0.heap.size + 1, 0, none⟩) bn bn, .slice (some ⟨W0.heap.size, 0, none⟩) cn cn] 79 (0, 0))).drew'
      have hbB : ((((W0.alloc (.cells (Array.replicate cn (Value.int .u64 0)) 33 (0, 0))).alloc (.cells (Array.replicate bn (Value.int .i64 0)) 3 (0, 0))).alloc (.cells #[.slice (some ⟨W0.heap.size + 1, 0, none⟩) bn bn, .slice (some ⟨W0.heap.size, 0, none⟩) cn cn] 79 (0, 0))).drew).heap[W0.heap.size + 2]? = some (.cells #[.slice (some ⟨W0.heap.size + 1, 0, none⟩) bn bn, .slice (some ⟨W0.heap.size, 0, none⟩) cn cn] 79 (0, 0)) := heap_alloc_at (w := (W0.alloc (.cells (Array.replicate cn (Value.int .u64 0)) 33 (0, 0))).alloc (.cells (Array.replicate bn (Value.int .i64 0)) 3 (0, 0))) (by simp)
      have hnB := news_of (news := [.slice (some ⟨W0.heap.size + 1, 0, none⟩) bn bn, .slice (some ⟨W0.heap.size, 0, none⟩) cn cn]) hbB
      have HNB := Lib.hid hnB
      clear hnB hbB
      have qA1 := skipc (o := (.cells (Array.replicate bn (Value.int .i64 0)) 3 (0, 0))) p0
      have qA2 := skipc (o := (.cells (Array.replicate cn (Value.int .u64 0)) 33 (0, 0))) qA1
      have qA3 := skipc (o := (.cells #[.slice (some ⟨W0.heap.size, 0, none⟩) bn bn, .slice (some ⟨W0.heap.size + 1, 0, none⟩) cn cn] 79 (0, 0))) qA2
      have sA1 := skipc (o := (.cells (Array.replicate bn (Value.int .i64 0)) 3 (0, 0))) x2
      have sA2 := skipc (o := (.cells (Array.replicate cn (Value.int .u64 0)) 33 (0, 0))) sA1
      have tA1 := skipc (o := (.cells (Array.replicate bn (Value.int .i64 0)) 3 (0, 0))) x3
      have tA2 := skipc (o := (.cells (Array.replicate cn (Value.int .u64 0)) 33 (0, 0))) tA1
      have ROA : (⟨⟨List.replicate bn 0, List.replicate cn 0⟩, .slice (some ⟨W0.heap.size, 0, none⟩) bn bn, .slice (some ⟨W0.heap.size + 1, 0, none⟩) cn cn, [(W0.heap.size, .cells (Array.replicate bn (Value.int .i64 0)) 3 (0, 0))], [(W0.heap.size + 1, .cells (Array.replicate cn (Value.int .u64 0)) 33 (0, 0))]⟩ : NRow).Ok := ⟨by (have := SliceH.made (T := 3) (g := W0.heap.size) (xs := ints (List.replicate bn 0)) (n := bn) (by simp) (by unfold maxLen; omega); simpa [ints] using this), by (have := SliceH.made (T := 33) (g := W0.heap.size + 1) (xs := u64s (List.replicate cn 0)) (n := cn) (by simp) (by unfold maxLen; omega); simpa [u64s] using this)⟩
      have qB1 := skipc (o := (.cells (Array.replicate cn (Value.int .u64 0)) 33 (0, 0))) p0
      have qB2 := skipc (o := (.cells (Array.replicate bn (Value.int .i64 0)) 3 (0, 0))) qB1
      have qB3 := skipc (o := (.cells #[.slice (some ⟨W0.heap.size + 1, 0, none⟩) bn bn, .slice (some ⟨W0.heap.size, 0, none⟩) cn cn] 79 (0, 0))) qB2
      have sB1 := skipc (o := (.cells (Array.replicate cn (Value.int .u64 0)) 33 (0, 0))) x2
      have sB2 := skipc (o := (.cells (Array.replicate bn (Value.int .i64 0)) 3 (0, 0))) sB1
      have tB1 := skipc (o := (.cells (Array.replicate cn (Value.int .u64 0)) 33 (0, 0))) x3
      have tB2 := skipc (o := (.cells (Array.replicate bn (Value.int .i64 0)) 3 (0, 0))) tB1
      have ROB : (⟨⟨List.replicate bn 0, List.replicate cn 0⟩, .slice (some ⟨W0.heap.size + 1, 0, none⟩) bn bn, .slice (some ⟨W0.heap.size, 0, none⟩) cn cn, [(W0.heap.size + 1, .cells (Array.replicate bn (Value.int .i64 0)) 3 (0, 0))], [(W0.heap.size, .cells (Array.replicate cn (Value.int .u64 0)) 33 (0, 0))]⟩ : NRow).Ok := ⟨by (have := SliceH.made (T := 3) (g := W0.heap.size + 1) (xs := ints (List.replicate bn 0)) (n := bn) (by simp) (by unfold maxLen; omega); simpa [ints] using this), by (have := SliceH.made (T := 33) (g := W0.heap.size) (xs := u64s (List.replicate cn 0)) (n := cn) (by simp) (by unfold maxLen; omega); simpa [u64s] using this)⟩
      have kA : ∀ an' capn' w3 hX', SliceH 79 2 (.slice an' (rows.length + 1) capn') (rows.length + 1) (rows.flatMap NRow.cells ++ [.slice (some ⟨W0.heap.size, 0, none⟩) bn bn, .slice (some ⟨W0.heap.size + 1, 0, none⟩) cn cn]) hX' → Upd hn hX' (((W0.alloc (.cells (Array.replicate bn (Value.int .i64 0)) 3 (0, 0))).alloc (.cells (Array.replicate cn (Value.int .u64 0)) 33 (0, 0))).alloc (.cells #[.slice (some ⟨W0.heap.size, 0, none⟩) bn bn, .slice (some ⟨W0.heap.size + 1, 0, none⟩) cn cn] 79 (0, 0))).drew w3 →
          w3.cell? ⟨p, 0, none⟩ = some (.slice an rows.length capn) ∧ w3.frozen? ⟨p, 0, none⟩ = false ∧ w3.cell? ⟨w.heap.size, 2, none⟩ = some (.int .i64 bn) ∧ w3.cell? ⟨w.heap.size, 3, none⟩ = some (.int .i64 cn) ∧ ∃ h1, GraphH p (g.more bn cn) h1 ∧ Upd (graphParts p (graphObj g (.slice an rows.length capn) vh) hn hh rows).flatten ([(w.heap.size, .cells #[.int .i64 1, .int .i64 a, .int .i64 bn, .int .i64 cn, .int .u64 v] 35 (0, 0))] ++ h1) w (w3.setCell ⟨p, 0, none⟩ (.slice an' (rows.length + 1) capn')) := by
        intro an' capn' w3 hX' hS' hU'
        have U3 := flatten_part (x := [_, _, _]) (i := 1) (l := graphParts p (graphObj g (.slice an rows.length capn) vh) hn hh rows) UA rfl hU'
        exact ⟨cell_of (U3.inn.right.part (i := 0) rfl).head 0, frozen_of (U3.inn.right.part (i := 0) rfl).head 0, cell_of U3.inn.tail.tail.head 2, cell_of U3.inn.tail.tail.head 3, graph_more sh hr hg ROA rfl hS' (U3.perm (List.Perm.refl _) (more_permA _ _ _ _))⟩
      have KA := Lib.hid kA
      clear kA
      have kB : ∀ an' capn' w3 hX', SliceH 79 2 (.slice an' (rows.length + 1) capn') (rows.length + 1) (rows.flatMap NRow.cells ++ [.slice (some ⟨W0.heap.size + 1, 0, none⟩) bn bn, .slice (some ⟨W0.heap.size, 0, none⟩) cn cn]) hX' → Upd hn hX' (((W0.alloc (.cells (Array.replicate cn (Value.int .u64 0)) 33 (0, 0))).alloc (.cells (Array.replicate bn (Value.int .i64 0)) 3 (0, 0))).alloc (.cells #[.slice (some ⟨W0.heap.size + 1, 0, none⟩) bn bn, .slice (some ⟨W0.heap.size, 0, none⟩) cn cn] 79 (0, 0))).drew w3 →
          w3.cell? ⟨p, 0, none⟩ = some (.slice an rows.length capn) ∧ w3.frozen? ⟨p, 0, none⟩ = false ∧ w3.cell? ⟨w.heap.size, 2, none⟩ = some (.int .i64 bn) ∧ w3.cell? ⟨w.heap.size, 3, none⟩ = some (.int .i64 cn) ∧ ∃ h1, GraphH p (g.more bn cn) h1 ∧ Upd (graphParts p (graphObj g (.slice an rows.length capn) vh) hn hh rows).flatten ([(w.heap.size, .cells #[.int .i64 1, .int .i64 a, .int .i64 bn, .int .i64 cn, .int .u64 v] 35 (0, 0))] ++ h1) w (w3.setCell ⟨p, 0, none⟩ (.slice an' (rows.length + 1) capn')) := by
        intro an' capn' w3 hX' hS' hU'
        have U3 := flatten_part (x := [_, _, _]) (i := 1) (l := graphParts p (graphObj g (.slice an rows.length capn) vh) hn hh rows) UB rfl hU'
        exact ⟨cell_of (U3.inn.right.part (i := 0) rfl).head 0, frozen_of (U3.inn.right.part (i := 0) rfl).head 0, cell_of U3.inn.tail.tail.head 2, cell_of U3.inn.tail.tail.head 3, graph_more sh hr hg ROB rfl hS' (U3.perm (List.Perm.refl _) (more_permB _ _ _ _))⟩
      have KB := Lib.hid kB
      clear kB
      go_cut [] (fun wx => Hid (∃ h1, GraphH p (g.more bn cn) h1 ∧ Upd (graphParts p (graphObj g (.slice an rows.length capn) vh) hn hh rows).flatten ([(w.heap.size, .cells #[.int .i64 1, .int .i64 a, .int .i64 bn, .int .i64 cn, .int .u64 v] 35 (0, 0))] ++ h1) w wx))
      case first =>
        refine wp_region_part (fun w' => w'.cell? ⟨p, 0, none⟩ = some (.slice an rows.length capn) ∧ w'.cell? ⟨w.heap.size, 2, none⟩ = some (.int .i64 bn) ∧ w'.cell? ⟨w.heap.size, 3, none⟩ = some (.int .i64 cn)) 16 (by kernel_rfl) ?_
        have hS0 : W0.drew.cell? ⟨p, 0, none⟩ = some (.slice an rows.length capn) ∧ W0.drew.cell? ⟨w.heap.size, 2, none⟩ = some (.int .i64 bn) ∧ W0.drew.cell? ⟨w.heap.size, 3, none⟩ = some (.int .i64 cn) := ⟨p0, x2, x3⟩
        have hS1A : (W0.alloc (.cells (Array.replicate bn (Value.int .i64 0)) 3 (0, 0))).drew.cell? ⟨p, 0, none⟩ = some (.slice an rows.length capn) ∧ (W0.alloc (.cells (Array.replicate bn (Value.int .i64 0)) 3 (0, 0))).drew.cell? ⟨w.heap.size, 2, none⟩ = some (.int .i64 bn) ∧ (W0.alloc (.cells (Array.replicate bn (Value.int .i64 0)) 3 (0, 0))).drew.cell? ⟨w.heap.size, 3, none⟩ = some (.int .i64 cn) := ⟨drewc (skipc p0), drewc (skipc x2), drewc (skipc x3)⟩
        have hS2A : ((W0.alloc (.cells (Array.replicate bn (Value.int .i64 0)) 3 (0, 0))).alloc (.cells (Array.replicate cn (Value.int .u64 0)) 33 (0, 0))).drew.cell? ⟨p, 0, none⟩ = some (.slice an rows.length capn) ∧ ((W0.alloc (.cells (Array.replicate bn (Value.int .i64 0)) 3 (0, 0))).alloc (.cells (Array.replicate cn (Value.int .u64 0)) 33 (0, 0))).drew.cell? ⟨w.heap.size, 2, none⟩ = some (.int .i64 bn) ∧ ((W0.alloc (.cells (Array.replicate bn (Value.int .i64 0)) 3 (0, 0))).alloc (.cells (Array.replicate cn (Value.int .u64 0)) 33 (0, 0))).drew.cell? ⟨w.heap.size, 3, none⟩ = some (.int .i64 cn) := ⟨drewc (skipc (skipc p0)), drewc (skipc (skipc x2)), drewc (skipc (skipc x3))⟩
        have hS1B : (W0.alloc (.cells (Array.replicate cn (Value.int .u64 0)) 33 (0, 0))).drew.cell? ⟨p, 0, none⟩ = some (.slice an rows.length capn) ∧ (W0.alloc (.cells (Array.replicate cn (Value.int .u64 0)) 33 (0, 0))).drew.cell? ⟨w.heap.size, 2, none⟩ = some (.int .i64 bn) ∧ (W0.alloc (.cells (Array.replicate cn (Value.int .u64 0)) 33 (0, 0))).drew.cell? ⟨w.heap.size, 3, none⟩ = some (.int .i64 cn) := ⟨drewc (skipc p0), drewc (skipc x2), drewc (skipc x3)⟩
        have hS2B : ((W0.alloc (.cells (Array.replicate cn (Value.int .u64 0)) 33 (0, 0))).alloc (.cells (Array.replicate bn (Value.int .i64 0)) 3 (0, 0))).drew.cell? ⟨p, 0, none⟩ = some (.slice an rows.length capn) ∧ ((W0.alloc (.cells (Array.replicate cn (Value.int .u64 0)) 33 (0, 0))).alloc (.cells (Array.replicate bn (Value.int .i64 0)) 3 (0, 0))).drew.cell? ⟨w.heap.size, 2, none⟩ = some (.int .i64 bn) ∧ ((W0.alloc (.cells (Array.replicate cn (Value.int .u64 0)) 33 (0, 0))).alloc (.cells (Array.replicate bn (Value.int .i64 0)) 3 (0, 0))).drew.cell? ⟨w.heap.size, 3, none⟩ = some (.int .i64 cn) := ⟨drewc (skipc (skipc p0)), drewc (skipc (skipc x2)), drewc (skipc (skipc x3))⟩
        refine wpAnyP_take (i := 0) (v := ?_) rfl (by kernel_rfl) (by kernel_rfl) (by kernel_rfl) (by kernel_rfl) (fun _ _ _ h => h) (Or.inl ⟨by rfl, ?_⟩) hS0 ?_
        rotate_left
        · intro w' hSw
          obtain ⟨y1, y2, y3⟩ := hSw
          first | (go_simp; done) | (go_simp; with_reducible rfl)
        try simp only [Act.put, List.setIfInBounds_toArray]
        try dsimp only [List.set_cons_zero, List.set_cons_succ]
        refine wpAnyP_take (i := 1) (v := ?_) rfl (by kernel_rfl) (by kernel_rfl) (by kernel_rfl) (by kernel_rfl) (fun _ _ _ h => h) (Or.inl ⟨by rfl, ?_⟩) hS0 ?_
        rotate_left
        · intro w' hSw
          obtain ⟨y1, y2, y3⟩ := hSw
          first | (go_simp; done) | (go_simp; with_reducible rfl)
        try simp only [Act.put, List.setIfInBounds_toArray]
        try dsimp only [List.set_cons_zero, List.set_cons_succ]
        refine wpAnyP_take (i := 2) (v := ?_) rfl (by kernel_rfl) (by kernel_rfl) (by kernel_rfl) (by kernel_rfl) (fun _ _ _ h => h) (Or.inl ⟨by rfl, ?_⟩) hS0 ?_
        rotate_left
        · intro w' hSw
          obtain ⟨y1, y2, y3⟩ := hSw
          first | (go_simp; done) | (go_simp; with_reducible rfl)
        try simp only [Act.put, List.setIfInBounds_toArray]
        try dsimp only [List.set_cons_zero, List.set_cons_succ]
        refine wpAnyP_take (i := 3) (v := ?_) rfl (by kernel_rfl) (by kernel_rfl) (by kernel_rfl) (by kernel_rfl) (fun _ _ _ h => h) (Or.inl ⟨by rfl, ?_⟩) hS0 ?_
        rotate_left
        · intro w' hSw
          obtain ⟨y1, y2, y3⟩ := hSw
          first | (go_simp; done) | (go_simp; with_reducible rfl)
        try simp only [Act.put, List.setIfInBounds_toArray]
        try dsimp only [List.set_cons_zero, List.set_cons_succ]
        refine wpAnyP_take (i := 4) (v := ?_) rfl (by kernel_rfl) (by kernel_rfl) (by kernel_rfl) (by kernel_rfl) (fun _ _ _ h => h) (Or.inl ⟨by rfl, ?_⟩) hS0 ?_
        rotate_left
        · intro w' hSw
          obtain ⟨y1, y2, y3⟩ := hSw
          first | (go_simp; done) | (go_simp; with_reducible rfl)
        try simp only [Act.put, List.setIfInBounds_toArray]
        try dsimp only [List.set_cons_zero, List.set_cons_succ]
        refine wpAnyP_take (i := 5) (v := ?_) rfl (by kernel_rfl) (by kernel_rfl) (by kernel_rfl) (by kernel_rfl) (fun _ _ _ h => h) (Or.inl ⟨by rfl, ?_⟩) hS0 ?_
        rotate_left
        · intro w' hSw
          obtain ⟨y1, y2, y3⟩ := hSw
          first | (go_simp; done) | (go_simp; with_reducible rfl)
        try simp only [Act.put, List.setIfInBounds_toArray]
        try dsimp only [List.set_cons_zero, List.set_cons_succ]
        refine wpAnyP_take (i := 6) (v := ?_) rfl (by kernel_rfl) (by kernel_rfl) (by kernel_rfl) (by kernel_rfl) (fun _ _ _ h => h) (Or.inl ⟨by rfl, ?_⟩) hS0 ?_
        rotate_left
        · intro w' hSw
          obtain ⟨y1, y2, y3⟩ := hSw
          first | (go_simp; done) | (go_simp; with_reducible rfl)
        try simp only [Act.put, List.setIfInBounds_toArray]
        try dsimp only [List.set_cons_zero, List.set_cons_succ]
        refine wpAnyP_take (i := 8) (v := ?_) rfl (by kernel_rfl) (by kernel_rfl) (by kernel_rfl) (by kernel_rfl) (fun _ _ _ h => h) (Or.inl ⟨by rfl, ?_⟩) hS0 ?_
        rotate_left
        · intro w' hSw
          obtain ⟨y1, y2, y3⟩ := hSw
          first | (go_simp; done) | (go_simp; with_reducible rfl)
        try simp only [Act.put, List.setIfInBounds_toArray]
        try dsimp only [List.set_cons_zero, List.set_cons_succ]
        refine wpAnyP_take (i := 9) (v := ?_) rfl (by kernel_rfl) (by kernel_rfl) (by kernel_rfl) (by kernel_rfl) (fun _ _ _ h => h) (Or.inl ⟨by rfl, ?_⟩) hS0 ?_
        rotate_left
        · intro w' hSw
          obtain ⟨y1, y2, y3⟩ := hSw
          first | (go_simp; done) | (go_simp; with_reducible rfl)
        try simp only [Act.put, List.setIfInBounds_toArray]
        try dsimp only [List.set_cons_zero, List.set_cons_succ]
        refine wpAnyP_two (i := 7) (j := 10) (by kernel_rfl) rfl rfl (fun K' hK' => ?_) (fun K' hK' => ?_)
        · go_wp2_with fail
          rename_i hwt
          clear hwt
          refine hK'.out _ _ (fun _ => by first | exact ⟨drewc (skipc p0), drewc (skipc x2), drewc (skipc x3)⟩ | exact ⟨skipc p0, skipc x2, skipc x3⟩) ?_
          clear hK' K'
          try simp only [Act.put, List.setIfInBounds_toArray]
          try dsimp only [List.set_cons_zero, List.set_cons_succ]
          clear hS0
          have hS0 := hS1A
          refine wpAnyP_one (i := 10) (by kernel_rfl) rfl (fun K' hK' => ?_)
          go_wp2_with fail
          rename_i hwt
          clear hwt
          refine hK'.out _ _ (fun _ => by first | exact ⟨drewc (skipc (skipc p0)), drewc (skipc (skipc x2)), drewc (skipc (skipc x3))⟩ | exact ⟨skipc (skipc p0), skipc (skipc x2), skipc (skipc x3)⟩) ?_
          clear hK' K'
          try simp only [Act.put, List.setIfInBounds_toArray]
          try dsimp only [List.set_cons_zero, List.set_cons_succ]
          clear hS0
          have hS0 := hS2A
          refine wpAnyP_take (i := 11) (v := ?_) rfl (by kernel_rfl) (by kernel_rfl) (by kernel_rfl) (by kernel_rfl) (fun _ _ _ h => h) (Or.inl ⟨by rfl, ?_⟩) hS0 ?_
          rotate_left
          · intro w' hSw
            obtain ⟨y1, y2, y3⟩ := hSw
            first | (go_simp; done) | (go_simp; with_reducible rfl)
          try simp only [Act.put, List.setIfInBounds_toArray]
          try dsimp only [List.set_cons_zero, List.set_cons_succ]
          refine wpAnyP_one (i := 12) (by kernel_rfl) rfl (fun K' hK' => ?_)
          go_wp2_with fail
          rename_i hwt
          clear hwt
          refine hK'.out _ _ (fun _ => by first | exact ⟨drewc (skipc (skipc (skipc p0))), drewc (skipc (skipc (skipc x2))), drewc (skipc (skipc (skipc x3)))⟩) ?_
          clear hK' K'
          try simp only [Act.put, List.setIfInBounds_toArray]
          try dsimp only [List.set_cons_zero, List.set_cons_succ]
          refine wpAnyP_one (i := 13) (by kernel_rfl) rfl (fun K' hK' => ?_)
          (refine step_append_mine rfl (.tmp 53) (.tmp 61) 71 rfl 79 2 48 _ Tryz.underlying71 Tryz.infoNode rfl (by decide) (.slice an rows.length capn) rows.length _ hn (by rfl) sn (UA.inn.tail.tail.tail.part (i := 1) rfl) ⟨W0.heap.size + 2, 0, none⟩ 1 1 [.slice (some ⟨W0.heap.size, 0, none⟩) bn bn, .slice (some ⟨W0.heap.size + 1, 0, none⟩) cn cn] (by rfl) HNA.out rfl (by intro u hu; simp at hu; rcases hu with rfl | rfl <;> rfl) (Or.inl (by decide)) (by unfold maxLen; omega) (by omega) ?_; intro v' w3 hX' hS' hU'; obtain ⟨an', capn', rfl, _⟩ := hS'.shape; obtain ⟨hp3, hf3, hx2, hx3, hgg⟩ := KA.out _ _ _ _ hS' hU'; have HG := Lib.hid hgg; clear hgg hS' hU')
          refine hK'.out _ _ (fun _ => ⟨hp3, hx2, hx3⟩) ?_
          clear hK' K'
          try simp only [Act.put, List.setIfInBounds_toArray]
          try dsimp only [List.set_cons_zero, List.set_cons_succ]
          refine wpAnyP_one (i := 14) (by kernel_rfl) rfl (fun K' hK' => ?_)
          go_wp2_with fail
          rename_i hwt
          clear hwt
          refine hK'.out _ _ (fun _ => ⟨hp3, hx2, hx3⟩) ?_
          clear hK' K'
          try simp only [Act.put, List.setIfInBounds_toArray]
          try dsimp only [List.set_cons_zero, List.set_cons_succ]
          refine wpAnyP_one (i := 15) (by kernel_rfl) rfl (fun K' hK' => ?_)
          go_wp2_with fail
          rename_i hwt
          clear hwt
          refine hK'.out _ _ (fun _ => ⟨hp3, hx2, hx3⟩) ?_
          clear hK' K'
          try simp only [Act.put, List.setIfInBounds_toArray]
          try dsimp only [List.set_cons_zero, List.set_cons_succ]
          refine wpAnyP_one (i := 16) (by kernel_rfl) rfl (fun K' hK' => ?_)
          go_wp2_with fail
          rename_i hwt
          clear hwt
          refine hK'.out _ _ (fun _ => absurd rfl ‹_›) ?_
          clear hK' K'
          try simp only [Act.put, List.setIfInBounds_toArray]
          try dsimp only [List.set_cons_zero, List.set_cons_succ]
          refine wpAnyP_done (by kernel_rfl) ?_ _
          go_wp2_with fail
          go_meet
          exact HG
        · go_wp2_with fail
          rename_i hwt
          clear hwt
          refine hK'.out _ _ (fun _ => by first | exact ⟨drewc (skipc p0), drewc (skipc x2), drewc (skipc x3)⟩ | exact ⟨skipc p0, skipc x2, skipc x3⟩) ?_
          clear hK' K'
          try simp only [Act.put, List.setIfInBounds_toArray]
          try dsimp only [List.set_cons_zero, List.set_cons_succ]
          clear hS0
          have hS0 := hS1B
          refine wpAnyP_one (i := 7) (by kernel_rfl) rfl (fun K' hK' => ?_)
          go_wp2_with fail
          rename_i hwt
          clear hwt
          refine hK'.out _ _ (fun _ => by first | exact ⟨drewc (skipc (skipc p0)), drewc (skipc (skipc x2)), drewc (skipc (skipc x3))⟩ | exact ⟨skipc (skipc p0), skipc (skipc x2), skipc (skipc x3)⟩) ?_
          clear hK' K'
          try simp only [Act.put, List.setIfInBounds_toArray]
          try dsimp only [List.set_cons_zero, List.set_cons_succ]
          clear hS0
          have hS0 := hS2B
          refine wpAnyP_take (i := 11) (v := ?_) rfl (by kernel_rfl) (by kernel_rfl) (by kernel_rfl) (by kernel_rfl) (fun _ _ _ h => h) (Or.inl ⟨by rfl, ?_⟩) hS0 ?_
          rotate_left
          · intro w' hSw
            obtain ⟨y1, y2, y3⟩ := hSw
            first | (go_simp; done) | (go_simp; with_reducible rfl)
          try simp only [Act.put, List.setIfInBounds_toArray]
          try dsimp only [List.set_cons_zero, List.set_cons_succ]
          refine wpAnyP_one (i := 12) (by kernel_rfl) rfl (fun K' hK' => ?_)
          go_wp2_with fail
          rename_i hwt
          clear hwt
          refine hK'.out _ _ (fun _ => by first | exact ⟨drewc (skipc (skipc (skipc p0))), drewc (skipc (skipc (skipc x2))), drewc (skipc (skipc (skipc x3)))⟩) ?_
          clear hK' K'
          try simp only [Act.put, List.setIfInBounds_toArray]
          try dsimp only [List.set_cons_zero, List.set_cons_succ]
          refine wpAnyP_one (i := 13) (by kernel_rfl) rfl (fun K' hK' => ?_)
          (refine step_append_mine rfl (.tmp 53) (.tmp 61) 71 rfl 79 2 48 _ Tryz.underlying71 Tryz.infoNode rfl (by decide) (.slice an rows.length capn) rows.length _ hn (by rfl) sn (UB.inn.tail.tail.tail.part (i := 1) rfl) ⟨W0.heap.size + 2, 0, none⟩ 1 1 [.slice (some ⟨W0.heap.size + 1, 0, none⟩) bn bn, .slice (some ⟨W0.heap.size, 0, none⟩) cn cn] (by rfl) HNB.out rfl (by intro u hu; simp at hu; rcases hu with rfl | rfl <;> rfl) (Or.inl (by decide)) (by unfold maxLen; omega) (by omega) ?_; intro v' w3 hX' hS' hU'; obtain ⟨an', capn', rfl, _⟩ := hS'.shape; obtain ⟨hp3, hf3, hx2, hx3, hgg⟩ := KB.out _ _ _ _ hS' hU'; have HG := Lib.hid hgg; clear hgg hS' hU')
          refine hK'.out _ _ (fun _ => ⟨hp3, hx2, hx3⟩) ?_
          clear hK' K'
          try simp only [Act.put, List.setIfInBounds_toArray]
          try dsimp only [List.set_cons_zero, List.set_cons_succ]
          refine wpAnyP_one (i := 14) (by kernel_rfl) rfl (fun K' hK' => ?_)
          go_wp2_with fail
          rename_i hwt
          clear hwt
          refine hK'.out _ _ (fun _ => ⟨hp3, hx2, hx3⟩) ?_
          clear hK' K'
          try simp only [Act.put, List.setIfInBounds_toArray]
          try dsimp only [List.set_cons_zero, List.set_cons_succ]
          refine wpAnyP_one (i := 15) (by kernel_rfl) rfl (fun K' hK' => ?_)
          go_wp2_with fail
          rename_i hwt
          clear hwt
          refine hK'.out _ _ (fun _ => ⟨hp3, hx2, hx3⟩) ?_
          clear hK' K'
          try simp only [Act.put, List.setIfInBounds_toArray]
          try dsimp only [List.set_cons_zero, List.set_cons_succ]
          refine wpAnyP_one (i := 16) (by kernel_rfl) rfl (fun K' hK' => ?_)
          go_wp2_with fail
          rename_i hwt
          clear hwt
          refine hK'.out _ _ (fun _ => absurd rfl ‹_›) ?_
          clear hK' K'
          try simp only [Act.put, List.setIfInBounds_toArray]
          try dsimp only [List.set_cons_zero, List.set_cons_succ]
          refine wpAnyP_done (by kernel_rfl) ?_ _
          go_wp2_with fail
          go_meet
          exact HG
      case rest =>
        obtain ⟨h1, gh1, U1⟩ := hcut.out
        clear hcut UA0 UA HNA qA1 qA2 qA3 sA1 sA2 tA1 tA2 ROA KA UB0 UB HNB qB1 qB2 qB3 sB1 sB2 tB1 tB2 ROB KB p0 pf x2 x3 hmk1 hmk2 sn sh hr
        obtain ⟨an1, capn1, ah1, caph1, e0, e1, e2, ef, eh⟩ := gh1.own (x := [_]) U1.inn
        obtain ⟨k, rfl, hk, hget⟩ := tblOk_nat ho
        obtain ⟨bq, oq, rfl, ck, fk⟩ := eh k hk
        have hlen : (g.more bn cn).nodes.length = g.nodes.length + 1 := by simp [GraphS.more]
        rw [hlen] at e0
        have hkl : ((k : Int) < g.hs.length) := by omega
        have e1' := e1
        simp only [GraphS.more] at e1'
        have f1 := fk (oq + k)
        obtain ⟨z0, z1, z2, z3, z4⟩ := step_cells (x := ⟨1, k, bn, cn, v⟩) U1.inn.head
        simp only at z0 z1 z2 z3 z4
        obtain ⟨h', gh', U⟩ := gh1.setH (x := [_]) U1.drew' e1 hk (g.nodes.length : Nat)
        have hmake : g.make k bn cn = { g.more bn cn with hs := (g.more bn cn).hs.set k (g.nodes.length : Nat) } := by
          unfold GraphS.make GraphS.more tblSet
          rw [if_pos ho]
          rfl
        have HM := Lib.hid hmake
        have hnl : g.nodes.length ≤ 1048576 := ok.n2
        have HU := Lib.hid U
        have HG := Lib.hid gh'
        clear hmake hlen e1 ef eh fk U gh' U1 gh1 hget ho UQ U0 hhas hg hgl
        go_wp2
        go_region
        go_wp2
        go_ret
        exact ⟨rfl, h', by rw [HM.out]; exact HG.out, HU.out.drop1⟩
    · have e1 : g.makeE a b c = 6 := by unfold GraphS.makeE; rw [if_pos ho, if_neg hsz]
      rw [e1, if_neg (by decide)]
      simp only [GraphS.shapeOk, decide_eq_true_eq] at hsz
      have ways : b < 0 ∨ (0 ≤ b ∧ c < 0) ∨ (0 ≤ b ∧ 0 ≤ c ∧ g.largest < b) ∨ (0 ≤ b ∧ 0 ≤ c ∧ b ≤ g.largest ∧ g.largest - b < c) := by omega
      clear hsz e1 cf ch c0 c1 gh ho
      simp only [stepCells] at *
      rcases ways with d1 | ⟨d1, d2⟩ | ⟨d1, d2, d3⟩ | ⟨d1, d2, d3, d4⟩
      · have q1 : decide (b < 0) = true := decide_eq_true d1
        go_enter Tryz.func31, Tryz.ntmps31
        go_wp2_with (go_at_call 33; with_reducible refine Calls.mono hhas ?_; rintro e w1 ⟨rfl, rfl⟩)
        go_quiet (fail)
        go_wp2
        go_ret
        exact ⟨rfl, h, gh0, (U0.drewN' nq).drop1⟩
      · have q1 : decide (b < 0) = false := decide_eq_false (by omega)
        have q2 : decide (c < 0) = true := decide_eq_true d2
        go_enter Tryz.func31, Tryz.ntmps31
        go_wp2_with (go_at_call 33; with_reducible refine Calls.mono hhas ?_; rintro e w1 ⟨rfl, rfl⟩)
        go_quiet (fail)
        go_wp2
        go_ret
        exact ⟨rfl, h, gh0, (U0.drewN' nq).drop1⟩
      · have q1 : decide (b < 0) = false := decide_eq_false (by omega)
        have q2 : decide (c < 0) = false := decide_eq_false (by omega)
        have q3 : decide (g.largest < b) = true := decide_eq_true d3
        go_enter Tryz.func31, Tryz.ntmps31
        go_wp2_with (go_at_call 33; with_reducible refine Calls.mono hhas ?_; rintro e w1 ⟨rfl, rfl⟩)
        go_quiet (fail)
        go_wp2
        go_ret
        exact ⟨rfl, h, gh0, (U0.drewN' nq).drop1⟩
      · have q1 : decide (b < 0) = false := decide_eq_false (by omega)
        have q2 : decide (c < 0) = false := decide_eq_false (by omega)
        have q3 : decide (g.largest < b) = false := decide_eq_false (by omega)
        have hw : IntKind.i64.wrap (g.largest - b) = g.largest - b := IntWalk.i64_in _ (by omega)
        have q4 : decide (g.largest - b < c) = true := decide_eq_true d4
        go_enter Tryz.func31, Tryz.ntmps31
        go_wp2_with (go_at_call 33; with_reducible refine Calls.mono hhas ?_; rintro e w1 ⟨rfl, rfl⟩)
        go_quiet (fail)
        go_wp2
        go_ret
        exact ⟨rfl, h, gh0, (U0.drewN' nq).drop1⟩
  · have ho2 : tblOk g.hs a = false := by simpa using ho
    rw [ho2] at hhas
    have e1 : g.makeE a b c = 3 := by unfold GraphS.makeE; rw [if_neg ho]
    rw [e1, if_neg (by decide)]
    clear e1 ho ho2 ok
    simp only [stepCells] at *
    go_enter Tryz.func31, Tryz.ntmps31
    go_wp2_with (go_at_call 33; with_reducible refine Calls.mono hhas ?_; rintro e w1 ⟨rfl, rfl⟩)
    go_ret
    exact ⟨rfl, h, gh, U0.drop1⟩

end Go.Proofs.YtglbhcoikgbcmaaGreat
