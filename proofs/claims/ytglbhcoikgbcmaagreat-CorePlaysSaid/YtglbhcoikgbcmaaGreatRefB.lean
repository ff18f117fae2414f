/- What Clear and Copy of the document's graph come to; stores into a graph. Conditions: a graph as New makes it. -/
import Derived.Test.YtglbhcoikgbcmaaGreatRows
import Derived.Test.YtglbhcoikgbcmaaGreatRef
import Derived.Test.YtglbhcoikgbcmaaGreatLawD
set_option linter.unusedVariables false
set_option linter.unusedSimpArgs false
namespace Go.Proofs.YtglbhcoikgbcmaaGreat
open Go.RowKit

section
variable {p : Nat} {g : GraphS} {h : Hp}
/-- a store into a handle -/
theorem GraphH.setH (gh : GraphH p g h) {w0 w : World} {h0 x : Hp} (a : Upd h0 (x ++ h) w0 w) {b o n caph : Nat} (c1 : w.cell? ⟨p, 1, none⟩ = some (.slice (some ⟨b, o, none⟩) n caph)) {i : Nat} (hil : i < g.hs.length) (v : Int) :
    ∃ h', GraphH p { g with hs := g.hs.set i v } h' ∧ Upd h0 (x ++ h') w0 (w.setCell ⟨b, o + i, none⟩ (.int .i64 v)) := by
  obtain ⟨vn, vh, hn, hh, rows, rfl, sn, sh, hr, hg⟩ := gh
  have hb := (a.inn.right.part (i := 0) rfl).head
  have e1 : w.cell? ⟨p, 1, none⟩ = some vh := cell_of hb 1
  rw [c1] at e1
  cases e1
  have hn' : n = g.hs.length := by
    obtain ⟨ao, cap, hv, _⟩ := sh.shape
    cases hv
    rfl
  subst hn'
  obtain ⟨hh', s', u'⟩ := sh.store (a.inn.right.part (i := 2) rfl) rfl (j := i) (by simpa using hil) (.int .i64 v)
  refine ⟨_, ⟨_, _, hn, hh', rows, rfl, sn, ?_, hr, hg⟩, Upd.then_part (l := x :: graphParts p (graphObj g vn (.slice (some ⟨b, o, none⟩) g.hs.length caph)) hn hh rows) (i := 3) a rfl u'⟩
  simpa [ints, List.map_set] using s'

theorem flatten_part {l : List Hp} {x : Hp} {w0 w w' : World} {h0 : Hp} (a : Upd h0 (x ++ l.flatten) w0 w) {i : Nat} {y z : Hp} (hx : l[i]? = some y) (u : Upd y z w w') : Upd h0 (x ++ (l.set i z).flatten) w0 w' :=
  Upd.then_part (l := x :: l) (i := i + 1) a (by simpa using hx) u

theorem putRows {rows : List NRow} {n : Nat} {r : NRow} (hn : n < rows.length) (p : Nat) (o : Obj) (hn' hh : Hp) :
    (graphParts p o hn' hh rows).set (n + 3) r.blocks = graphParts p o hn' hh (rows.set n r) := by
  simp [graphParts, List.map_set]

theorem cells_set {rows : List NRow} : ∀ {n : Nat} {r : NRow} (hn : n < rows.length), r.cells = rows[n].cells → (rows.set n r).flatMap NRow.cells = rows.flatMap NRow.cells := by
  induction rows with
  | nil => intro n r hn; simp at hn
  | cons q rows ih =>
    intro n r hn he
    cases n with
    | zero =>
      simp only [List.set_cons_zero, List.flatMap_cons]
      rw [he]
      rfl
    | succ n =>
      simp only [List.set_cons_succ, List.flatMap_cons]
      rw [ih (by simpa using hn) he]

/-- a store into a row of a node -/
theorem GraphH.setP (gh : GraphH p g h) {w0 w : World} {h0 x : Hp} (a : Upd h0 (x ++ h) w0 w) {m : Nat} (hm : m < g.nodes.length) {bn on N capn : Nat} (c0 : w.cell? ⟨p, 0, none⟩ = some (.slice (some ⟨bn, on, none⟩) N capn))
    {b o n cap : Nat} (c1 : w.cell? ⟨bn, on + m * 2, none⟩ = some (.slice (some ⟨b, o, none⟩) n cap)) {j : Nat} (hj : j < (g.nodes.getD m nd0).ptrs.length) (v : Int) :
    ∃ h', GraphH p { g with nodes := g.nodes.set m { g.nodes.getD m nd0 with ptrs := (g.nodes.getD m nd0).ptrs.set j v } } h' ∧ Upd h0 (x ++ h') w0 (w.setCell ⟨b, o + j, none⟩ (.int .i64 v)) := by
  have hnode := gh.node a.inn hm
  obtain ⟨b', o', capn', ap, capp, az, caps, d0, d1, d2, d3, d4⟩ := hnode
  rw [c0] at d0
  cases d0
  rw [c1] at d1
  cases d1
  obtain ⟨vn, vh, hn, hh, rows, rfl, sn, sh, hr, hg⟩ := gh
  have hl : g.nodes.length = rows.length := by rw [hg]; simp
  have hnr : m < rows.length := by omega
  have hnd : g.nodes.getD m nd0 = rows[m].node := by rw [hg]; simp [List.getD, hnr]
  have hok := hr rows[m] (List.getElem_mem hnr)
  have hpart : In w rows[m].blocks := a.inn.right.part (i := m + 3) (by simp [hnr])
  have hb := (a.inn.right.part (i := 0) rfl).head
  have e0 : w.cell? ⟨p, 0, none⟩ = some vn := cell_of hb 0
  rw [c0] at e0
  cases e0
  have hN : g.nodes.length = rows.length := hl
  have cc := sn.cell (a.inn.right.part (i := 1) rfl) (by rw [← hl]) (j := m * 2) (by have := nrows_len rows; omega)
  have g0 := nrows_get rows m 0 (by omega)
  rw [List.getElem?_eq_getElem hnr] at g0
  have e1 : (rows.flatMap NRow.cells)[m * 2]? = some rows[m].vp := g0
  rw [← List.getElem?_eq_getElem, e1, c1] at cc
  cases hvp : rows[m].vp with
  | slice ao n' cap' =>
    rw [hvp] at cc
    cases cc
    have hp := hok.p
    rw [hvp] at hp
    rw [hnd] at hj hp ⊢
    obtain ⟨hp', s', u'⟩ := hp.store hpart.left rfl (j := j) (by simpa using hj) (.int .i64 v)
    have hr' : (⟨{ rows[m].node with ptrs := rows[m].node.ptrs.set j v }, .slice (some ⟨b, o, none⟩) rows[m].node.ptrs.length cap, rows[m].vs, hp', rows[m].hs⟩ : NRow).Ok := ⟨by simpa [ints, List.map_set] using s', hok.s⟩
    refine ⟨_, ⟨.slice (some ⟨bn, on, none⟩) g.nodes.length capn, _, hn, hh, rows.set m ⟨{ rows[m].node with ptrs := rows[m].node.ptrs.set j v }, .slice (some ⟨b, o, none⟩) rows[m].node.ptrs.length cap, rows[m].vs, hp', rows[m].hs⟩, rfl, ?_, sh, ?_, ?_⟩, ?_⟩
    · rw [cells_set hnr (by show [_, _] = [rows[m].vp, rows[m].vs]; rw [hvp, hnd]), List.length_set]
      exact sn
    · intro r hrm
      rcases List.mem_or_eq_of_mem_set hrm with h1 | h1
      · exact hr r h1
      · rw [h1]; exact hr'
    · rw [List.map_set, ← hg]
    · have hx : (graphParts p (graphObj g (.slice (some ⟨bn, on, none⟩) g.nodes.length capn) vh) hn hh rows)[m + 3]? = some rows[m].blocks := by simp [hnr]
      have U := flatten_part a hx (u'.beside hpart)
      have e := putRows hnr p (graphObj g (.slice (some ⟨bn, on, none⟩) g.nodes.length capn) vh) hn hh (r := ⟨{ rows[m].node with ptrs := rows[m].node.ptrs.set j v }, .slice (some ⟨b, o, none⟩) rows[m].node.ptrs.length cap, rows[m].vs, hp', rows[m].hs⟩)
      have U' : Upd h0 (x ++ ((graphParts p (graphObj g (.slice (some ⟨bn, on, none⟩) g.nodes.length capn) vh) hn hh rows).set (m + 3) (hp' ++ rows[m].hs)).flatten) w0 (w.setCell ⟨b, o + j, none⟩ (.int .i64 v)) := U
      rw [show (hp' ++ rows[m].hs) = (⟨{ rows[m].node with ptrs := rows[m].node.ptrs.set j v }, .slice (some ⟨b, o, none⟩) rows[m].node.ptrs.length cap, rows[m].vs, hp', rows[m].hs⟩ : NRow).blocks from rfl, e] at U'
      exact U'
  | _ => rw [hvp] at cc; cases cc
/-- a store into a scalar of a node -/
theorem GraphH.setS (gh : GraphH p g h) {w0 w : World} {h0 x : Hp} (a : Upd h0 (x ++ h) w0 w) {m : Nat} (hm : m < g.nodes.length) {bn on N capn : Nat} (c0 : w.cell? ⟨p, 0, none⟩ = some (.slice (some ⟨bn, on, none⟩) N capn))
    {b o n cap : Nat} (c1 : w.cell? ⟨bn, on + m * 2 + 1, none⟩ = some (.slice (some ⟨b, o, none⟩) n cap)) {j : Nat} (hj : j < (g.nodes.getD m nd0).scal.length) (v : Int) :
    ∃ h', GraphH p { g with nodes := g.nodes.set m { g.nodes.getD m nd0 with scal := (g.nodes.getD m nd0).scal.set j v } } h' ∧ Upd h0 (x ++ h') w0 (w.setCell ⟨b, o + j, none⟩ (.int .u64 v)) := by
  have hnode := gh.node a.inn hm
  obtain ⟨b', o', capn', ap, capp, az, caps, d0, d1, d2, d3, d4⟩ := hnode
  rw [c0] at d0
  cases d0
  rw [c1] at d2
  cases d2
  obtain ⟨vn, vh, hn, hh, rows, rfl, sn, sh, hr, hg⟩ := gh
  have hl : g.nodes.length = rows.length := by rw [hg]; simp
  have hnr : m < rows.length := by omega
  have hnd : g.nodes.getD m nd0 = rows[m].node := by rw [hg]; simp [List.getD, hnr]
  have hok := hr rows[m] (List.getElem_mem hnr)
  have hpart : In w rows[m].blocks := a.inn.right.part (i := m + 3) (by simp [hnr])
  have hb := (a.inn.right.part (i := 0) rfl).head
  have e0 : w.cell? ⟨p, 0, none⟩ = some vn := cell_of hb 0
  rw [c0] at e0
  cases e0
  have hN : g.nodes.length = rows.length := hl
  have cc := sn.cell (a.inn.right.part (i := 1) rfl) (by rw [← hl]) (j := m * 2 + 1) (by have := nrows_len rows; omega)
  have g0 := nrows_get rows m 1 (by omega)
  rw [List.getElem?_eq_getElem hnr] at g0
  have e1 : (rows.flatMap NRow.cells)[m * 2 + 1]? = some rows[m].vs := g0
  rw [← List.getElem?_eq_getElem, e1, ← Nat.add_assoc, c1] at cc
  cases hvp : rows[m].vs with
  | slice ao n' cap' =>
    rw [hvp] at cc
    cases cc
    have hp := hok.s
    rw [hvp] at hp
    rw [hnd] at hj hp ⊢
    obtain ⟨hp', s', u'⟩ := hp.store hpart.right rfl (j := j) (by simpa using hj) (.int .u64 v)
    have hr' : (⟨{ rows[m].node with scal := rows[m].node.scal.set j v }, rows[m].vp, .slice (some ⟨b, o, none⟩) rows[m].node.scal.length cap, rows[m].hp, hp'⟩ : NRow).Ok := ⟨hok.p, by simpa [u64s, List.map_set] using s'⟩
    refine ⟨_, ⟨.slice (some ⟨bn, on, none⟩) g.nodes.length capn, _, hn, hh, rows.set m ⟨{ rows[m].node with scal := rows[m].node.scal.set j v }, rows[m].vp, .slice (some ⟨b, o, none⟩) rows[m].node.scal.length cap, rows[m].hp, hp'⟩, rfl, ?_, sh, ?_, ?_⟩, ?_⟩
    · rw [cells_set hnr (by show [_, _] = [rows[m].vp, rows[m].vs]; rw [hvp, hnd]), List.length_set]
      exact sn
    · intro r hrm
      rcases List.mem_or_eq_of_mem_set hrm with h1 | h1
      · exact hr r h1
      · rw [h1]; exact hr'
    · rw [List.map_set, ← hg]
    · have hx : (graphParts p (graphObj g (.slice (some ⟨bn, on, none⟩) g.nodes.length capn) vh) hn hh rows)[m + 3]? = some rows[m].blocks := by simp [hnr]
      have U := flatten_part a hx (Upd.underL (Upd.refl hpart) u')
      have e := putRows hnr p (graphObj g (.slice (some ⟨bn, on, none⟩) g.nodes.length capn) vh) hn hh (r := ⟨{ rows[m].node with scal := rows[m].node.scal.set j v }, rows[m].vp, .slice (some ⟨b, o, none⟩) rows[m].node.scal.length cap, rows[m].hp, hp'⟩)
      have U' : Upd h0 (x ++ ((graphParts p (graphObj g (.slice (some ⟨bn, on, none⟩) g.nodes.length capn) vh) hn hh rows).set (m + 3) (rows[m].hp ++ hp')).flatten) w0 (w.setCell ⟨b, o + j, none⟩ (.int .u64 v)) := U
      rw [show (rows[m].hp ++ hp') = (⟨{ rows[m].node with scal := rows[m].node.scal.set j v }, rows[m].vp, .slice (some ⟨b, o, none⟩) rows[m].node.scal.length cap, rows[m].hp, hp'⟩ : NRow).blocks from rfl, e] at U'
      exact U'
  | _ => rw [hvp] at cc; cases cc
end

set_option maxRecDepth 100000 in
set_option maxHeartbeats 1000000 in
theorem ref_clear (p : Nat) (g : GraphS) (a b c v : Int) (w : World) (h : Hp) (hi : In w h) (gh : GraphH p g h) :
    Calls Tryz.prog 31 #[.pointer (some ⟨p, 0, none⟩), .agg (stepCells ⟨6, a, b, c, v⟩)] w fun e w' =>
      e = .returned (.int .i64 (tblErr g.hs a)) ∧ ∃ h', GraphH p { g with hs := tblSet g.hs a 0 } h' ∧ Upd h h' w w' := by
  have U0 := Upd.alloc hi (.cells (stepCells ⟨6, a, b, c, v⟩) 35 (0, 0))
  have hhas := fun W (hiW : In W h) => ref_has p g a W h hiW gh
  obtain ⟨an, capn, ah, caph, c0, c1, c2, cf, ch⟩ := gh.own (x := [_]) U0.inn
  have hk2 := hhas _ U0.inn.tail
  by_cases ho : tblOk g.hs a = true
  · rw [ho] at hk2
    have e1 : tblErr g.hs a = 0 := by simp [tblErr, ho]
    rw [e1]
    obtain ⟨k, rfl, hk, hget⟩ := tblOk_nat ho
    obtain ⟨bq, oq, rfl, ck, fk⟩ := ch k hk
    obtain ⟨h', gh', U⟩ := gh.setH (x := [_]) U0.drew' c1 hk 0
    have e2 : tblSet g.hs k 0 = g.hs.set k 0 := by unfold tblSet; rw [if_pos ho]; rfl
    rw [e2]
    have hkl : ((k : Int) < g.hs.length) := by omega
    have fk2 := fk (oq + k)
    have HU := Lib.hid U
    have HG := Lib.hid gh'
    clear e1 e2 ho hget ch hhas hi gh U gh' c0 c2 cf fk
    simp only [stepCells] at *
    go_enter Tryz.func31, Tryz.ntmps31
    go_wp2_with (go_at_call 33; refine Calls.mono hk2 ?_; rintro e w1 ⟨rfl, rfl⟩)
    refine wp_tail 7 (by kernel_rfl) (by kernel_rfl) fun w1 hw1 => ?_
    subst hw1
    simp only [List.take_succ_cons, List.take_zero, List.drop_succ_cons, List.drop_zero]
    repeat (refine wpStill_step (fun K hK => ?_); have HK := Lib.hid hK; clear hK; go_simp; refine HK.out _ ?_; clear HK K)
    refine wpStill_nil ?_
    go_wp2
    go_ret
    exact ⟨rfl, h', HG.out, HU.out.drop1⟩
  · have ho2 : tblOk g.hs a = false := by simpa using ho
    rw [ho2] at hk2
    have e1 : tblErr g.hs a = 3 := by simp [tblErr, ho2]
    have e2 : tblSet g.hs a 0 = g.hs := by simp [tblSet, ho2]
    rw [e1, e2]
    clear e1 e2 ho ho2 ch hhas hi c0 c1 c2 cf
    simp only [stepCells] at *
    go_enter Tryz.func31, Tryz.ntmps31
    go_wp2_with (go_at_call 33; refine Calls.mono hk2 ?_; rintro e w1 ⟨rfl, rfl⟩)
    go_ret
    exact ⟨rfl, h, gh, U0.drop1⟩

end Go.Proofs.YtglbhcoikgbcmaaGreat
