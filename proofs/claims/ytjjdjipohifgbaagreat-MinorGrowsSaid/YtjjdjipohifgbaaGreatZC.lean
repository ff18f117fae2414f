/- What Move of package core comes to, whatever the place. Conditions: a core whose parts are as New makes them. -/
import Derived.Test.YtjjdjipohifgbaaGreatRows
import Derived.Test.YtjjdjipohifgbaaGreatZA
import Derived.Test.YtjjdjipohifgbaaGreatZB
import Derived.Deep.RegionHeld3
import Derived.Deep.RegionLaw
import Derived.Deep.RegionLawGrows
set_option linter.unusedVariables false
set_option linter.unusedSimpArgs false
/- What the sizes of package class, and begin, row and cell of package mature come to. Conditions: a space as New makes it, words of an object. -/
namespace Go.Proofs.YtjjdjipohifgbaaGreat
open Go.RowKit

/-- the size of a cell for so many words -/
def rnd (n : Int) : Int := if n ≤ 4 then 4 else if n ≤ 6 then 6 else if n ≤ 8 then 8 else if n ≤ 12 then 12 else if n ≤ 16 then 16 else if n ≤ 24 then 24 else if n ≤ 32 then 32 else if n ≤ 48 then 48 else if n ≤ 64 then 64 else 96
theorem rnd_bounds (n : Int) : 4 ≤ rnd n ∧ rnd n ≤ 96 := by
  unfold rnd
  repeat' split
  all_goals omega
theorem rnd_le {n : Int} (h : n ≤ 96) : n ≤ rnd n := by
  unfold rnd
  repeat' split
  all_goals omega

set_option maxRecDepth 100000 in
set_option maxHeartbeats 1000000 in
theorem class_round (n : Int) (w : World) (h1 : n ≤ 66) :
    Calls Tryz.prog 123 #[.int .i64 n] w fun e w' => e = .returned (.int .i64 (rnd n)) ∧ w' = w := by
  obtain ⟨R, hR⟩ : ∃ R, R = rnd n := ⟨_, rfl⟩
  rw [← hR]
  have HR := Lib.hid hR
  clear hR
  go_enter Tryz.func123, Tryz.ntmps123
  go_wp2
  go_loop [3] (fun v => ∃ k : Int, (k = 4 ∨ (k = 8 ∧ 6 < n) ∨ (k = 16 ∧ 12 < n) ∨ (k = 32 ∧ 24 < n) ∨ (k = 64 ∧ 48 < n) ∨ (k = 128 ∧ 96 < n)) ∧ v = .int .i64 k) (fun v => (200 - intOf v).toNat)
  case atStart => exact ⟨4, .inl rfl, rfl⟩
  case round =>
    obtain ⟨k, hk, rfl⟩ := hrel
    rcases hk with rfl | ⟨rfl, h2⟩ | ⟨rfl, h2⟩ | ⟨rfl, h2⟩ | ⟨rfl, h2⟩ | ⟨rfl, h2⟩
    · by_cases a1 : n ≤ 4
      · have HV : Hid (R = 4) := Lib.hid (by rw [HR.out]; unfold rnd; ((repeat' split) <;> omega))
        go_wp2
        go_ret
        rw [HV.out]
        exact ⟨rfl, rfl⟩
      · by_cases a2 : n ≤ 6
        · have HV : Hid (R = 6) := Lib.hid (by rw [HR.out]; unfold rnd; ((repeat' split) <;> omega))
          go_wp2
          go_ret
          rw [HV.out]
          exact ⟨rfl, rfl⟩
        · go_wp2
          go_round
          case rel => exact ⟨8, by omega, rfl⟩
          case measure => simp [intOf]
    · by_cases a1 : n ≤ 8
      · have HV : Hid (R = 8) := Lib.hid (by rw [HR.out]; unfold rnd; ((repeat' split) <;> omega))
        go_wp2
        go_ret
        rw [HV.out]
        exact ⟨rfl, rfl⟩
      · by_cases a2 : n ≤ 12
        · have HV : Hid (R = 12) := Lib.hid (by rw [HR.out]; unfold rnd; ((repeat' split) <;> omega))
          go_wp2
          go_ret
          rw [HV.out]
          exact ⟨rfl, rfl⟩
        · go_wp2
          go_round
          case rel => exact ⟨16, by omega, rfl⟩
          case measure => simp [intOf]
    · by_cases a1 : n ≤ 16
      · have HV : Hid (R = 16) := Lib.hid (by rw [HR.out]; unfold rnd; ((repeat' split) <;> omega))
        go_wp2
        go_ret
        rw [HV.out]
        exact ⟨rfl, rfl⟩
      · by_cases a2 : n ≤ 24
        · have HV : Hid (R = 24) := Lib.hid (by rw [HR.out]; unfold rnd; ((repeat' split) <;> omega))
          go_wp2
          go_ret
          rw [HV.out]
          exact ⟨rfl, rfl⟩
        · go_wp2
          go_round
          case rel => exact ⟨32, by omega, rfl⟩
          case measure => simp [intOf]
    · by_cases a1 : n ≤ 32
      · have HV : Hid (R = 32) := Lib.hid (by rw [HR.out]; unfold rnd; ((repeat' split) <;> omega))
        go_wp2
        go_ret
        rw [HV.out]
        exact ⟨rfl, rfl⟩
      · by_cases a2 : n ≤ 48
        · have HV : Hid (R = 48) := Lib.hid (by rw [HR.out]; unfold rnd; ((repeat' split) <;> omega))
          go_wp2
          go_ret
          rw [HV.out]
          exact ⟨rfl, rfl⟩
        · go_wp2
          go_round
          case rel => exact ⟨64, by omega, rfl⟩
          case measure => simp [intOf]
    · by_cases a1 : n ≤ 64
      · have HV : Hid (R = 64) := Lib.hid (by rw [HR.out]; unfold rnd; ((repeat' split) <;> omega))
        go_wp2
        go_ret
        rw [HV.out]
        exact ⟨rfl, rfl⟩
      · by_cases a2 : n ≤ 96
        · have HV : Hid (R = 96) := Lib.hid (by rw [HR.out]; unfold rnd; ((repeat' split) <;> omega))
          go_wp2
          go_ret
          rw [HV.out]
          exact ⟨rfl, rfl⟩
        · omega
    · omega

def largeB (page n : Int) : Bool := decide (page / 2 < rnd n)
theorem class_large (page n : Int) (w : World) (h1 : n ≤ 66) (h2 : 0 ≤ page) (h3 : page ≤ 1048576) :
    Calls Tryz.prog 121 #[.int .i64 page, .int .i64 n] w fun e w' => e = .returned (.bool (largeB page n)) ∧ w' = w := by
  have hr := class_round n w h1
  obtain ⟨b1, b2⟩ := rnd_bounds n
  have hb : largeB page n = decide (page / 2 < rnd n) := rfl
  rw [hb]
  clear hb
  generalize rnd n = R at *
  go_enter Tryz.func121, Tryz.ntmps121
  go_wp2_with (go_at_call 123; with_reducible refine Calls.mono hr ?_; rintro e w' ⟨rfl, rfl⟩)
  go_ret
  exact ⟨rfl, rfl⟩

def pagesN (page n : Int) : Int := n / page + min (n % page) 1
theorem pagesN_bounds {page n : Int} (h1 : 1 ≤ n) (h2 : n ≤ 66) (h3 : 16 ≤ page) : 1 ≤ pagesN page n ∧ pagesN page n ≤ 6 ∧ n ≤ pagesN page n * page := by
  unfold pagesN
  have e1 : page * (n / page) + n % page = n := Int.mul_ediv_add_emod n page
  have e2 : 0 ≤ n % page := Int.emod_nonneg n (by omega)
  have e3 : n % page < page := Int.emod_lt_of_pos n (by omega)
  have e4 : 0 ≤ n / page := Int.ediv_nonneg (by omega) (by omega)
  have e5 : n / page ≤ 4 := by
    have : n / page < 5 := Int.ediv_lt_of_lt_mul (by omega) (by omega)
    omega
  generalize n / page = q at *
  generalize n % page = r at *
  have e6 : page * q = q * page := Int.mul_comm _ _
  rw [e6] at e1
  rw [Int.add_mul]
  generalize hA : q * page = A at *
  by_cases hr : r = 0
  · subst hr
    rw [show min (0 : Int) 1 = 0 by omega]
    rcases Int.lt_or_eq_of_le e4 with h | h
    · omega
    · subst h
      omega
  · rw [show min r 1 = 1 by omega]
    omega

set_option maxRecDepth 100000 in
set_option maxHeartbeats 1000000 in
theorem class_pages (page n : Int) (w : World) (h1 : 1 ≤ n) (h2 : n ≤ 66) (h3 : 16 ≤ page) (h4 : page ≤ 1048576) :
    Calls Tryz.prog 114 #[.int .i64 page, .int .i64 n] w fun e w' => e = .returned (.int .i64 (pagesN page n)) ∧ ∃ k, w' = w.drewN k := by
  have e2 : 0 ≤ n % page := Int.emod_nonneg n (by omega)
  have e3 : n % page < page := Int.emod_lt_of_pos n (by omega)
  have e4 : 0 ≤ n / page := Int.ediv_nonneg (by omega) (by omega)
  have e5 : n / page ≤ n := Int.ediv_le_self _ (by omega)
  have hz : page ≠ 0 := by omega
  have hd : n.tdiv page = n / page := Int.tdiv_eq_ediv_of_nonneg (by omega)
  have hd2 : n.tmod page = n % page := Int.tmod_eq_emod_of_nonneg (by omega)
  have hv : pagesN page n = n / page + min (n % page) 1 := rfl
  rw [hv]
  clear hv
  generalize n / page = q at *
  generalize n % page = r at *
  have w1 : IntKind.i64.wrap q = q := IntWalk.i64_in _ (by omega)
  have w2 : IntKind.i64.wrap r = r := IntWalk.i64_in _ (by omega)
  have hr : r = 0 ∨ 1 ≤ r := by omega
  rcases hr with rfl | hr
  · rw [show q + min (0 : Int) 1 = q by omega]
    go_enter Tryz.func114, Tryz.ntmps114
    go_wp2
    all_goals first | go_quiet (fail) | skip
    all_goals go_wp2
    all_goals go_ret
    all_goals exact ⟨rfl, _, rfl⟩
  · rw [show q + min r 1 = q + 1 by omega]
    have hr1 : r = 1 ∨ 1 < r := by omega
    clear hr
    rcases hr1 with rfl | hr
    all_goals
      go_enter Tryz.func114, Tryz.ntmps114
      go_wp2
      go_quiet (fail)
      go_wp2
      go_ret
      exact ⟨rfl, _, rfl⟩

set_option maxRecDepth 100000 in
set_option maxHeartbeats 1000000 in
theorem class_cells (page n : Int) (w : World) (h1 : 1 ≤ n) (h2 : n ≤ 1048576) (h3 : 1 ≤ page) (h4 : page ≤ 1048576) :
    Calls Tryz.prog 127 #[.int .i64 page, .int .i64 n] w fun e w' => e = .returned (.int .i64 (page / n)) ∧ w' = w := by
  have e4 : 0 ≤ page / n := Int.ediv_nonneg (by omega) (by omega)
  have e5 : page / n ≤ page := Int.ediv_le_self _ (by omega)
  have hz : n ≠ 0 := by omega
  have hd : page.tdiv n = page / n := Int.tdiv_eq_ediv_of_nonneg (by omega)
  generalize page / n = q at *
  have w1 : IntKind.i64.wrap q = q := IntWalk.i64_in _ (by omega)
  go_enter Tryz.func127, Tryz.ntmps127
  go_wp2
  go_ret
  exact ⟨rfl, rfl⟩

end Go.Proofs.YtjjdjipohifgbaaGreat

/- The pages of package mature in memory: a page turns; begin, row and cell. Conditions: a space as New makes it. -/
namespace Go.Proofs.YtjjdjipohifgbaaGreat
open Go.RowKit

abbrev matParts (p : Nat) (s : MatS) (b : Nat) (rows : List PRow) : List Hp := [(p, matObj s b)] :: [(b, listObj rows)] :: rows.map (·.2.2)
/-- a space whose list lies in block b -/
def MatureR (p b : Nat) (rows : List PRow) (s : MatS) (h : Hp) : Prop := h = (matParts p s b rows).flatten ∧ s.pages = rows.map (·.1) ∧ (∀ r ∈ rows, RowOk r) ∧ s.WF
theorem MatureH.rows {p : Nat} {s : MatS} {h : Hp} (m : MatureH p s h) : ∃ b rows, MatureR p b rows s h := m
theorem MatureR.mat {p b : Nat} {rows : List PRow} {s : MatS} {h : Hp} (m : MatureR p b rows s h) : MatureH p s h := ⟨b, rows, m⟩

/-- cells and marks of old blocks, behind an alloc -/
theorem alc {w : World} {o : Obj} {b i : Nat} {v : Value} (hc : w.cell? ⟨b, i, none⟩ = some v) : (w.alloc o).cell? ⟨b, i, none⟩ = some v := ((Upd.refl (In.nil w)).skip' o).kc hc
theorem alf {w : World} {o : Obj} {b i j : Nat} {v : Value} (hc : w.cell? ⟨b, j, none⟩ = some v) (hf : w.frozen? ⟨b, i, none⟩ = false) : (w.alloc o).frozen? ⟨b, i, none⟩ = false := by
  have hb : b < w.heap.size := World.block_lt_of_cell? _ _ hc
  rw [((Upd.refl (In.nil w)).skip' o).below.frozen (p := ⟨b, i, none⟩) hb]
  exact hf
/-- two cells behind a store beside them -/
theorem keeps {w : World} {k a i j o : Nat} {x u v : Value} (h : w.cell? ⟨a, i, none⟩ = some u ∧ w.cell? ⟨a, j, none⟩ = some v) (m : k ≠ a) :
    (w.setCell ⟨k, o, none⟩ x).cell? ⟨a, i, none⟩ = some u ∧ (w.setCell ⟨k, o, none⟩ x).cell? ⟨a, j, none⟩ = some v := by
  have e : ∀ i, (w.setCell ⟨k, o, none⟩ x).cell? ⟨a, i, none⟩ = w.cell? ⟨a, i, none⟩ := by
    intro i
    simp only [World.cell?]
    rw [heap_setCell_other (by exact fun e => m e.symm)]
  exact ⟨(e i).trans h.1, (e j).trans h.2⟩
theorem MatureR.ne {p b : Nat} {rows : List PRow} {s : MatS} {h : Hp} {w : World} (m : MatureR p b rows s h) (hi : In w h) : b ≠ p := by
  have h1 := hi.1
  rw [m.1] at h1
  intro e
  subst e
  simp [matParts] at h1
theorem map_get {α β : Type} {f : α → β} {l : List α} {n : Nat} {y : β} (h : (l.map f)[n]? = some y) : ∃ x, l[n]? = some x ∧ f x = y := by
  rw [List.getElem?_map] at h
  cases hx : l[n]? with
  | none => rw [hx] at h; cases h
  | some x => rw [hx] at h; cases h; exact ⟨x, rfl, rfl⟩

theorem MatureR.row {p b : Nat} {rows : List PRow} {s : MatS} {h : Hp} (m : MatureR p b rows s h) {n : Nat} {g : PageS} (hg : s.pages[n]? = some g) : ∃ v hp, rows[n]? = some (g, v, hp) ∧ RowOk (g, v, hp) := by
  obtain ⟨_, hp, hr, _⟩ := m
  rw [hp] at hg
  obtain ⟨⟨g', v, k⟩, h1, rfl⟩ := map_get hg
  exact ⟨v, k, h1, hr _ (List.mem_of_getElem? h1)⟩
theorem MatureR.len {p b : Nat} {rows : List PRow} {s : MatS} {h : Hp} (m : MatureR p b rows s h) : rows.length = s.pages.length := by rw [m.2.1]; simp
theorem MatureR.cells {p b : Nat} {rows : List PRow} {s : MatS} {h : Hp} {w : World} (m : MatureR p b rows s h) (hi : In w h) :
    w.cell? ⟨p, 0, none⟩ = some (.int .i64 s.base) ∧ w.cell? ⟨p, 1, none⟩ = some (.int .i64 s.words) ∧ w.cell? ⟨p, 2, none⟩ = some (.slice (some ⟨b, 0, none⟩) s.pages.length s.pages.length) := by
  have hi2 := hi
  rw [m.1] at hi2
  have hb := (hi2.part (i := 0) rfl).head
  exact ⟨cell_of hb 0, cell_of hb 1, cell_of hb 2⟩
theorem MatureR.list {p b : Nat} {rows : List PRow} {s : MatS} {h : Hp} {w : World} (m : MatureR p b rows s h) (hi : In w h) : w.heap[b]? = some (listObj rows) := by
  have hi2 := hi
  rw [m.1] at hi2
  exact (hi2.part (i := 1) rfl).head
theorem MatureR.page {p b : Nat} {rows : List PRow} {s : MatS} {h : Hp} {w : World} (m : MatureR p b rows s h) (hi : In w h) {n : Nat} {r : PRow} (hr : rows[n]? = some r) :
    w.cell? ⟨b, n * 4, none⟩ = some (.int .i64 r.1.kind) ∧ w.cell? ⟨b, n * 4 + 1, none⟩ = some (.int .i64 r.1.size) ∧ w.cell? ⟨b, n * 4 + 2, none⟩ = some r.2.1 ∧ w.cell? ⟨b, n * 4 + 3, none⟩ = some (.bool r.1.pending) := list_cells (m.list hi) hr
theorem MatureR.part {p b : Nat} {rows : List PRow} {s : MatS} {h : Hp} {w : World} (m : MatureR p b rows s h) (hi : In w h) {n : Nat} {r : PRow} (hr : rows[n]? = some r) : In w r.2.2 := by
  have hi2 := hi
  rw [m.1] at hi2
  exact hi2.part (i := n + 2) (by simp [hr])

theorem rows_set : ∀ (rows : List PRow) (n j : Nat) (v : Value) (r r' : PRow), rows[n]? = some r → j < 4 → rowCells r' = (rowCells r).set j v → (rows.flatMap rowCells).set (n * 4 + j) v = (rows.set n r').flatMap rowCells
  | [], n, j, v, r, r', hr, _, _ => by simp at hr
  | x :: rows, 0, j, v, r, r', hr, hj, he => by
    simp at hr
    subst hr
    have hl : (rowCells x).length = 4 := rfl
    simp only [List.flatMap_cons, Nat.zero_mul, Nat.zero_add, List.set_cons_zero]
    rw [List.set_append_left _ _ (by omega), he]
  | x :: rows, n + 1, j, v, r, r', hr, hj, he => by
    simp at hr
    have hl : (rowCells x).length = 4 := rfl
    simp only [List.flatMap_cons, List.set_cons_succ]
    rw [List.set_append_right _ _ (by omega), hl, show (n + 1) * 4 + j - 4 = n * 4 + j by omega, rows_set rows n j v r r' hr hj he]

theorem listObj_set {rows : List PRow} {n j : Nat} {v : Value} {r r' : PRow} (hr : rows[n]? = some r) (hj : j < 4) (he : rowCells r' = (rowCells r).set j v) :
    (rows.flatMap rowCells).toArray.setIfInBounds (n * 4 + j) v = ((rows.set n r').flatMap rowCells).toArray := by
  rw [← rows_set rows n j v r r' hr hj he]
  simp

theorem set_set_same {α : Type} (l : List α) (n : Nat) (x y : α) : (l.set n x).set n y = l.set n y := by simp

/-- all four cells of a page are stored -/
theorem listObj_set4 {rows : List PRow} {n : Nat} {g : PageS} {v : Value} {k : Hp} {r : PRow} (hr : rows[n]? = some r) :
    ((((rows.flatMap rowCells).toArray.setIfInBounds (n * 4) (.int .i64 g.kind)).setIfInBounds (n * 4 + 1) (.int .i64 g.size)).setIfInBounds (n * 4 + 2) v).setIfInBounds (n * 4 + 3) (.bool g.pending) = ((rows.set n (g, v, k)).flatMap rowCells).toArray := by
  have hn : n < rows.length := (List.getElem?_eq_some_iff.1 hr).1
  have e0 := listObj_set (r' := ({ r.1 with kind := g.kind }, r.2.1, k)) hr (j := 0) (v := .int .i64 g.kind) (by omega) rfl
  rw [Nat.add_zero] at e0
  rw [e0]
  rw [listObj_set (r := ({ r.1 with kind := g.kind }, r.2.1, k)) (r' := ({ r.1 with kind := g.kind, size := g.size }, r.2.1, k)) (j := 1) (by simp [hn]) (by omega) rfl, set_set_same]
  rw [listObj_set (r := ({ r.1 with kind := g.kind, size := g.size }, r.2.1, k)) (r' := ({ r.1 with kind := g.kind, size := g.size }, v, k)) (j := 2) (by simp [hn]) (by omega) rfl, set_set_same]
  rw [listObj_set (r := ({ r.1 with kind := g.kind, size := g.size }, v, k)) (r' := (g, v, k)) (j := 3) (by simp [hn]) (by omega) rfl, set_set_same]

/-- a part that is given up for another one -/
theorem Upd.swapPart {w0 w : World} {h0 y x : Hp} {l : List Hp} {i : Nat} (a : Upd h0 (y ++ l.flatten) w0 w) (hx : l[i]? = some x) : Upd h0 (l.set i y).flatten w0 w := by
  have p1 : (y ++ l.flatten).Perm (x ++ (y ++ (l.eraseIdx i).flatten)) := by
    refine ((flatten_perm_get hx).append_left y).trans ?_
    rw [← List.append_assoc, ← List.append_assoc]
    exact List.perm_append_comm.append_right _
  have a1 := (a.perm (List.Perm.refl _) p1).forget (List.sublist_append_right x _)
  exact a1.perm (List.Perm.refl _) (flatten_perm_set y hx).symm

def MatS.begin (s : MatS) (n : Nat) : Int := s.base + n * s.words
def MatS.setPage (s : MatS) (n : Nat) (g : PageS) : MatS := { s with pages := s.pages.set n g }

/-- a page with nothing more than before turns -/
theorem MatureR.set {p b : Nat} {rows : List PRow} {s : MatS} {h h0 : Hp} {w0 w : World} (m : MatureR p b rows s h) (n : Nat) (g' : PageS) (v' : Value) (k' : Hp) (ok : RowOk (g', v', k')) {r : PRow} (hr : rows[n]? = some r)
    (U : Upd h0 (k' ++ (matParts p s b (rows.set n (g', v', r.2.2))).flatten) w0 w) : ∃ h', MatureR p b (rows.set n (g', v', k')) (s.setPage n g') h' ∧ Upd h0 h' w0 w := by
  obtain ⟨_, hp, hro, hwf⟩ := m
  have hn : n < rows.length := (List.getElem?_eq_some_iff.1 hr).1
  have U2 := U.swapPart (i := n + 2) (x := r.2.2) (by simp [hn])
  refine ⟨_, ⟨rfl, ?_, ?_, ?_⟩, ?_⟩
  · show s.pages.set n g' = _
    rw [List.map_set, hp]
  · intro q hq
    rcases List.mem_or_eq_of_mem_set hq with h1 | h1
    · exact hro q h1
    · rw [h1]; exact ok
  · obtain ⟨a1, a2, a3, a4, a5⟩ := hwf
    exact ⟨a1, a2, a3, a4, by show (s.pages.set n g').length ≤ 64; simpa using a5⟩
  · have e1 : matObj (s.setPage n g') b = matObj s b := by simp [matObj, MatS.setPage]
    have e2 : listObj (rows.set n (g', v', r.2.2)) = listObj (rows.set n (g', v', k')) := by
      unfold listObj
      congr 2
      have key : ∀ (l : List PRow) (n : Nat) (x y : PRow), rowCells x = rowCells y → (l.set n x).flatMap rowCells = (l.set n y).flatMap rowCells := by
        intro l
        induction l with
        | nil => intro n x y _; rfl
        | cons z l ih =>
          intro n x y he
          cases n with
          | zero => simp [he]
          | succ n => simp [ih n x y he]
      exact key _ _ _ _ rfl
    simp only [matParts, e1, ← e2, List.map_set]
    simpa [matParts, List.map_set] using U2

/-- the first number of a list where it says no -/
def firstF (l : List Bool) : Option Nat := firstT (l.map (!·)) 0
def optM (o : Option Nat) : Int := match o with | some k => k | none => -1
theorem firstF_get {l : List Bool} {k : Nat} (h : firstF l = some k) : k < l.length ∧ l[k]? = some false := by
  have key : ∀ (l : List Bool) (o k : Nat), firstT (l.map (!·)) o = some k → o ≤ k ∧ l[k - o]? = some false := by
    intro l
    induction l with
    | nil => intro o k h; cases h
    | cons b l ih =>
      intro o k h
      cases b
      · simp [firstT] at h
        subst h
        simp
      · simp [firstT] at h
        obtain ⟨h1, h2⟩ := ih _ _ h
        refine ⟨by omega, ?_⟩
        rw [show k - o = (k - (o + 1)) + 1 by omega]
        simpa using h2
  have h1 := (key l 0 k h).2
  rw [Nat.sub_zero] at h1
  exact ⟨(List.getElem?_eq_some_iff.1 h1).1, h1⟩

def PageS.use (g : PageS) (k : Nat) (v : Bool) : PageS := { g with used := g.used.set k v }
def MatS.useO (s : MatS) (n : Nat) (g : PageS) (o : Option Nat) : MatS := match o with | some k => s.setPage n (g.use k true) | none => s

set_option maxRecDepth 100000 in
set_option maxHeartbeats 1000000 in
theorem mature_begin (p : Nat) (s : MatS) (n : Nat) (w : World) (h : Hp) (hi : In w h) (hm : MatureH p s h) (hn : n ≤ 64) :
    Calls Tryz.prog 116 #[.pointer (some ⟨p, 0, none⟩), .int .i64 n] w fun e w' => e = .returned (.int .i64 (s.begin n)) ∧ Upd h h w w' := by
  obtain ⟨b, rows, m⟩ := hm.rows
  obtain ⟨c0, c1, c2⟩ := m.cells hi
  obtain ⟨_, _, _, a1, a2, a3, a4, a5⟩ := m
  have U0 := Upd.refl hi
  have k0 : 0 ≤ (n : Int) * s.words := Int.mul_nonneg (by omega) (by omega)
  have k1 : (n : Int) * s.words ≤ 64 * 256 := Int.mul_le_mul (by omega) (by omega) (by omega) (by omega)
  have m1 : IntKind.i64.wrap ((n : Int) * s.words) = (n : Int) * s.words := IntWalk.i64_in _ (by omega)
  have hb : s.begin n = s.base + (n : Int) * s.words := rfl
  rw [hb]
  clear hb
  generalize hA : (n : Int) * s.words = A at *
  have m2 : IntKind.i64.wrap (s.base + A) = s.base + A := IntWalk.i64_in _ (by omega)
  go_enter Tryz.func116, Tryz.ntmps116
  go_wp2
  go_quiet (fail)
  go_wp2
  go_ret
  exact ⟨rfl, U0.drewN' nq⟩

/-- the first of so many free pages, side by side -/
def rowF (count : Nat) : List PageS → Nat → Nat → Option Nat
  | [], _, _ => none
  | g :: l, n, run => if g.kind = 0 then (if run + 1 = count then some (n + 1 - count) else rowF count l (n + 1) (run + 1)) else rowF count l (n + 1) 0
theorem rowF_drop (c : Nat) (l : List PageS) (k run : Nat) (g : PageS) (h : l[k]? = some g) : rowF c (l.drop k) k run = if g.kind = 0 then (if run + 1 = c then some (k + 1 - c) else rowF c (l.drop (k + 1)) (k + 1) (run + 1)) else rowF c (l.drop (k + 1)) (k + 1) 0 := by
  obtain ⟨hk, rfl⟩ := List.getElem?_eq_some_iff.1 h
  rw [List.drop_eq_getElem_cons hk]
  rfl

set_option maxRecDepth 100000 in
set_option maxHeartbeats 1000000 in
theorem mature_row (p : Nat) (s : MatS) (c : Nat) (w : World) (h : Hp) (hi : In w h) (hm : MatureH p s h) (h1 : 1 ≤ c) (h2 : c ≤ 64) :
    Calls Tryz.prog 124 #[.pointer (some ⟨p, 0, none⟩), .int .i64 c] w fun e w' => e = .returned (.tuple #[.int .i64 (optI (rowF c s.pages 0 0)), .bool (rowF c s.pages 0 0).isSome]) ∧ w' = w := by
  obtain ⟨b, rows, m⟩ := hm.rows
  obtain ⟨c0, c1, c2⟩ := m.cells hi
  have hlen : s.pages.length ≤ 64 := m.2.2.2.2.2.2.2
  have HK : Hid (∀ k g, s.pages[k]? = some g → w.cell? ⟨b, k * 4, none⟩ = some (.int .i64 g.kind)) := Lib.hid (by
    intro k g hg
    obtain ⟨v, hp, hr, _⟩ := m.row hg
    exact (m.page hi hr).1)
  obtain ⟨R, hR⟩ : ∃ R, R = rowF c s.pages 0 0 := ⟨_, rfl⟩
  rw [← hR]
  have HR := Lib.hid hR
  clear hR m
  go_enter Tryz.func124, Tryz.ntmps124
  go_wp2
  go_loop [6, 13] (fun v i => ∃ k run : Nat, k ≤ s.pages.length ∧ run ≤ k ∧ run < c ∧ i = .int .i64 k ∧ v = .int .i64 run ∧ Hid (R = rowF c (s.pages.drop k) k run)) (fun _ i => s.pages.length - (intOf i).toNat)
  case atStart => exact ⟨0, 0, by omega, by omega, by omega, rfl, rfl, HR⟩
  case round =>
    obtain ⟨k, run, hk, hrk, hrc, rfl, rfl, HL⟩ := hrel
    by_cases hlt : k < s.pages.length
    · obtain ⟨g, hg⟩ : ∃ g, s.pages[k]? = some g := ⟨_, List.getElem?_eq_getElem hlt⟩
      have hc := HK.out k g hg
      have hd := rowF_drop c s.pages k run g hg
      have hne : b ≠ p ∨ True := .inr trivial
      clear hg hne
      by_cases hz : g.kind = 0
      · rw [if_pos hz] at hd
        rw [hz] at hc
        clear hz
        by_cases hq : run + 1 = c
        · rw [if_pos hq] at hd
          have HV := Lib.hid (HL.out.trans hd)
          obtain ⟨j, hj⟩ : ∃ j : Nat, k + 1 = j + c := ⟨k + 1 - c, by omega⟩
          have e2 : IntKind.i64.wrap (IntKind.i64.wrap ((k : Int) - c) + 1) = j := by rw [IntWalk.i64_in ((k : Int) - c) (by omega), IntWalk.i64_in _ (by omega)]; omega
          have e3 : k + 1 - c = j := by omega
          rw [e3] at HV
          have hz1 : ((run : Int) + 1 == c) = true := by simp; omega
          have E := Lib.hid (show (k : Int) - c + 1 = j by omega)
          clear hd hq HL e2 e3 hj
          go_wp2
          go_ret2
          rw [HV.out]
          refine ⟨?_, rfl⟩
          simp only [optI, Option.isSome_some]
          rw [← E.out]
          rfl
        · rw [if_neg hq] at hd
          have HV := Lib.hid (HL.out.trans hd)
          have hz1 : ((run : Int) + 1 == c) = false := by simp; omega
          clear hd HL
          go_wp2
          go_round
          case rel => exact ⟨k + 1, run + 1, by omega, by omega, by omega, by go_num, by go_num, HV⟩
          case measure => simp [intOf]; omega
      · rw [if_neg hz] at hd
        have HV := Lib.hid (HL.out.trans hd)
        have hz1 : (g.kind != 0) = true := by simpa using hz
        clear hd HL hz
        go_wp2
        go_round
        case rel => exact ⟨k + 1, 0, by omega, by omega, by omega, by go_num, rfl, HV⟩
        case measure => simp [intOf]; omega
    · have HV : Hid (R = none) := Lib.hid (HL.out.trans (by rw [List.drop_of_length_le (by omega)]; rfl))
      clear HL
      go_wp2
      go_ret2
      rw [HV.out]
      exact ⟨rfl, rfl⟩

theorem bools_set (l : List Bool) (k : Nat) (v : Bool) : (bools l).set k (.bool v) = bools (l.set k v) := by simp [bools, List.map_set]

set_option maxRecDepth 100000 in
set_option maxHeartbeats 1000000 in
theorem page_cell (p b : Nat) (rows : List PRow) (s : MatS) (n : Nat) (g : PageS) (w : World) (h : Hp) (hi : In w h) (m : MatureR p b rows s h) (hg : s.pages[n]? = some g) :
    Calls Tryz.prog 126 #[.pointer (some ⟨b, n * 4, none⟩)] w fun e w' => e = .returned (.int .i64 (optM (firstF g.used))) ∧ ∃ rows' h', MatureR p b rows' (s.useO n g (firstF g.used)) h' ∧ Upd h h' w w' := by
  obtain ⟨v, hp, hr, hok⟩ := m.row hg
  obtain ⟨c0, c1, c2, c3⟩ := m.page hi hr
  simp only at c0 c1 c2 c3
  have hpin := m.part hi hr
  have hul : g.used.length ≤ 1048576 := hok.2
  have hS := hok.1
  simp only at hS
  obtain ⟨ao, cap, rfl, hcap⟩ := hS.shape
  obtain ⟨R, hR⟩ : ∃ R, R = firstF g.used := ⟨_, rfl⟩
  rw [← hR]
  have HR : Hid (R = firstT ((g.used.map (!·)).drop 0) 0) := Lib.hid hR
  have HC : Hid (∀ k, k < g.used.length → ∃ gb off, ao = some ⟨gb, off, none⟩ ∧ w.cell? ⟨gb, off + k, none⟩ = some (.bool (g.used.getD k false)) ∧ w.frozen? ⟨gb, off + k, none⟩ = false) := Lib.hid (by
    intro k hk
    obtain ⟨gb, off, cap', hv, _⟩ := hS.addr (by omega)
    have hc := hS.cell hpin hv (j := k) (by simpa using hk)
    simp only [Value.slice.injEq] at hv
    refine ⟨gb, off, hv.1, ?_, hS.frozen hpin (by rw [hv.1]) _⟩
    rw [hc]
    simp [List.getD, hk])
  have HF : Hid (∀ k, R = some k → ∀ gb off, ao = some ⟨gb, off, none⟩ → ∃ rows' h', MatureR p b rows' (s.setPage n (g.use k true)) h' ∧ Upd h h' w (w.setCell ⟨gb, off + k, none⟩ (.bool true))) := Lib.hid (by
    intro k hk gb off ha
    obtain ⟨hkl, _⟩ := firstF_get (hR.symm.trans hk)
    subst ha
    obtain ⟨hp', hS', u⟩ := hS.store hpin rfl (j := k) (by simpa using hkl) (.bool true)
    rw [bools_set] at hS'
    have U := Upd.then_part (l := matParts p s b rows) (i := n + 2) (by rw [← m.1]; exact Upd.refl hi) (by simp [hr]) u
    have hn : n < rows.length := (List.getElem?_eq_some_iff.1 hr).1
    have hset : (matParts p s b rows).set (n + 2) hp' = matParts p (s.setPage n (g.use k true)) b (rows.set n (g.use k true, .slice (some ⟨gb, off, none⟩) g.used.length cap, hp')) := by
      have e1 : matObj (s.setPage n (g.use k true)) b = matObj s b := by simp [matObj, MatS.setPage]
      have e2 : listObj (rows.set n (g.use k true, .slice (some ⟨gb, off, none⟩) g.used.length cap, hp')) = listObj rows := by
        unfold listObj
        have := rows_set rows n 0 (.int .i64 g.kind) _ (g.use k true, .slice (some ⟨gb, off, none⟩) g.used.length cap, hp') hr (by omega) rfl
        rw [← this, Nat.add_zero]
        congr 2
        refine set_self ?_
        have := rows_get rows n 0 (by omega)
        rw [Nat.add_zero, hr] at this
        exact this
      simp only [matParts, e1, e2, List.set_cons_succ, List.map_set]
    rw [hset] at U
    refine ⟨_, _, ⟨rfl, ?_, ?_, ?_⟩, U⟩
    · show s.pages.set n _ = _
      rw [List.map_set, m.2.1]
    · intro q hq
      rcases List.mem_or_eq_of_mem_set hq with h1 | h1
      · exact m.2.2.1 q h1
      · rw [h1]
        exact ⟨by simpa [PageS.use] using hS', by simpa [PageS.use] using hul⟩
    · obtain ⟨a1, a2, a3, a4, a5⟩ := m.2.2.2
      exact ⟨a1, a2, a3, a4, by show (s.pages.set n _).length ≤ 64; simpa using a5⟩)
  have HM := Lib.hid m
  have HU := Lib.hid (Upd.refl hi)
  clear hR hS hok m c0 c1 c3 hpin
  go_enter Tryz.func126, Tryz.ntmps126
  go_wp2
  go_loop [10] (fun i => ∃ k : Nat, k ≤ g.used.length ∧ i = .int .i64 k ∧ Hid (R = firstT ((g.used.map (!·)).drop k) k)) (fun i => g.used.length - (intOf i).toNat)
  case atStart => exact ⟨0, by omega, rfl, HR⟩
  case round =>
    obtain ⟨k, hk, rfl, HL⟩ := hrel
    by_cases hlt : k < g.used.length
    · obtain ⟨gb, off, rfl, hc, hf⟩ := HC.out k hlt
      have h2 := firstT_drop (g.used.map (!·)) k (by simpa using hlt)
      have h3 : (g.used.map (!·)).getD k false = !g.used.getD k false := by simp [List.getD, hlt]
      rw [h3] at h2
      clear h3
      cases hb : g.used.getD k false
      · rw [hb] at hc h2
        have HV : Hid (R = some k) := Lib.hid (HL.out.trans h2)
        clear h2 hb HL
        go_wp2
        go_ret
        obtain ⟨rows', h', m', U'⟩ := HF.out k HV.out gb off rfl
        rw [HV.out]
        exact ⟨rfl, rows', h', m', U'⟩
      · rw [hb] at hc h2
        have HV := Lib.hid (HL.out.trans h2)
        clear h2 hb HL
        go_wp2
        go_round
        case rel => exact ⟨k + 1, by omega, by go_num, HV⟩
        case measure => simp [intOf]; omega
    · have HV : Hid (R = none) := Lib.hid (HL.out.trans (by rw [List.drop_of_length_le (by simp; omega)]; rfl))
      clear HL
      go_wp2
      go_ret
      rw [HV.out]
      exact ⟨rfl, rows, h, HM.out, HU.out⟩

end Go.Proofs.YtjjdjipohifgbaaGreat

/- What inBlock and Take of package mature come to. Conditions: a space as New makes it. -/
namespace Go.Proofs.YtjjdjipohifgbaaGreat
open Go.RowKit

/-- the first page of cells of a size that has one free, and the cell -/
def fitIn (size : Int) : List PageS → Nat → Option (Nat × Nat)
  | [], _ => none
  | g :: l, n => if (g.kind = 1 ∧ g.size = size) ∧ g.pending = false then (match firstF g.used with | some k => some (n, k) | none => fitIn size l (n + 1)) else fitIn size l (n + 1)
theorem fitIn_drop (size : Int) (l : List PageS) (k : Nat) (g : PageS) (h : l[k]? = some g) : fitIn size (l.drop k) k = if (g.kind = 1 ∧ g.size = size) ∧ g.pending = false then (match firstF g.used with | some j => some (k, j) | none => fitIn size (l.drop (k + 1)) (k + 1)) else fitIn size (l.drop (k + 1)) (k + 1) := by
  obtain ⟨hk, rfl⟩ := List.getElem?_eq_some_iff.1 h
  rw [List.drop_eq_getElem_cons hk]
  rfl
def MatS.useAt (s : MatS) (n k : Nat) : MatS := match s.pages[n]? with | some g => s.setPage n (g.use k true) | none => s
def newBlk (size words : Int) : PageS := ⟨1, size, (List.replicate (words / size).toNat false).set 0 true, false⟩
def MatS.fresh (s : MatS) (size : Int) (o : Option Nat) : Option (Int × MatS) := match o with
  | some n => some (s.begin n, s.setPage n (newBlk size s.words))
  | none => none
def MatS.fitted (s : MatS) (size : Int) (o : Option (Nat × Nat)) : Option (Int × MatS) := match o with
  | some (n, k) => some (s.begin n + k * size, s.useAt n k)
  | none => s.fresh size (rowF 1 s.pages 0 0)
def MatS.inB (s : MatS) (size : Int) : Option (Int × MatS) := s.fitted size (fitIn size s.pages 0)
theorem rowF_lt {c : Nat} {l : List PageS} {n : Nat} (h : rowF (c + 1) l 0 0 = some n) : n < l.length := by
  have key : ∀ (l : List PageS) (k run n : Nat), rowF (c + 1) l k run = some n → n < k + l.length := by
    intro l
    induction l with
    | nil => intro k run n h; cases h
    | cons g l ih =>
      intro k run n h
      unfold rowF at h
      simp only [List.length_cons]
      split at h
      · split at h
        · cases h
          omega
        · have := ih _ _ _ h
          omega
      · have := ih _ _ _ h
        omega
  have := key l 0 0 n h
  omega
def optA (o : Option (Int × MatS)) : Int := match o with | some x => x.1 | none => 0
def optS (s : MatS) (o : Option (Int × MatS)) : MatS := match o with | some x => x.2 | none => s

theorem blk_cells (c : Nat) : (List.replicate c (Value.bool false)).toArray.setIfInBounds 0 (.bool true) = (bools ((List.replicate c false).set 0 true)).toArray := by
  simp only [List.setIfInBounds_toArray, bools, List.map_set, List.map_replicate]

set_option maxRecDepth 100000 in
set_option maxHeartbeats 2000000 in
theorem mature_inBlock (p b : Nat) (rows : List PRow) (s : MatS) (size : Int) (w : World) (h : Hp) (hi : In w h) (m : MatureR p b rows s h) (h1 : 4 ≤ size) (h2 : size ≤ s.words) :
    Calls Tryz.prog 122 #[.pointer (some ⟨p, 0, none⟩), .int .i64 size] w fun e w' => e = .returned (.tuple #[.int .i64 (optA (s.inB size)), .bool (s.inB size).isSome]) ∧ ∃ rows' h', MatureR p b rows' (optS s (s.inB size)) h' ∧ Upd h h' w w' := by
  obtain ⟨c0, c1, c2⟩ := m.cells hi
  obtain ⟨a1, a2, a3, a4, a5⟩ := m.2.2.2
  obtain ⟨R, hR⟩ : ∃ R, R = fitIn size s.pages 0 := ⟨_, rfl⟩
  obtain ⟨F, hF⟩ : ∃ F, F = s.inB size := ⟨_, rfl⟩
  have HF : Hid (F = s.fitted size R) := Lib.hid (by rw [hF, hR]; rfl)
  rw [← hF]
  have HR := Lib.hid hR
  have H0 : Hid (∃ rows' h', MatureR p b rows' s h' ∧ Upd h h' w w) := Lib.hid ⟨rows, h, m, Upd.refl hi⟩
  have hlen := m.len
  clear hR hF m
  go_enter Tryz.func122, Tryz.ntmps122
  go_wp2
  go_loopw [16] (fun i wr => ∃ k : Nat, k ≤ s.pages.length ∧ i = .int .i64 k ∧ Hid (R = fitIn size (s.pages.drop k) k) ∧ Hid (∃ rows' h', MatureR p b rows' s h' ∧ Upd h h' w wr)) (fun i _ => s.pages.length - (intOf i).toNat)
  case atStart => exact ⟨0, by omega, rfl, HR, H0⟩
  case round =>
    obtain ⟨k, hk, rfl, HL, HW⟩ := hrel
    by_cases hlt : k < s.pages.length
    · obtain ⟨g, hg⟩ : ∃ g, s.pages[k]? = some g := ⟨_, List.getElem?_eq_getElem hlt⟩
      obtain ⟨rows1, h1', m1, u1⟩ := HW.out
      have hd := fitIn_drop size s.pages k g hg
      have HD := Lib.hid (HL.out.trans hd)
      obtain ⟨v, hp, hr, hok⟩ := m1.row hg
      obtain ⟨d0, d1, d2, d3⟩ := m1.page u1.inn hr
      obtain ⟨_, _, q2⟩ := m1.cells u1.inn
      have hcell := page_cell p b rows1 s k g wr h1' u1.inn m1 hg
      have HU := Lib.hid u1
      simp only at d0 d1 d2 d3
      have HW' := HW
      clear hd HL hok hr d2 u1 m1 HW
      by_cases g1 : g.kind = 1
      · rw [g1] at d0
        by_cases g2 : g.size = size
        · rw [g2] at d1
          cases g3 : g.pending
          · rw [g3] at d3
            have HE : Hid (R = match firstF g.used with | some j => some (k, j) | none => fitIn size (s.pages.drop (k + 1)) (k + 1)) := Lib.hid (by rw [HD.out, if_pos ⟨⟨g1, g2⟩, g3⟩])
            cases hq : firstF g.used with
            | none =>
              have HV : Hid (R = fitIn size (s.pages.drop (k + 1)) (k + 1)) := Lib.hid (by rw [HE.out, hq])
              rw [hq] at hcell
              simp only [optM, MatS.useO] at hcell
              clear HD HE g1 g2 g3 hg
              go_wp2_with (go_at_call 126; refine Calls.mono hcell ?_; rintro e w9 ⟨rfl, rows9, h9, m9, u9⟩; have HW9 : Hid (∃ rows' h', MatureR p b rows' s h' ∧ Upd h h' w w9) := Lib.hid ⟨rows9, h9, m9, HU.out.trans u9⟩; clear hcell u9 m9)
              go_roundw
              case rel => exact ⟨k + 1, by omega, by go_num, HV, HW9⟩
              case measure => simp [intOf]; omega
            | some j =>
              have HV : Hid (R = some (k, j)) := Lib.hid (by rw [HE.out, hq])
              have hju := (firstF_get hq).1
              have hul : g.used.length ≤ 1048576 := by
                obtain ⟨rows1, h1', m1, u1⟩ := H0.out
                obtain ⟨v, hp, hr, hok⟩ := m1.row hg
                exact hok.2
              have HS : Hid (s.useAt k j = s.setPage k (g.use j true)) := Lib.hid (by simp [MatS.useAt, hg])
              rw [hq] at hcell
              simp only [optM, MatS.useO] at hcell
              have hbg := fun W h' rows' (hW : In W h') (mm : MatureR p b rows' (s.setPage k (g.use j true)) h') => mature_begin p (s.setPage k (g.use j true)) k W h' hW mm.mat (by omega)
              have hbe : (s.setPage k (g.use j true)).begin k = s.begin k := rfl
              rw [hbe] at hbg
              have HB := Lib.hid hbg
              have k0 : 0 ≤ (j : Int) * size := Int.mul_nonneg (by omega) (by omega)
              have k1 : (j : Int) * size ≤ 1048576 * 256 := Int.mul_le_mul (by omega) (by omega) (by omega) (by omega)
              have b0 : 0 ≤ s.begin k ∧ s.begin k ≤ 1048576 + 64 * 256 := by
                unfold MatS.begin
                have : 0 ≤ (k : Int) * s.words := Int.mul_nonneg (by omega) (by omega)
                have : (k : Int) * s.words ≤ 64 * 256 := Int.mul_le_mul (by omega) (by omega) (by omega) (by omega)
                omega
              obtain ⟨b0, b1⟩ := b0
              have HV2 : Hid (F = some (s.begin k + (j : Int) * size, s.setPage k (g.use j true))) := Lib.hid (by rw [HF.out, HV.out, MatS.fitted, HS.out])
              clear HD HE g1 g2 g3 hg hbg hbe HS HF HV
              generalize hA : (j : Int) * size = A at *
              generalize s.begin k = Bk at *
              generalize g.use j true = g' at *
              have m1 : IntKind.i64.wrap A = A := IntWalk.i64_in _ (by omega)
              have m2 : IntKind.i64.wrap (Bk + A) = Bk + A := IntWalk.i64_in _ (by omega)
              go_wp2_with (first
                | (go_at_call 126; refine Calls.mono hcell ?_; rintro e w9 ⟨rfl, rows9, h9, m9, u9⟩; have M9 := Lib.hid m9; have U9 := Lib.hid (HU.out.trans u9); clear hcell u9 m9)
                | (go_at_call 116; refine Calls.mono (HB.out _ _ _ U9.out.inn M9.out) ?_; rintro e w8 ⟨rfl, u8⟩; have U8 := Lib.hid (U9.out.trans u8); clear u8))
              go_ret2
              rw [HV2.out]
              exact ⟨rfl, rows9, h9, M9.out, U8.out⟩
          · rw [g3] at d3
            have HV : Hid (R = fitIn size (s.pages.drop (k + 1)) (k + 1)) := Lib.hid (by rw [HD.out, if_neg (by simp [g3])])
            clear HD g1 g2 g3 hg
            go_wp2
            go_roundw
            case rel => exact ⟨k + 1, by omega, by go_num, HV, HW'⟩
            case measure => simp [intOf]; omega
        · have HV : Hid (R = fitIn size (s.pages.drop (k + 1)) (k + 1)) := Lib.hid (by rw [HD.out, if_neg (by simp [g2])])
          have hq : (g.size != size) = true := by simpa using g2
          clear HD g1 hg g2
          go_wp2
          go_roundw
          case rel => exact ⟨k + 1, by omega, by go_num, HV, HW'⟩
          case measure => simp [intOf]; omega
      · have HV : Hid (R = fitIn size (s.pages.drop (k + 1)) (k + 1)) := Lib.hid (by rw [HD.out, if_neg (by simp [g1])])
        have hq : (g.kind != 1) = true := by simpa using g1
        clear HD g1 hg
        go_wp2
        go_roundw
        case rel => exact ⟨k + 1, by omega, by go_num, HV, HW'⟩
        case measure => simp [intOf]; omega
    · have HV : Hid (R = none) := Lib.hid (HL.out.trans (by rw [List.drop_of_length_le (by omega)]; rfl))
      have HF2 : Hid (F = s.fresh size (rowF 1 s.pages 0 0)) := Lib.hid (by rw [HF.out, HV.out]; rfl)
      obtain ⟨rows1, h1', m1, u1⟩ := HW.out
      have hrow := mature_row p s 1 wr h1' u1.inn m1.mat (by omega) (by omega)
      rw [show ((1 : Nat) : Int) = 1 from rfl] at hrow
      clear HL HF HV HW
      cases hq : rowF 1 s.pages 0 0 with
      | none =>
        have HV2 : Hid (F = none) := Lib.hid (by rw [HF2.out, hq]; rfl)
        rw [hq] at hrow
        simp only [optI, Option.isSome_none] at hrow
        have HM := Lib.hid m1
        have HU := Lib.hid u1
        clear hq HF2 u1 m1
        go_wp2_with (go_at_call 124; refine Calls.mono hrow ?_; rintro e w9 ⟨rfl, rfl⟩; clear hrow)
        go_ret2
        rw [HV2.out]
        exact ⟨rfl, rows1, h1', HM.out, HU.out⟩
      | some n =>
        have HV2 : Hid (F = some (s.begin n, s.setPage n (newBlk size s.words))) := Lib.hid (by rw [HF2.out, hq]; rfl)
        rw [hq] at hrow
        simp only [optI, Option.isSome_some] at hrow
        have hnl : n < s.pages.length := rowF_lt hq
        obtain ⟨g, hg⟩ : ∃ g, s.pages[n]? = some g := ⟨_, List.getElem?_eq_getElem hnl⟩
        obtain ⟨q0, q1, q2⟩ := m1.cells u1.inn
        obtain ⟨v, hp, hr, hok⟩ := m1.row hg
        have hcells := fun W => class_cells s.words size W (by omega) (by omega) a3 (by omega)
        have e4 : 1 ≤ s.words / size := by
          have : size * 1 ≤ s.words := by omega
          exact (Int.le_ediv_iff_mul_le (by omega)).2 (by omega)
        have e5 : s.words / size ≤ s.words := Int.ediv_le_self _ (by omega)
        obtain ⟨c, hc⟩ : ∃ c : Nat, s.words / size = c := ⟨(s.words / size).toNat, by omega⟩
        rw [hc] at hcells e4 e5
        have hmk := fun W => run_make1 (P := Tryz.prog) W 153 4 (.bool false) 1 Tryz.underlying153 Tryz.infoBool rfl c (by omega) (by decide)
        obtain ⟨RL, hRL⟩ : ∃ RL, RL = List.replicate c (Value.bool false) := ⟨_, rfl⟩
        rw [← hRL] at hmk
        have HRL := Lib.hid hRL
        obtain ⟨d0, d1, d2, d3⟩ := m1.page u1.inn hr
        simp only at d0 d1 d2 d3
        have hfz : ∀ i, wr.frozen? ⟨b, i, none⟩ = false := fun i => frozen_of (m1.list u1.inn) i
        have x0 : wr.drew.cell? ⟨b, n * 4, none⟩ = some (.int .i64 g.kind) := d0
        have x1 : wr.drew.cell? ⟨b, n * 4 + 1, none⟩ = some (.int .i64 g.size) := d1
        have x2 : wr.drew.cell? ⟨b, n * 4 + 2, none⟩ = some v := d2
        have x3 : wr.drew.cell? ⟨b, n * 4 + 3, none⟩ = some (.bool g.pending) := d3
        have y0 := alc (o := .cells RL.toArray 4 (0, 0)) x0
        have y1 := alc (o := .cells RL.toArray 4 (0, 0)) x1
        have y2 := alc (o := .cells RL.toArray 4 (0, 0)) x2
        have y3 := alc (o := .cells RL.toArray 4 (0, 0)) x3
        have hbp := m1.ne u1.inn
        have z0 := hfz (n * 4)
        have z1 := hfz (n * 4 + 1)
        have z2 := hfz (n * 4 + 2)
        have z3 := hfz (n * 4 + 3)
        have hblt : b < wr.heap.size := World.block_lt_of_cell? _ _ d0
        have hbne : b ≠ wr.heap.size := by omega
        have hplt : p < wr.heap.size := World.block_lt_of_cell? _ _ q1
        have hpne : p ≠ wr.heap.size := by omega
        have f0 := alf (o := .cells RL.toArray 4 (0, 0)) x0 (hfz (n * 4))
        have f1 := alf (o := .cells RL.toArray 4 (0, 0)) x0 (hfz (n * 4 + 1))
        have f2 := alf (o := .cells RL.toArray 4 (0, 0)) x0 (hfz (n * 4 + 2))
        have f3 := alf (o := .cells RL.toArray 4 (0, 0)) x0 (hfz (n * 4 + 3))
        have s1 : wr.drew.cell? ⟨p, 1, none⟩ = some (.int .i64 s.words) := q1
        have s2 : wr.drew.cell? ⟨p, 2, none⟩ = some (.slice (some ⟨b, 0, none⟩) s.pages.length s.pages.length) := q2
        have s3 := alc (o := .cells RL.toArray 4 (0, 0)) s1
        have s4 := alc (o := .cells RL.toArray 4 (0, 0)) s2
        have hS0 := And.intro s1 s2
        have hS1 := And.intro s3 s4
        have HM := Lib.hid m1
        have HU := Lib.hid u1
        have HO := Lib.hid hok
        have HC := Lib.hid hc
        have HR1 := Lib.hid hr
        clear hRL hr hc hok m1 u1 hq HF2 hg hfz x0 x1 x2 x3 s1 s2 s3 s4 q0 c0 c1 c2
        go_wp2_with (go_at_call 124; refine Calls.mono hrow ?_; rintro e w9 ⟨rfl, rfl⟩; clear hrow)
        go_region_held3 (fun w' => w'.cell? ⟨p, 1, none⟩ = some (.int .i64 s.words) ∧ w'.cell? ⟨p, 2, none⟩ = some (.slice (some ⟨b, 0, none⟩) s.pages.length s.pages.length))
          (first | with_reducible exact hS0 | with_reducible exact hS1 | with_reducible exact keeps (keeps (keeps (keeps hS1 hbp) hbp) hbp) hbp | go_keep)
          (first | (go_at_call 127; refine Calls.mono (hcells _) ?_; rintro e w7 ⟨rfl, rfl⟩))
        clear y0 y1 y2 y3 f0 f1 f2 f3 hS0 hS1 z0 z1 z2 z3 d0 d1 d2 d3 hmk hcells q1 q2
        have U1 := HU.out
        have m1 := HM.out
        rw [m1.1] at U1
        have hr1 := HR1.out
        have U2 := ((((Upd.store' (l := [(p, matObj s b)]) (b := b) (arr := (rows1.flatMap rowCells).toArray) U1 (n * 4) (.int .i64 1)).store' (l := [(p, matObj s b)]) (n * 4 + 1) (.int .i64 size)).store' (l := [(p, matObj s b)]) (n * 4 + 2) (.slice (some ⟨w9.heap.size, 0, none⟩) c c)).store' (l := [(p, matObj s b)]) (n * 4 + 3) (.bool false))
        have e4' := listObj_set4 (g := newBlk size s.words) (v := .slice (some ⟨w9.heap.size, 0, none⟩) c c) (k := hp) hr1
        simp only [newBlk] at e4'
        rw [e4'] at U2
        have U3 := (U2.alloc' (.cells RL.toArray 4 (0, 0))).drew'
        simp only [World.size_setCell] at U3
        have hn1 : n < rows1.length := (List.getElem?_eq_some_iff.1 hr1).1
        have e5' : rows1.map (·.2.2) = (rows1.set n (newBlk size s.words, .slice (some ⟨w9.heap.size, 0, none⟩) c c, hp)).map (·.2.2) := by
          rw [List.map_set, set_self]
          rw [List.getElem?_map, hr1]
          rfl
        generalize hzz : w9.heap.size = z at *
        generalize hW : (((((w9.setCell ⟨b, n * 4, none⟩ (.int .i64 1)).setCell ⟨b, n * 4 + 1, none⟩ (.int .i64 size)).setCell ⟨b, n * 4 + 2, none⟩ (.slice (some ⟨z, 0, none⟩) c c)).setCell ⟨b, n * 4 + 3, none⟩ (.bool false)).alloc (.cells RL.toArray 4 (0, 0))).drew = W at *
        have U4 : Upd h ((z, .cells RL.toArray 4 (0, 0)) :: (matParts p s b (rows1.set n (newBlk size s.words, .slice (some ⟨z, 0, none⟩) c c, hp))).flatten) w W := by
          unfold matParts
          rw [← e5']
          exact U3
        clear U1 U2 U3 e4' e5' m1 hr1
        have t2 : W.cell? ⟨p, 2, none⟩ = some (.slice (some ⟨b, 0, none⟩) s.pages.length s.pages.length) := cell_of (U4.inn.tail.part (i := 0) rfl).head 2
        have hrn : (rows1.set n (newBlk size s.words, .slice (some ⟨z, 0, none⟩) c c, hp))[n]? = some (newBlk size s.words, .slice (some ⟨z, 0, none⟩) c c, hp) := by simp [hn1]
        obtain ⟨_, _, r2, _⟩ := list_cells (U4.inn.tail.part (i := 1) rfl).head hrn
        simp only at r2
        have tz : W.cell? ⟨z, 0, none⟩ = some (.bool false) := by
          rw [cell_of U4.inn.head 0, HRL.out]
          have : 0 < c := by omega
          simp [this]
        have fz : W.frozen? ⟨z, 0, none⟩ = false := frozen_of U4.inn.head 0
        have HU4 := Lib.hid U4
        have hfin : ∃ h', MatureR p b (rows1.set n (newBlk size s.words, .slice (some ⟨z, 0, none⟩) c c, [(z, .cells (RL.toArray.setIfInBounds 0 (.bool true)) 4 (0, 0))])) (s.setPage n (newBlk size s.words)) h' ∧ Upd h h' w (W.setCell ⟨z, 0, none⟩ (.bool true)) := by
          refine MatureR.set HM.out n (newBlk size s.words) _ _ ?_ HR1.out (U4.store1 0 (.bool true))
          have e6 : RL.toArray.setIfInBounds 0 (.bool true) = (bools ((List.replicate c false).set 0 true)).toArray := by rw [HRL.out, blk_cells]
          have e7 : (newBlk size s.words).used = (List.replicate c false).set 0 true := by simp only [newBlk, HC.out, Int.toNat_natCast]
          have hl : ((List.replicate c false).set 0 true).length = c := by simp
          have hS := SliceH.made (T := 4) (g := z) (xs := bools ((List.replicate c false).set 0 true)) (n := c) (by simp [bools]) (by unfold maxLen; omega)
          rw [e6]
          refine ⟨?_, ?_⟩
          · simp only [e7, hl]
            exact hS
          · simp only [e7, hl]
            omega
        have HFin := Lib.hid hfin
        have HB := Lib.hid (fun W' h' (hW : In W' h') rows' (mm : MatureR p b rows' (s.setPage n (newBlk size s.words)) h') => mature_begin p _ n W' h' hW mm.mat (by omega))
        have hbe : Hid ((s.setPage n (newBlk size s.words)).begin n = s.begin n) := Lib.hid rfl
        clear hfin U4 hrn hW hzz hn1
        go_wp2_with (go_at_call 116; (obtain ⟨h8, m8, u8⟩ := HFin.out); refine Calls.mono (HB.out _ _ u8.inn _ m8) ?_; rintro e w8 ⟨rfl, u9⟩; have M8 := Lib.hid m8; have U9 := Lib.hid (u8.trans u9); clear u8 u9 m8)
        go_ret2
        rw [HV2.out, hbe.out]
        exact ⟨rfl, _, h8, M8.out, U9.out⟩

end Go.Proofs.YtjjdjipohifgbaaGreat

/- What Take of package mature comes to. Conditions: a space as New makes it; words of an object. -/
namespace Go.Proofs.YtjjdjipohifgbaaGreat
open Go.RowKit

def morePg : PageS := ⟨3, 0, [], false⟩
def largePg (words : Int) : PageS := ⟨2, words, [], false⟩
/-- so many pages from one on are parts of a large one -/
def layMore (l : List PageS) (n : Nat) : Nat → List PageS
  | 0 => l
  | c + 1 => (layMore l n c).set (n + c) morePg
theorem layMore_len (l : List PageS) (n : Nat) : ∀ c, (layMore l n c).length = l.length
  | 0 => rfl
  | c + 1 => by simp [layMore, layMore_len l n c]
def MatS.takeL (s : MatS) (words : Int) (o : Option Nat) : Option (Int × MatS) := match o with
  | some n => some (s.begin n, { s with pages := (layMore s.pages n (pagesN s.words words).toNat).set n (largePg words) })
  | none => none
def MatS.take (s : MatS) (words : Int) : Option (Int × MatS) :=
  if largeB s.words words then s.takeL words (rowF (pagesN s.words words).toNat s.pages 0 0) else s.inB (rnd words)

theorem rowF_fit {c : Nat} (hc : 1 ≤ c) {l : List PageS} {n : Nat} (h : rowF c l 0 0 = some n) : n + c ≤ l.length := by
  have key : ∀ (l : List PageS) (k run n : Nat), run < c → rowF c l k run = some n → n + c ≤ k + l.length ∨ c > k + 1 := by
    intro l
    induction l with
    | nil => intro k run n _ h; cases h
    | cons g l ih =>
      intro k run n hr h
      unfold rowF at h
      simp only [List.length_cons]
      split at h
      · split at h
        · cases h
          omega
        · have := ih _ _ _ (by omega) h
          omega
      · have := ih _ _ _ (by omega) h
        omega
  have key2 : ∀ (l : List PageS) (k run n : Nat), run ≤ k → run < c → rowF c l k run = some n → n + c ≤ k + l.length := by
    intro l
    induction l with
    | nil => intro k run n _ _ h; cases h
    | cons g l ih =>
      intro k run n hk hr h
      unfold rowF at h
      simp only [List.length_cons]
      split at h
      · split at h
        · cases h
          omega
        · have := ih _ _ _ (by omega) (by omega) h
          omega
      · have := ih _ _ _ (by omega) (by omega) h
        omega
  have := key2 l 0 0 n (by omega) (by omega) h
  omega

/-- a page without cells takes a page's place -/
theorem MatureR.blank {p b : Nat} {rows : List PRow} {s : MatS} {h h0 : Hp} {w0 w : World} (m : MatureR p b rows s h) (U : Upd h0 h w0 w) {n : Nat} {g0 : PageS} (hg : s.pages[n]? = some g0) (g : PageS) (hu : g.used = []) :
    ∃ rows' h', MatureR p b rows' (s.setPage n g) h' ∧ Upd h0 h' w0 ((((w.setCell ⟨b, n * 4, none⟩ (.int .i64 g.kind)).setCell ⟨b, n * 4 + 1, none⟩ (.int .i64 g.size)).setCell ⟨b, n * 4 + 2, none⟩ (.slice none 0 0)).setCell ⟨b, n * 4 + 3, none⟩ (.bool g.pending)) := by
  obtain ⟨v, hp, hr, _⟩ := m.row hg
  have hn : n < rows.length := (List.getElem?_eq_some_iff.1 hr).1
  rw [m.1] at U
  have U2 := ((((Upd.store' (l := [(p, matObj s b)]) (b := b) (arr := (rows.flatMap rowCells).toArray) U (n * 4) (.int .i64 g.kind)).store' (l := [(p, matObj s b)]) (n * 4 + 1) (.int .i64 g.size)).store' (l := [(p, matObj s b)]) (n * 4 + 2) (.slice none 0 0)).store' (l := [(p, matObj s b)]) (n * 4 + 3) (.bool g.pending))
  have e := listObj_set4 (g := g) (v := .slice none 0 0) (k := hp) hr
  rw [e] at U2
  have e5 : rows.map (·.2.2) = (rows.set n (g, .slice none 0 0, hp)).map (·.2.2) := by
    rw [List.map_set, set_self]
    rw [List.getElem?_map, hr]
    rfl
  obtain ⟨h', m', U'⟩ := MatureR.set (h0 := h0) (w0 := w0) m n g (.slice none 0 0) [] (by rw [RowOk, hu]; exact ⟨SliceH.nil _ _, by decide⟩) hr (by unfold matParts; rw [← e5]; exact U2)
  exact ⟨_, h', m', U'⟩

theorem MatureR.blankFacts {p b : Nat} {rows : List PRow} {s : MatS} {h : Hp} {w : World} (m : MatureR p b rows s h) (hi : In w h) {n : Nat} {g : PageS} (hg : s.pages[n]? = some g) :
    (∃ a, w.cell? ⟨b, n * 4, none⟩ = some a) ∧ (∃ a, w.cell? ⟨b, n * 4 + 1, none⟩ = some a) ∧ (∃ a, w.cell? ⟨b, n * 4 + 2, none⟩ = some a) ∧ (∃ a, w.cell? ⟨b, n * 4 + 3, none⟩ = some a) ∧ (∀ i, w.frozen? ⟨b, i, none⟩ = false) := by
  obtain ⟨v, hp, hr, _⟩ := m.row hg
  obtain ⟨d0, d1, d2, d3⟩ := m.page hi hr
  exact ⟨⟨_, d0⟩, ⟨_, d1⟩, ⟨_, d2⟩, ⟨_, d3⟩, fun i => frozen_of (m.list hi) i⟩

set_option maxRecDepth 100000 in
set_option maxHeartbeats 2000000 in
theorem mature_take (p : Nat) (s : MatS) (words : Int) (w : World) (h : Hp) (hi : In w h) (hm : MatureH p s h) (h1 : 1 ≤ words) (h2 : words ≤ 66) (h3 : 16 ≤ s.words) :
    Calls Tryz.prog 111 #[.pointer (some ⟨p, 0, none⟩), .int .i64 words] w fun e w' => e = .returned (.tuple #[.int .i64 (optA (s.take words)), .bool (s.take words).isSome]) ∧ ∃ h', MatureH p (optS s (s.take words)) h' ∧ Upd h h' w w' := by
  obtain ⟨b, rows, m⟩ := hm.rows
  obtain ⟨c0, c1, c2⟩ := m.cells hi
  obtain ⟨a1, a2, a3, a4, a5⟩ := m.2.2.2
  have hl := fun W => class_large s.words words W h2 (by omega) (by omega)
  have hrd := fun W => class_round words W h2
  have U0 := Upd.refl hi
  cases hL : largeB s.words words
  · have e1 : s.take words = s.inB (rnd words) := by simp [MatS.take, hL]
    rw [e1]
    rw [hL] at hl
    obtain ⟨r1, r2⟩ := rnd_bounds words
    have hle : rnd words ≤ s.words := by
      simp only [largeB, decide_eq_false_iff_not] at hL
      omega
    have hin := mature_inBlock p b rows s (rnd words) w h hi m r1 hle
    have hU := Lib.hid U0
    generalize s.inB (rnd words) = F at *
    generalize rnd words = R at *
    clear e1 hL m U0
    go_enter Tryz.func111, Tryz.ntmps111
    go_wp2_with (first
      | (go_at_call 121; with_reducible refine Calls.mono (hl _) ?_; rintro e w' ⟨rfl, hw⟩; obtain rfl := hw.symm; clear hw)
      | (go_at_call 123; with_reducible refine Calls.mono (hrd _) ?_; rintro e w' ⟨rfl, rfl⟩)
      | (go_at_call 122; refine Calls.mono hin ?_; rintro e w1 ⟨rfl, rows', h', m', u'⟩))
    go_ret2
    exact ⟨rfl, h', m'.mat, u'⟩
  · rw [hL] at hl
    obtain ⟨g1, g2, g3⟩ := pagesN_bounds h1 h2 h3
    have hpg := fun W => class_pages s.words words W h1 h2 h3 (by omega)
    obtain ⟨c, hc⟩ : ∃ c : Nat, pagesN s.words words = c := ⟨(pagesN s.words words).toNat, by omega⟩
    have e1 : s.take words = s.takeL words (rowF c s.pages 0 0) := by simp [MatS.take, hL, hc]
    rw [e1]
    rw [hc] at hpg g1 g2
    have hrow := fun W h' rows' (hW : In W h') (mm : MatureR p b rows' s h') => mature_row p s c W h' hW mm.mat (by omega) (by omega)
    cases hq : rowF c s.pages 0 0 with
    | none =>
      have HV : Hid (s.takeL words none = none) := Lib.hid rfl
      have HM := Lib.hid m
      have HU := Lib.hid U0
      have HR := Lib.hid hrow
      rw [hq] at HR
      simp only [optI, Option.isSome_none] at HR
      clear e1 hc hL m U0 hrow hq
      go_enter Tryz.func111, Tryz.ntmps111
      go_wp2_with (first
        | (go_at_call 121; with_reducible refine Calls.mono (hl _) ?_; rintro e w' ⟨rfl, hw⟩; obtain rfl := hw.symm; clear hw)
        | (go_at_call 114; with_reducible refine Calls.mono (hpg _) ?_; rintro e w' ⟨rfl, k1, rfl⟩; have HU1 := Lib.hid (HU.out.drewN' k1))
        | (go_at_call 124; refine Calls.mono (HR.out _ _ _ HU1.out.inn HM.out) ?_; rintro e w1 ⟨rfl, rfl⟩))
      go_ret2
      rw [HV.out]
      exact ⟨rfl, h, HM.out.mat, HU1.out⟩
    | some n =>
      have hfit := rowF_fit (by omega) hq
      have HV : Hid (s.takeL words (some n) = some (s.begin n, { s with pages := (layMore s.pages n c).set n (largePg words) })) := Lib.hid (by simp [MatS.takeL, hc])
      have HM := Lib.hid m
      have HU := Lib.hid U0
      have HR := Lib.hid hrow
      rw [hq] at HR
      simp only [optI, Option.isSome_some] at HR
      have HB := Lib.hid (fun W' h' (hW : In W' h') (mm : MatureH p { s with pages := (layMore s.pages n c).set n (largePg words) } h') => mature_begin p _ n W' h' hW mm (by omega))
      have hbe : Hid (({ s with pages := (layMore s.pages n c).set n (largePg words) } : MatS).begin n = s.begin n) := Lib.hid rfl
      clear e1 hc hL m U0 hrow hq
      go_enter Tryz.func111, Tryz.ntmps111
      go_wp2_with (first
        | (go_at_call 121; with_reducible refine Calls.mono (hl _) ?_; rintro e w' ⟨rfl, hw⟩; obtain rfl := hw.symm; clear hw)
        | (go_at_call 114; with_reducible refine Calls.mono (hpg _) ?_; rintro e w' ⟨rfl, k1, rfl⟩; have HU1 := Lib.hid (HU.out.drewN' k1))
        | (go_at_call 124; refine Calls.mono (HR.out _ _ _ HU1.out.inn HM.out) ?_; rintro e w1 ⟨rfl, rfl⟩))
      have HS : Hid (∃ rows' h', MatureR p b rows' { s with pages := layMore s.pages n 0 } h' ∧ Upd h h' w (w.drewN k1)) := Lib.hid ⟨rows, h, HM.out, HU1.out⟩
      go_loopw [44] (fun i wr => ∃ k : Nat, k ≤ c ∧ i = .int .i64 k ∧ Hid (∃ rows' h', MatureR p b rows' { s with pages := layMore s.pages n k } h' ∧ Upd h h' w wr)) (fun i _ => c - (intOf i).toNat)
      case atStart => exact ⟨0, by omega, rfl, HS⟩
      case round =>
        obtain ⟨k, hk, rfl, HW⟩ := hrel
        obtain ⟨rows1, h1', m1, u1⟩ := HW.out
        obtain ⟨q0, q1, q2⟩ := m1.cells u1.inn
        have hln : (layMore s.pages n k).length = s.pages.length := layMore_len ..
        simp only [hln] at q0 q1 q2
        by_cases hlt : k < c
        · have hnk : n + k < s.pages.length := by omega
          obtain ⟨g0, hg0⟩ : ∃ g0, (layMore s.pages n k)[n + k]? = some g0 := ⟨_, List.getElem?_eq_getElem (by omega)⟩
          obtain ⟨⟨x0, d0⟩, ⟨x1, d1⟩, ⟨x2, d2⟩, ⟨x3, d3⟩, hf⟩ := m1.blankFacts u1.inn hg0
          have f0 := hf ((n + k) * 4)
          have f1 := hf ((n + k) * 4 + 1)
          have f2 := hf ((n + k) * 4 + 2)
          have f3 := hf ((n + k) * 4 + 3)
          have HN : Hid (∃ rows' h', MatureR p b rows' { s with pages := layMore s.pages n (k + 1) } h' ∧ Upd h h' w ((((wr.setCell ⟨b, (n + k) * 4, none⟩ (.int .i64 3)).setCell ⟨b, (n + k) * 4 + 1, none⟩ (.int .i64 0)).setCell ⟨b, (n + k) * 4 + 2, none⟩ (.slice none 0 0)).setCell ⟨b, (n + k) * 4 + 3, none⟩ (.bool false))) := Lib.hid (m1.blank u1 hg0 morePg rfl)
          have ens : ((n : Int) + k).toNat = n + k := by omega
          have hz0 : 0 ≤ (n : Int) + k := by omega
          have hz1 : (n : Int) + k < s.pages.length := by omega
          have hz2 : IntKind.i64.wrap ((n : Int) + k) = n + k := IntWalk.i64_in _ (by omega)
          clear m1 u1 HW hf hln hg0
          go_wp2
          go_roundw
          case rel => exact ⟨k + 1, by omega, by go_num, HN⟩
          case measure => simp [intOf]; omega
        · obtain rfl : k = c := by omega
          have hnk : n < s.pages.length := by omega
          obtain ⟨g0, hg0⟩ : ∃ g0, (layMore s.pages n k)[n]? = some g0 := ⟨_, List.getElem?_eq_getElem (by omega)⟩
          obtain ⟨⟨x0, d0⟩, ⟨x1, d1⟩, ⟨x2, d2⟩, ⟨x3, d3⟩, hf⟩ := m1.blankFacts u1.inn hg0
          have f0 := hf (n * 4)
          have f1 := hf (n * 4 + 1)
          have f2 := hf (n * 4 + 2)
          have f3 := hf (n * 4 + 3)
          have HN : Hid (∃ rows' h', MatureR p b rows' { s with pages := (layMore s.pages n k).set n (largePg words) } h' ∧ Upd h h' w ((((wr.setCell ⟨b, n * 4, none⟩ (.int .i64 2)).setCell ⟨b, n * 4 + 1, none⟩ (.int .i64 words)).setCell ⟨b, n * 4 + 2, none⟩ (.slice none 0 0)).setCell ⟨b, n * 4 + 3, none⟩ (.bool false))) := Lib.hid (m1.blank u1 hg0 (largePg words) rfl)
          clear m1 u1 HW hf hln hg0
          go_wp2_with (go_at_call 116; (obtain ⟨rows8, h8, m8, u8⟩ := HN.out); refine Calls.mono (HB.out _ _ u8.inn m8.mat) ?_; rintro e w8 ⟨rfl, u9⟩; have M8 := Lib.hid m8; have U9 := Lib.hid (u8.trans u9); clear u8 u9 m8)
          go_ret2
          rw [HV.out, hbe.out]
          exact ⟨rfl, h8, M8.out.mat, U9.out⟩

end Go.Proofs.YtjjdjipohifgbaaGreat

/- What at and Size of package mature come to. Conditions: a space as New makes it, its blocks' cells of some size. -/
namespace Go.Proofs.YtjjdjipohifgbaaGreat
open Go.RowKit

def atCell (g : PageS) (r : Int) : Option Nat :=
  if g.kind = 2 ∧ r = 0 then some 0
  else if g.kind = 1 ∧ r % g.size = 0 then (if (r / g.size).toNat < g.used.length then (if g.used.getD (r / g.size).toNat false = true then some (r / g.size).toNat else none) else none) else none
/-- the page and the cell that begin at a place -/
def MatS.at (s : MatS) (a : Int) : Option (Nat × Nat) :=
  if a < s.base then none else
  match s.pages[((a - s.base) / s.words).toNat]? with
  | none => none
  | some g => (atCell g ((a - s.base) % s.words)).map fun k => (((a - s.base) / s.words).toNat, k)
def optN (o : Option (Nat × Nat)) : Int := match o with | some x => x.1 | none => 0
def optK (o : Option (Nat × Nat)) : Int := match o with | some x => x.2 | none => 0
/-- its pages are such that they can be looked through -/
def PageS.Ok (g : PageS) : Prop := (g.kind = 1 → 4 ≤ g.size ∧ g.size ≤ 96) ∧ (g.kind = 2 → 1 ≤ g.size ∧ g.size ≤ 66) ∧ g.used.length ≤ 256 ∧ (g.kind ≠ 1 → g.used = [])
def MatS.Ok (s : MatS) : Prop := 16 ≤ s.words ∧ ∀ (n : Nat) (g : PageS), s.pages[n]? = some g → g.Ok

set_option maxRecDepth 100000 in
set_option maxHeartbeats 2000000 in
theorem mature_at (p : Nat) (s : MatS) (a : Int) (w : World) (h : Hp) (hi : In w h) (hm : MatureH p s h) (ok : s.Ok) (ha : I64 a) :
    Calls Tryz.prog 113 #[.pointer (some ⟨p, 0, none⟩), .int .i64 a] w fun e w' => e = .returned (.tuple #[.int .i64 (optN (s.at a)), .int .i64 (optK (s.at a)), .bool (s.at a).isSome]) ∧ Upd h h w w' := by
  obtain ⟨b, rows, m⟩ := hm.rows
  obtain ⟨c0, c1, c2⟩ := m.cells hi
  obtain ⟨a1, a2, a3, a4, a5⟩ := m.2.2.2
  obtain ⟨hw16, hpg⟩ := ok
  obtain ⟨ha1, ha2⟩ := ha
  have U0 := Upd.refl hi
  by_cases hlt : a < s.base
  · have HV : Hid (s.at a = none) := Lib.hid (by simp [MatS.at, hlt])
    rw [HV.out]
    clear m
    go_enter Tryz.func113, Tryz.ntmps113
    go_wp2
    go_ret3
    exact ⟨rfl, U0⟩
  · have hd : IntKind.i64.wrap (a - s.base) = a - s.base := IntWalk.i64_in _ (by omega)
    obtain ⟨d, hdd⟩ : ∃ d, d = a - s.base := ⟨_, rfl⟩
    have hd0 : 0 ≤ d := by omega
    have hn0 : 0 ≤ d / s.words := Int.ediv_nonneg hd0 (by omega)
    have hn1 : d / s.words ≤ d := Int.ediv_le_self _ hd0
    have hr0 : 0 ≤ d % s.words := Int.emod_nonneg d (by omega)
    have hr1 : d % s.words < s.words := Int.emod_lt_of_pos d (by omega)
    have ht : d.tdiv s.words = d / s.words := Int.tdiv_eq_ediv_of_nonneg hd0
    have ht2 : d.tmod s.words = d % s.words := Int.tmod_eq_emod_of_nonneg hd0
    obtain ⟨n, hn⟩ : ∃ n : Nat, d / s.words = n := ⟨(d / s.words).toNat, by omega⟩
    obtain ⟨r, hr⟩ : ∃ r, r = d % s.words := ⟨_, rfl⟩
    have hwz : s.words ≠ 0 := by omega
    have HE : Hid (s.at a = match s.pages[n]? with
      | none => none
      | some g => (atCell g r).map fun k => (n, k)) := Lib.hid (by
        have e : (d / s.words).toNat = n := by omega
        rw [MatS.at, if_neg hlt, ← hdd, e, ← hr])
    rw [hn] at ht hn0 hn1
    rw [← hr] at ht2 hr0 hr1
    have wn : IntKind.i64.wrap (n : Int) = n := IntWalk.i64_in _ (by omega)
    have wr : IntKind.i64.wrap r = r := IntWalk.i64_in _ (by omega)
    rw [← hdd] at hd
    have hq1 : a - s.base = d := hdd.symm
    clear hdd hn hr
    by_cases hnl : n < s.pages.length
    · obtain ⟨g, hg⟩ : ∃ g, s.pages[n]? = some g := ⟨_, List.getElem?_eq_getElem hnl⟩
      have HE2 : Hid (s.at a = (atCell g r).map fun k => (n, k)) := Lib.hid (by rw [HE.out, hg])
      obtain ⟨k1, k2, k3⟩ := hpg n g hg
      obtain ⟨v, hp, hrow, hok⟩ := m.row hg
      obtain ⟨d0, d1, d2, d3⟩ := m.page hi hrow
      have hpin := m.part hi hrow
      simp only at d0 d1 d2 d3
      have hS := hok.1
      simp only at hS hpin
      obtain ⟨ao, cap, rfl, hcap⟩ := hS.shape
      have HC : Hid (∀ k, k < g.used.length → ∃ gb off, ao = some ⟨gb, off, none⟩ ∧ w.cell? ⟨gb, off + k, none⟩ = some (.bool (g.used.getD k false)) ∧ gb < w.heap.size) := Lib.hid (by
        intro k hk
        obtain ⟨gb, off, cap', hv, _⟩ := hS.addr (by omega)
        have hc := hS.cell hpin hv (j := k) (by simpa using hk)
        simp only [Value.slice.injEq] at hv
        have e : w.cell? ⟨gb, off + k, none⟩ = some (.bool (g.used.getD k false)) := by
          rw [hc]
          simp [List.getD, hk]
        exact ⟨gb, off, hv.1, e, World.block_lt_of_cell? _ _ e⟩)
      have hbl : b < w.heap.size := World.block_lt_of_cell? _ _ d0
      have hbne : b ≠ w.heap.size := by omega
      have hpl : p < w.heap.size := World.block_lt_of_cell? _ _ c0
      have hpne : p ≠ w.heap.size := by omega
      clear HE hg hS hok hrow hpin m hpg
      by_cases g2 : g.kind = 2
      · rw [g2] at d0
        by_cases r0 : r = 0
        · subst r0
          have q0 : ((0 : Int) == 0) = true := rfl
          rw [HE2.out]
          have HV : Hid ((atCell g 0).map (fun k => (n, k)) = some (n, 0)) := Lib.hid (by simp [atCell, g2])
          rw [HV.out]
          clear HE2 k1 k2
          go_enter Tryz.func113, Tryz.ntmps113
          go_wp2
          go_quiet (fail)
          have U2 := U0.drewN' nq
          have c2' : (w.drewN nq).cell? ⟨p, 2, none⟩ = _ := c2
          have d0' : (w.drewN nq).cell? ⟨b, n * 4, none⟩ = _ := d0
          have d1' : (w.drewN nq).cell? ⟨b, n * 4 + 1, none⟩ = _ := d1
          have d2' : (w.drewN nq).cell? ⟨b, n * 4 + 2, none⟩ = _ := d2
          have d3' : (w.drewN nq).cell? ⟨b, n * 4 + 3, none⟩ = _ := d3
          have bne' : b ≠ (w.drewN nq).heap.size := hbne
          have pne' : p ≠ (w.drewN nq).heap.size := hpne
          clear c0 c1 c2 d0 d1 d2 d3 hbne hpne hbl hpl U0 hi
          generalize w.drewN nq = W2 at *
          go_wp2
          go_ret3
          exact ⟨rfl, U2.skip' _⟩
        · have q0 : (r == 0) = false := by simpa using r0
          rw [HE2.out]
          have HV : Hid ((atCell g r).map (fun k => (n, k)) = none) := Lib.hid (by simp [atCell, g2, r0])
          rw [HV.out]
          clear HE2 k1 k2
          go_enter Tryz.func113, Tryz.ntmps113
          go_wp2
          go_quiet (fail)
          have U2 := U0.drewN' nq
          have c2' : (w.drewN nq).cell? ⟨p, 2, none⟩ = _ := c2
          have d0' : (w.drewN nq).cell? ⟨b, n * 4, none⟩ = _ := d0
          have d1' : (w.drewN nq).cell? ⟨b, n * 4 + 1, none⟩ = _ := d1
          have d2' : (w.drewN nq).cell? ⟨b, n * 4 + 2, none⟩ = _ := d2
          have d3' : (w.drewN nq).cell? ⟨b, n * 4 + 3, none⟩ = _ := d3
          have bne' : b ≠ (w.drewN nq).heap.size := hbne
          have pne' : p ≠ (w.drewN nq).heap.size := hpne
          clear c0 c1 c2 d0 d1 d2 d3 hbne hpne hbl hpl U0 hi
          generalize w.drewN nq = W2 at *
          go_wp2
          go_quiet (fail)
          go_wp2
          go_ret3
          exact ⟨rfl, (U2.skip' _).drewN' _⟩
      · by_cases g1 : g.kind = 1
        · rw [g1] at d0
          obtain ⟨s1, s2⟩ := k1 g1
          have hz : g.size ≠ 0 := by omega
          have t1 : r.tmod g.size = r % g.size := Int.tmod_eq_emod_of_nonneg hr0
          have t2 : r.tdiv g.size = r / g.size := Int.tdiv_eq_ediv_of_nonneg hr0
          have m0 : 0 ≤ r % g.size := Int.emod_nonneg r hz
          have m1 : r % g.size < g.size := Int.emod_lt_of_pos r (by omega)
          have q0 : 0 ≤ r / g.size := Int.ediv_nonneg hr0 (by omega)
          have q1 : r / g.size ≤ r := Int.ediv_le_self _ hr0
          obtain ⟨q, hq⟩ : ∃ q : Nat, r / g.size = q := ⟨(r / g.size).toNat, by omega⟩
          rw [hq] at t2 q0 q1
          have wq : IntKind.i64.wrap (q : Int) = q := IntWalk.i64_in _ (by omega)
          have wm : IntKind.i64.wrap (r % g.size) = r % g.size := IntWalk.i64_in _ (by omega)
          have HQ := Lib.hid hq
          clear hq
          by_cases z : r % g.size = 0
          · rw [z] at t1 wm m0 m1
            have Z := Lib.hid z
            clear z
            by_cases ql : q < g.used.length
            · obtain ⟨gb, off, rfl, hcell, hgne⟩ := HC.out q ql
              cases hu : g.used.getD q false
              · rw [hu] at hcell
                have HU := Lib.hid hu
                clear hu
                have g2' : (g.kind == 2) = false := by simpa using g2
                rw [HE2.out]
                have HV : Hid ((atCell g r).map (fun k => (n, k)) = none) := Lib.hid (by rw [atCell, if_neg (by omega), if_pos ⟨g1, Z.out⟩, HQ.out, Int.toNat_natCast, if_pos ql, if_neg (by rw [HU.out]; decide)]; rfl)
                rw [HV.out]
                clear HE2 k1 k2
                go_enter Tryz.func113, Tryz.ntmps113
                go_wp2
                go_quiet (fail)
                have U2 := U0.drewN' nq
                have c2' : (w.drewN nq).cell? ⟨p, 2, none⟩ = _ := c2
                have d0' : (w.drewN nq).cell? ⟨b, n * 4, none⟩ = _ := d0
                have d1' : (w.drewN nq).cell? ⟨b, n * 4 + 1, none⟩ = _ := d1
                have d2' : (w.drewN nq).cell? ⟨b, n * 4 + 2, none⟩ = _ := d2
                have d3' : (w.drewN nq).cell? ⟨b, n * 4 + 3, none⟩ = _ := d3
                have bne' : b ≠ (w.drewN nq).heap.size := hbne
                have pne' : p ≠ (w.drewN nq).heap.size := hpne
                have hcell' : (w.drewN nq).cell? ⟨gb, off + q, none⟩ = _ := hcell
                have gne' : gb < (w.drewN nq).heap.size := hgne
                clear hcell hgne HC
                clear c0 c1 c2 d0 d1 d2 d3 hbne hpne hbl hpl U0 hi
                generalize w.drewN nq = W2 at *
                go_wp2
                go_quiet (fail)
                go_wp2
                go_ret3
                exact ⟨rfl, (U2.skip' _).drewN' _⟩
              · rw [hu] at hcell
                have HU := Lib.hid hu
                clear hu
                have g2' : (g.kind == 2) = false := by simpa using g2
                rw [HE2.out]
                have HV : Hid ((atCell g r).map (fun k => (n, k)) = some (n, q)) := Lib.hid (by rw [atCell, if_neg (by omega), if_pos ⟨g1, Z.out⟩, HQ.out, Int.toNat_natCast, if_pos ql, if_pos HU.out]; rfl)
                rw [HV.out]
                clear HE2 k1 k2
                go_enter Tryz.func113, Tryz.ntmps113
                go_wp2
                go_quiet (fail)
                have U2 := U0.drewN' nq
                have c2' : (w.drewN nq).cell? ⟨p, 2, none⟩ = _ := c2
                have d0' : (w.drewN nq).cell? ⟨b, n * 4, none⟩ = _ := d0
                have d1' : (w.drewN nq).cell? ⟨b, n * 4 + 1, none⟩ = _ := d1
                have d2' : (w.drewN nq).cell? ⟨b, n * 4 + 2, none⟩ = _ := d2
                have d3' : (w.drewN nq).cell? ⟨b, n * 4 + 3, none⟩ = _ := d3
                have bne' : b ≠ (w.drewN nq).heap.size := hbne
                have pne' : p ≠ (w.drewN nq).heap.size := hpne
                have hcell' : (w.drewN nq).cell? ⟨gb, off + q, none⟩ = _ := hcell
                have gne' : gb < (w.drewN nq).heap.size := hgne
                clear hcell hgne HC
                clear c0 c1 c2 d0 d1 d2 d3 hbne hpne hbl hpl U0 hi
                generalize w.drewN nq = W2 at *
                go_wp2
                go_quiet (fail)
                go_wp2
                go_quiet (fail)
                go_wp2
                go_ret3
                exact ⟨rfl, ((U2.skip' _).drewN' _).drewN' _⟩
            · have g2' : (g.kind == 2) = false := by simpa using g2
              have ql' : decide (q < g.used.length) = false := decide_eq_false ql
              rw [HE2.out]
              have HV : Hid ((atCell g r).map (fun k => (n, k)) = none) := Lib.hid (by rw [atCell, if_neg (by omega), if_pos ⟨g1, Z.out⟩, HQ.out, Int.toNat_natCast, if_neg ql]; rfl)
              rw [HV.out]
              clear HE2 k1 k2
              go_enter Tryz.func113, Tryz.ntmps113
              go_wp2
              go_quiet (fail)
              have U2 := U0.drewN' nq
              have c2' : (w.drewN nq).cell? ⟨p, 2, none⟩ = _ := c2
              have d0' : (w.drewN nq).cell? ⟨b, n * 4, none⟩ = _ := d0
              have d1' : (w.drewN nq).cell? ⟨b, n * 4 + 1, none⟩ = _ := d1
              have d2' : (w.drewN nq).cell? ⟨b, n * 4 + 2, none⟩ = _ := d2
              have d3' : (w.drewN nq).cell? ⟨b, n * 4 + 3, none⟩ = _ := d3
              have bne' : b ≠ (w.drewN nq).heap.size := hbne
              have pne' : p ≠ (w.drewN nq).heap.size := hpne
              clear c0 c1 c2 d0 d1 d2 d3 hbne hpne hbl hpl U0 hi
              generalize w.drewN nq = W2 at *
              go_wp2
              go_quiet (fail)
              go_wp2
              go_ret3
              exact ⟨rfl, (U2.skip' _).drewN' _⟩
          · have g2' : (g.kind == 2) = false := by simpa using g2
            have z' : (r % g.size == 0) = false := by simpa using z
            rw [HE2.out]
            have HV : Hid ((atCell g r).map (fun k => (n, k)) = none) := Lib.hid (by rw [atCell, if_neg (by omega), if_neg (by omega)]; rfl)
            rw [HV.out]
            clear HE2 k1 k2
            go_enter Tryz.func113, Tryz.ntmps113
            go_wp2
            go_quiet (fail)
            have U2 := U0.drewN' nq
            have c2' : (w.drewN nq).cell? ⟨p, 2, none⟩ = _ := c2
            have d0' : (w.drewN nq).cell? ⟨b, n * 4, none⟩ = _ := d0
            have d1' : (w.drewN nq).cell? ⟨b, n * 4 + 1, none⟩ = _ := d1
            have d2' : (w.drewN nq).cell? ⟨b, n * 4 + 2, none⟩ = _ := d2
            have d3' : (w.drewN nq).cell? ⟨b, n * 4 + 3, none⟩ = _ := d3
            have bne' : b ≠ (w.drewN nq).heap.size := hbne
            have pne' : p ≠ (w.drewN nq).heap.size := hpne
            clear c0 c1 c2 d0 d1 d2 d3 hbne hpne hbl hpl U0 hi
            generalize w.drewN nq = W2 at *
            go_wp2
            go_quiet (fail)
            go_wp2
            go_ret3
            exact ⟨rfl, (U2.skip' _).drewN' _⟩
        · have g2' : (g.kind == 2) = false := by simpa using g2
          have g1' : (g.kind == 1) = false := by simpa using g1
          rw [HE2.out]
          have HV : Hid ((atCell g r).map (fun k => (n, k)) = none) := Lib.hid (by rw [atCell, if_neg (by omega), if_neg (by omega)]; rfl)
          rw [HV.out]
          clear HE2 k1 k2
          go_enter Tryz.func113, Tryz.ntmps113
          go_wp2
          go_quiet (fail)
          have U2 := U0.drewN' nq
          have c2' : (w.drewN nq).cell? ⟨p, 2, none⟩ = _ := c2
          have d0' : (w.drewN nq).cell? ⟨b, n * 4, none⟩ = _ := d0
          have d1' : (w.drewN nq).cell? ⟨b, n * 4 + 1, none⟩ = _ := d1
          have d2' : (w.drewN nq).cell? ⟨b, n * 4 + 2, none⟩ = _ := d2
          have d3' : (w.drewN nq).cell? ⟨b, n * 4 + 3, none⟩ = _ := d3
          have bne' : b ≠ (w.drewN nq).heap.size := hbne
          have pne' : p ≠ (w.drewN nq).heap.size := hpne
          clear c0 c1 c2 d0 d1 d2 d3 hbne hpne hbl hpl U0 hi
          generalize w.drewN nq = W2 at *
          go_wp2
          go_quiet (fail)
          go_wp2
          go_ret3
          exact ⟨rfl, (U2.skip' _).drewN' _⟩
    · have HV : Hid (s.at a = none) := Lib.hid (by rw [HE.out, List.getElem?_eq_none (by omega)])
      rw [HV.out]
      clear HE m
      go_enter Tryz.func113, Tryz.ntmps113
      go_wp2
      go_quiet (fail)
      go_wp2
      go_ret3
      exact ⟨rfl, U0.drewN' _⟩

end Go.Proofs.YtjjdjipohifgbaaGreat

/- append, as one step of a region that draws its order: one law for all ways. No condition. -/
namespace Go.Proofs.YtjjdjipohifgbaaGreat
open Go.RowKit

theorem step_append_mine {P : Program} {w : World} {ops : Array Oper} {o : Oper} {a : Act} {K : Act → World → Prop} {Q : Exit → Act → World → Prop} {E : Prop}
    (hg : o.guard = none) (s x : Operand) (t : TypeId) (hop : o.op = Op.call { callee := Callee.builtin Builtin.append, args := #[s, x], argTypes := #[t, t] })
    (e : TypeId) (size bytes : Nat) (z : Value) (h1 : P.underlying t = some (.slice e)) (hinfo : (P.info? e).map (fun i => (i.zero, i.size, i.bytes)) = some (some z, size, bytes)) (h6 : z.cells.size = size) (h7 : 0 < size)
    (v : Value) (n : Nat) (xs : List Value) (hX : Hp) (hs : a.eval s = v) (HS : SliceH e size v n xs hX) (hin : In w hX)
    (ad : Addr) (m c : Nat) (news : List Value) (hx : a.eval x = .slice (some ad) m c) (hc : ∀ j u, news[j]? = some u → w.cell? (ad.add j) = some u) (hn : news.length = m * size) (h1c : ∀ u ∈ news, u.oneCell' = true) (hm : 0 < m ∨ v ≠ .slice none 0 0)
    (b1 : n + m ≤ maxLen) (b2 : (n + m) * bytes ≤ 140737488355328)
    (hK : ∀ v' w' hX', SliceH e size v' (n + m) (xs ++ news) hX' → Upd hX hX' w w' → K (a.put o.dst v') w') :
    if Region.wanted o (yielded ops a.tmps) = true then Oper.wp P o a w K Q else E := by
  obtain ⟨i, hi, hz0, hz1, hz2⟩ := info_parts hinfo
  obtain ⟨hlen, HS⟩ := HS
  have hlen2 : (xs ++ news).length = (n + m) * size := by rw [List.length_append, hlen, hn, Nat.add_mul]
  rcases HS with ⟨rfl, rfl, rfl⟩ | ⟨g, pre, post, cap, rfl, rfl, hnc, hcap, hcm⟩
  · obtain rfl : xs = [] := List.eq_nil_of_length_eq_zero (by simpa using hlen)
    have hm : 0 < m := hm.resolve_right (by simp)
    refine step_append_grows hg s x t hop e i z size bytes h1 hi hz0 hz1 hz2 h6 h7 none 0 0 [] hs (fun _ => ⟨rfl, rfl⟩) (by simp) (by intro _ h; cases h) ad m c news hx hn hc h1c (by omega) b1 b2 ?_
    intro v' w' hown hgrow
    obtain ⟨hl, hown⟩ := hown
    rcases hown with ⟨rfl, h0⟩ | ⟨g, cap, cur, rfl, hge, hgb, hnc, hcm, hsz, htk⟩
    · omega
    · refine hK _ _ [(g, .cells ([] ++ ([] ++ news) ++ (cur.toList.drop ((0 + m) * size))).toArray e (0, 0))] ⟨hlen2, .inr ⟨g, [], cur.toList.drop ((0 + m) * size), cap, rfl, rfl, hnc, ?_, hcm⟩⟩ ?_
      · rw [hlen2]
        simp [hsz]
        have : m * size ≤ cap * size := Nat.mul_le_mul_right _ (by omega)
        omega
      · have hcur : ([] ++ ([] ++ news) ++ (cur.toList.drop ((0 + m) * size))).toArray = cur := by
          have : cur.toList = news ++ cur.toList.drop ((0 + m) * size) := by
            rw [List.nil_append] at htk
            conv => lhs; rw [← List.take_append_drop ((0 + m) * size) cur.toList, htk]
          apply Array.toList_inj.1
          simpa using this.symm
        rw [hcur]
        exact { inn := ⟨by simp, by intro x hx; simp at hx; subst hx; exact hgb⟩, os := hgrow.os, tape := hgrow.tape, output := hgrow.output, size := hgrow.size, frame := fun k hk _ => hgrow.block k hk (by simp), fresh := fun k hk => by simp at hk; subst hk; exact .inr hge }
  · have hgb := hin.head
    have hcells : ∀ j u, xs[j]? = some u → w.cell? ((⟨g, pre.length, none⟩ : Addr).add j) = some u := by
      intro j u hj
      rw [Addr.add_lit]
      rw [cell_of hgb]
      have hj' : j < xs.length := (List.getElem?_eq_some_iff.1 hj).1
      have e := (List.getElem?_eq_some_iff.1 hj).2
      simp [List.getElem?_append, hj', e]
    by_cases hr : n + m ≤ cap
    · have hspare : ∀ j, j < news.length → (w.cell? ⟨g, pre.length + n * size + j, none⟩).isSome = true ∧ w.frozen? ⟨g, pre.length + n * size + j, none⟩ = false := by
        intro j hj
        have : j < post.length := by
          have : (n + m) * size ≤ cap * size := Nat.mul_le_mul_right _ hr
          rw [Nat.add_mul] at this
          omega
        refine ⟨?_, frozen_of hgb _⟩
        rw [cell_of hgb, ← hlen]
        have e : pre.length + xs.length + j < (pre ++ xs ++ post).length := by simp; omega
        simp only [List.getElem?_toArray]
        rw [List.getElem?_eq_getElem e]
        rfl
      refine step_append_room hg s x t hop e i size h1 hi hz1 g pre.length n cap hs ad m c news hx hn hc h1c hr hspare ?_
      have hle : (n + m) * size ≤ cap * size := Nat.mul_le_mul_right _ hr
      rw [Nat.add_mul] at hle
      have hpl : news.length ≤ post.length := by omega
      obtain ⟨old, post', rfl, hol⟩ : ∃ old post', post = old ++ post' ∧ old.length = news.length := ⟨post.take news.length, post.drop news.length, (List.take_append_drop _ _).symm, by simp; omega⟩
      have hrow := setCells_row g e (0, 0) news (pre.length + n * size) _ w hgb (by simp; omega)
      rw [hrow]
      have es : ((pre ++ xs ++ (old ++ post')).toArray.toList.take (pre.length + n * size) ++ news ++ (pre ++ xs ++ (old ++ post')).toArray.toList.drop (pre.length + n * size + news.length)) = pre ++ (xs ++ news) ++ post' := by
        rw [← hlen]
        simpa using splice_mid pre xs old post' news hol
      rw [es]
      refine hK _ _ [(g, .cells (pre ++ (xs ++ news) ++ post').toArray e (0, 0))] ⟨hlen2, .inr ⟨g, pre, post', cap, rfl, rfl, hr, ?_, hcm⟩⟩ ?_
      · simp at hcap ⊢; omega
      · have hbk := setRow_heap w g _ (pre ++ (xs ++ news) ++ post').toArray e (0, 0) hgb
        exact { inn := ⟨by simp, by intro x hx; simp only [List.mem_singleton] at hx; subst hx; exact hbk⟩, os := rfl, tape := rfl, output := rfl, size := by simp [World.setRow], frame := fun k hk hne => setRow_other w g k _ (by simpa using hne), fresh := fun k hk => .inl (by simpa using hk) }
    · refine step_append_grows hg s x t hop e i z size bytes h1 hi hz0 hz1 hz2 h6 h7 (some ⟨g, pre.length, none⟩) n cap xs hs (by intro h; cases h) hlen (by intro b hb; cases hb; exact hcells) ad m c news hx hn hc h1c (by omega) b1 b2 ?_
      intro v' w' hown hgrow
      obtain ⟨hl, hown⟩ := hown
      rcases hown with ⟨rfl, h0⟩ | ⟨g2, cap2, cur, rfl, hge, hgb2, hnc2, hcm2, hsz, htk⟩
      · have : n ≤ cap := hnc
        omega
      · refine hK _ _ [(g2, .cells ([] ++ (xs ++ news) ++ (cur.toList.drop ((n + m) * size))).toArray e (0, 0))] ⟨hlen2, .inr ⟨g2, [], cur.toList.drop ((n + m) * size), cap2, rfl, rfl, hnc2, ?_, hcm2⟩⟩ ?_
        · rw [hlen2]
          simp [hsz]
          have : (n + m) * size ≤ cap2 * size := Nat.mul_le_mul_right _ hnc2
          omega
        · have hcur : ([] ++ (xs ++ news) ++ (cur.toList.drop ((n + m) * size))).toArray = cur := by
            have : cur.toList = xs ++ news ++ cur.toList.drop ((n + m) * size) := by
              conv => lhs; rw [← List.take_append_drop ((n + m) * size) cur.toList, htk]
            apply Array.toList_inj.1
            simpa using this.symm
          rw [hcur]
          exact { inn := ⟨by simp, by intro x hx; simp at hx; subst hx; exact hgb2⟩, os := hgrow.os, tape := hgrow.tape, output := hgrow.output, size := hgrow.size, frame := fun k hk _ => hgrow.block k hk (by simp), fresh := fun k hk => by simp at hk; subst hk; exact .inr hge }


end Go.Proofs.YtjjdjipohifgbaaGreat

/- What Size and starts of package mature come to. Conditions: a space as New makes it, its blocks' cells of some size. -/
namespace Go.Proofs.YtjjdjipohifgbaaGreat
open Go.RowKit

def MatS.cellSize (s : MatS) (g : PageS) : Int := if g.kind = 2 then pagesN s.words g.size * s.words else g.size
/-- how many words something has there -/
def MatS.sizeAt (s : MatS) (a : Int) : Option Int := (s.at a).map fun x => match s.pages[x.1]? with | some g => s.cellSize g | none => 0
def optV (o : Option Int) : Int := match o with | some x => x | none => 0

theorem at_lt {s : MatS} {a : Int} {n k : Nat} (h : s.at a = some (n, k)) : n < s.pages.length := by
  unfold MatS.at at h
  split at h
  · cases h
  · split at h
    · cases h
    · rename_i g hg
      cases hq : atCell g ((a - s.base) % s.words) with
      | none => rw [hq] at h; cases h
      | some j =>
        rw [hq] at h
        simp only [Option.map_some, Option.some.injEq, Prod.mk.injEq] at h
        rw [← h.1]
        exact (List.getElem?_eq_some_iff.1 hg).1

set_option maxRecDepth 100000 in
set_option maxHeartbeats 2000000 in
theorem mature_size (p : Nat) (s : MatS) (a : Int) (w : World) (h : Hp) (hi : In w h) (hm : MatureH p s h) (ok : s.Ok) (ha : I64 a) :
    Calls Tryz.prog 91 #[.pointer (some ⟨p, 0, none⟩), .int .i64 a] w fun e w' => e = .returned (.tuple #[.int .i64 (optV (s.sizeAt a)), .bool (s.sizeAt a).isSome]) ∧ Upd h h w w' := by
  have hat := mature_at p s a w h hi hm ok ha
  cases hq : s.at a with
  | none =>
    have HV : Hid (s.sizeAt a = none) := Lib.hid (by simp [MatS.sizeAt, hq])
    rw [HV.out]
    rw [hq] at hat
    simp only [optN, optK, Option.isSome_none] at hat
    clear hq
    go_enter Tryz.func91, Tryz.ntmps91
    go_wp2_with (go_at_call 113; refine Calls.mono hat ?_; rintro e w1 ⟨rfl, u1⟩)
    go_ret2
    exact ⟨rfl, u1⟩
  | some nk =>
    obtain ⟨n, k⟩ := nk
    have hn := at_lt hq
    obtain ⟨g, hg⟩ : ∃ g, s.pages[n]? = some g := ⟨_, List.getElem?_eq_getElem hn⟩
    have HV : Hid (s.sizeAt a = some (s.cellSize g)) := Lib.hid (by simp [MatS.sizeAt, hq, hg])
    rw [HV.out]
    rw [hq] at hat
    simp only [optN, optK, Option.isSome_some] at hat
    obtain ⟨k1, k2, k3⟩ := ok.2 n g hg
    obtain ⟨b, rows, m⟩ := hm.rows
    obtain ⟨a1, a2, a3, a4, a5⟩ := m.2.2.2
    obtain ⟨v, hp, hrow, hok⟩ := m.row hg
    have HC : Hid (∀ W, In W h → W.cell? ⟨p, 1, none⟩ = some (.int .i64 s.words) ∧ W.cell? ⟨p, 2, none⟩ = some (.slice (some ⟨b, 0, none⟩) s.pages.length s.pages.length) ∧ W.cell? ⟨b, n * 4, none⟩ = some (.int .i64 g.kind) ∧ W.cell? ⟨b, n * 4 + 1, none⟩ = some (.int .i64 g.size)) := Lib.hid (by
      intro W hW
      obtain ⟨c0, c1, c2⟩ := m.cells hW
      obtain ⟨d0, d1, _⟩ := m.page hW hrow
      exact ⟨c1, c2, d0, d1⟩)
    have w16 := ok.1
    clear hq hg m hrow hok hm ok
    by_cases g2 : g.kind = 2
    · obtain ⟨z1, z2⟩ := k2 g2
      have hpg := fun W => class_pages s.words g.size W z1 z2 w16 (by omega)
      obtain ⟨y1, y2, _⟩ := pagesN_bounds z1 z2 w16
      have hcs : s.cellSize g = pagesN s.words g.size * s.words := by rw [MatS.cellSize, if_pos g2]
      rw [hcs]
      clear hcs HV
      generalize hP : pagesN s.words g.size = P at *
      clear hP
      have p0 : 0 ≤ P * s.words := Int.mul_nonneg (by omega) (by omega)
      have p1 : P * s.words ≤ 6 * 256 := Int.mul_le_mul (by omega) (by omega) (by omega) (by omega)
      generalize hA : P * s.words = A at *
      have wA : IntKind.i64.wrap A = A := IntWalk.i64_in _ (by omega)
      have HPG := Lib.hid hpg
      clear hpg
      go_enter Tryz.func91, Tryz.ntmps91
      go_wp2_with (go_at_call 113; refine Calls.mono hat ?_; rintro e w1 ⟨rfl, u1⟩; obtain ⟨c1, c2, d0, d1⟩ := HC.out _ u1.inn; rw [g2] at d0; have U1 := Lib.hid u1; clear u1 hat)
      go_quiet ((go_at_call 114; exact Calls.quiet_of (HPG.out _)))
      go_wp2
      go_ret2
      exact ⟨rfl, U1.out.drewN' nq⟩
    · have hcs : s.cellSize g = g.size := by rw [MatS.cellSize, if_neg g2]
      rw [hcs]
      have q2 : (g.kind == 2) = false := by simpa using g2
      clear hcs HV
      go_enter Tryz.func91, Tryz.ntmps91
      go_wp2_with (go_at_call 113; refine Calls.mono hat ?_; rintro e w1 ⟨rfl, u1⟩; obtain ⟨c1, c2, d0, d1⟩ := HC.out _ u1.inn; have U1 := Lib.hid u1; clear u1 hat)
      go_ret2
      exact ⟨rfl, U1.out⟩

/-- begin, quiet -/
theorem mature_beginq (p : Nat) (s : MatS) (n : Nat) (w : World) (h : Hp) (hi : In w h) (hm : MatureH p s h) (hn : n ≤ 64) :
    Calls Tryz.prog 116 #[.pointer (some ⟨p, 0, none⟩), .int .i64 n] w fun e w' => e = .returned (.int .i64 (s.begin n)) ∧ ∃ k, w' = w.drewN k := by
  obtain ⟨b, rows, m⟩ := hm.rows
  obtain ⟨c0, c1, c2⟩ := m.cells hi
  obtain ⟨_, _, _, a1, a2, a3, a4, a5⟩ := m
  have k0 : 0 ≤ (n : Int) * s.words := Int.mul_nonneg (by omega) (by omega)
  have k1 : (n : Int) * s.words ≤ 64 * 256 := Int.mul_le_mul (by omega) (by omega) (by omega) (by omega)
  have m1 : IntKind.i64.wrap ((n : Int) * s.words) = (n : Int) * s.words := IntWalk.i64_in _ (by omega)
  have hb : s.begin n = s.base + (n : Int) * s.words := rfl
  rw [hb]
  clear hb
  generalize hA : (n : Int) * s.words = A at *
  have m2 : IntKind.i64.wrap (s.base + A) = s.base + A := IntWalk.i64_in _ (by omega)
  go_enter Tryz.func116, Tryz.ntmps116
  go_wp2
  go_quiet (fail)
  go_wp2
  go_ret
  exact ⟨rfl, _, rfl⟩

/-- where the cells that are used begin -/
def startsF (b size : Int) : List Bool → Nat → List Int
  | [], _ => []
  | u :: l, k => if u = true then (b + (k : Int) * size) :: startsF b size l (k + 1) else startsF b size l (k + 1)
def MatS.startsOf (s : MatS) (n : Nat) (g : PageS) : List Int := if g.kind = 2 then [s.begin n] else startsF (s.begin n) g.size g.used 0
theorem startsF_take (b size : Int) (l : List Bool) (j k : Nat) (h : k < l.length) : startsF b size (l.take (k + 1)) j = startsF b size (l.take k) j ++ (if l.getD k false = true then [b + ((j + k : Nat) : Int) * size] else []) := by
  induction l generalizing j k with
  | nil => simp at h
  | cons u l ih =>
    cases k with
    | zero => cases u <;> simp [startsF, List.getD]
    | succ k =>
      have := ih (j + 1) k (by simpa using h)
      have e : j + 1 + k = j + (k + 1) := by omega
      rw [e] at this
      simp only [List.take_succ_cons, startsF, List.getD, List.getElem?_cons_succ] at this ⊢
      split
      · rw [this]; rfl
      · exact this
theorem startsF_len (b size : Int) : ∀ (l : List Bool) (k : Nat), (startsF b size l k).length ≤ l.length
  | [], _ => by simp [startsF]
  | u :: l, k => by
    have := startsF_len b size l (k + 1)
    simp only [startsF]
    split <;> simp <;> omega

set_option maxRecDepth 100000 in
set_option maxHeartbeats 4000000 in
theorem mature_starts (p : Nat) (s : MatS) (n : Nat) (g : PageS) (w : World) (h : Hp) (hi : In w h) (hm : MatureH p s h) (ok : s.Ok) (hg : s.pages[n]? = some g) :
    Calls Tryz.prog 102 #[.pointer (some ⟨p, 0, none⟩), .int .i64 n] w fun e w' => ∃ v h', e = .returned v ∧ SliceH 3 1 v (s.startsOf n g).length (ints (s.startsOf n g)) h' ∧ Upd h (h' ++ h) w w' := by
  obtain ⟨b, rows, m⟩ := hm.rows
  obtain ⟨a1, a2, a3, a4, a5⟩ := m.2.2.2
  have hn : n < s.pages.length := (List.getElem?_eq_some_iff.1 hg).1
  obtain ⟨k1, k2, k3, k4⟩ := ok.2 n g hg
  obtain ⟨v, hp, hrow, hok⟩ := m.row hg
  obtain ⟨c0, c1, c2⟩ := m.cells hi
  obtain ⟨d0, d1, d2, d3⟩ := m.page hi hrow
  simp only at d0 d1 d2 d3
  have hpin := m.part hi hrow
  have hS := hok.1
  simp only at hS hpin
  obtain ⟨ao, cap, rfl, hcap⟩ := hS.shape
  have HC : Hid (∀ W k, In W h → k < g.used.length → ∃ gb off, ao = some ⟨gb, off, none⟩ ∧ W.cell? ⟨gb, off + k, none⟩ = some (.bool (g.used.getD k false))) := Lib.hid (by
    intro W k hW hk
    obtain ⟨gb, off, cap', hv, _⟩ := hS.addr (by omega)
    have hc := hS.cell (m.part hW hrow) hv (j := k) (by simpa using hk)
    simp only [Value.slice.injEq] at hv
    refine ⟨gb, off, hv.1, ?_⟩
    rw [hc]
    simp [List.getD, hk])
  have HB := Lib.hid (fun W (hW : In W h) => mature_begin p s n W h hW hm (by omega))
  have U0 := Upd.refl hi
  have hbl : b < w.heap.size := World.block_lt_of_cell? _ _ d0
  have hbne : b ≠ w.heap.size := by omega
  have hb0 : 0 ≤ s.begin n ∧ s.begin n ≤ 1048576 + 64 * 256 := by
    unfold MatS.begin
    have : 0 ≤ (n : Int) * s.words := Int.mul_nonneg (by omega) (by omega)
    have : (n : Int) * s.words ≤ 64 * 256 := Int.mul_le_mul (by omega) (by omega) (by omega) (by omega)
    omega
  obtain ⟨hb0, hb1⟩ := hb0
  by_cases g2 : g.kind = 2
  · have HV : Hid (s.startsOf n g = [s.begin n]) := Lib.hid (by rw [MatS.startsOf, if_pos g2])
    rw [HV.out]
    rw [g2] at d0
    have hS2 := fun z => SliceH.made (T := 3) (g := z) (xs := [Value.int .i64 (s.begin n)]) (n := 1) rfl (by unfold maxLen; omega)
    have HS2 := Lib.hid hS2
    have U1 := Lib.hid (U0.skip' (.cells #[.int .i64 g.kind, .int .i64 g.size, .slice ao g.used.length cap, .bool g.pending] 163 (0, 0)))
    rw [g2] at U1
    clear hS2 U0 HV m hg hrow hok hS hpin k1 k2 k4
    generalize s.begin n = B at *
    go_enter Tryz.func102, Tryz.ntmps102
    go_wp2_with (go_at_call 116; refine Calls.mono (HB.out _ U1.out.inn) ?_; rintro e w8 ⟨rfl, u8⟩; have U8 := Lib.hid (U1.out.trans u8); clear u8)
    go_ret
    exact ⟨_, _, rfl, HS2.out _, U8.out.alloc' _⟩
  · have HV : Hid (s.startsOf n g = startsF (s.begin n) g.size g.used 0) := Lib.hid (by rw [MatS.startsOf, if_neg g2])
    rw [HV.out]
    have q2 : (g.kind == 2) = false := by simpa using g2
    have hsz : 0 < g.used.length → 4 ≤ g.size ∧ g.size ≤ 96 := by
      intro hu
      by_cases g1 : g.kind = 1
      · exact k1 g1
      · rw [k4 g1] at hu
        simp at hu
    have UL := (U0.skip' (.cells #[.int .i64 g.kind, .int .i64 g.size, .slice ao g.used.length cap, .bool g.pending] 163 (0, 0)))
    have UA := Upd.alloc hi (.cells #[.int .i64 g.kind, .int .i64 g.size, .slice ao g.used.length cap, .bool g.pending] 163 (0, 0))
    have hlen := startsF_len (s.begin n) g.size g.used 0
    have HT := Lib.hid (fun k (hk : k < g.used.length) => startsF_take (s.begin n) g.size g.used 0 k hk)
    have HLt := Lib.hid (fun k => startsF_len (s.begin n) g.size (g.used.take k) 0)
    have H0 : Hid (∃ hX, SliceH 3 1 (.slice none 0 0) (startsF (s.begin n) g.size (g.used.take 0) 0).length (ints (startsF (s.begin n) g.size (g.used.take 0) 0)) hX ∧ Upd h (hX ++ ((w.heap.size, .cells #[.int .i64 g.kind, .int .i64 g.size, .slice ao g.used.length cap, .bool g.pending] 163 (0, 0)) :: h)) w (w.alloc (.cells #[.int .i64 g.kind, .int .i64 g.size, .slice ao g.used.length cap, .bool g.pending] 163 (0, 0)))) := Lib.hid ⟨[], SliceH.nil _ _, UA⟩
    clear HV UL UA U0 m hg hrow hok hS hpin k1 k2 k4 g2 ok hm hlen
    generalize hBn : s.begin n = B at *
    clear hBn
    go_enter Tryz.func102, Tryz.ntmps102
    go_wp2
    generalize hlb : w.heap.size = lb at *
    go_loopw [6, 26] (fun v i wr => ∃ (k : Nat) (vv : Value), k ≤ g.used.length ∧ i = .int .i64 k ∧ vv = v ∧ Hid (∃ hX, SliceH 3 1 vv (startsF B g.size (g.used.take k) 0).length (ints (startsF B g.size (g.used.take k) 0)) hX ∧ Upd h (hX ++ ((lb, .cells #[.int .i64 g.kind, .int .i64 g.size, .slice ao g.used.length cap, .bool g.pending] 163 (0, 0)) :: h)) w wr)) (fun _ i _ => g.used.length - (intOf i).toNat)
    case atStart => exact ⟨0, _, by omega, rfl, rfl, H0⟩
    case round =>
      obtain ⟨k, vv, hk, rfl, rfl, HW⟩ := hrel
      by_cases hlt : k < g.used.length
      · obtain ⟨hX, S, U⟩ := HW.out
        have hin := U.inn.right
        obtain ⟨gb, off, rfl, hc⟩ := HC.out wr k hin.tail hlt
        obtain ⟨z1, z2⟩ := hsz (by omega)
        have ht := HT.out k hlt
        have hle := HLt.out k
        have hle2 : (g.used.take k).length ≤ k := List.length_take_le _ _
        rw [Nat.zero_add] at ht
        cases hu : g.used.getD k false
        · rw [hu] at hc ht
          have HN : Hid (∃ hX, SliceH 3 1 vv (startsF B g.size (g.used.take (k + 1)) 0).length (ints (startsF B g.size (g.used.take (k + 1)) 0)) hX ∧ Upd h (hX ++ ((lb, .cells #[.int .i64 g.kind, .int .i64 g.size, .slice (some ⟨gb, off, none⟩) g.used.length cap, .bool g.pending] 163 (0, 0)) :: h)) w wr) := Lib.hid (by
            rw [ht, if_neg (by decide), List.append_nil]
            exact ⟨hX, S, U⟩)
          clear S U ht hu HW hin
          go_wp2
          go_roundw
          case rel => exact ⟨k + 1, _, by omega, by go_num, rfl, HN⟩
          case measure => simp [intOf]; omega
        · rw [hu, if_pos rfl] at ht
          rw [hu] at hc
          obtain ⟨ao', cap', rfl, hcap'⟩ := S.shape
          have p0 : 0 ≤ (k : Int) * g.size := Int.mul_nonneg (by omega) (by omega)
          have p1 : (k : Int) * g.size ≤ 256 * 96 := Int.mul_le_mul (by omega) (by omega) (by omega) (by omega)
          have S2 : ∀ v' hX', SliceH 3 1 v' ((startsF B g.size (g.used.take k) 0).length + 1) (ints (startsF B g.size (g.used.take k) 0) ++ [.int .i64 (B + (k : Int) * g.size)]) hX' → SliceH 3 1 v' (startsF B g.size (g.used.take (k + 1)) 0).length (ints (startsF B g.size (g.used.take (k + 1)) 0)) hX' := by
            intro v' hX' h1
            rw [ht]
            simpa [ints] using h1
          generalize hA : (k : Int) * g.size = A at *
          have wA : IntKind.i64.wrap A = A := IntWalk.i64_in _ (by omega)
          have wBA : IntKind.i64.wrap (B + A) = B + A := IntWalk.i64_in _ (by omega)
          have HS := Lib.hid S
          have HS2 := Lib.hid S2
          have HU := Lib.hid U
          have hlbl : lb < wr.heap.size := (Array.getElem?_eq_some_iff.1 hin.head).1
          have hS0 : wr.drew.cell? ⟨lb, 1, none⟩ = some (.int .i64 g.size) := cell_of hin.head 1
          generalize hm : (startsF B g.size (g.used.take k) 0).length = m at *
          generalize hxs : ints (startsF B g.size (g.used.take k) 0) = xs at *
          clear S S2 U ht hu HW hm hxs HT
          go_wp2
          go_region_held3 (fun w' => w'.cell? ⟨lb, 1, none⟩ = some (.int .i64 g.size))
            (first | with_reducible exact hS0 | with_reducible exact hS9 | with_reducible exact hS10 | with_reducible exact hS11 | go_keep)
            (first
              | (go_at_call 116; refine Calls.mono (HB.out _ hin.tail.drew) ?_; rintro e w9 ⟨rfl, u9⟩; have U9 := Upd.onRight (k := hX) HU.out.drew' ((Upd.refl hin.drew).under u9); have hS9 : w9.cell? ⟨lb, 1, none⟩ = some (.int .i64 g.size) := cell_of U9.inn.right.head 1; have hS10 := alc (o := .cells #[.int .i64 (B + A)] 3 (0, 0)) hS9; have HN := Lib.hid (news_of (news := [.int .i64 (B + A)]) (w := w9.alloc (.cells #[.int .i64 (B + A)] 3 (0, 0))) (b := w9.heap.size) (T := 3) (fr := (0, 0)) (heap_alloc_at rfl)); have UX := Lib.hid (U9.skip' (.cells #[.int .i64 (B + A)] 3 (0, 0))); clear U9 u9)
              | (refine step_append_mine rfl (.tmp 32) (.tmp 41) 42 rfl 3 1 8 _ Tryz.underlying42 Tryz.infoInt rfl (by decide) (.slice ao' m cap') m xs hX (by rfl) HS.out UX.out.inn.left ⟨w9.heap.size, 0, none⟩ 1 1 [.int .i64 (B + A)] (by rfl) HN.out rfl (by intro u hu; simp at hu; subst hu; rfl) (Or.inl (by decide)) (by unfold maxLen; omega) (by omega) ?_; intro v' w3 hX' hS' hU'; have S3 := Lib.hid (HS2.out _ _ hS'); have U3 := Lib.hid (UX.out.trans (hU'.beside UX.out.inn)); have hS11 : w3.cell? ⟨lb, 1, none⟩ = some (.int .i64 g.size) := cell_of U3.out.inn.right.head 1; clear hS' hU'))
          go_wp2
          go_roundw
          case rel => exact ⟨k + 1, _, by omega, by go_num, rfl, Lib.hid ⟨hX', S3.out, U3.out⟩⟩
          case measure => simp [intOf]; omega
      · obtain ⟨hX, S, U⟩ := HW.out
        rw [List.take_of_length_le (by omega)] at S
        have HS := Lib.hid S
        have HU := Lib.hid U
        clear S U HW
        go_wp2
        go_ret
        exact ⟨_, hX, rfl, HS.out, HU.out.forget (List.Sublist.append_left (List.sublist_cons_self _ _) hX)⟩

end Go.Proofs.YtjjdjipohifgbaaGreat

/- What Starts and Used of package mature come to. Conditions: a space as New makes it, its blocks' cells of some size. -/
namespace Go.Proofs.YtjjdjipohifgbaaGreat
open Go.RowKit

def inPart (lo hi a : Int) : Bool := decide (lo ≤ a) && decide (a < hi)
def MatS.startsIn (s : MatS) (lo hi : Int) (n : Nat) (g : PageS) : List Int := if s.begin n + s.words ≤ lo ∨ hi ≤ s.begin n then [] else (s.startsOf n g).filter (inPart lo hi)
def MatS.pageStarts (s : MatS) (lo hi : Int) (n : Nat) : List Int := match s.pages[n]? with | some g => s.startsIn lo hi n g | none => []
/-- what begins in a part, of the first pages -/
def MatS.startsL (s : MatS) (lo hi : Int) : Nat → List Int
  | 0 => []
  | k + 1 => s.startsL lo hi k ++ s.pageStarts lo hi k
def MatS.starts (s : MatS) (lo hi : Int) : List Int := s.startsL lo hi s.pages.length

theorem startsOf_len {s : MatS} (ok : s.Ok) {n : Nat} {g : PageS} (hg : s.pages[n]? = some g) : (s.startsOf n g).length ≤ 256 := by
  unfold MatS.startsOf
  split
  · simp
  · have := startsF_len (s.begin n) g.size g.used 0
    have := (ok.2 n g hg).2.2.1
    omega
theorem startsIn_len {s : MatS} (ok : s.Ok) (lo hi : Int) {n : Nat} {g : PageS} (hg : s.pages[n]? = some g) : (s.startsIn lo hi n g).length ≤ 256 := by
  unfold MatS.startsIn
  split
  · simp
  · have := startsOf_len ok hg
    have := List.length_filter_le (inPart lo hi) (s.startsOf n g)
    omega
theorem startsL_len {s : MatS} (ok : s.Ok) (lo hi : Int) : ∀ k, (s.startsL lo hi k).length ≤ k * 256
  | 0 => by simp [MatS.startsL]
  | k + 1 => by
    have ih := startsL_len ok lo hi k
    simp only [MatS.startsL, List.length_append]
    have : (s.pageStarts lo hi k).length ≤ 256 := by
      unfold MatS.pageStarts
      split
      · rename_i g hg
        exact startsIn_len ok lo hi hg
      · simp
    omega
theorem filter_take {α : Type} (f : α → Bool) (l : List α) (d : α) (j : Nat) (h : j < l.length) : (l.take (j + 1)).filter f = (l.take j).filter f ++ (if f (l.getD j d) = true then [l.getD j d] else []) := by
  rw [List.take_succ_eq_append_getElem h, List.filter_append]
  have e : l.getD j d = l[j] := by simp [List.getD, h]
  rw [e]
  by_cases hf : f l[j] = true <;> simp [hf]

set_option maxRecDepth 100000 in
set_option maxHeartbeats 4000000 in
theorem mature_Starts (p : Nat) (s : MatS) (lo hi : Int) (w : World) (h : Hp) (hw : In w h) (hm : MatureH p s h) (ok : s.Ok) :
    Calls Tryz.prog 96 #[.pointer (some ⟨p, 0, none⟩), .int .i64 lo, .int .i64 hi] w fun e w' => ∃ v h', e = .returned v ∧ SliceH 3 1 v (s.starts lo hi).length (ints (s.starts lo hi)) h' ∧ Upd h (h' ++ h) w w' := by
  obtain ⟨b, rows, m⟩ := hm.rows
  obtain ⟨a1, a2, a3, a4, a5⟩ := m.2.2.2
  obtain ⟨c0, c1, c2⟩ := m.cells hw
  have HC : Hid (∀ W, In W h → W.cell? ⟨p, 1, none⟩ = some (.int .i64 s.words)) := Lib.hid fun W hW => (m.cells hW).2.1
  have HBQ := Lib.hid (fun W n (hW : In W h) (hn : n ≤ 64) => mature_beginq p s n W h hW hm hn)
  have HST := Lib.hid (fun W n g (hW : In W h) (hg : s.pages[n]? = some g) => mature_starts p s n g W h hW hm ok hg)
  have HLn := Lib.hid (fun k => startsL_len ok lo hi k)
  have HOn := Lib.hid (fun n g (hg : s.pages[n]? = some g) => startsOf_len ok hg)
  have HLS : Hid (∀ k g, s.pages[k]? = some g → s.startsL lo hi (k + 1) = s.startsL lo hi k ++ s.startsIn lo hi k g) := Lib.hid (by
    intro k g hg
    simp [MatS.startsL, MatS.pageStarts, hg])
  have hres : s.starts lo hi = s.startsL lo hi s.pages.length := rfl
  rw [hres]
  have H0 : Hid (∃ hX, SliceH 3 1 (.slice none 0 0) (s.startsL lo hi 0).length (ints (s.startsL lo hi 0)) hX ∧ Upd h (hX ++ h) w w) := Lib.hid ⟨[], SliceH.nil _ _, Upd.refl hw⟩
  clear hres m hm ok
  go_enter Tryz.func96, Tryz.ntmps96
  go_wp2
  go_loopw [7, 18] (fun v i wr => ∃ (k : Nat) (vv : Value), k ≤ s.pages.length ∧ i = .int .i64 k ∧ vv = v ∧ Hid (∃ hX, SliceH 3 1 vv (s.startsL lo hi k).length (ints (s.startsL lo hi k)) hX ∧ Upd h (hX ++ h) w wr)) (fun _ i _ => s.pages.length - (intOf i).toNat)
  case atStart => exact ⟨0, _, by omega, rfl, rfl, H0⟩
  case round =>
    obtain ⟨k, vv, hk, rfl, rfl, HW⟩ := hrel
    by_cases hlt : k < s.pages.length
    · obtain ⟨g, hg⟩ : ∃ g, s.pages[k]? = some g := ⟨_, List.getElem?_eq_getElem hlt⟩
      obtain ⟨hX, S, U⟩ := HW.out
      have c1r := HC.out wr U.inn.right
      have HQ := Lib.hid (fun n => HBQ.out (wr.drewN n) k U.inn.right (by omega))
      have hb0 : 0 ≤ s.begin k ∧ s.begin k ≤ 1048576 + 64 * 256 := by
        unfold MatS.begin
        have : 0 ≤ (k : Int) * s.words := Int.mul_nonneg (by omega) (by omega)
        have : (k : Int) * s.words ≤ 64 * 256 := Int.mul_le_mul (by omega) (by omega) (by omega) (by omega)
        omega
      obtain ⟨hb0, hb1⟩ := hb0
      have hls := HLS.out k g hg
      have hin : s.startsIn lo hi k g = if s.begin k + s.words ≤ lo ∨ hi ≤ s.begin k then [] else (s.startsOf k g).filter (inPart lo hi) := rfl
      have HOk := Lib.hid (HOn.out k g hg)
      have HLk := Lib.hid (HLn.out k)
      have HSk := Lib.hid (fun W (hW : In W h) => HST.out W k g hW hg)
      have HU := Lib.hid U
      have HS := Lib.hid S
      have HLS' := Lib.hid hls
      have HIn := Lib.hid hin
      clear S U hls hin hg HW
      generalize hBk : s.begin k = B at *
      have wB : IntKind.i64.wrap (B + s.words) = B + s.words := IntWalk.i64_in _ (by omega)
      by_cases q1 : B + s.words ≤ lo
      · have HN : Hid (∃ hX, SliceH 3 1 vv (s.startsL lo hi (k + 1)).length (ints (s.startsL lo hi (k + 1))) hX ∧ Upd h (hX ++ h) w wr) := Lib.hid (by
          rw [HLS'.out, HIn.out, if_pos (.inl q1), List.append_nil]
          exact ⟨hX, HS.out, HU.out⟩)
        have HND : Hid (∀ n, ∃ hX, SliceH 3 1 vv (s.startsL lo hi (k + 1)).length (ints (s.startsL lo hi (k + 1))) hX ∧ Upd h (hX ++ h) w (wr.drewN n)) := Lib.hid (fun n => by
          obtain ⟨hX, S, U⟩ := HN.out
          exact ⟨hX, S, U.drewN' n⟩)
        clear HLS' HIn HSk HS HU HN
        go_wp2
        go_quiet ((go_at_call 116; exact Calls.quiet_of (HQ.out _)))
        go_wp2
        go_roundw
        case rel => exact ⟨k + 1, _, by omega, by go_num, rfl, Lib.hid (HND.out _)⟩
        case measure => simp [intOf]; omega
      · by_cases q2 : hi ≤ B
        · have HN : Hid (∃ hX, SliceH 3 1 vv (s.startsL lo hi (k + 1)).length (ints (s.startsL lo hi (k + 1))) hX ∧ Upd h (hX ++ h) w wr) := Lib.hid (by
            rw [HLS'.out, HIn.out, if_pos (.inr q2), List.append_nil]
            exact ⟨hX, HS.out, HU.out⟩)
          have HND : Hid (∀ n, ∃ hX, SliceH 3 1 vv (s.startsL lo hi (k + 1)).length (ints (s.startsL lo hi (k + 1))) hX ∧ Upd h (hX ++ h) w (wr.drewN n)) := Lib.hid (fun n => by
            obtain ⟨hX, S, U⟩ := HN.out
            exact ⟨hX, S, U.drewN' n⟩)
          clear HLS' HIn HSk HS HU HN
          go_wp2
          go_quiet ((go_at_call 116; exact Calls.quiet_of (HQ.out _)))
          go_wp2
          go_roundw
          case rel => exact ⟨k + 1, _, by omega, by go_num, rfl, Lib.hid (HND.out _)⟩
          case measure => simp [intOf]; omega
        · have HT : Hid (s.startsL lo hi (k + 1) = s.startsL lo hi k ++ (s.startsOf k g).filter (inPart lo hi)) := Lib.hid (by
            rw [HLS'.out, HIn.out, if_neg (by omega)])
          clear HLS' HIn
          generalize hl2 : s.startsOf k g = l2 at *
          clear hl2
          go_wp2
          go_quiet ((go_at_call 116; exact Calls.quiet_of (HQ.out _)))
          have HU1 := Lib.hid (HU.out.drewN' nq)
          generalize wr.drewN nq = wq at *
          clear HQ
          go_wp2_with (go_at_call 102; refine Calls.mono (HSk.out _ HU1.out.inn.right) ?_; rintro e w2 ⟨v2, h2, rfl, s2, u2⟩; have HU2 := Lib.hid (Upd.onRight HU1.out u2); obtain ⟨ao2, cap2, rfl, hcap2⟩ := s2.shape; have HS2 := Lib.hid s2; clear s2 u2)
          have HI0 : Hid (∃ hX, SliceH 3 1 vv (s.startsL lo hi k ++ (l2.take 0).filter (inPart lo hi)).length (ints (s.startsL lo hi k ++ (l2.take 0).filter (inPart lo hi))) hX ∧ Upd h (hX ++ (h2 ++ h)) w w2) := Lib.hid ⟨hX, by simpa using HS.out, HU2.out⟩
          go_loopw [7, 42] (fun v i wr => ∃ (j : Nat) (vv : Value), j ≤ l2.length ∧ i = .int .i64 j ∧ vv = v ∧ Hid (∃ hX, SliceH 3 1 vv (s.startsL lo hi k ++ (l2.take j).filter (inPart lo hi)).length (ints (s.startsL lo hi k ++ (l2.take j).filter (inPart lo hi))) hX ∧ Upd h (hX ++ (h2 ++ h)) w wr)) (fun _ i _ => l2.length - (intOf i).toNat)
          case atStart => exact ⟨0, _, by omega, rfl, rfl, HI0⟩
          case round =>
            obtain ⟨j, v3, hj, rfl, rfl, HJ⟩ := hrel
            by_cases hjl : j < l2.length
            · obtain ⟨hY, S3, U3⟩ := HJ.out
              obtain ⟨gb, off, rfl, hcj⟩ := SliceH.intAt (kd := .i64) HS2.out U3.inn.right.left hjl
              have hf := filter_take (inPart lo hi) l2 0 j hjl
              have hl3 := List.length_filter_le (inPart lo hi) (l2.take j)
              have hl4 : (l2.take j).length ≤ j := List.length_take_le _ _
              have hok := HOk.out
              have hlk := HLk.out
              generalize l2.getD j 0 = x at *
              by_cases p1 : lo ≤ x
              · by_cases p2 : x < hi
                · rw [if_pos (by simp [inPart, p1, p2])] at hf
                  obtain ⟨ao', cap', rfl, hcap'⟩ := S3.shape
                  have HSx : Hid (∀ v' hX', SliceH 3 1 v' ((s.startsL lo hi k ++ (l2.take j).filter (inPart lo hi)).length + 1) (ints (s.startsL lo hi k ++ (l2.take j).filter (inPart lo hi)) ++ [.int .i64 x]) hX' → SliceH 3 1 v' (s.startsL lo hi k ++ (l2.take (j + 1)).filter (inPart lo hi)).length (ints (s.startsL lo hi k ++ (l2.take (j + 1)).filter (inPart lo hi))) hX') := Lib.hid (by
                    intro v' hX' h1
                    rw [hf, ← List.append_assoc]
                    simpa [ints, Nat.add_assoc] using h1)
                  have hml : (s.startsL lo hi k ++ (l2.take j).filter (inPart lo hi)).length ≤ 32768 := by
                    rw [List.length_append]
                    omega
                  have UX := Lib.hid (U3.skip' (.cells #[.int .i64 x] 3 (0, 0)))
                  have HN := Lib.hid (news_of (news := [.int .i64 x]) (w := wr.alloc (.cells #[.int .i64 x] 3 (0, 0))) (b := wr.heap.size) (T := 3) (fr := (0, 0)) (heap_alloc_at rfl))
                  have HS3 := Lib.hid S3
                  generalize hm : (s.startsL lo hi k ++ (l2.take j).filter (inPart lo hi)).length = m at *
                  generalize hxs : ints (s.startsL lo hi k ++ (l2.take j).filter (inPart lo hi)) = xs at *
                  clear S3 U3 HJ hf hl3 hl4 hlk hm hxs
                  go_wp2_with (at_builtin; refine wpList_append_mine rfl (.tmp 54) (.tmp 56) 42 rfl 3 1 8 (.int .i64 0) Tryz.underlying42 Tryz.infoInt rfl (by decide) (.slice ao' m cap') m xs hY rfl HS3.out UX.out.inn.left ⟨wr.heap.size, 0, none⟩ 1 1 [.int .i64 x] rfl HN.out rfl (by intro u hu; simp at hu; subst hu; rfl) (Or.inl (by decide)) (by unfold maxLen; omega) (by omega) ?_; intro v' w5 hX' hS' hU'; have S5 := Lib.hid (HSx.out _ _ hS'); have U5 := Lib.hid (UX.out.trans (hU'.beside UX.out.inn)); clear hS' hU')
                  go_roundw
                  case rel => exact ⟨j + 1, _, by omega, by go_num, rfl, Lib.hid ⟨hX', S5.out, U5.out⟩⟩
                  case measure => simp [intOf]; omega
                · rw [if_neg (by simp [inPart, p2]), List.append_nil] at hf
                  have HN : Hid (∃ hX, SliceH 3 1 v3 (s.startsL lo hi k ++ (l2.take (j + 1)).filter (inPart lo hi)).length (ints (s.startsL lo hi k ++ (l2.take (j + 1)).filter (inPart lo hi))) hX ∧ Upd h (hX ++ (h2 ++ h)) w wr) := Lib.hid (by rw [hf]; exact HJ.out)
                  clear hf S3 U3 HJ hl3 hl4 hlk
                  go_wp2
                  go_roundw
                  case rel => exact ⟨j + 1, _, by omega, by go_num, rfl, HN⟩
                  case measure => simp [intOf]; omega
              · rw [if_neg (by simp [inPart, p1]), List.append_nil] at hf
                have HN : Hid (∃ hX, SliceH 3 1 v3 (s.startsL lo hi k ++ (l2.take (j + 1)).filter (inPart lo hi)).length (ints (s.startsL lo hi k ++ (l2.take (j + 1)).filter (inPart lo hi))) hX ∧ Upd h (hX ++ (h2 ++ h)) w wr) := Lib.hid (by rw [hf]; exact HJ.out)
                clear hf S3 U3 HJ hl3 hl4 hlk
                go_wp2
                go_roundw
                case rel => exact ⟨j + 1, _, by omega, by go_num, rfl, HN⟩
                case measure => simp [intOf]; omega
            · obtain ⟨hY, S3, U3⟩ := HJ.out
              rw [List.take_of_length_le (by omega), ← HT.out] at S3
              have HN : Hid (∃ hX, SliceH 3 1 v3 (s.startsL lo hi (k + 1)).length (ints (s.startsL lo hi (k + 1))) hX ∧ Upd h (hX ++ h) w wr) := Lib.hid ⟨hY, S3, U3.forget (List.Sublist.append_left (List.sublist_append_right _ _) hY)⟩
              clear S3 U3 HJ
              go_wp2
              go_roundw
              case rel => exact ⟨k + 1, _, by omega, by go_num, rfl, HN⟩
              case measure => simp [intOf]; omega
    · obtain ⟨hX, S, U⟩ := HW.out
      rw [show k = s.pages.length by omega] at S
      have HS := Lib.hid S
      have HU := Lib.hid U
      clear S U HW
      go_wp2
      go_ret
      exact ⟨_, hX, rfl, HS.out, HU.out⟩

end Go.Proofs.YtjjdjipohifgbaaGreat

/- What Used of package mature comes to. Conditions: a space as New makes it, its blocks' cells of some size. -/
namespace Go.Proofs.YtjjdjipohifgbaaGreat
open Go.RowKit

def MatS.sizeOr (s : MatS) (a : Int) : Int := optV (s.sizeAt a)
def sumI : List Int → Int
  | [] => 0
  | x :: l => x + sumI l
theorem sumI_append (a b : List Int) : sumI (a ++ b) = sumI a + sumI b := by
  induction a with
  | nil => simp [sumI]
  | cons x l ih => simp [sumI, ih]; omega
def MatS.pageUsed (s : MatS) (n : Nat) : Int := match s.pages[n]? with | some g => sumI ((s.startsOf n g).map s.sizeOr) | none => 0
def MatS.usedL (s : MatS) : Nat → Int
  | 0 => 0
  | k + 1 => s.usedL k + s.pageUsed k
/-- how many words are used -/
def MatS.used (s : MatS) : Int := s.usedL s.pages.length

theorem cellSize_bounds {s : MatS} (ok : s.Ok) (hw : s.words ≤ 256) {n : Nat} {g : PageS} (hg : s.pages[n]? = some g) (h : g.kind = 1 ∨ g.kind = 2) : 0 ≤ s.cellSize g ∧ s.cellSize g ≤ 1536 := by
  obtain ⟨k1, k2, k3, k4⟩ := ok.2 n g hg
  have w16 := ok.1
  unfold MatS.cellSize
  split
  · rename_i g2
    obtain ⟨z1, z2⟩ := k2 g2
    obtain ⟨y1, y2, _⟩ := pagesN_bounds z1 z2 w16
    have p0 : 0 ≤ pagesN s.words g.size * s.words := Int.mul_nonneg (by omega) (by omega)
    have p1 : pagesN s.words g.size * s.words ≤ 6 * 256 := Int.mul_le_mul (by omega) (by omega) (by omega) (by omega)
    omega
  · rename_i g2
    rcases h with h | h
    · have := k1 h
      omega
    · omega
theorem sizeOr_bounds {s : MatS} (ok : s.Ok) (hw : s.words ≤ 256) (a : Int) : 0 ≤ s.sizeOr a ∧ s.sizeOr a ≤ 1536 := by
  unfold MatS.sizeOr MatS.sizeAt
  cases hq : s.at a with
  | none => simp [optV]
  | some nk =>
    obtain ⟨n, k⟩ := nk
    obtain ⟨g, hg⟩ : ∃ g, s.pages[n]? = some g := ⟨_, List.getElem?_eq_getElem (at_lt hq)⟩
    simp only [Option.map_some, hg, optV]
    refine cellSize_bounds ok hw hg ?_
    unfold MatS.at at hq
    split at hq
    · cases hq
    · split at hq
      · cases hq
      · rename_i g' hg'
        cases hc : atCell g' ((a - s.base) % s.words) with
        | none => rw [hc] at hq; cases hq
        | some j =>
          rw [hc] at hq
          simp only [Option.map_some, Option.some.injEq, Prod.mk.injEq] at hq
          rw [hq.1] at hg'
          rw [hg] at hg'
          cases hg'
          unfold atCell at hc
          split at hc
          · rename_i h1; exact .inr h1.1
          · split at hc
            · rename_i h1; exact .inl h1.1
            · cases hc
theorem sumI_bounds (f : Int → Int) (h : ∀ a, 0 ≤ f a ∧ f a ≤ 1536) : ∀ l : List Int, 0 ≤ sumI (l.map f) ∧ sumI (l.map f) ≤ l.length * 1536
  | [] => by simp [sumI]
  | x :: l => by
    have := sumI_bounds f h l
    have := h x
    simp only [List.map_cons, sumI, List.length_cons]
    omega
theorem usedL_bounds {s : MatS} (ok : s.Ok) (hw : s.words ≤ 256) : ∀ k : Nat, 0 ≤ s.usedL k ∧ s.usedL k ≤ k * 393216
  | 0 => by simp [MatS.usedL]
  | k + 1 => by
    have ih := usedL_bounds ok hw k
    have hp : 0 ≤ s.pageUsed k ∧ s.pageUsed k ≤ 393216 := by
      unfold MatS.pageUsed
      split
      · rename_i g hg
        have := sumI_bounds s.sizeOr (sizeOr_bounds ok hw) (s.startsOf k g)
        have := startsOf_len ok hg
        omega
      · omega
    simp only [MatS.usedL]
    omega
theorem startsF_mem {b size : Int} : ∀ {l : List Bool} {j : Nat} {a : Int}, a ∈ startsF b size l j → ∃ k : Nat, j ≤ k ∧ k < j + l.length ∧ a = b + (k : Int) * size
  | [], _, _, h => by simp [startsF] at h
  | u :: l, j, a, h => by
    simp only [startsF] at h
    have key : a ∈ startsF b size l (j + 1) → ∃ k : Nat, j ≤ k ∧ k < j + (u :: l).length ∧ a = b + (k : Int) * size := fun h => by
      obtain ⟨k, h1, h2, h3⟩ := startsF_mem h
      exact ⟨k, by omega, by simp; omega, h3⟩
    split at h
    · rcases List.mem_cons.1 h with rfl | h
      · exact ⟨j, by omega, by simp, rfl⟩
      · exact key h
    · exact key h
theorem startsOf_bounds {s : MatS} (wf : s.WF) (ok : s.Ok) {n : Nat} {g : PageS} (hg : s.pages[n]? = some g) {a : Int} (ha : a ∈ s.startsOf n g) : 0 ≤ a ∧ a ≤ 2097152 := by
  obtain ⟨a1, a2, a3, a4, a5⟩ := wf
  have hn : n < s.pages.length := (List.getElem?_eq_some_iff.1 hg).1
  obtain ⟨k1, k2, k3, k4⟩ := ok.2 n g hg
  have hb0 : 0 ≤ s.begin n ∧ s.begin n ≤ 1048576 + 64 * 256 := by
    unfold MatS.begin
    have : 0 ≤ (n : Int) * s.words := Int.mul_nonneg (by omega) (by omega)
    have : (n : Int) * s.words ≤ 64 * 256 := Int.mul_le_mul (by omega) (by omega) (by omega) (by omega)
    omega
  unfold MatS.startsOf at ha
  split at ha
  · simp at ha
    omega
  · obtain ⟨k, h1, h2, rfl⟩ := startsF_mem ha
    have hz : 4 ≤ g.size ∧ g.size ≤ 96 := by
      by_cases g1 : g.kind = 1
      · exact k1 g1
      · rw [k4 g1] at h2
        simp at h2
    have : 0 ≤ (k : Int) * g.size := Int.mul_nonneg (by omega) (by omega)
    have : (k : Int) * g.size ≤ 256 * 96 := Int.mul_le_mul (by omega) (by omega) (by omega) (by omega)
    omega

set_option maxRecDepth 100000 in
set_option maxHeartbeats 4000000 in
theorem mature_used (p : Nat) (s : MatS) (w : World) (h : Hp) (hw : In w h) (hm : MatureH p s h) (ok : s.Ok) :
    Calls Tryz.prog 61 #[.pointer (some ⟨p, 0, none⟩)] w fun e w' => e = .returned (.int .i64 s.used) ∧ Upd h h w w' := by
  obtain ⟨b, rows, m⟩ := hm.rows
  have hwf := m.2.2.2
  obtain ⟨a1, a2, a3, a4, a5⟩ := hwf
  obtain ⟨c0, c1, c2⟩ := m.cells hw
  have HST := Lib.hid (fun W n g (hW : In W h) (hg : s.pages[n]? = some g) => mature_starts p s n g W h hW hm ok hg)
  have HSZ := Lib.hid (fun W a (hW : In W h) (ha : I64 a) => mature_size p s a W h hW hm ok ha)
  have HUB := Lib.hid (fun k => usedL_bounds ok a4 k)
  have HSB := Lib.hid (fun l => sumI_bounds s.sizeOr (sizeOr_bounds ok a4) l)
  have HOn := Lib.hid (fun n g (hg : s.pages[n]? = some g) => startsOf_len ok hg)
  have HOb := Lib.hid (fun n g (hg : s.pages[n]? = some g) a (ha : a ∈ s.startsOf n g) => startsOf_bounds m.2.2.2 ok hg ha)
  have HSE : Hid (∀ a, s.sizeOr a = optV (s.sizeAt a)) := Lib.hid fun _ => rfl
  have HLS : Hid (∀ k g, s.pages[k]? = some g → s.usedL (k + 1) = s.usedL k + sumI ((s.startsOf k g).map s.sizeOr)) := Lib.hid (by
    intro k g hg
    simp [MatS.usedL, MatS.pageUsed, hg])
  have hres : s.used = s.usedL s.pages.length := rfl
  rw [hres]
  have H0 : Hid (Upd h h w w) := Lib.hid (Upd.refl hw)
  clear hres m hm ok
  go_enter Tryz.func61, Tryz.ntmps61
  go_wp2
  go_loopw [3, 16] (fun v i wr => ∃ k : Nat, k ≤ s.pages.length ∧ i = .int .i64 k ∧ v = .int .i64 (s.usedL k) ∧ Hid (Upd h h w wr)) (fun _ i _ => s.pages.length - (intOf i).toNat)
  case atStart => exact ⟨0, by omega, rfl, rfl, H0⟩
  case round =>
    obtain ⟨k, hk, rfl, rfl, HW⟩ := hrel
    obtain ⟨ub0, ub1⟩ := HUB.out k
    by_cases hlt : k < s.pages.length
    · obtain ⟨g, hg⟩ : ∃ g, s.pages[k]? = some g := ⟨_, List.getElem?_eq_getElem hlt⟩
      have HT := Lib.hid (HLS.out k g hg)
      have hl256 := HOn.out k g hg
      have HOk := Lib.hid (HOb.out k g hg)
      have HSk := Lib.hid (fun W (hW : In W h) => HST.out W k g hW hg)
      clear hg
      generalize hl2 : s.startsOf k g = l2 at *
      generalize hUk : s.usedL k = Uk at *
      clear hl2 hUk
      go_wp2_with (go_at_call 102; refine Calls.mono (HSk.out _ HW.out.inn) ?_; rintro e w2 ⟨v2, h2, rfl, s2, u2⟩; have HU2 := Lib.hid (HW.out.trans u2); obtain ⟨ao2, cap2, rfl, hcap2⟩ := s2.shape; have HS2 := Lib.hid s2; clear s2 u2)
      go_loopw [3, 23] (fun v i wr => ∃ j : Nat, j ≤ l2.length ∧ i = .int .i64 j ∧ v = .int .i64 (Uk + sumI ((l2.take j).map s.sizeOr)) ∧ Hid (Upd h (h2 ++ h) w wr)) (fun _ i _ => l2.length - (intOf i).toNat)
      case atStart => exact ⟨0, by omega, rfl, by simp [sumI], HU2⟩
      case round =>
        obtain ⟨j, hj, rfl, rfl, HJ⟩ := hrel
        obtain ⟨sb0, sb1⟩ := HSB.out (l2.take j)
        have hl4 : (l2.take j).length ≤ j := List.length_take_le _ _
        by_cases hjl : j < l2.length
        · obtain ⟨gb, off, rfl, hcj⟩ := SliceH.intAt (kd := .i64) HS2.out HJ.out.inn.left hjl
          have hmem : l2.getD j 0 ∈ l2 := by simp [List.getD, hjl]
          obtain ⟨o1, o2⟩ := HOk.out _ hmem
          obtain ⟨t0, t1⟩ := HSB.out [l2.getD j 0]
          simp only [List.map_cons, List.map_nil, sumI, List.length_cons, List.length_nil] at t0 t1
          have HN : Hid (sumI ((l2.take (j + 1)).map s.sizeOr) = sumI ((l2.take j).map s.sizeOr) + s.sizeOr (l2.getD j 0)) := Lib.hid (by
            rw [List.take_succ_eq_append_getElem hjl, List.map_append, sumI_append]
            simp [sumI, List.getD, hjl])
          have hsz := HSZ.out wr (l2.getD j 0) HJ.out.inn.right ⟨by omega, by omega⟩
          rw [← HSE.out] at hsz
          clear hmem
          generalize l2.getD j 0 = x at *
          generalize hSx : s.sizeOr x = Sx at *
          generalize hSm : sumI ((l2.take j).map s.sizeOr) = Sm at *
          clear hSx hSm
          go_wp2_with (go_at_call 91; refine Calls.mono hsz ?_; rintro e w5 ⟨rfl, u5⟩; have HU5 := Lib.hid (Upd.onRight HJ.out u5); clear u5 hsz)
          go_roundw
          case rel => exact ⟨j + 1, by omega, by go_num, by rw [HN.out]; go_num, HU5⟩
          case measure => simp [intOf]; omega
        · have HV : Hid (Uk + sumI ((l2.take j).map s.sizeOr) = s.usedL (k + 1)) := Lib.hid (by rw [HT.out, List.take_of_length_le (by omega)])
          have HN : Hid (Upd h h w wr) := Lib.hid (HJ.out.forget (List.sublist_append_right _ _))
          generalize sumI ((l2.take j).map s.sizeOr) = Sm at *
          clear HJ
          go_wp2
          go_roundw
          case rel => exact ⟨k + 1, by omega, by go_num, by rw [← HV.out], HN⟩
          case measure => simp [intOf]; omega
    · obtain rfl : k = s.pages.length := by omega
      go_wp2
      go_ret
      exact ⟨rfl, HW.out⟩

end Go.Proofs.YtjjdjipohifgbaaGreat

/- What place and Move of package core come to. Conditions: a core whose parts are as New makes them. -/
namespace Go.Proofs.YtjjdjipohifgbaaGreat
open Go.RowKit

def CoreS.takeOld (s : CoreS) (n age : Int) : Option (Int × MatS) := if s.C.tenure ≤ age then s.o.take n else none
def CoreS.placeTo (s : CoreS) (n age : Int) : Int := match s.takeOld n age with | some x => x.1 | none => s.y.takeAt n
def CoreS.placed (s : CoreS) (n age : Int) : CoreS := match s.takeOld n age with | some x => { s with o := x.2 } | none => { s with y := s.y.take n }

set_option maxRecDepth 100000 in
set_option maxHeartbeats 1000000 in
theorem core_place (pc : Nat) (L : CoreL) (s : CoreS) (n age : Int) (w : World) (h : Hp) (hi : In w h) (hc : CoreH pc L s h) (h1 : 1 ≤ n) (h2 : n ≤ 66) (h3 : 16 ≤ s.o.words) :
    Calls Tryz.prog 89 #[ptr pc, .int .i64 n, .int .i64 age] w fun e w' => e = .returned (.tuple #[.int .i64 (s.placeTo n age), .bool (s.takeOld n age).isSome]) ∧ ∃ h', CoreH pc L (s.placed n age) h' ∧ Upd h h' w w' := by
  obtain ⟨v, ha, hy, ho, hr, hg, ht, hw, rfl, ca, cy, co, cr, cg, ct, cw⟩ := hc
  have U0 := Upd.refl hi
  obtain ⟨p1, p2, p3, p4, p5, p6⟩ := core_ptrs (In.core (x := []) hi)
  obtain ⟨c0, c1, c2, c3, c4, c5, c6, c7, c8, c9, c10, c11, c12⟩ := core_cfg (In.core (x := []) hi)
  have hpt : ∀ W x, In W (x ++ (coreParts pc (coreObj L s v) ha hy ho hr hg ht hw).flatten) → W.cell? ⟨pc, 14, none⟩ = some (ptr L.py) := fun W x hW => (core_ptrs (In.core hW)).2.1
  clear c0 c1 c2 c3 c4 c5 c6 c8 c9 c10 c11 c12 p1 p4 p5 p6
  have hyt := fun W (hiW : In W hy) => bump_take L.py s.y n W hy hiW cy ⟨by omega, by omega⟩
  by_cases hT : s.C.tenure ≤ age
  · have hmt := fun W (hiW : In W ho) => mature_take L.po s.o n W ho hiW co h1 h2 h3
    have e1 : s.takeOld n age = s.o.take n := by simp [CoreS.takeOld, hT]
    cases hF : s.o.take n with
    | none =>
      have e2 : s.placeTo n age = s.y.takeAt n := by simp [CoreS.placeTo, e1, hF]
      have e3 : s.placed n age = { s with y := s.y.take n } := by simp [CoreS.placed, e1, hF]
      rw [e2, e3, e1, hF]
      rw [hF] at hmt
      simp only [optA, Option.isSome_none, optS] at hmt
      clear e1 e2 e3 hF
      simp only [ptr] at *
      go_enter Tryz.func89, Tryz.ntmps89
      go_wp2_with (first
        | (go_at_call 111; refine Calls.mono (hmt _ (In.old (x := []) hi)) ?_; rintro e w1 ⟨rfl, ho1, co1, u1⟩; have U1 := Upd.old (x := []) U0 u1; have p2' : w1.cell? ⟨pc, 14, none⟩ = some (.pointer (some ⟨L.py, 0, none⟩)) := (core_ptrs (In.core (x := []) U1.inn)).2.1; clear hmt p2 p3 c7)
        | (go_at_call 46; refine Calls.mono (hyt _ (In.young (x := []) U1.inn)) ?_; rintro e w2 ⟨rfl, hy2, cy2, u2⟩; have U2 := Upd.young (x := []) U1 u2))
      go_ret2
      exact ⟨rfl, _, ⟨v, ha, hy2, ho1, hr, hg, ht, hw, rfl, ca, cy2, co1, cr, cg, ct, cw⟩, U2⟩
    | some x =>
      obtain ⟨a, o'⟩ := x
      have e2 : s.placeTo n age = a := by simp [CoreS.placeTo, e1, hF]
      have e3 : s.placed n age = { s with o := o' } := by simp [CoreS.placed, e1, hF]
      rw [e2, e3, e1, hF]
      rw [hF] at hmt
      simp only [optA, Option.isSome_some, optS] at hmt
      clear e1 e2 e3 hF hyt
      simp only [ptr] at *
      go_enter Tryz.func89, Tryz.ntmps89
      go_wp2_with (go_at_call 111; refine Calls.mono (hmt _ (In.old (x := []) hi)) ?_; rintro e w1 ⟨rfl, ho1, co1, u1⟩; have U1 := Upd.old (x := []) U0 u1; clear hmt p2 p3 c7)
      go_ret2
      exact ⟨rfl, _, ⟨v, ha, hy, ho1, hr, hg, ht, hw, rfl, ca, cy, co1, cr, cg, ct, cw⟩, U1⟩
  · have e1 : s.takeOld n age = none := by simp [CoreS.takeOld, hT]
    have e2 : s.placeTo n age = s.y.takeAt n := by simp [CoreS.placeTo, e1]
    have e3 : s.placed n age = { s with y := s.y.take n } := by simp [CoreS.placed, e1]
    rw [e2, e3, e1]
    clear e1 e2 e3
    simp only [ptr] at *
    go_enter Tryz.func89, Tryz.ntmps89
    go_wp2_with (go_at_call 46; refine Calls.mono (hyt _ (In.young (x := []) U0.inn)) ?_; rintro e w2 ⟨rfl, hy2, cy2, u2⟩; have U2 := Upd.young (x := []) U0 u2)
    go_ret2
    exact ⟨rfl, _, ⟨v, ha, hy2, ho, hr, hg, ht, hw, rfl, ca, cy2, co, cr, cg, ct, cw⟩, U2⟩


def CoreS.mvAge (s : CoreS) (a : Int) : Int := min ((headS s.ws a).age + 1) 7
def CoreS.mvTo (s : CoreS) (a : Int) : Int := s.placeTo (headS s.ws a).words (s.mvAge a)
def CoreS.mvOld (s : CoreS) (a : Int) : Bool := (s.takeOld (headS s.ws a).words (s.mvAge a)).isSome
def CoreS.mvHd (s : CoreS) (a : Int) : Hd :=
  if s.phase = 1 then { headS s.ws a with age := s.mvAge a, old := s.mvOld a } else { headS s.ws a with age := s.mvAge a, old := s.mvOld a, parity := s.parity, grey := false }
/-- the core behind the move of an object out of the half that is emptied -/
def CoreS.moved (s : CoreS) (a : Int) : CoreS :=
  { s.placed (headS s.ws a).words (s.mvAge a) with
    ws := objMoveW s.ws a (s.mvTo a) (s.mvHd a)
    copied := wrap64 (s.copied + (headS s.ws a).words)
    done := if s.mvOld a then { s.done with promoted := wrap64 (s.done.promoted + (headS s.ws a).words) } else s.done
    row := if s.mvOld a then s.row ++ [s.mvTo a] else s.row }
def CoreS.move (s : CoreS) (a : Int) : CoreS := if a = 0 ∨ s.y.isFrom a = false then s else if s.now a = a then s.moved a else s
def CoreS.moveV (s : CoreS) (a : Int) : Int := if a = 0 ∨ s.y.isFrom a = false then a else if s.now a = a then s.mvTo a else s.now a

theorem placed_same (s : CoreS) (n g : Int) : (s.placed n g).phase = s.phase ∧ (s.placed n g).parity = s.parity ∧ (s.placed n g).ws = s.ws ∧ (s.placed n g).copied = s.copied ∧ (s.placed n g).row = s.row ∧ (s.placed n g).done = s.done := by
  unfold CoreS.placed
  split <;> exact ⟨rfl, rfl, rfl, rfl, rfl, rfl⟩

set_option maxRecDepth 100000 in
set_option maxHeartbeats 4000000 in
theorem core_moved (pc : Nat) (L : CoreL) (s : CoreS) (a : Int) (w : World) (h : Hp) (hi : In w h) (hc : CoreH pc L s h) (hb : I64 a) (h0 : a ≠ 0) (hf : s.y.isFrom a = true) (hn : s.now a = a) (h3 : 16 ≤ s.o.words) (hpar : s.parity = 0 ∨ s.parity = 1) (hrow : s.row.length ≤ 1000000) (hto : I64 (s.mvTo a)) :
    Calls Tryz.prog 53 #[ptr pc, .int .i64 a] w fun e w' => e = .returned (.int .i64 (s.mvTo a)) ∧ ∃ h', CoreH pc L (s.moved a) h' ∧ Upd h h' w w' := by
  have hq : (a == 0) = false := by simpa using h0
  have U0 := Upd.refl hi
  have hnow := fun W h (hW : In W h) (hc : CoreH pc L s h) => core_now pc L s a W h hW hc hb
  rw [hn] at hnow
  have hhd := fun W h (hW : In W h) (hc : CoreH pc L s h) => core_head pc L s a W h hW hc
  have hG : (headS s.ws a).Good := unH_good _
  obtain ⟨g1, g2, g3, g4, g5, g6, g7⟩ := hG
  obtain ⟨n, hnw⟩ : ∃ n, n = (headS s.ws a).words := ⟨_, rfl⟩
  have hnn : n = (headS s.ws a).size + 2 := hnw
  obtain ⟨A, hA⟩ : ∃ A, A = s.mvAge a := ⟨_, rfl⟩
  have hA1 : A = min ((headS s.ws a).age + 1) 7 := hA
  obtain ⟨T, hT⟩ : ∃ T, T = s.mvTo a := ⟨_, rfl⟩
  obtain ⟨B, hB⟩ : ∃ B, B = s.mvOld a := ⟨_, rfl⟩
  have hT1 : T = s.placeTo n A := by rw [hT, hA, hnw]; rfl
  have hB1 : B = (s.takeOld n A).isSome := by rw [hB, hA, hnw]; rfl
  have hpl := fun W h (hW : In W h) (hc : CoreH pc L s h) => core_place pc L s n A W h hW hc (by omega) (by omega) h3
  rw [← hT1, ← hB1] at hpl
  obtain ⟨s1, hs1⟩ : ∃ s1, s1 = s.placed n A := ⟨_, rfl⟩
  rw [← hs1] at hpl
  obtain ⟨e1, e2, e3, e4, e5, e6⟩ := placed_same s n A
  rw [← hs1] at e1 e2 e3 e4 e5 e6
  obtain ⟨X, hX⟩ : ∃ X, X = s.mvHd a := ⟨_, rfl⟩
  have hX1 : X = if s.phase = 1 then { headS s.ws a with age := A, old := B } else { headS s.ws a with age := A, old := B, parity := s.parity, grey := false } := by rw [hX, hA, hB]; rfl
  have hmv : s.moved a = { s1 with ws := objMoveW s.ws a T X, copied := wrap64 (s.copied + n), done := if B then { s.done with promoted := wrap64 (s.done.promoted + n) } else s.done, row := if B then s.row ++ [T] else s.row } := by
    rw [hs1, hT, hX, hB, hnw, hA]
    rfl
  rw [hmv, ← hT]
  rw [← hT] at hto
  generalize hH : headS s.ws a = H at *
  have hwx : ∀ W, Calls Tryz.prog 44 #[.agg (hdCells { H with age := A })] W fun e w' => e = .returned (.int .i64 n) ∧ Upd [] [] W w' := fun W => by
    have := obj_words { H with age := A } ⟨g1, g2, g3, g4, by show 0 ≤ A; omega, by show A ≤ 7; omega, g7⟩ W
    rw [hnw]
    exact this
  have hom := fun W h (hW : In W h) (hg : X.Good) (ha : ArenaH L.pa s.ws h) => obj_move L.pa s.ws a T X hg W h hW ha
  obtain ⟨x1, x2, x3, x4, x5, x6, x7⟩ := H
  simp only at g1 g2 g3 g4 g5 g6 g7 hnn hA1
  have hst : ∃ v ha hy ho hr hg ht hw, h = (coreParts pc (coreObj L s v) ha hy ho hr hg ht hw).flatten ∧ YoungH L.py s.y hy := by
    obtain ⟨v, ha, hy, ho, hr, hg, ht, hw, rfl, ca, cy, co, cr, cg, ct, cw⟩ := hc
    exact ⟨v, ha, hy, ho, hr, hg, ht, hw, rfl, cy⟩
  obtain ⟨v0, ha0, hy0, ho0, hr0, hg0, ht0, hw0, hh0, cy0⟩ := hst
  have hfrom := bump_from L.py s.y a w hy0 (by rw [hh0] at hi; exact In.young (x := []) hi) cy0 hb
  rw [hf] at hfrom
  have p2 : w.cell? ⟨pc, 14, none⟩ = some (ptr L.py) := by rw [hh0] at hi; exact (core_ptrs (In.core (x := []) hi)).2.1
  have HFr : Hid (∀ w1, Upd hy0 hy0 w w1 → Upd h h w w1) := Lib.hid (by
    intro w1 u1
    rw [hh0] at hi ⊢
    exact Upd.young (x := []) (Upd.refl hi) u1)
  clear hh0 cy0 h0 hf hn hA hnw hT hB hT1 hB1 hmv hX hs1 h3 U0
  have HE1 := Lib.hid e1
  have HE2 := Lib.hid e2
  have HE3 := Lib.hid e3
  have HE4 := Lib.hid e4
  have HE5 := Lib.hid e5
  have HE6 := Lib.hid e6
  have HX := Lib.hid hX1
  have HH := Lib.hid hH
  clear e1 e2 e3 e4 e5 e6 hX1 hH
  have HOM := Lib.hid hom
  have HPL := Lib.hid hpl
  have HHD := Lib.hid hhd
  have HNW := Lib.hid hnow
  have HC0 := Lib.hid hc
  have HI0 := Lib.hid hi
  have hrow2 : s.row.length ≤ 1000000 := hrow
  clear hom hpl hhd hnow hc hi
  simp only [hdCells] at *
  simp only [ptr] at *
  have hn2 : 2 ≤ n := by omega
  have hn66 : n ≤ 66 := by omega
  clear hnn
  have hage : (x3 ≤ 6 ∧ A = x3 + 1) ∨ (x3 = 7 ∧ A = 7) := by omega
  clear hA1
  rcases hage with ⟨hx, rfl⟩ | ⟨rfl, rfl⟩
  · by_cases hp : s.phase = 1
    · have hq2 : s.phase = 1 := hp
      have HX2 : Hid (X = ⟨x1, x2, (x3 + 1), x4, x5, x6, B⟩) := Lib.hid (by rw [HX.out, if_pos hq2])
      rw [hp] at HE1
      have XG : Hid X.Good := Lib.hid (by rw [HX2.out]; exact ⟨g1, g2, g3, g4, by show (0 : Int) ≤ (x3 + 1); omega, by show ((x3 + 1) : Int) ≤ 7; omega, g7⟩)
      clear hq2 hp HX
      have HX3 := HX2.out
      clear HX2
      subst HX3
      simp only [hdCells] at HOM
      clear hpar g7
      cases B
      · simp only [Bool.false_eq_true, if_false, if_true]
        rw [← HE5.out, ← HE6.out]
        go_enter Tryz.func53, Tryz.ntmps53
        go_wp2_with (first
        | (go_at_call 23; refine Calls.mono hfrom ?_; rintro e w1 ⟨rfl, u1⟩; have U1 := Lib.hid (HFr.out _ u1); clear hfrom u1 p2)
        | (go_at_call 24; refine Calls.mono (HNW.out _ _ U1.out.inn HC0.out) ?_; rintro e w2 ⟨rfl, h2, c2, u2⟩; have U2 := Lib.hid (U1.out.trans u2); have C2 := Lib.hid c2; clear u2 c2)
        | (go_at_call 87; refine Calls.mono (HHD.out _ _ U2.out.inn C2.out) ?_; rintro e w3 ⟨rfl, h3, c3, u3⟩; have hpb : pc < w3.heap.size := World.block_lt_of_cell? _ _ (CoreH.ptrs (x := []) c3 u3.inn).1; have U3 := Lib.hid ((U2.out.trans u3).alloc' (.cells #[.int .i64 x1, .int .i64 x2, .int .i64 (x3 + 1), .int .i64 x4, .bool x5, .bool x6, .bool x7] 65 (0, 0))); have C3 := Lib.hid c3; clear u3 c3)
        | (go_at_call 44; refine Calls.mono (hwx _) ?_; rintro e w4 ⟨rfl, u4⟩; have U4 := Lib.hid (U3.out.under0 u4); have by2 := cell_of U4.out.inn.head 2; simp only [List.getElem?_toArray, List.getElem?_cons_succ, List.getElem?_cons_zero] at by2; clear u4)
        | (go_at_call 89; refine Calls.mono (HPL.out _ _ U4.out.inn.tail C3.out) ?_; rintro e w5 ⟨rfl, h5, ⟨v5, ha5, hy5, ho5, hr5, hg5, ht5, hw5, rfl, ca5, cy5, co5, cr5, cg5, ct5, cw5⟩, u5⟩; have U5 := Lib.hid (U4.out.under u5);
            have bx0 := cell_of U5.out.inn.head 0; have bx1 := cell_of U5.out.inn.head 1; have bx2 := cell_of U5.out.inn.head 2; have bx3 := cell_of U5.out.inn.head 3; have bx4 := cell_of U5.out.inn.head 4; have bx5 := cell_of U5.out.inn.head 5; have bx6 := cell_of U5.out.inn.head 6;
            have fb3 := frozen_of U5.out.inn.head 3; have fb4 := frozen_of U5.out.inn.head 4; have fb6 := frozen_of U5.out.inn.head 6;
            obtain ⟨r1, r2, r3, r4, r5, r6⟩ := core_vars (In.core (x := [_]) U5.out.inn); rw [HE1.out] at r2; rw [HE2.out] at r1; rw [HE4.out] at r5; clear r3 r4 r6; clear u5;
            have pa5 := (core_ptrs (In.core (x := [_]) U5.out.inn)).1; simp only [ptr] at pa5;
            simp only [List.getElem?_toArray, List.getElem?_cons_succ, List.getElem?_cons_zero] at bx0 bx1 bx2 bx3 bx4 bx5 bx6; clear by2))
        have U7 : Upd h ((w3.heap.size, .cells #[.int .i64 x1, .int .i64 x2, .int .i64 (x3 + 1), .int .i64 x4, .bool x5, .bool x6, .bool false] 65 (0, 0)) :: (coreParts pc (coreObj L s1 v5) ha5 hy5 ho5 hr5 hg5 ht5 hw5).flatten) w (w5.setCell ⟨w3.heap.size, 6, none⟩ (.bool false)).drew := (U5.out.store1 6 (.bool false)).drew'
        generalize w3.heap.size = lb at *
        refine wp_tail 7 (by kernel_rfl) (by kernel_rfl) fun w7 hw7 => ?_
        subst hw7
        generalize (w5.setCell ⟨w3.heap.size, 6, none⟩ (.bool false)).drew = w7 at *
        have z0 := cell_of U7.inn.head 0
        have z1 := cell_of U7.inn.head 1
        have z2 := cell_of U7.inn.head 2
        have z3 := cell_of U7.inn.head 3
        have z4 := cell_of U7.inn.head 4
        have z5 := cell_of U7.inn.head 5
        have z6 := cell_of U7.inn.head 6
        simp only [List.getElem?_toArray, List.getElem?_cons_succ, List.getElem?_cons_zero] at z0 z1 z2 z3 z4 z5 z6
        have pa7 := (core_ptrs (In.core (x := [_]) U7.inn)).1
        simp only [ptr] at pa7
        have HU7 := Lib.hid U7
        clear U7 bx0 bx1 bx2 bx3 bx4 bx5 bx6 fb3 fb4 fb6 r1 r2 r5 pa5
        simp only [List.take_succ_cons, List.take_zero, List.drop_succ_cons, List.drop_zero]
        repeat (refine wpStill_step (fun K hK => ?_); have HK := Lib.hid hK; clear hK; go_simp; refine HK.out _ ?_; clear HK K)
        refine wpStill_nil ?_
        go_wp2_with (first
          | (go_at_call 90; refine Calls.mono (HOM.out _ _ (In.arena (x := [_]) HU7.out.inn) XG.out (by first | exact ca5 | (rw [HE3.out] at ca5; exact ca5))) ?_; rintro e w8 ⟨rfl, ha8, ca8, u8⟩; have U8 := Lib.hid (Upd.arena (x := [_]) HU7.out u8);
              have k23 := core_cell (In.core (x := [_]) U8.out.inn) 23; have k25 := core_cell (In.core (x := [_]) U8.out.inn) 25; have k28 := core_cell (In.core (x := [_]) U8.out.inn) 28;
              have y23 := core_frozen (In.core (x := [_]) U8.out.inn) 23; have y25 := core_frozen (In.core (x := [_]) U8.out.inn) 25; have y28 := core_frozen (In.core (x := [_]) U8.out.inn) 28;
              simp only [coreCells, List.getElem?_toArray, List.getElem?_cons_succ, List.getElem?_cons_zero, HE4.out] at k23 k25 k28; clear u8 z0 z1 z2 z3 z4 z5 z6 pa7))
        have U9 := Upd.cset_copied (x := [_]) U8.out (wrap64 (s.copied + n))
        go_ret
        exact ⟨rfl, _, ⟨v5, ha8, hy5, ho5, hr5, hg5, ht5, hw5, rfl, ca8, cy5, co5, cr5, cg5, ct5, cw5⟩, U9.drop1⟩
      · simp only [Bool.false_eq_true, if_false, if_true]
        rw [← HE5.out, ← HE6.out]
        go_enter Tryz.func53, Tryz.ntmps53
        go_wp2_with (first
        | (go_at_call 23; refine Calls.mono hfrom ?_; rintro e w1 ⟨rfl, u1⟩; have U1 := Lib.hid (HFr.out _ u1); clear hfrom u1 p2)
        | (go_at_call 24; refine Calls.mono (HNW.out _ _ U1.out.inn HC0.out) ?_; rintro e w2 ⟨rfl, h2, c2, u2⟩; have U2 := Lib.hid (U1.out.trans u2); have C2 := Lib.hid c2; clear u2 c2)
        | (go_at_call 87; refine Calls.mono (HHD.out _ _ U2.out.inn C2.out) ?_; rintro e w3 ⟨rfl, h3, c3, u3⟩; have hpb : pc < w3.heap.size := World.block_lt_of_cell? _ _ (CoreH.ptrs (x := []) c3 u3.inn).1; have U3 := Lib.hid ((U2.out.trans u3).alloc' (.cells #[.int .i64 x1, .int .i64 x2, .int .i64 (x3 + 1), .int .i64 x4, .bool x5, .bool x6, .bool x7] 65 (0, 0))); have C3 := Lib.hid c3; clear u3 c3)
        | (go_at_call 44; refine Calls.mono (hwx _) ?_; rintro e w4 ⟨rfl, u4⟩; have U4 := Lib.hid (U3.out.under0 u4); have by2 := cell_of U4.out.inn.head 2; simp only [List.getElem?_toArray, List.getElem?_cons_succ, List.getElem?_cons_zero] at by2; clear u4)
        | (go_at_call 89; refine Calls.mono (HPL.out _ _ U4.out.inn.tail C3.out) ?_; rintro e w5 ⟨rfl, h5, ⟨v5, ha5, hy5, ho5, hr5, hg5, ht5, hw5, rfl, ca5, cy5, co5, cr5, cg5, ct5, cw5⟩, u5⟩; have U5 := Lib.hid (U4.out.under u5);
            have bx0 := cell_of U5.out.inn.head 0; have bx1 := cell_of U5.out.inn.head 1; have bx2 := cell_of U5.out.inn.head 2; have bx3 := cell_of U5.out.inn.head 3; have bx4 := cell_of U5.out.inn.head 4; have bx5 := cell_of U5.out.inn.head 5; have bx6 := cell_of U5.out.inn.head 6;
            have fb3 := frozen_of U5.out.inn.head 3; have fb4 := frozen_of U5.out.inn.head 4; have fb6 := frozen_of U5.out.inn.head 6;
            obtain ⟨r1, r2, r3, r4, r5, r6⟩ := core_vars (In.core (x := [_]) U5.out.inn); rw [HE1.out] at r2; rw [HE2.out] at r1; rw [HE4.out] at r5; clear r3 r4 r6; clear u5;
            have pa5 := (core_ptrs (In.core (x := [_]) U5.out.inn)).1; simp only [ptr] at pa5;
            simp only [List.getElem?_toArray, List.getElem?_cons_succ, List.getElem?_cons_zero] at bx0 bx1 bx2 bx3 bx4 bx5 bx6; clear by2))
        have U7 : Upd h ((w3.heap.size, .cells #[.int .i64 x1, .int .i64 x2, .int .i64 (x3 + 1), .int .i64 x4, .bool x5, .bool x6, .bool true] 65 (0, 0)) :: (coreParts pc (coreObj L s1 v5) ha5 hy5 ho5 hr5 hg5 ht5 hw5).flatten) w (w5.setCell ⟨w3.heap.size, 6, none⟩ (.bool true)).drew := (U5.out.store1 6 (.bool true)).drew'
        generalize w3.heap.size = lb at *
        refine wp_tail 7 (by kernel_rfl) (by kernel_rfl) fun w7 hw7 => ?_
        subst hw7
        generalize (w5.setCell ⟨w3.heap.size, 6, none⟩ (.bool true)).drew = w7 at *
        have z0 := cell_of U7.inn.head 0
        have z1 := cell_of U7.inn.head 1
        have z2 := cell_of U7.inn.head 2
        have z3 := cell_of U7.inn.head 3
        have z4 := cell_of U7.inn.head 4
        have z5 := cell_of U7.inn.head 5
        have z6 := cell_of U7.inn.head 6
        simp only [List.getElem?_toArray, List.getElem?_cons_succ, List.getElem?_cons_zero] at z0 z1 z2 z3 z4 z5 z6
        have pa7 := (core_ptrs (In.core (x := [_]) U7.inn)).1
        simp only [ptr] at pa7
        have HU7 := Lib.hid U7
        clear U7 bx0 bx1 bx2 bx3 bx4 bx5 bx6 fb3 fb4 fb6 r1 r2 r5 pa5
        simp only [List.take_succ_cons, List.take_zero, List.drop_succ_cons, List.drop_zero]
        repeat (refine wpStill_step (fun K hK => ?_); have HK := Lib.hid hK; clear hK; go_simp; refine HK.out _ ?_; clear HK K)
        refine wpStill_nil ?_
        go_wp2_with (first
          | (go_at_call 90; refine Calls.mono (HOM.out _ _ (In.arena (x := [_]) HU7.out.inn) XG.out (by first | exact ca5 | (rw [HE3.out] at ca5; exact ca5))) ?_; rintro e w8 ⟨rfl, ha8, ca8, u8⟩; have U8 := Lib.hid (Upd.arena (x := [_]) HU7.out u8);
              have k23 := core_cell (In.core (x := [_]) U8.out.inn) 23; have k25 := core_cell (In.core (x := [_]) U8.out.inn) 25; have k28 := core_cell (In.core (x := [_]) U8.out.inn) 28;
              have y23 := core_frozen (In.core (x := [_]) U8.out.inn) 23; have y25 := core_frozen (In.core (x := [_]) U8.out.inn) 25; have y28 := core_frozen (In.core (x := [_]) U8.out.inn) 28;
              simp only [coreCells, List.getElem?_toArray, List.getElem?_cons_succ, List.getElem?_cons_zero, HE4.out] at k23 k25 k28; clear u8 z0 z1 z2 z3 z4 z5 z6 pa7)
          | (at_builtin; (have UX := Lib.hid ((Upd.cset_promoted (x := [_]) (Upd.cset_copied (x := [_]) U8.out (wrap64 (s.copied + n))) (wrap64 (s1.done.promoted + n))).skip' (.cells #[.int .i64 T] 3 (0, 0)))); (obtain ⟨aoR, capR, hvR, hcR⟩ := cw5.shape); subst hvR; (have HNR := Lib.hid (news_of (news := [.int .i64 T]) (w := (((w8.setCell ⟨pc, 23, none⟩ (.int .i64 (wrap64 (s.copied + n)))).setCell ⟨pc, 28, none⟩ (.int .i64 (wrap64 (s1.done.promoted + n)))).alloc (.cells #[.int .i64 T] 3 (0, 0)))) (b := w8.heap.size) (T := 3) (fr := (0, 0)) (heap_alloc_at (by simp)))); refine wpList_append_mine rfl (.tmp 95) (.tmp 97) 42 rfl 3 1 8 (.int .i64 0) Tryz.underlying42 Tryz.infoInt rfl (by decide) (.slice aoR s1.row.length capR) s1.row.length (ints s1.row) hw5 rfl cw5 (In.rows (x := [_]) UX.out.inn) ⟨w8.heap.size, 0, none⟩ 1 1 [.int .i64 T] rfl HNR.out rfl (by intro u hu; simp at hu; subst hu; rfl) (Or.inl (by decide)) (by rw [HE5.out]; unfold maxLen; omega) (by rw [HE5.out]; omega) ?_; intro v' w5' hX' hS' hU'; (obtain ⟨ao', cap', hve, _⟩ := hS'.shape); subst hve; have UY := Lib.hid (Upd.rows (x := [_]) UX.out hU'); have SX := Lib.hid hS'; have yy := core_frozen (In.core (x := [_]) UY.out.inn) 25; have kk := core_cell (In.core (x := [_]) UY.out.inn) 25; simp only [coreCells, List.getElem?_toArray, List.getElem?_cons_succ, List.getElem?_cons_zero] at kk; clear hS' hU'))
        have U12 := Upd.core (x := [_]) UY.out 25 (.slice ao' (s1.row.length + 1) cap')
        go_ret
        refine ⟨rfl, _, ⟨.slice ao' (s1.row.length + 1) cap', ha8, hy5, ho5, hr5, hg5, ht5, hX', rfl, ca8, cy5, co5, cr5, cg5, ct5, ?_⟩, (U12.drop1 : _)⟩
        have := SX.out
        simpa [ints] using this
    · have hq2 : (s.phase != 1) = true := by simpa using hp
      have HX2 : Hid (X = ⟨x1, x2, (x3 + 1), s.parity, false, x6, B⟩) := Lib.hid (by rw [HX.out, if_neg hp])
      have XG : Hid X.Good := Lib.hid (by rw [HX2.out]; exact ⟨g1, g2, g3, g4, by show (0 : Int) ≤ (x3 + 1); omega, by show ((x3 + 1) : Int) ≤ 7; omega, hpar⟩)
      clear hp HX
      have HX3 := HX2.out
      clear HX2
      subst HX3
      simp only [hdCells] at HOM
      clear hpar g7
      cases B
      · simp only [Bool.false_eq_true, if_false, if_true]
        rw [← HE5.out, ← HE6.out]
        go_enter Tryz.func53, Tryz.ntmps53
        go_wp2_with (first
        | (go_at_call 23; refine Calls.mono hfrom ?_; rintro e w1 ⟨rfl, u1⟩; have U1 := Lib.hid (HFr.out _ u1); clear hfrom u1 p2)
        | (go_at_call 24; refine Calls.mono (HNW.out _ _ U1.out.inn HC0.out) ?_; rintro e w2 ⟨rfl, h2, c2, u2⟩; have U2 := Lib.hid (U1.out.trans u2); have C2 := Lib.hid c2; clear u2 c2)
        | (go_at_call 87; refine Calls.mono (HHD.out _ _ U2.out.inn C2.out) ?_; rintro e w3 ⟨rfl, h3, c3, u3⟩; have hpb : pc < w3.heap.size := World.block_lt_of_cell? _ _ (CoreH.ptrs (x := []) c3 u3.inn).1; have U3 := Lib.hid ((U2.out.trans u3).alloc' (.cells #[.int .i64 x1, .int .i64 x2, .int .i64 (x3 + 1), .int .i64 x4, .bool x5, .bool x6, .bool x7] 65 (0, 0))); have C3 := Lib.hid c3; clear u3 c3)
        | (go_at_call 44; refine Calls.mono (hwx _) ?_; rintro e w4 ⟨rfl, u4⟩; have U4 := Lib.hid (U3.out.under0 u4); have by2 := cell_of U4.out.inn.head 2; simp only [List.getElem?_toArray, List.getElem?_cons_succ, List.getElem?_cons_zero] at by2; clear u4)
        | (go_at_call 89; refine Calls.mono (HPL.out _ _ U4.out.inn.tail C3.out) ?_; rintro e w5 ⟨rfl, h5, ⟨v5, ha5, hy5, ho5, hr5, hg5, ht5, hw5, rfl, ca5, cy5, co5, cr5, cg5, ct5, cw5⟩, u5⟩; have U5 := Lib.hid (U4.out.under u5);
            have bx0 := cell_of U5.out.inn.head 0; have bx1 := cell_of U5.out.inn.head 1; have bx2 := cell_of U5.out.inn.head 2; have bx3 := cell_of U5.out.inn.head 3; have bx4 := cell_of U5.out.inn.head 4; have bx5 := cell_of U5.out.inn.head 5; have bx6 := cell_of U5.out.inn.head 6;
            have fb3 := frozen_of U5.out.inn.head 3; have fb4 := frozen_of U5.out.inn.head 4; have fb6 := frozen_of U5.out.inn.head 6;
            obtain ⟨r1, r2, r3, r4, r5, r6⟩ := core_vars (In.core (x := [_]) U5.out.inn); rw [HE1.out] at r2; rw [HE2.out] at r1; rw [HE4.out] at r5; clear r3 r4 r6; clear u5;
            have pa5 := (core_ptrs (In.core (x := [_]) U5.out.inn)).1; simp only [ptr] at pa5;
            simp only [List.getElem?_toArray, List.getElem?_cons_succ, List.getElem?_cons_zero] at bx0 bx1 bx2 bx3 bx4 bx5 bx6; clear by2))
        have U7 : Upd h ((w3.heap.size, .cells #[.int .i64 x1, .int .i64 x2, .int .i64 (x3 + 1), .int .i64 s.parity, .bool false, .bool x6, .bool false] 65 (0, 0)) :: (coreParts pc (coreObj L s1 v5) ha5 hy5 ho5 hr5 hg5 ht5 hw5).flatten) w (((w5.setCell ⟨w3.heap.size, 6, none⟩ (.bool false)).setCell ⟨w3.heap.size, 3, none⟩ (.int .i64 s.parity)).setCell ⟨w3.heap.size, 4, none⟩ (.bool false)).drew := (((U5.out.store1 6 (.bool false)).store1 3 (.int .i64 s.parity)).store1 4 (.bool false)).drew'
        generalize w3.heap.size = lb at *
        refine wp_tail 7 (by kernel_rfl) (by kernel_rfl) fun w7 hw7 => ?_
        subst hw7
        generalize (((w5.setCell ⟨w3.heap.size, 6, none⟩ (.bool false)).setCell ⟨w3.heap.size, 3, none⟩ (.int .i64 s.parity)).setCell ⟨w3.heap.size, 4, none⟩ (.bool false)).drew = w7 at *
        have z0 := cell_of U7.inn.head 0
        have z1 := cell_of U7.inn.head 1
        have z2 := cell_of U7.inn.head 2
        have z3 := cell_of U7.inn.head 3
        have z4 := cell_of U7.inn.head 4
        have z5 := cell_of U7.inn.head 5
        have z6 := cell_of U7.inn.head 6
        simp only [List.getElem?_toArray, List.getElem?_cons_succ, List.getElem?_cons_zero] at z0 z1 z2 z3 z4 z5 z6
        have pa7 := (core_ptrs (In.core (x := [_]) U7.inn)).1
        simp only [ptr] at pa7
        have HU7 := Lib.hid U7
        clear U7 bx0 bx1 bx2 bx3 bx4 bx5 bx6 fb3 fb4 fb6 r1 r2 r5 pa5
        simp only [List.take_succ_cons, List.take_zero, List.drop_succ_cons, List.drop_zero]
        repeat (refine wpStill_step (fun K hK => ?_); have HK := Lib.hid hK; clear hK; go_simp; refine HK.out _ ?_; clear HK K)
        refine wpStill_nil ?_
        go_wp2_with (first
          | (go_at_call 90; refine Calls.mono (HOM.out _ _ (In.arena (x := [_]) HU7.out.inn) XG.out (by first | exact ca5 | (rw [HE3.out] at ca5; exact ca5))) ?_; rintro e w8 ⟨rfl, ha8, ca8, u8⟩; have U8 := Lib.hid (Upd.arena (x := [_]) HU7.out u8);
              have k23 := core_cell (In.core (x := [_]) U8.out.inn) 23; have k25 := core_cell (In.core (x := [_]) U8.out.inn) 25; have k28 := core_cell (In.core (x := [_]) U8.out.inn) 28;
              have y23 := core_frozen (In.core (x := [_]) U8.out.inn) 23; have y25 := core_frozen (In.core (x := [_]) U8.out.inn) 25; have y28 := core_frozen (In.core (x := [_]) U8.out.inn) 28;
              simp only [coreCells, List.getElem?_toArray, List.getElem?_cons_succ, List.getElem?_cons_zero, HE4.out] at k23 k25 k28; clear u8 z0 z1 z2 z3 z4 z5 z6 pa7))
        have U9 := Upd.cset_copied (x := [_]) U8.out (wrap64 (s.copied + n))
        go_ret
        exact ⟨rfl, _, ⟨v5, ha8, hy5, ho5, hr5, hg5, ht5, hw5, rfl, ca8, cy5, co5, cr5, cg5, ct5, cw5⟩, U9.drop1⟩
      · simp only [Bool.false_eq_true, if_false, if_true]
        rw [← HE5.out, ← HE6.out]
        go_enter Tryz.func53, Tryz.ntmps53
        go_wp2_with (first
        | (go_at_call 23; refine Calls.mono hfrom ?_; rintro e w1 ⟨rfl, u1⟩; have U1 := Lib.hid (HFr.out _ u1); clear hfrom u1 p2)
        | (go_at_call 24; refine Calls.mono (HNW.out _ _ U1.out.inn HC0.out) ?_; rintro e w2 ⟨rfl, h2, c2, u2⟩; have U2 := Lib.hid (U1.out.trans u2); have C2 := Lib.hid c2; clear u2 c2)
        | (go_at_call 87; refine Calls.mono (HHD.out _ _ U2.out.inn C2.out) ?_; rintro e w3 ⟨rfl, h3, c3, u3⟩; have hpb : pc < w3.heap.size := World.block_lt_of_cell? _ _ (CoreH.ptrs (x := []) c3 u3.inn).1; have U3 := Lib.hid ((U2.out.trans u3).alloc' (.cells #[.int .i64 x1, .int .i64 x2, .int .i64 (x3 + 1), .int .i64 x4, .bool x5, .bool x6, .bool x7] 65 (0, 0))); have C3 := Lib.hid c3; clear u3 c3)
        | (go_at_call 44; refine Calls.mono (hwx _) ?_; rintro e w4 ⟨rfl, u4⟩; have U4 := Lib.hid (U3.out.under0 u4); have by2 := cell_of U4.out.inn.head 2; simp only [List.getElem?_toArray, List.getElem?_cons_succ, List.getElem?_cons_zero] at by2; clear u4)
        | (go_at_call 89; refine Calls.mono (HPL.out _ _ U4.out.inn.tail C3.out) ?_; rintro e w5 ⟨rfl, h5, ⟨v5, ha5, hy5, ho5, hr5, hg5, ht5, hw5, rfl, ca5, cy5, co5, cr5, cg5, ct5, cw5⟩, u5⟩; have U5 := Lib.hid (U4.out.under u5);
            have bx0 := cell_of U5.out.inn.head 0; have bx1 := cell_of U5.out.inn.head 1; have bx2 := cell_of U5.out.inn.head 2; have bx3 := cell_of U5.out.inn.head 3; have bx4 := cell_of U5.out.inn.head 4; have bx5 := cell_of U5.out.inn.head 5; have bx6 := cell_of U5.out.inn.head 6;
            have fb3 := frozen_of U5.out.inn.head 3; have fb4 := frozen_of U5.out.inn.head 4; have fb6 := frozen_of U5.out.inn.head 6;
            obtain ⟨r1, r2, r3, r4, r5, r6⟩ := core_vars (In.core (x := [_]) U5.out.inn); rw [HE1.out] at r2; rw [HE2.out] at r1; rw [HE4.out] at r5; clear r3 r4 r6; clear u5;
            have pa5 := (core_ptrs (In.core (x := [_]) U5.out.inn)).1; simp only [ptr] at pa5;
            simp only [List.getElem?_toArray, List.getElem?_cons_succ, List.getElem?_cons_zero] at bx0 bx1 bx2 bx3 bx4 bx5 bx6; clear by2))
        have U7 : Upd h ((w3.heap.size, .cells #[.int .i64 x1, .int .i64 x2, .int .i64 (x3 + 1), .int .i64 s.parity, .bool false, .bool x6, .bool true] 65 (0, 0)) :: (coreParts pc (coreObj L s1 v5) ha5 hy5 ho5 hr5 hg5 ht5 hw5).flatten) w (((w5.setCell ⟨w3.heap.size, 6, none⟩ (.bool true)).setCell ⟨w3.heap.size, 3, none⟩ (.int .i64 s.parity)).setCell ⟨w3.heap.size, 4, none⟩ (.bool false)).drew := (((U5.out.store1 6 (.bool true)).store1 3 (.int .i64 s.parity)).store1 4 (.bool false)).drew'
        generalize w3.heap.size = lb at *
        refine wp_tail 7 (by kernel_rfl) (by kernel_rfl) fun w7 hw7 => ?_
        subst hw7
        generalize (((w5.setCell ⟨w3.heap.size, 6, none⟩ (.bool true)).setCell ⟨w3.heap.size, 3, none⟩ (.int .i64 s.parity)).setCell ⟨w3.heap.size, 4, none⟩ (.bool false)).drew = w7 at *
        have z0 := cell_of U7.inn.head 0
        have z1 := cell_of U7.inn.head 1
        have z2 := cell_of U7.inn.head 2
        have z3 := cell_of U7.inn.head 3
        have z4 := cell_of U7.inn.head 4
        have z5 := cell_of U7.inn.head 5
        have z6 := cell_of U7.inn.head 6
        simp only [List.getElem?_toArray, List.getElem?_cons_succ, List.getElem?_cons_zero] at z0 z1 z2 z3 z4 z5 z6
        have pa7 := (core_ptrs (In.core (x := [_]) U7.inn)).1
        simp only [ptr] at pa7
        have HU7 := Lib.hid U7
        clear U7 bx0 bx1 bx2 bx3 bx4 bx5 bx6 fb3 fb4 fb6 r1 r2 r5 pa5
        simp only [List.take_succ_cons, List.take_zero, List.drop_succ_cons, List.drop_zero]
        repeat (refine wpStill_step (fun K hK => ?_); have HK := Lib.hid hK; clear hK; go_simp; refine HK.out _ ?_; clear HK K)
        refine wpStill_nil ?_
        go_wp2_with (first
          | (go_at_call 90; refine Calls.mono (HOM.out _ _ (In.arena (x := [_]) HU7.out.inn) XG.out (by first | exact ca5 | (rw [HE3.out] at ca5; exact ca5))) ?_; rintro e w8 ⟨rfl, ha8, ca8, u8⟩; have U8 := Lib.hid (Upd.arena (x := [_]) HU7.out u8);
              have k23 := core_cell (In.core (x := [_]) U8.out.inn) 23; have k25 := core_cell (In.core (x := [_]) U8.out.inn) 25; have k28 := core_cell (In.core (x := [_]) U8.out.inn) 28;
              have y23 := core_frozen (In.core (x := [_]) U8.out.inn) 23; have y25 := core_frozen (In.core (x := [_]) U8.out.inn) 25; have y28 := core_frozen (In.core (x := [_]) U8.out.inn) 28;
              simp only [coreCells, List.getElem?_toArray, List.getElem?_cons_succ, List.getElem?_cons_zero, HE4.out] at k23 k25 k28; clear u8 z0 z1 z2 z3 z4 z5 z6 pa7)
          | (at_builtin; (have UX := Lib.hid ((Upd.cset_promoted (x := [_]) (Upd.cset_copied (x := [_]) U8.out (wrap64 (s.copied + n))) (wrap64 (s1.done.promoted + n))).skip' (.cells #[.int .i64 T] 3 (0, 0)))); (obtain ⟨aoR, capR, hvR, hcR⟩ := cw5.shape); subst hvR; (have HNR := Lib.hid (news_of (news := [.int .i64 T]) (w := (((w8.setCell ⟨pc, 23, none⟩ (.int .i64 (wrap64 (s.copied + n)))).setCell ⟨pc, 28, none⟩ (.int .i64 (wrap64 (s1.done.promoted + n)))).alloc (.cells #[.int .i64 T] 3 (0, 0)))) (b := w8.heap.size) (T := 3) (fr := (0, 0)) (heap_alloc_at (by simp)))); refine wpList_append_mine rfl (.tmp 95) (.tmp 97) 42 rfl 3 1 8 (.int .i64 0) Tryz.underlying42 Tryz.infoInt rfl (by decide) (.slice aoR s1.row.length capR) s1.row.length (ints s1.row) hw5 rfl cw5 (In.rows (x := [_]) UX.out.inn) ⟨w8.heap.size, 0, none⟩ 1 1 [.int .i64 T] rfl HNR.out rfl (by intro u hu; simp at hu; subst hu; rfl) (Or.inl (by decide)) (by rw [HE5.out]; unfold maxLen; omega) (by rw [HE5.out]; omega) ?_; intro v' w5' hX' hS' hU'; (obtain ⟨ao', cap', hve, _⟩ := hS'.shape); subst hve; have UY := Lib.hid (Upd.rows (x := [_]) UX.out hU'); have SX := Lib.hid hS'; have yy := core_frozen (In.core (x := [_]) UY.out.inn) 25; have kk := core_cell (In.core (x := [_]) UY.out.inn) 25; simp only [coreCells, List.getElem?_toArray, List.getElem?_cons_succ, List.getElem?_cons_zero] at kk; clear hS' hU'))
        have U12 := Upd.core (x := [_]) UY.out 25 (.slice ao' (s1.row.length + 1) cap')
        go_ret
        refine ⟨rfl, _, ⟨.slice ao' (s1.row.length + 1) cap', ha8, hy5, ho5, hr5, hg5, ht5, hX', rfl, ca8, cy5, co5, cr5, cg5, ct5, ?_⟩, (U12.drop1 : _)⟩
        have := SX.out
        simpa [ints] using this
  · by_cases hp : s.phase = 1
    · have hq2 : s.phase = 1 := hp
      have HX2 : Hid (X = ⟨x1, x2, 7, x4, x5, x6, B⟩) := Lib.hid (by rw [HX.out, if_pos hq2])
      rw [hp] at HE1
      have XG : Hid X.Good := Lib.hid (by rw [HX2.out]; exact ⟨g1, g2, g3, g4, by show (0 : Int) ≤ 7; omega, by show (7 : Int) ≤ 7; omega, g7⟩)
      clear hq2 hp HX
      have HX3 := HX2.out
      clear HX2
      subst HX3
      simp only [hdCells] at HOM
      clear hpar g7
      cases B
      · simp only [Bool.false_eq_true, if_false, if_true]
        rw [← HE5.out, ← HE6.out]
        go_enter Tryz.func53, Tryz.ntmps53
        go_wp2_with (first
        | (go_at_call 23; refine Calls.mono hfrom ?_; rintro e w1 ⟨rfl, u1⟩; have U1 := Lib.hid (HFr.out _ u1); clear hfrom u1 p2)
        | (go_at_call 24; refine Calls.mono (HNW.out _ _ U1.out.inn HC0.out) ?_; rintro e w2 ⟨rfl, h2, c2, u2⟩; have U2 := Lib.hid (U1.out.trans u2); have C2 := Lib.hid c2; clear u2 c2)
        | (go_at_call 87; refine Calls.mono (HHD.out _ _ U2.out.inn C2.out) ?_; rintro e w3 ⟨rfl, h3, c3, u3⟩; have hpb : pc < w3.heap.size := World.block_lt_of_cell? _ _ (CoreH.ptrs (x := []) c3 u3.inn).1; have U3 := Lib.hid ((U2.out.trans u3).alloc' (.cells #[.int .i64 x1, .int .i64 x2, .int .i64 7, .int .i64 x4, .bool x5, .bool x6, .bool x7] 65 (0, 0))); have C3 := Lib.hid c3; clear u3 c3)
        | (go_at_call 44; refine Calls.mono (hwx _) ?_; rintro e w4 ⟨rfl, u4⟩; have U4 := Lib.hid (U3.out.under0 u4); have by2 := cell_of U4.out.inn.head 2; simp only [List.getElem?_toArray, List.getElem?_cons_succ, List.getElem?_cons_zero] at by2; clear u4)
        | (go_at_call 89; refine Calls.mono (HPL.out _ _ U4.out.inn.tail C3.out) ?_; rintro e w5 ⟨rfl, h5, ⟨v5, ha5, hy5, ho5, hr5, hg5, ht5, hw5, rfl, ca5, cy5, co5, cr5, cg5, ct5, cw5⟩, u5⟩; have U5 := Lib.hid (U4.out.under u5);
            have bx0 := cell_of U5.out.inn.head 0; have bx1 := cell_of U5.out.inn.head 1; have bx2 := cell_of U5.out.inn.head 2; have bx3 := cell_of U5.out.inn.head 3; have bx4 := cell_of U5.out.inn.head 4; have bx5 := cell_of U5.out.inn.head 5; have bx6 := cell_of U5.out.inn.head 6;
            have fb3 := frozen_of U5.out.inn.head 3; have fb4 := frozen_of U5.out.inn.head 4; have fb6 := frozen_of U5.out.inn.head 6;
            obtain ⟨r1, r2, r3, r4, r5, r6⟩ := core_vars (In.core (x := [_]) U5.out.inn); rw [HE1.out] at r2; rw [HE2.out] at r1; rw [HE4.out] at r5; clear r3 r4 r6; clear u5;
            have pa5 := (core_ptrs (In.core (x := [_]) U5.out.inn)).1; simp only [ptr] at pa5;
            simp only [List.getElem?_toArray, List.getElem?_cons_succ, List.getElem?_cons_zero] at bx0 bx1 bx2 bx3 bx4 bx5 bx6; clear by2))
        have U7 : Upd h ((w3.heap.size, .cells #[.int .i64 x1, .int .i64 x2, .int .i64 7, .int .i64 x4, .bool x5, .bool x6, .bool false] 65 (0, 0)) :: (coreParts pc (coreObj L s1 v5) ha5 hy5 ho5 hr5 hg5 ht5 hw5).flatten) w (w5.setCell ⟨w3.heap.size, 6, none⟩ (.bool false)).drew := (U5.out.store1 6 (.bool false)).drew'
        generalize w3.heap.size = lb at *
        refine wp_tail 7 (by kernel_rfl) (by kernel_rfl) fun w7 hw7 => ?_
        subst hw7
        generalize (w5.setCell ⟨w3.heap.size, 6, none⟩ (.bool false)).drew = w7 at *
        have z0 := cell_of U7.inn.head 0
        have z1 := cell_of U7.inn.head 1
        have z2 := cell_of U7.inn.head 2
        have z3 := cell_of U7.inn.head 3
        have z4 := cell_of U7.inn.head 4
        have z5 := cell_of U7.inn.head 5
        have z6 := cell_of U7.inn.head 6
        simp only [List.getElem?_toArray, List.getElem?_cons_succ, List.getElem?_cons_zero] at z0 z1 z2 z3 z4 z5 z6
        have pa7 := (core_ptrs (In.core (x := [_]) U7.inn)).1
        simp only [ptr] at pa7
        have HU7 := Lib.hid U7
        clear U7 bx0 bx1 bx2 bx3 bx4 bx5 bx6 fb3 fb4 fb6 r1 r2 r5 pa5
        simp only [List.take_succ_cons, List.take_zero, List.drop_succ_cons, List.drop_zero]
        repeat (refine wpStill_step (fun K hK => ?_); have HK := Lib.hid hK; clear hK; go_simp; refine HK.out _ ?_; clear HK K)
        refine wpStill_nil ?_
        go_wp2_with (first
          | (go_at_call 90; refine Calls.mono (HOM.out _ _ (In.arena (x := [_]) HU7.out.inn) XG.out (by first | exact ca5 | (rw [HE3.out] at ca5; exact ca5))) ?_; rintro e w8 ⟨rfl, ha8, ca8, u8⟩; have U8 := Lib.hid (Upd.arena (x := [_]) HU7.out u8);
              have k23 := core_cell (In.core (x := [_]) U8.out.inn) 23; have k25 := core_cell (In.core (x := [_]) U8.out.inn) 25; have k28 := core_cell (In.core (x := [_]) U8.out.inn) 28;
              have y23 := core_frozen (In.core (x := [_]) U8.out.inn) 23; have y25 := core_frozen (In.core (x := [_]) U8.out.inn) 25; have y28 := core_frozen (In.core (x := [_]) U8.out.inn) 28;
              simp only [coreCells, List.getElem?_toArray, List.getElem?_cons_succ, List.getElem?_cons_zero, HE4.out] at k23 k25 k28; clear u8 z0 z1 z2 z3 z4 z5 z6 pa7))
        have U9 := Upd.cset_copied (x := [_]) U8.out (wrap64 (s.copied + n))
        go_ret
        exact ⟨rfl, _, ⟨v5, ha8, hy5, ho5, hr5, hg5, ht5, hw5, rfl, ca8, cy5, co5, cr5, cg5, ct5, cw5⟩, U9.drop1⟩
      · simp only [Bool.false_eq_true, if_false, if_true]
        rw [← HE5.out, ← HE6.out]
        go_enter Tryz.func53, Tryz.ntmps53
        go_wp2_with (first
        | (go_at_call 23; refine Calls.mono hfrom ?_; rintro e w1 ⟨rfl, u1⟩; have U1 := Lib.hid (HFr.out _ u1); clear hfrom u1 p2)
        | (go_at_call 24; refine Calls.mono (HNW.out _ _ U1.out.inn HC0.out) ?_; rintro e w2 ⟨rfl, h2, c2, u2⟩; have U2 := Lib.hid (U1.out.trans u2); have C2 := Lib.hid c2; clear u2 c2)
        | (go_at_call 87; refine Calls.mono (HHD.out _ _ U2.out.inn C2.out) ?_; rintro e w3 ⟨rfl, h3, c3, u3⟩; have hpb : pc < w3.heap.size := World.block_lt_of_cell? _ _ (CoreH.ptrs (x := []) c3 u3.inn).1; have U3 := Lib.hid ((U2.out.trans u3).alloc' (.cells #[.int .i64 x1, .int .i64 x2, .int .i64 7, .int .i64 x4, .bool x5, .bool x6, .bool x7] 65 (0, 0))); have C3 := Lib.hid c3; clear u3 c3)
        | (go_at_call 44; refine Calls.mono (hwx _) ?_; rintro e w4 ⟨rfl, u4⟩; have U4 := Lib.hid (U3.out.under0 u4); have by2 := cell_of U4.out.inn.head 2; simp only [List.getElem?_toArray, List.getElem?_cons_succ, List.getElem?_cons_zero] at by2; clear u4)
        | (go_at_call 89; refine Calls.mono (HPL.out _ _ U4.out.inn.tail C3.out) ?_; rintro e w5 ⟨rfl, h5, ⟨v5, ha5, hy5, ho5, hr5, hg5, ht5, hw5, rfl, ca5, cy5, co5, cr5, cg5, ct5, cw5⟩, u5⟩; have U5 := Lib.hid (U4.out.under u5);
            have bx0 := cell_of U5.out.inn.head 0; have bx1 := cell_of U5.out.inn.head 1; have bx2 := cell_of U5.out.inn.head 2; have bx3 := cell_of U5.out.inn.head 3; have bx4 := cell_of U5.out.inn.head 4; have bx5 := cell_of U5.out.inn.head 5; have bx6 := cell_of U5.out.inn.head 6;
            have fb3 := frozen_of U5.out.inn.head 3; have fb4 := frozen_of U5.out.inn.head 4; have fb6 := frozen_of U5.out.inn.head 6;
            obtain ⟨r1, r2, r3, r4, r5, r6⟩ := core_vars (In.core (x := [_]) U5.out.inn); rw [HE1.out] at r2; rw [HE2.out] at r1; rw [HE4.out] at r5; clear r3 r4 r6; clear u5;
            have pa5 := (core_ptrs (In.core (x := [_]) U5.out.inn)).1; simp only [ptr] at pa5;
            simp only [List.getElem?_toArray, List.getElem?_cons_succ, List.getElem?_cons_zero] at bx0 bx1 bx2 bx3 bx4 bx5 bx6; clear by2))
        have U7 : Upd h ((w3.heap.size, .cells #[.int .i64 x1, .int .i64 x2, .int .i64 7, .int .i64 x4, .bool x5, .bool x6, .bool true] 65 (0, 0)) :: (coreParts pc (coreObj L s1 v5) ha5 hy5 ho5 hr5 hg5 ht5 hw5).flatten) w (w5.setCell ⟨w3.heap.size, 6, none⟩ (.bool true)).drew := (U5.out.store1 6 (.bool true)).drew'
        generalize w3.heap.size = lb at *
        refine wp_tail 7 (by kernel_rfl) (by kernel_rfl) fun w7 hw7 => ?_
        subst hw7
        generalize (w5.setCell ⟨w3.heap.size, 6, none⟩ (.bool true)).drew = w7 at *
        have z0 := cell_of U7.inn.head 0
        have z1 := cell_of U7.inn.head 1
        have z2 := cell_of U7.inn.head 2
        have z3 := cell_of U7.inn.head 3
        have z4 := cell_of U7.inn.head 4
        have z5 := cell_of U7.inn.head 5
        have z6 := cell_of U7.inn.head 6
        simp only [List.getElem?_toArray, List.getElem?_cons_succ, List.getElem?_cons_zero] at z0 z1 z2 z3 z4 z5 z6
        have pa7 := (core_ptrs (In.core (x := [_]) U7.inn)).1
        simp only [ptr] at pa7
        have HU7 := Lib.hid U7
        clear U7 bx0 bx1 bx2 bx3 bx4 bx5 bx6 fb3 fb4 fb6 r1 r2 r5 pa5
        simp only [List.take_succ_cons, List.take_zero, List.drop_succ_cons, List.drop_zero]
        repeat (refine wpStill_step (fun K hK => ?_); have HK := Lib.hid hK; clear hK; go_simp; refine HK.out _ ?_; clear HK K)
        refine wpStill_nil ?_
        go_wp2_with (first
          | (go_at_call 90; refine Calls.mono (HOM.out _ _ (In.arena (x := [_]) HU7.out.inn) XG.out (by first | exact ca5 | (rw [HE3.out] at ca5; exact ca5))) ?_; rintro e w8 ⟨rfl, ha8, ca8, u8⟩; have U8 := Lib.hid (Upd.arena (x := [_]) HU7.out u8);
              have k23 := core_cell (In.core (x := [_]) U8.out.inn) 23; have k25 := core_cell (In.core (x := [_]) U8.out.inn) 25; have k28 := core_cell (In.core (x := [_]) U8.out.inn) 28;
              have y23 := core_frozen (In.core (x := [_]) U8.out.inn) 23; have y25 := core_frozen (In.core (x := [_]) U8.out.inn) 25; have y28 := core_frozen (In.core (x := [_]) U8.out.inn) 28;
              simp only [coreCells, List.getElem?_toArray, List.getElem?_cons_succ, List.getElem?_cons_zero, HE4.out] at k23 k25 k28; clear u8 z0 z1 z2 z3 z4 z5 z6 pa7)
          | (at_builtin; (have UX := Lib.hid ((Upd.cset_promoted (x := [_]) (Upd.cset_copied (x := [_]) U8.out (wrap64 (s.copied + n))) (wrap64 (s1.done.promoted + n))).skip' (.cells #[.int .i64 T] 3 (0, 0)))); (obtain ⟨aoR, capR, hvR, hcR⟩ := cw5.shape); subst hvR; (have HNR := Lib.hid (news_of (news := [.int .i64 T]) (w := (((w8.setCell ⟨pc, 23, none⟩ (.int .i64 (wrap64 (s.copied + n)))).setCell ⟨pc, 28, none⟩ (.int .i64 (wrap64 (s1.done.promoted + n)))).alloc (.cells #[.int .i64 T] 3 (0, 0)))) (b := w8.heap.size) (T := 3) (fr := (0, 0)) (heap_alloc_at (by simp)))); refine wpList_append_mine rfl (.tmp 95) (.tmp 97) 42 rfl 3 1 8 (.int .i64 0) Tryz.underlying42 Tryz.infoInt rfl (by decide) (.slice aoR s1.row.length capR) s1.row.length (ints s1.row) hw5 rfl cw5 (In.rows (x := [_]) UX.out.inn) ⟨w8.heap.size, 0, none⟩ 1 1 [.int .i64 T] rfl HNR.out rfl (by intro u hu; simp at hu; subst hu; rfl) (Or.inl (by decide)) (by rw [HE5.out]; unfold maxLen; omega) (by rw [HE5.out]; omega) ?_; intro v' w5' hX' hS' hU'; (obtain ⟨ao', cap', hve, _⟩ := hS'.shape); subst hve; have UY := Lib.hid (Upd.rows (x := [_]) UX.out hU'); have SX := Lib.hid hS'; have yy := core_frozen (In.core (x := [_]) UY.out.inn) 25; have kk := core_cell (In.core (x := [_]) UY.out.inn) 25; simp only [coreCells, List.getElem?_toArray, List.getElem?_cons_succ, List.getElem?_cons_zero] at kk; clear hS' hU'))
        have U12 := Upd.core (x := [_]) UY.out 25 (.slice ao' (s1.row.length + 1) cap')
        go_ret
        refine ⟨rfl, _, ⟨.slice ao' (s1.row.length + 1) cap', ha8, hy5, ho5, hr5, hg5, ht5, hX', rfl, ca8, cy5, co5, cr5, cg5, ct5, ?_⟩, (U12.drop1 : _)⟩
        have := SX.out
        simpa [ints] using this
    · have hq2 : (s.phase != 1) = true := by simpa using hp
      have HX2 : Hid (X = ⟨x1, x2, 7, s.parity, false, x6, B⟩) := Lib.hid (by rw [HX.out, if_neg hp])
      have XG : Hid X.Good := Lib.hid (by rw [HX2.out]; exact ⟨g1, g2, g3, g4, by show (0 : Int) ≤ 7; omega, by show (7 : Int) ≤ 7; omega, hpar⟩)
      clear hp HX
      have HX3 := HX2.out
      clear HX2
      subst HX3
      simp only [hdCells] at HOM
      clear hpar g7
      cases B
      · simp only [Bool.false_eq_true, if_false, if_true]
        rw [← HE5.out, ← HE6.out]
        go_enter Tryz.func53, Tryz.ntmps53
        go_wp2_with (first
        | (go_at_call 23; refine Calls.mono hfrom ?_; rintro e w1 ⟨rfl, u1⟩; have U1 := Lib.hid (HFr.out _ u1); clear hfrom u1 p2)
        | (go_at_call 24; refine Calls.mono (HNW.out _ _ U1.out.inn HC0.out) ?_; rintro e w2 ⟨rfl, h2, c2, u2⟩; have U2 := Lib.hid (U1.out.trans u2); have C2 := Lib.hid c2; clear u2 c2)
        | (go_at_call 87; refine Calls.mono (HHD.out _ _ U2.out.inn C2.out) ?_; rintro e w3 ⟨rfl, h3, c3, u3⟩; have hpb : pc < w3.heap.size := World.block_lt_of_cell? _ _ (CoreH.ptrs (x := []) c3 u3.inn).1; have U3 := Lib.hid ((U2.out.trans u3).alloc' (.cells #[.int .i64 x1, .int .i64 x2, .int .i64 7, .int .i64 x4, .bool x5, .bool x6, .bool x7] 65 (0, 0))); have C3 := Lib.hid c3; clear u3 c3)
        | (go_at_call 44; refine Calls.mono (hwx _) ?_; rintro e w4 ⟨rfl, u4⟩; have U4 := Lib.hid (U3.out.under0 u4); have by2 := cell_of U4.out.inn.head 2; simp only [List.getElem?_toArray, List.getElem?_cons_succ, List.getElem?_cons_zero] at by2; clear u4)
        | (go_at_call 89; refine Calls.mono (HPL.out _ _ U4.out.inn.tail C3.out) ?_; rintro e w5 ⟨rfl, h5, ⟨v5, ha5, hy5, ho5, hr5, hg5, ht5, hw5, rfl, ca5, cy5, co5, cr5, cg5, ct5, cw5⟩, u5⟩; have U5 := Lib.hid (U4.out.under u5);
            have bx0 := cell_of U5.out.inn.head 0; have bx1 := cell_of U5.out.inn.head 1; have bx2 := cell_of U5.out.inn.head 2; have bx3 := cell_of U5.out.inn.head 3; have bx4 := cell_of U5.out.inn.head 4; have bx5 := cell_of U5.out.inn.head 5; have bx6 := cell_of U5.out.inn.head 6;
            have fb3 := frozen_of U5.out.inn.head 3; have fb4 := frozen_of U5.out.inn.head 4; have fb6 := frozen_of U5.out.inn.head 6;
            obtain ⟨r1, r2, r3, r4, r5, r6⟩ := core_vars (In.core (x := [_]) U5.out.inn); rw [HE1.out] at r2; rw [HE2.out] at r1; rw [HE4.out] at r5; clear r3 r4 r6; clear u5;
            have pa5 := (core_ptrs (In.core (x := [_]) U5.out.inn)).1; simp only [ptr] at pa5;
            simp only [List.getElem?_toArray, List.getElem?_cons_succ, List.getElem?_cons_zero] at bx0 bx1 bx2 bx3 bx4 bx5 bx6; clear by2))
        have U7 : Upd h ((w3.heap.size, .cells #[.int .i64 x1, .int .i64 x2, .int .i64 7, .int .i64 s.parity, .bool false, .bool x6, .bool false] 65 (0, 0)) :: (coreParts pc (coreObj L s1 v5) ha5 hy5 ho5 hr5 hg5 ht5 hw5).flatten) w (((w5.setCell ⟨w3.heap.size, 6, none⟩ (.bool false)).setCell ⟨w3.heap.size, 3, none⟩ (.int .i64 s.parity)).setCell ⟨w3.heap.size, 4, none⟩ (.bool false)).drew := (((U5.out.store1 6 (.bool false)).store1 3 (.int .i64 s.parity)).store1 4 (.bool false)).drew'
        generalize w3.heap.size = lb at *
        refine wp_tail 7 (by kernel_rfl) (by kernel_rfl) fun w7 hw7 => ?_
        subst hw7
        generalize (((w5.setCell ⟨w3.heap.size, 6, none⟩ (.bool false)).setCell ⟨w3.heap.size, 3, none⟩ (.int .i64 s.parity)).setCell ⟨w3.heap.size, 4, none⟩ (.bool false)).drew = w7 at *
        have z0 := cell_of U7.inn.head 0
        have z1 := cell_of U7.inn.head 1
        have z2 := cell_of U7.inn.head 2
        have z3 := cell_of U7.inn.head 3
        have z4 := cell_of U7.inn.head 4
        have z5 := cell_of U7.inn.head 5
        have z6 := cell_of U7.inn.head 6
        simp only [List.getElem?_toArray, List.getElem?_cons_succ, List.getElem?_cons_zero] at z0 z1 z2 z3 z4 z5 z6
        have pa7 := (core_ptrs (In.core (x := [_]) U7.inn)).1
        simp only [ptr] at pa7
        have HU7 := Lib.hid U7
        clear U7 bx0 bx1 bx2 bx3 bx4 bx5 bx6 fb3 fb4 fb6 r1 r2 r5 pa5
        simp only [List.take_succ_cons, List.take_zero, List.drop_succ_cons, List.drop_zero]
        repeat (refine wpStill_step (fun K hK => ?_); have HK := Lib.hid hK; clear hK; go_simp; refine HK.out _ ?_; clear HK K)
        refine wpStill_nil ?_
        go_wp2_with (first
          | (go_at_call 90; refine Calls.mono (HOM.out _ _ (In.arena (x := [_]) HU7.out.inn) XG.out (by first | exact ca5 | (rw [HE3.out] at ca5; exact ca5))) ?_; rintro e w8 ⟨rfl, ha8, ca8, u8⟩; have U8 := Lib.hid (Upd.arena (x := [_]) HU7.out u8);
              have k23 := core_cell (In.core (x := [_]) U8.out.inn) 23; have k25 := core_cell (In.core (x := [_]) U8.out.inn) 25; have k28 := core_cell (In.core (x := [_]) U8.out.inn) 28;
              have y23 := core_frozen (In.core (x := [_]) U8.out.inn) 23; have y25 := core_frozen (In.core (x := [_]) U8.out.inn) 25; have y28 := core_frozen (In.core (x := [_]) U8.out.inn) 28;
              simp only [coreCells, List.getElem?_toArray, List.getElem?_cons_succ, List.getElem?_cons_zero, HE4.out] at k23 k25 k28; clear u8 z0 z1 z2 z3 z4 z5 z6 pa7))
        have U9 := Upd.cset_copied (x := [_]) U8.out (wrap64 (s.copied + n))
        go_ret
        exact ⟨rfl, _, ⟨v5, ha8, hy5, ho5, hr5, hg5, ht5, hw5, rfl, ca8, cy5, co5, cr5, cg5, ct5, cw5⟩, U9.drop1⟩
      · simp only [Bool.false_eq_true, if_false, if_true]
        rw [← HE5.out, ← HE6.out]
        go_enter Tryz.func53, Tryz.ntmps53
        go_wp2_with (first
        | (go_at_call 23; refine Calls.mono hfrom ?_; rintro e w1 ⟨rfl, u1⟩; have U1 := Lib.hid (HFr.out _ u1); clear hfrom u1 p2)
        | (go_at_call 24; refine Calls.mono (HNW.out _ _ U1.out.inn HC0.out) ?_; rintro e w2 ⟨rfl, h2, c2, u2⟩; have U2 := Lib.hid (U1.out.trans u2); have C2 := Lib.hid c2; clear u2 c2)
        | (go_at_call 87; refine Calls.mono (HHD.out _ _ U2.out.inn C2.out) ?_; rintro e w3 ⟨rfl, h3, c3, u3⟩; have hpb : pc < w3.heap.size := World.block_lt_of_cell? _ _ (CoreH.ptrs (x := []) c3 u3.inn).1; have U3 := Lib.hid ((U2.out.trans u3).alloc' (.cells #[.int .i64 x1, .int .i64 x2, .int .i64 7, .int .i64 x4, .bool x5, .bool x6, .bool x7] 65 (0, 0))); have C3 := Lib.hid c3; clear u3 c3)
        | (go_at_call 44; refine Calls.mono (hwx _) ?_; rintro e w4 ⟨rfl, u4⟩; have U4 := Lib.hid (U3.out.under0 u4); have by2 := cell_of U4.out.inn.head 2; simp only [List.getElem?_toArray, List.getElem?_cons_succ, List.getElem?_cons_zero] at by2; clear u4)
        | (go_at_call 89; refine Calls.mono (HPL.out _ _ U4.out.inn.tail C3.out) ?_; rintro e w5 ⟨rfl, h5, ⟨v5, ha5, hy5, ho5, hr5, hg5, ht5, hw5, rfl, ca5, cy5, co5, cr5, cg5, ct5, cw5⟩, u5⟩; have U5 := Lib.hid (U4.out.under u5);
            have bx0 := cell_of U5.out.inn.head 0; have bx1 := cell_of U5.out.inn.head 1; have bx2 := cell_of U5.out.inn.head 2; have bx3 := cell_of U5.out.inn.head 3; have bx4 := cell_of U5.out.inn.head 4; have bx5 := cell_of U5.out.inn.head 5; have bx6 := cell_of U5.out.inn.head 6;
            have fb3 := frozen_of U5.out.inn.head 3; have fb4 := frozen_of U5.out.inn.head 4; have fb6 := frozen_of U5.out.inn.head 6;
            obtain ⟨r1, r2, r3, r4, r5, r6⟩ := core_vars (In.core (x := [_]) U5.out.inn); rw [HE1.out] at r2; rw [HE2.out] at r1; rw [HE4.out] at r5; clear r3 r4 r6; clear u5;
            have pa5 := (core_ptrs (In.core (x := [_]) U5.out.inn)).1; simp only [ptr] at pa5;
            simp only [List.getElem?_toArray, List.getElem?_cons_succ, List.getElem?_cons_zero] at bx0 bx1 bx2 bx3 bx4 bx5 bx6; clear by2))
        have U7 : Upd h ((w3.heap.size, .cells #[.int .i64 x1, .int .i64 x2, .int .i64 7, .int .i64 s.parity, .bool false, .bool x6, .bool true] 65 (0, 0)) :: (coreParts pc (coreObj L s1 v5) ha5 hy5 ho5 hr5 hg5 ht5 hw5).flatten) w (((w5.setCell ⟨w3.heap.size, 6, none⟩ (.bool true)).setCell ⟨w3.heap.size, 3, none⟩ (.int .i64 s.parity)).setCell ⟨w3.heap.size, 4, none⟩ (.bool false)).drew := (((U5.out.store1 6 (.bool true)).store1 3 (.int .i64 s.parity)).store1 4 (.bool false)).drew'
        generalize w3.heap.size = lb at *
        refine wp_tail 7 (by kernel_rfl) (by kernel_rfl) fun w7 hw7 => ?_
        subst hw7
        generalize (((w5.setCell ⟨w3.heap.size, 6, none⟩ (.bool true)).setCell ⟨w3.heap.size, 3, none⟩ (.int .i64 s.parity)).setCell ⟨w3.heap.size, 4, none⟩ (.bool false)).drew = w7 at *
        have z0 := cell_of U7.inn.head 0
        have z1 := cell_of U7.inn.head 1
        have z2 := cell_of U7.inn.head 2
        have z3 := cell_of U7.inn.head 3
        have z4 := cell_of U7.inn.head 4
        have z5 := cell_of U7.inn.head 5
        have z6 := cell_of U7.inn.head 6
        simp only [List.getElem?_toArray, List.getElem?_cons_succ, List.getElem?_cons_zero] at z0 z1 z2 z3 z4 z5 z6
        have pa7 := (core_ptrs (In.core (x := [_]) U7.inn)).1
        simp only [ptr] at pa7
        have HU7 := Lib.hid U7
        clear U7 bx0 bx1 bx2 bx3 bx4 bx5 bx6 fb3 fb4 fb6 r1 r2 r5 pa5
        simp only [List.take_succ_cons, List.take_zero, List.drop_succ_cons, List.drop_zero]
        repeat (refine wpStill_step (fun K hK => ?_); have HK := Lib.hid hK; clear hK; go_simp; refine HK.out _ ?_; clear HK K)
        refine wpStill_nil ?_
        go_wp2_with (first
          | (go_at_call 90; refine Calls.mono (HOM.out _ _ (In.arena (x := [_]) HU7.out.inn) XG.out (by first | exact ca5 | (rw [HE3.out] at ca5; exact ca5))) ?_; rintro e w8 ⟨rfl, ha8, ca8, u8⟩; have U8 := Lib.hid (Upd.arena (x := [_]) HU7.out u8);
              have k23 := core_cell (In.core (x := [_]) U8.out.inn) 23; have k25 := core_cell (In.core (x := [_]) U8.out.inn) 25; have k28 := core_cell (In.core (x := [_]) U8.out.inn) 28;
              have y23 := core_frozen (In.core (x := [_]) U8.out.inn) 23; have y25 := core_frozen (In.core (x := [_]) U8.out.inn) 25; have y28 := core_frozen (In.core (x := [_]) U8.out.inn) 28;
              simp only [coreCells, List.getElem?_toArray, List.getElem?_cons_succ, List.getElem?_cons_zero, HE4.out] at k23 k25 k28; clear u8 z0 z1 z2 z3 z4 z5 z6 pa7)
          | (at_builtin; (have UX := Lib.hid ((Upd.cset_promoted (x := [_]) (Upd.cset_copied (x := [_]) U8.out (wrap64 (s.copied + n))) (wrap64 (s1.done.promoted + n))).skip' (.cells #[.int .i64 T] 3 (0, 0)))); (obtain ⟨aoR, capR, hvR, hcR⟩ := cw5.shape); subst hvR; (have HNR := Lib.hid (news_of (news := [.int .i64 T]) (w := (((w8.setCell ⟨pc, 23, none⟩ (.int .i64 (wrap64 (s.copied + n)))).setCell ⟨pc, 28, none⟩ (.int .i64 (wrap64 (s1.done.promoted + n)))).alloc (.cells #[.int .i64 T] 3 (0, 0)))) (b := w8.heap.size) (T := 3) (fr := (0, 0)) (heap_alloc_at (by simp)))); refine wpList_append_mine rfl (.tmp 95) (.tmp 97) 42 rfl 3 1 8 (.int .i64 0) Tryz.underlying42 Tryz.infoInt rfl (by decide) (.slice aoR s1.row.length capR) s1.row.length (ints s1.row) hw5 rfl cw5 (In.rows (x := [_]) UX.out.inn) ⟨w8.heap.size, 0, none⟩ 1 1 [.int .i64 T] rfl HNR.out rfl (by intro u hu; simp at hu; subst hu; rfl) (Or.inl (by decide)) (by rw [HE5.out]; unfold maxLen; omega) (by rw [HE5.out]; omega) ?_; intro v' w5' hX' hS' hU'; (obtain ⟨ao', cap', hve, _⟩ := hS'.shape); subst hve; have UY := Lib.hid (Upd.rows (x := [_]) UX.out hU'); have SX := Lib.hid hS'; have yy := core_frozen (In.core (x := [_]) UY.out.inn) 25; have kk := core_cell (In.core (x := [_]) UY.out.inn) 25; simp only [coreCells, List.getElem?_toArray, List.getElem?_cons_succ, List.getElem?_cons_zero] at kk; clear hS' hU'))
        have U12 := Upd.core (x := [_]) UY.out 25 (.slice ao' (s1.row.length + 1) cap')
        go_ret
        refine ⟨rfl, _, ⟨.slice ao' (s1.row.length + 1) cap', ha8, hy5, ho5, hr5, hg5, ht5, hX', rfl, ca8, cy5, co5, cr5, cg5, ct5, ?_⟩, (U12.drop1 : _)⟩
        have := SX.out
        simpa [ints] using this

end Go.Proofs.YtjjdjipohifgbaaGreat

/- What Move of package core comes to, whatever the place. Conditions: a core whose parts are as New makes them. -/
namespace Go.Proofs.YtjjdjipohifgbaaGreat
open Go.RowKit

set_option maxRecDepth 100000 in
set_option maxHeartbeats 1000000 in
theorem core_move_gone (pc : Nat) (L : CoreL) (s : CoreS) (a : Int) (w : World) (h : Hp) (hi : In w h) (hc : CoreH pc L s h) (hb : I64 a) (h0 : a ≠ 0) (hf : s.y.isFrom a = true) (hn : s.now a ≠ a) :
    Calls Tryz.prog 53 #[ptr pc, .int .i64 a] w fun e w' => e = .returned (.int .i64 (s.now a)) ∧ ∃ h', CoreH pc L s h' ∧ Upd h h' w w' := by
  have hq : (a == 0) = false := by simpa using h0
  have hnow := fun W h (hW : In W h) (hc : CoreH pc L s h) => core_now pc L s a W h hW hc hb
  have hst : ∃ v ha hy ho hr hg ht hw, h = (coreParts pc (coreObj L s v) ha hy ho hr hg ht hw).flatten ∧ YoungH L.py s.y hy := by
    obtain ⟨v, ha, hy, ho, hr, hg, ht, hw, rfl, ca, cy, co, cr, cg, ct, cw⟩ := hc
    exact ⟨v, ha, hy, ho, hr, hg, ht, hw, rfl, cy⟩
  obtain ⟨v0, ha0, hy0, ho0, hr0, hg0, ht0, hw0, hh0, cy0⟩ := hst
  have hfrom := bump_from L.py s.y a w hy0 (by rw [hh0] at hi; exact In.young (x := []) hi) cy0 hb
  rw [hf] at hfrom
  have p2 : w.cell? ⟨pc, 14, none⟩ = some (ptr L.py) := by rw [hh0] at hi; exact (core_ptrs (In.core (x := []) hi)).2.1
  have HFr : Hid (∀ w1, Upd hy0 hy0 w w1 → Upd h h w w1) := Lib.hid (by
    intro w1 u1
    rw [hh0] at hi ⊢
    exact Upd.young (x := []) (Upd.refl hi) u1)
  have hne : (s.now a != a) = true := by simpa using hn
  generalize s.now a = T at *
  have HNW := Lib.hid hnow
  have HC0 := Lib.hid hc
  clear hh0 cy0 h0 hf hn hnow hc hi
  simp only [ptr] at *
  go_enter Tryz.func53, Tryz.ntmps53
  go_wp2_with (first
    | (go_at_call 23; refine Calls.mono hfrom ?_; rintro e w1 ⟨rfl, u1⟩; have U1 := Lib.hid (HFr.out _ u1); clear hfrom u1 p2)
    | (go_at_call 24; refine Calls.mono (HNW.out _ _ U1.out.inn HC0.out) ?_; rintro e w2 ⟨rfl, h2, c2, u2⟩; have U2 := Lib.hid (U1.out.trans u2); have C2 := Lib.hid c2; clear u2 c2))
  go_ret
  exact ⟨rfl, h2, C2.out, U2.out⟩

/-- what Move asks of the core -/
structure CoreS.Mv (s : CoreS) : Prop where
  ow : 16 ≤ s.o.words
  par : s.parity = 0 ∨ s.parity = 1
  row : s.row.length ≤ 1000000

theorem core_move (pc : Nat) (L : CoreL) (s : CoreS) (a : Int) (w : World) (h : Hp) (hi : In w h) (hc : CoreH pc L s h) (hb : I64 a) (m : s.Mv) (hto : s.y.isFrom a = true → s.now a = a → I64 (s.mvTo a)) :
    Calls Tryz.prog 53 #[ptr pc, .int .i64 a] w fun e w' => e = .returned (.int .i64 (s.moveV a)) ∧ ∃ h', CoreH pc L (s.move a) h' ∧ Upd h h' w w' := by
  by_cases h0 : a = 0 ∨ s.y.isFrom a = false
  · rw [CoreS.moveV, CoreS.move, if_pos h0, if_pos h0]
    exact Calls.mono (core_move_stay pc L s a w h hi hc hb h0) fun e w' hh => ⟨hh.1, h, hc, hh.2⟩
  · rw [CoreS.moveV, CoreS.move, if_neg h0, if_neg h0]
    have h1 : a ≠ 0 := fun e => h0 (.inl e)
    have h2 : s.y.isFrom a = true := by
      cases hq : s.y.isFrom a
      · exact absurd (.inr hq) h0
      · rfl
    by_cases hn : s.now a = a
    · rw [if_pos hn, if_pos hn]
      exact core_moved pc L s a w h hi hc hb h1 h2 hn m.ow m.par m.row (hto h2 hn)
    · rw [if_neg hn, if_neg hn]
      exact core_move_gone pc L s a w h hi hc hb h1 h2 hn

end Go.Proofs.YtjjdjipohifgbaaGreat
