/- What New, and Used of an empty space, of package mature come to. Conditions: a space as New makes it. -/
import Derived.Test.YtglbhcoikgbcmaaGreatRows
import Derived.Test.YtglbhcoikgbcmaaGreatLib
import Derived.Test.YtglbhcoikgbcmaaGreatSlice
import Derived.Test.YtglbhcoikgbcmaaGreatTable
import Derived.Test.YtglbhcoikgbcmaaGreatCard
set_option linter.unusedVariables false
set_option linter.unusedSimpArgs false
namespace Go.Proofs.YtglbhcoikgbcmaaGreat
open Go.RowKit

structure PageS where
  kind : Int
  size : Int
  used : List Bool
  pending : Bool

structure MatS where
  base : Int
  words : Int
  pages : List PageS

abbrev PRow := PageS × Value × Hp
def rowCells (r : PRow) : List Value := [.int .i64 r.1.kind, .int .i64 r.1.size, r.2.1, .bool r.1.pending]
def RowOk (r : PRow) : Prop := SliceH 4 1 r.2.1 r.1.used.length (bools r.1.used) r.2.2 ∧ r.1.used.length ≤ 1048576
def matObj (s : MatS) (b : Nat) : Obj := .cells #[.int .i64 s.base, .int .i64 s.words, .slice (some ⟨b, 0, none⟩) s.pages.length s.pages.length] 94 (0, 0)
def listObj (rows : List PRow) : Obj := .cells (rows.flatMap rowCells).toArray 141 (0, 0)
def MatS.WF (s : MatS) : Prop := 0 ≤ s.base ∧ s.base ≤ 1048576 ∧ 1 ≤ s.words ∧ s.words ≤ 256 ∧ s.pages.length ≤ 64
/-- a space: its block, its list's, and for each page that has cells one -/
def MatureH (p : Nat) (s : MatS) (h : Hp) : Prop :=
  ∃ (b : Nat) (rows : List PRow), h = (p, matObj s b) :: (b, listObj rows) :: (rows.map (·.2.2)).flatten ∧ s.pages = rows.map (·.1) ∧ (∀ r ∈ rows, RowOk r) ∧ s.WF

def pg0 : PageS := ⟨0, 0, [], false⟩
def row0 : PRow := (pg0, .slice none 0 0, [])
theorem row0_ok : RowOk row0 := ⟨SliceH.nil _ _, by decide⟩

theorem Tryz.infoPage : (Tryz.prog.info? 141).map (fun i => (i.zero, i.size, i.bytes)) = some (some (.agg #[.int .i64 0, .int .i64 0, .slice none 0 0, .bool false]), 4, 48) := by kernel_rfl

theorem madeCells_four (a b c d : Value) (n : Nat) : madeCells #[a, b, c, d] (n * 4) = ((List.replicate n [a, b, c, d]).flatten).toArray := by
  apply Array.toList_inj.1
  simp only [madeCells, Array.toList_map, Array.toList_range]
  induction n with
  | zero => rfl
  | succ n ih =>
    have e : (n + 1) * 4 = n * 4 + 1 + 1 + 1 + 1 := by omega
    rw [e]
    simp only [List.range_succ, List.map_append, ih]
    have m0 : n * 4 % 4 = 0 := by omega
    have m1 : (n * 4 + 1) % 4 = 1 := by omega
    have m2 : (n * 4 + 1 + 1) % 4 = 2 := by omega
    have m3 : (n * 4 + 1 + 1 + 1) % 4 = 3 := by omega
    simp [m0, m1, m2, m3, List.replicate_succ']

set_option maxRecDepth 100000 in
set_option maxHeartbeats 1000000 in
theorem mature_new (b : Int) (n : Nat) (k : Int) (w : World) (h1 : 0 < b) (h2 : b ≤ 1048576) (h3 : n ≤ 64) (h4 : 1 < k) (h5 : k ≤ 256) :
    Calls Tryz.prog 17 #[.int .i64 b, .int .i64 n, .int .i64 k] w fun e w' => ∃ p h', e = .returned (.pointer (some ⟨p, 0, none⟩)) ∧ MatureH p ⟨b, k, List.replicate n pg0⟩ h' ∧ Upd [] h' w w' := by
  obtain ⟨i, hi, hz0, hz1, hz2⟩ := info_parts Tryz.infoPage
  have hmk := run_make (P := Tryz.prog) w 92 141 i _ Tryz.underlying92 hi hz0 .i64 .i64 n n (by omega) (by omega) (by rw [hz2]; omega) (by omega)
  rw [hz1, Int.toNat_natCast, Value.cells, madeCells_four] at hmk
  have hcells : (List.replicate n [Value.int .i64 0, .int .i64 0, .slice none 0 0, .bool false]).flatten = (List.replicate n row0).flatMap rowCells := by
    simp [List.flatMap, rowCells, row0, pg0]
  rw [hcells] at hmk
  have hflat : ((List.replicate n row0).map (·.2.2)).flatten = [] := by simp [row0]
  have hU := (Upd.alloc (In.nil w) (listObj (List.replicate n row0))).alloc' (matObj ⟨b, k, List.replicate n pg0⟩ w.heap.size)
  have hH : MatureH (w.heap.size + 1) ⟨b, k, List.replicate n pg0⟩ [(w.heap.size + 1, matObj ⟨b, k, List.replicate n pg0⟩ w.heap.size), (w.heap.size, listObj (List.replicate n row0))] :=
    ⟨w.heap.size, List.replicate n row0, by rw [hflat], by simp [row0], by intro r hr; simp at hr; rw [hr.2]; exact row0_ok, by simp only; omega, h2, by simp only; omega, h5, by simpa using h3⟩
  simp only [listObj, matObj, List.length_replicate] at hU hH
  generalize hR : ((List.replicate n row0).flatMap rowCells).toArray = R at *
  clear hR hcells hflat hi hz0 hz1 hz2
  have h3' : (n : Int) ≤ 64 := by omega
  have key : ∀ hn : n = 0 ∨ 0 < (n : Int), Calls Tryz.prog 17 #[.int .i64 b, .int .i64 n, .int .i64 k] w fun e w' => ∃ p h', e = .returned (.pointer (some ⟨p, 0, none⟩)) ∧ MatureH p ⟨b, k, List.replicate n pg0⟩ h' ∧ Upd [] h' w w' := by
    intro hn
    rcases hn with rfl | hn
    · have HH := Lib.hid hH
      clear hH
      rw [show ((0 : Nat) : Int) = 0 from rfl] at hmk ⊢
      go_enter Tryz.func17, Tryz.ntmps17
      go_wp2
      go_ret
      exact ⟨_, _, rfl, HH.out, by simpa using hU⟩
    · have HH := Lib.hid hH
      clear hH
      go_enter Tryz.func17, Tryz.ntmps17
      go_wp2
      go_ret
      exact ⟨_, _, rfl, HH.out, by simpa using hU⟩
  exact key (by omega)

theorem rows_get : ∀ (rows : List PRow) (n j : Nat), j < 4 → (rows.flatMap rowCells)[n * 4 + j]? = (rows[n]?).bind fun r => (rowCells r)[j]?
  | [], n, j, _ => by simp
  | r :: rows, 0, j, hj => by
    have hl : (rowCells r).length = 4 := rfl
    simp only [List.flatMap_cons, Nat.zero_mul, Nat.zero_add, List.getElem?_cons_zero, Option.bind_some]
    rw [List.getElem?_append_left (by omega)]
  | r :: rows, n + 1, j, hj => by
    have hl : (rowCells r).length = 4 := rfl
    simp only [List.flatMap_cons, List.getElem?_cons_succ]
    rw [List.getElem?_append_right (by omega), hl, show (n + 1) * 4 + j - 4 = n * 4 + j by omega]
    exact rows_get rows n j hj

theorem list_cells {w : World} {b : Nat} {rows : List PRow} {n : Nat} {r : PRow} (h : w.heap[b]? = some (listObj rows)) (hr : rows[n]? = some r) :
    w.cell? ⟨b, n * 4, none⟩ = some (.int .i64 r.1.kind) ∧ w.cell? ⟨b, n * 4 + 1, none⟩ = some (.int .i64 r.1.size) ∧ w.cell? ⟨b, n * 4 + 2, none⟩ = some r.2.1 ∧ w.cell? ⟨b, n * 4 + 3, none⟩ = some (.bool r.1.pending) := by
  have e := fun j (hj : j < 4) => (cell_of h (n * 4 + j)).trans ((by simp [hr] : (rows.flatMap rowCells).toArray[n * 4 + j]? = (rows.flatMap rowCells)[n * 4 + j]?).trans (rows_get rows n j hj))
  simp only [hr, Option.bind_some] at e
  exact ⟨by have := e 0 (by omega); rw [Nat.add_zero] at this; exact this, e 1 (by omega), e 2 (by omega), e 3 (by omega)⟩

/-- all pages are free -/
def MatS.empty (s : MatS) : Prop := ∀ g ∈ s.pages, g.kind = 0 ∧ g.used = []

theorem SliceH.zero {T : TypeId} {size : Nat} {v : Value} {xs : List Value} {h : Hp} (hs : SliceH T size v 0 xs h) : ∃ ao cap, v = .slice ao 0 cap := by
  obtain ⟨ao, cap, rfl, _⟩ := hs.shape
  exact ⟨ao, cap, rfl⟩

set_option maxRecDepth 100000 in
set_option maxHeartbeats 1000000 in
theorem mature_starts0 (p : Nat) (s : MatS) (n : Nat) (w : World) (h : Hp) (hi : In w h) (hm : MatureH p s h) (he : s.empty) (hn : n < s.pages.length) :
    Calls Tryz.prog 58 #[.pointer (some ⟨p, 0, none⟩), .int .i64 n] w fun e w' => e = .returned (.slice none 0 0) ∧ Upd h h w w' := by
  obtain ⟨b, rows, rfl, hp, hr, w1, w2, w3, w4, w5⟩ := hm
  have e2 : w.cell? ⟨p, 2, none⟩ = some (.slice (some ⟨b, 0, none⟩) s.pages.length s.pages.length) := cell_of hi.head 2
  have hlen : rows.length = s.pages.length := by rw [hp]; simp
  obtain ⟨r, hrn⟩ : ∃ r, rows[n]? = some r := ⟨_, List.getElem?_eq_getElem (by omega)⟩
  have hrm : r ∈ rows := List.mem_of_getElem? hrn
  obtain ⟨c0, c1, c2, c3⟩ := list_cells hi.tail.head hrn
  have hz := he r.1 (by rw [hp]; exact List.mem_map_of_mem hrm)
  have hS := (hr r hrm).1
  rw [hz.1] at c0
  rw [hz.2] at hS
  obtain ⟨ao, cap, hv⟩ := hS.zero
  rw [hv] at c2
  have hbl : b < w.heap.size := (Array.getElem?_eq_some_iff.1 hi.tail.head).1
  have hne : b ≠ w.heap.size := Nat.ne_of_lt hbl
  have hU := Upd.skip hi (.cells #[.int .i64 0, .int .i64 r.1.size, .slice ao 0 cap, .bool r.1.pending] 141 (0, 0))
  clear hv hS hz hrm hrn hr hp he
  generalize r.1.size = rs at *
  generalize r.1.pending = rp at *
  go_enter Tryz.func58, Tryz.ntmps58
  go_wp2
  go_loop [6, 26] (fun v i => v = .slice none 0 0 ∧ i = .int .i64 0) (fun _ _ => 0)
  case atStart => exact ⟨rfl, rfl⟩
  case round =>
    obtain ⟨rfl, rfl⟩ := hrel
    go_wp2
    go_ret
    exact ⟨rfl, hU⟩

set_option maxRecDepth 100000 in
set_option maxHeartbeats 1000000 in
theorem mature_used0 (p : Nat) (s : MatS) (w : World) (h : Hp) (hi : In w h) (hm : MatureH p s h) (he : s.empty) :
    Calls Tryz.prog 36 #[.pointer (some ⟨p, 0, none⟩)] w fun e w' => e = .returned (.int .i64 0) ∧ Upd h h w w' := by
  have hst := fun n W (hi : In W h) => mature_starts0 p s n W h hi hm he
  obtain ⟨b, rows, hh, hp, hr, w1, w2, w3, w4, w5⟩ := hm
  have hb : ∃ r, h = (p, matObj s b) :: r := ⟨_, hh⟩
  obtain ⟨t, rfl⟩ := hb
  have e2 : w.cell? ⟨p, 2, none⟩ = some (.slice (some ⟨b, 0, none⟩) s.pages.length s.pages.length) := cell_of hi.head 2
  have U0 := Upd.refl hi
  clear hh hr hp
  have HS := Lib.hid hst
  have HU := Lib.hid U0
  clear hst U0
  go_enter Tryz.func36, Tryz.ntmps36
  go_wp2
  go_loopw [3, 16] (fun v i wr => ∃ k : Nat, k ≤ s.pages.length ∧ i = .int .i64 k ∧ v = .int .i64 0 ∧ Hid (Upd ((p, matObj s b) :: t) ((p, matObj s b) :: t) w wr)) (fun _ i _ => s.pages.length - (intOf i).toNat)
  case atStart => exact ⟨0, by omega, rfl, rfl, HU⟩
  case round =>
    obtain ⟨k, hk, rfl, rfl, HW⟩ := hrel
    by_cases hlt : k < s.pages.length
    · go_wp2_with (go_at_call 58; refine Calls.mono (HS.out k _ HW.out.inn hlt) ?_; rintro e w9 ⟨rfl, u9⟩; have U9 := Lib.hid (HW.out.trans u9))
      go_loop [3, 23] (fun v i => v = .int .i64 0 ∧ i = .int .i64 0) (fun _ _ => 0)
      case atStart => exact ⟨rfl, rfl⟩
      case round =>
        obtain ⟨rfl, rfl⟩ := hrel
        go_wp2
        go_roundw
        case rel => exact ⟨k + 1, by omega, by go_num, rfl, U9⟩
        case measure => simp [intOf]; omega
    · go_wp2
      go_ret
      exact ⟨rfl, HW.out⟩

end Go.Proofs.YtglbhcoikgbcmaaGreat
