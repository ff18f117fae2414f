/- What each call of package table comes to. Conditions: a table as New makes it. -/
import Derived.Test.YtglbhcoikgbcmaaGreatRows
import Derived.Test.YtglbhcoikgbcmaaGreatLib
import Derived.Test.YtglbhcoikgbcmaaGreatSlice
set_option linter.unusedVariables false
set_option linter.unusedSimpArgs false
namespace Go.Proofs.YtglbhcoikgbcmaaGreat
open Go.RowKit

/-- handles: a block for the table, one for its list -/
def TableH (p : Nat) (l : List Int) (h : Hp) : Prop :=
  ∃ b : Nat, h = [(p, .cells #[.slice (some ⟨b, 0, none⟩) l.length l.length] 107 (0, 0)), (b, .cells (ints l).toArray 3 (0, 0))] ∧ l.length ≤ 64 ∧ ∀ x ∈ l, I64 x

def tblOk (l : List Int) (i : Int) : Bool := decide (0 ≤ i ∧ i < l.length)
def tblGet (l : List Int) (i : Int) : Int := if tblOk l i then l.getD i.toNat 0 else 0
def tblErr (l : List Int) (i : Int) : Int := if tblOk l i then 0 else 3
def tblSet (l : List Int) (i v : Int) : List Int := if tblOk l i then l.set i.toNat v else l

theorem tbl_cell {w : World} {b : Nat} {l : List Int} {T : TypeId} (h : w.heap[b]? = some (.cells (ints l).toArray T (0, 0))) (i : Nat) (hi : i < l.length) :
    w.cell? ⟨b, i, none⟩ = some (.int .i64 (l.getD i 0)) := by
  rw [cell_of h]
  simp [ints, List.getD, hi]

set_option maxRecDepth 100000 in
set_option maxHeartbeats 1000000 in
theorem table_get (p : Nat) (l : List Int) (i : Int) (w : World) (h : Hp) (hi : In w h) (ht : TableH p l h) :
    Calls Tryz.prog 43 #[.pointer (some ⟨p, 0, none⟩), .int .i64 i] w fun e w' => e = .returned (.tuple #[.int .i64 (tblGet l i), .int .i64 (tblErr l i)]) ∧ w = w' := by
  obtain ⟨b, rfl, hl, hu⟩ := ht
  have e0 : w.cell? ⟨p, 0, none⟩ = some (.slice (some ⟨b, 0, none⟩) l.length l.length) := cell_of hi.head 0
  by_cases hh : 0 ≤ i ∧ i < l.length
  · have h1 : tblGet l i = l.getD i.toNat 0 := by simp [tblGet, tblOk, hh]
    have h2 : tblErr l i = 0 := by simp [tblErr, tblOk, hh]
    rw [h1, h2]
    obtain ⟨k, rfl⟩ : ∃ k : Nat, i = k := ⟨i.toNat, by omega⟩
    have hk : k < l.length := by omega
    have e2 := tbl_cell hi.tail.head k hk
    clear h1 h2 hh
    rw [Int.toNat_natCast]
    generalize l.getD k 0 = z at *
    go_enter Tryz.func43, Tryz.ntmps43
    go_wp2
    go_ret2
    exact ⟨rfl, rfl⟩
  · have h1 : tblGet l i = 0 := by simp [tblGet, tblOk, hh]
    have h2 : tblErr l i = 3 := by simp [tblErr, tblOk, hh]
    rw [h1, h2]
    clear h1 h2
    by_cases hp : 0 ≤ i
    · have hq : (l.length : Int) ≤ i := by omega
      clear hh
      go_enter Tryz.func43, Tryz.ntmps43
      go_wp2
      go_ret2
      exact ⟨rfl, rfl⟩
    · clear hh
      go_enter Tryz.func43, Tryz.ntmps43
      go_wp2
      go_ret2
      exact ⟨rfl, rfl⟩

theorem I64_set {l : List Int} {k : Nat} {v : Int} (h : ∀ x ∈ l, I64 x) (hv : I64 v) : ∀ x ∈ l.set k v, I64 x := by
  intro x hx
  rcases List.mem_or_eq_of_mem_set hx with h1 | h1
  · exact h x h1
  · exact h1 ▸ hv

set_option maxRecDepth 100000 in
set_option maxHeartbeats 1000000 in
theorem table_set (p : Nat) (l : List Int) (i v : Int) (w : World) (h : Hp) (hi : In w h) (ht : TableH p l h) (hv : I64 v) :
    Calls Tryz.prog 49 #[.pointer (some ⟨p, 0, none⟩), .int .i64 i, .int .i64 v] w fun e w' => e = .returned (.int .i64 (tblErr l i)) ∧ ∃ h', TableH p (tblSet l i v) h' ∧ Upd h h' w w' := by
  obtain ⟨b, rfl, hl, hu⟩ := ht
  have e0 : w.cell? ⟨p, 0, none⟩ = some (.slice (some ⟨b, 0, none⟩) l.length l.length) := cell_of hi.head 0
  by_cases hh : 0 ≤ i ∧ i < l.length
  · have h1 : tblSet l i v = l.set i.toNat v := by simp [tblSet, tblOk, hh]
    have h2 : tblErr l i = 0 := by simp [tblErr, tblOk, hh]
    rw [h1, h2]
    obtain ⟨k, rfl⟩ : ∃ k : Nat, i = k := ⟨i.toNat, by omega⟩
    have hk : k < l.length := by omega
    have e2 := tbl_cell hi.tail.head k hk
    have f2 : w.frozen? ⟨b, k, none⟩ = false := frozen_of hi.tail.head k
    clear h1 h2 hh
    rw [Int.toNat_natCast]
    have hU := Upd.store (l := [(p, _)]) (r := []) (off := k) (v := .int .i64 v) hi
    have hs : (ints l).toArray.setIfInBounds k (.int .i64 v) = (ints (l.set k v)).toArray := by simp [ints, List.map_set]
    have hH : TableH p (l.set k v) [(p, .cells #[.slice (some ⟨b, 0, none⟩) l.length l.length] 107 (0, 0)), (b, .cells ((ints l).toArray.setIfInBounds k (.int .i64 v)) 3 (0, 0))] :=
      ⟨b, by rw [hs]; simp, by simpa using hl, I64_set hu hv⟩
    clear hs
    go_enter Tryz.func49, Tryz.ntmps49
    go_wp2
    go_ret
    exact ⟨rfl, _, hH, hU⟩
  · have h1 : tblSet l i v = l := by simp [tblSet, tblOk, hh]
    have h2 : tblErr l i = 3 := by simp [tblErr, tblOk, hh]
    rw [h1, h2]
    clear h1 h2
    by_cases hp : 0 ≤ i
    · have hq : (l.length : Int) ≤ i := by omega
      clear hh
      go_enter Tryz.func49, Tryz.ntmps49
      go_wp2
      go_ret
      exact ⟨rfl, _, ⟨b, rfl, hl, hu⟩, Upd.refl hi⟩
    · clear hh
      go_enter Tryz.func49, Tryz.ntmps49
      go_wp2
      go_ret
      exact ⟨rfl, _, ⟨b, rfl, hl, hu⟩, Upd.refl hi⟩

theorem Tryz.infoInt : (Tryz.prog.info? 3).map (fun i => (i.zero, i.size, i.bytes)) = some (some (.int .i64 0), 1, 8) := by kernel_rfl

set_option maxRecDepth 100000 in
set_option maxHeartbeats 1000000 in
theorem table_new (n : Nat) (w : World) (h0 : 0 < n) (h1 : n ≤ 64) :
    Calls Tryz.prog 20 #[.int .i64 n] w fun e w' => ∃ p h', e = .returned (.pointer (some ⟨p, 0, none⟩)) ∧ TableH p (List.replicate n 0) h' ∧ Upd [] h' w w' := by
  have hm := run_make1 (P := Tryz.prog) w 59 3 (.int .i64 0) 8 Tryz.underlying59 Tryz.infoInt rfl n (by omega) (by decide)
  have hU := (Upd.alloc (In.nil w) (.cells (List.replicate n (Value.int .i64 0)).toArray 3 (0, 0))).alloc' (.cells #[.slice (some ⟨w.heap.size, 0, none⟩) n n] 107 (0, 0))
  have hH : TableH (w.heap.size + 1) (List.replicate n 0) [(w.heap.size + 1, .cells #[.slice (some ⟨w.heap.size, 0, none⟩) n n] 107 (0, 0)), (w.heap.size, .cells (List.replicate n (Value.int .i64 0)).toArray 3 (0, 0))] :=
    ⟨w.heap.size, by simp [ints], by simpa using h1, by intro x hx; simp at hx; rw [hx.2]; exact ⟨by decide, by decide⟩⟩
  have h0' : (0 : Int) < n := by omega
  have h1' : (n : Int) ≤ 64 := by omega
  generalize hR : List.replicate n (Value.int .i64 0) = R at *
  clear hR
  go_enter Tryz.func20, Tryz.ntmps20
  go_wp2
  go_ret
  exact ⟨_, _, rfl, hH, by simpa using hU⟩

end Go.Proofs.YtglbhcoikgbcmaaGreat
