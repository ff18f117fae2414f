/- What each call of package table comes to. Conditions: a table as New makes it. -/
import Derived.Test.YtnemfdbllmahkabGreatRows
import Derived.Test.YtnemfdbllmahkabGreatLib
import Derived.Test.YtnemfdbllmahkabGreatSlice
set_option linter.unusedVariables false
set_option linter.unusedSimpArgs false
namespace Go.Proofs.YtnemfdbllmahkabGreat
open Go.RowKit

/-- handles: a block for the table, one for its list -/
def TableH (p : Nat) (l : List Int) (h : Hp) : Prop :=
  ∃ b : Nat, h = [(p, .cells #[.slice (some ⟨b, 0, none⟩) l.length l.length] 76 (0, 0)), (b, .cells (ints l).toArray 3 (0, 0))] ∧ l.length ≤ 64 ∧ ∀ x ∈ l, I64 x

def tblOk (l : List Int) (i : Int) : Bool := decide (0 ≤ i ∧ i < l.length)
def tblGet (l : List Int) (i : Int) : Int := if tblOk l i then l.getD i.toNat 0 else 0
def tblErr (l : List Int) (i : Int) : Int := if tblOk l i then 0 else 3
def tblSet (l : List Int) (i v : Int) : List Int := if tblOk l i then l.set i.toNat v else l

theorem tbl_cell {w : World} {b : Nat} {l : List Int} {T : TypeId} (h : w.heap[b]? = some (.cells (ints l).toArray T (0, 0))) (i : Nat) (hi : i < l.length) :
    w.cell? ⟨b, i, none⟩ = some (.int .i64 (l.getD i 0)) := by
  rw [cell_of h]
  simp [ints, List.getD, hi]

set_option maxRecDepth 100000 in
set_option maxHeartbeats 1000000 in
theorem table_get (p : Nat) (l : List Int) (i : Int) (w : World) (h : Hp) (hi : In w h) (ht : TableH p l h) :
    Calls Tryz.prog 58 #[.pointer (some ⟨p, 0, none⟩), .int .i64 i] w fun e w' => e = .returned (.tuple #[.int .i64 (tblGet l i), .int .i64 (tblErr l i)]) ∧ w = w' := by
  obtain ⟨b, rfl, hl, hu⟩ := ht
  have e0 : w.cell? ⟨p, 0, none⟩ = some (.slice (some ⟨b, 0, none⟩) l.length l.length) := cell_of hi.head 0
  by_cases hh : 0 ≤ i ∧ i < l.length
  · have h1 : tblGet l i = l.getD i.toNat 0 := by simp [tblGet, tblOk, hh]
    have h2 : tblErr l i = 0 := by simp [tblErr, tblOk, hh]
    rw [h1, h2]
    obtain ⟨k, rfl⟩ : ∃ k : Nat, i = k := ⟨i.toNat, by omega⟩
    have hk : k < l.length := by omega
    have e2 := tbl_cell hi.tail.head k hk
    clear h1 h2 hh
    rw [Int.toNat_natCast]
    generalize l.getD k 0 = z at *
    go_enter Tryz.func58, Tryz.ntmps58
    go_wp2
    go_ret2
    exact ⟨rfl, rfl⟩
  · have h1 : tblGet l i = 0 := by simp [tblGet, tblOk, hh]
    have h2 : tblErr l i = 3 := by simp [tblErr, tblOk, hh]
    rw [h1, h2]
    clear h1 h2
    by_cases hp : 0 ≤ i
    · have hq : (l.length : Int) ≤ i := by omega
      clear hh
      go_enter Tryz.func58, Tryz.ntmps58
      go_wp2
      go_ret2
      exact ⟨rfl, rfl⟩
    · clear hh
      go_enter Tryz.func58, Tryz.ntmps58
      go_wp2
      go_ret2
      exact ⟨rfl, rfl⟩

theorem I64_set {l : List Int} {k : Nat} {v : Int} (h : ∀ x ∈ l, I64 x) (hv : I64 v) : ∀ x ∈ l.set k v, I64 x := by
  intro x hx
  rcases List.mem_or_eq_of_mem_set hx with h1 | h1
  · exact h x h1
  · exact h1 ▸ hv

set_option maxRecDepth 100000 in
set_option maxHeartbeats 1000000 in
theorem table_set (p : Nat) (l : List Int) (i v : Int) (w : World) (h : Hp) (hi : In w h) (ht : TableH p l h) (hv : I64 v) :
    Calls Tryz.prog 63 #[.pointer (some ⟨p, 0, none⟩), .int .i64 i, .int .i64 v] w fun e w' => e = .returned (.int .i64 (tblErr l i)) ∧ ∃ h', TableH p (tblSet l i v) h' ∧ Upd h h' w w' := by
  obtain ⟨b, rfl, hl, hu⟩ := ht
  have e0 : w.cell? ⟨p, 0, none⟩ = some (.slice (some ⟨b, 0, none⟩) l.length l.length) := cell_of hi.head 0
  by_cases hh : 0 ≤ i ∧ i < l.length
  · have h1 : tblSet l i v = l.set i.toNat v := by simp [tblSet, tblOk, hh]
    have h2 : tblErr l i = 0 := by simp [tblErr, tblOk, hh]
    rw [h1, h2]
    obtain ⟨k, rfl⟩ : ∃ k : Nat, i = k := ⟨i.toNat, by omega⟩
    have hk : k < l.length := by omega
    have e2 := tbl_cell hi.tail.head k hk
    have f2 : w.frozen? ⟨b, k, none⟩ = false := frozen_of hi.tail.head k
    clear h1 h2 hh
    rw [Int.toNat_natCast]
    have hU := Upd.store (l := [(p, _)]) (r := []) (off := k) (v := .int .i64 v) hi
    have hs : (ints l).toArray.setIfInBounds k (.int .i64 v) = (ints (l.set k v)).toArray := by simp [ints, List.map_set]
    have hH : TableH p (l.set k v) [(p, .cells #[.slice (some ⟨b, 0, none⟩) l.length l.length] 76 (0, 0)), (b, .cells ((ints l).toArray.setIfInBounds k (.int .i64 v)) 3 (0, 0))] :=
      ⟨b, by rw [hs]; simp, by simpa using hl, I64_set hu hv⟩
    clear hs
    go_enter Tryz.func63, Tryz.ntmps63
    go_wp2
    go_ret
    exact ⟨rfl, _, hH, hU⟩
  · have h1 : tblSet l i v = l := by simp [tblSet, tblOk, hh]
    have h2 : tblErr l i = 3 := by simp [tblErr, tblOk, hh]
    rw [h1, h2]
    clear h1 h2
    by_cases hp : 0 ≤ i
    · have hq : (l.length : Int) ≤ i := by omega
      clear hh
      go_enter Tryz.func63, Tryz.ntmps63
      go_wp2
      go_ret
      exact ⟨rfl, _, ⟨b, rfl, hl, hu⟩, Upd.refl hi⟩
    · clear hh
      go_enter Tryz.func63, Tryz.ntmps63
      go_wp2
      go_ret
      exact ⟨rfl, _, ⟨b, rfl, hl, hu⟩, Upd.refl hi⟩

theorem Tryz.infoInt : (Tryz.prog.info? 3).map (fun i => (i.zero, i.size, i.bytes)) = some (some (.int .i64 0), 1, 8) := by kernel_rfl

set_option maxRecDepth 100000 in
set_option maxHeartbeats 1000000 in
theorem slices_clone (v : Value) (n : Nat) (l : List Int) (w : World) (h : Hp) (hi : In w h) (hs : SliceH 3 1 v n (ints l) h) (hn : n ≤ 1048576) :
    Calls Tryz.prog 37 #[v] w fun e w' => ∃ v' h', e = .returned v' ∧ SliceH 3 1 v' n (ints l) h' ∧ Upd [] h' w w' := by
  by_cases hz : v = .slice none 0 0
  · subst hz
    have hn0 : n = 0 := by
      rcases hs.2 with ⟨_, h0, _⟩ | ⟨g', pre, post, cap', h1, _⟩
      · exact h0
      · cases h1
    have hl0 : ints l = [] := List.eq_nil_of_length_eq_zero (by have := hs.1; omega)
    rw [hl0, hn0]
    have hq := Lib.run_eql_slice_nil (P := Tryz.prog) w 37 3 none 0 0 0 0 Tryz.underlying37
    go_enter Tryz.func37, Tryz.ntmps37
    go_wp2
    go_ret
    exact ⟨_, _, rfl, SliceH.nil _ _, Upd.refl (In.nil w)⟩
  · obtain ⟨g, off, cap, rfl, hcap⟩ : ∃ g off cap, v = .slice (some ⟨g, off, none⟩) n cap ∧ n ≤ cap := by
      rcases hs.2 with ⟨h1, _, _⟩ | ⟨g', pre, post, cap', rfl, rfl, hc, _, _⟩
      · exact absurd h1 hz
      · exact ⟨_, _, _, rfl, hc⟩
    clear hz
    have hnews := hs.news hi rfl
    have hlen : (ints l).length = n * 1 := hs.1
    have h1 : ∀ u ∈ ints l, u.oneCell' = true := by intro u hu; simp at hu; obtain ⟨x, _, rfl⟩ := hu; rfl
    have hnews' : ∀ j u, (ints l)[j]? = some u → (w.alloc (.cells #[] 3 (0, 0))).cell? ((⟨g, off, none⟩ : Addr).add j) = some u := by
      intro j u hj
      have h2 := hnews j u hj
      rw [World.cell?_alloc_lt _ _ _ (World.block_lt_of_cell? _ _ h2)]
      exact h2
    have he : SliceH 3 1 (.slice (some ⟨w.heap.size, 0, none⟩) 0 0) 0 [] [(w.heap.size, .cells #[] 3 (0, 0))] := ⟨rfl, .inr ⟨w.heap.size, [], [], 0, rfl, rfl, Nat.le_refl _, by simp, by simp [maxLen]⟩⟩
    have hU := Upd.alloc (In.nil w) (.cells #[] 3 (0, 0))
    have hin := hU.inn
    have hmax : 0 + n ≤ maxLen := by unfold maxLen; omega
    have H1 := Lib.hid hnews'
    have H2 := Lib.hid h1
    have H3 := Lib.hid hlen
    clear hnews hnews' h1 hlen
    have hq := Lib.run_eql_slice_nil (P := Tryz.prog) w 37 3 (some ⟨g, off, none⟩) n cap 0 0 Tryz.underlying37
    go_enter Tryz.func37, Tryz.ntmps37
    go_wp2_with (at_builtin; refine wpList_append_mine rfl (.tmp 5) (.tmp 6) 37 rfl 3 1 8 (.int .i64 0) Tryz.underlying37 Tryz.infoInt rfl (by decide) (.slice (some ⟨w.heap.size, 0, none⟩) 0 0) 0 [] _ rfl he hin ⟨g, off, none⟩ n cap (ints l) rfl H1.out H3.out H2.out (Or.inr (by simp)) hmax (by omega) ?_; intro v' w1 hX' hS hU')
    go_ret
    exact ⟨v', hX', rfl, by simpa using hS, hU.trans hU'⟩

set_option maxRecDepth 100000 in
set_option maxHeartbeats 1000000 in
theorem slices_clip (v : Value) (n : Nat) (l : List Int) (w : World) (h : Hp) (hs : SliceH 3 1 v n (ints l) h) (hn : n ≤ 1048576) :
    Calls Tryz.prog 36 #[v] w fun e w' => ∃ v', e = .returned v' ∧ SliceH 3 1 v' n (ints l) h ∧ w = w' := by
  by_cases hz : v = .slice none 0 0
  · subst hz
    have hn0 : n = 0 := by
      rcases hs.2 with ⟨_, h0, _⟩ | ⟨g', pre, post, cap', h1, _⟩
      · exact h0
      · cases h1
    subst hn0
    go_enter Tryz.func36, Tryz.ntmps36
    go_wp2
    go_ret
    exact ⟨_, rfl, hs, rfl⟩
  · obtain ⟨g, off, cap, rfl, hcap⟩ : ∃ g off cap, v = .slice (some ⟨g, off, none⟩) n cap ∧ n ≤ cap := by
      rcases hs.2 with ⟨h1, _, _⟩ | ⟨g', pre, post, cap', rfl, rfl, hc, _, _⟩
      · exact absurd h1 hz
      · exact ⟨_, _, _, rfl, hc⟩
    clear hz
    have hs' := hs.clip
    go_enter Tryz.func36, Tryz.ntmps36
    go_wp2
    go_ret
    exact ⟨_, rfl, hs', rfl⟩

set_option maxRecDepth 100000 in
set_option maxHeartbeats 1000000 in
theorem table_all (p : Nat) (l : List Int) (w : World) (h : Hp) (hi : In w h) (ht : TableH p l h) :
    Calls Tryz.prog 8 #[.pointer (some ⟨p, 0, none⟩)] w fun e w' => ∃ v h', e = .returned v ∧ SliceH 3 1 v l.length (ints l) h' ∧ Upd [] h' w w' := by
  obtain ⟨b, rfl, hl, hu⟩ := ht
  have e0 : w.cell? ⟨p, 0, none⟩ = some (.slice (some ⟨b, 0, none⟩) l.length l.length) := cell_of hi.head 0
  have hs : SliceH 3 1 (.slice (some ⟨b, 0, none⟩) l.length l.length) l.length (ints l) [(b, .cells (ints l).toArray 3 (0, 0))] := SliceH.made (by simp) (by unfold maxLen; omega)
  have hc := slices_clone _ l.length l w _ hi.tail hs (by omega)
  go_enter Tryz.func8, Tryz.ntmps8
  go_wp2_with (first | (go_at_call 37; refine Calls.mono hc ?_; rintro e w1 ⟨v1, h1, rfl, s1, u1⟩) | (go_at_call 36; refine Calls.mono (slices_clip _ _ _ _ _ s1 (by omega)) ?_; rintro e w2 ⟨v2, rfl, s2, rfl⟩))
  go_ret
  exact ⟨v2, h1, rfl, s2, u1⟩

set_option maxRecDepth 100000 in
set_option maxHeartbeats 1000000 in
theorem table_new (n : Nat) (w : World) (h0 : 0 < n) (h1 : n ≤ 64) :
    Calls Tryz.prog 25 #[.int .i64 n] w fun e w' => ∃ p h', e = .returned (.pointer (some ⟨p, 0, none⟩)) ∧ TableH p (List.replicate n 0) h' ∧ Upd [] h' w w' := by
  have hm := run_make1 (P := Tryz.prog) w 37 3 (.int .i64 0) 8 Tryz.underlying37 Tryz.infoInt rfl n (by omega) (by decide)
  have hU := (Upd.alloc (In.nil w) (.cells (List.replicate n (Value.int .i64 0)).toArray 3 (0, 0))).alloc' (.cells #[.slice (some ⟨w.heap.size, 0, none⟩) n n] 76 (0, 0))
  have hH : TableH (w.heap.size + 1) (List.replicate n 0) [(w.heap.size + 1, .cells #[.slice (some ⟨w.heap.size, 0, none⟩) n n] 76 (0, 0)), (w.heap.size, .cells (List.replicate n (Value.int .i64 0)).toArray 3 (0, 0))] :=
    ⟨w.heap.size, by simp [ints], by simpa using h1, by intro x hx; simp at hx; rw [hx.2]; exact ⟨by decide, by decide⟩⟩
  have h0' : (0 : Int) < n := by omega
  have h1' : (n : Int) ≤ 64 := by omega
  generalize hR : List.replicate n (Value.int .i64 0) = R at *
  clear hR
  go_enter Tryz.func25, Tryz.ntmps25
  go_wp2
  go_ret
  exact ⟨_, _, rfl, hH, by simpa using hU⟩

end Go.Proofs.YtnemfdbllmahkabGreat
