/- What each call of package arena comes to. Conditions: none beyond an arena of at most 2^20 words. -/
import Derived.Test.YtglbhcoikgbcmaaGreatRows
import Derived.Test.YtglbhcoikgbcmaaGreatLib
import Derived.Test.YtglbhcoikgbcmaaGreatSlice
import Derived.StillTailTactics
import Derived.Laws.CopyOwn
set_option linter.unusedVariables false
set_option linter.unusedSimpArgs false
namespace Go.Proofs.YtglbhcoikgbcmaaGreat
open Go.RowKit

/-- words as cells -/
def cellsU (ws : List Int) : Array Value := (ws.map (Value.int .u64)).toArray
/-- each is of 64 bits -/
def U64 (x : Int) : Prop := 0 ≤ x ∧ x < 18446744073709551616

/-- an arena's two blocks: its words ws -/
def ArenaH (p : Nat) (ws : List Int) (h : Hp) : Prop :=
  ∃ (b : Nat) (n : Int), h = [(p, .cells #[.slice (some ⟨b, 0, none⟩) ws.length ws.length, .int .i64 n] 85 (0, 0)), (b, .cells (cellsU ws) 33 (0, 0))] ∧ ws.length ≤ 1048576 ∧ ∀ x ∈ ws, U64 x

set_option maxHeartbeats 400000 in
theorem arena_len (pa ba n : Nat) (w : World) 
    (h0 : w.cell? ⟨pa, 0, none⟩ = some (.slice (some ⟨ba, 0, none⟩) n n)) :
    Calls Tryz.prog 88 #[.pointer (some ⟨pa, 0, none⟩)] w fun e w' => e = .returned (.int .i64 n) ∧ w = w' := by
  go_enter Tryz.func88, Tryz.ntmps88
  go_wp2
  go_ret
  exact ⟨rfl, rfl⟩

/-- are there k words from a place on, of n -/
def hasW (n : Nat) (i k : Int) : Bool := decide (0 ≤ i ∧ 0 ≤ k ∧ i ≤ n ∧ k ≤ n - i)

set_option maxHeartbeats 400000 in
theorem arena_has (pa ba n : Nat) (i k : Int) (w : World) (hn : n ≤ 1048576)
    (h0 : w.cell? ⟨pa, 0, none⟩ = some (.slice (some ⟨ba, 0, none⟩) n n)) :
    Calls Tryz.prog 80 #[.pointer (some ⟨pa, 0, none⟩), .int .i64 i, .int .i64 k] w fun e w' => e = .returned (.bool (hasW n i k)) ∧ w = w' := by
  unfold hasW
  by_cases h1 : 0 ≤ i
  · by_cases h2 : 0 ≤ k
    · by_cases h3 : i ≤ n
      · by_cases h4 : k ≤ n - i
        all_goals
          go_enter Tryz.func80, Tryz.ntmps80
          go_wp2_with (go_at_call 88; refine (arena_len _ _ _ _ h0).mono ?_; rintro e w' ⟨rfl, rfl⟩)
          go_ret
          simp [*] <;> omega
      · go_enter Tryz.func80, Tryz.ntmps80
        go_wp2_with (go_at_call 88; refine (arena_len _ _ _ _ h0).mono ?_; rintro e w' ⟨rfl, rfl⟩)
        go_ret
        simp [*] <;> omega
    · go_enter Tryz.func80, Tryz.ntmps80
      go_wp2_with (go_at_call 88; refine (arena_len _ _ _ _ h0).mono ?_; rintro e w' ⟨rfl, rfl⟩)
      go_ret
      simp [*] <;> omega
  · go_enter Tryz.func80, Tryz.ntmps80
    go_wp2_with (go_at_call 88; refine (arena_len _ _ _ _ h0).mono ?_; rintro e w' ⟨rfl, rfl⟩)
    go_ret
    simp [*] <;> omega

theorem words_cell {w : World} {b : Nat} {ws : List Int} {T : TypeId} (h : w.heap[b]? = some (.cells (cellsU ws) T (0, 0))) (i : Nat) (hi : i < ws.length) :
    w.cell? ⟨b, i, none⟩ = some (.int .u64 (ws.getD i 0)) := by
  rw [cell_of h]
  simp [cellsU, List.getD, hi]

/-- a word, 0 where there is none -/
def rd (ws : List Int) (i : Int) : Int := if 0 ≤ i then ws.getD i.toNat 0 else 0
def wr (ws : List Int) (i : Int) (v : Int) : List Int := if 0 ≤ i then ws.set i.toNat v else ws

/-- the error of asking for k words from i on, of n -/
def errW (n : Nat) (i k : Int) : Int := if hasW n i k then 0 else 2
def ldW (ws : List Int) (i : Int) : Int := if hasW ws.length i 1 then rd ws i else 0
def stW (ws : List Int) (i v : Int) : List Int := if hasW ws.length i 1 then wr ws i v else ws

theorem cellsU_set (ws : List Int) (k : Nat) (v : Int) : (cellsU ws).setIfInBounds k (.int .u64 v) = cellsU (ws.set k v) := by
  simp [cellsU, List.map_set]

theorem U64_set {ws : List Int} {k : Nat} {v : Int} (h : ∀ x ∈ ws, U64 x) (hv : U64 v) : ∀ x ∈ ws.set k v, U64 x := by
  intro x hx
  rcases List.mem_or_eq_of_mem_set hx with h1 | h1
  · exact h x h1
  · exact h1 ▸ hv

theorem has_one {n : Nat} {i : Int} (h : hasW n i 1 = true) : ∃ k : Nat, i = k ∧ k < n := by
  unfold hasW at h
  simp at h
  exact ⟨i.toNat, by omega, by omega⟩

set_option maxHeartbeats 1000000 in
theorem arena_load (pa : Nat) (ws : List Int) (i : Int) (w : World) (h : Hp) (hi : In w h) (ha : ArenaH pa ws h) :
    Calls Tryz.prog 76 #[.pointer (some ⟨pa, 0, none⟩), .int .i64 i] w fun e w' =>
      e = .returned (.tuple #[.int .u64 (ldW ws i), .int .i64 (errW ws.length i 1)]) ∧ ∃ h', ArenaH pa ws h' ∧ Upd h h' w w' := by
  obtain ⟨b, n, rfl, hl, hu⟩ := ha
  have e0 : w.cell? ⟨pa, 0, none⟩ = some (.slice (some ⟨b, 0, none⟩) ws.length ws.length) := cell_of hi.head 0
  have e1 : w.cell? ⟨pa, 1, none⟩ = some (.int .i64 n) := cell_of hi.head 1
  have f1 : w.frozen? ⟨pa, 1, none⟩ = false := frozen_of hi.head 1
  by_cases hh : hasW ws.length i 1 = true
  · obtain ⟨k, rfl, hk⟩ := has_one hh
    have e2 := words_cell hi.tail.head k hk
    have hne : pa ≠ b := by have := hi.1; simp at this; exact this
    have hne' : b ≠ pa := hne.symm
    go_enter Tryz.func76, Tryz.ntmps76
    go_wp2_with (go_at_call 80; refine (arena_has _ _ _ _ _ _ hl e0).mono ?_; rintro e w' ⟨rfl, rfl⟩)
    go_ret2
    exact ⟨by simp [ldW, errW, hh, rd, List.getD, hk], _, ⟨b, wrap64 (n + 1), rfl, hl, hu⟩, Upd.store (l := []) (off := 1) (v := .int .i64 (wrap64 (n + 1))) hi⟩
  · have hh' : hasW ws.length i 1 = false := by simpa using hh
    go_enter Tryz.func76, Tryz.ntmps76
    go_wp2_with (go_at_call 80; refine (arena_has _ _ _ _ _ _ hl e0).mono ?_; rintro e w' ⟨rfl, rfl⟩)
    go_ret2
    exact ⟨by simp [ldW, errW, hh'], _, ⟨b, n, rfl, hl, hu⟩, Upd.refl hi⟩

set_option maxHeartbeats 1000000 in
theorem arena_store (pa : Nat) (ws : List Int) (i v : Int) (w : World) (h : Hp) (hi : In w h) (ha : ArenaH pa ws h) (hv : U64 v) :
    Calls Tryz.prog 66 #[.pointer (some ⟨pa, 0, none⟩), .int .i64 i, .int .u64 v] w fun e w' =>
      e = .returned (.int .i64 (errW ws.length i 1)) ∧ ∃ h', ArenaH pa (stW ws i v) h' ∧ Upd h h' w w' := by
  obtain ⟨b, n, rfl, hl, hu⟩ := ha
  have e0 : w.cell? ⟨pa, 0, none⟩ = some (.slice (some ⟨b, 0, none⟩) ws.length ws.length) := cell_of hi.head 0
  have e1 : w.cell? ⟨pa, 1, none⟩ = some (.int .i64 n) := cell_of hi.head 1
  have f1 : w.frozen? ⟨pa, 1, none⟩ = false := frozen_of hi.head 1
  by_cases hh : hasW ws.length i 1 = true
  · obtain ⟨k, rfl, hk⟩ := has_one hh
    have e2 := words_cell hi.tail.head k hk
    have f2 : w.frozen? ⟨b, k, none⟩ = false := frozen_of hi.tail.head k
    have hne : pa ≠ b := by have := hi.1; simp at this; exact this
    have hne' : b ≠ pa := hne.symm
    go_enter Tryz.func66, Tryz.ntmps66
    go_wp2_with (go_at_call 80; refine (arena_has _ _ _ _ _ _ hl e0).mono ?_; rintro e w' ⟨rfl, rfl⟩)
    go_ret
    refine ⟨by simp [errW, hh], _, ⟨b, wrap64 (n + 1), ?_, ?_, ?_⟩, (Upd.store' (l := [(pa, _)]) (Upd.store (l := []) (off := 1) (v := .int .i64 (wrap64 (n + 1))) hi) k (.int .u64 v))⟩
    · simp [cellsU_set, wr, stW, hh]
    · simp [wr, stW, hh]; exact hl
    · simp [wr, stW, hh]; exact U64_set hu hv
  · have hh' : hasW ws.length i 1 = false := by simpa using hh
    go_enter Tryz.func66, Tryz.ntmps66
    go_wp2_with (go_at_call 80; refine (arena_has _ _ _ _ _ _ hl e0).mono ?_; rintro e w' ⟨rfl, rfl⟩)
    go_ret
    exact ⟨by simp [errW, hh'], _, ⟨b, n, by simp [stW, hh'], by simpa [stW, hh'] using hl, by simpa [stW, hh'] using hu⟩, Upd.refl hi⟩

theorem Upd.row {w : World} {l r : Hp} {b : Nat} {arr arr' : Array Value} {T : TypeId} {fr : Nat × Nat} (hi : In w (l ++ (b, .cells arr T fr) :: r)) :
    Upd (l ++ (b, .cells arr T fr) :: r) (l ++ (b, .cells arr' T fr) :: r) w (w.setRow b arr') where
  inn := by
    have hn := hi.1
    have hne : ∀ x ∈ l ++ r, x.1 ≠ b := by
      intro x hx e
      simp only [List.map_append, List.map_cons, List.nodup_append, List.nodup_cons] at hn
      rcases List.mem_append.1 hx with hx | hx
      · exact hn.2.2 x.1 (List.mem_map_of_mem hx) b (List.mem_cons_self ..) e
      · exact hn.2.1.1 (e ▸ List.mem_map_of_mem hx)
    refine ⟨by simpa using hn, ?_⟩
    intro x hx
    rcases List.mem_append.1 hx with hx | hx
    · rw [setRow_other w b x.1 arr' (hne x (List.mem_append_left _ hx))]
      exact hi.2 x (List.mem_append_left _ hx)
    · rcases List.mem_cons.1 hx with rfl | hx
      · exact setRow_heap w b arr arr' T fr (hi.2 (b, .cells arr T fr) (List.mem_append_right _ (List.mem_cons_self ..)))
      · rw [setRow_other w b x.1 arr' (hne x (List.mem_append_right _ hx))]
        exact hi.2 x (List.mem_append_right _ (List.mem_cons_of_mem _ hx))
  os := rfl
  tape := rfl
  output := rfl
  size := by simp [World.setRow]
  frame := fun k hk hn => setRow_other w b k arr' (by intro e; subst e; exact hn (by simp))
  fresh := fun k hk => .inl (by simpa using hk)
theorem Upd.row' {w0 w : World} {h l r : Hp} {b : Nat} {arr : Array Value} {T : TypeId} {fr : Nat × Nat} (a : Upd h (l ++ (b, .cells arr T fr) :: r) w0 w) (arr' : Array Value) :
    Upd h (l ++ (b, .cells arr' T fr) :: r) w0 (w.setRow b arr') := a.trans (Upd.row a.inn)

/-- n words from a place on are others -/
def lay (ws : List Int) (i : Nat) (xs : List Int) : List Int := ws.take i ++ xs ++ ws.drop (i + xs.length)

def zeroW (ws : List Int) (i : Int) (n : Nat) : List Int := if hasW ws.length i n then lay ws i.toNat (List.replicate n 0) else ws

theorem cells_lay (ws : List Int) (i : Nat) (xs : List Int) :
    ((cellsU ws).toList.take i ++ xs.map (Value.int .u64) ++ (cellsU ws).toList.drop (i + (xs.map (Value.int .u64)).length)).toArray = cellsU (lay ws i xs) := by
  simp [cellsU, lay, List.map_take, List.map_drop]

theorem U64_lay {ws : List Int} {i : Nat} {xs : List Int} (h : ∀ x ∈ ws, U64 x) (hx : ∀ x ∈ xs, U64 x) : ∀ x ∈ lay ws i xs, U64 x := by
  intro x hm
  simp only [lay, List.mem_append] at hm
  rcases hm with (hm | hm) | hm
  · exact h x (List.mem_of_mem_take hm)
  · exact hx x hm
  · exact h x (List.mem_of_mem_drop hm)

theorem length_lay (ws : List Int) (i : Nat) (xs : List Int) (h : i + xs.length ≤ ws.length) : (lay ws i xs).length = ws.length := by
  simp [lay]; omega

theorem run_clear (w : World) (T ty : TypeId) (b o n c : Nat) (ws : List Int) (hu : Tryz.prog.underlying T = some (.slice 33)) 
    (hg : w.heap[b]? = some (.cells (cellsU ws) 33 (0, 0))) (hn : 0 < n) (hfit : o + n ≤ ws.length) :
    (Builtin.clear_ #[T] ty #[.slice (some ⟨b, o, none⟩) n c]).run Tryz.prog w = .ok (.tuple #[]) (w.setRow b (cellsU (lay ws o (List.replicate n 0)))) := by
  have hst := run_storeCells_at Tryz.prog b o 33 (List.replicate n (Value.int .u64 0)) 0 (cellsU ws) w hg (by simp [cellsU]; omega) (by intro v hv; simp at hv; rw [hv.2]; rfl)
  have hz : (zeroValue 33).run Tryz.prog w = .ok (.int .u64 0) w := by kernel_rfl
  have e : (Builtin.zeroCells #[Value.int .u64 0] n).toList = List.replicate n (Value.int .u64 0) := by
    simp only [Builtin.zeroCells, Array.toList_map, Array.toList_range]
    apply List.ext_getElem (by simp)
    intro i h1 h2
    have : i % 1 = 0 := by omega
    simp [this]
  obtain ⟨m, rfl⟩ : ∃ m, n = m + 1 := ⟨n - 1, by omega⟩
  have er : List.replicate (m + 1) (Value.int .u64 0) = (List.replicate (m + 1) (0 : Int)).map (Value.int .u64) := by simp
  have hst' : (storeCells ⟨b, o, none⟩ (List.replicate (m + 1) (Value.int .u64 0))).run Tryz.prog w = .ok () (w.setRow b (cellsU (lay ws o (List.replicate (m + 1) 0)))) := by
    rw [hst, Nat.add_zero, er, cells_lay]
  simp [Builtin.clear_, run_underlying hu, hz, e, hst', Value.cells]

set_option maxRecDepth 100000 in
set_option maxHeartbeats 1000000 in
theorem arena_zero (pa : Nat) (ws : List Int) (i : Int) (n : Nat) (w : World) (h : Hp) (hi : In w h) (ha : ArenaH pa ws h) (hn : 0 < n) :
    Calls Tryz.prog 62 #[.pointer (some ⟨pa, 0, none⟩), .int .i64 i, .int .i64 n] w fun e w' =>
      e = .returned (.int .i64 (errW ws.length i n)) ∧ ∃ h', ArenaH pa (zeroW ws i n) h' ∧ Upd h h' w w' := by
  obtain ⟨b, c, rfl, hl, hu⟩ := ha
  have e0 : w.cell? ⟨pa, 0, none⟩ = some (.slice (some ⟨b, 0, none⟩) ws.length ws.length) := cell_of hi.head 0
  have e1 : w.cell? ⟨pa, 1, none⟩ = some (.int .i64 c) := cell_of hi.head 1
  have f1 : w.frozen? ⟨pa, 1, none⟩ = false := frozen_of hi.head 1
  by_cases hh : hasW ws.length i n = true
  · have hb := hh
    unfold hasW at hb
    simp at hb
    obtain ⟨k, rfl⟩ : ∃ k : Nat, i = k := ⟨i.toNat, by omega⟩
    have hk : k + n ≤ ws.length := by omega
    have hlt : k < ws.length := by omega
    clear hb
    have hne : pa ≠ b := by have := hi.1; simp at this; exact this
    have hne' : b ≠ pa := hne.symm
    have hu1 := Upd.store (l := []) (off := 1) (v := .int .i64 (wrap64 (c + n))) hi
    have hcl := fun T ty c' hT => run_clear _ T ty b k n c' ws hT (Upd.inn hu1).tail.head hn hk
    have hcl1 := hcl 77 0 (ws.length - k) Tryz.underlying77
    clear hcl
    go_enter Tryz.func62, Tryz.ntmps62
    go_wp2_with (go_at_call 80; refine (arena_has _ _ _ _ _ _ hl e0).mono ?_; rintro e w' ⟨rfl, rfl⟩)
    go_ret
    have hz : zeroW ws k n = lay ws k (List.replicate n 0) := by simp [zeroW, hh]
    have hll := length_lay ws k (List.replicate n 0) (by simpa using hk)
    refine ⟨by simp [errW, hh], _, ⟨b, wrap64 (c + n), ?_, ?_, ?_⟩, Upd.row' (l := [(pa, _)]) hu1 (cellsU (lay ws k (List.replicate n 0)))⟩
    · rw [hz, hll]; rfl
    · rw [hz, hll]; exact hl
    · rw [hz]; exact U64_lay hu (by intro x hx; simp at hx; rw [hx.2]; exact ⟨by decide, by decide⟩)
  · have hh' : hasW ws.length i n = false := by simpa using hh
    have hz : zeroW ws i n = ws := by simp [zeroW, hh']
    rw [hz]
    go_enter Tryz.func62, Tryz.ntmps62
    go_wp2_with (go_at_call 80; refine (arena_has _ _ _ _ _ _ hl e0).mono ?_; rintro e w' ⟨rfl, rfl⟩)
    go_ret
    exact ⟨by simp [errW, hh'], _, ⟨b, c, rfl, hl, hu⟩, Upd.refl hi⟩

/-- n words from a place on -/
def seg (ws : List Int) (i n : Nat) : List Int := (ws.drop i).take n
def copyOk (ws : List Int) (i j : Int) (n : Nat) : Bool := hasW ws.length i n && hasW ws.length j n
def copyW (ws : List Int) (i j : Int) (n : Nat) : List Int := if copyOk ws i j n then lay ws j.toNat (seg ws i.toNat n) else ws
def copyE (ws : List Int) (i j : Int) (n : Nat) : Int := if copyOk ws i j n then 0 else 2
theorem U64_seg {ws : List Int} {i n : Nat} (h : ∀ x ∈ ws, U64 x) : ∀ x ∈ seg ws i n, U64 x := fun x hx => h x (List.mem_of_mem_drop (List.mem_of_mem_take hx))
theorem length_seg (ws : List Int) (i n : Nat) (h : i + n ≤ ws.length) : (seg ws i n).length = n := by simp [seg]; omega

theorem run_copy (w : World) (T ty : TypeId) (b o c s sc n : Nat) (ws : List Int) (hu : Tryz.prog.underlying T = some (.slice 33)) 
    (hg : w.heap[b]? = some (.cells (cellsU ws) 33 (0, 0))) (hfit : o + n ≤ ws.length) (hs : s + n ≤ ws.length) :
    (Builtin.copy_ #[T, T] ty #[.slice (some ⟨b, o, none⟩) n c, .slice (some ⟨b, s, none⟩) n sc]).run Tryz.prog w = .ok (goInt n) (w.setRow b (cellsU (lay ws o (seg ws s n)))) := by
  have hlen := length_seg ws s n hs
  have h := run_copy_row Tryz.prog w T T ty 33 b o n c ⟨b, s, none⟩ n sc (cellsU ws) 33 ((seg ws s n).map (Value.int .u64)) hu (by kernel_rfl) hg (by simp [hlen])
    (by
      intro j v hj
      have hj' := hj
      simp only [List.getElem?_map, Option.map_eq_some_iff] at hj'
      obtain ⟨x, hx, rfl⟩ := hj'
      have hjn : j < n := by have := (List.getElem?_eq_some_iff.1 hx).1; omega
      have hadd : (⟨b, s, none⟩ : Addr).add j = ⟨b, s + j, none⟩ := by unfold Addr.add; split <;> simp_all
      rw [hadd, cell_of hg]
      simp only [seg, List.getElem?_take, List.getElem?_drop] at hx
      rw [if_pos hjn] at hx
      simp [cellsU, hx])
    (by simp [cellsU, hlen]; exact hfit) (by intro v hv; simp at hv; obtain ⟨x, _, rfl⟩ := hv; rfl)
  rw [cells_lay] at h
  simpa [hlen] using h

set_option maxRecDepth 100000 in
set_option maxHeartbeats 1000000 in
theorem arena_copy (pa : Nat) (ws : List Int) (i j : Int) (n : Nat) (w : World) (h : Hp) (hi : In w h) (ha : ArenaH pa ws h) (hn : 0 < n) :
    Calls Tryz.prog 87 #[.pointer (some ⟨pa, 0, none⟩), .int .i64 i, .int .i64 j, .int .i64 n] w fun e w' =>
      e = .returned (.int .i64 (copyE ws i j n)) ∧ ∃ h', ArenaH pa (copyW ws i j n) h' ∧ Upd h h' w w' := by
  obtain ⟨b, c, rfl, hl, hu⟩ := ha
  have e0 : w.cell? ⟨pa, 0, none⟩ = some (.slice (some ⟨b, 0, none⟩) ws.length ws.length) := cell_of hi.head 0
  have e1 : w.cell? ⟨pa, 1, none⟩ = some (.int .i64 c) := cell_of hi.head 1
  have f1 : w.frozen? ⟨pa, 1, none⟩ = false := frozen_of hi.head 1
  by_cases hh : hasW ws.length i n = true
  · by_cases hh2 : hasW ws.length j n = true
    · have hb := hh
      have hb2 := hh2
      unfold hasW at hb hb2
      simp at hb hb2
      obtain ⟨k, rfl⟩ : ∃ k : Nat, i = k := ⟨i.toNat, by omega⟩
      obtain ⟨m, rfl⟩ : ∃ k : Nat, j = k := ⟨j.toNat, by omega⟩
      have hk : k + n ≤ ws.length := by omega
      have hlt : k < ws.length := by omega
      have hk2 : m + n ≤ ws.length := by omega
      have hlt2 : m < ws.length := by omega
      clear hb hb2
      have hne : pa ≠ b := by have := hi.1; simp at this; exact this
      have hne' : b ≠ pa := hne.symm
      have hu1 := Upd.drew' (Upd.store (l := []) (off := 1) (v := .int .i64 (wrap64 (c + 2 * n))) hi)
      have hcl1 := run_copy _ 77 3 b m (ws.length - m) k (ws.length - k) n ws Tryz.underlying77 (Upd.inn hu1).tail.head hk2 hk
      go_enter Tryz.func87, Tryz.ntmps87
      go_wp2_with (go_at_call 80; refine (arena_has _ _ _ _ _ _ hl e0).mono ?_; rintro e w' ⟨rfl, rfl⟩)
      have w1 : IntKind.i64.wrap ((m : Int) + n) = (m : Int) + n := IntWalk.i64_in _ (by omega)
      have w2 : IntKind.i64.wrap ((k : Int) + n) = (k : Int) + n := IntWalk.i64_in _ (by omega)
      have q1 : (m : Int) + n ≤ ws.length := by omega
      have q2 : ¬ ws.length = m := by omega
      have q3 : (k : Int) + n ≤ ws.length := by omega
      have q4 : ¬ ws.length = k := by omega
      have p1 : 0 ≤ (m : Int) + n := by omega
      have p2 : 0 ≤ (k : Int) + n := by omega
      have t1 : ((m : Int) + n).toNat = m + n := by omega
      have t2 : ((k : Int) + n).toNat = k + n := by omega
      refine wp_tail 18 (by kernel_rfl) (by kernel_rfl) fun w1 hw1 => ?_
      simp only [List.take_succ_cons, List.take_zero, List.drop_succ_cons, List.drop_zero]
      have e2 : w1.cell? ⟨pa, 0, none⟩ = some (.slice (some ⟨b, 0, none⟩) ws.length ws.length) := by subst hw1; exact cell_of hu1.inn.head 0
      rw [← hw1] at hcl1 hu1
      clear hw1
      repeat still_step
      refine wpStill_nil ?_
      go_wp2
      go_ret
      have hz : copyW ws k m n = lay ws m (seg ws k n) := by simp [copyW, copyOk, hh, hh2]
      have hll := length_lay ws m (seg ws k n) (by rw [length_seg ws k n hk]; exact hk2)
      refine ⟨by simp [copyE, copyOk, hh, hh2], _, ⟨b, wrap64 (c + 2 * n), ?_, ?_, ?_⟩, Upd.row' (l := [(pa, _)]) hu1 (cellsU (lay ws m (seg ws k n)))⟩
      · rw [hz, hll]; rfl
      · rw [hz, hll]; exact hl
      · rw [hz]; exact U64_lay hu (U64_seg hu)
    · have hh' : hasW ws.length j n = false := by simpa using hh2
      have hz : copyW ws i j n = ws := by simp [copyW, copyOk, hh']
      have hz2 : copyE ws i j n = 2 := by simp [copyE, copyOk, hh']
      rw [hz, hz2]
      go_enter Tryz.func87, Tryz.ntmps87
      go_wp2_with (go_at_call 80; refine (arena_has _ _ _ _ _ _ hl e0).mono ?_; rintro e w' ⟨rfl, rfl⟩)
      go_ret
      exact ⟨rfl, _, ⟨b, c, rfl, hl, hu⟩, Upd.refl hi⟩
  · have hh' : hasW ws.length i n = false := by simpa using hh
    have hz : copyW ws i j n = ws := by simp [copyW, copyOk, hh']
    have hz2 : copyE ws i j n = 2 := by simp [copyE, copyOk, hh']
    rw [hz, hz2]
    go_enter Tryz.func87, Tryz.ntmps87
    go_wp2_with (go_at_call 80; refine (arena_has _ _ _ _ _ _ hl e0).mono ?_; rintro e w' ⟨rfl, rfl⟩)
    go_ret
    exact ⟨rfl, _, ⟨b, c, rfl, hl, hu⟩, Upd.refl hi⟩

theorem Tryz.infoU64 : (Tryz.prog.info? 33).map (fun i => (i.zero, i.size, i.bytes)) = some (some (.int .u64 0), 1, 8) := by kernel_rfl

set_option maxRecDepth 100000 in
set_option maxHeartbeats 1000000 in
theorem arena_new (n : Nat) (w : World) (h0 : 0 < n) (h1 : n ≤ 1048576) :
    Calls Tryz.prog 13 #[.int .i64 n] w fun e w' => ∃ p h', e = .returned (.pointer (some ⟨p, 0, none⟩)) ∧ ArenaH p (List.replicate n 0) h' ∧ Upd [] h' w w' := by
  have hm := run_make1 (P := Tryz.prog) w 77 33 (.int .u64 0) 8 Tryz.underlying77 Tryz.infoU64 rfl n (by omega) (by decide)
  have hU := (Upd.alloc (In.nil w) (.cells (List.replicate n (Value.int .u64 0)).toArray 33 (0, 0))).alloc' (.cells #[.slice (some ⟨w.heap.size, 0, none⟩) n n, .int .i64 0] 85 (0, 0))
  have hH : ArenaH (w.heap.size + 1) (List.replicate n 0) [(w.heap.size + 1, .cells #[.slice (some ⟨w.heap.size, 0, none⟩) n n, .int .i64 0] 85 (0, 0)), (w.heap.size, .cells (List.replicate n (Value.int .u64 0)).toArray 33 (0, 0))] :=
    ⟨w.heap.size, 0, by simp [cellsU], by simpa using h1, by intro x hx; simp at hx; rw [hx.2]; exact ⟨by decide, by decide⟩⟩
  have h0' : (0 : Int) < n := by omega
  have h1' : (n : Int) ≤ 1048576 := by omega
  generalize hR : List.replicate n (Value.int .u64 0) = R at *
  clear hR
  go_enter Tryz.func13, Tryz.ntmps13
  go_wp2
  go_ret
  exact ⟨_, _, rfl, hH, by simpa using hU⟩

end Go.Proofs.YtglbhcoikgbcmaaGreat
