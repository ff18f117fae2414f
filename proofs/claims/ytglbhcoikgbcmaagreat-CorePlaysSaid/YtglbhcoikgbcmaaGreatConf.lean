/- What each call of package conf comes to. No condition. -/
import Derived.Test.YtglbhcoikgbcmaaGreatRows
import Derived.Test.YtglbhcoikgbcmaaGreatLib
import Derived.Deep.RegionHeld3
set_option linter.unusedVariables false
set_option linter.unusedSimpArgs false
namespace Go.Proofs.YtglbhcoikgbcmaaGreat
open Go.RowKit

/-- how a heap is made -/
structure Cfg where
  handles : Int
  nursery : Int
  pages : Int
  page : Int
  card : Int
  buffer : Int
  stack : Int
  tenure : Int
  largest : Int
  minor : Int
  major : Int
  minorAt : Int
  majorAt : Int

def cfgCells (c : Cfg) : Array Value := #[.int .i64 c.handles, .int .i64 c.nursery, .int .i64 c.pages, .int .i64 c.page, .int .i64 c.card, .int .i64 c.buffer, .int .i64 c.stack, .int .i64 c.tenure, .int .i64 c.largest, .int .i64 c.minor, .int .i64 c.major, .int .i64 c.minorAt, .int .i64 c.majorAt]

def within (n a b : Int) : Bool := decide (a ≤ n ∧ n ≤ b)
def Cfg.sizes (c : Cfg) : Bool := within c.handles 1 64 && within c.nursery 8 4096 && within c.pages 0 64 && within c.page 16 256
def Cfg.rows (c : Cfg) : Bool := within c.buffer 0 256 && within c.stack 1 256 && within c.tenure 1 7 && within c.largest 0 64
def Cfg.taxes (c : Cfg) : Bool := within c.minor 0 64 && within c.major 0 64 && within c.minorAt 0 c.nursery && within c.majorAt 0 c.pages
def Cfg.ok (c : Cfg) : Bool := c.sizes && within c.card 1 c.page && decide (c.page % c.card = 0) && c.rows && c.taxes && decide (c.largest + 2 ≤ c.nursery)
def Cfg.err (c : Cfg) : Int := if c.ok then 0 else 1

theorem within_iff {n a b : Int} : within n a b = true ↔ a ≤ n ∧ n ≤ b := by simp [within]

set_option maxRecDepth 100000 in
set_option maxHeartbeats 400000 in
theorem conf_within (n a b : Int) (w : World) :
    Calls Tryz.prog 38 #[.int .i64 n, .int .i64 a, .int .i64 b] w fun e w' => e = .returned (.bool (within n a b)) ∧ w' = w := by
  by_cases h1 : a ≤ n
  · by_cases h2 : n ≤ b
    all_goals
      unfold within
      go_enter Tryz.func38, Tryz.ntmps38
      go_wp2
      go_ret
      exact ⟨by simp [h1, h2] <;> omega, rfl⟩
  · have hw : within n a b = false := by simp [within]; omega
    rw [hw]
    clear hw
    go_enter Tryz.func38, Tryz.ntmps38
    go_wp2
    go_ret
    exact ⟨by simp [h1] <;> omega, rfl⟩

set_option maxRecDepth 100000 in
set_option maxHeartbeats 400000 in
theorem conf_all (b0 b1 b2 b3 : Bool) (p : Nat) (w : World)
    (c0 : w.cell? ⟨p, 0, none⟩ = some (.bool b0)) (c1 : w.cell? ⟨p, 1, none⟩ = some (.bool b1)) (c2 : w.cell? ⟨p, 2, none⟩ = some (.bool b2)) (c3 : w.cell? ⟨p, 3, none⟩ = some (.bool b3)) :
    Calls Tryz.prog 37 #[.slice (some ⟨p, 0, none⟩) 4 4] w fun e w' => e = .returned (.bool (b0 && b1 && b2 && b3)) ∧ w' = w := by
  obtain ⟨f, hf⟩ : ∃ f : Nat → Bool, f = fun i => [b0, b1, b2, b3].getD i true := ⟨_, rfl⟩
  have hc : ∀ k, k < 4 → w.cell? ⟨p, k, none⟩ = some (.bool (f k)) := by
    intro k hk
    subst hf
    match k, hk with
    | 0, _ => exact c0
    | 1, _ => exact c1
    | 2, _ => exact c2
    | 3, _ => exact c3
  have hres : (b0 && b1 && b2 && b3) = (f 0 && f 1 && f 2 && f 3) := by subst hf; rfl
  rw [hres]
  clear hres hf c0 c1 c2 c3
  have H := Lib.hid hc
  clear hc
  go_enter Tryz.func37, Tryz.ntmps37
  go_wp2
  go_loop [7] (fun i => ∃ k : Nat, k ≤ 4 ∧ i = .int .i64 k ∧ ∀ j, j < k → f j = true) (fun i => 4 - (intOf i).toNat)
  case atStart => exact ⟨0, by omega, rfl, by intro j hj; omega⟩
  case round =>
    obtain ⟨k, hk, rfl, hall⟩ := hrel
    have HA := Lib.hid hall
    clear hall
    by_cases hlt : k < 4
    · have e := H.out k hlt
      cases hfk : f k
      · rw [hfk] at e
        have hfin : (f 0 && f 1 && f 2 && f 3) = false := by
          match k, hlt, hfk with
          | 0, _, h => simp [h]
          | 1, _, h => simp [h]
          | 2, _, h => simp [h]
          | 3, _, h => simp [h]
        go_wp2
        go_ret
        exact ⟨rfl, rfl⟩
      · rw [hfk] at e
        go_wp2
        go_round
        case rel => exact ⟨k + 1, by omega, by go_num, by intro j hj; rcases Nat.lt_succ_iff_lt_or_eq.1 hj with h | h; exact HA.out j h; rw [h]; exact hfk⟩
        case measure => simp [intOf]; omega
    · obtain rfl : k = 4 := by omega
      have h0 := HA.out 0 (by omega)
      have h1 := HA.out 1 (by omega)
      have h2 := HA.out 2 (by omega)
      have h3 := HA.out 3 (by omega)
      go_wp2
      go_ret
      exact ⟨by simp, rfl⟩

def Cfg.mature (c : Cfg) : Int := 1 + 2 * c.nursery
def Cfg.words (c : Cfg) : Int := c.mature + c.pages * c.page

/-- small enough -/
def Cfg.Small (c : Cfg) : Prop := 0 ≤ c.nursery ∧ c.nursery ≤ 4096 ∧ 0 ≤ c.pages ∧ c.pages ≤ 64 ∧ 0 ≤ c.page ∧ c.page ≤ 256
theorem Cfg.prod_small {c : Cfg} (h : c.Small) : 0 ≤ c.pages * c.page ∧ c.pages * c.page ≤ 16384 := by
  obtain ⟨_, _, h3, h4, h5, h6⟩ := h
  exact ⟨Int.mul_nonneg h3 h5, by have := Int.mul_le_mul h4 h6 h5 (by omega : (0:Int) ≤ 64); omega⟩

set_option maxRecDepth 100000 in
set_option maxHeartbeats 400000 in
theorem conf_mature (c : Cfg) (w : World) (hs : c.Small) :
    Calls Tryz.prog 12 #[.agg (cfgCells c)] w fun e w' => e = .returned (.int .i64 c.mature) ∧ Upd [] [] w w' := by
  have hU := Upd.skip (In.nil w) (.cells (cfgCells c) 24 (0, 0))
  obtain ⟨h1, h2, h3, h4, h5, h6⟩ := hs
  rcases c with ⟨handles, nursery, pages, page, card, buffer, stack, tenure, largest, minor, major, minorAt, majorAt⟩
  simp only [cfgCells, Cfg.mature] at *
  go_enter Tryz.func12, Tryz.ntmps12
  go_wp2
  go_ret
  exact ⟨rfl, hU⟩

/-- the cells of a configuration that lies in memory -/
def CfgCells (w : World) (b : Nat) (c : Cfg) : Prop := w.cell? ⟨b, 0, none⟩ = some (.int .i64 c.handles) ∧ w.cell? ⟨b, 1, none⟩ = some (.int .i64 c.nursery) ∧ w.cell? ⟨b, 2, none⟩ = some (.int .i64 c.pages) ∧ w.cell? ⟨b, 3, none⟩ = some (.int .i64 c.page) ∧ w.cell? ⟨b, 4, none⟩ = some (.int .i64 c.card) ∧ w.cell? ⟨b, 5, none⟩ = some (.int .i64 c.buffer) ∧ w.cell? ⟨b, 6, none⟩ = some (.int .i64 c.stack) ∧ w.cell? ⟨b, 7, none⟩ = some (.int .i64 c.tenure) ∧ w.cell? ⟨b, 8, none⟩ = some (.int .i64 c.largest) ∧ w.cell? ⟨b, 9, none⟩ = some (.int .i64 c.minor) ∧ w.cell? ⟨b, 10, none⟩ = some (.int .i64 c.major) ∧ w.cell? ⟨b, 11, none⟩ = some (.int .i64 c.minorAt) ∧ w.cell? ⟨b, 12, none⟩ = some (.int .i64 c.majorAt)
theorem cfg_cells {w : World} {b : Nat} {c : Cfg} {T : TypeId} (h : w.heap[b]? = some (.cells (cfgCells c) T (0, 0))) : CfgCells w b c :=
  ⟨cell_of h 0, cell_of h 1, cell_of h 2, cell_of h 3, cell_of h 4, cell_of h 5, cell_of h 6, cell_of h 7, cell_of h 8, cell_of h 9, cell_of h 10, cell_of h 11, cell_of h 12⟩

set_option maxRecDepth 100000 in
set_option maxHeartbeats 1000000 in
theorem conf_words (c : Cfg) (w : World) (hs : c.Small) :
    Calls Tryz.prog 14 #[.agg (cfgCells c)] w fun e w' => e = .returned (.int .i64 c.words) ∧ Upd [] [] w w' := by
  have hU := Upd.drew' (Upd.alloc (In.nil w) (.cells (cfgCells c) 24 (0, 0)))
  have hp := Cfg.prod_small hs
  have hm := conf_mature c
  have e1 : IntKind.i64.wrap (c.pages * c.page) = c.pages * c.page := IntWalk.i64_in _ (by omega)
  have e2 : IntKind.i64.wrap (c.mature + c.pages * c.page) = c.words := IntWalk.i64_in _ (by obtain ⟨h1, h2, h3, h4, h5, h6⟩ := hs; unfold Cfg.mature; omega)
  go_enter Tryz.func14, Tryz.ntmps14
  simp only [cfgCells]
  go_wp2
  go_region_held3 (fun w' => w'.cell? ⟨w.heap.size, 0, none⟩ = some (.int .i64 c.handles) ∧ w'.cell? ⟨w.heap.size, 1, none⟩ = some (.int .i64 c.nursery) ∧ w'.cell? ⟨w.heap.size, 2, none⟩ = some (.int .i64 c.pages) ∧ w'.cell? ⟨w.heap.size, 3, none⟩ = some (.int .i64 c.page) ∧ w'.cell? ⟨w.heap.size, 4, none⟩ = some (.int .i64 c.card) ∧ w'.cell? ⟨w.heap.size, 5, none⟩ = some (.int .i64 c.buffer) ∧ w'.cell? ⟨w.heap.size, 6, none⟩ = some (.int .i64 c.stack) ∧ w'.cell? ⟨w.heap.size, 7, none⟩ = some (.int .i64 c.tenure) ∧ w'.cell? ⟨w.heap.size, 8, none⟩ = some (.int .i64 c.largest) ∧ w'.cell? ⟨w.heap.size, 9, none⟩ = some (.int .i64 c.minor) ∧ w'.cell? ⟨w.heap.size, 10, none⟩ = some (.int .i64 c.major) ∧ w'.cell? ⟨w.heap.size, 11, none⟩ = some (.int .i64 c.minorAt) ∧ w'.cell? ⟨w.heap.size, 12, none⟩ = some (.int .i64 c.majorAt)) (first | go_keep | exact cfg_cells (c := c) (Upd.keep0 u1 heap_alloc_new)) (first | (go_at_call 12; refine (hm _ hs).mono ?_; rintro e w1 ⟨rfl, u1⟩))
  go_wp2
  go_ret
  exact ⟨rfl, ((Upd.skip (In.nil w) _).drew').trans u1⟩


set_option maxRecDepth 100000 in
set_option maxHeartbeats 400000 in
theorem conf_half (c : Cfg) (w : World) (hs : c.Small) :
    Calls Tryz.prog 16 #[.agg (cfgCells c), .int .i64 0] w fun e w' => e = .returned (.int .i64 1) ∧ Upd [] [] w w' := by
  have hU := Upd.skip (In.nil w) (.cells (cfgCells c) 24 (0, 0))
  obtain ⟨h1, h2, h3, h4, h5, h6⟩ := hs
  rcases c with ⟨handles, nursery, pages, page, card, buffer, stack, tenure, largest, minor, major, minorAt, majorAt⟩
  simp only [cfgCells] at *
  have hb : bits BinOp.and IntKind.i64 0 1 = 0 := by kernel_rfl
  go_enter Tryz.func16, Tryz.ntmps16
  go_wp2
  go_ret
  exact ⟨rfl, hU⟩

/-- a block of four flags -/
theorem conf_all4 (b0 b1 b2 b3 : Bool) (p : Nat) (w : World) (h : w.heap[p]? = some (.cells #[.bool b0, .bool b1, .bool b2, .bool b3] 4 (0, 0))) :
    Calls Tryz.prog 37 #[.slice (some ⟨p, 0, none⟩) 4 4] w fun e w' => e = .returned (.bool (b0 && b1 && b2 && b3)) ∧ w' = w :=
  conf_all b0 b1 b2 b3 p w (cell_of h 0) (cell_of h 1) (cell_of h 2) (cell_of h 3)

set_option maxRecDepth 100000 in
set_option maxHeartbeats 2000000 in
theorem conf_check (c : Cfg) (w : World) :
    Calls Tryz.prog 11 #[.agg (cfgCells c)] w fun e w' => e = .returned (.int .i64 c.err) ∧ Upd [] [] w w' := by
  by_cases hs : c.sizes = true
  · have hs' := hs
    simp only [Cfg.sizes, Bool.and_eq_true, within_iff] at hs'
    obtain ⟨⟨⟨s1, s2⟩, s3⟩, s4⟩ := hs'
    have hz : (within c.handles 1 64 && within c.nursery 8 4096 && within c.pages 0 64 && within c.page 16 256) = true := hs
    cases hwc : within c.card 1 c.page
    · have he : c.err = 1 := by simp [Cfg.err, Cfg.ok, hwc]
      rw [he]
      clear he hs
      go_enter Tryz.func11, Tryz.ntmps11
      simp only [cfgCells]
      go_wp2
      refine wp_tail 12 (by kernel_rfl) (by kernel_rfl) fun w1 hw1 => ?_
      subst hw1
      simp only [List.take_succ_cons, List.take_zero, List.drop_succ_cons, List.drop_zero]
      repeat (first | still_step | still_call (conf_within _ _ _ _))
      refine wpStill_nil ?_
      go_wp2_with (first | (go_at_call 37; refine Calls.mono (conf_all4 _ _ _ _ _ _ (heap_alloc_at (by simp))) ?_; rintro e w1 ⟨rfl, rfl⟩) | (go_at_call 38; refine Calls.mono (conf_within _ _ _ _) ?_; rintro e w1 ⟨rfl, rfl⟩))
      go_ret
      exact ⟨rfl, (((Upd.skip (In.nil w) _).drew').skip' _)⟩
    · have hc := within_iff.1 hwc
      obtain ⟨k1, k2⟩ := hc
      by_cases hrem : c.page % c.card = 0
      · have hrem' : (c.page % c.card == 0) = true := by simpa using hrem
        have hrem'' : (c.page % c.card != 0) = false := by simpa using hrem
        cases hr : c.rows
        · have he : c.err = 1 := by simp [Cfg.err, Cfg.ok, hr]
          have hzr : (within c.buffer 0 256 && within c.stack 1 256 && within c.tenure 1 7 && within c.largest 0 64) = false := hr
          rw [he]
          clear he hs
          go_enter Tryz.func11, Tryz.ntmps11
          simp only [cfgCells]
          go_wp2
          refine wp_tail 12 (by kernel_rfl) (by kernel_rfl) fun w1 hw1 => ?_
          subst hw1
          simp only [List.take_succ_cons, List.take_zero, List.drop_succ_cons, List.drop_zero]
          repeat (first | still_step | still_call (conf_within _ _ _ _))
          refine wpStill_nil ?_
          go_wp2_with (first | (go_at_call 37; refine Calls.mono (conf_all4 _ _ _ _ _ _ (heap_alloc_at (by simp))) ?_; rintro e w1 ⟨rfl, rfl⟩) | (go_at_call 38; refine Calls.mono (conf_within _ _ _ _) ?_; rintro e w1 ⟨rfl, rfl⟩))
          refine wp_tail 12 (by kernel_rfl) (by kernel_rfl) fun w1 hw1 => ?_
          subst hw1
          simp only [List.take_succ_cons, List.take_zero, List.drop_succ_cons, List.drop_zero]
          repeat (first | still_step | still_call (conf_within _ _ _ _))
          refine wpStill_nil ?_
          go_wp2_with (first | (go_at_call 37; refine Calls.mono (conf_all4 _ _ _ _ _ _ (heap_alloc_at (by simp))) ?_; rintro e w1 ⟨rfl, rfl⟩) | (go_at_call 38; refine Calls.mono (conf_within _ _ _ _) ?_; rintro e w1 ⟨rfl, rfl⟩))
          refine wp_tail 16 (by kernel_rfl) (by kernel_rfl) fun w1 hw1 => ?_
          subst hw1
          simp only [List.take_succ_cons, List.take_zero, List.drop_succ_cons, List.drop_zero]
          repeat (first | still_step | still_call (conf_within _ _ _ _))
          refine wpStill_nil ?_
          go_wp2_with (first | (go_at_call 37; refine Calls.mono (conf_all4 _ _ _ _ _ _ (heap_alloc_at (by simp))) ?_; rintro e w1 ⟨rfl, rfl⟩) | (go_at_call 38; refine Calls.mono (conf_within _ _ _ _) ?_; rintro e w1 ⟨rfl, rfl⟩))
          go_ret
          exact ⟨rfl, (((((((Upd.skip (In.nil w) _).drew').skip' _).drew').skip' _).drew').skip' _)⟩
        · have hzr : (within c.buffer 0 256 && within c.stack 1 256 && within c.tenure 1 7 && within c.largest 0 64) = true := hr
          have hr2 := hzr
          simp only [Bool.and_eq_true, within_iff] at hr2
          obtain ⟨_, l1, l2⟩ := hr2
          cases ht : c.taxes
          · have he : c.err = 1 := by simp [Cfg.err, Cfg.ok, ht]
            have hzt : (within c.minor 0 64 && within c.major 0 64 && within c.minorAt 0 c.nursery && within c.majorAt 0 c.pages) = false := ht
            rw [he]
            clear he hs
            go_enter Tryz.func11, Tryz.ntmps11
            simp only [cfgCells]
            go_wp2
            refine wp_tail 12 (by kernel_rfl) (by kernel_rfl) fun w1 hw1 => ?_
            subst hw1
            simp only [List.take_succ_cons, List.take_zero, List.drop_succ_cons, List.drop_zero]
            repeat (first | still_step | still_call (conf_within _ _ _ _))
            refine wpStill_nil ?_
            go_wp2_with (first | (go_at_call 37; refine Calls.mono (conf_all4 _ _ _ _ _ _ (heap_alloc_at (by simp))) ?_; rintro e w1 ⟨rfl, rfl⟩) | (go_at_call 38; refine Calls.mono (conf_within _ _ _ _) ?_; rintro e w1 ⟨rfl, rfl⟩))
            refine wp_tail 12 (by kernel_rfl) (by kernel_rfl) fun w1 hw1 => ?_
            subst hw1
            simp only [List.take_succ_cons, List.take_zero, List.drop_succ_cons, List.drop_zero]
            repeat (first | still_step | still_call (conf_within _ _ _ _))
            refine wpStill_nil ?_
            go_wp2_with (first | (go_at_call 37; refine Calls.mono (conf_all4 _ _ _ _ _ _ (heap_alloc_at (by simp))) ?_; rintro e w1 ⟨rfl, rfl⟩) | (go_at_call 38; refine Calls.mono (conf_within _ _ _ _) ?_; rintro e w1 ⟨rfl, rfl⟩))
            refine wp_tail 16 (by kernel_rfl) (by kernel_rfl) fun w1 hw1 => ?_
            subst hw1
            simp only [List.take_succ_cons, List.take_zero, List.drop_succ_cons, List.drop_zero]
            repeat (first | still_step | still_call (conf_within _ _ _ _))
            refine wpStill_nil ?_
            go_wp2_with (first | (go_at_call 37; refine Calls.mono (conf_all4 _ _ _ _ _ _ (heap_alloc_at (by simp))) ?_; rintro e w1 ⟨rfl, rfl⟩) | (go_at_call 38; refine Calls.mono (conf_within _ _ _ _) ?_; rintro e w1 ⟨rfl, rfl⟩))
            go_ret
            exact ⟨rfl, (((((((Upd.skip (In.nil w) _).drew').skip' _).drew').skip' _).drew').skip' _)⟩
          · have hzt : (within c.minor 0 64 && within c.major 0 64 && within c.minorAt 0 c.nursery && within c.majorAt 0 c.pages) = true := ht
            by_cases hl : c.nursery < c.largest + 2
            · have he : c.err = 1 := by simp [Cfg.err, Cfg.ok]; omega
              rw [he]
              clear he hs
              go_enter Tryz.func11, Tryz.ntmps11
              simp only [cfgCells]
              go_wp2
              refine wp_tail 12 (by kernel_rfl) (by kernel_rfl) fun w1 hw1 => ?_
              subst hw1
              simp only [List.take_succ_cons, List.take_zero, List.drop_succ_cons, List.drop_zero]
              repeat (first | still_step | still_call (conf_within _ _ _ _))
              refine wpStill_nil ?_
              go_wp2_with (first | (go_at_call 37; refine Calls.mono (conf_all4 _ _ _ _ _ _ (heap_alloc_at (by simp))) ?_; rintro e w1 ⟨rfl, rfl⟩) | (go_at_call 38; refine Calls.mono (conf_within _ _ _ _) ?_; rintro e w1 ⟨rfl, rfl⟩))
              refine wp_tail 12 (by kernel_rfl) (by kernel_rfl) fun w1 hw1 => ?_
              subst hw1
              simp only [List.take_succ_cons, List.take_zero, List.drop_succ_cons, List.drop_zero]
              repeat (first | still_step | still_call (conf_within _ _ _ _))
              refine wpStill_nil ?_
              go_wp2_with (first | (go_at_call 37; refine Calls.mono (conf_all4 _ _ _ _ _ _ (heap_alloc_at (by simp))) ?_; rintro e w1 ⟨rfl, rfl⟩) | (go_at_call 38; refine Calls.mono (conf_within _ _ _ _) ?_; rintro e w1 ⟨rfl, rfl⟩))
              refine wp_tail 16 (by kernel_rfl) (by kernel_rfl) fun w1 hw1 => ?_
              subst hw1
              simp only [List.take_succ_cons, List.take_zero, List.drop_succ_cons, List.drop_zero]
              repeat (first | still_step | still_call (conf_within _ _ _ _))
              refine wpStill_nil ?_
              go_wp2_with (first | (go_at_call 37; refine Calls.mono (conf_all4 _ _ _ _ _ _ (heap_alloc_at (by simp))) ?_; rintro e w1 ⟨rfl, rfl⟩) | (go_at_call 38; refine Calls.mono (conf_within _ _ _ _) ?_; rintro e w1 ⟨rfl, rfl⟩))
              go_ret
              exact ⟨rfl, (((((((Upd.skip (In.nil w) _).drew').skip' _).drew').skip' _).drew').skip' _)⟩
            · have he : c.err = 0 := by simp [Cfg.err, Cfg.ok, hs, hwc, hrem, hr, ht]; omega
              rw [he]
              clear he hs
              go_enter Tryz.func11, Tryz.ntmps11
              simp only [cfgCells]
              go_wp2
              refine wp_tail 12 (by kernel_rfl) (by kernel_rfl) fun w1 hw1 => ?_
              subst hw1
              simp only [List.take_succ_cons, List.take_zero, List.drop_succ_cons, List.drop_zero]
              repeat (first | still_step | still_call (conf_within _ _ _ _))
              refine wpStill_nil ?_
              go_wp2_with (first | (go_at_call 37; refine Calls.mono (conf_all4 _ _ _ _ _ _ (heap_alloc_at (by simp))) ?_; rintro e w1 ⟨rfl, rfl⟩) | (go_at_call 38; refine Calls.mono (conf_within _ _ _ _) ?_; rintro e w1 ⟨rfl, rfl⟩))
              refine wp_tail 12 (by kernel_rfl) (by kernel_rfl) fun w1 hw1 => ?_
              subst hw1
              simp only [List.take_succ_cons, List.take_zero, List.drop_succ_cons, List.drop_zero]
              repeat (first | still_step | still_call (conf_within _ _ _ _))
              refine wpStill_nil ?_
              go_wp2_with (first | (go_at_call 37; refine Calls.mono (conf_all4 _ _ _ _ _ _ (heap_alloc_at (by simp))) ?_; rintro e w1 ⟨rfl, rfl⟩) | (go_at_call 38; refine Calls.mono (conf_within _ _ _ _) ?_; rintro e w1 ⟨rfl, rfl⟩))
              refine wp_tail 16 (by kernel_rfl) (by kernel_rfl) fun w1 hw1 => ?_
              subst hw1
              simp only [List.take_succ_cons, List.take_zero, List.drop_succ_cons, List.drop_zero]
              repeat (first | still_step | still_call (conf_within _ _ _ _))
              refine wpStill_nil ?_
              go_wp2_with (first | (go_at_call 37; refine Calls.mono (conf_all4 _ _ _ _ _ _ (heap_alloc_at (by simp))) ?_; rintro e w1 ⟨rfl, rfl⟩) | (go_at_call 38; refine Calls.mono (conf_within _ _ _ _) ?_; rintro e w1 ⟨rfl, rfl⟩))
              go_ret
              exact ⟨rfl, (((((((Upd.skip (In.nil w) _).drew').skip' _).drew').skip' _).drew').skip' _)⟩
      · have hrem' : (c.page % c.card == 0) = false := by simpa using hrem
        have hrem'' : (c.page % c.card != 0) = true := by simpa using hrem
        have he : c.err = 1 := by simp [Cfg.err, Cfg.ok, hrem]
        rw [he]
        clear he hs
        go_enter Tryz.func11, Tryz.ntmps11
        simp only [cfgCells]
        go_wp2
        refine wp_tail 12 (by kernel_rfl) (by kernel_rfl) fun w1 hw1 => ?_
        subst hw1
        simp only [List.take_succ_cons, List.take_zero, List.drop_succ_cons, List.drop_zero]
        repeat (first | still_step | still_call (conf_within _ _ _ _))
        refine wpStill_nil ?_
        go_wp2_with (first | (go_at_call 37; refine Calls.mono (conf_all4 _ _ _ _ _ _ (heap_alloc_at (by simp))) ?_; rintro e w1 ⟨rfl, rfl⟩) | (go_at_call 38; refine Calls.mono (conf_within _ _ _ _) ?_; rintro e w1 ⟨rfl, rfl⟩))
        go_ret
        exact ⟨rfl, (((Upd.skip (In.nil w) _).drew').skip' _)⟩
  · have hs' : c.sizes = false := by simpa using hs
    have he : c.err = 1 := by simp [Cfg.err, Cfg.ok, hs']
    have hz : (within c.handles 1 64 && within c.nursery 8 4096 && within c.pages 0 64 && within c.page 16 256) = false := hs'
    rw [he]
    clear he hs
    go_enter Tryz.func11, Tryz.ntmps11
    simp only [cfgCells]
    go_wp2
    refine wp_tail 12 (by kernel_rfl) (by kernel_rfl) fun w1 hw1 => ?_
    subst hw1
    simp only [List.take_succ_cons, List.take_zero, List.drop_succ_cons, List.drop_zero]
    repeat (first | still_step | still_call (conf_within _ _ _ _))
    refine wpStill_nil ?_
    go_wp2_with (go_at_call 37; refine Calls.mono (conf_all4 _ _ _ _ _ _ (heap_alloc_at (by simp))) ?_; rintro e w1 ⟨rfl, rfl⟩)
    go_ret
    exact ⟨rfl, (((Upd.skip (In.nil w) _).drew').skip' _)⟩

end Go.Proofs.YtglbhcoikgbcmaaGreat
