/- What New of package core comes to. Conditions: none. -/
import Derived.Test.YtglbhcoikgbcmaaGreatRows
import Derived.Test.YtglbhcoikgbcmaaGreatLib
import Derived.Test.YtglbhcoikgbcmaaGreatCoreG
import Derived.Deep.RegionHeld3
set_option linter.unusedVariables false
set_option linter.unusedSimpArgs false
namespace Go.Proofs.YtglbhcoikgbcmaaGreat
open Go.RowKit

/-- an empty heap -/
def coreNew (c : Cfg) : CoreS where
  C := c
  ws := List.replicate c.words.toNat 0
  y := youngNew 1 c.nursery
  o := ⟨c.mature, c.page, List.replicate c.pages.toNat pg0⟩
  r := ⟨c.mature, c.pages * c.page, c.card, c.buffer, ⟨c.buffer, []⟩, cardNew c.mature (c.pages * c.page) c.card, ⟨c.buffer, []⟩, cardNew c.mature (c.pages * c.page) c.card⟩
  g := ⟨c.stack, [], false⟩
  t := List.replicate c.handles.toNat 0
  parity := 0
  phase := 0
  moving := false
  scan := 0
  copied := 0
  look := -1
  row := []
  done := stat0

structure Cfg.Fits (c : Cfg) : Prop where
  h1 : 1 ≤ c.handles
  h2 : c.handles ≤ 64
  n1 : 8 ≤ c.nursery
  n2 : c.nursery ≤ 4096
  p1 : 0 ≤ c.pages
  p2 : c.pages ≤ 64
  g1 : 16 ≤ c.page
  g2 : c.page ≤ 256
  c1 : 1 ≤ c.card
  c2 : c.card ≤ c.page
  c3 : c.page % c.card = 0
  b1 : 0 ≤ c.buffer
  b2 : c.buffer ≤ 256
  s1 : 1 ≤ c.stack
  s2 : c.stack ≤ 256
  t1 : 1 ≤ c.tenure
  t2 : c.tenure ≤ 7
  l1 : 0 ≤ c.largest
  l2 : c.largest ≤ 64
  l3 : c.largest + 2 ≤ c.nursery

theorem Cfg.fits {c : Cfg} (h : c.ok = true) : c.Fits := by
  simp only [Cfg.ok, Cfg.sizes, Cfg.rows, Cfg.taxes, Bool.and_eq_true, within_iff, decide_eq_true_eq] at h
  obtain ⟨⟨⟨⟨⟨⟨⟨⟨a1, a2⟩, a3⟩, a4⟩, hc⟩, hm⟩, ⟨⟨⟨r1, r2⟩, r3⟩, r4⟩⟩, ht⟩, hl⟩ := h
  exact ⟨by omega, by omega, by omega, by omega, by omega, by omega, by omega, by omega, by omega, by omega, by omega, by omega, by omega, by omega, by omega, by omega, by omega, by omega, by omega, by omega⟩

theorem Cfg.Fits.small {c : Cfg} (h : c.Fits) : c.Small := ⟨by have := h.n1; omega, h.n2, h.p1, h.p2, by have := h.g1; omega, h.g2⟩

theorem perm7 {α : Type} (x : α) (a b c d e f : List α) : (x :: (f ++ (e ++ (d ++ (c ++ (b ++ a)))))).Perm ([[x], a, b, c, d, e, f, []].flatten) := by
  have h1 : (b ++ a).Perm (a ++ b) := List.perm_append_comm
  have h2 : (c ++ (b ++ a)).Perm (a ++ b ++ c) := List.perm_append_comm.trans (h1.append_right c)
  have h3 : (d ++ (c ++ (b ++ a))).Perm (a ++ b ++ c ++ d) := List.perm_append_comm.trans (h2.append_right d)
  have h4 : (e ++ (d ++ (c ++ (b ++ a)))).Perm (a ++ b ++ c ++ d ++ e) := List.perm_append_comm.trans (h3.append_right e)
  have h5 : (f ++ (e ++ (d ++ (c ++ (b ++ a))))).Perm (a ++ b ++ c ++ d ++ e ++ f) := List.perm_append_comm.trans (h4.append_right f)
  simpa using h5.cons x

set_option maxRecDepth 100000 in
set_option maxHeartbeats 1000000 in
theorem core_new_bad (c : Cfg) (hb : c.ok = false) (w : World) :
    Calls Tryz.prog 5 #[.agg (cfgCells c)] w fun e w' => e = .returned (.tuple #[.pointer none, .int .i64 1]) ∧ Upd [] [] w w' := by
  have hcheck := conf_check c
  have he : c.err = 1 := by simp [Cfg.err, hb]
  rw [he] at hcheck
  simp only [cfgCells] at *
  go_enter Tryz.func5, Tryz.ntmps5
  go_wp2_with (go_at_call 11; refine Calls.mono (hcheck _) ?_; rintro e w1 ⟨rfl, u1⟩)
  go_ret2
  exact ⟨rfl, (Upd.skip (In.nil w) _).trans u1⟩

set_option maxRecDepth 100000 in
set_option maxHeartbeats 8000000 in
theorem core_new (c : Cfg) (hb : c.ok = true) (w : World) :
    Calls Tryz.prog 5 #[.agg (cfgCells c)] w fun e w' => ∃ pc L h', e = .returned (.tuple #[ptr pc, .int .i64 0]) ∧ CoreH pc L (coreNew c) h' ∧ Upd [] h' w w' := by
  have hcheck := conf_check c
  have he : c.err = 0 := by simp [Cfg.err, hb]
  rw [he] at hcheck
  have hf := Cfg.fits hb
  have hsm := hf.small
  obtain ⟨m1, m2⟩ := Cfg.prod_small hsm
  have hmat := conf_mature c
  have hM1 : 0 < c.mature := by have := hf.n1; unfold Cfg.mature; omega
  have hM2 : c.mature ≤ 10000 := by have := hf.n2; unfold Cfg.mature; omega
  have hWd1 : 0 < c.words := by unfold Cfg.words; omega
  have hWd2 : c.words ≤ 30000 := by unfold Cfg.words; omega
  have hWords := fun W => conf_words c W hsm
  have hHalf := fun W => conf_half c W hsm
  have hArena : ∀ W, Calls Tryz.prog 13 #[.int .i64 c.words] W fun e w' => ∃ p h', e = .returned (.pointer (some ⟨p, 0, none⟩)) ∧ ArenaH p (List.replicate c.words.toNat 0) h' ∧ Upd [] h' W w' := by
    intro W
    have := arena_new c.words.toNat W (by omega) (by omega)
    rwa [Int.toNat_of_nonneg (by omega)] at this
  have hBump := fun W => bump_new 1 c.nursery W (by decide) (by decide) (by have := hf.n1; omega) (by have := hf.n2; omega)
  have hMature : ∀ W, Calls Tryz.prog 17 #[.int .i64 c.mature, .int .i64 c.pages, .int .i64 c.page] W fun e w' => ∃ p h', e = .returned (.pointer (some ⟨p, 0, none⟩)) ∧ MatureH p ⟨c.mature, c.page, List.replicate c.pages.toNat pg0⟩ h' ∧ Upd [] h' W w' := by
    intro W
    have := mature_new c.mature c.pages.toNat c.page W hM1 (by omega) (by have := hf.p2; omega) (by have := hf.g1; omega) hf.g2
    rwa [Int.toNat_of_nonneg hf.p1] at this
  have hRem := fun W => rem_new c.mature (c.pages * c.page) c.card c.buffer W hM1 (by omega) m1 (by omega) hf.c1 (by have := hf.c2; have := hf.g2; omega) hf.b1 (by have := hf.b2; omega)
  have hGrey : ∀ W, Calls Tryz.prog 19 #[.int .i64 c.stack] W fun e w' => ∃ p h', e = .returned (.pointer (some ⟨p, 0, none⟩)) ∧ GreyH p ⟨c.stack, [], false⟩ h' ∧ Upd [] h' W w' := by
    intro W
    have := grey_new c.stack.toNat W (by have := hf.s1; omega) (by have := hf.s2; omega)
    rwa [Int.toNat_of_nonneg (by have := hf.s1; omega)] at this
  have hTable : ∀ W, Calls Tryz.prog 20 #[.int .i64 c.handles] W fun e w' => ∃ p h', e = .returned (.pointer (some ⟨p, 0, none⟩)) ∧ TableH p (List.replicate c.handles.toNat 0) h' ∧ Upd [] h' W w' := by
    intro W
    have := table_new c.handles.toNat W (by have := hf.h1; omega) (by have := hf.h2; omega)
    rwa [Int.toNat_of_nonneg (by have := hf.h1; omega)] at this
  have U0 := Upd.alloc (In.nil w) (.cells (cfgCells c) 24 (0, 0))
  have hwr : IntKind.i64.wrap (c.pages * c.page) = c.pages * c.page := IntWalk.i64_in _ (by omega)
  have HF := Lib.hid hf
  clear hf hb he m1 m2 hM1 hM2 hWd1 hWd2
  go_enter Tryz.func5, Tryz.ntmps5
  simp only [cfgCells]
  go_wp2_with (go_at_call 11; refine Calls.mono (hcheck _) ?_; rintro e w1 ⟨rfl, u1⟩; have U1 := (U0.under0 u1).drew'; have hS1 := cfg_cells (c := c) (U1.inn.mem (b := w.heap.size) (o := .cells (cfgCells c) 24 (0, 0)) (by simp)))
  go_region_held3 (fun w' => w'.cell? ⟨w.heap.size, 0, none⟩ = some (.int .i64 c.handles) ∧ w'.cell? ⟨w.heap.size, 1, none⟩ = some (.int .i64 c.nursery) ∧ w'.cell? ⟨w.heap.size, 2, none⟩ = some (.int .i64 c.pages) ∧ w'.cell? ⟨w.heap.size, 3, none⟩ = some (.int .i64 c.page) ∧ w'.cell? ⟨w.heap.size, 4, none⟩ = some (.int .i64 c.card) ∧ w'.cell? ⟨w.heap.size, 5, none⟩ = some (.int .i64 c.buffer) ∧ w'.cell? ⟨w.heap.size, 6, none⟩ = some (.int .i64 c.stack) ∧ w'.cell? ⟨w.heap.size, 7, none⟩ = some (.int .i64 c.tenure) ∧ w'.cell? ⟨w.heap.size, 8, none⟩ = some (.int .i64 c.largest) ∧ w'.cell? ⟨w.heap.size, 9, none⟩ = some (.int .i64 c.minor) ∧ w'.cell? ⟨w.heap.size, 10, none⟩ = some (.int .i64 c.major) ∧ w'.cell? ⟨w.heap.size, 11, none⟩ = some (.int .i64 c.minorAt) ∧ w'.cell? ⟨w.heap.size, 12, none⟩ = some (.int .i64 c.majorAt))
    (first | exact hS2 | exact hS1 | go_keep)
    (first | (go_at_call 12; refine Calls.mono (hmat _ hsm) ?_; rintro e w2 ⟨rfl, u2⟩; have U2 := U1.under0 u2; have hS2 := cfg_cells (c := c) (U2.inn.mem (b := w.heap.size) (o := .cells (cfgCells c) 24 (0, 0)) (by simp))))
  go_wp2
  have U3 := U2.drew'
  have hS3 := cfg_cells (c := c) (U3.inn.mem (b := w.heap.size) (o := .cells (cfgCells c) 24 (0, 0)) (by simp))
  clear hS1 hS2
  go_region_held3 (fun w' => w'.cell? ⟨w.heap.size, 0, none⟩ = some (.int .i64 c.handles) ∧ w'.cell? ⟨w.heap.size, 1, none⟩ = some (.int .i64 c.nursery) ∧ w'.cell? ⟨w.heap.size, 2, none⟩ = some (.int .i64 c.pages) ∧ w'.cell? ⟨w.heap.size, 3, none⟩ = some (.int .i64 c.page) ∧ w'.cell? ⟨w.heap.size, 4, none⟩ = some (.int .i64 c.card) ∧ w'.cell? ⟨w.heap.size, 5, none⟩ = some (.int .i64 c.buffer) ∧ w'.cell? ⟨w.heap.size, 6, none⟩ = some (.int .i64 c.stack) ∧ w'.cell? ⟨w.heap.size, 7, none⟩ = some (.int .i64 c.tenure) ∧ w'.cell? ⟨w.heap.size, 8, none⟩ = some (.int .i64 c.largest) ∧ w'.cell? ⟨w.heap.size, 9, none⟩ = some (.int .i64 c.minor) ∧ w'.cell? ⟨w.heap.size, 10, none⟩ = some (.int .i64 c.major) ∧ w'.cell? ⟨w.heap.size, 11, none⟩ = some (.int .i64 c.minorAt) ∧ w'.cell? ⟨w.heap.size, 12, none⟩ = some (.int .i64 c.majorAt))
    (first | exact hS11 | exact hS10 | exact hS9 | exact hS8 | exact hS7 | exact hS6 | exact hS5 | exact hS4 | exact hS3 | go_keep)
    (first
      | (go_at_call 14; refine Calls.mono (hWords _) ?_; rintro e w4 ⟨rfl, u4⟩; have U4 := U3.under0 u4; have hS4 := cfg_cells (c := c) (U4.inn.mem (b := w.heap.size) (o := .cells (cfgCells c) 24 (0, 0)) (by simp)); clear hS3)
      | (go_at_call 13; refine Calls.mono (hArena _) ?_; rintro e w5 ⟨p5, h5, rfl, y5, u5⟩; have U5 := U4.more u5; have hS5 := cfg_cells (c := c) (U5.inn.mem (b := w.heap.size) (o := .cells (cfgCells c) 24 (0, 0)) (by simp)); clear hS4)
      | (go_at_call 16; refine Calls.mono (hHalf _) ?_; rintro e w6 ⟨rfl, u6⟩; have U6 := U5.under0 u6; have hS6 := cfg_cells (c := c) (U6.inn.mem (b := w.heap.size) (o := .cells (cfgCells c) 24 (0, 0)) (by simp)); clear hS5)
      | (go_at_call 15; refine Calls.mono (hBump _) ?_; rintro e w7 ⟨p7, h7, rfl, y7, u7⟩; have U7 := U6.more u7; have hS7 := cfg_cells (c := c) (U7.inn.mem (b := w.heap.size) (o := .cells (cfgCells c) 24 (0, 0)) (by simp)); clear hS6)
      | (go_at_call 17; refine Calls.mono (hMature _) ?_; rintro e w8 ⟨p8, h8, rfl, y8, u8⟩; have U8 := U7.more u8; have hS8 := cfg_cells (c := c) (U8.inn.mem (b := w.heap.size) (o := .cells (cfgCells c) 24 (0, 0)) (by simp)); clear hS7)
      | (go_at_call 18; refine Calls.mono (hRem _) ?_; rintro e w9 ⟨p9, h9, rfl, y9, u9⟩; have U9 := U8.more u9; have hS9 := cfg_cells (c := c) (U9.inn.mem (b := w.heap.size) (o := .cells (cfgCells c) 24 (0, 0)) (by simp)); clear hS8)
      | (go_at_call 19; refine Calls.mono (hGrey _) ?_; rintro e w10 ⟨p10, h10, rfl, y10, u10⟩; have U10 := U9.more u10; have hS10 := cfg_cells (c := c) (U10.inn.mem (b := w.heap.size) (o := .cells (cfgCells c) 24 (0, 0)) (by simp)); clear hS9)
      | (go_at_call 20; refine Calls.mono (hTable _) ?_; rintro e w11 ⟨p11, h11, rfl, y11, u11⟩; have U11 := U10.more u11; have hS11 := cfg_cells (c := c) (U11.inn.mem (b := w.heap.size) (o := .cells (cfgCells c) 24 (0, 0)) (by simp)); clear hS10))
  go_wp2
  have UG := (U11.forget ((((((List.sublist_append_left h5 [(w.heap.size, .cells (cfgCells c) 24 (0, 0))]).append_left h7).append_left h8).append_left h9).append_left h10).append_left h11)).alloc' (coreObj ⟨p5, p7, p8, p9, p10, p11⟩ (coreNew c) (.slice none 0 0))
  have UF := UG.perm (List.Perm.refl _) (perm7 _ h5 h7 h8 h9 h10 h11)
  clear hS11 U0 U1 U2 U3 U4 U5 U6 U7 U8 U9 U10 U11 UG
  go_ret2
  exact ⟨w11.heap.size, ⟨p5, p7, p8, p9, p10, p11⟩, _, rfl, ⟨.slice none 0 0, h5, h7, h8, h9, h10, h11, [], rfl, y5, y7, y8, y9, y10, y11, SliceH.nil _ _⟩, UF⟩


end Go.Proofs.YtglbhcoikgbcmaaGreat
