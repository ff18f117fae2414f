/- CoreCopies of the statements' package answers true. Conditions: none. -/
import Derived.Test.YtnemfdbllmahkaaRows
import Derived.Test.YtnemfdbllmahkaaFieldsP
import Derived.Test.YtnemfdbllmahkaaAsmB
import Derived.Deep.RegionHeld3
set_option linter.unusedVariables false
set_option linter.unusedSimpArgs false
namespace Go.Proofs.Ytnemfdbllmahkaa
open Go.RowKit

theorem Upd.oldcell {w w' : World} {h : Hp} (u : Upd [] h w w') {b o : Nat} {v : Value} (hb : b < w.heap.size) (hc : w.cell? ⟨b, o, none⟩ = some v) : w'.cell? ⟨b, o, none⟩ = some v := by
  rw [u.below.cell (p := ⟨b, o, none⟩) hb]
  exact hc
theorem runS_succ (s : CoreS) (l : List StepS) (k : Nat) (h : k < l.length) : runS s (l.take (k + 1)) = stepS (runS s (l.take k)) l[k] := by
  rw [List.take_succ_eq_append_getElem h, runS_snoc]

set_option maxRecDepth 100000 in
set_option maxHeartbeats 4000000 in
theorem coreCopies_any (a b c d : Int) (sv : Value) (l : List StepS) (ha : U8 a) (hb : U8 b) (hc : U8 c) (hd : U8 d) {w : World} (hs : IsScript w sv l) :
    Calls Try.prog 6 #[.int .u8 a, .int .u8 b, .int .u8 c, .int .u8 d, sv] w fun e w' => e = .returned (.bool true) ∧ Upd [] [] w w' := by
  have hok := cfgOf_ok ha hb hc hd
  have hcfg := law_config a b c d ha hb hc hd w
  have hh : 2 ≤ (cfgOf a b c d).handles := by have := ha.1; show 2 ≤ a % 5 + 2; omega
  obtain ⟨hfit, hlen, ao, cap, rfl, hsh⟩ := hs
  have HSc := Lib.hid hsh
  have HFt := Lib.hid hfit
  clear ha hb hc hd hsh hfit
  generalize cfgOf a b c d = C at *
  have f0 := coreNew_fine (Cfg.fits hok)
  have hC0 : (coreNew C).C = C := rfl
  have HF0 := Lib.hid (And.intro f0 hC0)
  have HOK := Lib.hid hok
  clear f0 hok hC0
  simp only [cfgCells] at hcfg
  go_enter Try.func6, Try.ntmps6
  go_wp2_with (first
    | (go_at_call 8; refine Calls.mono hcfg ?_; rintro e v0 ⟨rfl, x0⟩; clear hcfg)
    | (go_at_call 9; refine Calls.mono (core_new C HOK.out _) ?_; rintro e w0 ⟨pc, L, h0, rfl, c0, u0⟩; have U0 := x0.trans u0; clear x0 u0; simp only [ptr])
    | (go_at_call 10; refine Calls.mono (law_awake _) ?_; rintro e w1 ⟨rfl, x1⟩; have U1 := U0.under0 x1; clear U0 x1))
  have HS : Hid (∃ h, CoreH pc L (runS (coreNew C) (l.take 0)) h ∧ Upd [] h w w1) := ⟨h0, c0, U1⟩
  clear U1 c0
  go_loopw [13] (fun q wr => ∃ (k : Nat), k ≤ l.length ∧ q = .int .i64 k ∧ Hid (∃ h, CoreH pc L (runS (coreNew C) (l.take k)) h ∧ Upd [] h w wr)) (fun q _ => l.length - (intOf q).toNat)
  case atStart => exact ⟨0, by omega, rfl, HS⟩
  case round =>
    obtain ⟨k, hk, rfl, HW⟩ := hrel
    obtain ⟨h, hW⟩ := HW.out
    have hF : (runS (coreNew C) (l.take k)).Fine := HF0.out.1.run _
    by_cases hlt : k < l.length
    · by_cases h60 : k < 60
      · obtain ⟨bq, off, rfl, hbl, e0, e1, e2, e3, e4⟩ := HSc.out k hlt
        have d0 := hW.2.oldcell hbl e0
        have d1 := hW.2.oldcell hbl e1
        have d2 := hW.2.oldcell hbl e2
        have d3 := hW.2.oldcell hbl e3
        have d4 := hW.2.oldcell hbl e4
        have hdo := fun W h (hi : In W h) hc => do_step pc L (runS (coreNew C) (l.take k)) l[k] (HFt.out _ (List.getElem_mem hlt)).v hF.q W h hi hc
        rw [← runS_succ _ _ _ hlt] at hdo
        have HD := Lib.hid hdo
        have HWW := Lib.hid hW
        clear e0 e1 e2 e3 e4 hdo hF hW HW
        go_wp2_with (go_at_call 19; refine Calls.mono (HD.out _ _ HWW.out.2.inn HWW.out.1) ?_; rintro e w2 ⟨rfl, h2, c2, u2⟩; have U2 := HWW.out.2.trans u2)
        go_roundw
        case rel => exact ⟨k + 1, by omega, by go_num, _, c2, U2⟩
        case measure => simp [intOf]; omega
      · have hR := copies_law hF (by rw [run_C]; exact hh)
        obtain ⟨s, hs⟩ : ∃ s, s = runS (coreNew C) (l.take k) := ⟨_, rfl⟩
        rw [← hs] at hR hF hW
        clear hs
        obtain ⟨e1, e2, hR⟩ := hR
        obtain ⟨t, ht⟩ : ∃ t, t = tblSet s.t 0 (tblGet s.t 1) := ⟨_, rfl⟩
        obtain ⟨f1, f2, f3, f4, hR⟩ := hR t ht
        obtain ⟨t2, ht2⟩ : ∃ t2, t2 = tblSet t 1 0 := ⟨_, rfl⟩
        obtain ⟨g1, g2⟩ := hR t2 ht2
        have c1 := fun W h (hi : In W h) hc => core_stats0 pc L s W h hi hc hF.q.em
        have c2 := fun W h (hi : In W h) hc => core_copy pc L s 0 1 W h hi hc
        have c3 := fun W h (hi : In W h) hc => core_same pc L { s with t := t } 0 1 W h hi hc
        have c4 := fun W h (hi : In W h) hc => core_nil pc L { s with t := t } 1 W h hi hc
        have c5 := fun W h (hi : In W h) hc => core_stats0 pc L { s with t := t } W h hi hc (hF.q.table t).em
        have c6 := fun W h (hi : In W h) hc => core_clear pc L { s with t := t } 1 W h hi hc
        have c7 := fun W h (hi : In W h) hc => core_same pc L { s with t := t2 } 0 1 W h hi hc
        have hst : ({ s with t := t } : CoreS).stats 0 = s.stats 0 := rfl
        rw [e1, e2, ← ht] at c2
        rw [f1, f2] at c3
        rw [f3, f4] at c4
        rw [hst] at c5
        simp only [f4, ← ht2] at c6
        rw [g1, g2] at c7
        obtain ⟨T, hT⟩ : ∃ T, T = s.stats 0 := ⟨_, rfl⟩
        rw [← hT] at c1 c5
        generalize decide (tblGet s.t 1 = 0) = nv at *
        simp only [ptr, statCells] at c1 c2 c3 c4 c5 c6 c7
        have C1 := Lib.hid c1
        have C2 := Lib.hid c2
        have C3 := Lib.hid c3
        have C4 := Lib.hid c4
        have C5 := Lib.hid c5
        have C6 := Lib.hid c6
        have C7 := Lib.hid c7
        have HW0 := Lib.hid hW
        clear c1 c2 c3 c4 c5 c6 c7 e1 e2 f1 f2 f3 f4 g1 g2 hR ht ht2 hT hst hF hW HW
        go_wp2_with (first
          | (go_at_call 22; with_reducible refine Calls.mono (C1.out _ _ HW0.out.2.inn HW0.out.1) ?_; rintro e w2 ⟨rfl, u2⟩; have U2 := (HW0.out.2.trans u2).alloc' (.cells (statCells T) 46 (0, 0)); simp only [statCells] at U2)
          | (go_at_call 24; with_reducible refine Calls.mono (C2.out _ _ U2.inn.tail HW0.out.1) ?_; rintro e w3 ⟨rfl, h3, c3, u3⟩; have U3 := U2.under u3; clear U2 u2)
          | (go_at_call 25; with_reducible refine Calls.mono (C3.out _ _ U3.inn.tail c3) ?_; rintro e w4 ⟨rfl, u4⟩; have U4 := U3.under u4; clear U3 u3)
          | (go_at_call 16; with_reducible refine Calls.mono (C4.out _ _ U4.inn.tail c3) ?_; rintro e w5 ⟨rfl, u5⟩; have U5 := U4.under u5; clear U4 u4))
        have U5d := U5.drew'
        have hSd := stat_cells (d := T) U5d.inn.head
        go_region_held3 (fun w' => w'.cell? ⟨w2.heap.size, 0, none⟩ = some (.int .i64 T.allocs) ∧ w'.cell? ⟨w2.heap.size, 1, none⟩ = some (.int .i64 T.words) ∧ w'.cell? ⟨w2.heap.size, 2, none⟩ = some (.int .i64 T.promoted) ∧ w'.cell? ⟨w2.heap.size, 3, none⟩ = some (.int .i64 T.minors) ∧ w'.cell? ⟨w2.heap.size, 4, none⟩ = some (.int .i64 T.majors) ∧ w'.cell? ⟨w2.heap.size, 5, none⟩ = some (.int .i64 T.young) ∧ w'.cell? ⟨w2.heap.size, 6, none⟩ = some (.int .i64 T.old) ∧ w'.cell? ⟨w2.heap.size, 7, none⟩ = some (.int .i64 T.free))
          (first | exact hS1 | exact hSd | go_keep)
          (first | (go_at_call 22; with_reducible refine Calls.mono (C5.out _ _ U5d.inn.tail c3) ?_; rintro e w6 ⟨rfl, u6⟩; have U6 := U5d.under u6; have hS1 := stat_cells (d := T) U6.inn.head))
        go_wp2_with (first
          | (go_at_call 26; with_reducible refine Calls.mono (C6.out _ _ U6.inn.tail c3) ?_; rintro e w7 ⟨rfl, h7, c7, u7⟩; have U7 := U6.under u7)
          | (go_at_call 25; with_reducible refine Calls.mono (C7.out _ _ U7.inn.tail c7) ?_; rintro e w8 ⟨rfl, u8⟩; have U8 := U7.under u8))
        go_ret
        exact ⟨rfl, U8.forget (List.nil_sublist _)⟩
    · have hR := copies_law hF (by rw [run_C]; exact hh)
      obtain ⟨s, hs⟩ : ∃ s, s = runS (coreNew C) (l.take k) := ⟨_, rfl⟩
      rw [← hs] at hR hF hW
      clear hs
      obtain ⟨e1, e2, hR⟩ := hR
      obtain ⟨t, ht⟩ : ∃ t, t = tblSet s.t 0 (tblGet s.t 1) := ⟨_, rfl⟩
      obtain ⟨f1, f2, f3, f4, hR⟩ := hR t ht
      obtain ⟨t2, ht2⟩ : ∃ t2, t2 = tblSet t 1 0 := ⟨_, rfl⟩
      obtain ⟨g1, g2⟩ := hR t2 ht2
      have c1 := fun W h (hi : In W h) hc => core_stats0 pc L s W h hi hc hF.q.em
      have c2 := fun W h (hi : In W h) hc => core_copy pc L s 0 1 W h hi hc
      have c3 := fun W h (hi : In W h) hc => core_same pc L { s with t := t } 0 1 W h hi hc
      have c4 := fun W h (hi : In W h) hc => core_nil pc L { s with t := t } 1 W h hi hc
      have c5 := fun W h (hi : In W h) hc => core_stats0 pc L { s with t := t } W h hi hc (hF.q.table t).em
      have c6 := fun W h (hi : In W h) hc => core_clear pc L { s with t := t } 1 W h hi hc
      have c7 := fun W h (hi : In W h) hc => core_same pc L { s with t := t2 } 0 1 W h hi hc
      have hst : ({ s with t := t } : CoreS).stats 0 = s.stats 0 := rfl
      rw [e1, e2, ← ht] at c2
      rw [f1, f2] at c3
      rw [f3, f4] at c4
      rw [hst] at c5
      simp only [f4, ← ht2] at c6
      rw [g1, g2] at c7
      obtain ⟨T, hT⟩ : ∃ T, T = s.stats 0 := ⟨_, rfl⟩
      rw [← hT] at c1 c5
      generalize decide (tblGet s.t 1 = 0) = nv at *
      simp only [ptr, statCells] at c1 c2 c3 c4 c5 c6 c7
      have C1 := Lib.hid c1
      have C2 := Lib.hid c2
      have C3 := Lib.hid c3
      have C4 := Lib.hid c4
      have C5 := Lib.hid c5
      have C6 := Lib.hid c6
      have C7 := Lib.hid c7
      have HW0 := Lib.hid hW
      clear c1 c2 c3 c4 c5 c6 c7 e1 e2 f1 f2 f3 f4 g1 g2 hR ht ht2 hT hst hF hW HW
      go_wp2_with (first
        | (go_at_call 22; with_reducible refine Calls.mono (C1.out _ _ HW0.out.2.inn HW0.out.1) ?_; rintro e w2 ⟨rfl, u2⟩; have U2 := (HW0.out.2.trans u2).alloc' (.cells (statCells T) 46 (0, 0)); simp only [statCells] at U2)
        | (go_at_call 24; with_reducible refine Calls.mono (C2.out _ _ U2.inn.tail HW0.out.1) ?_; rintro e w3 ⟨rfl, h3, c3, u3⟩; have U3 := U2.under u3; clear U2 u2)
        | (go_at_call 25; with_reducible refine Calls.mono (C3.out _ _ U3.inn.tail c3) ?_; rintro e w4 ⟨rfl, u4⟩; have U4 := U3.under u4; clear U3 u3)
        | (go_at_call 16; with_reducible refine Calls.mono (C4.out _ _ U4.inn.tail c3) ?_; rintro e w5 ⟨rfl, u5⟩; have U5 := U4.under u5; clear U4 u4))
      have U5d := U5.drew'
      have hSd := stat_cells (d := T) U5d.inn.head
      go_region_held3 (fun w' => w'.cell? ⟨w2.heap.size, 0, none⟩ = some (.int .i64 T.allocs) ∧ w'.cell? ⟨w2.heap.size, 1, none⟩ = some (.int .i64 T.words) ∧ w'.cell? ⟨w2.heap.size, 2, none⟩ = some (.int .i64 T.promoted) ∧ w'.cell? ⟨w2.heap.size, 3, none⟩ = some (.int .i64 T.minors) ∧ w'.cell? ⟨w2.heap.size, 4, none⟩ = some (.int .i64 T.majors) ∧ w'.cell? ⟨w2.heap.size, 5, none⟩ = some (.int .i64 T.young) ∧ w'.cell? ⟨w2.heap.size, 6, none⟩ = some (.int .i64 T.old) ∧ w'.cell? ⟨w2.heap.size, 7, none⟩ = some (.int .i64 T.free))
        (first | exact hS1 | exact hSd | go_keep)
        (first | (go_at_call 22; with_reducible refine Calls.mono (C5.out _ _ U5d.inn.tail c3) ?_; rintro e w6 ⟨rfl, u6⟩; have U6 := U5d.under u6; have hS1 := stat_cells (d := T) U6.inn.head))
      go_wp2_with (first
        | (go_at_call 26; with_reducible refine Calls.mono (C6.out _ _ U6.inn.tail c3) ?_; rintro e w7 ⟨rfl, h7, c7, u7⟩; have U7 := U6.under u7)
        | (go_at_call 25; with_reducible refine Calls.mono (C7.out _ _ U7.inn.tail c7) ?_; rintro e w8 ⟨rfl, u8⟩; have U8 := U7.under u8))
      go_ret
      exact ⟨rfl, U8.forget (List.nil_sublist _)⟩

end Go.Proofs.Ytnemfdbllmahkaa
