/- CoreSteady of the statements' package answers true. Conditions: none. -/
import Derived.Test.YtnemfdbllmahkabGreatRows
import Derived.Test.YtnemfdbllmahkabGreatErrP
import Derived.Test.YtnemfdbllmahkabGreatCoreP
import Derived.Test.YtnemfdbllmahkabGreatLens
import Derived.Test.YtnemfdbllmahkabGreatAsmB
import Derived.BigQuiet
import Derived.Deep.QuietTactic
import Derived.Deep.RegionHeld3
set_option linter.unusedVariables false
set_option linter.unusedSimpArgs false
namespace Go.Proofs.YtnemfdbllmahkabGreat
open Go.RowKit

theorem Upd.oldcell {w w' : World} {h : Hp} (u : Upd [] h w w') {b o : Nat} {v : Value} (hb : b < w.heap.size) (hc : w.cell? ⟨b, o, none⟩ = some v) : w'.cell? ⟨b, o, none⟩ = some v := by
  rw [u.below.cell (p := ⟨b, o, none⟩) hb]
  exact hc
theorem runS_succ (s : CoreS) (l : List StepS) (k : Nat) (h : k < l.length) : runS s (l.take (k + 1)) = stepS (runS s (l.take k)) l[k] := by
  rw [List.take_succ_eq_append_getElem h, runS_snoc]
/-- a core, and other blocks beside it -/
def Loop (pc : Nat) (L : CoreL) (s : CoreS) (x : Hp) (w wr : World) : Prop := ∃ h, CoreH pc L s h ∧ Upd [] (x ++ h) w wr

theorem countT_none (n : Nat) : countT (List.replicate n false) = 0 := by
  unfold countT
  induction n with
  | zero => rfl
  | succ n ih => rw [List.replicate_succ]; exact ih

/-- what holds of a core that did no cycle -/
structure CoreS.Still (s : CoreS) : Prop where
  f : s.Fine
  nt : ∀ i : Nat, s.note (s.t.getD i 0) = s
  gl : s.g.list = []
  rl : s.r.nb.list = []
  rc : countT s.r.nc.marks = 0

theorem run_still {c : Cfg} (h : c.Fits) (l : List StepS) : (runS (coreNew c) l).Still := by
  have f0 := coreNew_fine h
  have hr : ∃ g loc, Rel (coreNew c) g loc := ⟨_, _, Rel.new h⟩
  obtain ⟨g, loc, r⟩ := run_rel f0 l hr
  obtain ⟨e1, e2⟩ := runS_rg f0 l hr
  have f := f0.run l
  refine ⟨f, fun i => ?_, by rw [e2]; rfl, by rw [e1]; rfl, by rw [e1]; exact countT_none _⟩
  by_cases hi : i < (runS (coreNew c) l).t.length
  · have := r.notes f i
    have e : tblGet (runS (coreNew c) l).t i = (runS (coreNew c) l).t.getD i 0 := by
      unfold tblGet
      rw [if_pos (by rw [tblOk_iff]; omega)]
      rfl
    rw [e] at this
    exact this
  · have e : (runS (coreNew c) l).t.getD i 0 = 0 := by simp [List.getD, List.getElem?_eq_none (show (runS (coreNew c) l).t.length ≤ i by omega)]
    rw [e]
    unfold CoreS.note CoreS.noteOk
    simp

theorem core_glen (pc : Nat) (L : CoreL) (s : CoreS) (w : World) (h : Hp) (hi : In w h) (hc : CoreH pc L s h) :
    Calls Tryz.prog 14 #[.pointer (some ⟨L.pg, 0, none⟩)] w fun e w' => e = .returned (.int .i64 s.g.list.length) ∧ w' = w := by
  obtain ⟨v, ha, hy, ho, hr, hg, ht, hw, rfl, ca, cy, co, cr, cg, ct, cw⟩ := hc
  exact grey_len L.pg s.g w hg (In.grey (x := []) hi) cg
theorem core_rlen (pc : Nat) (L : CoreL) (s : CoreS) (w : World) (h : Hp) (hi : In w h) (hc : CoreH pc L s h) :
    Calls Tryz.prog 15 #[.pointer (some ⟨L.pr, 0, none⟩)] w fun e w' => e = .returned (.int .i64 (s.r.nb.list.length + countT s.r.nc.marks)) ∧ Upd h h w w' := by
  obtain ⟨v, ha, hy, ho, hr, hg, ht, hw, rfl, ca, cy, co, cr, cg, ct, cw⟩ := hc
  refine Calls.mono (rem_len L.pr s.r w hr (In.rem (x := []) hi) cr) ?_
  rintro e w' ⟨rfl, n, rfl⟩
  exact ⟨rfl, Upd.drewN hi n⟩

set_option maxRecDepth 100000 in
set_option maxHeartbeats 4000000 in
theorem coreSteady_any (a b c d : Int) (sv : Value) (l : List StepS) (ha : U8 a) (hb : U8 b) (hc : U8 c) (hd : U8 d) {w : World} (hs : IsScript w sv l) :
    Calls Tryz.prog 3 #[.int .u8 a, .int .u8 b, .int .u8 c, .int .u8 d, sv] w fun e w' => e = .returned (.bool true) ∧ Upd [] [] w w' := by
  have hok := cfgOf_ok ha hb hc hd
  have hcfg := law_config a b c d ha hb hc hd w
  obtain ⟨hfit, hlen, ao, cap, rfl, hsh⟩ := hs
  have HSc := Lib.hid hsh
  have HFt := Lib.hid hfit
  clear ha hb hc hd hsh hfit
  generalize cfgOf a b c d = C at *
  have HF0 := Lib.hid (Cfg.fits hok)
  have HOK := Lib.hid hok
  clear hok
  simp only [cfgCells] at hcfg
  go_enter Tryz.func3, Tryz.ntmps3
  go_wp2_with (first
    | (go_at_call 5; refine Calls.mono hcfg ?_; rintro e v0 ⟨rfl, x0⟩; clear hcfg)
    | (go_at_call 4; refine Calls.mono (core_new C HOK.out _) ?_; rintro e w0 ⟨pc, L, h0, rfl, c0, u0⟩; have U0 := x0.trans u0; clear x0 u0; simp only [ptr])
    | (go_at_call 6; refine Calls.mono (law_awake _) ?_; rintro e w1 ⟨rfl, x1⟩; have U1 := U0.under0 x1; clear U0 x1))
  have HS : Hid (Loop pc L (runS (coreNew C) (l.take 0)) [] w w1) := ⟨h0, c0, U1⟩
  clear U1 c0
  go_loopw [13] (fun q wr => ∃ (k : Nat), k ≤ l.length ∧ q = .int .i64 k ∧ Hid (Loop pc L (runS (coreNew C) (l.take k)) [] w wr)) (fun q _ => l.length - (intOf q).toNat)
  case atStart => exact ⟨0, by omega, rfl, HS⟩
  case round =>
    obtain ⟨k, hk, rfl, HW⟩ := hrel
    obtain ⟨h, hW⟩ := HW.out
    have hF := run_still HF0.out (l.take k)
    by_cases hlt : k < l.length
    · by_cases h60 : k < 60
      · obtain ⟨bq, off, rfl, hbl, e0, e1, e2, e3, e4⟩ := HSc.out k hlt
        have d0 := hW.2.oldcell hbl e0
        have d1 := hW.2.oldcell hbl e1
        have d2 := hW.2.oldcell hbl e2
        have d3 := hW.2.oldcell hbl e3
        have d4 := hW.2.oldcell hbl e4
        have hdo := fun W h (hi : In W h) hc => do_step pc L (runS (coreNew C) (l.take k)) l[k] (HFt.out _ (List.getElem_mem hlt)).v hF.f.q W h hi hc
        rw [← runS_succ _ _ _ hlt] at hdo
        have HD := Lib.hid hdo
        have HWW := Lib.hid hW
        clear e0 e1 e2 e3 e4 hdo hF hW HW
        go_wp2_with (go_at_call 7; refine Calls.mono (HD.out _ _ HWW.out.2.inn.right HWW.out.1) ?_; rintro e w2 ⟨rfl, h2, c2, u2⟩; have U2 := HWW.out.2.underL u2)
        go_roundw
        case rel => exact ⟨k + 1, by omega, by go_num, _, c2, U2⟩
        case measure => simp [intOf]; omega
      · generalize runS (coreNew C) (l.take k) = s at *
        obtain ⟨q1, q2, q3, q4, q5, q6⟩ := hW.1.ptrs (x := []) hW.2.inn
        have hall := fun W h (hi : In W h) hc => core_all pc L s W h hi hc
        have hst := fun W h (hi : In W h) hc => core_stats0 pc L s W h hi hc hF.f.q.em
        have htb := hW.1.facts.1
        have hi64 : ∀ i, I64 (s.t.getD i 0) := by
          intro i
          by_cases hi : i < s.t.length
          · rw [show s.t.getD i 0 = s.t[i] by simp [List.getD, hi]]
            exact hW.1.facts.2.1 _ (List.getElem_mem hi)
          · rw [show s.t.getD i 0 = 0 by simp [List.getD, List.getElem?_eq_none (show s.t.length ≤ i by omega)]]
            exact I64.small (by decide) (by decide)
        obtain ⟨T, hT⟩ : ∃ T, T = s.stats 0 := ⟨_, rfl⟩
        rw [← hT] at hst
        simp only [ptr, statCells] at hst q6
        have HA := Lib.hid hall
        have HST := Lib.hid hst
        have HFs := Lib.hid hF
        have HI := Lib.hid hi64
        have HW0 := Lib.hid hW
        clear hT hall hst hW HW hF q1 q2 q3 q4 q5 hi64
        go_wp2_with (first
          | (go_at_call 8; refine Calls.mono (HA.out _ _ HW0.out.2.inn.right HW0.out.1) ?_; rintro e w2 ⟨v2, h2, rfl, sl2, u2⟩; have U2 := HW0.out.2.moreX u2; obtain ⟨ao2, cap2, rfl, _⟩ := sl2.shape)
          | (go_at_call 9; refine Calls.mono (HST.out _ _ U2.inn.right HW0.out.1) ?_; rintro e w3 ⟨rfl, u3⟩; have U3 := (U2.underL u3).allocX (.cells (statCells T) 45 (0, 0)); simp only [statCells] at U3))
        have HS3 : Hid (Loop pc L s ((w3.heap.size, .cells (statCells T) 45 (0, 0)) :: (h2 ++ [])) w (w3.alloc (.cells (statCells T) 45 (0, 0)))) := ⟨h, HW0.out.1, U3⟩
        simp only [statCells] at HS3
        have SL2 := Lib.hid sl2
        clear U3 U2 u2 u3 sl2 q6 HW0
        go_loopw [16] (fun q wr => ∃ (i : Nat), i ≤ s.t.length ∧ q = .int .i64 i ∧ Hid (Loop pc L s ((w3.heap.size, .cells (statCells T) 45 (0, 0)) :: (h2 ++ [])) w wr)) (fun q _ => s.t.length - (intOf q).toNat)
        case atStart => exact ⟨0, by omega, rfl, HS3⟩
        case round =>
          obtain ⟨i, hi, rfl, HV⟩ := hrel
          obtain ⟨hh, hcc, UW⟩ := HV.out
          by_cases hil : i < s.t.length
          · obtain ⟨y, hy⟩ : ∃ y, y = s.t.getD i 0 := ⟨_, rfl⟩
            have hyi := HI.out i
            have hyn := HFs.out.nt i
            rw [← hy] at hyi hyn
            have hnow := fun W h (hi : In W h) hc => core_now pc L s y W h hi hc hyi
            have hmv := fun W h (hi : In W h) hc => core_move_stay pc L s y W h hi hc hyi (.inr (HFs.out.f.q.from_no _))
            have hmk := fun W h (hi : In W h) hc => core_mark pc L s y W h hi hc hyi (.inl HFs.out.f.q.par)
            have hnt := fun W h (hi : In W h) hc => core_note pc L s y W h hi hc hyi
            rw [HFs.out.f.q.now] at hnow
            rw [HFs.out.f.q.mark] at hmk
            rw [hyn] at hnt
            simp only [ptr] at hnow hmv hmk hnt
            have UZ := UW.drew'
            obtain ⟨ga, oa, rfl, ca⟩ := SL2.out.intAt UZ.inn.left.tail.left hil
            rw [← hy] at ca
            have N1 := Lib.hid hnow
            have N2 := Lib.hid hmv
            have N3 := Lib.hid hmk
            have N4 := Lib.hid hnt
            have HY := Lib.hid hy
            have CZ := hcc
            have hcell : ∀ W, In W h2 → W.cell? ⟨ga, oa + i, none⟩ = some (.int .i64 y) := by
              intro W hiW
              obtain ⟨gz, oz, ez, cz⟩ := SL2.out.intAt hiW hil
              rw [← hy] at cz
              cases ez
              exact cz
            have HCell := Lib.hid hcell
            clear hnow hmv hmk hnt hy hyi hyn hcc UW HV hcell
            go_wp2
            go_region_held3 (fun w' => w'.cell? ⟨ga, oa + i, none⟩ = some (.int .i64 y))
              (first | exact HCell.out _ UZ.inn.left.tail.left | go_keep)
              (first
                | (go_at_call 10; refine Calls.mono (N1.out _ _ UZ.inn.right CZ) ?_; rintro e wz ⟨rfl, hz, cz, uz⟩; replace UZ := UZ.underL uz; replace CZ := cz)
                | (go_at_call 11; refine Calls.mono (N2.out _ _ UZ.inn.right CZ) ?_; rintro e wz ⟨rfl, uz⟩; replace UZ := UZ.underL uz))
            clear ca
            have ca := HCell.out _ UZ.inn.left.tail.left
            go_wp2_with (first
              | (go_at_call 12; refine Calls.mono (N3.out _ _ UZ.inn.right CZ) ?_; rintro e wy ⟨rfl, hz3, cz3, uz3⟩; replace UZ := UZ.underL uz3; have cb := HCell.out _ UZ.inn.left.tail.left)
              | (go_at_call 13; refine Calls.mono (N4.out _ _ UZ.inn.right cz3) ?_; rintro e wx ⟨rfl, hz4, cz4, uz4⟩; replace UZ := UZ.underL uz4))
            go_roundw
            case rel => exact ⟨i + 1, by omega, by go_num, _, cz4, UZ⟩
            case measure => simp [intOf]; omega
          · obtain ⟨q1, q2, q3, q4, q5, q6⟩ := hcc.ptrs (x := (w3.heap.size, .cells (statCells T) 45 (0, 0)) :: (h2 ++ [])) UW.inn
            simp only [ptr] at q6
            have CZ := Lib.hid hcc
            have UWH := Lib.hid UW
            clear q1 q2 q3 q4 q5 HV hcc UW
            go_wp2_with (go_at_call 8; refine Calls.mono (HA.out _ _ UWH.out.inn.right CZ.out) ?_; rintro e w6 ⟨v6, h6, rfl, sl6, u6⟩; have U6 := UWH.out.moreX u6; obtain ⟨ao6, cap6, rfl, _⟩ := sl6.shape)
            have X6 : Hid (Upd [] ((h6 ++ ((w3.heap.size, .cells (statCells T) 45 (0, 0)) :: (h2 ++ []))) ++ hh) w w6) := U6
            have SL6 := Lib.hid sl6
            clear U6 u6 sl6 q6 UWH
            go_loopw [18] (fun q wr => ∃ (j : Nat), j ≤ s.t.length ∧ q = .int .i64 j ∧ Hid (Upd [] ((h6 ++ ((w3.heap.size, .cells (statCells T) 45 (0, 0)) :: (h2 ++ []))) ++ hh) w wr)) (fun q _ => s.t.length - (intOf q).toNat)
            case atStart => exact ⟨0, by omega, rfl, X6⟩
            case round =>
              obtain ⟨j, hj, rfl, HU⟩ := hrel
              by_cases hjl : j < s.t.length
              · obtain ⟨y, hy⟩ : ∃ y, y = s.t.getD j 0 := ⟨_, rfl⟩
                obtain ⟨ga, oa, rfl, ca⟩ := SL2.out.intAt HU.out.inn.left.right.tail.left hjl
                obtain ⟨gb, ob, rfl, cb⟩ := SL6.out.intAt HU.out.inn.left.left hjl
                rw [← hy] at ca cb
                clear hy
                go_wp2
                go_quiet (fail)
                go_wp2
                go_roundw
                case rel => exact ⟨j + 1, by omega, by go_num, HU.out.drewN' nq⟩
                case measure => simp [intOf]; omega
              · have hgl := fun W h (hi : In W h) hc => core_glen pc L s W h hi hc
                have hrl := fun W h (hi : In W h) hc => core_rlen pc L s W h hi hc
                rw [HFs.out.gl] at hgl
                rw [HFs.out.rl, HFs.out.rc] at hrl
                simp only [List.length_nil] at hgl hrl
                have G1 := Lib.hid hgl
                have G2 := Lib.hid hrl
                have UZ := HU.out.drew'
                have hS : ∀ W, Upd [] ((h6 ++ ((w3.heap.size, .cells (statCells T) 45 (0, 0)) :: (h2 ++ []))) ++ hh) w W → W.cell? ⟨w3.heap.size, 0, none⟩ = some (.int .i64 T.allocs) ∧ W.cell? ⟨w3.heap.size, 1, none⟩ = some (.int .i64 T.words) ∧ W.cell? ⟨w3.heap.size, 2, none⟩ = some (.int .i64 T.promoted) ∧ W.cell? ⟨w3.heap.size, 3, none⟩ = some (.int .i64 T.minors) ∧ W.cell? ⟨w3.heap.size, 4, none⟩ = some (.int .i64 T.majors) ∧ W.cell? ⟨w3.heap.size, 5, none⟩ = some (.int .i64 T.young) ∧ W.cell? ⟨w3.heap.size, 6, none⟩ = some (.int .i64 T.old) ∧ W.cell? ⟨w3.heap.size, 7, none⟩ = some (.int .i64 T.free) ∧ W.cell? ⟨pc, 16, none⟩ = some (.pointer (some ⟨L.pr, 0, none⟩)) ∧ W.cell? ⟨pc, 17, none⟩ = some (.pointer (some ⟨L.pg, 0, none⟩)) ∧ W.cell? ⟨pc, 20, none⟩ = some (.int .i64 0) ∧ W.cell? ⟨pc, 21, none⟩ = some (.bool false) := by
                  intro W U
                  obtain ⟨b0, b1, b2, b3, b4, b5, b6, b7⟩ := stat_cells (d := T) U.inn.left.right.head
                  obtain ⟨q1, q2, q3, q4, q5, q6⟩ := CZ.out.ptrs U.inn
                  obtain ⟨q7, q8⟩ := CZ.out.vars U.inn
                  rw [HFs.out.f.q.ph] at q7
                  rw [HFs.out.f.q.mv] at q8
                  exact ⟨b0, b1, b2, b3, b4, b5, b6, b7, q4, q5, q7, q8⟩
                have HSS := Lib.hid hS
                clear hgl hrl hS X6 HU HS3 HS
                go_wp2
                have hS0 := HSS.out _ UZ
                go_region_held3 (fun w' => w'.cell? ⟨w3.heap.size, 0, none⟩ = some (.int .i64 T.allocs) ∧ w'.cell? ⟨w3.heap.size, 1, none⟩ = some (.int .i64 T.words) ∧ w'.cell? ⟨w3.heap.size, 2, none⟩ = some (.int .i64 T.promoted) ∧ w'.cell? ⟨w3.heap.size, 3, none⟩ = some (.int .i64 T.minors) ∧ w'.cell? ⟨w3.heap.size, 4, none⟩ = some (.int .i64 T.majors) ∧ w'.cell? ⟨w3.heap.size, 5, none⟩ = some (.int .i64 T.young) ∧ w'.cell? ⟨w3.heap.size, 6, none⟩ = some (.int .i64 T.old) ∧ w'.cell? ⟨w3.heap.size, 7, none⟩ = some (.int .i64 T.free) ∧ w'.cell? ⟨pc, 16, none⟩ = some (.pointer (some ⟨L.pr, 0, none⟩)) ∧ w'.cell? ⟨pc, 17, none⟩ = some (.pointer (some ⟨L.pg, 0, none⟩)) ∧ w'.cell? ⟨pc, 20, none⟩ = some (.int .i64 0) ∧ w'.cell? ⟨pc, 21, none⟩ = some (.bool false))
                  (first | exact HSS.out _ UZ | go_keep)
                  (first
                    | (go_at_call 14; refine Calls.mono (G1.out _ _ UZ.inn.right CZ.out) ?_; rintro e wz ⟨rfl, rfl⟩)
                    | (go_at_call 15; refine Calls.mono (G2.out _ _ UZ.inn.right CZ.out) ?_; rintro e wz ⟨rfl, uz⟩; replace UZ := UZ.underL uz)
                    | (go_at_call 9; refine Calls.mono (HST.out _ _ UZ.inn.right CZ.out) ?_; rintro e wz ⟨rfl, uz⟩; replace UZ := UZ.underL uz))
                go_wp2
                go_ret
                exact ⟨rfl, UZ.forget (List.nil_sublist _)⟩
    · generalize runS (coreNew C) (l.take k) = s at *
      obtain ⟨q1, q2, q3, q4, q5, q6⟩ := hW.1.ptrs (x := []) hW.2.inn
      have hall := fun W h (hi : In W h) hc => core_all pc L s W h hi hc
      have hst := fun W h (hi : In W h) hc => core_stats0 pc L s W h hi hc hF.f.q.em
      have htb := hW.1.facts.1
      have hi64 : ∀ i, I64 (s.t.getD i 0) := by
        intro i
        by_cases hi : i < s.t.length
        · rw [show s.t.getD i 0 = s.t[i] by simp [List.getD, hi]]
          exact hW.1.facts.2.1 _ (List.getElem_mem hi)
        · rw [show s.t.getD i 0 = 0 by simp [List.getD, List.getElem?_eq_none (show s.t.length ≤ i by omega)]]
          exact I64.small (by decide) (by decide)
      obtain ⟨T, hT⟩ : ∃ T, T = s.stats 0 := ⟨_, rfl⟩
      rw [← hT] at hst
      simp only [ptr, statCells] at hst q6
      have HA := Lib.hid hall
      have HST := Lib.hid hst
      have HFs := Lib.hid hF
      have HI := Lib.hid hi64
      have HW0 := Lib.hid hW
      clear hT hall hst hW HW hF q1 q2 q3 q4 q5 hi64
      go_wp2_with (first
        | (go_at_call 8; refine Calls.mono (HA.out _ _ HW0.out.2.inn.right HW0.out.1) ?_; rintro e w2 ⟨v2, h2, rfl, sl2, u2⟩; have U2 := HW0.out.2.moreX u2; obtain ⟨ao2, cap2, rfl, _⟩ := sl2.shape)
        | (go_at_call 9; refine Calls.mono (HST.out _ _ U2.inn.right HW0.out.1) ?_; rintro e w3 ⟨rfl, u3⟩; have U3 := (U2.underL u3).allocX (.cells (statCells T) 45 (0, 0)); simp only [statCells] at U3))
      have HS3 : Hid (Loop pc L s ((w3.heap.size, .cells (statCells T) 45 (0, 0)) :: (h2 ++ [])) w (w3.alloc (.cells (statCells T) 45 (0, 0)))) := ⟨h, HW0.out.1, U3⟩
      simp only [statCells] at HS3
      have SL2 := Lib.hid sl2
      clear U3 U2 u2 u3 sl2 q6 HW0
      go_loopw [16] (fun q wr => ∃ (i : Nat), i ≤ s.t.length ∧ q = .int .i64 i ∧ Hid (Loop pc L s ((w3.heap.size, .cells (statCells T) 45 (0, 0)) :: (h2 ++ [])) w wr)) (fun q _ => s.t.length - (intOf q).toNat)
      case atStart => exact ⟨0, by omega, rfl, HS3⟩
      case round =>
        obtain ⟨i, hi, rfl, HV⟩ := hrel
        obtain ⟨hh, hcc, UW⟩ := HV.out
        by_cases hil : i < s.t.length
        · obtain ⟨y, hy⟩ : ∃ y, y = s.t.getD i 0 := ⟨_, rfl⟩
          have hyi := HI.out i
          have hyn := HFs.out.nt i
          rw [← hy] at hyi hyn
          have hnow := fun W h (hi : In W h) hc => core_now pc L s y W h hi hc hyi
          have hmv := fun W h (hi : In W h) hc => core_move_stay pc L s y W h hi hc hyi (.inr (HFs.out.f.q.from_no _))
          have hmk := fun W h (hi : In W h) hc => core_mark pc L s y W h hi hc hyi (.inl HFs.out.f.q.par)
          have hnt := fun W h (hi : In W h) hc => core_note pc L s y W h hi hc hyi
          rw [HFs.out.f.q.now] at hnow
          rw [HFs.out.f.q.mark] at hmk
          rw [hyn] at hnt
          simp only [ptr] at hnow hmv hmk hnt
          have UZ := UW.drew'
          obtain ⟨ga, oa, rfl, ca⟩ := SL2.out.intAt UZ.inn.left.tail.left hil
          rw [← hy] at ca
          have N1 := Lib.hid hnow
          have N2 := Lib.hid hmv
          have N3 := Lib.hid hmk
          have N4 := Lib.hid hnt
          have HY := Lib.hid hy
          have CZ := hcc
          have hcell : ∀ W, In W h2 → W.cell? ⟨ga, oa + i, none⟩ = some (.int .i64 y) := by
            intro W hiW
            obtain ⟨gz, oz, ez, cz⟩ := SL2.out.intAt hiW hil
            rw [← hy] at cz
            cases ez
            exact cz
          have HCell := Lib.hid hcell
          clear hnow hmv hmk hnt hy hyi hyn hcc UW HV hcell
          go_wp2
          go_region_held3 (fun w' => w'.cell? ⟨ga, oa + i, none⟩ = some (.int .i64 y))
            (first | exact HCell.out _ UZ.inn.left.tail.left | go_keep)
            (first
              | (go_at_call 10; refine Calls.mono (N1.out _ _ UZ.inn.right CZ) ?_; rintro e wz ⟨rfl, hz, cz, uz⟩; replace UZ := UZ.underL uz; replace CZ := cz)
              | (go_at_call 11; refine Calls.mono (N2.out _ _ UZ.inn.right CZ) ?_; rintro e wz ⟨rfl, uz⟩; replace UZ := UZ.underL uz))
          clear ca
          have ca := HCell.out _ UZ.inn.left.tail.left
          go_wp2_with (first
            | (go_at_call 12; refine Calls.mono (N3.out _ _ UZ.inn.right CZ) ?_; rintro e wy ⟨rfl, hz3, cz3, uz3⟩; replace UZ := UZ.underL uz3; have cb := HCell.out _ UZ.inn.left.tail.left)
            | (go_at_call 13; refine Calls.mono (N4.out _ _ UZ.inn.right cz3) ?_; rintro e wx ⟨rfl, hz4, cz4, uz4⟩; replace UZ := UZ.underL uz4))
          go_roundw
          case rel => exact ⟨i + 1, by omega, by go_num, _, cz4, UZ⟩
          case measure => simp [intOf]; omega
        · obtain ⟨q1, q2, q3, q4, q5, q6⟩ := hcc.ptrs (x := (w3.heap.size, .cells (statCells T) 45 (0, 0)) :: (h2 ++ [])) UW.inn
          simp only [ptr] at q6
          have CZ := Lib.hid hcc
          have UWH := Lib.hid UW
          clear q1 q2 q3 q4 q5 HV hcc UW
          go_wp2_with (go_at_call 8; refine Calls.mono (HA.out _ _ UWH.out.inn.right CZ.out) ?_; rintro e w6 ⟨v6, h6, rfl, sl6, u6⟩; have U6 := UWH.out.moreX u6; obtain ⟨ao6, cap6, rfl, _⟩ := sl6.shape)
          have X6 : Hid (Upd [] ((h6 ++ ((w3.heap.size, .cells (statCells T) 45 (0, 0)) :: (h2 ++ []))) ++ hh) w w6) := U6
          have SL6 := Lib.hid sl6
          clear U6 u6 sl6 q6 UWH
          go_loopw [18] (fun q wr => ∃ (j : Nat), j ≤ s.t.length ∧ q = .int .i64 j ∧ Hid (Upd [] ((h6 ++ ((w3.heap.size, .cells (statCells T) 45 (0, 0)) :: (h2 ++ []))) ++ hh) w wr)) (fun q _ => s.t.length - (intOf q).toNat)
          case atStart => exact ⟨0, by omega, rfl, X6⟩
          case round =>
            obtain ⟨j, hj, rfl, HU⟩ := hrel
            by_cases hjl : j < s.t.length
            · obtain ⟨y, hy⟩ : ∃ y, y = s.t.getD j 0 := ⟨_, rfl⟩
              obtain ⟨ga, oa, rfl, ca⟩ := SL2.out.intAt HU.out.inn.left.right.tail.left hjl
              obtain ⟨gb, ob, rfl, cb⟩ := SL6.out.intAt HU.out.inn.left.left hjl
              rw [← hy] at ca cb
              clear hy
              go_wp2
              go_quiet (fail)
              go_wp2
              go_roundw
              case rel => exact ⟨j + 1, by omega, by go_num, HU.out.drewN' nq⟩
              case measure => simp [intOf]; omega
            · have hgl := fun W h (hi : In W h) hc => core_glen pc L s W h hi hc
              have hrl := fun W h (hi : In W h) hc => core_rlen pc L s W h hi hc
              rw [HFs.out.gl] at hgl
              rw [HFs.out.rl, HFs.out.rc] at hrl
              simp only [List.length_nil] at hgl hrl
              have G1 := Lib.hid hgl
              have G2 := Lib.hid hrl
              have UZ := HU.out.drew'
              have hS : ∀ W, Upd [] ((h6 ++ ((w3.heap.size, .cells (statCells T) 45 (0, 0)) :: (h2 ++ []))) ++ hh) w W → W.cell? ⟨w3.heap.size, 0, none⟩ = some (.int .i64 T.allocs) ∧ W.cell? ⟨w3.heap.size, 1, none⟩ = some (.int .i64 T.words) ∧ W.cell? ⟨w3.heap.size, 2, none⟩ = some (.int .i64 T.promoted) ∧ W.cell? ⟨w3.heap.size, 3, none⟩ = some (.int .i64 T.minors) ∧ W.cell? ⟨w3.heap.size, 4, none⟩ = some (.int .i64 T.majors) ∧ W.cell? ⟨w3.heap.size, 5, none⟩ = some (.int .i64 T.young) ∧ W.cell? ⟨w3.heap.size, 6, none⟩ = some (.int .i64 T.old) ∧ W.cell? ⟨w3.heap.size, 7, none⟩ = some (.int .i64 T.free) ∧ W.cell? ⟨pc, 16, none⟩ = some (.pointer (some ⟨L.pr, 0, none⟩)) ∧ W.cell? ⟨pc, 17, none⟩ = some (.pointer (some ⟨L.pg, 0, none⟩)) ∧ W.cell? ⟨pc, 20, none⟩ = some (.int .i64 0) ∧ W.cell? ⟨pc, 21, none⟩ = some (.bool false) := by
                intro W U
                obtain ⟨b0, b1, b2, b3, b4, b5, b6, b7⟩ := stat_cells (d := T) U.inn.left.right.head
                obtain ⟨q1, q2, q3, q4, q5, q6⟩ := CZ.out.ptrs U.inn
                obtain ⟨q7, q8⟩ := CZ.out.vars U.inn
                rw [HFs.out.f.q.ph] at q7
                rw [HFs.out.f.q.mv] at q8
                exact ⟨b0, b1, b2, b3, b4, b5, b6, b7, q4, q5, q7, q8⟩
              have HSS := Lib.hid hS
              clear hgl hrl hS X6 HU HS3 HS
              go_wp2
              have hS0 := HSS.out _ UZ
              go_region_held3 (fun w' => w'.cell? ⟨w3.heap.size, 0, none⟩ = some (.int .i64 T.allocs) ∧ w'.cell? ⟨w3.heap.size, 1, none⟩ = some (.int .i64 T.words) ∧ w'.cell? ⟨w3.heap.size, 2, none⟩ = some (.int .i64 T.promoted) ∧ w'.cell? ⟨w3.heap.size, 3, none⟩ = some (.int .i64 T.minors) ∧ w'.cell? ⟨w3.heap.size, 4, none⟩ = some (.int .i64 T.majors) ∧ w'.cell? ⟨w3.heap.size, 5, none⟩ = some (.int .i64 T.young) ∧ w'.cell? ⟨w3.heap.size, 6, none⟩ = some (.int .i64 T.old) ∧ w'.cell? ⟨w3.heap.size, 7, none⟩ = some (.int .i64 T.free) ∧ w'.cell? ⟨pc, 16, none⟩ = some (.pointer (some ⟨L.pr, 0, none⟩)) ∧ w'.cell? ⟨pc, 17, none⟩ = some (.pointer (some ⟨L.pg, 0, none⟩)) ∧ w'.cell? ⟨pc, 20, none⟩ = some (.int .i64 0) ∧ w'.cell? ⟨pc, 21, none⟩ = some (.bool false))
                (first | exact HSS.out _ UZ | go_keep)
                (first
                  | (go_at_call 14; refine Calls.mono (G1.out _ _ UZ.inn.right CZ.out) ?_; rintro e wz ⟨rfl, rfl⟩)
                  | (go_at_call 15; refine Calls.mono (G2.out _ _ UZ.inn.right CZ.out) ?_; rintro e wz ⟨rfl, uz⟩; replace UZ := UZ.underL uz)
                  | (go_at_call 9; refine Calls.mono (HST.out _ _ UZ.inn.right CZ.out) ?_; rintro e wz ⟨rfl, uz⟩; replace UZ := UZ.underL uz))
              go_wp2
              go_ret
              exact ⟨rfl, UZ.forget (List.nil_sublist _)⟩

end Go.Proofs.YtnemfdbllmahkabGreat
