/- CoreErrors of the statements' package answers true. Conditions: none. -/
import Derived.Test.YtnemfdbllmahkabRows
import Derived.Test.YtnemfdbllmahkabErrP
import Derived.Test.YtnemfdbllmahkabCoreQ
import Derived.Test.YtnemfdbllmahkabAsmB
import Derived.BigQuiet
import Derived.Deep.QuietTactic
set_option linter.unusedVariables false
set_option linter.unusedSimpArgs false
namespace Go.Proofs.Ytnemfdbllmahkab
open Go.RowKit

theorem Upd.oldcell {w w' : World} {h : Hp} (u : Upd [] h w w') {b o : Nat} {v : Value} (hb : b < w.heap.size) (hc : w.cell? ⟨b, o, none⟩ = some v) : w'.cell? ⟨b, o, none⟩ = some v := by
  rw [u.below.cell (p := ⟨b, o, none⟩) hb]
  exact hc
theorem runS_succ (s : CoreS) (l : List StepS) (k : Nat) (h : k < l.length) : runS s (l.take (k + 1)) = stepS (runS s (l.take k)) l[k] := by
  rw [List.take_succ_eq_append_getElem h, runS_snoc]
/-- the head of a script's loop: a core, and other blocks beside it -/
def Loop (pc : Nat) (L : CoreL) (s : CoreS) (x : Hp) (w wr : World) : Prop := ∃ h, CoreH pc L s h ∧ Upd [] (x ++ h) w wr
abbrev u64s (l : List Int) : List Value := l.map (Value.int .u64)
theorem u64s_take (l : List Int) (k : Nat) (h : k < l.length) : u64s (l.take (k + 1)) = u64s (l.take k) ++ [.int .u64 (l.getD k 0)] := by
  have e : l.getD k 0 = l[k] := by simp [List.getD, h]
  rw [List.take_succ_eq_append_getElem h, e]
  simp only [u64s, List.map_append, List.map_cons, List.map_nil]

set_option maxRecDepth 100000 in
set_option maxHeartbeats 4000000 in
theorem coreErrors_any (a b c d : Int) (sv : Value) (l : List StepS) (x : StepS) (ha : U8 a) (hb : U8 b) (hc : U8 c) (hd : U8 d) {w : World} (hs : IsScript w sv l) (hx : x.Fits) :
    Calls Try.prog 3 #[.int .u8 a, .int .u8 b, .int .u8 c, .int .u8 d, sv, .agg (stepCells x)] w fun e w' => e = .returned (.bool true) ∧ Upd [] [] w w' := by
  have hok := cfgOf_ok ha hb hc hd
  have hcfg := fun W => law_config a b c d ha hb hc hd W
  have UB := Upd.alloc (In.nil w) (.cells (stepCells x) 25 (0, 0))
  obtain ⟨hfit, hlen, ao, cap, rfl, hsh⟩ := hs
  have hxv := hx.v
  have HSc := Lib.hid hsh
  have HFt := Lib.hid hfit
  clear ha hb hc hd hsh hfit hx
  generalize cfgOf a b c d = C at *
  have f0 := coreNew_fine (Cfg.fits hok)
  have HF0 := Lib.hid f0
  have HOK := Lib.hid hok
  clear f0 hok
  simp only [cfgCells, stepCells] at hcfg ⊢
  simp only [stepCells] at UB
  obtain ⟨xk, xa, xb, xc, xv⟩ := x
  simp only at *
  go_enter Try.func3, Try.ntmps3
  go_wp2_with (first
    | (go_at_call 4; refine Calls.mono (hcfg _) ?_; rintro e v0 ⟨rfl, x0⟩; have U0 := (UB.under0 x0).skip' (.cells (cfgCells C) 27 (0, 0)); clear hcfg UB x0)
    | (go_at_call 5; refine Calls.mono (core_new C HOK.out _) ?_; rintro e w0 ⟨pc, L, h0, rfl, c0, u0⟩; have U1 := U0.moreL u0; clear U0 u0; simp only [ptr])
    | (go_at_call 6; refine Calls.mono (law_awake _) ?_; rintro e w1 ⟨rfl, x1⟩; have U2 := U1.under0 x1; clear U1 x1))
  have HS : Hid (Loop pc L (runS (coreNew C) (l.take 0)) [(w.heap.size, .cells (stepCells ⟨xk, xa, xb, xc, xv⟩) 25 (0, 0))] w w1) := ⟨h0, c0, U2⟩
  clear U2 c0
  go_loopw [16] (fun q wr => ∃ (k : Nat), k ≤ l.length ∧ q = .int .i64 k ∧ Hid (Loop pc L (runS (coreNew C) (l.take k)) [(w.heap.size, .cells (stepCells ⟨xk, xa, xb, xc, xv⟩) 25 (0, 0))] w wr)) (fun q _ => l.length - (intOf q).toNat)
  case atStart => exact ⟨0, by omega, rfl, HS⟩
  case round =>
    obtain ⟨k, hk, rfl, HW⟩ := hrel
    obtain ⟨h, hW⟩ := HW.out
    have hF : (runS (coreNew C) (l.take k)).Fine := HF0.out.run _
    by_cases hlt : k < l.length
    · by_cases h60 : k < 60
      · obtain ⟨bq, off, rfl, hbl, e0, e1, e2, e3, e4⟩ := HSc.out k hlt
        have d0 := hW.2.oldcell hbl e0
        have d1 := hW.2.oldcell hbl e1
        have d2 := hW.2.oldcell hbl e2
        have d3 := hW.2.oldcell hbl e3
        have d4 := hW.2.oldcell hbl e4
        have hdo := fun W h (hi : In W h) hc => do_step pc L (runS (coreNew C) (l.take k)) l[k] (HFt.out _ (List.getElem_mem hlt)).v hF.q W h hi hc
        rw [← runS_succ _ _ _ hlt] at hdo
        have HD := Lib.hid hdo
        have HWW := Lib.hid hW
        clear e0 e1 e2 e3 e4 hdo hF hW HW
        go_wp2_with (go_at_call 7; refine Calls.mono (HD.out _ _ HWW.out.2.inn.right HWW.out.1) ?_; rintro e w2 ⟨rfl, h2, c2, u2⟩; have U2 := HWW.out.2.underL u2)
        go_roundw
        case rel => exact ⟨k + 1, by omega, by go_num, _, c2, U2⟩
        case measure => simp [intOf]; omega
      · generalize runS (coreNew C) (l.take k) = s at *
        obtain ⟨g0, g1, g2, g3, g4⟩ := step_cells (x := ⟨xk, xa, xb, xc, xv⟩) hW.2.inn.head
        simp only at g0 g1 g2 g3 g4
        by_cases hx1 : 1 ≤ xk
        · by_cases hx2 : xk ≤ 10
          · obtain ⟨q1, q2, q3, q4, q5, q6⟩ := hW.1.ptrs (x := [_]) hW.2.inn
            have hall := fun W h (hi : In W h) hc => core_all pc L s W h hi hc
            have hlen := fun W h (hi : In W h) hc => core_alen pc L s W h hi hc
            have hld := fun i hl W h (hi : In W h) hc => core_aload pc L s i hl W h hi hc
            have hfac := hW.1.facts
            have HA := Lib.hid hall
            have HE := Lib.hid hlen
            have HD := Lib.hid hld
            have HFA := Lib.hid hfac
            have HW0 := Lib.hid hW
            have HFs := Lib.hid hF
            simp only [ptr] at q1 q2 q3 q4 q5 q6
            clear hall hlen hld hfac hW HW q2 q3 q4 q5 hF
            go_wp2_with (go_at_call 8; refine Calls.mono (HA.out _ _ HW0.out.2.inn.right HW0.out.1) ?_; rintro e w2 ⟨v2, h2, rfl, sl2, u2⟩; have U2 := HW0.out.2.moreX u2; obtain ⟨ao2, cap2, rfl, _⟩ := sl2.shape)
            have U3 := U2.allocX (.cells #[] 23 (0, 0))
            have sl3 : SliceH 23 1 (.slice (some ⟨w2.heap.size, 0, none⟩) 0 0) 0 (u64s (s.ws.take 0)) [(w2.heap.size, .cells #[] 23 (0, 0))] := SliceH.made (xs := []) rfl (by decide)
            have HS3 : Hid (∃ hw h, SliceH 23 1 (.slice (some ⟨w2.heap.size, 0, none⟩) 0 0) 0 (u64s (s.ws.take 0)) hw ∧ CoreH pc L s h ∧ Upd [] ((hw ++ (h2 ++ [(w.heap.size, .cells (stepCells ⟨xk, xa, xb, xc, xv⟩) 25 (0, 0))])) ++ h) w (w2.alloc (.cells #[] 23 (0, 0)))) := ⟨_, h, sl3, HW0.out.1, U3⟩
            have SL2 := Lib.hid sl2
            have hwb : s.ws.length ≤ 1048576 := HFA.out.2.2.1
            have htb : s.t.length ≤ 64 := HFA.out.1
            clear sl3 U3 U2 u2 sl2 q1 q6 g0 g1 g2 g3 g4 HW0
            go_loopw [18, 19] (fun v q wr => ∃ (j : Nat), j ≤ s.ws.length ∧ q = .int .i64 j ∧ (∃ ao cap, v = .slice ao j cap) ∧ Hid (∃ hw h, SliceH 23 1 v j (u64s (s.ws.take j)) hw ∧ CoreH pc L s h ∧ Upd [] ((hw ++ (h2 ++ [(w.heap.size, .cells (stepCells ⟨xk, xa, xb, xc, xv⟩) 25 (0, 0))])) ++ h) w wr)) (fun _ q _ => s.ws.length - (intOf q).toNat)
            case atStart => exact ⟨0, by omega, rfl, ⟨_, _, rfl⟩, HS3⟩
            case round =>
              obtain ⟨j, hj, rfl, ⟨ao3, cap3, rfl⟩, HV⟩ := hrel
              obtain ⟨hw, hh, slw, hcc, UW⟩ := HV.out
              obtain ⟨q1, q2, q3, q4, q5, q6⟩ := hcc.ptrs (x := hw ++ (h2 ++ [(w.heap.size, .cells (stepCells ⟨xk, xa, xb, xc, xv⟩) 25 (0, 0))])) UW.inn
              simp only [ptr] at q1 q2 q3 q4 q5 q6
              by_cases hjl : j < s.ws.length
              · have hjc : ((j : Int) < s.ws.length) := by omega
                have SLW := Lib.hid slw
                have HCC := Lib.hid (And.intro hcc UW)
                have hmax : j + 1 ≤ maxLen := by have := HFA.out.2.2.1; unfold maxLen; omega
                clear q2 q3 q4 q5 q6 slw hcc UW
                obtain ⟨y, hy⟩ : ∃ y, y = s.ws.getD j 0 := ⟨_, rfl⟩
                have hdj := HD.out j hjl
                have hts := u64s_take s.ws j hjl
                rw [← hy] at hdj hts
                have HDJ := Lib.hid hdj
                have HTS := Lib.hid hts
                clear hdj hts hy
                go_wp2_with (first
                  | (go_at_call 9; refine Calls.mono (HE.out _ _ HCC.out.2.inn.right HCC.out.1) ?_; rintro e wa ⟨rfl, rfl⟩)
                  | (go_at_call 10; refine Calls.mono (HDJ.out _ _ HCC.out.2.inn.right HCC.out.1) ?_; rintro e wb ⟨rfl, hb, cb, ub⟩; have UB := HCC.out.2.underL ub; have H1 := Lib.hid (news_of (news := [.int .u64 y]) (w := wb.alloc (.cells #[.int .u64 y] 23 (0, 0))) (b := wb.heap.size) (T := 23) (fr := (0, 0)) heap_alloc_new); have UA := UB.skip' (.cells #[.int .u64 y] 23 (0, 0)); clear UB ub)
                  | (at_builtin; refine wpList_append_mine rfl (.tmp 96) (.tmp 98) 49 rfl 23 1 8 (.int .u64 0) Try.underlying49 Try.infoU64 rfl (by decide) (.slice ao3 j cap3) j (u64s (s.ws.take j)) hw rfl SLW.out UA.inn.left.left ⟨wb.heap.size, 0, none⟩ 1 1 [.int .u64 y] rfl H1.out rfl (by intro u hu; simp at hu; subst hu; rfl) (Or.inl (by decide)) hmax (by have := HFA.out.2.2.1; omega) ?_; intro v' w3 hX' hS' hU'; obtain ⟨ao', cap', rfl, _⟩ := hS'.shape; have U4 := UA.leftX hU'))
                go_roundw
                case rel => exact ⟨j + 1, by omega, by go_num, ⟨_, _, rfl⟩, _, _, by rw [HTS.out]; exact hS', cb, U4⟩
                case measure => simp [intOf]; omega
              · have hje : j = s.ws.length := by omega
                subst hje
                have hbox := UW.inn.left.right.right
                obtain ⟨g0, g1, g2, g3, g4⟩ := step_cells (x := ⟨xk, xa, xb, xc, xv⟩) hbox.head
                simp only at g0 g1 g2 g3 g4
                have hdo := fun W h (hi : In W h) hc => do_step pc L s ⟨xk, xa, xb, xc, xv⟩ hxv HFs.out.q W h hi hc
                have hlaw := errors_law s ⟨xk, xa, xb, xc, xv⟩ hx1 hx2
                generalize ansS s ⟨xk, xa, xb, xc, xv⟩ = A at *
                generalize stepS s ⟨xk, xa, xb, xc, xv⟩ = s' at *
                obtain ⟨Ae, Ay, An, Av⟩ := A
                simp only at hlaw
                simp only [ansCells, stepCells, ptr] at hdo
                have HDO := Lib.hid hdo
                have HCC := Lib.hid (And.intro hcc UW)
                have SLW := Lib.hid slw
                clear hdo hcc UW hbox slw q2 q3 q4 q5 q6 HV HS3
                by_cases he : Ae = 0
                · subst he
                  clear hlaw
                  go_wp2_with (first
                    | (go_at_call 9; refine Calls.mono (HE.out _ _ HCC.out.2.inn.right HCC.out.1) ?_; rintro e wa ⟨rfl, rfl⟩)
                    | (go_at_call 7; refine Calls.mono (HDO.out _ _ HCC.out.2.inn.right HCC.out.1) ?_; rintro e w5 ⟨rfl, h5, c5, u5⟩; have U5 := HCC.out.2.underL u5))
                  go_ret
                  exact ⟨rfl, (U5.skip' _).forget (List.nil_sublist _)⟩
                · obtain ⟨rfl, rfl, rfl, e4, e5⟩ := hlaw he
                  have hne : (Ae == 0) = false := by simpa using he
                  have hall' := fun W h (hi : In W h) hc => core_all pc L s' W h hi hc
                  rw [e4] at hall'
                  have hld' := fun i hl W h (hi : In W h) hc => core_aload pc L s' i hl W h hi hc
                  rw [e5] at hld'
                  have HA' := Lib.hid hall'
                  have HD' := Lib.hid hld'
                  clear he hall' hld' e4 e5
                  go_wp2_with (first
                    | (go_at_call 9; refine Calls.mono (HE.out _ _ HCC.out.2.inn.right HCC.out.1) ?_; rintro e wa ⟨rfl, rfl⟩)
                    | (go_at_call 7; refine Calls.mono (HDO.out _ _ HCC.out.2.inn.right HCC.out.1) ?_; rintro e w5 ⟨rfl, h5, c5, u5⟩; have U5 := (HCC.out.2.underL u5).skip' (.cells (ansCells ⟨Ae, false, 0, 0⟩) 35 (0, 0)); simp only [ansCells] at U5; obtain ⟨q1, q2, q3, q4, q5, q6⟩ := c5.ptrs (x := hw ++ (h2 ++ [(w.heap.size, .cells (stepCells ⟨xk, xa, xb, xc, xv⟩) 25 (0, 0))])) U5.inn; simp only [ptr] at q1 q2 q3 q4 q5 q6; clear q1 q2 q3 q4 q5)
                    | (go_at_call 8; refine Calls.mono (HA'.out _ _ U5.inn.right c5) ?_; rintro e w6 ⟨v6, h6, rfl, sl6, u6⟩; have U6 := U5.moreX u6; obtain ⟨ao6, cap6, rfl, _⟩ := sl6.shape))
                  have X6 : Hid (Upd [] ((h6 ++ (hw ++ (h2 ++ [(w.heap.size, .cells (stepCells ⟨xk, xa, xb, xc, xv⟩) 25 (0, 0))]))) ++ h5) w w6) := U6
                  have SL6 := Lib.hid sl6
                  have C5 := Lib.hid c5
                  have htake := SLW.out
                  rw [List.take_length] at htake
                  have SLX := Lib.hid htake
                  clear U6 U5 u6 u5 sl6 c5 htake SLW hne q6 g0 g1 g2 g3 g4 q1
                  go_loopw [24] (fun q wr => ∃ (i : Nat), i ≤ s.t.length ∧ q = .int .i64 i ∧ Hid (Upd [] ((h6 ++ (hw ++ (h2 ++ [(w.heap.size, .cells (stepCells ⟨xk, xa, xb, xc, xv⟩) 25 (0, 0))]))) ++ h5) w wr)) (fun q _ => s.t.length - (intOf q).toNat)
                  case atStart => exact ⟨0, by omega, rfl, X6⟩
                  case round =>
                    obtain ⟨i, hi, rfl, HU⟩ := hrel
                    by_cases hil : i < s.t.length
                    · obtain ⟨y, hy⟩ : ∃ y, y = s.t.getD i 0 := ⟨_, rfl⟩
                      obtain ⟨ga, oa, rfl, ca⟩ := SL2.out.intAt HU.out.inn.left.right.right.left hil
                      obtain ⟨gb, ob, rfl, cb⟩ := SL6.out.intAt HU.out.inn.left.left hil
                      rw [← hy] at ca cb
                      clear hy
                      go_wp2
                      go_quiet (fail)
                      go_wp2
                      go_roundw
                      case rel => exact ⟨i + 1, by omega, by go_num, HU.out.drewN' nq⟩
                      case measure => simp [intOf]; omega
                    · have HX : Hid (∃ h, CoreH pc L s' h ∧ Upd [] ((h6 ++ (hw ++ (h2 ++ [(w.heap.size, .cells (stepCells ⟨xk, xa, xb, xc, xv⟩) 25 (0, 0))]))) ++ h) w wr) := ⟨h5, C5.out, HU.out⟩
                      clear HU C5 X6
                      go_wp2
                      go_loopw [25] (fun q wr => ∃ (i : Nat), i ≤ s.ws.length ∧ q = .int .i64 i ∧ Hid (∃ h, CoreH pc L s' h ∧ Upd [] ((h6 ++ (hw ++ (h2 ++ [(w.heap.size, .cells (stepCells ⟨xk, xa, xb, xc, xv⟩) 25 (0, 0))]))) ++ h) w wr)) (fun q _ => s.ws.length - (intOf q).toNat)
                      case atStart => exact ⟨0, by omega, rfl, HX⟩
                      case round =>
                        obtain ⟨m, hm, rfl, HY⟩ := hrel
                        by_cases hml : m < s.ws.length
                        · obtain ⟨h7, c7, U7⟩ := HY.out
                          obtain ⟨y, hy⟩ : ∃ y, y = s.ws.getD m 0 := ⟨_, rfl⟩
                          have hdm := HD'.out m hml
                          rw [← hy] at hdm
                          obtain ⟨q1, q2, q3, q4, q5, q6⟩ := c7.ptrs (x := h6 ++ (hw ++ (h2 ++ [(w.heap.size, .cells (stepCells ⟨xk, xa, xb, xc, xv⟩) 25 (0, 0))]))) U7.inn
                          obtain ⟨ga, oa, rfl, ca⟩ := SLX.out.intAt U7.inn.left.right.left hml
                          have HDM := Lib.hid hdm
                          have HYY := Lib.hid hy
                          have HU7 := Lib.hid (And.intro c7 U7)
                          simp only [ptr] at q1
                          clear hdm hy c7 U7 q2 q3 q4 q5 q6 ca HY HX
                          go_wp2_with (go_at_call 10; refine Calls.mono (HDM.out _ _ HU7.out.2.inn.right HU7.out.1) ?_; rintro e w8 ⟨rfl, h8, c8, u8⟩; have U8 := HU7.out.2.underL u8; have cz : w8.cell? ⟨ga, oa + m, none⟩ = some (.int .u64 y) := by (obtain ⟨gz, oz, ez, cz⟩ := SLX.out.intAt U8.inn.left.right.left hml; rw [← HYY.out] at cz; cases ez; exact cz))
                          go_roundw
                          case rel => exact ⟨m + 1, by omega, by go_num, _, c8, U8⟩
                          case measure => simp [intOf]; omega
                        · go_wp2
                          go_ret
                          obtain ⟨h7, c7, U7⟩ := HY.out
                          exact ⟨rfl, U7.forget (List.nil_sublist _)⟩
          · go_wp2
            go_ret
            exact ⟨rfl, hW.2.forget (List.nil_sublist _)⟩
        · go_wp2
          go_ret
          exact ⟨rfl, hW.2.forget (List.nil_sublist _)⟩
    · generalize runS (coreNew C) (l.take k) = s at *
      obtain ⟨g0, g1, g2, g3, g4⟩ := step_cells (x := ⟨xk, xa, xb, xc, xv⟩) hW.2.inn.head
      simp only at g0 g1 g2 g3 g4
      by_cases hx1 : 1 ≤ xk
      · by_cases hx2 : xk ≤ 10
        · obtain ⟨q1, q2, q3, q4, q5, q6⟩ := hW.1.ptrs (x := [_]) hW.2.inn
          have hall := fun W h (hi : In W h) hc => core_all pc L s W h hi hc
          have hlen := fun W h (hi : In W h) hc => core_alen pc L s W h hi hc
          have hld := fun i hl W h (hi : In W h) hc => core_aload pc L s i hl W h hi hc
          have hfac := hW.1.facts
          have HA := Lib.hid hall
          have HE := Lib.hid hlen
          have HD := Lib.hid hld
          have HFA := Lib.hid hfac
          have HW0 := Lib.hid hW
          have HFs := Lib.hid hF
          simp only [ptr] at q1 q2 q3 q4 q5 q6
          clear hall hlen hld hfac hW HW q2 q3 q4 q5 hF
          go_wp2_with (go_at_call 8; refine Calls.mono (HA.out _ _ HW0.out.2.inn.right HW0.out.1) ?_; rintro e w2 ⟨v2, h2, rfl, sl2, u2⟩; have U2 := HW0.out.2.moreX u2; obtain ⟨ao2, cap2, rfl, _⟩ := sl2.shape)
          have U3 := U2.allocX (.cells #[] 23 (0, 0))
          have sl3 : SliceH 23 1 (.slice (some ⟨w2.heap.size, 0, none⟩) 0 0) 0 (u64s (s.ws.take 0)) [(w2.heap.size, .cells #[] 23 (0, 0))] := SliceH.made (xs := []) rfl (by decide)
          have HS3 : Hid (∃ hw h, SliceH 23 1 (.slice (some ⟨w2.heap.size, 0, none⟩) 0 0) 0 (u64s (s.ws.take 0)) hw ∧ CoreH pc L s h ∧ Upd [] ((hw ++ (h2 ++ [(w.heap.size, .cells (stepCells ⟨xk, xa, xb, xc, xv⟩) 25 (0, 0))])) ++ h) w (w2.alloc (.cells #[] 23 (0, 0)))) := ⟨_, h, sl3, HW0.out.1, U3⟩
          have SL2 := Lib.hid sl2
          have hwb : s.ws.length ≤ 1048576 := HFA.out.2.2.1
          have htb : s.t.length ≤ 64 := HFA.out.1
          clear sl3 U3 U2 u2 sl2 q1 q6 g0 g1 g2 g3 g4 HW0
          go_loopw [18, 19] (fun v q wr => ∃ (j : Nat), j ≤ s.ws.length ∧ q = .int .i64 j ∧ (∃ ao cap, v = .slice ao j cap) ∧ Hid (∃ hw h, SliceH 23 1 v j (u64s (s.ws.take j)) hw ∧ CoreH pc L s h ∧ Upd [] ((hw ++ (h2 ++ [(w.heap.size, .cells (stepCells ⟨xk, xa, xb, xc, xv⟩) 25 (0, 0))])) ++ h) w wr)) (fun _ q _ => s.ws.length - (intOf q).toNat)
          case atStart => exact ⟨0, by omega, rfl, ⟨_, _, rfl⟩, HS3⟩
          case round =>
            obtain ⟨j, hj, rfl, ⟨ao3, cap3, rfl⟩, HV⟩ := hrel
            obtain ⟨hw, hh, slw, hcc, UW⟩ := HV.out
            obtain ⟨q1, q2, q3, q4, q5, q6⟩ := hcc.ptrs (x := hw ++ (h2 ++ [(w.heap.size, .cells (stepCells ⟨xk, xa, xb, xc, xv⟩) 25 (0, 0))])) UW.inn
            simp only [ptr] at q1 q2 q3 q4 q5 q6
            by_cases hjl : j < s.ws.length
            · have hjc : ((j : Int) < s.ws.length) := by omega
              have SLW := Lib.hid slw
              have HCC := Lib.hid (And.intro hcc UW)
              have hmax : j + 1 ≤ maxLen := by have := HFA.out.2.2.1; unfold maxLen; omega
              clear q2 q3 q4 q5 q6 slw hcc UW
              obtain ⟨y, hy⟩ : ∃ y, y = s.ws.getD j 0 := ⟨_, rfl⟩
              have hdj := HD.out j hjl
              have hts := u64s_take s.ws j hjl
              rw [← hy] at hdj hts
              have HDJ := Lib.hid hdj
              have HTS := Lib.hid hts
              clear hdj hts hy
              go_wp2_with (first
                | (go_at_call 9; refine Calls.mono (HE.out _ _ HCC.out.2.inn.right HCC.out.1) ?_; rintro e wa ⟨rfl, rfl⟩)
                | (go_at_call 10; refine Calls.mono (HDJ.out _ _ HCC.out.2.inn.right HCC.out.1) ?_; rintro e wb ⟨rfl, hb, cb, ub⟩; have UB := HCC.out.2.underL ub; have H1 := Lib.hid (news_of (news := [.int .u64 y]) (w := wb.alloc (.cells #[.int .u64 y] 23 (0, 0))) (b := wb.heap.size) (T := 23) (fr := (0, 0)) heap_alloc_new); have UA := UB.skip' (.cells #[.int .u64 y] 23 (0, 0)); clear UB ub)
                | (at_builtin; refine wpList_append_mine rfl (.tmp 96) (.tmp 98) 49 rfl 23 1 8 (.int .u64 0) Try.underlying49 Try.infoU64 rfl (by decide) (.slice ao3 j cap3) j (u64s (s.ws.take j)) hw rfl SLW.out UA.inn.left.left ⟨wb.heap.size, 0, none⟩ 1 1 [.int .u64 y] rfl H1.out rfl (by intro u hu; simp at hu; subst hu; rfl) (Or.inl (by decide)) hmax (by have := HFA.out.2.2.1; omega) ?_; intro v' w3 hX' hS' hU'; obtain ⟨ao', cap', rfl, _⟩ := hS'.shape; have U4 := UA.leftX hU'))
              go_roundw
              case rel => exact ⟨j + 1, by omega, by go_num, ⟨_, _, rfl⟩, _, _, by rw [HTS.out]; exact hS', cb, U4⟩
              case measure => simp [intOf]; omega
            · have hje : j = s.ws.length := by omega
              subst hje
              have hbox := UW.inn.left.right.right
              obtain ⟨g0, g1, g2, g3, g4⟩ := step_cells (x := ⟨xk, xa, xb, xc, xv⟩) hbox.head
              simp only at g0 g1 g2 g3 g4
              have hdo := fun W h (hi : In W h) hc => do_step pc L s ⟨xk, xa, xb, xc, xv⟩ hxv HFs.out.q W h hi hc
              have hlaw := errors_law s ⟨xk, xa, xb, xc, xv⟩ hx1 hx2
              generalize ansS s ⟨xk, xa, xb, xc, xv⟩ = A at *
              generalize stepS s ⟨xk, xa, xb, xc, xv⟩ = s' at *
              obtain ⟨Ae, Ay, An, Av⟩ := A
              simp only at hlaw
              simp only [ansCells, stepCells, ptr] at hdo
              have HDO := Lib.hid hdo
              have HCC := Lib.hid (And.intro hcc UW)
              have SLW := Lib.hid slw
              clear hdo hcc UW hbox slw q2 q3 q4 q5 q6 HV HS3
              by_cases he : Ae = 0
              · subst he
                clear hlaw
                go_wp2_with (first
                  | (go_at_call 9; refine Calls.mono (HE.out _ _ HCC.out.2.inn.right HCC.out.1) ?_; rintro e wa ⟨rfl, rfl⟩)
                  | (go_at_call 7; refine Calls.mono (HDO.out _ _ HCC.out.2.inn.right HCC.out.1) ?_; rintro e w5 ⟨rfl, h5, c5, u5⟩; have U5 := HCC.out.2.underL u5))
                go_ret
                exact ⟨rfl, (U5.skip' _).forget (List.nil_sublist _)⟩
              · obtain ⟨rfl, rfl, rfl, e4, e5⟩ := hlaw he
                have hne : (Ae == 0) = false := by simpa using he
                have hall' := fun W h (hi : In W h) hc => core_all pc L s' W h hi hc
                rw [e4] at hall'
                have hld' := fun i hl W h (hi : In W h) hc => core_aload pc L s' i hl W h hi hc
                rw [e5] at hld'
                have HA' := Lib.hid hall'
                have HD' := Lib.hid hld'
                clear he hall' hld' e4 e5
                go_wp2_with (first
                  | (go_at_call 9; refine Calls.mono (HE.out _ _ HCC.out.2.inn.right HCC.out.1) ?_; rintro e wa ⟨rfl, rfl⟩)
                  | (go_at_call 7; refine Calls.mono (HDO.out _ _ HCC.out.2.inn.right HCC.out.1) ?_; rintro e w5 ⟨rfl, h5, c5, u5⟩; have U5 := (HCC.out.2.underL u5).skip' (.cells (ansCells ⟨Ae, false, 0, 0⟩) 35 (0, 0)); simp only [ansCells] at U5; obtain ⟨q1, q2, q3, q4, q5, q6⟩ := c5.ptrs (x := hw ++ (h2 ++ [(w.heap.size, .cells (stepCells ⟨xk, xa, xb, xc, xv⟩) 25 (0, 0))])) U5.inn; simp only [ptr] at q1 q2 q3 q4 q5 q6; clear q1 q2 q3 q4 q5)
                  | (go_at_call 8; refine Calls.mono (HA'.out _ _ U5.inn.right c5) ?_; rintro e w6 ⟨v6, h6, rfl, sl6, u6⟩; have U6 := U5.moreX u6; obtain ⟨ao6, cap6, rfl, _⟩ := sl6.shape))
                have X6 : Hid (Upd [] ((h6 ++ (hw ++ (h2 ++ [(w.heap.size, .cells (stepCells ⟨xk, xa, xb, xc, xv⟩) 25 (0, 0))]))) ++ h5) w w6) := U6
                have SL6 := Lib.hid sl6
                have C5 := Lib.hid c5
                have htake := SLW.out
                rw [List.take_length] at htake
                have SLX := Lib.hid htake
                clear U6 U5 u6 u5 sl6 c5 htake SLW hne q6 g0 g1 g2 g3 g4 q1
                go_loopw [24] (fun q wr => ∃ (i : Nat), i ≤ s.t.length ∧ q = .int .i64 i ∧ Hid (Upd [] ((h6 ++ (hw ++ (h2 ++ [(w.heap.size, .cells (stepCells ⟨xk, xa, xb, xc, xv⟩) 25 (0, 0))]))) ++ h5) w wr)) (fun q _ => s.t.length - (intOf q).toNat)
                case atStart => exact ⟨0, by omega, rfl, X6⟩
                case round =>
                  obtain ⟨i, hi, rfl, HU⟩ := hrel
                  by_cases hil : i < s.t.length
                  · obtain ⟨y, hy⟩ : ∃ y, y = s.t.getD i 0 := ⟨_, rfl⟩
                    obtain ⟨ga, oa, rfl, ca⟩ := SL2.out.intAt HU.out.inn.left.right.right.left hil
                    obtain ⟨gb, ob, rfl, cb⟩ := SL6.out.intAt HU.out.inn.left.left hil
                    rw [← hy] at ca cb
                    clear hy
                    go_wp2
                    go_quiet (fail)
                    go_wp2
                    go_roundw
                    case rel => exact ⟨i + 1, by omega, by go_num, HU.out.drewN' nq⟩
                    case measure => simp [intOf]; omega
                  · have HX : Hid (∃ h, CoreH pc L s' h ∧ Upd [] ((h6 ++ (hw ++ (h2 ++ [(w.heap.size, .cells (stepCells ⟨xk, xa, xb, xc, xv⟩) 25 (0, 0))]))) ++ h) w wr) := ⟨h5, C5.out, HU.out⟩
                    clear HU C5 X6
                    go_wp2
                    go_loopw [25] (fun q wr => ∃ (i : Nat), i ≤ s.ws.length ∧ q = .int .i64 i ∧ Hid (∃ h, CoreH pc L s' h ∧ Upd [] ((h6 ++ (hw ++ (h2 ++ [(w.heap.size, .cells (stepCells ⟨xk, xa, xb, xc, xv⟩) 25 (0, 0))]))) ++ h) w wr)) (fun q _ => s.ws.length - (intOf q).toNat)
                    case atStart => exact ⟨0, by omega, rfl, HX⟩
                    case round =>
                      obtain ⟨m, hm, rfl, HY⟩ := hrel
                      by_cases hml : m < s.ws.length
                      · obtain ⟨h7, c7, U7⟩ := HY.out
                        obtain ⟨y, hy⟩ : ∃ y, y = s.ws.getD m 0 := ⟨_, rfl⟩
                        have hdm := HD'.out m hml
                        rw [← hy] at hdm
                        obtain ⟨q1, q2, q3, q4, q5, q6⟩ := c7.ptrs (x := h6 ++ (hw ++ (h2 ++ [(w.heap.size, .cells (stepCells ⟨xk, xa, xb, xc, xv⟩) 25 (0, 0))]))) U7.inn
                        obtain ⟨ga, oa, rfl, ca⟩ := SLX.out.intAt U7.inn.left.right.left hml
                        have HDM := Lib.hid hdm
                        have HYY := Lib.hid hy
                        have HU7 := Lib.hid (And.intro c7 U7)
                        simp only [ptr] at q1
                        clear hdm hy c7 U7 q2 q3 q4 q5 q6 ca HY HX
                        go_wp2_with (go_at_call 10; refine Calls.mono (HDM.out _ _ HU7.out.2.inn.right HU7.out.1) ?_; rintro e w8 ⟨rfl, h8, c8, u8⟩; have U8 := HU7.out.2.underL u8; have cz : w8.cell? ⟨ga, oa + m, none⟩ = some (.int .u64 y) := by (obtain ⟨gz, oz, ez, cz⟩ := SLX.out.intAt U8.inn.left.right.left hml; rw [← HYY.out] at cz; cases ez; exact cz))
                        go_roundw
                        case rel => exact ⟨m + 1, by omega, by go_num, _, c8, U8⟩
                        case measure => simp [intOf]; omega
                      · go_wp2
                        go_ret
                        obtain ⟨h7, c7, U7⟩ := HY.out
                        exact ⟨rfl, U7.forget (List.nil_sublist _)⟩
        · go_wp2
          go_ret
          exact ⟨rfl, hW.2.forget (List.nil_sublist _)⟩
      · go_wp2
        go_ret
        exact ⟨rfl, hW.2.forget (List.nil_sublist _)⟩

end Go.Proofs.Ytnemfdbllmahkab
