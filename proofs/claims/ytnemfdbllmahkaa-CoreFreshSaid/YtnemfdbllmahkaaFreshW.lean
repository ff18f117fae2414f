/- CoreFresh of the statements' package answers true. Conditions: none. -/
import Derived.Test.YtnemfdbllmahkaaRows
import Derived.Test.YtnemfdbllmahkaaCopiesW
set_option linter.unusedVariables false
set_option linter.unusedSimpArgs false
namespace Go.Proofs.Ytnemfdbllmahkaa
open Go.RowKit

theorem Upd.besideR {w0 w w' : World} {h0 h h' k : Hp} (a : Upd h0 (h ++ k) w0 w) (u : Upd h h' w w') : Upd h0 (h' ++ k) w0 w' := a.trans (u.beside a.inn)
theorem i64_rem {a b : Int} (h0 : 0 ≤ a) : a.tmod b = a % b := Int.tmod_eq_emod_of_nonneg h0

/-- the head of a script's loop: a core, and the configuration beside it -/
def Loop (pc : Nat) (L : CoreL) (s : CoreS) (k : Hp) (w wr : World) : Prop := ∃ h, CoreH pc L s h ∧ Upd [] (h ++ k) w wr

set_option maxRecDepth 100000 in
set_option maxHeartbeats 4000000 in
theorem coreFresh_any (a b c d : Int) (sv : Value) (l : List StepS) (r q : Int) (ha : U8 a) (hb : U8 b) (hc : U8 c) (hd : U8 d) {w : World} (hs : IsScript w sv l) (hr : U8 r) (hq : U8 q) :
    Calls Try.prog 5 #[.int .u8 a, .int .u8 b, .int .u8 c, .int .u8 d, sv, .int .u8 r, .int .u8 q] w fun e w' => e = .returned (.bool true) ∧ Upd [] [] w w' := by
  have hok := cfgOf_ok ha hb hc hd
  have hcfg := law_config a b c d ha hb hc hd w
  have hh : 2 ≤ (cfgOf a b c d).handles := by have := ha.1; show 2 ≤ a % 5 + 2; omega
  have hl : 1 ≤ (cfgOf a b c d).largest ∧ (cfgOf a b c d).largest ≤ 8 := by have := hd.1; show 1 ≤ d % 8 + 1 ∧ d % 8 + 1 ≤ 8; omega
  obtain ⟨hfit, hlen, ao, cap, rfl, hsh⟩ := hs
  obtain ⟨r0, r1⟩ := hr
  obtain ⟨q0, q1⟩ := hq
  have HSc := Lib.hid hsh
  have HFt := Lib.hid hfit
  clear ha hb hc hd hsh hfit
  generalize cfgOf a b c d = C at *
  obtain ⟨l0, l1⟩ := hl
  have f0 := coreNew_fine (Cfg.fits hok)
  have hC0 : (coreNew C).C = C := rfl
  have HF0 := Lib.hid (And.intro f0 hC0)
  have HOK := Lib.hid hok
  clear f0 hok hC0
  simp only [cfgCells] at hcfg
  go_enter Try.func5, Try.ntmps5
  go_wp2_with (first
    | (go_at_call 8; refine Calls.mono hcfg ?_; rintro e v0 ⟨rfl, x0⟩; clear hcfg)
    | (go_at_call 9; refine Calls.mono (core_new C HOK.out _) ?_; rintro e w0 ⟨pc, L, h0, rfl, c0, u0⟩; have U0 := (x0.alloc' (.cells (cfgCells C) 24 (0, 0))).more u0; clear x0 u0; simp only [ptr])
    | (go_at_call 10; refine Calls.mono (law_awake _) ?_; rintro e w1 ⟨rfl, x1⟩; have U1 := U0.under0 x1; clear U0 x1))
  have HS : Hid (Loop pc L (runS (coreNew C) (l.take 0)) [(v0.heap.size, .cells (cfgCells C) 24 (0, 0))] w w1) := ⟨h0, c0, U1⟩
  clear U1 c0
  generalize v0.heap.size = B at *
  go_loopw [18] (fun q wr => ∃ (k : Nat), k ≤ l.length ∧ q = .int .i64 k ∧ Hid (Loop pc L (runS (coreNew C) (l.take k)) [(B, .cells (cfgCells C) 24 (0, 0))] w wr)) (fun q _ => l.length - (intOf q).toNat)
  case atStart => exact ⟨0, by omega, rfl, HS⟩
  case round =>
    obtain ⟨k, hk, rfl, HW⟩ := hrel
    obtain ⟨h, hW⟩ := HW.out
    have hF : (runS (coreNew C) (l.take k)).Fine := HF0.out.1.run _
    by_cases hlt : k < l.length
    · by_cases h60 : k < 60
      · obtain ⟨bq, off, rfl, hbl, e0, e1, e2, e3, e4⟩ := HSc.out k hlt
        have d0 := hW.2.oldcell hbl e0
        have d1 := hW.2.oldcell hbl e1
        have d2 := hW.2.oldcell hbl e2
        have d3 := hW.2.oldcell hbl e3
        have d4 := hW.2.oldcell hbl e4
        have hdo := fun W h (hi : In W h) hc => do_step pc L (runS (coreNew C) (l.take k)) l[k] (HFt.out _ (List.getElem_mem hlt)).v hF.q W h hi hc
        rw [← runS_succ _ _ _ hlt] at hdo
        have HD := Lib.hid hdo
        have HWW := Lib.hid hW
        clear e0 e1 e2 e3 e4 hdo hF hW HW
        go_wp2_with (go_at_call 19; refine Calls.mono (HD.out _ _ HWW.out.2.inn.left HWW.out.1) ?_; rintro e w2 ⟨rfl, h2, c2, u2⟩; have U2 := HWW.out.2.besideR u2)
        go_roundw
        case rel => exact ⟨k + 1, by omega, by go_num, _, c2, U2⟩
        case measure => simp [intOf]; omega
      · have hb : wr.cell? ⟨B, 8, none⟩ = some (.int .i64 C.largest) := cell_of hW.2.inn.right.head 8
        have hP0 : 0 ≤ r % (C.largest + 1) := Int.emod_nonneg _ (by omega)
        have hP1 : r % (C.largest + 1) < C.largest + 1 := Int.emod_lt_of_pos _ (by omega)
        have hQ0 : 0 ≤ q % (C.largest + 1 - r % (C.largest + 1)) := Int.emod_nonneg _ (by omega)
        have hQ1 : q % (C.largest + 1 - r % (C.largest + 1)) < C.largest + 1 - r % (C.largest + 1) := Int.emod_lt_of_pos _ (by omega)
        have hD : (C.largest + 1 - r % (C.largest + 1) == 0) = false := by simp; omega
        go_wp2_with fail
        generalize hPe : r % (C.largest + 1) = P at *
        generalize hQe : q % (C.largest + 1 - P) = Q at *
        clear hPe hQe
        have hsC : (runS (coreNew C) (l.take k)).C = C := by rw [run_C]; exact HF0.out.2
        generalize runS (coreNew C) (l.take k) = s at *
        have hsh : s.shapeOk P Q = true := by simp [CoreS.shapeOk, hsC]; omega
        have htl := hF.tl
        rw [hsC] at htl
        have hk1 : tblOk s.t 1 = true := by rw [tblOk_iff]; omega
        by_cases hrm : s.roomOk (P + Q + 2) = true
        · have hE := makeE_zero hk1 hsh hrm
          have hM := hF.made (i := 1) hsh hrm
          have hH := hM.held hF hsh hk1
          have hlp := fresh_loop hF (by rw [hsC]; exact hh) hsh hM
          have hF2 : (s.made 1 P Q).Fine := by have := hF.make 1 P Q; rw [make_eq hE] at this; exact this
          have hmk := fun W h (hi : In W h) hc => core_make pc L s 1 P Q W h hi hc hF.q.l0 hF.q.l1 (by rw [hF.q.cp]; omega) (by rw [hF.q.cp]; omega) (.inl hF.q.par)
          rw [hE, make_eq hE] at hmk
          have hgt : ∀ t n, t.length = s.t.length → tblGet t 1 = 1 + s.y.u0 → 0 ≤ n → n < P → _ := fun t n h1 h2 h3 h4 => hM.get hF hsh (hlp t h1 h2).1 (hlp t h1 h2).2.1 h3 h4
          have hrdd : ∀ t n, t.length = s.t.length → tblGet t 1 = 1 + s.y.u0 → 0 ≤ n → n < Q → _ := fun t n h1 h2 h3 h4 => hM.read hF hsh (hlp t h1 h2).1 h3 h4
          have ht0 : (s.made 1 P Q).t.length = s.t.length ∧ tblGet (s.made 1 P Q).t 1 = 1 + s.y.u0 := by
            refine ⟨by rw [hM.t, len_tblSet], ?_⟩
            rw [hM.t, tblGet_set hk1, if_pos rfl]
          generalize s.made 1 P Q = s2 at *
          have hsp := fun W h (hi : In W h) hc => core_shapeof pc L s2 1 W h hi hc
          rw [hH.objE, hH.objH] at hsp
          have hz : (s.newHd P Q).size - (s.newHd P Q).ptrs = Q := by show P + Q - P = Q; omega
          rw [hz] at hsp
          have hz2 : (s.newHd P Q).ptrs = P := rfl
          rw [hz2] at hsp
          simp only [ptr] at hmk hsp
          have K1 := Lib.hid hmk
          have K2 := Lib.hid hsp
          have HL := Lib.hid hlp
          have HG := Lib.hid hgt
          have HR := Lib.hid hrdd
          have HT0 := Lib.hid ht0
          have HQ2 := Lib.hid hF2.q
          have HW0 := Lib.hid hW
          clear hmk hsp hlp hgt hrdd ht0 hE hM hH hF2 hsh hk1 hrm hz hz2 hsC hW HW hD hb htl
          go_at_call 11
          with_reducible refine Calls.mono (K1.out _ _ HW0.out.2.inn.left HW0.out.1) ?_
          rintro e w2 ⟨rfl, h2, c2, u2⟩
          have U2 := HW0.out.2.besideR u2
          go_wp2_with (go_at_call 23; with_reducible refine Calls.mono (K2.out _ _ U2.inn.left c2) ?_; rintro e w3 ⟨rfl, h3, c3, u3⟩; have U3 := U2.besideR u3)
          have HS2 : Hid (∃ t h, t.length = s.t.length ∧ tblGet t 1 = 1 + s.y.u0 ∧ CoreH pc L { s2 with t := t } h ∧ Upd [] (h ++ [(B, .cells (cfgCells C) 24 (0, 0))]) w w3) := ⟨s2.t, h3, HT0.out.1, HT0.out.2, c3, U3⟩
          clear U2 U3 c2 c3 u2 u3
          go_loopw [24] (fun q wr => ∃ (i : Nat), (i : Int) ≤ P ∧ q = .int .i64 i ∧ Hid (∃ t h, t.length = s.t.length ∧ tblGet t 1 = 1 + s.y.u0 ∧ CoreH pc L { s2 with t := t } h ∧ Upd [] (h ++ [(B, .cells (cfgCells C) 24 (0, 0))]) w wr)) (fun q _ => P.toNat - (intOf q).toNat)
          case atStart => exact ⟨0, by omega, rfl, HS2⟩
          case round =>
            obtain ⟨i, hi, rfl, HW⟩ := hrel
            by_cases hip : (i : Int) < P
            · obtain ⟨t, h, hW1, hW2, hW3⟩ := HW.out
              obtain ⟨x1, x2⟩ := HG.out t i hW1 hW2 (by omega) hip
              obtain ⟨y1, y2, y3, y4, y5, y6, y7⟩ := HL.out t hW1 hW2
              have hget := fun W h (hi : In W h) hc => core_got pc L { s2 with t := t } 0 1 i (HQ2.out.table t) W h hi hc
              have hnil := fun W h (hi : In W h) hc => core_nil pc L { s2 with t := tblSet t 0 0 } 0 W h hi hc
              rw [x1, x2] at hget
              rw [y6, y7] at hnil
              simp only [ptr] at hget hnil
              have G1 := Lib.hid hget
              have G2 := Lib.hid hnil
              have G3 := Lib.hid (And.intro y4 y5)
              have G4 := Lib.hid hW3
              clear hget hnil x1 x2 y1 y2 y3 y4 y5 y6 y7 hW1 hW2 hW3 HW
              go_wp2_with (first
                | (go_at_call 15; with_reducible refine Calls.mono (G1.out _ _ G4.out.2.inn.left G4.out.1) ?_; rintro e w4 ⟨rfl, h4, c4, u4⟩; have U4 := G4.out.2.besideR u4)
                | (go_at_call 16; with_reducible refine Calls.mono (G2.out _ _ U4.inn.left c4) ?_; rintro e w5 ⟨rfl, u5⟩; have U5 := U4.besideR u5))
              go_roundw
              case rel => exact ⟨i + 1, by omega, by go_num, _, _, G3.out.1, G3.out.2, c4, U5⟩
              case measure => simp [intOf]; omega
            · go_wp2
              go_loopw [27] (fun q wr => ∃ (i : Nat), (i : Int) ≤ Q ∧ q = .int .i64 i ∧ Hid (∃ t h, t.length = s.t.length ∧ tblGet t 1 = 1 + s.y.u0 ∧ CoreH pc L { s2 with t := t } h ∧ Upd [] (h ++ [(B, .cells (cfgCells C) 24 (0, 0))]) w wr)) (fun q _ => Q.toNat - (intOf q).toNat)
              case atStart => exact ⟨0, by omega, rfl, HW⟩
              case round =>
                obtain ⟨j, hj, rfl, HV⟩ := hrel
                by_cases hjq : (j : Int) < Q
                · obtain ⟨t, h, hW1, hW2, hW3⟩ := HV.out
                  obtain ⟨x1, x2⟩ := HR.out t j hW1 hW2 (by omega) hjq
                  have hread := fun W h (hi : In W h) hc => core_read pc L { s2 with t := t } 1 j W h hi hc
                  rw [x1, x2] at hread
                  simp only [ptr] at hread
                  have G1 := Lib.hid hread
                  have G3 := Lib.hid (And.intro hW1 hW2)
                  have G4 := Lib.hid hW3
                  clear hread x1 x2 hW1 hW2 hW3 HV HW
                  go_wp2_with (go_at_call 14; with_reducible refine Calls.mono (G1.out _ _ G4.out.2.inn.left G4.out.1) ?_; rintro e w4 ⟨rfl, h4, c4, u4⟩; have U4 := G4.out.2.besideR u4)
                  go_roundw
                  case rel => exact ⟨j + 1, by omega, by go_num, _, _, G3.out.1, G3.out.2, c4, U4⟩
                  case measure => simp [intOf]; omega
                · go_wp2
                  go_ret
                  obtain ⟨t, h, hW1, hW2, hW3⟩ := HV.out
                  exact ⟨rfl, hW3.2.forget (List.nil_sublist _)⟩
        · have hE : s.makeE 1 P Q = 7 := by simp [CoreS.makeE, hk1, hsh, hrm]
          have hmk := fun W h (hi : In W h) hc => core_make pc L s 1 P Q W h hi hc hF.q.l0 hF.q.l1 (by rw [hF.q.cp]; omega) (by rw [hF.q.cp]; omega) (.inl hF.q.par)
          rw [hE] at hmk
          simp only [ptr] at hmk
          have K1 := Lib.hid hmk
          have HW0 := Lib.hid hW
          clear hmk hE hsh hk1 hrm hsC hW HW hD hb htl hF
          go_at_call 11
          with_reducible refine Calls.mono (K1.out _ _ HW0.out.2.inn.left HW0.out.1) ?_
          rintro e w2 ⟨rfl, h2, c2, u2⟩
          have U2 := HW0.out.2.besideR u2
          go_wp2
          go_ret
          exact ⟨rfl, U2.forget (List.nil_sublist _)⟩
    · have hb : wr.cell? ⟨B, 8, none⟩ = some (.int .i64 C.largest) := cell_of hW.2.inn.right.head 8
      have hP0 : 0 ≤ r % (C.largest + 1) := Int.emod_nonneg _ (by omega)
      have hP1 : r % (C.largest + 1) < C.largest + 1 := Int.emod_lt_of_pos _ (by omega)
      have hQ0 : 0 ≤ q % (C.largest + 1 - r % (C.largest + 1)) := Int.emod_nonneg _ (by omega)
      have hQ1 : q % (C.largest + 1 - r % (C.largest + 1)) < C.largest + 1 - r % (C.largest + 1) := Int.emod_lt_of_pos _ (by omega)
      have hD : (C.largest + 1 - r % (C.largest + 1) == 0) = false := by simp; omega
      go_wp2_with fail
      generalize hPe : r % (C.largest + 1) = P at *
      generalize hQe : q % (C.largest + 1 - P) = Q at *
      clear hPe hQe
      have hsC : (runS (coreNew C) (l.take k)).C = C := by rw [run_C]; exact HF0.out.2
      generalize runS (coreNew C) (l.take k) = s at *
      have hsh : s.shapeOk P Q = true := by simp [CoreS.shapeOk, hsC]; omega
      have htl := hF.tl
      rw [hsC] at htl
      have hk1 : tblOk s.t 1 = true := by rw [tblOk_iff]; omega
      by_cases hrm : s.roomOk (P + Q + 2) = true
      · have hE := makeE_zero hk1 hsh hrm
        have hM := hF.made (i := 1) hsh hrm
        have hH := hM.held hF hsh hk1
        have hlp := fresh_loop hF (by rw [hsC]; exact hh) hsh hM
        have hF2 : (s.made 1 P Q).Fine := by have := hF.make 1 P Q; rw [make_eq hE] at this; exact this
        have hmk := fun W h (hi : In W h) hc => core_make pc L s 1 P Q W h hi hc hF.q.l0 hF.q.l1 (by rw [hF.q.cp]; omega) (by rw [hF.q.cp]; omega) (.inl hF.q.par)
        rw [hE, make_eq hE] at hmk
        have hgt : ∀ t n, t.length = s.t.length → tblGet t 1 = 1 + s.y.u0 → 0 ≤ n → n < P → _ := fun t n h1 h2 h3 h4 => hM.get hF hsh (hlp t h1 h2).1 (hlp t h1 h2).2.1 h3 h4
        have hrdd : ∀ t n, t.length = s.t.length → tblGet t 1 = 1 + s.y.u0 → 0 ≤ n → n < Q → _ := fun t n h1 h2 h3 h4 => hM.read hF hsh (hlp t h1 h2).1 h3 h4
        have ht0 : (s.made 1 P Q).t.length = s.t.length ∧ tblGet (s.made 1 P Q).t 1 = 1 + s.y.u0 := by
          refine ⟨by rw [hM.t, len_tblSet], ?_⟩
          rw [hM.t, tblGet_set hk1, if_pos rfl]
        generalize s.made 1 P Q = s2 at *
        have hsp := fun W h (hi : In W h) hc => core_shapeof pc L s2 1 W h hi hc
        rw [hH.objE, hH.objH] at hsp
        have hz : (s.newHd P Q).size - (s.newHd P Q).ptrs = Q := by show P + Q - P = Q; omega
        rw [hz] at hsp
        have hz2 : (s.newHd P Q).ptrs = P := rfl
        rw [hz2] at hsp
        simp only [ptr] at hmk hsp
        have K1 := Lib.hid hmk
        have K2 := Lib.hid hsp
        have HL := Lib.hid hlp
        have HG := Lib.hid hgt
        have HR := Lib.hid hrdd
        have HT0 := Lib.hid ht0
        have HQ2 := Lib.hid hF2.q
        have HW0 := Lib.hid hW
        clear hmk hsp hlp hgt hrdd ht0 hE hM hH hF2 hsh hk1 hrm hz hz2 hsC hW HW hD hb htl
        go_at_call 11
        with_reducible refine Calls.mono (K1.out _ _ HW0.out.2.inn.left HW0.out.1) ?_
        rintro e w2 ⟨rfl, h2, c2, u2⟩
        have U2 := HW0.out.2.besideR u2
        go_wp2_with (go_at_call 23; with_reducible refine Calls.mono (K2.out _ _ U2.inn.left c2) ?_; rintro e w3 ⟨rfl, h3, c3, u3⟩; have U3 := U2.besideR u3)
        have HS2 : Hid (∃ t h, t.length = s.t.length ∧ tblGet t 1 = 1 + s.y.u0 ∧ CoreH pc L { s2 with t := t } h ∧ Upd [] (h ++ [(B, .cells (cfgCells C) 24 (0, 0))]) w w3) := ⟨s2.t, h3, HT0.out.1, HT0.out.2, c3, U3⟩
        clear U2 U3 c2 c3 u2 u3
        go_loopw [24] (fun q wr => ∃ (i : Nat), (i : Int) ≤ P ∧ q = .int .i64 i ∧ Hid (∃ t h, t.length = s.t.length ∧ tblGet t 1 = 1 + s.y.u0 ∧ CoreH pc L { s2 with t := t } h ∧ Upd [] (h ++ [(B, .cells (cfgCells C) 24 (0, 0))]) w wr)) (fun q _ => P.toNat - (intOf q).toNat)
        case atStart => exact ⟨0, by omega, rfl, HS2⟩
        case round =>
          obtain ⟨i, hi, rfl, HW⟩ := hrel
          by_cases hip : (i : Int) < P
          · obtain ⟨t, h, hW1, hW2, hW3⟩ := HW.out
            obtain ⟨x1, x2⟩ := HG.out t i hW1 hW2 (by omega) hip
            obtain ⟨y1, y2, y3, y4, y5, y6, y7⟩ := HL.out t hW1 hW2
            have hget := fun W h (hi : In W h) hc => core_got pc L { s2 with t := t } 0 1 i (HQ2.out.table t) W h hi hc
            have hnil := fun W h (hi : In W h) hc => core_nil pc L { s2 with t := tblSet t 0 0 } 0 W h hi hc
            rw [x1, x2] at hget
            rw [y6, y7] at hnil
            simp only [ptr] at hget hnil
            have G1 := Lib.hid hget
            have G2 := Lib.hid hnil
            have G3 := Lib.hid (And.intro y4 y5)
            have G4 := Lib.hid hW3
            clear hget hnil x1 x2 y1 y2 y3 y4 y5 y6 y7 hW1 hW2 hW3 HW
            go_wp2_with (first
              | (go_at_call 15; with_reducible refine Calls.mono (G1.out _ _ G4.out.2.inn.left G4.out.1) ?_; rintro e w4 ⟨rfl, h4, c4, u4⟩; have U4 := G4.out.2.besideR u4)
              | (go_at_call 16; with_reducible refine Calls.mono (G2.out _ _ U4.inn.left c4) ?_; rintro e w5 ⟨rfl, u5⟩; have U5 := U4.besideR u5))
            go_roundw
            case rel => exact ⟨i + 1, by omega, by go_num, _, _, G3.out.1, G3.out.2, c4, U5⟩
            case measure => simp [intOf]; omega
          · go_wp2
            go_loopw [27] (fun q wr => ∃ (i : Nat), (i : Int) ≤ Q ∧ q = .int .i64 i ∧ Hid (∃ t h, t.length = s.t.length ∧ tblGet t 1 = 1 + s.y.u0 ∧ CoreH pc L { s2 with t := t } h ∧ Upd [] (h ++ [(B, .cells (cfgCells C) 24 (0, 0))]) w wr)) (fun q _ => Q.toNat - (intOf q).toNat)
            case atStart => exact ⟨0, by omega, rfl, HW⟩
            case round =>
              obtain ⟨j, hj, rfl, HV⟩ := hrel
              by_cases hjq : (j : Int) < Q
              · obtain ⟨t, h, hW1, hW2, hW3⟩ := HV.out
                obtain ⟨x1, x2⟩ := HR.out t j hW1 hW2 (by omega) hjq
                have hread := fun W h (hi : In W h) hc => core_read pc L { s2 with t := t } 1 j W h hi hc
                rw [x1, x2] at hread
                simp only [ptr] at hread
                have G1 := Lib.hid hread
                have G3 := Lib.hid (And.intro hW1 hW2)
                have G4 := Lib.hid hW3
                clear hread x1 x2 hW1 hW2 hW3 HV HW
                go_wp2_with (go_at_call 14; with_reducible refine Calls.mono (G1.out _ _ G4.out.2.inn.left G4.out.1) ?_; rintro e w4 ⟨rfl, h4, c4, u4⟩; have U4 := G4.out.2.besideR u4)
                go_roundw
                case rel => exact ⟨j + 1, by omega, by go_num, _, _, G3.out.1, G3.out.2, c4, U4⟩
                case measure => simp [intOf]; omega
              · go_wp2
                go_ret
                obtain ⟨t, h, hW1, hW2, hW3⟩ := HV.out
                exact ⟨rfl, hW3.2.forget (List.nil_sublist _)⟩
      · have hE : s.makeE 1 P Q = 7 := by simp [CoreS.makeE, hk1, hsh, hrm]
        have hmk := fun W h (hi : In W h) hc => core_make pc L s 1 P Q W h hi hc hF.q.l0 hF.q.l1 (by rw [hF.q.cp]; omega) (by rw [hF.q.cp]; omega) (.inl hF.q.par)
        rw [hE] at hmk
        simp only [ptr] at hmk
        have K1 := Lib.hid hmk
        have HW0 := Lib.hid hW
        clear hmk hE hsh hk1 hrm hsC hW HW hD hb htl hF
        go_at_call 11
        with_reducible refine Calls.mono (K1.out _ _ HW0.out.2.inn.left HW0.out.1) ?_
        rintro e w2 ⟨rfl, h2, c2, u2⟩
        have U2 := HW0.out.2.besideR u2
        go_wp2
        go_ret
        exact ⟨rfl, U2.forget (List.nil_sublist _)⟩

end Go.Proofs.Ytnemfdbllmahkaa
