/- CoreFields of the statements' package answers true. Conditions: none. -/
import Derived.Test.YtnemfdbllmahkaaRows
import Derived.Test.YtnemfdbllmahkaaFieldsP
set_option linter.unusedVariables false
set_option linter.unusedSimpArgs false
namespace Go.Proofs.Ytnemfdbllmahkaa
open Go.RowKit

theorem loop4 {j : Nat} (h : j ≤ 4) (h2 : ¬ j < 4) : j = 4 := by omega

set_option maxRecDepth 100000 in
set_option maxHeartbeats 4000000 in
theorem coreFields_any (a b c d n m x : Int) (ha : U8 a) (hb : U8 b) (hc : U8 c) (hd : U8 d) (hn : U8 n) (hm : U8 m) (hx : U64 x) (w : World) :
    Calls Try.prog 3 #[.int .u8 a, .int .u8 b, .int .u8 c, .int .u8 d, .int .u8 n, .int .u8 m, .int .u64 x] w fun e w' => e = .returned (.bool true) ∧ Upd [] [] w w' := by
  have hok := cfgF_ok ha hb hc hd
  have hcfg := law_config a b c d ha hb hc hd w
  have hh : 2 ≤ (cfgF a b c d).handles := by have := ha.1; show 2 ≤ a % 5 + 2; omega
  obtain ⟨n1, n2⟩ := hn
  obtain ⟨m1, m2⟩ := hm
  obtain ⟨s1, s2, s3, s4, F⟩ := fields_law (c := cfgF a b c d) (Cfg.fits hok) rfl rfl hh (i := n % 4) (k := m % 4) (x := x) (by omega) (by omega)
  have HF := Lib.hid F
  clear hh ha hb hc hd F
  unfold cfgF at hok HF
  generalize cfgOf a b c d = C at *
  simp only [cfgCells] at hcfg
  have HOK := Lib.hid hok
  have HX := Lib.hid hx
  clear hok hx
  have f0 := coreNew_fine (Cfg.fits HOK.out)
  have K1 : Hid (CallsCore 11 [.int .i64 0, .int .i64 4, .int .i64 4] (coreNew { C with largest := 8, nursery := 60 }) (.int .i64 0) s1) := fun pc L W h hi hc => by
    have := core_make pc L _ 0 4 4 W h hi hc f0.q.l0 f0.q.l1 (by rw [f0.q.cp]; omega) (by rw [f0.q.cp]; omega) (.inl f0.q.par)
    rw [HF.out.e1, HF.out.m1] at this
    exact this
  have K2 : Hid (CallsCore 11 [.int .i64 1, .int .i64 0, .int .i64 0] s1 (.int .i64 0) s2) := fun pc L W h hi hc => by
    have f1 := HF.out.q1
    have := core_make pc L _ 1 0 0 W h hi hc f1.q.l0 f1.q.l1 (by rw [f1.q.cp]; omega) (by rw [f1.q.cp]; omega) (.inl f1.q.par)
    rw [HF.out.e2, HF.out.m2] at this
    exact this
  have K3 : Hid (CallsCore 12 [.int .i64 0, .int .i64 (n % 4), .int .u64 x] s2 (.int .i64 0) s3) := fun pc L W h hi hc => by
    have := core_write pc L s2 0 (n % 4) x W h hi hc HX.out
    rw [HF.out.e3, HF.out.m3] at this
    exact this
  have K4 : Hid (CallsCore 13 [.int .i64 0, .int .i64 (m % 4), .int .i64 1] s3 (.int .i64 0) s4) := fun pc L W h hi hc => by
    have := core_set pc L s3 0 (m % 4) 1 W h hi hc
    rw [HF.out.e4, HF.out.m4] at this
    exact this
  clear f0
  go_enter Try.func3, Try.ntmps3
  go_wp2_with (first
    | (go_at_call 8; refine Calls.mono hcfg ?_; rintro e v0 ⟨rfl, x0⟩; clear hcfg)
    | (go_at_call 9; refine Calls.mono (core_new { C with largest := 8, nursery := 60 } HOK.out _) ?_; rintro e w0 ⟨pc, L, h0, rfl, c0, u0⟩; have U0 := (x0.skip' _).trans u0; simp only [ptr])
    | (go_at_call 10; refine Calls.mono (law_awake _) ?_; rintro e w1 ⟨rfl, x1⟩; have U1 := U0.under0 x1; clear U0)
    | (go_at_call 11; with_reducible refine Calls.mono (K1.out pc L _ _ U1.inn c0) ?_; rintro e w2 ⟨rfl, h2, c2, u2⟩; have U2 := U1.trans u2; clear U1 c0)
    | (go_at_call 11; with_reducible refine Calls.mono (K2.out pc L _ _ U2.inn c2) ?_; rintro e w3 ⟨rfl, h3, c3, u3⟩; have U3 := U2.trans u3; clear U2 c2)
    | (go_at_call 12; with_reducible refine Calls.mono (K3.out pc L _ _ U3.inn c3) ?_; rintro e w4 ⟨rfl, h4, c4, u4⟩; have U4 := U3.trans u4; clear U3 c3)
    | (go_at_call 13; with_reducible refine Calls.mono (K4.out pc L _ _ U4.inn c4) ?_; rintro e w5 ⟨rfl, h5, c5, u5⟩; have U5 := U4.trans u5; clear U4 c4))
  have HL := Lib.hid (And.intro HF.out.loop HF.out.q4)
  have HS : Hid (∃ (t : List Int) (h : Hp), t.length = s4.t.length ∧ tblGet t 0 = 1 ∧ CoreH pc L { s4 with t := t } h ∧ Upd [] h w w5) := ⟨s4.t, h5, rfl, HF.out.start, c5, U5⟩
  clear HF K1 K2 K3 K4 HOK HX U5 c5 u5 u4 u3 u2 x1 u0 x0
  have hi : 0 ≤ n % 4 ∧ n % 4 < 4 := by omega
  have hk : 0 ≤ m % 4 ∧ m % 4 < 4 := by omega
  generalize n % 4 = i at *
  generalize m % 4 = k at *
  go_loopw [20] (fun q wr => ∃ (j : Nat), j ≤ 4 ∧ q = .int .i64 j ∧ Hid (∃ (t : List Int) (h : Hp), t.length = s4.t.length ∧ tblGet t 0 = 1 ∧ CoreH pc L { s4 with t := t } h ∧ Upd [] h w wr)) (fun q _ => 4 - (intOf q).toNat)
  case atStart => exact ⟨0, by omega, rfl, HS⟩
  case round =>
    obtain ⟨j, hj, rfl, HW⟩ := hrel
    obtain ⟨t, h, hW⟩ := HW.out
    by_cases hlt : j < 4
    · obtain ⟨l1, l2, l3, l4, l5, l6, l7, l8⟩ := HL.out.1 t j hW.1 hW.2.1 (by omega) (by omega)
      have hq := HL.out.2.q.table t
      have hread := fun W h (hi : In W h) hc => core_read pc L { s4 with t := t } 0 j W h hi hc
      have hget := fun W h (hi : In W h) hc => core_got pc L { s4 with t := t } 1 0 j hq W h hi hc
      have hnil := fun W h (hi : In W h) hc => core_nil pc L { s4 with t := tblSet t 1 (if (j : Int) = k then 11 else 0) } 1 W h hi hc
      rw [l1, l2] at hread
      rw [l3, l4] at hget
      rw [l6, l5] at hnil
      simp only [ptr] at hread hget hnil
      have HR := Lib.hid hread
      have HG := Lib.hid hget
      have HN := Lib.hid hnil
      have HT := Lib.hid (And.intro l7 l8)
      have HC := Lib.hid hW.2.2
      clear l1 l2 l3 l4 l5 l6 l7 l8 hread hget hnil hq hW HW HL
      by_cases hji : (j : Int) = i
      · by_cases hjk : (j : Int) = k
        · simp only [if_pos hji, if_pos hjk, decide_eq_true hjk, Bool.not_true, Bool.not_false] at HR HG HN HT
          have bji : ((j : Int) == i) = true := by simpa using hji
          have cji : ((j : Int) != i) = false := by simpa using hji
          have bjk : ((j : Int) == k) = true := by simpa using hjk
          clear hji hjk
          go_wp2_with (first
            | (go_at_call 14; with_reducible refine Calls.mono (HR.out _ _ HC.out.2.inn HC.out.1) ?_; rintro e w1 ⟨rfl, h1, c1, u1⟩; have U1 := HC.out.2.trans u1)
            | (go_at_call 15; with_reducible refine Calls.mono (HG.out _ _ U1.inn c1) ?_; rintro e w2 ⟨rfl, h2, c2, u2⟩; have U2 := U1.trans u2)
            | (go_at_call 16; with_reducible refine Calls.mono (HN.out _ _ U2.inn c2) ?_; rintro e w3 ⟨rfl, u3⟩; have U3 := U2.trans u3))
          go_roundw
          case rel => exact ⟨j + 1, by omega, by go_num, _, _, HT.out.1, HT.out.2, c2, U3⟩
          case measure => simp [intOf]; omega
        · simp only [if_pos hji, if_neg hjk, decide_eq_false hjk, Bool.not_true, Bool.not_false] at HR HG HN HT
          have bji : ((j : Int) == i) = true := by simpa using hji
          have cji : ((j : Int) != i) = false := by simpa using hji
          have bjk : ((j : Int) == k) = false := by simpa using hjk
          clear hji hjk
          go_wp2_with (first
            | (go_at_call 14; with_reducible refine Calls.mono (HR.out _ _ HC.out.2.inn HC.out.1) ?_; rintro e w1 ⟨rfl, h1, c1, u1⟩; have U1 := HC.out.2.trans u1)
            | (go_at_call 15; with_reducible refine Calls.mono (HG.out _ _ U1.inn c1) ?_; rintro e w2 ⟨rfl, h2, c2, u2⟩; have U2 := U1.trans u2)
            | (go_at_call 16; with_reducible refine Calls.mono (HN.out _ _ U2.inn c2) ?_; rintro e w3 ⟨rfl, u3⟩; have U3 := U2.trans u3))
          go_roundw
          case rel => exact ⟨j + 1, by omega, by go_num, _, _, HT.out.1, HT.out.2, c2, U3⟩
          case measure => simp [intOf]; omega
      · by_cases hjk : (j : Int) = k
        · simp only [if_neg hji, if_pos hjk, decide_eq_true hjk, Bool.not_true, Bool.not_false] at HR HG HN HT
          have bji : ((j : Int) == i) = false := by simpa using hji
          have cji : ((j : Int) != i) = true := by simpa using hji
          have bjk : ((j : Int) == k) = true := by simpa using hjk
          clear hji hjk
          go_wp2_with (first
            | (go_at_call 14; with_reducible refine Calls.mono (HR.out _ _ HC.out.2.inn HC.out.1) ?_; rintro e w1 ⟨rfl, h1, c1, u1⟩; have U1 := HC.out.2.trans u1)
            | (go_at_call 15; with_reducible refine Calls.mono (HG.out _ _ U1.inn c1) ?_; rintro e w2 ⟨rfl, h2, c2, u2⟩; have U2 := U1.trans u2)
            | (go_at_call 16; with_reducible refine Calls.mono (HN.out _ _ U2.inn c2) ?_; rintro e w3 ⟨rfl, u3⟩; have U3 := U2.trans u3))
          go_roundw
          case rel => exact ⟨j + 1, by omega, by go_num, _, _, HT.out.1, HT.out.2, c2, U3⟩
          case measure => simp [intOf]; omega
        · simp only [if_neg hji, if_neg hjk, decide_eq_false hjk, Bool.not_true, Bool.not_false] at HR HG HN HT
          have bji : ((j : Int) == i) = false := by simpa using hji
          have cji : ((j : Int) != i) = true := by simpa using hji
          have bjk : ((j : Int) == k) = false := by simpa using hjk
          clear hji hjk
          go_wp2_with (first
            | (go_at_call 14; with_reducible refine Calls.mono (HR.out _ _ HC.out.2.inn HC.out.1) ?_; rintro e w1 ⟨rfl, h1, c1, u1⟩; have U1 := HC.out.2.trans u1)
            | (go_at_call 15; with_reducible refine Calls.mono (HG.out _ _ U1.inn c1) ?_; rintro e w2 ⟨rfl, h2, c2, u2⟩; have U2 := U1.trans u2)
            | (go_at_call 16; with_reducible refine Calls.mono (HN.out _ _ U2.inn c2) ?_; rintro e w3 ⟨rfl, u3⟩; have U3 := U2.trans u3))
          go_roundw
          case rel => exact ⟨j + 1, by omega, by go_num, _, _, HT.out.1, HT.out.2, c2, U3⟩
          case measure => simp [intOf]; omega
    · obtain rfl := loop4 hj hlt
      go_wp2
      go_ret
      exact ⟨rfl, hW.2.2.2.forget (List.nil_sublist _)⟩

end Go.Proofs.Ytnemfdbllmahkaa
