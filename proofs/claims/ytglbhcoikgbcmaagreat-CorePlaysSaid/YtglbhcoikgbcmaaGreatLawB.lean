/- awake of the statements' package is true. Conditions: none. -/
import Derived.Test.YtglbhcoikgbcmaaGreatRows
import Derived.Test.YtglbhcoikgbcmaaGreatLib
import Derived.Test.YtglbhcoikgbcmaaGreatLawA
set_option linter.unusedVariables false
set_option linter.unusedSimpArgs false
namespace Go.Proofs.YtglbhcoikgbcmaaGreat
open Go.RowKit

def aw0 : CoreS := coreNew (cfgOf 3 40 80 20)
def aw1 : CoreS := aw0.make 0 1 2
def aw2 : CoreS := aw1.make 1 0 1
def aw3 : CoreS := aw2.set 0 0 1
def aw4 : CoreS := { aw3 with ws := aw3.writeW 0 1 77 }
def aw5 : CoreS := { aw4 with t := tblSet aw4.t 2 6 }
def awT : StatS := aw5.stats 0

theorem aw_ok : (cfgOf 3 40 80 20).ok = true := by kernel_rfl
theorem aw_e1 : aw0.makeE 0 1 2 = 0 := by kernel_rfl
theorem aw_e2 : aw1.makeE 1 0 1 = 0 := by kernel_rfl
theorem aw_e3 : aw2.refE 0 0 1 = 0 := by kernel_rfl
theorem aw_e4 : aw3.scalE 0 1 = 0 := by kernel_rfl
theorem aw_e5 : aw4.refE 0 0 2 = 0 := by kernel_rfl
theorem aw_e6 : refS aw4.ws (tblGet aw4.t 0) 0 = 6 := by kernel_rfl
theorem aw_e7 : aw4.y.isFrom 6 = false := by kernel_rfl
theorem aw_e8 : aw4.markOk 6 = false := by kernel_rfl
theorem aw_e9 : tblErr aw4.t 2 = 0 := by kernel_rfl
theorem aw_e10 : aw5.readV 0 1 = 77 := by kernel_rfl
theorem aw_e11 : aw5.scalE 0 1 = 0 := by kernel_rfl
theorem aw_e12 : aw5.sameV 1 2 = true := by kernel_rfl
theorem aw_e13 : aw5.sameE 1 2 = 0 := by kernel_rfl
theorem aw_e14 : aw5.objE 0 = 0 := by kernel_rfl
theorem aw_e15 : (aw5.objH 0).ptrs = 1 := by kernel_rfl
theorem aw_e16 : (aw5.objH 0).size - (aw5.objH 0).ptrs = 2 := by kernel_rfl
theorem aw_e17 : aw5.refE 0 1 1 = 5 := by kernel_rfl
theorem aw_e18 : aw5.refE 3 0 0 = 4 := by kernel_rfl
theorem aw_e19 : tblErr aw5.t 99 = 3 := by kernel_rfl
theorem aw_e20 : awT.young = 8 := by kernel_rfl
theorem aw_large : 0 ≤ aw0.C.largest ∧ aw0.C.largest ≤ 64 ∧ aw1.C.largest = aw0.C.largest ∧ aw0.copied = 0 ∧ aw1.copied = 0 ∧ aw0.parity = 0 ∧ aw1.parity = 0 := by decide +kernel
theorem aw_empty : aw5.o.empty := by
  have : aw5.o.pages = List.replicate 3 pg0 := by kernel_rfl
  intro g hg
  rw [this] at hg
  rw [List.eq_of_mem_replicate hg]
  exact ⟨rfl, rfl⟩

theorem core_setT (s : CoreS) (t : List Int) (h : t = s.t) : { s with t := t } = s := by subst h; rfl

abbrev CallsCore (f : FuncId) (args : List Value) (s : CoreS) (v : Value) (s' : CoreS) : Prop :=
  ∀ pc L W h, In W h → CoreH pc L s h → Calls Tryz.prog f (.pointer (some ⟨pc, 0, none⟩) :: args).toArray W fun e w' => e = .returned v ∧ ∃ h', CoreH pc L s' h' ∧ Upd h h' W w'

theorem aw_make1 : CallsCore 21 [.int .i64 0, .int .i64 1, .int .i64 2] aw0 (.int .i64 0) aw1 := fun pc L W h hi hc => by
  obtain ⟨l1, l2, l3, l4, l5, l6, l7⟩ := aw_large
  have := core_make pc L aw0 0 1 2 W h hi hc l1 l2 (by omega) (by omega) (.inl l6)
  rw [aw_e1] at this
  exact this
theorem aw_make2 : CallsCore 21 [.int .i64 1, .int .i64 0, .int .i64 1] aw1 (.int .i64 0) aw2 := fun pc L W h hi hc => by
  obtain ⟨l1, l2, l3, l4, l5, l6, l7⟩ := aw_large
  have := core_make pc L aw1 1 0 1 W h hi hc (by omega) (by omega) (by omega) (by omega) (.inl l7)
  rw [aw_e2] at this
  exact this
theorem aw_set : CallsCore 22 [.int .i64 0, .int .i64 0, .int .i64 1] aw2 (.int .i64 0) aw3 := fun pc L W h hi hc => by
  have := core_set pc L aw2 0 0 1 W h hi hc
  rw [aw_e3] at this
  exact this
theorem aw_write : CallsCore 23 [.int .i64 0, .int .i64 1, .int .u64 77] aw3 (.int .i64 0) aw4 := fun pc L W h hi hc => by
  have := core_write pc L aw3 0 1 77 W h hi hc (by unfold U64; omega)
  rw [aw_e4] at this
  exact this
theorem aw_get : CallsCore 24 [.int .i64 2, .int .i64 0, .int .i64 0] aw4 (.int .i64 0) aw5 := fun pc L W h hi hc => by
  have hm : ∀ W h, In W h → CoreH pc L aw4 h → Calls Tryz.prog 54 #[ptr pc, .int .i64 (refS aw4.ws (tblGet aw4.t 0) 0)] W fun e w' => e = .returned (.int .i64 6) ∧ ∃ h', CoreH pc L aw4 h' ∧ Upd h h' W w' := by
    intro W h hi hc
    rw [aw_e6]
    exact Calls.mono (core_move_stay pc L aw4 6 W h hi hc (I64.small (by decide) (by decide)) (.inr aw_e7)) fun e w' hh => ⟨hh.1, h, hc, hh.2⟩
  have hk : ∀ W h, In W h → CoreH pc L aw4 h → Calls Tryz.prog 56 #[ptr pc, .int .i64 6] W fun e w' => e = .returned (.tuple #[]) ∧ ∃ h', CoreH pc L aw4 h' ∧ Upd h h' W w' := by
    intro W h hi hc
    have := core_mark pc L aw4 6 W h hi hc (I64.small (by decide) (by decide)) (.inl (by kernel_rfl))
    have e : aw4.mark 6 = aw4 := by rw [CoreS.mark, aw_e8]; rfl
    rw [e] at this
    exact this
  have := core_get pc L aw4 aw4 aw4 6 2 0 0 aw_e5 W h hi hc (I64.small (by decide) (by decide)) hm hk
  rw [aw_e9] at this
  exact this
theorem aw_read : CallsCore 25 [.int .i64 0, .int .i64 1] aw5 (.tuple #[.int .u64 77, .int .i64 0]) aw5 := fun pc L W h hi hc => by
  have := core_read pc L aw5 0 1 W h hi hc
  rw [aw_e10, aw_e11] at this
  exact this
theorem aw_same : CallsCore 26 [.int .i64 1, .int .i64 2] aw5 (.tuple #[.bool true, .int .i64 0]) aw5 := fun pc L W h hi hc => by
  have := core_same pc L aw5 1 2 W h hi hc
  rw [aw_e12, aw_e13] at this
  exact Calls.mono this fun e w' hh => ⟨hh.1, h, hc, hh.2⟩
theorem aw_shape : CallsCore 27 [.int .i64 0] aw5 (.tuple #[.int .i64 1, .int .i64 2, .int .i64 0]) aw5 := fun pc L W h hi hc => by
  have := core_shapeof pc L aw5 0 W h hi hc
  rw [aw_e16, aw_e15, aw_e14] at this
  exact this
theorem aw_set5 : CallsCore 22 [.int .i64 0, .int .i64 1, .int .i64 1] aw5 (.int .i64 5) aw5 := fun pc L W h hi hc => by
  have := core_set pc L aw5 0 1 1 W h hi hc
  rw [show aw5.set 0 1 1 = aw5 from by rw [CoreS.set, aw_e17]; rfl, aw_e17] at this
  exact this
theorem aw_get4 : CallsCore 24 [.int .i64 0, .int .i64 3, .int .i64 0] aw5 (.int .i64 4) aw5 := fun pc L W h hi hc => by
  have := core_getno pc L aw5 0 3 0 (by rw [aw_e18]; decide) W h hi hc
  rw [aw_e18] at this
  exact this
theorem aw_clear : CallsCore 28 [.int .i64 99] aw5 (.int .i64 3) aw5 := fun pc L W h hi hc => by
  have := core_clear pc L aw5 99 W h hi hc
  have ht : tblSet aw5.t 99 0 = aw5.t := by rw [tblSet, show tblOk aw5.t 99 = false from by kernel_rfl]; rfl
  rw [core_setT aw5 _ ht, aw_e19] at this
  exact this
theorem aw_stats : CallsCore 10 [] aw5 (.agg (statCells awT)) aw5 := fun pc L W h hi hc =>
  Calls.mono (core_stats0 pc L aw5 W h hi hc aw_empty) fun e w' hh => ⟨hh.1, h, hc, hh.2⟩

theorem stat_field (a0 a1 a2 a3 a4 a5 a6 a7 : Int) (w : World) :
    Sem.run Tryz.prog (Instr.field 41 (.agg #[.int .i64 a0, .int .i64 a1, .int .i64 a2, .int .i64 a3, .int .i64 a4, .int .i64 a5, .int .i64 a6, .int .i64 a7]) 5) w = .ok (.int .i64 a5) w := by
  simp [go_sem, Instr.field, asAgg, Tryz.underlying41]

set_option maxRecDepth 100000 in
set_option maxHeartbeats 2000000 in
theorem law_awake (w : World) : Calls Tryz.prog 6 #[] w fun e w' => e = .returned (.bool true) ∧ Upd [] [] w w' := by
  go_enter Tryz.func6, Tryz.ntmps6
  go_wp2_with (first
    | (go_at_call 4; refine Calls.mono (law_config 3 40 80 20 ⟨by decide, by decide⟩ ⟨by decide, by decide⟩ ⟨by decide, by decide⟩ ⟨by decide, by decide⟩ _) ?_; rintro e v0 ⟨rfl, x0⟩)
    | (go_at_call 5; refine Calls.mono (core_new _ aw_ok _) ?_; rintro e w0 ⟨pc, L, h0, rfl, c00, u0⟩; have c0 : CoreH pc L aw0 h0 := c00; clear c00; have U0 := x0.trans u0; simp only [ptr])
    | (go_at_call 21; with_reducible refine Calls.mono (aw_make1 pc L _ _ U0.inn c0) ?_; rintro e w1 ⟨rfl, h1, c1, u1⟩; have U1 := U0.trans u1; clear U0 c0)
    | (go_at_call 21; with_reducible refine Calls.mono (aw_make2 pc L _ _ U1.inn c1) ?_; rintro e w2 ⟨rfl, h2, c2, u2⟩; have U2 := U1.trans u2; clear U1 c1)
    | (go_at_call 22; with_reducible refine Calls.mono (aw_set pc L _ _ U2.inn c2) ?_; rintro e w3 ⟨rfl, h3, c3, u3⟩; have U3 := U2.trans u3; clear U2 c2)
    | (go_at_call 23; with_reducible refine Calls.mono (aw_write pc L _ _ U3.inn c3) ?_; rintro e w4 ⟨rfl, h4, c4, u4⟩; have U4 := U3.trans u4; clear U3 c3)
    | (go_at_call 24; with_reducible refine Calls.mono (aw_get pc L _ _ U4.inn c4) ?_; rintro e w5 ⟨rfl, h5, c5, u5⟩; have U5 := U4.trans u5; clear U4 c4)
    | (go_at_call 25; with_reducible refine Calls.mono (aw_read pc L _ _ U5.inn c5) ?_; rintro e w6 ⟨rfl, h6, c6, u6⟩; have U6 := U5.trans u6; clear U5 c5)
    | (go_at_call 26; with_reducible refine Calls.mono (aw_same pc L _ _ U6.inn c6) ?_; rintro e w7 ⟨rfl, h7, c7, u7⟩; have U7 := U6.trans u7; clear U6 c6)
    | (go_at_call 27; with_reducible refine Calls.mono (aw_shape pc L _ _ U7.inn c7) ?_; rintro e w8 ⟨rfl, h8, c8, u8⟩; have U8 := U7.trans u8; clear U7 c7)
    | (go_at_call 22; with_reducible refine Calls.mono (aw_set5 pc L _ _ U8.inn c8) ?_; rintro e w9 ⟨rfl, h9, c9, u9⟩; have U9 := U8.trans u9; clear U8 c8)
    | (go_at_call 24; with_reducible refine Calls.mono (aw_get4 pc L _ _ U9.inn c9) ?_; rintro e w10 ⟨rfl, h10, c10, u10⟩; have U10 := U9.trans u10; clear U9 c9)
    | (go_at_call 28; with_reducible refine Calls.mono (aw_clear pc L _ _ U10.inn c10) ?_; rintro e w11 ⟨rfl, h11, c11, u11⟩; have U11 := U10.trans u11; clear U10 c10)
    | (go_at_call 10; with_reducible refine Calls.mono (aw_stats pc L _ _ U11.inn c11) ?_; rintro e w12 ⟨rfl, h12, c12, u12⟩; have U12 := U11.trans u12; clear U11 c11; obtain ⟨T, hT⟩ : ∃ T, T = awT := ⟨_, rfl⟩; rw [← hT]; have hy : T.young = 8 := hT ▸ aw_e20; have hF := stat_field T.allocs T.words T.promoted T.minors T.majors T.young T.old T.free w12; rw [hy] at hF; clear hT; simp only [statCells]))
  go_ret
  exact ⟨rfl, U12.forget (List.nil_sublist _)⟩

end Go.Proofs.YtglbhcoikgbcmaaGreat
