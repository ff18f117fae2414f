/- CorePlays of the statements' package answers true, from what Do of the document's graph comes to. Conditions: that contract (hdo). -/
import Derived.Test.YtglbhcoikgbcmaaGreatRows
import Derived.Test.YtglbhcoikgbcmaaGreatPlayP
import Derived.Test.YtglbhcoikgbcmaaGreatRefE
import Derived.Test.YtglbhcoikgbcmaaGreatAsmB
import Derived.BigQuiet
import Derived.Deep.QuietTactic
import Derived.Deep.DeepCutAuto
set_option linter.unusedVariables false
set_option linter.unusedSimpArgs false
namespace Go.Proofs.YtglbhcoikgbcmaaGreat
open Go.RowKit

theorem Upd.oldcell {w w' : World} {h : Hp} (u : Upd [] h w w') {b o : Nat} {v : Value} (hb : b < w.heap.size) (hc : w.cell? ⟨b, o, none⟩ = some v) : w'.cell? ⟨b, o, none⟩ = some v := by
  rw [u.below.cell (p := ⟨b, o, none⟩) hb]
  exact hc
theorem Upd.moreL {w0 w w' : World} {h0 k h' : Hp} (a : Upd h0 k w0 w) (u : Upd [] h' w w') : Upd h0 (k ++ h') w0 w' := (a.more u).perm (List.Perm.refl _) List.perm_append_comm
theorem Upd.besideR {w0 w w' : World} {h0 h h' k : Hp} (a : Upd h0 (h ++ k) w0 w) (u : Upd h h' w w') : Upd h0 (h' ++ k) w0 w' := a.trans (u.beside a.inn)
theorem Upd.coreR {w0 w w' : World} {h0 h h' k g : Hp} (a : Upd h0 ((h ++ k) ++ g) w0 w) (u : Upd h h' w w') : Upd h0 ((h' ++ k) ++ g) w0 w' := by
  rw [List.append_assoc] at a ⊢
  exact a.besideR u

theorem Upd.coreX {w0 w w' : World} {h0 h h' k g : Hp} {x : Nat × Obj} (a : Upd h0 (x :: ((h ++ k) ++ g)) w0 w) (u : Upd h h' w w') : Upd h0 (x :: ((h' ++ k) ++ g)) w0 w' := by
  have hi := a.inn.tail
  rw [List.append_assoc] at hi
  have v := u.beside hi
  rw [← List.append_assoc, ← List.append_assoc] at v
  exact a.under v
theorem Upd.coreY {w0 w w' : World} {h0 h h' k g : Hp} {x y : Nat × Obj} (a : Upd h0 (x :: y :: ((h ++ k) ++ g)) w0 w) (u : Upd h h' w w') : Upd h0 (x :: y :: ((h' ++ k) ++ g)) w0 w' := by
  have hi := a.inn.tail.tail
  rw [List.append_assoc] at hi
  have v := u.beside hi
  rw [← List.append_assoc, ← List.append_assoc] at v
  exact Upd.underL (x := [x, y]) a v

theorem skipP {w : World} {o : Obj} {b i : Nat} {v : Value} (hc : w.cell? ⟨b, i, none⟩ = some v) : (w.alloc o).cell? ⟨b, i, none⟩ = some v := by
  have u := (Upd.refl (In.nil w)).skip' o
  rw [u.below.cell (p := ⟨b, i, none⟩) (World.block_lt_of_cell? w _ hc)]
  exact hc
theorem stat_eq {T : StatS} {m u : Int} (h1 : T.allocs = m) (h2 : T.words = u) (h3 : T.young = u) (h4 : T.old = 0) : T = ⟨m, u, T.promoted, T.minors, T.majors, u, 0, T.free⟩ := by
  cases T
  simp only at h1 h2 h3 h4
  rw [h1, h2, h3, h4]
theorem Upd.tail2 {h0 h : Hp} {x y : Nat × Obj} {w w' : World} (u : Upd h0 (x :: y :: h) w w') : Upd h0 h w w' := u.drop1.drop1

/-- a heap and its graph, in memory, and the configuration beside them -/
def PlayH (pc : Nat) (L : CoreL) (p B : Nat) (c : Cfg) (u m : Int) (w wr : World) : Prop :=
  ∃ s g h hg, Play c s g u m ∧ CoreH pc L s h ∧ GraphH p g hg ∧ Upd [] ((h ++ [(B, .cells (cfgCells c) 24 (0, 0))]) ++ hg) w wr

/-- the statement's own guard -/
def mayB (c : Cfg) (x : StepS) : Bool := decide (0 ≤ x.a ∧ x.a < c.handles ∧ 0 ≤ x.b ∧ 0 ≤ x.c ∧ x.b ≤ c.largest ∧ x.c ≤ c.largest - x.b)

set_option maxRecDepth 100000 in
set_option maxHeartbeats 4000000 in
theorem corePlays_of (hrdo : ∀ (p : Nat) (g : GraphS) (ok : g.Ok) (x : StepS) (h1 : 1 ≤ x.kind) (h2 : x.kind ≤ 10) (w : World) (h : Hp) (hi : In w h) (gh : GraphH p g h),
      Calls Tryz.prog 9 #[.pointer (some ⟨p, 0, none⟩), .agg (stepCells x)] w fun en w' => en = .returned (.agg (ansCells (gAns g x))) ∧ ∃ h', GraphH p (gStep g x) h' ∧ Upd h h' w w')
    (a b c d : Int) (sv : Value) (l : List StepS) (ha : U8 a) (hb : U8 b) (hc : U8 c) (hd : U8 d) {w : World} (hs : IsScript w sv l) :
    Calls Tryz.prog 3 #[.int .u8 a, .int .u8 b, .int .u8 c, .int .u8 d, sv] w fun e w' => e = .returned (.bool true) ∧ Upd [] [] w w' := by
  have hok := cfgOf_ok ha hb hc hd
  have hcfg := law_config a b c d ha hb hc hd w
  obtain ⟨hfit, hlen, ao, cap, rfl, hsh⟩ := hs
  have HSc := Lib.hid hsh
  have HFt := Lib.hid hfit
  have HRD := Lib.hid hrdo
  clear ha hb hc hd hsh hfit hrdo
  generalize cfgOf a b c d = C at *
  have hfits := Cfg.fits hok
  have hn := ref_new C.handles.toNat C.largest
  rw [Int.toNat_of_nonneg (by have := hfits.h1; omega)] at hn
  have HNEW := Lib.hid (fun w => hn w (by have := hfits.h2; omega) hfits.l1 hfits.l2)
  have HF0 := Lib.hid hfits
  have HOK := Lib.hid hok
  have cn1 := hfits.n1
  have cn2 := hfits.n2
  have cl1 := hfits.l1
  have cl2 := hfits.l2
  clear hok hn hfits
  simp only [cfgCells] at hcfg
  go_enter Tryz.func3, Tryz.ntmps3
  go_wp2_with (first
    | (go_at_call 4; refine Calls.mono hcfg ?_; rintro e v0 ⟨rfl, x0⟩; clear hcfg)
    | (go_at_call 5; refine Calls.mono (core_new C HOK.out _) ?_; rintro e w0 ⟨pc, L, h0, rfl, c0, u0⟩; have U0 := (x0.alloc' (.cells (cfgCells C) 24 (0, 0))).more u0; clear x0 u0; simp only [ptr])
    | (go_at_call 6; refine Calls.mono (law_awake _) ?_; rintro e w1 ⟨rfl, x1⟩; have U1 := U0.under0 x1; have b0 : w1.cell? ⟨v0.heap.size, 0, none⟩ = some (.int .i64 C.handles) := cell_of U1.inn.right.head 0; have b8 : w1.cell? ⟨v0.heap.size, 8, none⟩ = some (.int .i64 C.largest) := cell_of U1.inn.right.head 8; clear U0 x1)
    | (go_at_call 7; refine Calls.mono (HNEW.out _) ?_; rintro e w2 ⟨p, hg, rfl, gh, u2⟩; have U2 := U1.moreL u2; clear U1 u2))
  have HS : Hid (PlayH pc L p v0.heap.size C 0 0 w w2) := ⟨coreNew C, gNew C, h0, hg, Play.new HF0.out, c0, gh, U2⟩
  clear U2 c0 gh b0 b8
  generalize v0.heap.size = B at *
  go_loopw [15, 16, 17] (fun q5 q6 q7 wr => ∃ (k : Nat) (u m : Int), k ≤ l.length ∧ k ≤ 100 ∧ q7 = .int .i64 k ∧ q5 = .int .i64 u ∧ q6 = .int .i64 m ∧ 0 ≤ u ∧ u ≤ 4096 ∧ 0 ≤ m ∧ m ≤ k ∧ Hid (PlayH pc L p B C u m w wr)) (fun _ _ q _ => l.length - (intOf q).toNat)
  case atStart => exact ⟨0, 0, 0, by omega, by omega, rfl, rfl, rfl, by omega, by omega, by omega, by omega, HS⟩
  case round =>
    obtain ⟨k, u, m, hk, hk2, rfl, rfl, rfl, hu0, hu1, hm0, hm1, HW⟩ := hrel
    obtain ⟨s, g, h, hg', hP, hC, hG, hU⟩ := HW.out
    by_cases hlt : k < l.length
    · by_cases h100 : k < 100
      · obtain ⟨bq, off, rfl, hbl, e0, e1, e2, e3, e4⟩ := HSc.out k hlt
        have d0 := hU.oldcell hbl e0
        have d1 := hU.oldcell hbl e1
        have d2 := hU.oldcell hbl e2
        have d3 := hU.oldcell hbl e3
        have d4 := hU.oldcell hbl e4
        have hfx := HFt.out _ (List.getElem_mem hlt)
        generalize l[k] = x at *
        clear e0 e1 e2 e3 e4
        by_cases hx1 : 1 ≤ x.kind
        · by_cases hx2 : x.kind ≤ 10
          · have hdo := fun W h (hi : In W h) hc => do_step pc L s x hfx.v hP.f.q W h hi hc
            have hm1000 : m ≤ 1000 := by omega
            have hgok := hP.ok hm1000
            have hrd := HRD.out p g hgok x hx1 hx2
            have hmk := hP.may x
            have hoth := fun hh => hP.other x hx1 hx2 hh
            have hmake := fun h1 he hr => hP.make x h1 he hr hm1000
            have hfull := fun h1 he hr => hP.full x h1 he hr
            obtain ⟨x1, x2, x3, x4, x5⟩ := x
            simp only at hx1 hx2 hmk hoth hmake hfull d0 d1 d2 d3 d4 hfx
            have US := hU.alloc' (.cells (stepCells ⟨x1, x2, x3, x4, x5⟩) 35 (0, 0))
            generalize ansS s ⟨x1, x2, x3, x4, x5⟩ = A at *
            generalize stepS s ⟨x1, x2, x3, x4, x5⟩ = s' at *
            have HDO := Lib.hid hdo
            have HRX := Lib.hid hrd
            have HOT := Lib.hid hoth
            have HMK := Lib.hid hmake
            have HFU := Lib.hid hfull
            have HMY := Lib.hid hmk
            have HUS := Lib.hid US
            have HC := Lib.hid (And.intro hC (And.intro hG hU))
            clear hdo hrd hmk hoth hmake hfull US hC hG hU HW hP hgok
            simp only [stepCells, ansCells] at HDO HRX HUS
            go_upto_region 13 with (go_at_call 8; refine Calls.mono (HDO.out _ _ HUS.out.inn.tail.left.left HC.out.1) ?_; rintro e w3 ⟨rfl, h3, c3, u3⟩; have U3 := (HUS.out.coreX u3).alloc' (.cells (ansCells A) 37 (0, 0)); clear u3; obtain ⟨z0, z1, z2, z3, z4⟩ := step_cells (x := ⟨x1, x2, x3, x4, x5⟩) U3.inn.tail.head; simp only at z0 z1 z2 z3 z4)
            have k0 := cell_of U3.inn.tail.tail.left.right.head 0
            have k1 := cell_of U3.inn.tail.tail.left.right.head 1
            have k8 := cell_of U3.inn.tail.tail.left.right.head 8
            have hk0 : (cfgCells C)[0]? = some (.int .i64 C.handles) := rfl
            have hk1 : (cfgCells C)[1]? = some (.int .i64 C.nursery) := rfl
            have hk8 : (cfgCells C)[8]? = some (.int .i64 C.largest) := rfl
            rw [hk0] at k0
            rw [hk1] at k1
            rw [hk8] at k8
            obtain ⟨y0, y1, y2, y3⟩ := ans_cells (x := A) U3.inn.head
            have HU3 := Lib.hid U3
            have HC3 := Lib.hid c3
            clear hk0 hk1 hk8 U3 c3
            have hwl : ∀ t, 0 ≤ t → t ≤ C.largest → IntKind.i64.wrap (C.largest - t) = C.largest - t := fun t h0 h1 => IntWalk.i64_in _ (by omega)
            have HWL := Lib.hid hwl
            clear hwl
            simp only [ansCells] at HU3 y0 y1 y2 y3 z0 z1 z2 z3 z4 k0 k1 k8
            generalize hW4 : w3.alloc (.cells #[.int .i64 A.e, .bool A.yes, .int .i64 A.n, .int .u64 A.v] 37 (0, 0)) = W4 at *
            clear hW4
            go_cut [20] (fun q wx => q = .bool (mayB C ⟨x1, x2, x3, x4, x5⟩) ∧ wx = W4)
            case first =>
              by_cases m0 : 0 ≤ x2
              case neg =>
                have hm : mayB C ⟨x1, x2, x3, x4, x5⟩ = false := by simp [mayB]; omega
                have HM := Lib.hid hm
                clear hm
                go_wp2_with fail
                go_meet
                exact ⟨by rw [HM.out], rfl⟩
              by_cases m1 : x2 < C.handles
              case neg =>
                have hm : mayB C ⟨x1, x2, x3, x4, x5⟩ = false := by simp [mayB]; omega
                have HM := Lib.hid hm
                clear hm
                go_wp2_with fail
                go_meet
                exact ⟨by rw [HM.out], rfl⟩
              by_cases m2 : 0 ≤ x3
              case neg =>
                have hm : mayB C ⟨x1, x2, x3, x4, x5⟩ = false := by simp [mayB]; omega
                have HM := Lib.hid hm
                clear hm
                go_wp2_with fail
                go_meet
                exact ⟨by rw [HM.out], rfl⟩
              by_cases m3 : 0 ≤ x4
              case neg =>
                have hm : mayB C ⟨x1, x2, x3, x4, x5⟩ = false := by simp [mayB]; omega
                have HM := Lib.hid hm
                clear hm
                go_wp2_with fail
                go_meet
                exact ⟨by rw [HM.out], rfl⟩
              by_cases m4 : x3 ≤ C.largest
              case neg =>
                have hm : mayB C ⟨x1, x2, x3, x4, x5⟩ = false := by simp [mayB]; omega
                have HM := Lib.hid hm
                clear hm
                go_wp2_with fail
                go_meet
                exact ⟨by rw [HM.out], rfl⟩
              by_cases m5 : x4 ≤ C.largest - x3
              case neg =>
                have hm : mayB C ⟨x1, x2, x3, x4, x5⟩ = false := by simp [mayB]; omega
                have HM := Lib.hid hm
                clear hm
                have hw := HWL.out x3 (by omega) (by omega)
                go_wp2_with fail
                go_meet
                exact ⟨by rw [HM.out], rfl⟩
              have hm : mayB C ⟨x1, x2, x3, x4, x5⟩ = true := by simp [mayB]; omega
              have HM := Lib.hid hm
              clear hm
              have hw := HWL.out x3 (by omega) (by omega)
              go_wp2_with fail
              go_meet
              exact ⟨by rw [HM.out], rfl⟩
            case rest =>
              obtain ⟨rfl, rfl⟩ := hcut
              have hin : mayB C ⟨x1, x2, x3, x4, x5⟩ = true → (0 ≤ x3 ∧ x3 ≤ 64 ∧ 0 ≤ x4 ∧ x4 ≤ 64) := by simp [mayB]; omega
              have hmay : (mayB C ⟨x1, x2, x3, x4, x5⟩ = true) ↔ (g.makeE x2 x3 x4 = 0) := by
                rw [HMY.out]
                simp [mayB]
              generalize mayB C ⟨x1, x2, x3, x4, x5⟩ = mb at *
              by_cases e1 : x1 = 1
              · subst e1
                cases mb
                · clear hin
                  obtain ⟨hA, hP2⟩ := HOT.out (.inr (fun hh => Bool.noConfusion (hmay.2 hh)))
                  have hT := hP2.stats
                  have hst := fun pc L W h (hi : In W h) hc => core_stats0 pc L s' W h hi hc hP2.f.q.em
                  obtain ⟨t1, t2, t3, t4⟩ := hT
                  rw [stat_eq t1 t2 t3 t4] at hst
                  clear t1 t2 t3 t4
                  generalize (s'.stats 0).promoted = T3 at hst
                  generalize (s'.stats 0).minors = T4 at hst
                  generalize (s'.stats 0).majors = T5 at hst
                  generalize (s'.stats 0).free = T8 at hst
                  have HST := Lib.hid hst
                  have HP2 := Lib.hid hP2
                  have HAA := Lib.hid hA
                  have G1 := Lib.hid (HRX.out _ _ (Upd.inn HU3.out).tail.tail.right HC.out.2.1)
                  rw [← HAA.out] at G1
                  clear hst hP2 hA hmay
                  try clear e1
                  simp only [ansCells, statCells, ptr] at G1 HST
                  go_wp2_with (first
                    | (go_at_call 9; with_reducible refine Calls.mono G1.out ?_; rintro e w5 ⟨rfl, h5, g5, u5⟩; have U5 := Upd.underL (x := _ :: _ :: (h3 ++ [_])) HU3.out u5; obtain ⟨n0, n1, n2, n3⟩ := ans_cells (x := A) U5.inn.head; have r0 := skipP (o := .cells #[.int .i64 A.e, .bool A.yes, .int .i64 A.n, .int .u64 A.v] 37 (0, 0)) n0; have r1 := skipP (o := .cells #[.int .i64 A.e, .bool A.yes, .int .i64 A.n, .int .u64 A.v] 37 (0, 0)) n1; have r2 := skipP (o := .cells #[.int .i64 A.e, .bool A.yes, .int .i64 A.n, .int .u64 A.v] 37 (0, 0)) n2; have r3 := skipP (o := .cells #[.int .i64 A.e, .bool A.yes, .int .i64 A.n, .int .u64 A.v] 37 (0, 0)) n3; have U5z := U5.skip' (.cells #[.int .i64 A.e, .bool A.yes, .int .i64 A.n, .int .u64 A.v] 37 (0, 0)))
                    | (go_at_call 10; refine Calls.mono (HST.out _ _ _ _ (Upd.inn U5z).tail.tail.left.left HC3.out) ?_; rintro e w6 ⟨rfl, u6⟩; have U6 := U5z.coreY u6))
                  go_roundw
                  case rel => exact ⟨k + 1, u, m, by omega, by omega, by go_num, by go_num, by go_num, by omega, by omega, by omega, by omega, s', _, h3, h5, HP2.out, HC3.out, g5, ((U6.tail2)).skip' _⟩
                  case measure => simp [intOf]; omega
                · obtain ⟨i1, i2, i3, i4⟩ := hin rfl
                  clear hin
                  by_cases e3 : u + x3 + x4 + 2 ≤ C.nursery
                  · obtain ⟨hA, hP2⟩ := HMK.out rfl (hmay.1 rfl) e3
                    have hT := hP2.stats
                    have hst := fun pc L W h (hi : In W h) hc => core_stats0 pc L s' W h hi hc hP2.f.q.em
                    obtain ⟨t1, t2, t3, t4⟩ := hT
                    rw [stat_eq t1 t2 t3 t4] at hst
                    clear t1 t2 t3 t4
                    generalize (s'.stats 0).promoted = T3 at hst
                    generalize (s'.stats 0).minors = T4 at hst
                    generalize (s'.stats 0).majors = T5 at hst
                    generalize (s'.stats 0).free = T8 at hst
                    have HST := Lib.hid hst
                    have HP2 := Lib.hid hP2
                    have HAA := Lib.hid hA
                    have G1 := Lib.hid (HRX.out _ _ (Upd.inn HU3.out).tail.tail.right HC.out.2.1)
                    rw [← HAA.out] at G1
                    clear hst hP2 hA hmay
                    try clear e1
                    simp only [ansCells, statCells, ptr] at G1 HST
                    go_wp2_with (first
                      | (go_at_call 9; with_reducible refine Calls.mono G1.out ?_; rintro e w5 ⟨rfl, h5, g5, u5⟩; have U5 := Upd.underL (x := _ :: _ :: (h3 ++ [_])) HU3.out u5; obtain ⟨n0, n1, n2, n3⟩ := ans_cells (x := A) U5.inn.head; have r0 := skipP (o := .cells #[.int .i64 A.e, .bool A.yes, .int .i64 A.n, .int .u64 A.v] 37 (0, 0)) n0; have r1 := skipP (o := .cells #[.int .i64 A.e, .bool A.yes, .int .i64 A.n, .int .u64 A.v] 37 (0, 0)) n1; have r2 := skipP (o := .cells #[.int .i64 A.e, .bool A.yes, .int .i64 A.n, .int .u64 A.v] 37 (0, 0)) n2; have r3 := skipP (o := .cells #[.int .i64 A.e, .bool A.yes, .int .i64 A.n, .int .u64 A.v] 37 (0, 0)) n3; have U5z := U5.skip' (.cells #[.int .i64 A.e, .bool A.yes, .int .i64 A.n, .int .u64 A.v] 37 (0, 0)))
                      | (go_at_call 10; refine Calls.mono (HST.out _ _ _ _ (Upd.inn U5z).tail.tail.left.left HC3.out) ?_; rintro e w6 ⟨rfl, u6⟩; have U6 := U5z.coreY u6))
                    go_roundw
                    case rel => exact ⟨k + 1, u + x3 + x4 + 2, m + 1, by omega, by omega, by go_num, by go_num, by go_num, by omega, by omega, by omega, by omega, s', _, h3, h5, HP2.out, HC3.out, g5, ((U6.tail2)).skip' _⟩
                    case measure => simp [intOf]; omega
                  · have h7 := HFU.out rfl (hmay.1 rfl) (by omega)
                    have H7 := Lib.hid h7
                    clear h7 hmay
                    go_wp2
                    go_ret
                    exact ⟨by rw [H7.out]; rfl, HU3.out.forget (List.nil_sublist _)⟩
              · have hne1 : (x1 == 1) = false := by simpa using e1
                clear hin
                obtain ⟨hA, hP2⟩ := HOT.out (.inl e1)
                have hT := hP2.stats
                have hst := fun pc L W h (hi : In W h) hc => core_stats0 pc L s' W h hi hc hP2.f.q.em
                obtain ⟨t1, t2, t3, t4⟩ := hT
                rw [stat_eq t1 t2 t3 t4] at hst
                clear t1 t2 t3 t4
                generalize (s'.stats 0).promoted = T3 at hst
                generalize (s'.stats 0).minors = T4 at hst
                generalize (s'.stats 0).majors = T5 at hst
                generalize (s'.stats 0).free = T8 at hst
                have HST := Lib.hid hst
                have HP2 := Lib.hid hP2
                have HAA := Lib.hid hA
                have G1 := Lib.hid (HRX.out _ _ (Upd.inn HU3.out).tail.tail.right HC.out.2.1)
                rw [← HAA.out] at G1
                clear hst hP2 hA hmay
                try clear e1
                simp only [ansCells, statCells, ptr] at G1 HST
                go_wp2_with (first
                  | (go_at_call 9; with_reducible refine Calls.mono G1.out ?_; rintro e w5 ⟨rfl, h5, g5, u5⟩; have U5 := Upd.underL (x := _ :: _ :: (h3 ++ [_])) HU3.out u5; obtain ⟨n0, n1, n2, n3⟩ := ans_cells (x := A) U5.inn.head; have r0 := skipP (o := .cells #[.int .i64 A.e, .bool A.yes, .int .i64 A.n, .int .u64 A.v] 37 (0, 0)) n0; have r1 := skipP (o := .cells #[.int .i64 A.e, .bool A.yes, .int .i64 A.n, .int .u64 A.v] 37 (0, 0)) n1; have r2 := skipP (o := .cells #[.int .i64 A.e, .bool A.yes, .int .i64 A.n, .int .u64 A.v] 37 (0, 0)) n2; have r3 := skipP (o := .cells #[.int .i64 A.e, .bool A.yes, .int .i64 A.n, .int .u64 A.v] 37 (0, 0)) n3; have U5z := U5.skip' (.cells #[.int .i64 A.e, .bool A.yes, .int .i64 A.n, .int .u64 A.v] 37 (0, 0)))
                  | (go_at_call 10; refine Calls.mono (HST.out _ _ _ _ (Upd.inn U5z).tail.tail.left.left HC3.out) ?_; rintro e w6 ⟨rfl, u6⟩; have U6 := U5z.coreY u6))
                go_roundw
                case rel => exact ⟨k + 1, u, m, by omega, by omega, by go_num, by go_num, by go_num, by omega, by omega, by omega, by omega, s', _, h3, h5, HP2.out, HC3.out, g5, ((U6.tail2)).skip' _⟩
                case measure => simp [intOf]; omega
          · go_wp2
            go_roundw
            case rel => exact ⟨k + 1, u, m, by omega, by omega, by go_num, rfl, rfl, by omega, by omega, by omega, by omega, s, g, h, hg', hP, hC, hG, hU.skip' _⟩
            case measure => simp [intOf]; omega
        · go_wp2
          go_roundw
          case rel => exact ⟨k + 1, u, m, by omega, by omega, by go_num, rfl, rfl, by omega, by omega, by omega, by omega, s, g, h, hg', hP, hC, hG, hU.skip' _⟩
          case measure => simp [intOf]; omega
      · go_wp2
        go_ret
        exact ⟨rfl, hU.forget (List.nil_sublist _)⟩
    · go_wp2
      go_ret
      exact ⟨rfl, hU.forget (List.nil_sublist _)⟩

end Go.Proofs.YtglbhcoikgbcmaaGreat
