/- MinorHandles of the statements' package answers true, whatever the input: the given statement. Conditions: none. -/
import Derived.Test.YtjjdjipohifgbaaGreatRows
import Derived.Test.YtjjdjipohifgbaaGreatZF
import Derived.Test.YtjjdjipohifgbaaGreatZG
import Derived.Test.YtjjdjipohifgbaaGreatZD
set_option linter.unusedVariables false
set_option linter.unusedSimpArgs false
/- What holds of a core without a cycle, and of its handles; what its nursery's calls answer. Condition: the core is as it should be. -/
namespace Go.Proofs.YtjjdjipohifgbaaGreat
open Go.RowKit

theorem CoreS.Sane.handle {s : CoreS} (Z : s.Sane) {x : Int} (hx : x ∈ s.t) : s.y.isFrom x = false ∧ s.now x = x := by
  obtain ⟨cur, oth, I, H⟩ := Z.inv
  refine ⟨?_, I.lay.now_stay (H x hx)⟩
  rcases H x hx with h | h | h
  · exact I.lay.from_old (.inr h)
  · exact I.lay.from_old (.inl h)
  · exact I.lay.from_not (.inl h)
theorem CoreS.Sane.rest {s : CoreS} (Z : s.Sane) (h : s.moving = false) : s.y.ou = 0 ∧ s.copied = 0 := by
  obtain ⟨cur, oth, I, H⟩ := Z.inv
  have ho := I.hds.nm h
  have hr := I.lay.ro
  have hc := I.hds.cp
  rw [ho] at hr hc
  simp only [ORow] at hr
  exact ⟨by omega, by rw [hc]; rfl⟩
theorem core_yleft (pc : Nat) (L : CoreL) (s : CoreS) (w : World) (h : Hp) (hi : In w h) (hc : CoreH pc L s h) :
    Calls Tryz.prog 21 #[.pointer (some ⟨L.py, 0, none⟩)] w fun e w' => e = .returned (.int .i64 s.y.ou) ∧ ∃ h', CoreH pc L s h' ∧ Upd h h' w w' := by
  obtain ⟨v, ha, hy, ho, hr, hg, ht, hw, rfl, ca, cy, co, cr, cg, ct, cw⟩ := hc
  refine Calls.mono (bump_left L.py s.y w hy (In.young (x := []) hi) cy) fun e w' hh => ?_
  exact ⟨hh.1, _, ⟨v, ha, hy, ho, hr, hg, ht, hw, rfl, ca, cy, co, cr, cg, ct, cw⟩, Upd.young (x := []) (Upd.refl hi) hh.2⟩
theorem core_yfrom (pc : Nat) (L : CoreL) (s : CoreS) (i : Int) (hi64 : I64 i) (w : World) (h : Hp) (hi : In w h) (hc : CoreH pc L s h) :
    Calls Tryz.prog 23 #[.pointer (some ⟨L.py, 0, none⟩), .int .i64 i] w fun e w' => e = .returned (.bool (s.y.isFrom i)) ∧ ∃ h', CoreH pc L s h' ∧ Upd h h' w w' := by
  obtain ⟨v, ha, hy, ho, hr, hg, ht, hw, rfl, ca, cy, co, cr, cg, ct, cw⟩ := hc
  refine Calls.mono (bump_from L.py s.y i w hy (In.young (x := []) hi) cy hi64) fun e w' hh => ?_
  exact ⟨hh.1, _, ⟨v, ha, hy, ho, hr, hg, ht, hw, rfl, ca, cy, co, cr, cg, ct, cw⟩, Upd.young (x := []) (Upd.refl hi) hh.2⟩

end Go.Proofs.YtjjdjipohifgbaaGreat

/- MinorKeeps of the statements' package answers true. Conditions: none. -/
namespace Go.Proofs.YtjjdjipohifgbaaGreat
open Go.RowKit

/-- the core behind so many acts -/
def ActL (pc : Nat) (L : CoreL) (s : CoreS) (w wr : World) : Prop := ∃ h, CoreH pc L s h ∧ Upd [] h w wr
theorem Upd.oldcell {w w' : World} {h : Hp} (u : Upd [] h w w') {b o : Nat} {v : Value} (hb : b < w.heap.size) (hc : w.cell? ⟨b, o, none⟩ = some v) : w'.cell? ⟨b, o, none⟩ = some v := by
  rw [u.below.cell (p := ⟨b, o, none⟩) hb]
  exact hc

set_option maxRecDepth 100000 in
set_option maxHeartbeats 4000000 in
theorem minorKeeps_any (a b c d : Int) (sv : Value) (l : List ActS) (ha : U8 a) (hb : U8 b) (hc : U8 c) (hd : U8 d) {w : World} (hs : IsActs w sv l) :
    Calls Tryz.prog 4 #[.int .u8 a, .int .u8 b, .int .u8 c, .int .u8 d, sv] w fun e w' => e = .returned (.bool true) ∧ Upd [] [] w w' := by
  have hok := cfgOf_ok ha hb hc hd
  have hcfg := law_config a b c d ha hb hc hd w
  obtain ⟨hfit, hlen, ao, cap, rfl, hsh⟩ := hs
  have HSc := Lib.hid hsh
  clear ha hb hc hd hsh hfit
  generalize cfgOf a b c d = C at *
  have HZ0 := Lib.hid (sane_new (Cfg.fits hok))
  have HOK := Lib.hid hok
  clear hok
  simp only [cfgCells] at hcfg
  go_enter Tryz.func4, Tryz.ntmps4
  go_wp2_with (first
    | (go_at_call 9; refine Calls.mono hcfg ?_; rintro e v0 ⟨rfl, x0⟩; clear hcfg)
    | (go_at_call 10; refine Calls.mono (core_new C HOK.out _) ?_; rintro e w0 ⟨pc, L, h0, rfl, c0, u0⟩; have U0 := x0.trans u0; clear x0 u0; simp only [ptr])
    | (go_at_call 11; refine Calls.mono (law_awake _) ?_; rintro e w1 ⟨rfl, x1⟩; have U1 := U0.under0 x1; clear U0 x1))
  have HS : Hid (ActL pc L (runA (coreNew C) (l.take 0)) w w1) := ⟨h0, c0, U1⟩
  clear U1 c0
  go_loopw [13] (fun q wr => ∃ (k : Nat), k ≤ l.length ∧ q = .int .i64 k ∧ Hid (ActL pc L (runA (coreNew C) (l.take k)) w wr)) (fun q _ => l.length - (intOf q).toNat)
  case atStart => exact ⟨0, by omega, rfl, HS⟩
  case round =>
    obtain ⟨k, hk, rfl, HW⟩ := hrel
    obtain ⟨h, hW⟩ := HW.out
    have HZ := Lib.hid (HZ0.out.runA (l.take k))
    by_cases hlt : k < l.length
    · by_cases h80 : k < 80
      · obtain ⟨bq, off, rfl, hbl, e0, e1, e2, e3⟩ := HSc.out k hlt
        have hsn := runA_snoc (coreNew C) l k hlt
        have hWr : ∀ W, Upd [] [] w W → W.cell? ⟨bq, off + k * 4, none⟩ = some (.int .i64 l[k].what) ∧ W.cell? ⟨bq, off + k * 4 + 1, none⟩ = some (.int .i64 l[k].a) ∧ W.cell? ⟨bq, off + k * 4 + 2, none⟩ = some (.int .i64 l[k].b) ∧ W.cell? ⟨bq, off + k * 4 + 3, none⟩ = some (.int .i64 l[k].c) :=
          fun W U => ⟨U.oldcell hbl e0, U.oldcell hbl e1, U.oldcell hbl e2, U.oldcell hbl e3⟩
        have HWr := Lib.hid hWr
        generalize runA (coreNew C) (l.take k) = s at *
        generalize l[k] = x at *
        have HSN := Lib.hid hsn
        have HD := Lib.hid (fun W h (hi : In W h) (hc : CoreH pc L s h) => do_act pc L HZ.out x W h hi hc)
        obtain ⟨d0, d1, d2, d3⟩ := hWr wr (hW.2.forget (List.nil_sublist _))
        have HWW := Lib.hid hW
        clear e0 e1 e2 e3 hW HW hWr hsn
        simp only [actCells, ptr] at *
        by_cases hq : x.what < 6 ∧ 0 ≤ x.what
        · obtain ⟨hq1, hq2⟩ := hq
          go_wp2_with (go_at_call 18; refine Calls.mono (HD.out _ _ HWW.out.2.inn HWW.out.1) ?_; rintro e w2 ⟨⟨n, rfl⟩, h2, c2, u2⟩; have U2 : Hid (ActL pc L (actS s x) w w2) := Lib.hid ⟨h2, c2, HWW.out.2.trans u2⟩; clear c2 u2)
          go_roundw
          case rel => exact ⟨k + 1, by omega, by go_num, by rw [HSN.out]; exact U2⟩
          case measure => simp [intOf]; omega
        · have hsame := HZ.out.shown_act x hq 1048576
          have HSH := Lib.hid (fun W h (hi : In W h) (hc : CoreH pc L s h) => law_shown pc L HZ.out W h hi hc)
          have HSH2 := Lib.hid (fun W h (hi : In W h) (hc : CoreH pc L (actS s x) h) => law_shown pc L (HZ.out.act x) W h hi hc)
          rw [hsame] at HSH2
          clear hsame
          generalize s.shown 1048576 = out at *
          simp only [ptr] at HSH HSH2
          by_cases hq1 : x.what < 6
          · have hq2 : ¬ 0 ≤ x.what := fun h => hq ⟨hq1, h⟩
            clear hq
            go_wp2_with (first
              | (go_at_call 18; with_reducible refine Calls.mono (HD.out _ _ U2.out.inn.right C2.out) ?_; rintro e w3 ⟨⟨n, rfl⟩, h3, c3, u3⟩; have C3 := Lib.hid c3; have U3 := Lib.hid (U2.out.underA u3); clear c3 u3)
              | (go_at_call 19; with_reducible refine Calls.mono (HSH.out _ _ HWW.out.2.inn HWW.out.1) ?_; rintro e w2 ⟨v2, hx2, rfl, s2, h2, c2, u2⟩; have S2 := Lib.hid s2; have C2 := Lib.hid c2; have U2 := Lib.hid (HWW.out.2.trans u2); obtain ⟨y0, y1, y2, y3⟩ := HWr.out w2 (U2.out.forget (List.nil_sublist _)); clear s2 c2 u2)
              | (go_at_call 19; with_reducible refine Calls.mono (HSH2.out _ _ U3.out.inn.right C3.out) ?_; rintro e w4 ⟨v4, hx4, rfl, s4, h4, c4, u4⟩; have S4 := Lib.hid s4; have C4 := Lib.hid c4; have U4 := Lib.hid (U3.out.underA u4); clear s4 c4 u4)
              | (go_at_call 20; refine Calls.mono (law_ints out out v2 v4 hx2 hx4 S2.out S4.out _ h4 (by rw [List.append_assoc]; exact U4.out.inn)) ?_; rintro e w5 ⟨rfl, u5⟩; rw [decide_eq_true rfl]; have U5 : Hid (ActL pc L (actS s x) w w5) := Lib.hid ⟨h4, C4.out, (U4.out.trans (by rw [List.append_assoc] at u5; exact u5)).forget (by rw [← List.append_assoc]; exact List.sublist_append_right _ _)⟩; clear u5))
            go_roundw
            case rel => exact ⟨k + 1, by omega, by go_num, by rw [HSN.out]; exact U5⟩
            case measure => simp [intOf]; omega
          · clear hq
            go_wp2_with (first
              | (go_at_call 18; with_reducible refine Calls.mono (HD.out _ _ U2.out.inn.right C2.out) ?_; rintro e w3 ⟨⟨n, rfl⟩, h3, c3, u3⟩; have C3 := Lib.hid c3; have U3 := Lib.hid (U2.out.underA u3); clear c3 u3)
              | (go_at_call 19; with_reducible refine Calls.mono (HSH.out _ _ HWW.out.2.inn HWW.out.1) ?_; rintro e w2 ⟨v2, hx2, rfl, s2, h2, c2, u2⟩; have S2 := Lib.hid s2; have C2 := Lib.hid c2; have U2 := Lib.hid (HWW.out.2.trans u2); obtain ⟨y0, y1, y2, y3⟩ := HWr.out w2 (U2.out.forget (List.nil_sublist _)); clear s2 c2 u2)
              | (go_at_call 19; with_reducible refine Calls.mono (HSH2.out _ _ U3.out.inn.right C3.out) ?_; rintro e w4 ⟨v4, hx4, rfl, s4, h4, c4, u4⟩; have S4 := Lib.hid s4; have C4 := Lib.hid c4; have U4 := Lib.hid (U3.out.underA u4); clear s4 c4 u4)
              | (go_at_call 20; refine Calls.mono (law_ints out out v2 v4 hx2 hx4 S2.out S4.out _ h4 (by rw [List.append_assoc]; exact U4.out.inn)) ?_; rintro e w5 ⟨rfl, u5⟩; rw [decide_eq_true rfl]; have U5 : Hid (ActL pc L (actS s x) w w5) := Lib.hid ⟨h4, C4.out, (U4.out.trans (by rw [List.append_assoc] at u5; exact u5)).forget (by rw [← List.append_assoc]; exact List.sublist_append_right _ _)⟩; clear u5))
            go_roundw
            case rel => exact ⟨k + 1, by omega, by go_num, by rw [HSN.out]; exact U5⟩
            case measure => simp [intOf]; omega
      · have HU := Lib.hid hW.2
        clear HW hW
        go_wp2
        go_ret
        exact ⟨rfl, HU.out.forget (List.nil_sublist _)⟩
    · have HU := Lib.hid hW.2
      clear HW hW
      go_wp2
      go_ret
      exact ⟨rfl, HU.out.forget (List.nil_sublist _)⟩

end Go.Proofs.YtjjdjipohifgbaaGreat

/- MinorHandles of the statements' package answers true. Conditions: none. -/
namespace Go.Proofs.YtjjdjipohifgbaaGreat
open Go.RowKit

/-- a core, and other blocks beside it -/
def ActX (pc : Nat) (L : CoreL) (s : CoreS) (x : Hp) (w wr : World) : Prop := ∃ h, CoreH pc L s h ∧ Upd [] (x ++ h) w wr

set_option maxRecDepth 100000 in
set_option maxHeartbeats 8000000 in
theorem minorHandles_any (a b c d : Int) (sv : Value) (l : List ActS) (ha : U8 a) (hb : U8 b) (hc : U8 c) (hd : U8 d) {w : World} (hs : IsActs w sv l) :
    Calls Tryz.prog 6 #[.int .u8 a, .int .u8 b, .int .u8 c, .int .u8 d, sv] w fun e w' => e = .returned (.bool true) ∧ Upd [] [] w w' := by
  have hok := cfgOf_ok ha hb hc hd
  have hcfg := law_config a b c d ha hb hc hd w
  obtain ⟨hfit, hlen, ao, cap, rfl, hsh⟩ := hs
  have HSc := Lib.hid hsh
  clear ha hb hc hd hsh hfit
  generalize cfgOf a b c d = C at *
  have HZ0 := Lib.hid (sane_new (Cfg.fits hok))
  have HOK := Lib.hid hok
  clear hok
  simp only [cfgCells] at hcfg
  go_enter Tryz.func6, Tryz.ntmps6
  go_wp2_with (first
    | (go_at_call 9; refine Calls.mono hcfg ?_; rintro e v0 ⟨rfl, x0⟩; clear hcfg)
    | (go_at_call 10; refine Calls.mono (core_new C HOK.out _) ?_; rintro e w0 ⟨pc, L, h0, rfl, c0, u0⟩; have U0 := x0.trans u0; clear x0 u0; simp only [ptr])
    | (go_at_call 11; refine Calls.mono (law_awake _) ?_; rintro e w1 ⟨rfl, x1⟩; have U1 := U0.under0 x1; clear U0 x1))
  have HS : Hid (ActL pc L (runA (coreNew C) (l.take 0)) w w1) := ⟨h0, c0, U1⟩
  clear U1 c0
  go_loopw [13] (fun q wr => ∃ (k : Nat), k ≤ l.length ∧ q = .int .i64 k ∧ Hid (ActL pc L (runA (coreNew C) (l.take k)) w wr)) (fun q _ => l.length - (intOf q).toNat)
  case atStart => exact ⟨0, by omega, rfl, HS⟩
  case round =>
    obtain ⟨k, hk, rfl, HW⟩ := hrel
    obtain ⟨h, hW⟩ := HW.out
    have HZ := Lib.hid (HZ0.out.runA (l.take k))
    by_cases hlt : k < l.length
    · by_cases h80 : k < 100
      · obtain ⟨bq, off, rfl, hbl, e0, e1, e2, e3⟩ := HSc.out k hlt
        have HSN := Lib.hid (runA_snoc (coreNew C) l k hlt)
        have d0 := hW.2.oldcell hbl e0
        have d1 := hW.2.oldcell hbl e1
        have d2 := hW.2.oldcell hbl e2
        have d3 := hW.2.oldcell hbl e3
        generalize runA (coreNew C) (l.take k) = s at *
        generalize l[k] = x at *
        have HD := Lib.hid (fun W h (hi : In W h) (hc : CoreH pc L s h) => do_act pc L HZ.out x W h hi hc)
        have HZ2 := Lib.hid (HZ.out.act x)
        generalize actS s x = s' at *
        have HALL := Lib.hid (fun W h (hi : In W h) (hc : CoreH pc L s' h) => core_all pc L s' W h hi hc)
        have HWW := Lib.hid hW
        clear e0 e1 e2 e3 hW HW
        simp only [actCells, ptr] at *
        go_wp2_with (first
          | (go_at_call 18; with_reducible refine Calls.mono (HD.out _ _ HWW.out.2.inn HWW.out.1) ?_; rintro e w2 ⟨⟨n, rfl⟩, h2, c2, u2⟩; have C2 := Lib.hid c2; have U2 := Lib.hid (HWW.out.2.trans u2); obtain ⟨_, _, _, _, _, q6⟩ := c2.ptrs (x := []) U2.out.inn; simp only [ptr] at q6; clear c2 u2)
          | (go_at_call 22; refine Calls.mono (HALL.out _ _ U2.out.inn C2.out) ?_; rintro e w3 ⟨v3, h3, rfl, sl3, u3⟩; obtain ⟨ao3, cap3, rfl, _⟩ := sl3.shape; have S3 := Lib.hid sl3; have U3 : Hid (ActX pc L s' h3 w w3) := Lib.hid ⟨h2, C2.out, U2.out.more u3⟩; clear sl3 u3))
        clear q6
        have hfc := C2.out.facts
        have HI := Lib.hid hfc.2.1
        have ht64 : s'.t.length ≤ 64 := hfc.1
        clear hfc C2 U2 HWW HD HALL HS
        go_loopw [15] (fun q wr => ∃ (i : Nat), i ≤ s'.t.length ∧ q = .int .i64 i ∧ Hid (ActX pc L s' h3 w wr)) (fun q _ => s'.t.length - (intOf q).toNat)
        case atStart => exact ⟨0, by omega, rfl, U3⟩
        case round =>
          obtain ⟨i, hi, rfl, HV⟩ := hrel
          obtain ⟨h4, c4, u4⟩ := HV.out
          by_cases hil : i < s'.t.length
          · have hym := mem_getD hil
            obtain ⟨ga, oa, rfl, ca⟩ := S3.out.intAt u4.inn.left hil
            have hcell : ∀ W, In W h3 → W.cell? ⟨ga, oa + i, none⟩ = some (.int .i64 (s'.t.getD i 0)) := by
              intro W hiW
              obtain ⟨gz, oz, ez, cz⟩ := S3.out.intAt hiW hil
              cases ez
              exact cz
            obtain ⟨hf1, hf2⟩ := HZ2.out.handle hym
            have hyI := HI.out _ hym
            generalize s'.t.getD i 0 = y at *
            have hS : ∀ W hc, CoreH pc L s' hc → Upd [] (h3 ++ hc) w W → W.cell? ⟨pc, 14, none⟩ = some (.pointer (some ⟨L.py, 0, none⟩)) ∧ W.cell? ⟨ga, oa + i, none⟩ = some (.int .i64 y) := by
              intro W hc hcc U
              obtain ⟨_, p1, _⟩ := hcc.ptrs (x := h3) U.inn
              exact ⟨p1, hcell W U.inn.left⟩
            have hfr := fun W h (hi : In W h) (hc : CoreH pc L s' h) => core_yfrom pc L s' y hyI W h hi hc
            have hnw := fun W h (hi : In W h) (hc : CoreH pc L s' h) => core_now pc L s' y W h hi hc hyI
            rw [hf1] at hfr
            rw [hf2] at hnw
            have HFR := Lib.hid hfr
            have HNW := Lib.hid hnw
            have HSS := Lib.hid hS
            have UZ := u4.drew'
            have C4 := Lib.hid c4
            have tZ := hS _ _ c4 UZ
            have hyn : (y != y) = false := by simp
            have hiI : (i : Int) < (s'.t.length : Int) := by omega
            have hi0 : (0 : Int) ≤ (i : Int) := by omega
            clear hfr hnw hS hcell hf1 hf2 hym HV u4 c4 ca
            by_cases hy0 : y = 0
            · have hy1 : (y != 0) = false := by simpa using hy0
              clear hy0
              simp only [ptr] at *
              go_wp2
              refine wp_region_held_drew (S := (fun w' => w'.cell? ⟨pc, 14, none⟩ = some (.pointer (some ⟨L.py, 0, none⟩)) ∧ w'.cell? ⟨ga, oa + i, none⟩ = some (.int .i64 y))) (by kernel_rfl) (tZ) (fun hHeld => ?_)
              refine wpAnyH_take (i := 0) (v := ?_) rfl (by kernel_rfl) (by kernel_rfl) (by kernel_rfl) (fun _ _ _ h => h) (Or.inl ⟨by kernel_rfl, ?_⟩) (by assumption) ?_
              rotate_left
              · (intro w' hSw; (try dsimp only at hSw); go_simp; (try with_reducible rfl))
              try simp only [Act.put, List.setIfInBounds_toArray, List.set_cons_zero, List.set_cons_succ]
              refine wpAnyH_take (i := 1) (v := ?_) rfl (by kernel_rfl) (by kernel_rfl) (by kernel_rfl) (fun _ _ _ h => h) (Or.inl ⟨by kernel_rfl, ?_⟩) (by assumption) ?_
              rotate_left
              · (intro w' hSw; (try dsimp only at hSw); go_simp; (try with_reducible rfl))
              try simp only [Act.put, List.setIfInBounds_toArray, List.set_cons_zero, List.set_cons_succ]
              refine wpAnyH_take (i := 2) (v := ?_) rfl (by kernel_rfl) (by kernel_rfl) (by kernel_rfl) (fun _ _ _ h => h) (Or.inl ⟨by kernel_rfl, ?_⟩) (by assumption) ?_
              rotate_left
              · (intro w' hSw; (try dsimp only at hSw); go_simp; (try with_reducible rfl))
              try simp only [Act.put, List.setIfInBounds_toArray, List.set_cons_zero, List.set_cons_succ]
              refine wpAnyH_take (i := 3) (v := ?_) rfl (by kernel_rfl) (by kernel_rfl) (by kernel_rfl) (fun _ _ _ h => h) (Or.inl ⟨by kernel_rfl, ?_⟩) (by assumption) ?_
              rotate_left
              · (intro w' hSw; (try dsimp only at hSw); go_simp; (try with_reducible rfl))
              try simp only [Act.put, List.setIfInBounds_toArray, List.set_cons_zero, List.set_cons_succ]
              refine wpAnyH_take (i := 4) (v := ?_) rfl (by kernel_rfl) (by kernel_rfl) (by kernel_rfl) (fun _ _ _ h => h) (Or.inl ⟨by kernel_rfl, ?_⟩) (by assumption) ?_
              rotate_left
              · (intro w' hSw; (try dsimp only at hSw); go_simp; (try with_reducible rfl))
              try simp only [Act.put, List.setIfInBounds_toArray, List.set_cons_zero, List.set_cons_succ]
              refine wpAnyH_take (i := 5) (v := ?_) rfl (by kernel_rfl) (by kernel_rfl) (by kernel_rfl) (fun _ _ _ h => h) (Or.inl ⟨by kernel_rfl, ?_⟩) (by assumption) ?_
              rotate_left
              · (intro w' hSw; (try dsimp only at hSw); go_simp; (try with_reducible rfl))
              try simp only [Act.put, List.setIfInBounds_toArray, List.set_cons_zero, List.set_cons_succ]
              refine wpAnyH_take (i := 6) (v := ?_) rfl (by kernel_rfl) (by kernel_rfl) (by kernel_rfl) (fun _ _ _ h => h) (Or.inl ⟨by kernel_rfl, ?_⟩) (by assumption) ?_
              rotate_left
              · (intro w' hSw; (try dsimp only at hSw); go_simp; (try with_reducible rfl))
              try simp only [Act.put, List.setIfInBounds_toArray, List.set_cons_zero, List.set_cons_succ]
              refine wpAnyH_take (i := 7) (v := ?_) rfl (by kernel_rfl) (by kernel_rfl) (by kernel_rfl) (fun _ _ _ h => h) (Or.inl ⟨by kernel_rfl, ?_⟩) (by assumption) ?_
              rotate_left
              · (intro w' hSw; (try dsimp only at hSw); go_simp; (try with_reducible rfl))
              try simp only [Act.put, List.setIfInBounds_toArray, List.set_cons_zero, List.set_cons_succ]
              refine wpAnyH_ready (rs := [8]) (by kernel_rfl) (by simp) ?_
              refine AllReadyH.cons (o := _) rfl (fun K hK => ?_) AllReadyH.nil
              go_simp
              (go_at_call 23; with_reducible refine Calls.mono (HFR.out _ _ UZ.inn.right C4.out) ?_; rintro e w5 ⟨rfl, h5, c5, u5⟩; have U5 := UZ.underA u5; have t5 := HSS.out _ _ c5 U5)
              try go_wp2_with fail
              refine hK.out _ _ (t5) (fun hHeld => ?_)
              clear hK K
              try simp only [Act.put, List.setIfInBounds_toArray, List.set_cons_zero, List.set_cons_succ]
              refine wpAnyH_take (i := 9) (v := ?_) rfl (by kernel_rfl) (by kernel_rfl) (by kernel_rfl) (fun _ _ _ h => h) (Or.inl ⟨by kernel_rfl, ?_⟩) (by assumption) ?_
              rotate_left
              · (intro w' hSw; (try dsimp only at hSw); go_simp; (try with_reducible rfl))
              try simp only [Act.put, List.setIfInBounds_toArray, List.set_cons_zero, List.set_cons_succ]
              refine wpAnyH_take (i := 10) (v := ?_) rfl (by kernel_rfl) (by kernel_rfl) (by kernel_rfl) (fun _ _ _ h => h) (Or.inl ⟨by kernel_rfl, ?_⟩) (by assumption) ?_
              rotate_left
              · (intro w' hSw; (try dsimp only at hSw); go_simp; (try with_reducible rfl))
              try simp only [Act.put, List.setIfInBounds_toArray, List.set_cons_zero, List.set_cons_succ]
              refine wpAnyH_take (i := 11) (v := ?_) rfl (by kernel_rfl) (by kernel_rfl) (by kernel_rfl) (fun _ _ _ h => h) (Or.inl ⟨by kernel_rfl, ?_⟩) (by assumption) ?_
              rotate_left
              · (intro w' hSw; (try dsimp only at hSw); go_simp; (try with_reducible rfl))
              try simp only [Act.put, List.setIfInBounds_toArray, List.set_cons_zero, List.set_cons_succ]
              refine wpAnyH_take (i := 12) (v := ?_) rfl (by kernel_rfl) (by kernel_rfl) (by kernel_rfl) (fun _ _ _ h => h) (Or.inl ⟨by kernel_rfl, ?_⟩) (by assumption) ?_
              rotate_left
              · (intro w' hSw; (try dsimp only at hSw); go_simp; (try with_reducible rfl))
              try simp only [Act.put, List.setIfInBounds_toArray, List.set_cons_zero, List.set_cons_succ]
              refine wpAnyH_take (i := 13) (v := ?_) rfl (by kernel_rfl) (by kernel_rfl) (by kernel_rfl) (fun _ _ _ h => h) (Or.inl ⟨by kernel_rfl, ?_⟩) (by assumption) ?_
              rotate_left
              · (intro w' hSw; (try dsimp only at hSw); go_simp; (try with_reducible rfl))
              try simp only [Act.put, List.setIfInBounds_toArray, List.set_cons_zero, List.set_cons_succ]
              refine wpAnyH_take (i := 14) (v := ?_) rfl (by kernel_rfl) (by kernel_rfl) (by kernel_rfl) (fun _ _ _ h => h) (Or.inl ⟨by kernel_rfl, ?_⟩) (by assumption) ?_
              rotate_left
              · (intro w' hSw; (try dsimp only at hSw); go_simp; (try with_reducible rfl))
              try simp only [Act.put, List.setIfInBounds_toArray, List.set_cons_zero, List.set_cons_succ]
              refine wpAnyH_take (i := 15) (v := ?_) rfl (by kernel_rfl) (by kernel_rfl) (by kernel_rfl) (fun _ _ _ h => h) (Or.inl ⟨by kernel_rfl, ?_⟩) (by assumption) ?_
              rotate_left
              · (intro w' hSw; (try dsimp only at hSw); go_simp; (try with_reducible rfl))
              try simp only [Act.put, List.setIfInBounds_toArray, List.set_cons_zero, List.set_cons_succ]
              refine wpAnyH_take (i := 16) (v := undef) rfl (by kernel_rfl) (by kernel_rfl) (by kernel_rfl) (fun _ _ _ h => h) (Or.inr ⟨by kernel_rfl, rfl⟩) (by assumption) ?_
              try simp only [Act.put, List.setIfInBounds_toArray, List.set_cons_zero, List.set_cons_succ]
              refine wpAnyH_take (i := 17) (v := undef) rfl (by kernel_rfl) (by kernel_rfl) (by kernel_rfl) (fun _ _ _ h => h) (Or.inr ⟨by kernel_rfl, rfl⟩) (by assumption) ?_
              try simp only [Act.put, List.setIfInBounds_toArray, List.set_cons_zero, List.set_cons_succ]
              refine wpAnyH_take (i := 18) (v := undef) rfl (by kernel_rfl) (by kernel_rfl) (by kernel_rfl) (fun _ _ _ h => h) (Or.inr ⟨by kernel_rfl, rfl⟩) (by assumption) ?_
              try simp only [Act.put, List.setIfInBounds_toArray, List.set_cons_zero, List.set_cons_succ]
              refine wpAnyH_take (i := 19) (v := undef) rfl (by kernel_rfl) (by kernel_rfl) (by kernel_rfl) (fun _ _ _ h => h) (Or.inr ⟨by kernel_rfl, rfl⟩) (by assumption) ?_
              try simp only [Act.put, List.setIfInBounds_toArray, List.set_cons_zero, List.set_cons_succ]
              refine wpAnyH_take (i := 20) (v := undef) rfl (by kernel_rfl) (by kernel_rfl) (by kernel_rfl) (fun _ _ _ h => h) (Or.inr ⟨by kernel_rfl, rfl⟩) (by assumption) ?_
              try simp only [Act.put, List.setIfInBounds_toArray, List.set_cons_zero, List.set_cons_succ]
              refine wpAnyH_take (i := 21) (v := undef) rfl (by kernel_rfl) (by kernel_rfl) (by kernel_rfl) (fun _ _ _ h => h) (Or.inr ⟨by kernel_rfl, rfl⟩) (by assumption) ?_
              try simp only [Act.put, List.setIfInBounds_toArray, List.set_cons_zero, List.set_cons_succ]
              refine wpAnyH_take (i := 22) (v := undef) rfl (by kernel_rfl) (by kernel_rfl) (by kernel_rfl) (fun _ _ _ h => h) (Or.inr ⟨by kernel_rfl, rfl⟩) (by assumption) ?_
              try simp only [Act.put, List.setIfInBounds_toArray, List.set_cons_zero, List.set_cons_succ]
              refine wpAnyH_take (i := 23) (v := undef) rfl (by kernel_rfl) (by kernel_rfl) (by kernel_rfl) (fun _ _ _ h => h) (Or.inr ⟨by kernel_rfl, rfl⟩) (by assumption) ?_
              try simp only [Act.put, List.setIfInBounds_toArray, List.set_cons_zero, List.set_cons_succ]
              refine wpAnyH_take (i := 24) (v := undef) rfl (by kernel_rfl) (by kernel_rfl) (by kernel_rfl) (fun _ _ _ h => h) (Or.inr ⟨by kernel_rfl, rfl⟩) (by assumption) ?_
              try simp only [Act.put, List.setIfInBounds_toArray, List.set_cons_zero, List.set_cons_succ]
              refine wpAnyH_take (i := 25) (v := undef) rfl (by kernel_rfl) (by kernel_rfl) (by kernel_rfl) (fun _ _ _ h => h) (Or.inr ⟨by kernel_rfl, rfl⟩) (by assumption) ?_
              try simp only [Act.put, List.setIfInBounds_toArray, List.set_cons_zero, List.set_cons_succ]
              refine wpAnyH_take (i := 26) (v := undef) rfl (by kernel_rfl) (by kernel_rfl) (by kernel_rfl) (fun _ _ _ h => h) (Or.inr ⟨by kernel_rfl, rfl⟩) (by assumption) ?_
              try simp only [Act.put, List.setIfInBounds_toArray, List.set_cons_zero, List.set_cons_succ]
              refine wpAnyH_take (i := 27) (v := ?_) rfl (by kernel_rfl) (by kernel_rfl) (by kernel_rfl) (fun _ _ _ h => h) (Or.inl ⟨by kernel_rfl, ?_⟩) (by assumption) ?_
              rotate_left
              · (intro w' hSw; (try dsimp only at hSw); go_simp; (try with_reducible rfl))
              try simp only [Act.put, List.setIfInBounds_toArray, List.set_cons_zero, List.set_cons_succ]
              refine wpAnyH_take (i := 28) (v := ?_) rfl (by kernel_rfl) (by kernel_rfl) (by kernel_rfl) (fun _ _ _ h => h) (Or.inl ⟨by kernel_rfl, ?_⟩) (by assumption) ?_
              rotate_left
              · (intro w' hSw; (try dsimp only at hSw); go_simp; (try with_reducible rfl))
              try simp only [Act.put, List.setIfInBounds_toArray, List.set_cons_zero, List.set_cons_succ]
              refine wpAnyH_done (by kernel_rfl) ?_ _
              go_simp
              go_wp2
              go_roundw
              case rel => exact ⟨i + 1, by omega, by go_num, ⟨h5, c5, U5⟩⟩
              case measure => simp [intOf]; omega
            · have hy1 : (y != 0) = true := by simpa using hy0
              clear hy0
              simp only [ptr] at *
              go_wp2
              go_region_held3 (fun w' => w'.cell? ⟨pc, 14, none⟩ = some (.pointer (some ⟨L.py, 0, none⟩)) ∧ w'.cell? ⟨ga, oa + i, none⟩ = some (.int .i64 y))
                (first | (with_reducible exact tZ) | (with_reducible exact t5) | (with_reducible exact t6))
                (first
                  | (go_at_call 23; with_reducible refine Calls.mono (HFR.out _ _ UZ.inn.right C4.out) ?_; rintro e w5 ⟨rfl, h5, c5, u5⟩; have U5 := UZ.underA u5; have t5 := HSS.out _ _ c5 U5)
                  | (go_at_call 24; with_reducible refine Calls.mono (HNW.out _ _ U5.inn.right c5) ?_; rintro e w6 ⟨rfl, h6, c6, u6⟩; have U6 := U5.underA u6; have t6 := HSS.out _ _ c6 U6))
              go_wp2
              go_roundw
              case rel => exact ⟨i + 1, by omega, by go_num, ⟨h6, c6, U6⟩⟩
              case measure => simp [intOf]; omega
          · have hvv := (c4.vars (x := h3) u4.inn).2
            obtain ⟨_, q2, _⟩ := c4.ptrs (x := h3) u4.inn
            simp only [ptr] at q2
            have HV2 : Hid (ActL pc L s' w _) := Lib.hid ⟨h4, c4, u4.forget (List.sublist_append_right _ _)⟩
            have C4 := Lib.hid c4
            have U4 := Lib.hid u4
            cases hmv : s'.moving
            · rw [hmv] at hvv
              have hl := core_yleft pc L s' _ h4 u4.inn.right c4
              rw [(HZ2.out.rest hmv).1] at hl
              clear HV c4 u4 hmv
              go_wp2_with (go_at_call 21; refine Calls.mono hl ?_; rintro e w5 ⟨rfl, h5, c5, u5⟩; have U5 : Hid (ActL pc L s' w w5) := Lib.hid ⟨h5, c5, (U4.out.underA u5).forget (List.sublist_append_right _ _)⟩; clear c5 u5)
              go_roundw
              case rel => exact ⟨k + 1, by omega, by go_num, by rw [HSN.out]; exact U5⟩
              case measure => simp [intOf]; omega
            · rw [hmv] at hvv
              clear HV c4 u4 hmv
              go_wp2
              go_roundw
              case rel => exact ⟨k + 1, by omega, by go_num, by rw [HSN.out]; exact HV2⟩
              case measure => simp [intOf]; omega
      · have HU := Lib.hid hW.2
        clear HW hW
        go_wp2
        go_ret
        exact ⟨rfl, HU.out.forget (List.nil_sublist _)⟩
    · have HU := Lib.hid hW.2
      clear HW hW
      go_wp2
      go_ret
      exact ⟨rfl, HU.out.forget (List.nil_sublist _)⟩

end Go.Proofs.YtjjdjipohifgbaaGreat

/- MinorHandles of the statements' package answers true, whatever the input: the given statement. Conditions: none. -/
namespace Go.Proofs.YtjjdjipohifgbaaGreat
open Go.ChangeShapes Go.WideShapes Go.ChangeAt Go.RowKit

set_option maxRecDepth 100000 in
theorem minorHandles_lifted (os : Os) (started : os.Started) (H : Type) (enc : TypeId × Value → H) :
    ReturnsInHanded {} Tryz.checked os 6 .any (Rows.minorHandlesSpec.pre6 enc Tryz.prog Tryz.f6 Rows.minorHandlesRow.domain false) (Rows.minorHandlesSpec.post enc Tryz.prog Tryz.f6 false true false false) := by
  refine returnsInHanded_of_change (C := Tryz.checked) Tryz.own started (by kernel_rfl) Tryz.func6
    (ChangeSpec.witness6 (enc := enc) (C := Tryz.checked) false ⟨#[], #[.int .u8 0, .int .u8 0, .int .u8 0, .int .u8 0, .slice none 0 0], []⟩ 8 (by kernel_rfl) (by kernel_rfl) (by kernel_rfl) (by kernel_rfl)) ?_
  intro W base args ds gs before hval0 hW hcnd _
  have hval : ∀ (j : Nat) t v, Tryz.f6.params[j]? = some t → args[j]? = some v → Value.okWide Tryz.prog W .any base t v := hval0
  have hW' := hW
  obtain ⟨p, q, hA0, hV, rfl, hfz, hnd⟩ := hW
  have hA : DataW.TrodAll enc Tryz.prog W 0 (fun _ => true) true Tryz.f6.params.toList args.toList ds p := hA0
  rw [Tryz.params6] at hA hval
  obtain ⟨v0, vs0, d0, ds0, p0, q0, hargs, rfl, rfl, h0, r0⟩ := trodAll_cons hA
  obtain ⟨v1, vs1, d1, ds1, p1, q1, rfl, rfl, rfl, h1, r1⟩ := trodAll_cons r0
  obtain ⟨v2, vs2, d2, ds2, p2, q2, rfl, rfl, rfl, h2, r2⟩ := trodAll_cons r1
  obtain ⟨v3, vs3, d3, ds3, p3, q3, rfl, rfl, rfl, h3, r3⟩ := trodAll_cons r2
  obtain ⟨v4, vs4, d4, ds4, p4, q4, rfl, rfl, rfl, h4, r4⟩ := trodAll_cons r3
  obtain ⟨rfl, rfl, rfl⟩ := trodAll_nil r4
  obtain rfl : args = #[v0, v1, v2, v3, v4] := by cases args; simp_all
  obtain ⟨rfl, rfl⟩ := trodVars_none hV
  obtain ⟨a0, rfl, rfl, rfl, w0⟩ := open_int Tryz.underlying5 (hval 0 5 v0 rfl rfl) h0
  obtain ⟨a1, rfl, rfl, rfl, w1⟩ := open_int Tryz.underlying5 (hval 1 5 v1 rfl rfl) h1
  obtain ⟨a2, rfl, rfl, rfl, w2⟩ := open_int Tryz.underlying5 (hval 2 5 v2 rfl rfl) h2
  obtain ⟨a3, rfl, rfl, rfl, w3⟩ := open_int Tryz.underlying5 (hval 3 5 v3 rfl rfl) h3
  have k4 := h4
  have lt4 : ∀ x ∈ p4, x.block < W.heap.size := by obtain ⟨m, hm⟩ := k4; exact DataW.trod_lt m _ _ _ hm
  obtain ⟨a4, w4⟩ := open_acts (hval 4 51 v4 rfl rfl) h4
  clear hA0 hval0
  refine (minorHandles_any a0 a1 a2 a3 v4 a4 (U8_wf w0) (U8_wf w1) (U8_wf w2) (U8_wf w3) w4).mono fun e W' ⟨he, hu⟩ => ?_
  subst he
  exact ⟨_, rfl, post_below2 (pv := []) hW' (fun _ _ _ => trodAll_cons_mk (shut_bool Tryz.underlying4 _) trodAll_mk0) (trodAll_cons_mk (shut_int Tryz.underlying5 w0) (trodAll_cons_mk (shut_int Tryz.underlying5 w1) (trodAll_cons_mk (shut_int Tryz.underlying5 w2) (trodAll_cons_mk (shut_int Tryz.underlying5 w3) (trodAll_cons_mk (Below.trod Tryz.laidOut (by kernel_rfl) (of_decide_eq_true (by kernel_rfl)) k4 hu.below lt4) trodAll_mk0))))) (fun _ _ => rfl) rfl
    (hu.below.frame _)⟩

theorem minorHandles_holds : Rows.MinorHandlesSaid :=
  OpenClaim.holds_of_wide 6 Tryz.f6 rfl rfl rfl rfl rfl rfl rfl ⟨rfl, rfl, rfl, rfl, rfl⟩ rfl rfl rfl rfl rfl (by kernel_rfl) Tryz.func6 (by kernel_rfl)
    (of_decide_eq_true (by kernel_rfl)) (by unfold Func.isWrapper; first | (rw [if_pos (by decide +kernel)]; kernel_rfl) | (rw [if_neg (by decide +kernel)]; exact ⟨rfl, rfl⟩))
    (fun os started H enc _ => minorHandles_lifted os started H enc)

#print axioms minorHandles_holds
end Go.Proofs.YtjjdjipohifgbaaGreat
