/- What Run and Start of package minor come to. Conditions: a core whose parts are as New makes them; what each move asks. -/
import Derived.Test.YtjjdjipohifgbaaGreatRows
import Derived.Test.YtjjdjipohifgbaaGreatZC
import Derived.Test.YtjjdjipohifgbaaGreatZB
import Derived.Deep.RegionHeld3
set_option linter.unusedVariables false
set_option linter.unusedSimpArgs false
/- What Head of package core, and through of package minor come to. Conditions: a core whose parts are as New makes them; what each move asks. -/
namespace Go.Proofs.YtjjdjipohifgbaaGreat
open Go.RowKit

set_option maxRecDepth 100000 in
set_option maxHeartbeats 1000000 in
theorem core_Head (pc : Nat) (L : CoreL) (s : CoreS) (i : Int) (w : World) (h : Hp) (hi : In w h) (hc : CoreH pc L s h) :
    Calls Tryz.prog 97 #[ptr pc, .int .i64 i] w fun e w' =>
      e = .returned (.agg (hdCells (headS s.ws i))) ∧ ∃ h', CoreH pc L s h' ∧ Upd h h' w w' := by
  have U0 := Upd.alloc hi (.cells (hdCells hd0) 65 (0, 0))
  have hh := core_head pc L s i _ h U0.inn.tail hc
  generalize hH : headS s.ws i = H at *
  clear hH hc hi
  try simp only [hdCells, hd0] at hh
  try simp only [ptr] at *
  go_enter Tryz.func97, Tryz.ntmps97
  go_wp2_with (go_at_call 87; refine Calls.mono hh ?_; rintro e w1 ⟨rfl, h1, c1, u1⟩; have U1 := U0.under u1; obtain ⟨d0, d1, d2, d3, d4, d5, d6⟩ := hd_cells U1.inn.head; obtain ⟨f0, f1, f2, f3, f4, f5, f6⟩ := hd_frozen U1.inn.head)
  have UF := U1.hd H
  have G := hd_cells UF.inn.head
  try simp only [hdCells] at G
  obtain ⟨g0, g1, g2, g3, g4, g5, g6⟩ := G
  clear d0 d1 d2 d3 d4 d5 d6 f0 f1 f2 f3 f4 f5 f6
  refine bodyPost_ret (v := .agg (hdCells H)) ?_ rfl ⟨rfl, _, c1, UF.drop1⟩
  simp only [results, Tryz.results97]
  simp [go_sem, hdCells, g0, g1, g2, g3, g4, g5, g6]

/-- what a move asks of the core and the place -/
structure CoreS.MvAt (s : CoreS) (a : Int) : Prop where
  m : s.Mv
  to : s.y.isFrom a = true → s.now a = a → I64 (s.mvTo a)

/-- a reference of an object leaves the half that is emptied -/
def CoreS.thrOne (s : CoreS) (a : Int) (k : Nat) : CoreS :=
  if s.moveV (refS s.ws a k) = refS s.ws a k then s.move (refS s.ws a k) else { s.move (refS s.ws a k) with ws := stW (s.move (refS s.ws a k)).ws (place a k) (u64 (s.moveV (refS s.ws a k))) }
def CoreS.thrIn (s : CoreS) (a : Int) (k : Nat) : Bool := (s.thrOne a k).y.isIn (s.moveV (refS s.ws a k))
def CoreS.thr (s : CoreS) (a : Int) : Nat → CoreS
  | 0 => s
  | k + 1 => (s.thr a k).thrOne a k
def CoreS.thrYoung (s : CoreS) (a : Int) : Nat → Bool
  | 0 => false
  | k + 1 => s.thrYoung a k || (s.thr a k).thrIn a k
def CoreS.ptrsOf (s : CoreS) (a : Int) : Nat := (headS s.ws a).ptrs.toNat
def CoreS.through (s : CoreS) (a : Int) : CoreS := if s.thrYoung a (s.ptrsOf a) then (s.thr a (s.ptrsOf a)).note a else s.thr a (s.ptrsOf a)

theorem refS_I64 (ws : List Int) (a k : Int) : I64 (refS ws a k) := I64.wrap _


set_option maxRecDepth 100000 in
set_option maxHeartbeats 4000000 in
theorem minor_through (pc : Nat) (L : CoreL) (s : CoreS) (a : Int) (w : World) (h : Hp) (hi : In w h) (hc : CoreH pc L s h) (ha : I64 a) (hm : ∀ k, k < s.ptrsOf a → (s.thr a k).MvAt (refS (s.thr a k).ws a k)) :
    Calls Tryz.prog 59 #[ptr pc, .int .i64 a] w fun e w' =>
      e = .returned (.int .i64 (headS s.ws a).words) ∧ ∃ h', CoreH pc L (s.through a) h' ∧ Upd h h' w w' := by
  have hG : (headS s.ws a).Good := unH_good _
  have hG0 := hG
  obtain ⟨g1, g2, g3, g4, g5, g6, g7⟩ := hG
  have hH := core_Head pc L s a w h hi hc
  have hwx := obj_words (headS s.ws a) hG0
  obtain ⟨p, hp⟩ : ∃ p : Nat, (headS s.ws a).ptrs = p := ⟨(headS s.ws a).ptrs.toNat, by omega⟩
  have hpp : s.ptrsOf a = p := by simp [CoreS.ptrsOf, hp]
  have hthr : s.through a = if s.thrYoung a p then (s.thr a p).note a else s.thr a p := by rw [CoreS.through, hpp]
  have HTH := Lib.hid hthr
  rw [hpp] at hm
  have HM := Lib.hid hm
  have p64 : p ≤ 64 := by omega
  have HRef := Lib.hid (fun s k W h (hW : In W h) (hc : CoreH pc L s h) => core_ref pc L s a k W h hW hc)
  have HMv := Lib.hid (fun s r W h (hW : In W h) (hc : CoreH pc L s h) (hr : I64 r) (m : s.MvAt r) => core_move pc L s r W h hW hc hr m.m m.to)
  have HFl := Lib.hid (fun ws k v W h (hW : In W h) (ca : ArenaH L.pa ws h) (hv : U64 v) => obj_setfield L.pa ws a k v W h hW ca hv)
  have HIn := Lib.hid (fun y i W h (hW : In W h) (cy : YoungH L.py y h) (hb : I64 i) => bump_in L.py y i W h hW cy hb)
  have HNo := Lib.hid (fun s W h (hW : In W h) (hc : CoreH pc L s h) => core_note pc L s a W h hW hc ha)
  have hmvI : Hid (∀ s : CoreS, ∀ r, I64 r → s.MvAt r → I64 (s.moveV r)) := Lib.hid (by
    intro s r hr m
    unfold CoreS.moveV
    split
    · exact hr
    · split
      · rename_i h1 h2
        refine m.to ?_ h2
        cases hq : s.y.isFrom r
        · exact absurd (.inr hq) h1
        · rfl
      · exact s.now_I64 hr)
  have hS0 : s.thr a 0 = s := rfl
  have HY0 : Hid (s.thrYoung a 0 = false) := Lib.hid rfl
  have HT : Hid (∀ k, s.thr a (k + 1) = (s.thr a k).thrOne a k ∧ s.thrYoung a (k + 1) = (s.thrYoung a k || (s.thr a k).thrIn a k)) := Lib.hid (fun _ => ⟨rfl, rfl⟩)
  generalize hHH : headS s.ws a = H at *
  clear hthr hpp hc hi hm hHH hG0
  obtain ⟨x1, x2, x3, x4, x5, x6, x7⟩ := H
  simp only at hp g1 g2 g3 g4
  subst hp
  have H0 : Hid (∀ w3 h3, CoreH pc L s h3 → Upd h ((w3, .cells #[.int .i64 x1, .int .i64 p, .int .i64 x3, .int .i64 x4, .bool x5, .bool x6, .bool x7] 65 (0, 0)) :: h3) w w → True) := Lib.hid fun _ _ _ _ => trivial
  simp only [hdCells] at *
  simp only [ptr] at *
  go_enter Tryz.func59, Tryz.ntmps59
  go_wp2_with (go_at_call 97; refine Calls.mono hH ?_; rintro e w3 ⟨rfl, h3, c3, u3⟩; have U3 := Lib.hid (u3.alloc' (.cells #[.int .i64 x1, .int .i64 p, .int .i64 x3, .int .i64 x4, .bool x5, .bool x6, .bool x7] 65 (0, 0))); have C3 := Lib.hid c3; clear u3 c3 hH)
  generalize w3.heap.size = lb at *
  go_loopw [6, 15] (fun v i wr => ∃ k : Nat, k ≤ p ∧ i = .int .i64 k ∧ v = .bool (s.thrYoung a k) ∧ Hid (∃ h', CoreH pc L (s.thr a k) h' ∧ Upd h ((lb, .cells #[.int .i64 x1, .int .i64 p, .int .i64 x3, .int .i64 x4, .bool x5, .bool x6, .bool x7] 65 (0, 0)) :: h') w wr)) (fun _ i _ => p - (intOf i).toNat)
  case atStart => exact ⟨0, by omega, rfl, rfl, Lib.hid ⟨h3, C3.out, U3.out⟩⟩
  case round =>
    obtain ⟨k, hk, rfl, rfl, HW⟩ := hrel
    by_cases hlt : k < p
    · have hmk := HM.out k hlt
      obtain ⟨hk1, ck, uk⟩ := HW.out
      obtain ⟨t1, t2⟩ := HT.out k
      have hrI : I64 (refS (s.thr a k).ws a k) := refS_I64 ..
      have hone : (s.thr a k).thrOne a k = if (s.thr a k).moveV (refS (s.thr a k).ws a k) = refS (s.thr a k).ws a k then (s.thr a k).move (refS (s.thr a k).ws a k) else { (s.thr a k).move (refS (s.thr a k).ws a k) with ws := stW ((s.thr a k).move (refS (s.thr a k).ws a k)).ws (place a k) (u64 ((s.thr a k).moveV (refS (s.thr a k).ws a k))) } := rfl
      have hin : (s.thr a k).thrIn a k = ((s.thr a k).thrOne a k).y.isIn ((s.thr a k).moveV (refS (s.thr a k).ws a k)) := rfl
      have hTI := hmvI.out _ _ hrI hmk
      rw [hin] at t2
      have href := HRef.out (s.thr a k) k wr hk1 uk.inn.tail ck
      have HT1 := Lib.hid t1
      have HT2 := Lib.hid t2
      have HOne := Lib.hid hone
      have HUk := Lib.hid uk
      have HMk := Lib.hid hmk
      clear t1 t2 hone hin uk ck HW hmk
      generalize s.thr a k = S at *
      generalize S.thrOne a k = S1 at *
      generalize refS S.ws a k = r at *
      generalize s.thrYoung a k = Y at *
      have hmv := fun W h (hW : In W h) (hc : CoreH pc L S h) => HMv.out S r W h hW hc hrI HMk.out
      have hwr : IntKind.u64.wrap (S.moveV r) = u64 (S.moveV r) := IntKind.wrap_u64 _
      generalize S.moveV r = T at *
      generalize S.move r = M at *
      have HMV := Lib.hid hmv
      clear hmv
      by_cases q : T = r
      · have HS1 : Hid (S1 = M) := Lib.hid (by rw [HOne.out, if_pos q])
        subst q
        have q2 : (T != T) = false := by simp
        cases Y
        · go_wp2_with (first
            | (go_at_call 74; refine Calls.mono href ?_; rintro e w4 ⟨rfl, h4, c4, u4⟩; have U4 := Lib.hid (HUk.out.under u4); have C4 := Lib.hid c4; clear u4 c4 href)
            | (go_at_call 53; refine Calls.mono (HMV.out _ _ U4.out.inn.tail C4.out) ?_; rintro e w5 ⟨rfl, h5, c5, u5⟩; have U5 := Lib.hid (U4.out.under u5); (obtain ⟨v5, ha5, hy5, ho5, hr5, hg5, ht5, hw5, rfl, ca5, cy5, co5, cr5, cg5, ct5, cw5⟩ := c5); (obtain ⟨pa5, py5, _, _, _, _⟩ := core_ptrs (In.core (x := [_]) U5.out.inn)); simp only [ptr] at pa5 py5; clear u5)
            | (go_at_call 70; refine Calls.mono (HIn.out _ _ _ _ (In.young (x := [_]) U5.out.inn) cy5 hTI) ?_; rintro e w7 ⟨rfl, u7⟩; have U7 := Lib.hid (Upd.young (x := [_]) U5.out u7); clear u7))
          go_roundw
          case rel => exact ⟨k + 1, by omega, by go_num, by rw [HT2.out, HS1.out]; rfl, Lib.hid ⟨_, by rw [HT1.out, HS1.out]; exact ⟨v5, ha5, hy5, ho5, hr5, hg5, ht5, hw5, rfl, ca5, cy5, co5, cr5, cg5, ct5, cw5⟩, U7.out⟩⟩
          case measure => simp [intOf]; omega
        · go_wp2_with (first
            | (go_at_call 74; refine Calls.mono href ?_; rintro e w4 ⟨rfl, h4, c4, u4⟩; have U4 := Lib.hid (HUk.out.under u4); have C4 := Lib.hid c4; clear u4 c4 href)
            | (go_at_call 53; refine Calls.mono (HMV.out _ _ U4.out.inn.tail C4.out) ?_; rintro e w5 ⟨rfl, h5, c5, u5⟩; have U5 := Lib.hid (U4.out.under u5); (obtain ⟨v5, ha5, hy5, ho5, hr5, hg5, ht5, hw5, rfl, ca5, cy5, co5, cr5, cg5, ct5, cw5⟩ := c5); (obtain ⟨pa5, py5, _, _, _, _⟩ := core_ptrs (In.core (x := [_]) U5.out.inn)); simp only [ptr] at pa5 py5; clear u5))
          go_roundw
          case rel => exact ⟨k + 1, by omega, by go_num, by rw [HT2.out]; rfl, Lib.hid ⟨_, by rw [HT1.out, HS1.out]; exact ⟨v5, ha5, hy5, ho5, hr5, hg5, ht5, hw5, rfl, ca5, cy5, co5, cr5, cg5, ct5, cw5⟩, U5.out⟩⟩
          case measure => simp [intOf]; omega
      · have HS1 : Hid (S1 = { M with ws := stW M.ws (place a k) (u64 T) }) := Lib.hid (by rw [HOne.out, if_neg q])
        have q2 : (T != r) = true := by simpa using q
        clear q
        cases Y
        · go_wp2_with (first
            | (go_at_call 74; refine Calls.mono href ?_; rintro e w4 ⟨rfl, h4, c4, u4⟩; have U4 := Lib.hid (HUk.out.under u4); have C4 := Lib.hid c4; clear u4 c4 href)
            | (go_at_call 53; refine Calls.mono (HMV.out _ _ U4.out.inn.tail C4.out) ?_; rintro e w5 ⟨rfl, h5, c5, u5⟩; have U5 := Lib.hid (U4.out.under u5); (obtain ⟨v5, ha5, hy5, ho5, hr5, hg5, ht5, hw5, rfl, ca5, cy5, co5, cr5, cg5, ct5, cw5⟩ := c5); (obtain ⟨pa5, py5, _, _, _, _⟩ := core_ptrs (In.core (x := [_]) U5.out.inn)); simp only [ptr] at pa5 py5; clear u5)
            | (go_at_call 69; refine Calls.mono (HFl.out _ _ _ _ _ (In.arena (x := [_]) U5.out.inn) ca5 (U64_u64 _)) ?_; rintro e w6 ⟨rfl, ha6, ca6, u6⟩; have U6 := Lib.hid (Upd.arena (x := [_]) U5.out u6); (obtain ⟨pa6, py6, _, _, _, _⟩ := core_ptrs (In.core (x := [_]) U6.out.inn)); simp only [ptr] at pa6 py6; clear u6)
            | (go_at_call 70; refine Calls.mono (HIn.out _ _ _ _ (In.young (x := [_]) U6.out.inn) cy5 hTI) ?_; rintro e w7 ⟨rfl, u7⟩; have U7 := Lib.hid (Upd.young (x := [_]) U6.out u7); clear u7))
          go_roundw
          case rel => exact ⟨k + 1, by omega, by go_num, by rw [HT2.out, HS1.out]; rfl, Lib.hid ⟨_, by rw [HT1.out, HS1.out]; exact ⟨v5, ha6, hy5, ho5, hr5, hg5, ht5, hw5, rfl, ca6, cy5, co5, cr5, cg5, ct5, cw5⟩, U7.out⟩⟩
          case measure => simp [intOf]; omega
        · go_wp2_with (first
            | (go_at_call 74; refine Calls.mono href ?_; rintro e w4 ⟨rfl, h4, c4, u4⟩; have U4 := Lib.hid (HUk.out.under u4); have C4 := Lib.hid c4; clear u4 c4 href)
            | (go_at_call 53; refine Calls.mono (HMV.out _ _ U4.out.inn.tail C4.out) ?_; rintro e w5 ⟨rfl, h5, c5, u5⟩; have U5 := Lib.hid (U4.out.under u5); (obtain ⟨v5, ha5, hy5, ho5, hr5, hg5, ht5, hw5, rfl, ca5, cy5, co5, cr5, cg5, ct5, cw5⟩ := c5); (obtain ⟨pa5, py5, _, _, _, _⟩ := core_ptrs (In.core (x := [_]) U5.out.inn)); simp only [ptr] at pa5 py5; clear u5)
            | (go_at_call 69; refine Calls.mono (HFl.out _ _ _ _ _ (In.arena (x := [_]) U5.out.inn) ca5 (U64_u64 _)) ?_; rintro e w6 ⟨rfl, ha6, ca6, u6⟩; have U6 := Lib.hid (Upd.arena (x := [_]) U5.out u6); (obtain ⟨pa6, py6, _, _, _, _⟩ := core_ptrs (In.core (x := [_]) U6.out.inn)); simp only [ptr] at pa6 py6; clear u6))
          go_roundw
          case rel => exact ⟨k + 1, by omega, by go_num, by rw [HT2.out]; rfl, Lib.hid ⟨_, by rw [HT1.out, HS1.out]; exact ⟨v5, ha6, hy5, ho5, hr5, hg5, ht5, hw5, rfl, ca6, cy5, co5, cr5, cg5, ct5, cw5⟩, U6.out⟩⟩
          case measure => simp [intOf]; omega
    · obtain rfl : k = p := by omega
      obtain ⟨hk1, ck, uk⟩ := HW.out
      have bx := uk.inn.head
      have HUk := Lib.hid uk
      have HCk := Lib.hid ck
      have hno := fun W h (hW : In W h) (hc : CoreH pc L (s.thr a k) h) => HNo.out (s.thr a k) W h hW hc
      have HN := Lib.hid hno
      clear hno uk ck HW
      generalize hS : s.thr a k = S at *
      have z0 := cell_of bx 0
      have z1 := cell_of bx 1
      have z2 := cell_of bx 2
      have z3 := cell_of bx 3
      have z4 := cell_of bx 4
      have z5 := cell_of bx 5
      have z6 := cell_of bx 6
      simp only [List.getElem?_toArray, List.getElem?_cons_succ, List.getElem?_cons_zero] at z0 z1 z2 z3 z4 z5 z6
      have HS := Lib.hid hS
      clear bx hS
      cases hY : s.thrYoung a k
      · have HY := Lib.hid hY
        clear hY
        go_wp2_with (go_at_call 44; refine Calls.mono (hwx _) ?_; rintro e w9 ⟨rfl, u9⟩; have U9 := Lib.hid (HUk.out.under0 u9); clear u9)
        go_ret
        exact ⟨rfl, hk1, by rw [HTH.out, HY.out]; exact HCk.out, U9.out.drop1⟩
      · have HY := Lib.hid hY
        clear hY
        go_wp2_with (first
          | (go_at_call 71; refine Calls.mono (HN.out _ _ HUk.out.inn.tail HCk.out) ?_; rintro e w8 ⟨rfl, h8, c8, u8⟩; have U8 := Lib.hid (HUk.out.under u8); have C8 := Lib.hid c8; clear z0 z1 z2 z3 z4 z5 z6; have z0 := cell_of U8.out.inn.head 0; have z1 := cell_of U8.out.inn.head 1; have z2 := cell_of U8.out.inn.head 2; have z3 := cell_of U8.out.inn.head 3; have z4 := cell_of U8.out.inn.head 4; have z5 := cell_of U8.out.inn.head 5; have z6 := cell_of U8.out.inn.head 6; simp only [List.getElem?_toArray, List.getElem?_cons_succ, List.getElem?_cons_zero] at z0 z1 z2 z3 z4 z5 z6; clear u8 c8)
          | (go_at_call 44; refine Calls.mono (hwx _) ?_; rintro e w9 ⟨rfl, u9⟩; have U9 := Lib.hid (U8.out.under0 u9); clear u9))
        go_ret
        exact ⟨rfl, h8, by rw [HTH.out, HY.out]; exact C8.out, U9.out.drop1⟩

end Go.Proofs.YtjjdjipohifgbaaGreat

/- What noted, row and part of package minor come to. Conditions: a core whose parts are as New makes them; what each move asks. -/
namespace Go.Proofs.YtjjdjipohifgbaaGreat
open Go.RowKit

/-- what through asks -/
def CoreS.ThrOk (s : CoreS) (a : Int) : Prop := ∀ k, k < s.ptrsOf a → (s.thr a k).MvAt (refS (s.thr a k).ws a k)
def CoreS.unnote (s : CoreS) (a : Int) : CoreS := { s with ws := stW s.ws a { headS s.ws a with noted := false }.enc }
def CoreS.isNoted (s : CoreS) (a : Int) : Bool := (s.o.sizeAt a).isSome && (headS s.ws a).noted
def CoreS.notedS (s : CoreS) (a : Int) : CoreS := if s.isNoted a then (s.unnote a).through a else s
def CoreS.notedN (s : CoreS) (a : Int) : Int := if s.isNoted a then (headS (s.unnote a).ws a).words else 0

theorem Upd.oldX {w0 w w' : World} {h0 : Hp} {pc : Nat} {o : Obj} {ha hy ho hr hg ht hw k : Hp} (a : Upd h0 (coreParts pc o ha hy ho hr hg ht hw).flatten w0 w) (u : Upd ho k w w') : Upd h0 (coreParts pc o ha hy k hr hg ht hw).flatten w0 w' := Upd.old (x := []) a u

/-- Size, called from outside -/
theorem core_size (pc : Nat) (L : CoreL) (s : CoreS) (a : Int) (w : World) (h : Hp) (hi : In w h) (hc : CoreH pc L s h) (ok : s.o.Ok) (ha : I64 a) :
    Calls Tryz.prog 91 #[.pointer (some ⟨L.po, 0, none⟩), .int .i64 a] w fun e w' => e = .returned (.tuple #[.int .i64 (optV (s.o.sizeAt a)), .bool (s.o.sizeAt a).isSome]) ∧ Upd h h w w' := by
  obtain ⟨v, ha', hy, ho, hr, hg, ht, hw, rfl, ca, cy, co, cr, cg, ct, cw⟩ := hc
  exact Calls.mono (mature_size L.po s.o a w ho (In.old (x := []) hi) co ok ha) fun e w' hh => ⟨hh.1, Upd.oldX (Upd.refl hi) hh.2⟩

set_option maxRecDepth 100000 in
set_option maxHeartbeats 2000000 in
theorem minor_noted (pc : Nat) (L : CoreL) (s : CoreS) (a : Int) (w : World) (h : Hp) (hi : In w h) (hc : CoreH pc L s h) (ok : s.o.Ok) (ha : I64 a) (hm : s.isNoted a = true → (s.unnote a).ThrOk a) :
    Calls Tryz.prog 57 #[ptr pc, .int .i64 a] w fun e w' => e = .returned (.int .i64 (s.notedN a)) ∧ ∃ h', CoreH pc L (s.notedS a) h' ∧ Upd h h' w w' := by
  have hsz := core_size pc L s a w h hi hc ok ha
  have p3 := (CoreH.ptrs (x := []) hc hi).2.2.1
  have HH := Lib.hid (fun W (hW : In W h) => core_Head pc L s a W h hW hc)
  have HC := Lib.hid hc
  have HIN : Hid (s.isNoted a = ((s.o.sizeAt a).isSome && (headS s.ws a).noted)) := Lib.hid rfl
  clear hc hi
  generalize optV (s.o.sizeAt a) = sv at *
  cases hS : (s.o.sizeAt a).isSome
  · have HV : Hid (s.isNoted a = false) := Lib.hid (by rw [HIN.out, hS]; rfl)
    have HN : Hid (s.notedN a = 0) := Lib.hid (by rw [CoreS.notedN, HV.out]; rfl)
    have HT : Hid (s.notedS a = s) := Lib.hid (by rw [CoreS.notedS, HV.out]; rfl)
    rw [HN.out]
    rw [hS] at hsz
    clear hS hm
    simp only [ptr] at *
    go_enter Tryz.func57, Tryz.ntmps57
    go_wp2_with (go_at_call 91; refine Calls.mono hsz ?_; rintro e w1 ⟨rfl, u1⟩; have U1 := Lib.hid u1; clear u1 hsz)
    go_ret
    exact ⟨rfl, h, by rw [HT.out]; exact HC.out, U1.out⟩
  · rw [hS] at hsz
    cases hn : (headS s.ws a).noted
    · have HV : Hid (s.isNoted a = false) := Lib.hid (by rw [HIN.out, hS, hn]; rfl)
      have HN : Hid (s.notedN a = 0) := Lib.hid (by rw [CoreS.notedN, HV.out]; rfl)
      have HT : Hid (s.notedS a = s) := Lib.hid (by rw [CoreS.notedS, HV.out]; rfl)
      rw [HN.out]
      generalize headS s.ws a = H at *
      obtain ⟨x1, x2, x3, x4, x5, x6, x7⟩ := H
      simp only at hn
      subst hn
      clear hS hm
      simp only [hdCells] at HH
      simp only [ptr] at *
      go_enter Tryz.func57, Tryz.ntmps57
      go_wp2_with (first
        | (go_at_call 91; refine Calls.mono hsz ?_; rintro e w1 ⟨rfl, u1⟩; have U1 := Lib.hid u1; clear u1 hsz)
        | (go_at_call 97; refine Calls.mono (HH.out _ U1.out.inn) ?_; rintro e w2 ⟨rfl, h2, c2, u2⟩; have U2 := Lib.hid ((U1.out.trans u2).alloc' (.cells #[.int .i64 x1, .int .i64 x2, .int .i64 x3, .int .i64 x4, .bool x5, .bool false, .bool x7] 65 (0, 0))); have C2 := Lib.hid c2; clear u2 c2))
      go_ret
      exact ⟨rfl, h2, by rw [HT.out]; exact C2.out, U2.out.drop1⟩
    · have hv : s.isNoted a = true := by rw [HIN.out, hS, hn]; rfl
      have HN : Hid (s.notedN a = (headS (s.unnote a).ws a).words) := Lib.hid (by rw [CoreS.notedN, hv]; rfl)
      have HT : Hid (s.notedS a = (s.unnote a).through a) := Lib.hid (by rw [CoreS.notedS, hv]; rfl)
      have hG : (headS s.ws a).Good := unH_good _
      obtain ⟨g1, g2, g3, g4, g5, g6, g7⟩ := hG
      have hset := fun W h (hW : In W h) (hc : CoreH pc L s h) => core_sethead pc L s a { headS s.ws a with noted := false } ⟨g1, g2, g3, g4, g5, g6, g7⟩ W h hW hc
      have hun : s.unnote a = { s with ws := stW s.ws a { headS s.ws a with noted := false }.enc } := rfl
      rw [← hun] at hset
      have HTh := Lib.hid (fun W h (hW : In W h) (hc : CoreH pc L (s.unnote a) h) => minor_through pc L (s.unnote a) a W h hW hc ha (hm hv))
      rw [HN.out]
      clear hun
      generalize s.unnote a = S1 at *
      generalize headS s.ws a = H at *
      obtain ⟨x1, x2, x3, x4, x5, x6, x7⟩ := H
      simp only at hn
      subst hn
      have HSet := Lib.hid hset
      clear hS hm hset hv g1 g2 g3 g4 g5 g6 g7
      generalize headS S1.ws a = H1 at *
      simp only [hdCells] at HH HSet
      simp only [ptr] at *
      go_enter Tryz.func57, Tryz.ntmps57
      go_wp2_with (first
        | (go_at_call 91; refine Calls.mono hsz ?_; rintro e w1 ⟨rfl, u1⟩; have U1 := Lib.hid u1; clear u1 hsz)
        | (go_at_call 97; refine Calls.mono (HH.out _ U1.out.inn) ?_; rintro e w2 ⟨rfl, h2, c2, u2⟩; have U2 := Lib.hid ((U1.out.trans u2).alloc' (.cells #[.int .i64 x1, .int .i64 x2, .int .i64 x3, .int .i64 x4, .bool x5, .bool false, .bool x7] 65 (0, 0))); have C2 := Lib.hid c2; clear u2 c2)
        | (go_at_call 98; refine Calls.mono (HSet.out _ _ U2.out.inn.tail C2.out) ?_; rintro e w3 ⟨rfl, h3, c3, u3⟩; have U3 := Lib.hid (U2.out.under u3); have C3 := Lib.hid c3; clear u3 c3)
        | (go_at_call 59; refine Calls.mono (HTh.out _ _ U3.out.inn.tail C3.out) ?_; rintro e w4 ⟨rfl, h4, c4, u4⟩; have U4 := Lib.hid (U3.out.under u4); have C4 := Lib.hid c4; clear u4 c4))
      go_ret
      exact ⟨rfl, h4, by rw [HT.out]; exact C4.out, U4.out.drop1⟩

/-- row: the first of the old objects that came from the nursery -/
def CoreS.rowHd (s : CoreS) : Int := s.row.headD 0
def CoreS.unrow (s : CoreS) : CoreS := { s with row := s.row.tail }
def CoreS.rowS (s : CoreS) : CoreS := if (s.o.sizeAt s.rowHd).isSome then s.unrow.through s.rowHd else s.unrow
def CoreS.rowN (s : CoreS) : Int := if (s.o.sizeAt s.rowHd).isSome then (headS s.ws s.rowHd).words else 1

set_option maxRecDepth 100000 in
set_option maxHeartbeats 2000000 in
theorem minor_row (pc : Nat) (L : CoreL) (s : CoreS) (w : World) (h : Hp) (hi : In w h) (hc : CoreH pc L s h) (ok : s.o.Ok) (hr : 0 < s.row.length) (hb : s.row.length ≤ 1000000) (ha : I64 s.rowHd) (hm : (s.o.sizeAt s.rowHd).isSome = true → s.unrow.ThrOk s.rowHd) :
    Calls Tryz.prog 54 #[ptr pc] w fun e w' => e = .returned (.int .i64 s.rowN) ∧ ∃ h', CoreH pc L s.rowS h' ∧ Upd h h' w w' := by
  obtain ⟨v, ha', hy, ho, hr', hg, ht, hw, rfl, ca, cy, co, cr, cg, ct, cw⟩ := hc
  obtain ⟨a, tl, has⟩ : ∃ a tl, s.row = a :: tl := by
    cases hq : s.row with
    | nil => rw [hq] at hr; simp at hr
    | cons a tl => exact ⟨a, tl, rfl⟩
  have ea : s.rowHd = a := by simp [CoreS.rowHd, has]
  have eu : s.unrow = { s with row := tl } := by simp [CoreS.unrow, has]
  have HRS : Hid (s.rowS = if (s.o.sizeAt a).isSome then ({ s with row := tl } : CoreS).through a else { s with row := tl }) := Lib.hid (by rw [CoreS.rowS, ea, eu])
  have HRN : Hid (s.rowN = if (s.o.sizeAt a).isSome then (headS s.ws a).words else 1) := Lib.hid (by rw [CoreS.rowN, ea])
  rw [ea] at ha hm
  rw [eu] at hm
  have hlen : s.row.length = tl.length + 1 := by rw [has]; rfl
  rw [hlen, has] at cw
  obtain ⟨g, off, cap, rfl, hcap, hR⟩ := SliceH.rest (n := tl.length) (x := .int .i64 a) (xs := ints tl) (by simpa [ints] using cw)
  have hin := In.rows (x := []) hi
  have hx : w.cell? ⟨g, off, none⟩ = some (.int .i64 a) := by have := cw.cell hin rfl (j := 0) (by simp); simpa using this
  have U0 := Upd.refl hi
  have k25 := core_cell (In.core (x := []) hi) 25
  have y25 := core_frozen (In.core (x := []) hi) 25
  have p3 := (core_ptrs (In.core (x := []) hi)).2.2.1
  simp only [coreCells, List.getElem?_toArray, List.getElem?_cons_succ, List.getElem?_cons_zero, ptr] at k25 p3
  have hb2 : tl.length + 1 ≤ 1000000 := by omega
  have HF : Hid (∀ off', SliceH 3 1 (.slice (some ⟨g, off', none⟩) tl.length (cap - 1)) tl.length (ints tl) hw → ∃ h', CoreH pc L { s with row := tl } h' ∧ Upd (coreParts pc (coreObj L s (.slice (some ⟨g, off, none⟩) (tl.length + 1) cap)) ha' hy ho hr' hg ht hw).flatten h' w (w.setCell ⟨pc, 25, none⟩ (.slice (some ⟨g, off', none⟩) tl.length (cap - 1)))) := Lib.hid (by
    intro off' hS
    exact ⟨_, ⟨_, ha', hy, ho, hr', hg, ht, hw, rfl, ca, cy, co, cr, cg, ct, hS⟩, Upd.core (x := []) U0 25 _⟩)
  have HSZ := Lib.hid (fun W h (hW : In W h) (hc : CoreH pc L { s with row := tl } h) => core_size pc L { s with row := tl } a W h hW hc ok ha)
  have HTh := Lib.hid (fun (hq : (s.o.sizeAt a).isSome = true) W h (hW : In W h) (hc : CoreH pc L { s with row := tl } h) => minor_through pc L { s with row := tl } a W h hW hc ha (hm hq))
  have HP : Hid (∀ W h, In W h → CoreH pc L { s with row := tl } h → W.cell? ⟨pc, 15, none⟩ = some (.pointer (some ⟨L.po, 0, none⟩))) := Lib.hid (fun W h hW hc => (CoreH.ptrs (x := []) hc hW).2.2.1)
  clear ca cy co cr cg ct cw hi ea eu has hlen hm hin U0 hb hr p3
  generalize hOld : (coreParts pc (coreObj L s (.slice (some ⟨g, off, none⟩) (tl.length + 1) cap)) ha' hy ho hr' hg ht hw).flatten = hO at *
  clear hOld
  by_cases hc : 1 = cap
  · rw [if_pos hc] at hR
    subst hc
    obtain rfl : tl = [] := List.eq_nil_of_length_eq_zero (by omega)
    obtain ⟨h1, c1, u1⟩ := HF.out off hR
    have hsz := HSZ.out _ _ u1.inn c1
    have p3 := HP.out _ _ u1.inn c1
    have U1 := Lib.hid u1
    have C1 := Lib.hid c1
    have HTh2 := HTh
    clear u1 c1 hR HF HSZ HP HTh
    simp only [List.length_nil, Nat.zero_add] at *
    simp only [ptr] at *
    cases hq : (s.o.sizeAt a).isSome
    · rw [hq] at hsz
      have HN : Hid (s.rowN = 1) := Lib.hid (by rw [HRN.out, hq]; rfl)
      rw [HN.out]
      have HQ := Lib.hid hq
      clear hq
      go_enter Tryz.func54, Tryz.ntmps54
      go_wp2_with (go_at_call 91; refine Calls.mono hsz ?_; rintro e w2 ⟨rfl, u2⟩; have U2 := Lib.hid (U1.out.trans u2); clear u2 hsz)
      go_ret
      exact ⟨rfl, h1, by rw [HRS.out, HQ.out]; exact C1.out, U2.out⟩
    · rw [hq] at hsz
      have HN : Hid (s.rowN = (headS s.ws a).words) := Lib.hid (by rw [HRN.out, hq]; rfl)
      rw [HN.out]
      have HTh3 := Lib.hid (HTh2.out hq)
      have HQ := Lib.hid hq
      clear hq HTh2
      go_enter Tryz.func54, Tryz.ntmps54
      go_wp2_with (first
        | (go_at_call 91; refine Calls.mono hsz ?_; rintro e w2 ⟨rfl, u2⟩; have U2 := Lib.hid (U1.out.trans u2); clear u2 hsz)
        | (go_at_call 59; refine Calls.mono (HTh3.out _ _ U2.out.inn C1.out) ?_; rintro e w4 ⟨rfl, h4, c4, u4⟩; have U4 := Lib.hid (U2.out.trans u4); have C4 := Lib.hid c4; clear u4 c4))
      go_ret
      exact ⟨rfl, h4, by rw [HRS.out, HQ.out]; exact C4.out, U4.out⟩
  · rw [if_neg hc] at hR
    obtain ⟨h1, c1, u1⟩ := HF.out (off + 1) hR
    have hsz := HSZ.out _ _ u1.inn c1
    have p3 := HP.out _ _ u1.inn c1
    have U1 := Lib.hid u1
    have C1 := Lib.hid c1
    have HTh2 := HTh
    clear u1 c1 hR HF HSZ HP HTh
    simp only [List.length_nil, Nat.zero_add] at *
    simp only [ptr] at *
    cases hq : (s.o.sizeAt a).isSome
    · rw [hq] at hsz
      have HN : Hid (s.rowN = 1) := Lib.hid (by rw [HRN.out, hq]; rfl)
      rw [HN.out]
      have HQ := Lib.hid hq
      clear hq
      go_enter Tryz.func54, Tryz.ntmps54
      go_wp2_with (go_at_call 91; refine Calls.mono hsz ?_; rintro e w2 ⟨rfl, u2⟩; have U2 := Lib.hid (U1.out.trans u2); clear u2 hsz)
      go_ret
      exact ⟨rfl, h1, by rw [HRS.out, HQ.out]; exact C1.out, U2.out⟩
    · rw [hq] at hsz
      have HN : Hid (s.rowN = (headS s.ws a).words) := Lib.hid (by rw [HRN.out, hq]; rfl)
      rw [HN.out]
      have HTh3 := Lib.hid (HTh2.out hq)
      have HQ := Lib.hid hq
      clear hq HTh2
      go_enter Tryz.func54, Tryz.ntmps54
      go_wp2_with (first
        | (go_at_call 91; refine Calls.mono hsz ?_; rintro e w2 ⟨rfl, u2⟩; have U2 := Lib.hid (U1.out.trans u2); clear u2 hsz)
        | (go_at_call 59; refine Calls.mono (HTh3.out _ _ U2.out.inn C1.out) ?_; rintro e w4 ⟨rfl, h4, c4, u4⟩; have U4 := Lib.hid (U2.out.trans u4); have C4 := Lib.hid c4; clear u4 c4))
      go_ret
      exact ⟨rfl, h4, by rw [HRS.out, HQ.out]; exact C4.out, U4.out⟩

end Go.Proofs.YtjjdjipohifgbaaGreat

/- What part and finish of package minor come to. Conditions: a core whose parts are as New makes them; what each move asks. -/
namespace Go.Proofs.YtjjdjipohifgbaaGreat
open Go.RowKit

theorem core_starts (pc : Nat) (L : CoreL) (s : CoreS) (lo hi : Int) (w : World) (h : Hp) (hw : In w h) (hc : CoreH pc L s h) (ok : s.o.Ok) :
    Calls Tryz.prog 96 #[.pointer (some ⟨L.po, 0, none⟩), .int .i64 lo, .int .i64 hi] w fun e w' => ∃ v h', e = .returned v ∧ SliceH 3 1 v (s.o.starts lo hi).length (ints (s.o.starts lo hi)) h' ∧ Upd h (h' ++ h) w w' := by
  obtain ⟨v, ha', hy, ho, hr, hg, ht, hw', rfl, ca, cy, co, cr, cg, ct, cw⟩ := hc
  refine Calls.mono (mature_Starts L.po s.o lo hi w ho (In.old (x := []) hw) co ok) fun e w' hh => ?_
  obtain ⟨v', h', he, hs, u⟩ := hh
  refine ⟨v', h', he, hs, ?_⟩
  have p := flatten_perm_get (l := coreParts pc (coreObj L s v) ha' hy ho hr hg ht hw') (i := 3) (x := ho) rfl
  have u2 := u.beside (k := ((coreParts pc (coreObj L s v) ha' hy ho hr hg ht hw').eraseIdx 3).flatten) (hw.perm p)
  refine u2.perm p.symm ?_
  rw [List.append_assoc]
  exact p.symm.append_left h'

def CoreS.partS (s : CoreS) (l : List Int) : CoreS := l.foldl CoreS.notedS s
def partN : CoreS → List Int → Int
  | _, [] => 0
  | s, a :: l => s.notedN a + partN (s.notedS a) l
theorem partS_snoc (s : CoreS) (l : List Int) (a : Int) : s.partS (l ++ [a]) = (s.partS l).notedS a := by simp [CoreS.partS]
theorem partN_snoc : ∀ (l : List Int) (s : CoreS) (a : Int), partN s (l ++ [a]) = partN s l + (s.partS l).notedN a
  | [], s, a => by simp [partN, CoreS.partS]
  | b :: l, s, a => by
    have := partN_snoc l (s.notedS b) a
    simp only [List.cons_append, partN, this]
    rw [Int.add_assoc]
    rfl
theorem notedN_bounds (s : CoreS) (a : Int) : 0 ≤ s.notedN a ∧ s.notedN a ≤ 66 := by
  unfold CoreS.notedN
  split
  · obtain ⟨g1, g2, _⟩ := unH_good (ldW (s.unnote a).ws a)
    have : (headS (s.unnote a).ws a).words = (unH (ldW (s.unnote a).ws a)).size + 2 := rfl
    omega
  · omega
theorem partN_bounds : ∀ (l : List Int) (s : CoreS), 0 ≤ partN s l ∧ partN s l ≤ l.length * 66
  | [], s => by simp [partN]
  | a :: l, s => by
    have := partN_bounds l (s.notedS a)
    have := notedN_bounds s a
    simp only [partN, List.length_cons]
    omega
/-- what part asks -/
def CoreS.PartOk (s : CoreS) (l : List Int) : Prop := ∀ (j : Nat) (a : Int), l[j]? = some a → (s.partS (l.take j)).o.Ok ∧ I64 a ∧ ((s.partS (l.take j)).isNoted a = true → ((s.partS (l.take j)).unnote a).ThrOk a)

set_option maxRecDepth 100000 in
set_option maxHeartbeats 2000000 in
theorem minor_part (pc : Nat) (L : CoreL) (s : CoreS) (lo hi : Int) (w : World) (h : Hp) (hw : In w h) (hc : CoreH pc L s h) (ok : s.o.Ok) (hm : s.PartOk (s.o.starts lo hi)) :
    Calls Tryz.prog 56 #[ptr pc, .int .i64 lo, .int .i64 hi] w fun e w' => e = .returned (.int .i64 (partN s (s.o.starts lo hi))) ∧ ∃ h', CoreH pc L (s.partS (s.o.starts lo hi)) h' ∧ Upd h h' w w' := by
  have hst := core_starts pc L s lo hi w h hw hc ok
  have p3 := (CoreH.ptrs (x := []) hc hw).2.2.1
  have hlen : (s.o.starts lo hi).length ≤ 16384 := by
    have h1 := startsL_len ok lo hi s.o.pages.length
    obtain ⟨v, ha', hy, ho, hr, hg, ht, hw', rfl, ca, cy, co, cr, cg, ct, cw⟩ := hc
    obtain ⟨b, rows, m⟩ := co.rows
    obtain ⟨a1, a2, a3, a4, a5⟩ := m.2.2.2
    show (s.o.startsL lo hi s.o.pages.length).length ≤ _
    omega
  generalize hl : s.o.starts lo hi = l at *
  have HM := Lib.hid hm
  have HNo := Lib.hid (fun s a W h (hW : In W h) (hc : CoreH pc L s h) (ok : s.o.Ok) (ha : I64 a) (hm : s.isNoted a = true → (s.unnote a).ThrOk a) => minor_noted pc L s a W h hW hc ok ha hm)
  have HC := Lib.hid hc
  have HPB := Lib.hid (fun j => partN_bounds (l.take j) s)
  have HS0 : Hid (s.partS (l.take 0) = s ∧ partN s (l.take 0) = 0) := Lib.hid ⟨rfl, rfl⟩
  clear hm hc hl ok
  simp only [ptr] at *
  go_enter Tryz.func56, Tryz.ntmps56
  go_wp2_with (go_at_call 96; refine Calls.mono hst ?_; rintro e w2 ⟨v2, h2, rfl, s2, u2⟩; have HU2 := Lib.hid u2; obtain ⟨ao2, cap2, rfl, hcap2⟩ := s2.shape; have HS2 := Lib.hid s2; clear s2 u2 hst)
  go_loopw [7, 18] (fun v i wr => ∃ j : Nat, j ≤ l.length ∧ i = .int .i64 j ∧ v = .int .i64 (partN s (l.take j)) ∧ Hid (∃ h', CoreH pc L (s.partS (l.take j)) h' ∧ Upd h (h2 ++ h') w wr)) (fun _ i _ => l.length - (intOf i).toNat)
  case atStart => exact ⟨0, by omega, rfl, by rw [HS0.out.2], Lib.hid ⟨h, by rw [HS0.out.1]; exact HC.out, HU2.out⟩⟩
  case round =>
    obtain ⟨j, hj, rfl, rfl, HJ⟩ := hrel
    obtain ⟨b0, b1⟩ := HPB.out j
    have hl4 : (l.take j).length ≤ j := List.length_take_le _ _
    by_cases hjl : j < l.length
    · obtain ⟨hk, ck, uk⟩ := HJ.out
      obtain ⟨gb, off, rfl, hcj⟩ := SliceH.intAt (kd := .i64) HS2.out uk.inn.left hjl
      have hgj : l[j]? = some (l.getD j 0) := by simp [List.getD, hjl]
      obtain ⟨o1, o2, o3⟩ := HM.out j _ hgj
      have hnd := HNo.out (s.partS (l.take j)) (l.getD j 0) wr hk uk.inn.right ck o1 o2 o3
      obtain ⟨nb0, nb1⟩ := notedN_bounds (s.partS (l.take j)) (l.getD j 0)
      have et : l.take (j + 1) = l.take j ++ [l.getD j 0] := by
        rw [List.take_succ_eq_append_getElem hjl]
        simp [List.getD, hjl]
      have HT : Hid (s.partS (l.take (j + 1)) = (s.partS (l.take j)).notedS (l.getD j 0)) := Lib.hid (by rw [et, partS_snoc])
      have HN : Hid (partN s (l.take (j + 1)) = partN s (l.take j) + (s.partS (l.take j)).notedN (l.getD j 0)) := Lib.hid (by rw [et, partN_snoc])
      have HUk := Lib.hid uk
      clear o1 o2 o3 et hgj ck uk HJ
      generalize s.partS (l.take j) = S at *
      generalize l.getD j 0 = a at *
      generalize S.notedN a = na at *
      generalize partN s (l.take j) = pn at *
      go_wp2_with (go_at_call 57; refine Calls.mono hnd ?_; rintro e w5 ⟨rfl, h5, c5, u5⟩; have HU5 := Lib.hid (Upd.onRight HUk.out u5); have HC5 := Lib.hid c5; clear u5 c5 hnd)
      go_roundw
      case rel => exact ⟨j + 1, by omega, by go_num, by first | (rw [HN.out]; done) | (rw [HN.out]; go_num), Lib.hid ⟨h5, by rw [HT.out]; exact HC5.out, HU5.out⟩⟩
      case measure => simp [intOf]; omega
    · have e : l.take j = l := List.take_of_length_le (by omega)
      rw [e] at HJ
      have HE := Lib.hid e
      clear e
      rw [HE.out] at *
      go_wp2
      go_ret
      obtain ⟨hk, ck, uk⟩ := HJ.out
      exact ⟨rfl, hk, ck, uk.forget (List.sublist_append_right _ _)⟩

/-- From, called from outside -/
theorem core_from (pc : Nat) (L : CoreL) (s : CoreS) (a : Int) (w : World) (h : Hp) (hi : In w h) (hc : CoreH pc L s h) (ha : I64 a) :
    Calls Tryz.prog 23 #[.pointer (some ⟨L.py, 0, none⟩), .int .i64 a] w fun e w' => e = .returned (.bool (s.y.isFrom a)) ∧ Upd h h w w' := by
  obtain ⟨v, ha', hy, ho, hr, hg, ht, hw, rfl, ca, cy, co, cr, cg, ct, cw⟩ := hc
  exact Calls.mono (bump_from L.py s.y a w hy (In.young (x := []) hi) cy ha) fun e w' hh => ⟨hh.1, Upd.young (x := []) (Upd.refl hi) hh.2⟩
theorem core_greyall (pc : Nat) (L : CoreL) (s : CoreS) (w : World) (h : Hp) (hi : In w h) (hc : CoreH pc L s h) :
    Calls Tryz.prog 99 #[.pointer (some ⟨L.pg, 0, none⟩)] w fun e w' => ∃ v h', e = .returned v ∧ SliceH 3 1 v s.g.list.length (ints s.g.list) h' ∧ Upd [] h' w w' := by
  obtain ⟨v, ha', hy, ho, hr, hg, ht, hw, rfl, ca, cy, co, cr, cg, ct, cw⟩ := hc
  exact grey_all L.pg s.g w hg (In.grey (x := []) hi) cg
theorem core_put (pc : Nat) (L : CoreL) (s : CoreS) (v : Value) (n : Nat) (l : List Int) (w : World) (h k : Hp) (hi : In w (k ++ h)) (hc : CoreH pc L s h) (hv : SliceH 3 1 v n (ints l) k) (hx : ∀ x ∈ l, I64 x) (hn : n ≤ 1048576) :
    Calls Tryz.prog 100 #[.pointer (some ⟨L.pg, 0, none⟩), v] w fun e w' => e = .returned (.tuple #[]) ∧ ∃ h', CoreH pc L { s with g := s.g.put l } h' ∧ Upd (k ++ h) (k ++ h') w w' := by
  obtain ⟨v0, ha', hy, ho, hr, hg, ht, hw, rfl, ca, cy, co, cr, cg, ct, cw⟩ := hc
  have p := flatten_perm_get (l := coreParts pc (coreObj L s v0) ha' hy ho hr hg ht hw) (i := 5) (x := hg) rfl
  have p2 : (k ++ (coreParts pc (coreObj L s v0) ha' hy ho hr hg ht hw).flatten).Perm ((k ++ hg) ++ ((coreParts pc (coreObj L s v0) ha' hy ho hr hg ht hw).eraseIdx 5).flatten) := by
    rw [List.append_assoc]
    exact p.append_left k
  have hin := hi.perm p2
  refine Calls.mono (grey_put L.pg s.g v n l w hg k hin.left cg hv hx hn) fun e w' hh => ?_
  obtain ⟨he, hg', cg', u⟩ := hh
  have u2 := u.beside hin
  have q := flatten_perm_set (l := coreParts pc (coreObj L s v0) ha' hy ho hr hg ht hw) (i := 5) (x := hg) hg' rfl
  refine ⟨he, _, ⟨v0, ha', hy, ho, hr, hg', ht, hw, rfl, ca, cy, co, cr, cg', ct, cw⟩, u2.perm p2.symm ?_⟩
  rw [List.append_assoc]
  exact (q.append_left k).symm
theorem core_drop (pc : Nat) (L : CoreL) (s : CoreS) (w : World) (h : Hp) (hi : In w h) (hc : CoreH pc L s h) :
    Calls Tryz.prog 101 #[.pointer (some ⟨L.py, 0, none⟩)] w fun e w' => e = .returned (.bool s.y.dropOk) ∧ ∃ h', CoreH pc L { s with y := s.y.drop } h' ∧ Upd h h' w w' := by
  obtain ⟨v, ha', hy, ho, hr, hg, ht, hw, rfl, ca, cy, co, cr, cg, ct, cw⟩ := hc
  refine Calls.mono (bump_drop L.py s.y w hy (In.young (x := []) hi) cy) fun e w' hh => ?_
  obtain ⟨he, hy', cy', u⟩ := hh
  exact ⟨he, _, ⟨v, ha', hy', ho, hr, hg, ht, hw, rfl, ca, cy', co, cr, cg, ct, cw⟩, Upd.young (x := []) (Upd.refl hi) u⟩

end Go.Proofs.YtjjdjipohifgbaaGreat

/- What finish of package minor comes to. Conditions: a core whose parts are as New makes them. -/
namespace Go.Proofs.YtjjdjipohifgbaaGreat
open Go.RowKit

/-- what stays of the stack when the half that is emptied goes -/
def CoreS.greyLeft (s : CoreS) (l : List Int) : List Int := (l.map s.now).filter fun t => !s.y.isFrom t
def CoreS.finishS (s : CoreS) : CoreS := { s with g := s.g.put (s.greyLeft s.g.list), y := s.y.drop, moving := false, copied := 0, done := { s.done with minors := wrap64 (s.done.minors + 1) } }
theorem greyLeft_len (s : CoreS) (l : List Int) : (s.greyLeft l).length ≤ l.length := by
  unfold CoreS.greyLeft
  have := List.length_filter_le (fun t => !s.y.isFrom t) (l.map s.now)
  simpa using this
theorem greyLeft_take (s : CoreS) (l : List Int) (j : Nat) (h : j < l.length) : s.greyLeft (l.take (j + 1)) = s.greyLeft (l.take j) ++ (if s.y.isFrom (s.now (l.getD j 0)) = false then [s.now (l.getD j 0)] else []) := by
  unfold CoreS.greyLeft
  rw [List.take_succ_eq_append_getElem h, List.map_append, List.filter_append]
  have e : l.getD j 0 = l[j] := by simp [List.getD, h]
  rw [e]
  cases hq : s.y.isFrom (s.now l[j]) <;> simp [hq]

set_option maxRecDepth 100000 in
set_option maxHeartbeats 4000000 in
theorem minor_finish (pc : Nat) (L : CoreL) (s : CoreS) (w : World) (h : Hp) (hi : In w h) (hc : CoreH pc L s h) :
    Calls Tryz.prog 60 #[ptr pc] w fun e w' => e = .returned (.tuple #[]) ∧ ∃ h', CoreH pc L s.finishS h' ∧ Upd h h' w w' := by
  have hall := core_greyall pc L s w h hi hc
  have hgw : s.g.list.length ≤ 1048576 ∧ ∀ x ∈ s.g.list, I64 x := by
    obtain ⟨v, ha', hy, ho, hr, hg, ht, hw, rfl, ca, cy, co, cr, cg, ct, cw⟩ := hc
    obtain ⟨v, hs, rfl, hS, w1, w2, w3, w4⟩ := cg
    exact ⟨by omega, w4⟩
  obtain ⟨hgl, hgi⟩ := hgw
  have HP : Hid (∀ (S : CoreS) W k h, In W (k ++ h) → CoreH pc L S h → W.cell? ⟨pc, 14, none⟩ = some (.pointer (some ⟨L.py, 0, none⟩)) ∧ W.cell? ⟨pc, 17, none⟩ = some (.pointer (some ⟨L.pg, 0, none⟩))) := Lib.hid (fun S W k h hW hc => ⟨(CoreH.ptrs hc hW).2.1, (CoreH.ptrs hc hW).2.2.2.2.1⟩)
  have p5 := (HP.out s w [] h hi hc).2
  have HNow := Lib.hid (fun a W h (hW : In W h) (hc : CoreH pc L s h) (ha : I64 a) => core_now pc L s a W h hW hc ha)
  have HFr := Lib.hid (fun a W h (hW : In W h) (hc : CoreH pc L s h) (ha : I64 a) => core_from pc L s a W h hW hc ha)
  have HPut := Lib.hid (fun v n l W h k (hW : In W (k ++ h)) (hc : CoreH pc L s h) hv hx hn => core_put pc L s v n l W h k hW hc hv hx hn)
  have HDr := Lib.hid (fun (S : CoreS) W h (hW : In W h) (hc : CoreH pc L S h) => core_drop pc L S W h hW hc)
  have HI := Lib.hid (fun x (hx : x ∈ s.g.list) => hgi x hx)
  have HNI := Lib.hid (fun x (hx : I64 x) => s.now_I64 hx)
  have HLI : Hid (∀ x ∈ s.greyLeft s.g.list, I64 x) := Lib.hid (by
    intro x hx
    unfold CoreS.greyLeft at hx
    obtain ⟨y, hy, rfl⟩ := List.mem_map.1 (List.mem_filter.1 hx).1
    exact s.now_I64 (hgi y hy))
  have HLl := Lib.hid (greyLeft_len s s.g.list)
  have HGT := Lib.hid (fun j (hj : j < s.g.list.length) => greyLeft_take s s.g.list j hj)
  have HGl := Lib.hid (fun j => greyLeft_len s (s.g.list.take j))
  have H0 : Hid (s.greyLeft (s.g.list.take 0) = []) := Lib.hid rfl
  have HC := Lib.hid hc
  have HIn0 := Lib.hid hi
  have HRes : Hid (∀ h, CoreH pc L { s with g := s.g.put (s.greyLeft s.g.list), y := s.y.drop, moving := false, copied := 0, done := { s.done with minors := wrap64 (s.done.minors + 1) } } h → CoreH pc L s.finishS h) := Lib.hid (fun _ hh => hh)
  clear hc hi hgi
  generalize hl : s.g.list = l at *
  have HL := Lib.hid hl
  clear hl
  simp only [ptr] at *
  go_enter Tryz.func60, Tryz.ntmps60
  go_wp2_with (go_at_call 99; refine Calls.mono hall ?_; rintro e w2 ⟨v2, h2, rfl, s2, u2⟩; have HU2 := Lib.hid ((Upd.refl (HIn0.out)).more u2); obtain ⟨ao2, cap2, rfl, hcap2⟩ := s2.shape; have HS2 := Lib.hid s2; clear s2 u2 hall)
  go_loopw [2, 12] (fun v i wr => ∃ (j : Nat) (vv : Value), j ≤ l.length ∧ i = .int .i64 j ∧ vv = v ∧ Hid (∃ hX h', SliceH 3 1 vv (s.greyLeft (l.take j)).length (ints (s.greyLeft (l.take j))) hX ∧ CoreH pc L s h' ∧ Upd h (hX ++ (h2 ++ h')) w wr)) (fun _ i _ => l.length - (intOf i).toNat)
  case atStart => exact ⟨0, _, by omega, rfl, rfl, Lib.hid ⟨[], h, by rw [H0.out]; exact SliceH.nil _ _, HC.out, HU2.out⟩⟩
  case round =>
    obtain ⟨j, vv, hj, rfl, rfl, HJ⟩ := hrel
    by_cases hjl : j < l.length
    · obtain ⟨hX, hk, S, ck, uk⟩ := HJ.out
      obtain ⟨gb, off, rfl, hcj⟩ := SliceH.intAt (kd := .i64) HS2.out uk.inn.right.left hjl
      have hai : I64 (l.getD j 0) := HI.out _ (by simp [List.getD, hjl])
      have hgt := HGT.out j hjl
      have hgl2 := HGl.out j
      have hl4 : (l.take j).length ≤ j := List.length_take_le _ _
      have hnow := HNow.out (l.getD j 0) wr hk uk.inn.right.right ck hai
      have hni := HNI.out _ hai
      have HUk := Lib.hid uk
      have HS := Lib.hid S
      obtain ⟨ao', cap', rfl, hcap'⟩ := S.shape
      have HFr2 := Lib.hid (fun W h (hW : In W h) (hc : CoreH pc L s h) => HFr.out _ W h hW hc hni)
      clear uk ck S HJ
      generalize l.getD j 0 = a at *
      generalize s.now a = T at *
      cases hf : s.y.isFrom T
      · rw [if_pos hf] at hgt
        rw [hf] at HFr2
        have HSx : Hid (∀ v' hX', SliceH 3 1 v' ((s.greyLeft (l.take j)).length + 1) (ints (s.greyLeft (l.take j)) ++ [.int .i64 T]) hX' → SliceH 3 1 v' (s.greyLeft (l.take (j + 1))).length (ints (s.greyLeft (l.take (j + 1)))) hX') := Lib.hid (by
          intro v' hX' h1
          rw [hgt]
          simpa [ints] using h1)
        generalize hm : (s.greyLeft (l.take j)).length = m at *
        generalize hxs : ints (s.greyLeft (l.take j)) = xs at *
        clear hgt hf hm hxs
        go_wp2_with (first
          | (go_at_call 24; refine Calls.mono hnow ?_; rintro e w5 ⟨rfl, h5, c5, u5⟩; have HU5 := Lib.hid (Upd.onRight (k := hX) HUk.out (Upd.onRight (k := h2) (Upd.refl HUk.out.inn.right) u5)); have HC5 := Lib.hid c5; have p2 := (HP.out s w5 [] h5 u5.inn c5).1; clear u5 c5 hnow)
          | (go_at_call 23; refine Calls.mono (HFr2.out _ _ HU5.out.inn.right.right HC5.out) ?_; rintro e w6 ⟨rfl, u6⟩; have HU6 := Lib.hid ((Upd.onRight (k := hX) HU5.out (Upd.onRight (k := h2) (Upd.refl HU5.out.inn.right) u6)).skip' (.cells #[.int .i64 T] 3 (0, 0))); have HN := Lib.hid (news_of (news := [.int .i64 T]) (w := w6.alloc (.cells #[.int .i64 T] 3 (0, 0))) (b := w6.heap.size) (T := 3) (fr := (0, 0)) (heap_alloc_at rfl)); clear u6)
          | (at_builtin; refine wpList_append_mine rfl (.tmp 26) (.tmp 28) 42 rfl 3 1 8 (.int .i64 0) Tryz.underlying42 Tryz.infoInt rfl (by decide) (.slice ao' m cap') m xs hX rfl HS.out HU6.out.inn.left ⟨w6.heap.size, 0, none⟩ 1 1 [.int .i64 T] rfl HN.out rfl (by intro u hu; simp at hu; subst hu; rfl) (Or.inl (by decide)) (by unfold maxLen; omega) (by omega) ?_; intro v' w7 hX' hS' hU'; have S7 := Lib.hid (HSx.out _ _ hS'); have U7 := Lib.hid (HU6.out.trans (hU'.beside HU6.out.inn)); clear hS' hU'))
        go_roundw
        case rel => exact ⟨j + 1, _, by omega, by go_num, rfl, Lib.hid ⟨hX', h5, S7.out, HC5.out, U7.out⟩⟩
        case measure => simp [intOf]; omega
      · rw [if_neg (by rw [hf]; decide), List.append_nil] at hgt
        rw [hf] at HFr2
        have HG := Lib.hid hgt
        clear hgt hf
        go_wp2_with (first
          | (go_at_call 24; refine Calls.mono hnow ?_; rintro e w5 ⟨rfl, h5, c5, u5⟩; have HU5 := Lib.hid (Upd.onRight (k := hX) HUk.out (Upd.onRight (k := h2) (Upd.refl HUk.out.inn.right) u5)); have HC5 := Lib.hid c5; have p2 := (HP.out s w5 [] h5 u5.inn c5).1; clear u5 c5 hnow)
          | (go_at_call 23; refine Calls.mono (HFr2.out _ _ HU5.out.inn.right.right HC5.out) ?_; rintro e w6 ⟨rfl, u6⟩; have HU6 := Lib.hid (Upd.onRight (k := hX) HU5.out (Upd.onRight (k := h2) (Upd.refl HU5.out.inn.right) u6)); clear u6))
        go_roundw
        case rel => exact ⟨j + 1, _, by omega, by go_num, rfl, Lib.hid ⟨hX, h5, by rw [HG.out]; exact HS.out, HC5.out, HU6.out⟩⟩
        case measure => simp [intOf]; omega
    · obtain ⟨hX, hk, S, ck, uk⟩ := HJ.out
      rw [List.take_of_length_le (by omega)] at S
      have uk2 : Upd h (hX ++ hk) w wr := uk.forget (List.Sublist.append_left (List.sublist_append_right _ _) hX)
      have hlX := HLl.out
      have p5 := (HP.out s wr hX hk uk2.inn ck).2
      have hput := HPut.out vv (s.greyLeft l).length (s.greyLeft l) wr hk hX uk2.inn ck S HLI.out (by omega)
      have HU := Lib.hid uk2
      clear uk uk2 ck S HJ
      go_wp2_with (first
        | (go_at_call 100; refine Calls.mono hput ?_; rintro e w5 ⟨rfl, h5, c5, u5⟩; have HU5 := Lib.hid ((HU.out.trans u5).forget (List.sublist_append_right _ _)); have HC5 := Lib.hid c5; have p2 := (HP.out _ w5 [] h5 HU5.out.inn c5).1; clear u5 c5 hput)
        | (go_at_call 101; refine Calls.mono (HDr.out _ _ _ HU5.out.inn HC5.out) ?_; rintro e w6 ⟨rfl, h6, ⟨v6, ha6, hy6, ho6, hr6, hg6, ht6, hw6, rfl, ca6, cy6, co6, cr6, cg6, ct6, cw6⟩, u6⟩; have HU6 := Lib.hid (HU5.out.trans u6);
            have k21 := core_cell (In.core (x := []) HU6.out.inn) 21; have k23 := core_cell (In.core (x := []) HU6.out.inn) 23; have k29 := core_cell (In.core (x := []) HU6.out.inn) 29;
            have y21 := core_frozen (In.core (x := []) HU6.out.inn) 21; have y23 := core_frozen (In.core (x := []) HU6.out.inn) 23; have y29 := core_frozen (In.core (x := []) HU6.out.inn) 29;
            simp only [coreCells, List.getElem?_toArray, List.getElem?_cons_succ, List.getElem?_cons_zero] at k21 k23 k29; clear u6))
      go_end0
      have U9 := Upd.cset_minors (x := []) (Upd.cset_copied (x := []) (Upd.cset_moving (x := []) HU6.out false) 0) (wrap64 (s.done.minors + 1))
      exact ⟨rfl, _, HRes.out _ ⟨v6, ha6, hy6, ho6, hr6, hg6, ht6, hw6, rfl, ca6, cy6, co6, cr6, cg6, ct6, cw6⟩, U9⟩

end Go.Proofs.YtjjdjipohifgbaaGreat

/- What Step of package minor comes to. Conditions: a core whose parts are as New makes them; what each move asks. -/
namespace Go.Proofs.YtjjdjipohifgbaaGreat
open Go.RowKit

def CoreS.popBuf (s : CoreS) : CoreS := { s with r := { s.r with tb := s.r.tb.rest } }
def CoreS.popCard (s : CoreS) (n : Nat) : CoreS := { s with r := { s.r with tb := s.r.tb.rest, tc := s.r.tc.clr n } }
def CoreS.cardStarts (s : CoreS) (n : Nat) : List Int := s.o.starts (s.r.tc.partLo n) (s.r.tc.partHi n)
def CoreS.scanN (s : CoreS) : Int := (headS s.ws s.scan).words
def CoreS.scanOk (s : CoreS) : Bool := decide (s.scan < s.y.cf + s.y.cu)
def CoreS.scanS (s : CoreS) : CoreS := { s.through s.scan with scan := wrap64 (s.scan + s.scanN) }

inductive StepW where
  | none | row | buf (x : Int) | card (n : Nat) | scan | finish
/-- which bit is next -/
def CoreS.which (s : CoreS) : StepW :=
  if s.moving = false then .none
  else if 0 < s.row.length then .row
  else match s.r.tb.list with
    | x :: _ => .buf x
    | [] => match s.r.tc.first with
      | some n => .card n
      | none => if s.scanOk = true then .scan else .finish
def CoreS.stepOf (s : CoreS) : StepW → CoreS
  | .none => s
  | .row => s.rowS
  | .buf x => s.popBuf.notedS x
  | .card n => (s.popCard n).partS (s.cardStarts n)
  | .scan => s.scanS
  | .finish => s.finishS
def CoreS.stepNOf (s : CoreS) : StepW → Int
  | .none => 0
  | .row => s.rowN + 1
  | .buf x => s.popBuf.notedN x + 1
  | .card n => partN (s.popCard n) (s.cardStarts n) + 1
  | .scan => s.scanN
  | .finish => 2
def stepBOf : StepW → Bool
  | .none => false
  | .finish => false
  | _ => true
def CoreS.minStep (s : CoreS) : CoreS := s.stepOf s.which
def CoreS.minN (s : CoreS) : Int := s.stepNOf s.which
def CoreS.minB (s : CoreS) : Bool := stepBOf s.which
/-- what a bit asks -/
def CoreS.StepOk (s : CoreS) : Prop := s.o.Ok ∧ s.row.length ≤ 1000000 ∧ (match s.which with
  | .none => True
  | .row => I64 s.rowHd ∧ ((s.o.sizeAt s.rowHd).isSome = true → s.unrow.ThrOk s.rowHd)
  | .buf x => I64 x ∧ (s.popBuf.isNoted x = true → (s.popBuf.unnote x).ThrOk x)
  | .card n => (s.popCard n).PartOk (s.cardStarts n)
  | .scan => I64 s.scan ∧ s.ThrOk s.scan
  | .finish => True)

theorem core_next_buf (pc : Nat) (L : CoreL) (s : CoreS) (w : World) (h : Hp) (hi : In w h) (hc : CoreH pc L s h) (x : Int) (xs : List Int) (ht0 : s.r.tb.list = x :: xs) :
    Calls Tryz.prog 55 #[.pointer (some ⟨L.pr, 0, none⟩)] w fun e w' => e = .returned (.tuple #[.int .i64 x, .int .i64 (wrap64 (x + 1)), .bool false, .bool true]) ∧ ∃ h', CoreH pc L s.popBuf h' ∧ Upd h h' w w' := by
  obtain ⟨v, ha', hy, ho, hr, hg, ht, hw, rfl, ca, cy, co, cr, cg, ct, cw⟩ := hc
  refine Calls.mono (rem_next_buf L.pr s.r w hr (In.rem (x := []) hi) cr x xs ht0) fun e w' hh => ?_
  obtain ⟨he, hr', cr', u⟩ := hh
  exact ⟨he, _, ⟨v, ha', hy, ho, hr', hg, ht, hw, rfl, ca, cy, co, cr', cg, ct, cw⟩, Upd.rem (x := []) (Upd.refl hi) u⟩

theorem core_next_none (pc : Nat) (L : CoreL) (s : CoreS) (w : World) (h : Hp) (hi : In w h) (hc : CoreH pc L s h) (ht0 : s.r.tb.list = []) (hc0 : s.r.tc.first = none) :
    Calls Tryz.prog 55 #[.pointer (some ⟨L.pr, 0, none⟩)] w fun e w' => e = .returned (.tuple #[.int .i64 0, .int .i64 0, .bool false, .bool false]) ∧ ∃ h', CoreH pc L s.popBuf h' ∧ Upd h h' w w' := by
  obtain ⟨v, ha', hy, ho, hr, hg, ht, hw, rfl, ca, cy, co, cr, cg, ct, cw⟩ := hc
  refine Calls.mono (rem_next_none L.pr s.r w hr (In.rem (x := []) hi) cr ht0 hc0) fun e w' hh => ?_
  obtain ⟨he, hr', cr', u⟩ := hh
  exact ⟨he, _, ⟨v, ha', hy, ho, hr', hg, ht, hw, rfl, ca, cy, co, cr', cg, ct, cw⟩, Upd.rem (x := []) (Upd.refl hi) u⟩

theorem core_next_card (pc : Nat) (L : CoreL) (s : CoreS) (w : World) (h : Hp) (hi : In w h) (hc : CoreH pc L s h) (n : Nat) (ht0 : s.r.tb.list = []) (hc0 : s.r.tc.first = some n) :
    Calls Tryz.prog 55 #[.pointer (some ⟨L.pr, 0, none⟩)] w fun e w' => e = .returned (.tuple #[.int .i64 (s.r.tc.partLo n), .int .i64 (s.r.tc.partHi n), .bool true, .bool true]) ∧ ∃ h', CoreH pc L (s.popCard n) h' ∧ Upd h h' w w' := by
  obtain ⟨v, ha', hy, ho, hr, hg, ht, hw, rfl, ca, cy, co, cr, cg, ct, cw⟩ := hc
  refine Calls.mono (rem_next_card L.pr s.r w hr (In.rem (x := []) hi) cr n ht0 hc0) fun e w' hh => ?_
  obtain ⟨he, hr', cr', u⟩ := hh
  exact ⟨he, _, ⟨v, ha', hy, ho, hr', hg, ht, hw, rfl, ca, cy, co, cr', cg, ct, cw⟩, Upd.rem (x := []) (Upd.refl hi) u⟩

theorem popBuf_nil {s : CoreS} (h : s.r.tb.list = []) : s.popBuf = s := by
  unfold CoreS.popBuf BufS.rest
  rw [h]
  rcases s with ⟨C, ws, y, o, ⟨r1, r2, r3, r4, r5, r6, ⟨m, l⟩, r8⟩, g, t, p1, p2, p3, p4, p5, p6, p7, p8⟩
  simp only at h
  subst h
  rfl
theorem core_begin (pc : Nat) (L : CoreL) (s : CoreS) (w : World) (h : Hp) (hi : In w h) (hc : CoreH pc L s h) :
    Calls Tryz.prog 52 #[.pointer (some ⟨L.py, 0, none⟩)] w fun e w' => e = .returned (.tuple #[.int .i64 s.y.cf, .int .i64 s.y.of]) ∧ Upd h h w w' := by
  obtain ⟨v, ha', hy, ho, hr, hg, ht, hw, rfl, ca, cy, co, cr, cg, ct, cw⟩ := hc
  exact Calls.mono (bump_begin L.py s.y w hy (In.young (x := []) hi) cy) fun e w' hh => ⟨hh.1, Upd.young (x := []) (Upd.refl hi) hh.2⟩
theorem core_usedY (pc : Nat) (L : CoreL) (s : CoreS) (w : World) (h : Hp) (hi : In w h) (hc : CoreH pc L s h) :
    Calls Tryz.prog 58 #[.pointer (some ⟨L.py, 0, none⟩)] w fun e w' => e = .returned (.int .i64 s.y.cu) ∧ Upd h h w w' := by
  obtain ⟨v, ha', hy, ho, hr, hg, ht, hw, rfl, ca, cy, co, cr, cg, ct, cw⟩ := hc
  exact Calls.mono (bump_used L.py s.y w hy (In.young (x := []) hi) cy) fun e w' hh => ⟨hh.1, Upd.young (x := []) (Upd.refl hi) hh.2⟩
theorem CoreH.stepFacts {pc : Nat} {L : CoreL} {s : CoreS} {h : Hp} {w : World} (hc : CoreH pc L s h) (hi : In w h) :
    w.cell? ⟨pc, 21, none⟩ = some (.bool s.moving) ∧ w.cell? ⟨pc, 22, none⟩ = some (.int .i64 s.scan) ∧ w.cell? ⟨pc, 14, none⟩ = some (ptr L.py) ∧ w.cell? ⟨pc, 16, none⟩ = some (ptr L.pr) ∧ (∃ ao cap, w.cell? ⟨pc, 25, none⟩ = some (.slice ao s.row.length cap)) := by
  obtain ⟨v, ha', hy, ho, hr, hg, ht, hw, rfl, ca, cy, co, cr, cg, ct, cw⟩ := hc
  obtain ⟨ao, cap, rfl, _⟩ := cw.shape
  exact ⟨cell_of (In.core (x := []) hi) 21, cell_of (In.core (x := []) hi) 22, cell_of (In.core (x := []) hi) 14, cell_of (In.core (x := []) hi) 16, ao, cap, cell_of (In.core (x := []) hi) 25⟩
theorem CoreH.youngWF {pc : Nat} {L : CoreL} {s : CoreS} {h : Hp} (hc : CoreH pc L s h) : s.y.WF := by
  obtain ⟨v, ha', hy, ho, hr, hg, ht, hw, rfl, ca, cy, co, cr, cg, ct, cw⟩ := hc
  exact cy.2
theorem rowN_bounds (s : CoreS) : 0 ≤ s.rowN ∧ s.rowN ≤ 66 := by
  unfold CoreS.rowN
  split
  · obtain ⟨g1, g2, _⟩ := unH_good (ldW s.ws s.rowHd)
    have : (headS s.ws s.rowHd).words = (unH (ldW s.ws s.rowHd)).size + 2 := rfl
    omega
  · omega
theorem scanN_bounds (s : CoreS) : 2 ≤ s.scanN ∧ s.scanN ≤ 66 := by
  obtain ⟨g1, g2, _⟩ := unH_good (ldW s.ws s.scan)
  have : s.scanN = (unH (ldW s.ws s.scan)).size + 2 := rfl
  omega
/-- the scan's place is told behind an object that was looked through -/
theorem core_setscan {pc : Nat} {L : CoreL} {s : CoreS} {h h0 : Hp} {w w0 : World} (hc : CoreH pc L s h) (u : Upd h0 h w0 w) (x : Int) : ∃ h', CoreH pc L { s with scan := x } h' ∧ Upd h0 h' w0 (w.setCell ⟨pc, 22, none⟩ (.int .i64 x)) := by
  obtain ⟨v, ha', hy, ho, hr, hg, ht, hw, rfl, ca, cy, co, cr, cg, ct, cw⟩ := hc
  exact ⟨_, ⟨v, ha', hy, ho, hr, hg, ht, hw, rfl, ca, cy, co, cr, cg, ct, cw⟩, Upd.cset_scan (x := []) u x⟩
theorem note_scan (s : CoreS) (i : Int) : (s.note i).scan = s.scan := by
  unfold CoreS.note
  split <;> rfl
theorem moved_scan (s : CoreS) (a : Int) : (s.moved a).scan = s.scan := by
  unfold CoreS.moved CoreS.placed
  split <;> rfl
theorem move_scan (s : CoreS) (a : Int) : (s.move a).scan = s.scan := by
  unfold CoreS.move
  split
  · rfl
  · split
    · exact moved_scan ..
    · rfl
theorem thr_scan (s : CoreS) (a : Int) : ∀ k, (s.thr a k).scan = s.scan
  | 0 => rfl
  | k + 1 => by
    have ih := thr_scan s a k
    show ((s.thr a k).thrOne a k).scan = _
    unfold CoreS.thrOne
    split
    · rw [move_scan, ih]
    · show ((s.thr a k).move _).scan = _
      rw [move_scan, ih]
theorem through_scan (s : CoreS) (a : Int) : (s.through a).scan = s.scan := by
  unfold CoreS.through
  split
  · rw [note_scan, thr_scan]
  · rw [thr_scan]

set_option maxRecDepth 100000 in
set_option maxHeartbeats 4000000 in
theorem minor_step (pc : Nat) (L : CoreL) (s : CoreS) (w : World) (h : Hp) (hi : In w h) (hc : CoreH pc L s h) (hm : s.StepOk) :
    Calls Tryz.prog 16 #[ptr pc] w fun e w' => e = .returned (.tuple #[.int .i64 s.minN, .bool s.minB]) ∧ ∃ h', CoreH pc L s.minStep h' ∧ Upd h h' w w' := by
  obtain ⟨ok, rb, hm⟩ := hm
  obtain ⟨f1, f2, f3, f4, ao, cap, f5⟩ := hc.stepFacts hi
  have hwf := hc.youngWF
  have HC := Lib.hid hc
  have HI := Lib.hid hi
  cases hmv : s.moving
  · have e : s.which = .none := by simp [CoreS.which, hmv]
    have e1 : Hid (s.minN = 0 ∧ s.minB = false ∧ s.minStep = s) := Lib.hid (by simp [CoreS.minN, CoreS.minB, CoreS.minStep, e, CoreS.stepNOf, stepBOf, CoreS.stepOf])
    rw [e1.out.1, e1.out.2.1]
    rw [hmv] at f1
    have HU := Lib.hid (Upd.refl hi)
    clear hm hmv e hc hi
    simp only [ptr] at *
    go_enter Tryz.func16, Tryz.ntmps16
    go_wp2
    go_ret2
    exact ⟨rfl, h, by rw [e1.out.2.2]; exact HC.out, HU.out⟩
  rw [hmv] at f1
  by_cases hr : 0 < s.row.length
  · have e : s.which = .row := by simp [CoreS.which, hmv, hr]
    rw [e] at hm
    obtain ⟨m1, m2⟩ := hm
    have e1 : Hid (s.minN = s.rowN + 1 ∧ s.minB = true ∧ s.minStep = s.rowS) := Lib.hid (by simp [CoreS.minN, CoreS.minB, CoreS.minStep, e, CoreS.stepNOf, stepBOf, CoreS.stepOf])
    rw [e1.out.1, e1.out.2.1]
    obtain ⟨b0, b1⟩ := rowN_bounds s
    have hrow := minor_row pc L s w h hi hc ok hr rb m1 m2
    clear hmv e hc hi m1 m2
    generalize s.rowN = rn at *
    simp only [ptr] at *
    go_enter Tryz.func16, Tryz.ntmps16
    go_wp2_with (go_at_call 54; refine Calls.mono hrow ?_; rintro e w2 ⟨rfl, h2, c2, u2⟩; have C2 := Lib.hid c2; have U2 := Lib.hid u2; clear c2 u2 hrow)
    go_ret2
    exact ⟨rfl, h2, by rw [e1.out.2.2]; exact C2.out, U2.out⟩
  have hr0 : s.row.length = 0 := by omega
  rw [hr0] at f5
  have hrd : ¬ (0 < s.row.length) := hr
  cases htb : s.r.tb.list with
  | cons x xs =>
    have e : s.which = .buf x := by simp [CoreS.which, hmv, hrd, htb]
    rw [e] at hm
    obtain ⟨m1, m2⟩ := hm
    have e1 : Hid (s.minN = s.popBuf.notedN x + 1 ∧ s.minB = true ∧ s.minStep = s.popBuf.notedS x) := Lib.hid (by simp [CoreS.minN, CoreS.minB, CoreS.minStep, e, CoreS.stepNOf, stepBOf, CoreS.stepOf])
    rw [e1.out.1, e1.out.2.1]
    obtain ⟨b0, b1⟩ := notedN_bounds s.popBuf x
    have hnx := core_next_buf pc L s w h hi hc x xs htb
    have HNo := Lib.hid (fun W h (hW : In W h) (hc : CoreH pc L s.popBuf h) => minor_noted pc L s.popBuf x W h hW hc ok m1 m2)
    clear hmv e hc hi m1 m2 hr hr0 hrd htb
    generalize s.popBuf.notedN x = nn at *
    simp only [ptr] at *
    go_enter Tryz.func16, Tryz.ntmps16
    go_wp2_with (first
      | (go_at_call 55; refine Calls.mono hnx ?_; rintro e w2 ⟨rfl, h2, c2, u2⟩; have C2 := Lib.hid c2; have U2 := Lib.hid u2; clear c2 u2 hnx)
      | (go_at_call 57; refine Calls.mono (HNo.out _ _ U2.out.inn C2.out) ?_; rintro e w3 ⟨rfl, h3, c3, u3⟩; have C3 := Lib.hid c3; have U3 := Lib.hid (U2.out.trans u3); clear c3 u3))
    go_ret2
    exact ⟨rfl, h3, by rw [e1.out.2.2]; exact C3.out, U3.out⟩
  | nil =>
    cases hfc : s.r.tc.first with
    | some n =>
      have e : s.which = .card n := by simp [CoreS.which, hmv, hrd, htb, hfc]
      rw [e] at hm
      simp only at hm
      have e1 : Hid (s.minN = partN (s.popCard n) (s.cardStarts n) + 1 ∧ s.minB = true ∧ s.minStep = (s.popCard n).partS (s.cardStarts n)) := Lib.hid (by simp [CoreS.minN, CoreS.minB, CoreS.minStep, e, CoreS.stepNOf, stepBOf, CoreS.stepOf])
      rw [e1.out.1, e1.out.2.1]
      obtain ⟨b0, b1⟩ := partN_bounds (s.cardStarts n) (s.popCard n)
      have hcl : (s.cardStarts n).length ≤ 16384 := by
        have h1 := startsL_len ok (s.r.tc.partLo n) (s.r.tc.partHi n) s.o.pages.length
        obtain ⟨v, ha', hy, ho, hr, hg, ht, hw, rfl, ca, cy, co, cr, cg, ct, cw⟩ := hc
        obtain ⟨b, rows, m⟩ := co.rows
        obtain ⟨a1, a2, a3, a4, a5⟩ := m.2.2.2
        show (s.o.startsL _ _ s.o.pages.length).length ≤ _
        omega
      have hnx := core_next_card pc L s w h hi hc n htb hfc
      have hpt := fun W h (hW : In W h) (hc : CoreH pc L (s.popCard n) h) => minor_part pc L (s.popCard n) (s.r.tc.partLo n) (s.r.tc.partHi n) W h hW hc ok hm
      have hcs : (s.popCard n).o.starts (s.r.tc.partLo n) (s.r.tc.partHi n) = s.cardStarts n := rfl
      rw [hcs] at hpt
      have HPt := Lib.hid hpt
      clear hmv e hc hi hr hr0 hrd htb hm hpt hcs hfc
      generalize partN (s.popCard n) (s.cardStarts n) = nn at *
      generalize (s.cardStarts n).length = cl at *
      simp only [ptr] at *
      go_enter Tryz.func16, Tryz.ntmps16
      go_wp2_with (first
        | (go_at_call 55; refine Calls.mono hnx ?_; rintro e w2 ⟨rfl, h2, c2, u2⟩; have C2 := Lib.hid c2; have U2 := Lib.hid u2; clear c2 u2 hnx)
        | (go_at_call 56; refine Calls.mono (HPt.out _ _ U2.out.inn C2.out) ?_; rintro e w3 ⟨rfl, h3, c3, u3⟩; have C3 := Lib.hid c3; have U3 := Lib.hid (U2.out.trans u3); clear c3 u3))
      go_ret2
      exact ⟨rfl, h3, by rw [e1.out.2.2]; exact C3.out, U3.out⟩
    | none =>
      have hnx := core_next_none pc L s w h hi hc htb hfc
      rw [popBuf_nil htb] at hnx
      have HBg := Lib.hid (fun W h (hW : In W h) (hc : CoreH pc L s h) => core_begin pc L s W h hW hc)
      have HUs := Lib.hid (fun W h (hW : In W h) (hc : CoreH pc L s h) => core_usedY pc L s W h hW hc)
      have HFc := Lib.hid (fun W h (hW : In W h) (hc : CoreH pc L s h) => hc.stepFacts hW)
      obtain ⟨y1, y2, y3, y4, y5, y6, y7, y8⟩ := YoungS.WF.bounds hwf
      have wcu : IntKind.i64.wrap (s.y.cf + s.y.cu) = s.y.cf + s.y.cu := IntWalk.i64_in _ (by omega)
      have hso : s.scanOk = decide (s.scan < s.y.cf + s.y.cu) := rfl
      cases hsc : s.scanOk
      · have e : s.which = .finish := by simp [CoreS.which, hmv, hrd, htb, hfc, hsc]
        have e1 : Hid (s.minN = 2 ∧ s.minB = false ∧ s.minStep = s.finishS) := Lib.hid (by simp [CoreS.minN, CoreS.minB, CoreS.minStep, e, CoreS.stepNOf, stepBOf, CoreS.stepOf])
        rw [e1.out.1, e1.out.2.1]
        have hd : decide (s.scan < s.y.cf + s.y.cu) = false := by rw [← hso, hsc]
        have HFi := Lib.hid (fun W h (hW : In W h) (hc : CoreH pc L s h) => minor_finish pc L s W h hW hc)
        clear hmv e hc hi hr hr0 hrd htb hm hfc hsc hso hwf y1 y2 y3 y4 y5 y6 y7 y8 ok rb
        simp only [ptr] at *
        go_enter Tryz.func16, Tryz.ntmps16
        go_wp2_with (first
          | (go_at_call 55; refine Calls.mono hnx ?_; rintro e w2 ⟨rfl, h2, c2, u2⟩; have C2 := Lib.hid c2; have U2 := Lib.hid u2; have k14 := (HFc.out _ _ u2.inn c2).2.2.1; try simp only [ptr] at k14; clear c2 u2 hnx)
          | (go_at_call 52; refine Calls.mono (HBg.out _ _ U2.out.inn C2.out) ?_; rintro e w3 ⟨rfl, u3⟩; have U3 := Lib.hid (U2.out.trans u3); clear u3))
        obtain ⟨_, q2, q3, _, _⟩ := HFc.out _ _ U3.out.drew'.inn C2.out
        have hS0 := And.intro q2 q3
        try simp only [ptr] at hS0
        clear q2 q3 f1 f2 f3 f4 f5 k14
        go_region_held3 (fun w' => w'.cell? ⟨pc, 22, none⟩ = some (.int .i64 s.scan) ∧ w'.cell? ⟨pc, 14, none⟩ = some (.pointer (some ⟨L.py, 0, none⟩)))
          (first | with_reducible exact hS0 | with_reducible exact hS9 | go_keep)
          (first | (go_at_call 58; refine Calls.mono (HUs.out _ _ U3.out.drew'.inn C2.out) ?_; rintro e w9 ⟨rfl, u9⟩; have U9 := Lib.hid (U3.out.drew'.trans u9); have hS9 := And.intro (HFc.out _ _ U9.out.inn C2.out).2.1 (HFc.out _ _ U9.out.inn C2.out).2.2.1; try simp only [ptr] at hS9; clear u9))
        go_wp2_with (go_at_call 60; refine Calls.mono (HFi.out _ _ U9.out.inn C2.out) ?_; rintro e w10 ⟨rfl, h10, c10, u10⟩; have U10 := Lib.hid (U9.out.trans u10); have C10 := Lib.hid c10; clear u10 c10)
        go_ret2
        exact ⟨rfl, h10, by rw [e1.out.2.2]; exact C10.out, U10.out⟩
      · have e : s.which = .scan := by simp [CoreS.which, hmv, hrd, htb, hfc, hsc]
        rw [e] at hm
        obtain ⟨m1, m2⟩ := hm
        have e1 : Hid (s.minN = s.scanN ∧ s.minB = true ∧ s.minStep = s.scanS) := Lib.hid (by simp [CoreS.minN, CoreS.minB, CoreS.minStep, e, CoreS.stepNOf, stepBOf, CoreS.stepOf])
        rw [e1.out.1, e1.out.2.1]
        have hd : decide (s.scan < s.y.cf + s.y.cu) = true := by rw [← hso, hsc]
        have hth := fun W h (hW : In W h) (hc : CoreH pc L s h) => minor_through pc L s s.scan W h hW hc m1 m2
        have hsn : (headS s.ws s.scan).words = s.scanN := rfl
        rw [hsn] at hth
        have HTh := Lib.hid hth
        have HS2 := Lib.hid (through_scan s s.scan)
        have hst : s.scanS = { s.through s.scan with scan := wrap64 (s.scan + s.scanN) } := rfl
        have HST := Lib.hid hst
        have HFT := Lib.hid (fun W h (hW : In W h) (hc : CoreH pc L (s.through s.scan) h) => hc.stepFacts hW)
        have HFz := Lib.hid (fun W h (hW : In W h) (hc : CoreH pc L (s.through s.scan) h) => (show W.frozen? ⟨pc, 22, none⟩ = false by
          obtain ⟨v, ha', hy, ho, hr, hg, ht, hw, rfl, ca, cy, co, cr, cg, ct, cw⟩ := hc
          exact core_frozen (In.core (x := []) hW) 22))
        clear hmv e hc hi hr hr0 hrd htb hfc hsc hso hwf y1 y2 y3 y4 y5 y6 y7 y8 ok rb m1 m2 hth hsn hst
        generalize s.scanN = sn at *
        generalize hT : s.through s.scan = T at *
        clear hT
        generalize hsc : s.scan = sc at *
        clear hsc
        simp only [ptr] at *
        go_enter Tryz.func16, Tryz.ntmps16
        go_wp2_with (first
          | (go_at_call 55; refine Calls.mono hnx ?_; rintro e w2 ⟨rfl, h2, c2, u2⟩; have C2 := Lib.hid c2; have U2 := Lib.hid u2; have k14 := (HFc.out _ _ u2.inn c2).2.2.1; try simp only [ptr] at k14; clear c2 u2 hnx)
          | (go_at_call 52; refine Calls.mono (HBg.out _ _ U2.out.inn C2.out) ?_; rintro e w3 ⟨rfl, u3⟩; have U3 := Lib.hid (U2.out.trans u3); clear u3))
        obtain ⟨_, q2, q3, _, _⟩ := HFc.out _ _ U3.out.drew'.inn C2.out
        have hS0 := And.intro q2 q3
        try simp only [ptr] at hS0
        clear q2 q3 f1 f2 f3 f4 f5 k14
        go_region_held3 (fun w' => w'.cell? ⟨pc, 22, none⟩ = some (.int .i64 sc) ∧ w'.cell? ⟨pc, 14, none⟩ = some (.pointer (some ⟨L.py, 0, none⟩)))
          (first | with_reducible exact hS0 | with_reducible exact hS9 | go_keep)
          (first | (go_at_call 58; refine Calls.mono (HUs.out _ _ U3.out.drew'.inn C2.out) ?_; rintro e w9 ⟨rfl, u9⟩; have U9 := Lib.hid (U3.out.drew'.trans u9); have hS9 := And.intro (HFc.out _ _ U9.out.inn C2.out).2.1 (HFc.out _ _ U9.out.inn C2.out).2.2.1; try simp only [ptr] at hS9; clear u9))
        obtain ⟨s9a, s9b⟩ := hS9
        go_wp2_with (go_at_call 59; refine Calls.mono (HTh.out _ _ U9.out.inn C2.out) ?_; rintro e w10 ⟨rfl, h10, c10, u10⟩; have U10 := Lib.hid (U9.out.trans u10); have k22 := (HFT.out _ _ U10.out.inn c10).2.1; rw [HS2.out] at k22; have z22 := HFz.out _ _ U10.out.inn c10; have C10 := Lib.hid c10; clear u10 c10 s9a s9b)
        go_ret2
        obtain ⟨h11, c11, u11⟩ := core_setscan C10.out U10.out (wrap64 (sc + sn))
        exact ⟨rfl, h11, by rw [e1.out.2.2, HST.out]; exact c11, u11⟩

end Go.Proofs.YtjjdjipohifgbaaGreat

/- What Run and Start of package minor come to. Conditions: a core whose parts are as New makes them; what each move asks. -/
namespace Go.Proofs.YtjjdjipohifgbaaGreat
open Go.RowKit

/-- a run of bits, as many as there are at most -/
def CoreS.runF : Nat → CoreS → Int → Int → Option (CoreS × Int)
  | 0, _, _, _ => none
  | k + 1, s, d, work => if d < work then (if s.minB = true then s.minStep.runF k (d + s.minN) work else some (s.minStep, d + s.minN)) else some (s, d)
def CoreS.RunOk : Nat → CoreS → Int → Int → Prop
  | 0, _, _, _ => True
  | k + 1, s, d, work => d < work → s.StepOk ∧ d + s.minN ≤ 1000000000000 ∧ (s.minB = true → s.minStep.RunOk k (d + s.minN) work)
theorem minN_pos (s : CoreS) (h : s.minB = true) : 1 ≤ s.minN := by
  unfold CoreS.minB at h
  unfold CoreS.minN
  cases hq : s.which with
  | none => rw [hq] at h; cases h
  | finish => rw [hq] at h; cases h
  | row => have := rowN_bounds s; simp only [CoreS.stepNOf]; omega
  | buf x => have := notedN_bounds s.popBuf x; simp only [CoreS.stepNOf]; omega
  | card n => have := partN_bounds (s.cardStarts n) (s.popCard n); simp only [CoreS.stepNOf]; omega
  | scan => have := scanN_bounds s; simp only [CoreS.stepNOf]; omega
theorem minN_nonneg (s : CoreS) : 0 ≤ s.minN := by
  unfold CoreS.minN
  cases hq : s.which with
  | none => simp [CoreS.stepNOf]
  | finish => simp [CoreS.stepNOf]
  | row => have := rowN_bounds s; simp only [CoreS.stepNOf]; omega
  | buf x => have := notedN_bounds s.popBuf x; simp only [CoreS.stepNOf]; omega
  | card n => have := partN_bounds (s.cardStarts n) (s.popCard n); simp only [CoreS.stepNOf]; omega
  | scan => have := scanN_bounds s; simp only [CoreS.stepNOf]; omega

set_option maxRecDepth 100000 in
set_option maxHeartbeats 2000000 in
theorem minor_run (pc : Nat) (L : CoreL) (s : CoreS) (work : Int) (w : World) (h : Hp) (hi : In w h) (hc : CoreH pc L s h) (k : Nat) (s' : CoreS) (d' : Int) (hr : s.runF k 0 work = some (s', d')) (hm : s.RunOk k 0 work) :
    Calls Tryz.prog 30 #[ptr pc, .int .i64 work] w fun e w' => e = .returned (.int .i64 d') ∧ ∃ h', CoreH pc L s' h' ∧ Upd h h' w w' := by
  have HSt := Lib.hid (fun s W h (hW : In W h) (hc : CoreH pc L s h) (m : s.StepOk) => minor_step pc L s W h hW hc m)
  have H0 : Hid (∃ k S h', S.runF k 0 work = some (s', d') ∧ S.RunOk k 0 work ∧ CoreH pc L S h' ∧ Upd h h' w w) := Lib.hid ⟨k, s, h, hr, hm, hc, Upd.refl hi⟩
  clear hr hm hc hi k
  simp only [ptr] at *
  go_enter Tryz.func30, Tryz.ntmps30
  go_wp2
  go_loopw [5] (fun v wr => ∃ d : Int, 0 ≤ d ∧ d ≤ 1000000000000 ∧ v = .int .i64 d ∧ Hid (∃ k S h', S.runF k d work = some (s', d') ∧ S.RunOk k d work ∧ CoreH pc L S h' ∧ Upd h h' w wr)) (fun v _ => (work - intOf v).toNat)
  case atStart => exact ⟨0, by omega, by omega, rfl, H0⟩
  case round =>
    obtain ⟨d, hd0, hd1, rfl, HW⟩ := hrel
    obtain ⟨k, S, hk, hr, hm, ck, uk⟩ := HW.out
    cases k with
    | zero => cases hr
    | succ k =>
      by_cases hlt : d < work
      · simp only [CoreS.runF, if_pos hlt] at hr
        obtain ⟨m1, m2, m3⟩ := hm hlt
        have hst := HSt.out S wr hk uk.inn ck m1
        have hnn := minN_nonneg S
        have hnp := minN_pos S
        have HU := Lib.hid uk
        cases hb : S.minB
        · rw [hb] at hst
          rw [hb, if_neg (by decide)] at hr
          simp only [Option.some.injEq, Prod.mk.injEq] at hr
          obtain ⟨r1, r2⟩ := hr
          have R1 := Lib.hid r1
          have R2 := Lib.hid r2
          clear hb m1 m3 hnp ck uk HW r1 r2 hm
          generalize S.minN = n at *
          go_wp2_with (go_at_call 16; refine Calls.mono hst ?_; rintro e w2 ⟨rfl, h2, c2, u2⟩; have C2 := Lib.hid c2; have U2 := Lib.hid (HU.out.trans u2); clear c2 u2 hst)
          go_ret
          rw [← R2.out, ← R1.out]
          exact ⟨rfl, h2, C2.out, U2.out⟩
        · rw [hb] at hst
          rw [hb, if_pos rfl] at hr
          have hp := hnp hb
          have M3 := Lib.hid (m3 hb)
          have HR := Lib.hid hr
          clear hb m1 m3 hnp ck uk HW hr hm
          generalize S.minN = n at *
          generalize S.minStep = T at *
          go_wp2_with (go_at_call 16; refine Calls.mono hst ?_; rintro e w2 ⟨rfl, h2, c2, u2⟩; have C2 := Lib.hid c2; have U2 := Lib.hid (HU.out.trans u2); clear c2 u2 hst)
          go_roundw
          case rel => exact ⟨d + n, by omega, by omega, rfl, Lib.hid ⟨k, T, h2, HR.out, M3.out, C2.out, U2.out⟩⟩
          case measure => simp [intOf]; omega
      · simp only [CoreS.runF, if_neg hlt, Option.some.injEq, Prod.mk.injEq] at hr
        obtain ⟨r1, r2⟩ := hr
        have R1 := Lib.hid r1
        have R2 := Lib.hid r2
        have C := Lib.hid ck
        have U := Lib.hid uk
        clear r1 r2 ck uk HW hm
        go_wp2
        go_ret
        rw [← R2.out, ← R1.out]
        exact ⟨rfl, hk, C.out, U.out⟩

/-- a cycle has begun, the handles not yet looked at -/
def CoreS.begun (s : CoreS) : CoreS := { s with y := s.y.flip, r := if s.r.left = 0 then s.r.flip else s.r, moving := true, copied := 0, row := [], scan := s.y.flip.cf }
def CoreS.hOne (s : CoreS) (k : Nat) (a : Int) : CoreS := { s.move a with t := tblSet (s.move a).t k (s.moveV a) }
def CoreS.handles (s : CoreS) (l : List Int) : Nat → CoreS
  | 0 => s
  | k + 1 => (s.handles l k).hOne k (l.getD k 0)
def CoreS.startOk (s : CoreS) : Bool := !s.moving && s.y.flipOk
def CoreS.startS (s : CoreS) : CoreS := if s.startOk = true then s.begun.handles s.t s.t.length else s
/-- what Start asks -/
def CoreS.HdlOk (s : CoreS) : Prop := s.startOk = true → ∀ k, k < s.t.length → (s.begun.handles s.t k).MvAt (s.t.getD k 0)

theorem core_flip (pc : Nat) (L : CoreL) (s : CoreS) (w : World) (h : Hp) (hi : In w h) (hc : CoreH pc L s h) :
    Calls Tryz.prog 50 #[.pointer (some ⟨L.py, 0, none⟩)] w fun e w' => e = .returned (.bool s.y.flipOk) ∧ ∃ h', CoreH pc L { s with y := s.y.flip } h' ∧ Upd h h' w w' := by
  obtain ⟨v, ha', hy, ho, hr, hg, ht, hw, rfl, ca, cy, co, cr, cg, ct, cw⟩ := hc
  refine Calls.mono (bump_flip L.py s.y w hy (In.young (x := []) hi) cy) fun e w' hh => ?_
  obtain ⟨he, hy', cy', u⟩ := hh
  exact ⟨he, _, ⟨v, ha', hy', ho, hr, hg, ht, hw, rfl, ca, cy', co, cr, cg, ct, cw⟩, Upd.young (x := []) (Upd.refl hi) u⟩
theorem core_remflip (pc : Nat) (L : CoreL) (s : CoreS) (w : World) (h : Hp) (hi : In w h) (hc : CoreH pc L s h) :
    Calls Tryz.prog 51 #[.pointer (some ⟨L.pr, 0, none⟩)] w fun e w' => ∃ b, e = .returned (.bool b) ∧ ∃ h', CoreH pc L { s with r := if s.r.left = 0 then s.r.flip else s.r } h' ∧ Upd h h' w w' := by
  obtain ⟨v, ha', hy, ho, hr, hg, ht, hw, rfl, ca, cy, co, cr, cg, ct, cw⟩ := hc
  by_cases h0 : s.r.left = 0
  · refine Calls.mono (rem_flip L.pr s.r w hr (In.rem (x := []) hi) cr h0) fun e w' hh => ?_
    obtain ⟨he, hr', cr', u⟩ := hh
    rw [if_pos h0]
    exact ⟨true, he, _, ⟨v, ha', hy, ho, hr', hg, ht, hw, rfl, ca, cy, co, cr', cg, ct, cw⟩, Upd.rem (x := []) (Upd.refl hi) u⟩
  · have h1 : 0 < s.r.left := by
      unfold RemS.left at *
      omega
    refine Calls.mono (rem_flip_no L.pr s.r w hr (In.rem (x := []) hi) cr h1) fun e w' hh => ?_
    rw [if_neg h0]
    exact ⟨false, hh.1, _, ⟨v, ha', hy, ho, hr, hg, ht, hw, rfl, ca, cy, co, cr, cg, ct, cw⟩, Upd.rem (x := []) (Upd.refl hi) hh.2⟩
theorem core_tset (pc : Nat) (L : CoreL) (s : CoreS) (i v : Int) (w : World) (h : Hp) (hi : In w h) (hc : CoreH pc L s h) (hv : I64 v) :
    Calls Tryz.prog 48 #[.pointer (some ⟨L.pt, 0, none⟩), .int .i64 i, .int .i64 v] w fun e w' => e = .returned (.int .i64 (tblErr s.t i)) ∧ ∃ h', CoreH pc L { s with t := tblSet s.t i v } h' ∧ Upd h h' w w' := by
  obtain ⟨v0, ha', hy, ho, hr, hg, ht, hw, rfl, ca, cy, co, cr, cg, ct, cw⟩ := hc
  refine Calls.mono (table_set L.pt s.t i v w ht (In.table (x := []) hi) ct hv) fun e w' hh => ?_
  obtain ⟨he, ht', ct', u⟩ := hh
  exact ⟨he, _, ⟨v0, ha', hy, ho, hr, hg, ht', hw, rfl, ca, cy, co, cr, cg, ct', cw⟩, Upd.table (x := []) (Upd.refl hi) u⟩


theorem core_begun {pc : Nat} {L : CoreL} {s : CoreS} {h h0 : Hp} {w w0 : World} (hc : CoreH pc L s h) (u : Upd h0 h w0 w) :
    ∃ h', CoreH pc L { s with moving := true, copied := 0, row := [] } h' ∧ Upd h0 h' w0 (((w.setCell ⟨pc, 21, none⟩ (.bool true)).setCell ⟨pc, 23, none⟩ (.int .i64 0)).setCell ⟨pc, 25, none⟩ (.slice none 0 0)) := by
  obtain ⟨v, ha', hy, ho, hr, hg, ht, hw, rfl, ca, cy, co, cr, cg, ct, cw⟩ := hc
  have u2 := Upd.core (x := []) (Upd.cset_copied (x := []) (Upd.cset_moving (x := []) u true) 0) 25 (.slice none 0 0)
  have u3 := Upd.rows (x := []) u2 ((Upd.refl (In.rows (x := []) u2.inn)).forget (List.nil_sublist _))
  exact ⟨_, ⟨.slice none 0 0, ha', hy, ho, hr, hg, ht, [], rfl, ca, cy, co, cr, cg, ct, SliceH.nil _ _⟩, u3⟩
theorem CoreH.vcells {pc : Nat} {L : CoreL} {s : CoreS} {h : Hp} {w : World} (hc : CoreH pc L s h) (hi : In w h) :
    (∃ a, w.cell? ⟨pc, 21, none⟩ = some a) ∧ (∃ a, w.cell? ⟨pc, 22, none⟩ = some a) ∧ (∃ a, w.cell? ⟨pc, 23, none⟩ = some a) ∧ (∃ a, w.cell? ⟨pc, 25, none⟩ = some a) ∧ (∀ i, w.frozen? ⟨pc, i, none⟩ = false) := by
  obtain ⟨v, ha', hy, ho, hr, hg, ht, hw, rfl, ca, cy, co, cr, cg, ct, cw⟩ := hc
  exact ⟨⟨_, cell_of (In.core (x := []) hi) 21⟩, ⟨_, cell_of (In.core (x := []) hi) 22⟩, ⟨_, cell_of (In.core (x := []) hi) 23⟩, ⟨_, cell_of (In.core (x := []) hi) 25⟩, fun i => core_frozen (In.core (x := []) hi) i⟩

set_option maxRecDepth 100000 in
set_option maxHeartbeats 4000000 in
theorem minor_start (pc : Nat) (L : CoreL) (s : CoreS) (w : World) (h : Hp) (hi : In w h) (hc : CoreH pc L s h) (hm : s.HdlOk) :
    Calls Tryz.prog 15 #[ptr pc] w fun e w' => e = .returned (.bool s.startOk) ∧ ∃ h', CoreH pc L s.startS h' ∧ Upd h h' w w' := by
  obtain ⟨f1, f2, f3, f4, ao, cap, f5⟩ := hc.stepFacts hi
  clear f2 f4 f5
  have hcf := hc.facts
  obtain ⟨t64, tI, _, _⟩ := hcf
  have hso : s.startOk = (!s.moving && s.y.flipOk) := rfl
  have HC := Lib.hid hc
  cases hmv : s.moving
  · rw [hmv] at f1 hso
    have hfl := core_flip pc L s w h hi hc
    cases hf : s.y.flipOk
    · rw [hf] at hso hfl
      have HS : Hid (s.startS = s ∨ True) := Lib.hid (.inr trivial)
      have HR : Hid (s.startS = s) := Lib.hid (by rw [CoreS.startS, hso]; rfl)
      have HFs : Hid (s.y.flip = s.y) := Lib.hid (by simp [YoungS.flip, hf])
      have e : s.startOk = false := by rw [hso]; rfl
      rw [e]
      clear hm hso hmv hf e hc hi HS
      simp only [ptr] at *
      go_enter Tryz.func15, Tryz.ntmps15
      go_wp2_with (go_at_call 50; refine Calls.mono hfl ?_; rintro e w2 ⟨rfl, h2, c2, u2⟩; have C2 := Lib.hid c2; have U2 := Lib.hid u2; clear c2 u2 hfl)
      go_ret
      have c2 := C2.out
      rw [HFs.out] at c2
      exact ⟨rfl, h2, by rw [HR.out]; exact c2, U2.out⟩
    · rw [hf] at hso hfl
      have e : s.startOk = true := by rw [hso]; rfl
      have HR : Hid (s.startS = s.begun.handles s.t s.t.length) := Lib.hid (by rw [CoreS.startS, if_pos e])
      have HM := Lib.hid (hm e)
      rw [e]
      have HRf := Lib.hid (fun S W h (hW : In W h) (hc : CoreH pc L S h) => core_remflip pc L S W h hW hc)
      have HBg := Lib.hid (fun S W h (hW : In W h) (hc : CoreH pc L S h) => core_begin pc L S W h hW hc)
      have HAl := Lib.hid (fun S W h (hW : In W h) (hc : CoreH pc L S h) => core_all pc L S W h hW hc)
      have HMv := Lib.hid (fun S r W h (hW : In W h) (hc : CoreH pc L S h) (hr : I64 r) (m : S.MvAt r) => core_move pc L S r W h hW hc hr m.m m.to)
      have HTs := Lib.hid (fun S i v W h (hW : In W h) (hc : CoreH pc L S h) (hv : I64 v) => core_tset pc L S i v W h hW hc hv)
      have HP : Hid (∀ (S : CoreS) W k h, In W (k ++ h) → CoreH pc L S h → W.cell? ⟨pc, 16, none⟩ = some (.pointer (some ⟨L.pr, 0, none⟩)) ∧ W.cell? ⟨pc, 18, none⟩ = some (.pointer (some ⟨L.pt, 0, none⟩)) ∧ W.cell? ⟨pc, 14, none⟩ = some (.pointer (some ⟨L.py, 0, none⟩))) := Lib.hid (fun S W k h hW hc => ⟨(CoreH.ptrs hc hW).2.2.2.1, (CoreH.ptrs hc hW).2.2.2.2.2, (CoreH.ptrs hc hW).2.1⟩)
      have hmvI : Hid (∀ s : CoreS, ∀ r, I64 r → s.MvAt r → I64 (s.moveV r)) := Lib.hid (by
        intro s r hr m
        unfold CoreS.moveV
        split
        · exact hr
        · split
          · rename_i h1 h2
            refine m.to ?_ h2
            cases hq : s.y.isFrom r
            · exact absurd (.inr hq) h1
            · rfl
          · exact s.now_I64 hr)
      have HTI := Lib.hid (fun x (hx : x ∈ s.t) => tI x hx)
      have HBt : Hid (s.begun.t = s.t) := Lib.hid rfl
      have HB : Hid (∀ h, CoreH pc L { s with y := s.y.flip, r := if s.r.left = 0 then s.r.flip else s.r, moving := true, copied := 0, row := [], scan := s.y.flip.cf } h → CoreH pc L s.begun h) := Lib.hid (fun _ hh => hh)
      have H1 : Hid (∀ k, s.begun.handles s.t (k + 1) = (s.begun.handles s.t k).hOne k (s.t.getD k 0)) := Lib.hid (fun _ => rfl)
      have HO : Hid (∀ (S : CoreS) (k : Nat) (a : Int), S.hOne k a = { S.move a with t := tblSet (S.move a).t k (S.moveV a) }) := Lib.hid (fun _ _ _ => rfl)
      clear hm hso hmv hf hc hi e tI
      generalize hl : s.t = l at *
      have HLs := Lib.hid hl
      clear hl
      simp only [ptr] at *
      go_enter Tryz.func15, Tryz.ntmps15
      go_wp2_with (first
        | (go_at_call 50; refine Calls.mono hfl ?_; rintro e w2 ⟨rfl, h2, c2, u2⟩; have C2 := Lib.hid c2; have U2 := Lib.hid u2; have k16 := (HP.out _ w2 [] h2 u2.inn c2).1; clear c2 u2 hfl)
        | (go_at_call 51; refine Calls.mono (HRf.out _ _ _ U2.out.inn C2.out) ?_; rintro e w3 ⟨b3, rfl, h3, c3, u3⟩; have U3 := Lib.hid (U2.out.trans u3); (obtain ⟨⟨z21, k21⟩, _, ⟨z23, k23⟩, ⟨z25, k25⟩, yz⟩ := c3.vcells U3.out.inn); have y21 := yz 21; have y23 := yz 23; have y25 := yz 25; have k14 := (HP.out _ w3 [] h3 U3.out.inn c3).2.2; have C3 := Lib.hid c3; clear u3 k16 c3 yz)
        | (go_at_call 52; (obtain ⟨h4, c4, u4⟩ := core_begun C3.out U3.out); have U4 := Lib.hid u4; have C4 := Lib.hid c4; clear u4 c4; refine Calls.mono (HBg.out _ _ _ U4.out.inn C4.out) ?_; rintro e w5 ⟨rfl, u5⟩; have U5 := Lib.hid (U4.out.trans u5); (obtain ⟨_, ⟨z22, k22⟩, _, _, yz⟩ := C4.out.vcells U5.out.inn); have y22 := yz 22; have k18 := (HP.out _ w5 [] h4 U5.out.inn C4.out).2.1; clear u5 yz)
        | (go_at_call 22; (obtain ⟨h6, c6, u6⟩ := core_setscan C4.out U5.out s.y.flip.cf); (have C6 := Lib.hid (HB.out _ c6)); have U6 := Lib.hid u6; refine Calls.mono (HAl.out _ _ _ u6.inn C6.out) ?_; rintro e w7 ⟨v7, h7, rfl, s7, u7⟩; rw [HBt.out] at s7; have HS7 := Lib.hid s7; have U7 := Lib.hid (U6.out.more u7); obtain ⟨ao7, cap7, rfl, hcap7⟩ := s7.shape; clear s7 u7 c6 u6))
      have HLt : Hid (s.t.length = l.length) := Lib.hid (by rw [HLs.out])
      have H0 : Hid (∃ h', CoreH pc L (s.begun.handles l 0) h' ∧ Upd h (h7 ++ h') w w7) := Lib.hid ⟨h6, C6.out, U7.out⟩
      go_loopw [52] (fun i wr => ∃ k : Nat, k ≤ l.length ∧ i = .int .i64 k ∧ Hid (∃ h', CoreH pc L (s.begun.handles l k) h' ∧ Upd h (h7 ++ h') w wr)) (fun i _ => l.length - (intOf i).toNat)
      case atStart => exact ⟨0, by omega, rfl, H0⟩
      case round =>
        obtain ⟨k, hk, rfl, HW⟩ := hrel
        by_cases hlt : k < l.length
        · obtain ⟨hk1, ck, uk⟩ := HW.out
          obtain ⟨gb, off, rfl, hcj⟩ := SliceH.intAt (kd := .i64) HS7.out uk.inn.left hlt
          have hai : I64 (l.getD k 0) := HTI.out _ (by simp [List.getD, hlt])
          have hmk := HM.out k hlt
          have hnx := H1.out k
          have hTV := hmvI.out _ _ hai hmk
          have hho := HO.out (s.begun.handles l k) k (l.getD k 0)
          have q18 := (HP.out _ wr h7 hk1 uk.inn ck).2.1
          have hmv := fun W h (hW : In W h) (hc : CoreH pc L (s.begun.handles l k) h) => HMv.out (s.begun.handles l k) (l.getD k 0) W h hW hc hai hmk
          have HMV := Lib.hid hmv
          have HNX := Lib.hid hnx
          have HHO := Lib.hid hho
          have HUk := Lib.hid uk.drew'
          have HCk := Lib.hid ck
          clear hmv hnx hho ck uk HW hmk
          generalize s.begun.handles l k = S at *
          generalize l.getD k 0 = a at *
          generalize S.moveV a = T at *
          generalize S.move a = M at *
          have hS0 : wr.drew.cell? ⟨pc, 18, none⟩ = some (.pointer (some ⟨L.pt, 0, none⟩)) := q18
          go_wp2
          go_region_held3 (fun w' => w'.cell? ⟨pc, 18, none⟩ = some (.pointer (some ⟨L.pt, 0, none⟩)))
            (first | with_reducible exact hS0 | with_reducible exact hS9 | with_reducible exact hS10 | go_keep)
            (first
              | (go_at_call 53; refine Calls.mono (HMV.out _ _ HUk.out.inn.right HCk.out) ?_; rintro e w9 ⟨rfl, h9, c9, u9⟩; have U9 := Lib.hid (Upd.onRight HUk.out u9); have hS9 := (HP.out _ w9 h7 h9 U9.out.inn c9).2.1; have C9 := Lib.hid c9; clear u9 c9)
              | (go_at_call 48; refine Calls.mono (HTs.out M k T _ _ U9.out.inn.right C9.out hTV) ?_; rintro e w10 ⟨rfl, h10, c10, u10⟩; have U10 := Lib.hid (Upd.onRight U9.out u10); have hS10 := (HP.out _ w10 h7 h10 U10.out.inn c10).2.1; have C10 := Lib.hid c10; clear u10 c10))
          go_wp2
          go_roundw
          case rel => exact ⟨k + 1, by omega, by go_num, Lib.hid ⟨h10, by rw [HNX.out, HHO.out]; exact C10.out, U10.out⟩⟩
          case measure => simp [intOf]; omega
        · obtain rfl : k = l.length := by omega
          go_wp2
          go_ret
          obtain ⟨hk1, ck, uk⟩ := HW.out
          exact ⟨rfl, hk1, by rw [HR.out]; exact ck, uk.forget (List.sublist_append_right _ _)⟩
  · rw [hmv] at f1 hso
    have e : s.startOk = false := by rw [hso]; rfl
    have HR : Hid (s.startS = s) := Lib.hid (by rw [CoreS.startS, e]; rfl)
    have HU := Lib.hid (Upd.refl hi)
    rw [e]
    clear hm hso hmv e hc hi
    simp only [ptr] at *
    go_enter Tryz.func15, Tryz.ntmps15
    go_wp2
    go_ret
    exact ⟨rfl, h, by rw [HR.out]; exact HC.out, HU.out⟩

end Go.Proofs.YtjjdjipohifgbaaGreat
