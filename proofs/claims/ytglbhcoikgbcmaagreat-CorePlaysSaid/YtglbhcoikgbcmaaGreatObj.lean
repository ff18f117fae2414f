/- What each call of package obj comes to. Conditions: heads that may be. -/
import Derived.Test.YtglbhcoikgbcmaaGreatRows
import Derived.Test.YtglbhcoikgbcmaaGreatLib
import Derived.Test.YtglbhcoikgbcmaaGreatArena
import Derived.Test.YtglbhcoikgbcmaaGreatHead
set_option linter.unusedVariables false
set_option linter.unusedSimpArgs false
namespace Go.Proofs.YtglbhcoikgbcmaaGreat
open Go.RowKit

def Hd.words (h : Hd) : Int := h.size + 2

set_option maxRecDepth 100000 in
set_option maxHeartbeats 400000 in
theorem obj_words (x : Hd) (hg : x.Good) (w : World) :
    Calls Tryz.prog 45 #[.agg (hdCells x)] w fun e w' => e = .returned (.int .i64 x.words) ∧ Upd [] [] w w' := by
  obtain ⟨h1, h2, h3, h4, h5, h6, h7⟩ := hg
  simp only [hdCells]
  go_enter Tryz.func45, Tryz.ntmps45
  go_wp2
  all_goals
    go_ret
    first
      | exact ⟨rfl, Upd.skip (In.nil w) _⟩
      | (have h0 : x.size = 0 := by omega
         exact ⟨by simp [Hd.words, h0], Upd.skip (In.nil w) _⟩)

/-- a call that held nothing, beside blocks that are held -/
theorem Upd.with {w w' : World} {h : Hp} (u : Upd [] [] w w') (hi : In w h) : Upd h h w w' := by
  have := u.beside (k := h) hi
  simpa using this

def wayW (ws : List Int) (i : Int) : Int := if 0 ≤ i ∧ i ≤ 1048576 then wrap64 (ldW ws (i + 1)) else 0
def wayE (ws : List Int) (i : Int) : Int := if 0 ≤ i ∧ i ≤ 1048576 then errW ws.length (i + 1) 1 else 2
def u64 (x : Int) : Int := x % 18446744073709551616
theorem U64_u64 (x : Int) : U64 (u64 x) := by unfold U64 u64; omega
def setWayW (ws : List Int) (i to : Int) : List Int := if 0 ≤ i ∧ i ≤ 1048576 then stW ws (i + 1) (u64 to) else ws
def place (i n : Int) : Int := if 0 ≤ i ∧ i ≤ 1048576 ∧ 0 ≤ n ∧ n < 64 then i + 2 + n else -1

set_option maxRecDepth 100000 in
set_option maxHeartbeats 400000 in
theorem obj_way (pa : Nat) (ws : List Int) (i : Int) (w : World) (h : Hp) (hi : In w h) (ha : ArenaH pa ws h) :
    Calls Tryz.prog 85 #[.pointer (some ⟨pa, 0, none⟩), .int .i64 i] w fun e w' =>
      e = .returned (.tuple #[.int .i64 (wayW ws i), .int .i64 (wayE ws i)]) ∧ ∃ h', ArenaH pa ws h' ∧ Upd h h' w w' := by
  by_cases hr : 0 ≤ i ∧ i ≤ 1048576
  · have h1 : wayW ws i = wrap64 (ldW ws (i + 1)) := by rw [wayW, if_pos hr]
    have h2 : wayE ws i = errW ws.length (i + 1) 1 := by rw [wayE, if_pos hr]
    rw [h1, h2]
    clear h1 h2
    obtain ⟨r1, r2⟩ := hr
    have hl := arena_load pa ws (i + 1) w h hi ha
    go_enter Tryz.func85, Tryz.ntmps85
    go_wp2_with (go_at_call 76; refine Calls.mono hl ?_; rintro e w1 ⟨rfl, h', a1, u1⟩)
    go_ret2
    exact ⟨rfl, h', a1, u1⟩
  · have h1 : wayW ws i = 0 := by rw [wayW, if_neg hr]
    have h2 : wayE ws i = 2 := by rw [wayE, if_neg hr]
    rw [h1, h2]
    clear h1 h2
    by_cases r1 : 0 ≤ i
    · have r2 : 1048576 < i := by omega
      clear hr
      go_enter Tryz.func85, Tryz.ntmps85
      go_wp2
      go_ret2
      exact ⟨rfl, h, ha, Upd.refl hi⟩
    · clear hr
      go_enter Tryz.func85, Tryz.ntmps85
      go_wp2
      go_ret2
      exact ⟨rfl, h, ha, Upd.refl hi⟩

set_option maxRecDepth 100000 in
set_option maxHeartbeats 400000 in
theorem obj_setway (pa : Nat) (ws : List Int) (i to : Int) (w : World) (h : Hp) (hi : In w h) (ha : ArenaH pa ws h) :
    Calls Tryz.prog 64 #[.pointer (some ⟨pa, 0, none⟩), .int .i64 i, .int .i64 to] w fun e w' =>
      e = .returned (.int .i64 (wayE ws i)) ∧ ∃ h', ArenaH pa (setWayW ws i to) h' ∧ Upd h h' w w' := by
  by_cases hr : 0 ≤ i ∧ i ≤ 1048576
  · have h1 : setWayW ws i to = stW ws (i + 1) (u64 to) := by rw [setWayW, if_pos hr]
    have h2 : wayE ws i = errW ws.length (i + 1) 1 := by rw [wayE, if_pos hr]
    rw [h1, h2]
    clear h1 h2
    obtain ⟨r1, r2⟩ := hr
    have hl := arena_store pa ws (i + 1) (u64 to) w h hi ha (U64_u64 to)
    have hw : IntKind.u64.wrap to = u64 to := IntKind.wrap_u64 to
    go_enter Tryz.func64, Tryz.ntmps64
    go_wp2_with (go_at_call 66; refine Calls.mono hl ?_; rintro e w1 ⟨rfl, h', a1, u1⟩)
    go_ret
    exact ⟨rfl, h', a1, u1⟩
  · have h1 : setWayW ws i to = ws := by rw [setWayW, if_neg hr]
    have h2 : wayE ws i = 2 := by rw [wayE, if_neg hr]
    rw [h1, h2]
    clear h1 h2
    by_cases r1 : 0 ≤ i
    · have r2 : 1048576 < i := by omega
      clear hr
      go_enter Tryz.func64, Tryz.ntmps64
      go_wp2
      go_ret
      exact ⟨rfl, h, ha, Upd.refl hi⟩
    · clear hr
      go_enter Tryz.func64, Tryz.ntmps64
      go_wp2
      go_ret
      exact ⟨rfl, h, ha, Upd.refl hi⟩

set_option maxRecDepth 100000 in
set_option maxHeartbeats 400000 in
theorem obj_place (i n : Int) (w : World) :
    Calls Tryz.prog 67 #[.int .i64 i, .int .i64 n] w fun e w' => e = .returned (.int .i64 (place i n)) ∧ w = w' := by
  by_cases hr : 0 ≤ i ∧ i ≤ 1048576 ∧ 0 ≤ n ∧ n < 64
  · have h1 : place i n = i + 2 + n := by rw [place, if_pos hr]
    rw [h1]
    clear h1
    obtain ⟨r1, r2, r3, r4⟩ := hr
    go_enter Tryz.func67, Tryz.ntmps67
    go_wp2
    go_ret
    exact ⟨rfl, rfl⟩
  · have h1 : place i n = -1 := by rw [place, if_neg hr]
    rw [h1]
    clear h1
    have HR := Lib.hid hr
    clear hr
    go_enter Tryz.func67, Tryz.ntmps67
    go_wp2
    all_goals
      go_ret
      first
        | exact ⟨rfl, rfl⟩
        | (exfalso; have := HR.out; omega)

set_option maxRecDepth 100000 in
set_option maxHeartbeats 400000 in
theorem obj_field (pa : Nat) (ws : List Int) (i n : Int) (w : World) (h : Hp) (hi : In w h) (ha : ArenaH pa ws h) :
    Calls Tryz.prog 57 #[.pointer (some ⟨pa, 0, none⟩), .int .i64 i, .int .i64 n] w fun e w' =>
      e = .returned (.tuple #[.int .u64 (ldW ws (place i n)), .int .i64 (errW ws.length (place i n) 1)]) ∧ ∃ h', ArenaH pa ws h' ∧ Upd h h' w w' := by
  have hl := arena_load pa ws (place i n) w h hi ha
  have hp := obj_place i n w
  go_enter Tryz.func57, Tryz.ntmps57
  go_wp2_with (first | (go_at_call 67; refine Calls.mono hp ?_; rintro e w1 ⟨rfl, rfl⟩) | (go_at_call 76; refine Calls.mono hl ?_; rintro e w1 ⟨rfl, h', a1, u1⟩))
  go_ret2
  exact ⟨rfl, h', a1, u1⟩

set_option maxRecDepth 100000 in
set_option maxHeartbeats 400000 in
theorem obj_setfield (pa : Nat) (ws : List Int) (i n v : Int) (w : World) (h : Hp) (hi : In w h) (ha : ArenaH pa ws h) (hv : U64 v) :
    Calls Tryz.prog 51 #[.pointer (some ⟨pa, 0, none⟩), .int .i64 i, .int .i64 n, .int .u64 v] w fun e w' =>
      e = .returned (.int .i64 (errW ws.length (place i n) 1)) ∧ ∃ h', ArenaH pa (stW ws (place i n) v) h' ∧ Upd h h' w w' := by
  have hl := arena_store pa ws (place i n) v w h hi ha hv
  have hp := obj_place i n w
  go_enter Tryz.func51, Tryz.ntmps51
  go_wp2_with (first | (go_at_call 67; refine Calls.mono hp ?_; rintro e w1 ⟨rfl, rfl⟩) | (go_at_call 66; refine Calls.mono hl ?_; rintro e w1 ⟨rfl, h', a1, u1⟩))
  go_ret
  exact ⟨rfl, h', a1, u1⟩

set_option maxRecDepth 100000 in
set_option maxHeartbeats 1000000 in
theorem obj_sethead (pa : Nat) (ws : List Int) (i : Int) (x : Hd) (hg : x.Good) (w : World) (h : Hp) (hi : In w h) (ha : ArenaH pa ws h) :
    Calls Tryz.prog 63 #[.pointer (some ⟨pa, 0, none⟩), .int .i64 i, .agg (hdCells x)] w fun e w' =>
      e = .returned (.int .i64 (errW ws.length i 1)) ∧ ∃ h', ArenaH pa (stW ws i x.enc) h' ∧ Upd h h' w w' := by
  have hp := head_pack x
  rw [Hd.good_true hg, show x.encE = x.enc from by rw [Hd.encE, if_pos (Hd.good_true hg)]] at hp
  have hl := fun w1 (h1 : In w1 h) => arena_store pa ws i x.enc w1 h h1 ha (enc_bounds hg)
  simp only [hdCells] at *
  go_enter Tryz.func63, Tryz.ntmps63
  go_wp2_with (first | (go_at_call 81; refine Calls.mono (hp _) ?_; rintro e w1 ⟨rfl, u1⟩; have u1' := Upd.with u1 (hi.alloc _)) | (go_at_call 66; refine Calls.mono (hl _ u1'.inn) ?_; rintro e w2 ⟨rfl, h', a1, u2⟩))
  go_ret
  exact ⟨rfl, h', a1, ((Upd.skip hi _).trans u1').trans u2⟩

/-- what Head answers -/
def headE (ws : List Int) (i : Int) : Int := if hasW ws.length i 1 then (if isHd (rd ws i) then 0 else 1) else 2
def headS (ws : List Int) (i : Int) : Hd := unH (ldW ws i)

theorem ld_u64 {ws : List Int} (h : ∀ x ∈ ws, U64 x) (i : Int) : U64 (ldW ws i) := by
  unfold ldW
  split
  · rename_i hh
    obtain ⟨k, rfl, hk⟩ := has_one hh
    have : rd ws k = ws[k] := by simp [rd, List.getD, hk]
    rw [this]
    exact h _ (List.getElem_mem hk)
  · exact ⟨by decide, by decide⟩

set_option maxRecDepth 100000 in
set_option maxHeartbeats 2000000 in
theorem obj_head (pa : Nat) (ws : List Int) (i : Int) (w : World) (h : Hp) (hi : In w h) (ha : ArenaH pa ws h) :
    Calls Tryz.prog 82 #[.pointer (some ⟨pa, 0, none⟩), .int .i64 i] w fun e w' =>
      e = .returned (.tuple #[.agg (hdCells (headS ws i)), .int .i64 (headE ws i)]) ∧ ∃ h', ArenaH pa ws h' ∧ Upd h h' w w' := by
  have hl := fun w1 (h1 : In w1 h) => arena_load pa ws i w1 h h1 ha
  have hu : U64 (ldW ws i) := by obtain ⟨b, n, rfl, _, hu⟩ := ha; exact ld_u64 hu i
  have hz := Upd.alloc hi (.cells (hdCells hd0) 112 (0, 0))
  by_cases hh : hasW ws.length i 1 = true
  · have he : errW ws.length i 1 = 0 := by simp [errW, hh]
    have hld : ldW ws i = rd ws i := by simp [ldW, hh]
    rw [he] at hl
    have hup := fun w1 => head_unpack (ldW ws i) w1 hu.1 hu.2
    cases hd : isHd (ldW ws i)
    · have hE : headE ws i = 1 := by simp [headE, hh, ← hld, hd]
      have hS : headS ws i = hd0 := by simp [headS, unH, hd]
      rw [hE, hS]
      rw [hd, show unH (ldW ws i) = hd0 from by simp [unH, hd]] at hup
      clear hE hS hld he hd hh
      simp only [hdCells, hd0] at hup
      go_enter Tryz.func82, Tryz.ntmps82
      go_wp2_with (first | (go_at_call 76; refine Calls.mono (hl _ hz.inn.tail) ?_; rintro e w1 ⟨rfl, h', a1, u1⟩; have U1 := hz.under u1) | (go_at_call 90; refine Calls.mono (hup _) ?_; rintro e w2 ⟨rfl, u2⟩; have U2 := U1.under0 u2; have lt2 := U2.inn.lt (b := w.heap.size) (by simp); have ne2 := Nat.ne_of_lt lt2; obtain ⟨d0, d1, d2, d3, d4, d5, d6⟩ := hd_cells U2.inn.head; obtain ⟨f0, f1, f2, f3, f4, f5, f6⟩ := hd_frozen U2.inn.head))
      have UF := (U2.hd hd0).skip1 (.cells (hdCells hd0) 112 (0, 0))
      have G := hd_cells UF.inn.head
      try simp only [hd0, hdCells] at G
      obtain ⟨g0, g1, g2, g3, g4, g5, g6⟩ := G
      clear d0 d1 d2 d3 d4 d5 d6 f0 f1 f2 f3 f4 f5 f6
      refine bodyPost_ret (v := .tuple #[.agg (hdCells hd0), .int .i64 1]) ?_ rfl ⟨rfl, h', a1, UF.drop1⟩
      simp only [results, Tryz.results82]
      simp [go_sem, hdCells, hd0, g0, g1, g2, g3, g4, g5, g6]
    · have hE : headE ws i = 0 := by simp [headE, hh, ← hld, hd]
      have hS : headS ws i = unH (ldW ws i) := rfl
      obtain ⟨H, hH⟩ : ∃ H, H = unH (ldW ws i) := ⟨_, rfl⟩
      rw [hE, hS, ← hH]
      rw [hd, ← hH] at hup
      clear hE hS hld he hd hh hH
      simp only [hdCells] at hup
      go_enter Tryz.func82, Tryz.ntmps82
      go_wp2_with (first | (go_at_call 76; refine Calls.mono (hl _ hz.inn.tail) ?_; rintro e w1 ⟨rfl, h', a1, u1⟩; have U1 := hz.under u1) | (go_at_call 90; refine Calls.mono (hup _) ?_; rintro e w2 ⟨rfl, u2⟩; have U2 := U1.under0 u2; have lt2 := U2.inn.lt (b := w.heap.size) (by simp); have ne2 := Nat.ne_of_lt lt2; obtain ⟨d0, d1, d2, d3, d4, d5, d6⟩ := hd_cells U2.inn.head; obtain ⟨f0, f1, f2, f3, f4, f5, f6⟩ := hd_frozen U2.inn.head))
      have UF := (U2.hd H).skip1 (.cells (hdCells H) 112 (0, 0))
      have G := hd_cells UF.inn.head
      try simp only [hd0, hdCells] at G
      obtain ⟨g0, g1, g2, g3, g4, g5, g6⟩ := G
      clear d0 d1 d2 d3 d4 d5 d6 f0 f1 f2 f3 f4 f5 f6
      refine bodyPost_ret (v := .tuple #[.agg (hdCells H), .int .i64 0]) ?_ rfl ⟨rfl, h', a1, UF.drop1⟩
      simp only [results, Tryz.results82]
      simp [go_sem, hdCells, hd0, g0, g1, g2, g3, g4, g5, g6]
  · have hh' : hasW ws.length i 1 = false := by simpa using hh
    have he : errW ws.length i 1 = 2 := by simp [errW, hh']
    have hE : headE ws i = 2 := by simp [headE, hh']
    have h0 : unH 0 = hd0 := by decide
    have hS : headS ws i = hd0 := by simp [headS, ldW, hh', h0]
    rw [he] at hl
    rw [hE, hS]
    clear hE hS he hh hh' h0
    go_enter Tryz.func82, Tryz.ntmps82
    go_wp2_with (first | (go_at_call 76; refine Calls.mono (hl _ hz.inn.tail) ?_; rintro e w1 ⟨rfl, h', a1, u1⟩; have U1 := hz.under u1; obtain ⟨d0, d1, d2, d3, d4, d5, d6⟩ := hd_cells U1.inn.head; obtain ⟨f0, f1, f2, f3, f4, f5, f6⟩ := hd_frozen U1.inn.head))
    have UF := U1.hd hd0
    have G := hd_cells UF.inn.head
    try simp only [hd0, hdCells] at G
    obtain ⟨g0, g1, g2, g3, g4, g5, g6⟩ := G
    clear d0 d1 d2 d3 d4 d5 d6 f0 f1 f2 f3 f4 f5 f6
    refine bodyPost_ret (v := .tuple #[.agg (hdCells hd0), .int .i64 2]) ?_ rfl ⟨rfl, h', a1, UF.drop1⟩
    simp only [results, Tryz.results82]
    simp [go_sem, hdCells, hd0, g0, g1, g2, g3, g4, g5, g6]

def objMakeW (ws : List Int) (i : Int) (x : Hd) : List Int :=
  if hasW ws.length i x.words then setWayW (stW (zeroW ws i x.words.toNat) i x.enc) i i else ws
def objMakeE (ws : List Int) (i : Int) (x : Hd) : Int :=
  if hasW ws.length i x.words then wayE (stW (zeroW ws i x.words.toNat) i x.enc) i else 2

theorem Hd.words_nat {x : Hd} (hg : x.Good) : x.words = (x.words.toNat : Int) ∧ 0 < x.words.toNat := by
  obtain ⟨h1, h2, _⟩ := hg
  unfold Hd.words
  omega

set_option maxRecDepth 100000 in
set_option maxHeartbeats 2000000 in
theorem obj_make (pa : Nat) (ws : List Int) (i : Int) (x : Hd) (hg : x.Good) (w : World) (h : Hp) (hi : In w h) (ha : ArenaH pa ws h) :
    Calls Tryz.prog 48 #[.pointer (some ⟨pa, 0, none⟩), .int .i64 i, .agg (hdCells x)] w fun e w' =>
      e = .returned (.int .i64 (objMakeE ws i x)) ∧ ∃ h', ArenaH pa (objMakeW ws i x) h' ∧ Upd h h' w w' := by
  have hgood := head_good x
  rw [Hd.good_true hg] at hgood
  have hwords := obj_words x hg
  obtain ⟨hn, hn0⟩ := Hd.words_nat hg
  obtain ⟨n, hnn⟩ : ∃ n, n = x.words.toNat := ⟨_, rfl⟩
  rw [hn] at hwords
  rw [← hnn] at hwords hn0
  have hzero := fun w1 (h1 : In w1 h) => arena_zero pa ws i n w1 h h1 ha hn0
  have U0 := Upd.alloc hi (.cells (hdCells x) 112 (0, 0))
  by_cases hh : hasW ws.length i n = true
  · have e1 : objMakeE ws i x = wayE (stW (zeroW ws i n) i x.enc) i := by rw [objMakeE, hn, ← hnn, if_pos hh, Int.toNat_natCast]
    have e2 : objMakeW ws i x = setWayW (stW (zeroW ws i n) i x.enc) i i := by rw [objMakeW, hn, ← hnn, if_pos hh, Int.toNat_natCast]
    have e3 : errW ws.length i n = 0 := by simp [errW, hh]
    rw [e1, e2]
    rw [e3] at hzero
    have hset := fun w1 h1 (hi1 : In w1 h1) (ha1 : ArenaH pa (zeroW ws i n) h1) => obj_sethead pa (zeroW ws i n) i x hg w1 h1 hi1 ha1
    have hway := fun w1 h1 (hi1 : In w1 h1) (ha1 : ArenaH pa (stW (zeroW ws i n) i x.enc) h1) => obj_setway pa (stW (zeroW ws i n) i x.enc) i i w1 h1 hi1 ha1
    clear e1 e2 e3 hh hn hnn hn0
    simp only [hdCells] at *
    go_enter Tryz.func48, Tryz.ntmps48
    go_wp2_with (first
      | (go_at_call 61; refine Calls.mono (hgood _) ?_; rintro e w1 ⟨rfl, u1⟩; have U1 := U0.under0 u1; obtain ⟨d0, d1, d2, d3, d4, d5, d6⟩ := hd_cells (x := x) U1.inn.head)
      | (go_at_call 45; refine Calls.mono (hwords _) ?_; rintro e w2 ⟨rfl, u2⟩; have U2 := U1.under0 u2; clear d0 d1 d2 d3 d4 d5 d6; obtain ⟨d0, d1, d2, d3, d4, d5, d6⟩ := hd_cells (x := x) U2.inn.head)
      | (go_at_call 62; refine Calls.mono (hzero _ U2.inn.tail) ?_; rintro e w3 ⟨rfl, h3, a3, u3⟩; have U3 := U2.under u3; clear d0 d1 d2 d3 d4 d5 d6; obtain ⟨d0, d1, d2, d3, d4, d5, d6⟩ := hd_cells (x := x) U3.inn.head)
      | (go_at_call 63; refine Calls.mono (hset _ _ U3.inn.tail a3) ?_; rintro e w4 ⟨rfl, h4, a4, u4⟩; have U4 := U3.under u4)
      | (go_at_call 64; refine Calls.mono (hway _ _ U4.inn.tail a4) ?_; rintro e w5 ⟨rfl, h5, a5, u5⟩; have U5 := U4.under u5))
    go_ret
    exact ⟨rfl, _, a5, U5.drop1⟩
  · have hh' : hasW ws.length i n = false := by simpa using hh
    have e1 : objMakeE ws i x = 2 := by rw [objMakeE, hn, ← hnn, if_neg hh]
    have e2 : objMakeW ws i x = ws := by rw [objMakeW, hn, ← hnn, if_neg hh]
    have e3 : errW ws.length i n = 2 := by simp [errW, hh']
    have e4 : zeroW ws i n = ws := by simp [zeroW, hh']
    rw [e1, e2]
    rw [e3, e4] at hzero
    clear e1 e2 e3 e4 hh hh' hn hnn hn0
    simp only [hdCells] at *
    go_enter Tryz.func48, Tryz.ntmps48
    go_wp2_with (first
      | (go_at_call 61; refine Calls.mono (hgood _) ?_; rintro e w1 ⟨rfl, u1⟩; have U1 := U0.under0 u1; obtain ⟨d0, d1, d2, d3, d4, d5, d6⟩ := hd_cells (x := x) U1.inn.head)
      | (go_at_call 45; refine Calls.mono (hwords _) ?_; rintro e w2 ⟨rfl, u2⟩; have U2 := U1.under0 u2; clear d0 d1 d2 d3 d4 d5 d6; obtain ⟨d0, d1, d2, d3, d4, d5, d6⟩ := hd_cells (x := x) U2.inn.head)
      | (go_at_call 62; refine Calls.mono (hzero _ U2.inn.tail) ?_; rintro e w3 ⟨rfl, h3, a3, u3⟩; have U3 := U2.under u3; clear d0 d1 d2 d3 d4 d5 d6; obtain ⟨d0, d1, d2, d3, d4, d5, d6⟩ := hd_cells (x := x) U3.inn.head))
    go_ret
    exact ⟨rfl, _, a3, U3.drop1⟩

/-- the words behind the copy of an object, its head, its way, and the elder one's way -/
def objMoveW (ws : List Int) (i j : Int) (x : Hd) : List Int :=
  if copyOk ws i j x.words.toNat then setWayW (setWayW (stW (copyW ws i j x.words.toNat) j x.enc) j j) i j else ws
def objMoveE (ws : List Int) (i j : Int) (x : Hd) : Int :=
  if copyOk ws i j x.words.toNat then wayE (setWayW (stW (copyW ws i j x.words.toNat) j x.enc) j j) i else 2

set_option maxRecDepth 100000 in
set_option maxHeartbeats 2000000 in
theorem obj_move (pa : Nat) (ws : List Int) (i j : Int) (x : Hd) (hg : x.Good) (w : World) (h : Hp) (hi : In w h) (ha : ArenaH pa ws h) :
    Calls Tryz.prog 74 #[.pointer (some ⟨pa, 0, none⟩), .int .i64 i, .int .i64 j, .agg (hdCells x)] w fun e w' =>
      e = .returned (.int .i64 (objMoveE ws i j x)) ∧ ∃ h', ArenaH pa (objMoveW ws i j x) h' ∧ Upd h h' w w' := by
  have hgood := head_good x
  rw [Hd.good_true hg] at hgood
  have hwords := obj_words x hg
  obtain ⟨hn, hn0⟩ := Hd.words_nat hg
  obtain ⟨n, hnn⟩ : ∃ n, n = x.words.toNat := ⟨_, rfl⟩
  rw [hn] at hwords
  rw [← hnn] at hwords hn0
  have hcopy := fun w1 (h1 : In w1 h) => arena_copy pa ws i j n w1 h h1 ha hn0
  have U0 := Upd.alloc hi (.cells (hdCells x) 112 (0, 0))
  by_cases hh : copyOk ws i j n = true
  · have e1 : objMoveE ws i j x = wayE (setWayW (stW (copyW ws i j n) j x.enc) j j) i := by rw [objMoveE, ← hnn, if_pos hh]
    have e2 : objMoveW ws i j x = setWayW (setWayW (stW (copyW ws i j n) j x.enc) j j) i j := by rw [objMoveW, ← hnn, if_pos hh]
    have e3 : copyE ws i j n = 0 := by simp [copyE, hh]
    rw [e1, e2]
    rw [e3] at hcopy
    have hset := fun w1 h1 (hi1 : In w1 h1) (ha1 : ArenaH pa (copyW ws i j n) h1) => obj_sethead pa (copyW ws i j n) j x hg w1 h1 hi1 ha1
    have hway := fun ws1 p1 q1 w1 h1 (hi1 : In w1 h1) (ha1 : ArenaH pa ws1 h1) => obj_setway pa ws1 p1 q1 w1 h1 hi1 ha1
    clear e1 e2 e3 hh hn hnn hn0
    simp only [hdCells] at *
    go_enter Tryz.func74, Tryz.ntmps74
    go_wp2_with (first
      | (go_at_call 61; refine Calls.mono (hgood _) ?_; rintro e w1 ⟨rfl, u1⟩; have U1 := U0.under0 u1; obtain ⟨d0, d1, d2, d3, d4, d5, d6⟩ := hd_cells (x := x) U1.inn.head)
      | (go_at_call 45; refine Calls.mono (hwords _) ?_; rintro e w2 ⟨rfl, u2⟩; have U2 := U1.under0 u2; clear d0 d1 d2 d3 d4 d5 d6; obtain ⟨d0, d1, d2, d3, d4, d5, d6⟩ := hd_cells (x := x) U2.inn.head)
      | (go_at_call 87; refine Calls.mono (hcopy _ U2.inn.tail) ?_; rintro e w3 ⟨rfl, h3, a3, u3⟩; have U3 := U2.under u3; clear d0 d1 d2 d3 d4 d5 d6; obtain ⟨d0, d1, d2, d3, d4, d5, d6⟩ := hd_cells (x := x) U3.inn.head)
      | (go_at_call 63; refine Calls.mono (hset _ _ U3.inn.tail a3) ?_; rintro e w4 ⟨rfl, h4, a4, u4⟩; have U4 := U3.under u4)
      | (go_at_call 64; with_reducible refine Calls.mono (hway _ j j _ _ U4.inn.tail a4) ?_; rintro e w5 ⟨rfl, h5, a5, u5⟩; have U5 := U4.under u5; clear U4)
      | (go_at_call 64; with_reducible refine Calls.mono (hway _ i j _ _ U5.inn.tail a5) ?_; rintro e w6 ⟨rfl, h6, a6, u6⟩; have U6 := U5.under u6))
    go_ret
    exact ⟨rfl, _, a6, U6.drop1⟩
  · have hh' : copyOk ws i j n = false := by simpa using hh
    have e1 : objMoveE ws i j x = 2 := by rw [objMoveE, ← hnn, if_neg hh]
    have e2 : objMoveW ws i j x = ws := by rw [objMoveW, ← hnn, if_neg hh]
    have e3 : copyE ws i j n = 2 := by simp [copyE, hh']
    have e4 : copyW ws i j n = ws := by simp [copyW, hh']
    rw [e1, e2]
    rw [e3, e4] at hcopy
    clear e1 e2 e3 e4 hh hh' hn hnn hn0
    simp only [hdCells] at *
    go_enter Tryz.func74, Tryz.ntmps74
    go_wp2_with (first
      | (go_at_call 61; refine Calls.mono (hgood _) ?_; rintro e w1 ⟨rfl, u1⟩; have U1 := U0.under0 u1; obtain ⟨d0, d1, d2, d3, d4, d5, d6⟩ := hd_cells (x := x) U1.inn.head)
      | (go_at_call 45; refine Calls.mono (hwords _) ?_; rintro e w2 ⟨rfl, u2⟩; have U2 := U1.under0 u2; clear d0 d1 d2 d3 d4 d5 d6; obtain ⟨d0, d1, d2, d3, d4, d5, d6⟩ := hd_cells (x := x) U2.inn.head)
      | (go_at_call 87; refine Calls.mono (hcopy _ U2.inn.tail) ?_; rintro e w3 ⟨rfl, h3, a3, u3⟩; have U3 := U2.under u3; clear d0 d1 d2 d3 d4 d5 d6; obtain ⟨d0, d1, d2, d3, d4, d5, d6⟩ := hd_cells (x := x) U3.inn.head))
    go_ret
    exact ⟨rfl, _, a3, U3.drop1⟩

end Go.Proofs.YtglbhcoikgbcmaaGreat
