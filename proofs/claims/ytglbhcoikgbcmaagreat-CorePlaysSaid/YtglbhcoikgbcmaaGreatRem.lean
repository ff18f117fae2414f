/- What New and Add of package remset come to. Conditions: a set as New makes it. -/
import Derived.Test.YtglbhcoikgbcmaaGreatRows
import Derived.Test.YtglbhcoikgbcmaaGreatLib
import Derived.Test.YtglbhcoikgbcmaaGreatSlice
import Derived.Test.YtglbhcoikgbcmaaGreatCard
import Derived.Deep.RegionHeld3
set_option linter.unusedVariables false
set_option linter.unusedSimpArgs false
namespace Go.Proofs.YtglbhcoikgbcmaaGreat
open Go.RowKit

structure RemS where
  base : Int
  words : Int
  size : Int
  most : Int
  nb : BufS
  nc : CardS
  tb : BufS
  tc : CardS

def RemS.WF (s : RemS) : Prop := 0 < s.base ∧ s.base ≤ 1048576 ∧ 0 ≤ s.words ∧ s.words ≤ 1048576 ∧ 1 ≤ s.size ∧ s.size ≤ 1048576 ∧ 0 ≤ s.most ∧ s.most ≤ 1048576

/-- the places of a set's blocks -/
structure RemP where
  bm : Nat
  bf : Nat
  bw : Nat
  bs : Nat
  nb : Nat
  nc : Nat
  tb : Nat
  tc : Nat
def ptr (b : Nat) : Value := .pointer (some ⟨b, 0, none⟩)
def sideFn (q : RemP) : Value := .func (.func 40) #[] #[ptr q.bm, ptr q.bf, ptr q.bw, ptr q.bs]
def remBoxes (q : RemP) (s : RemS) : Hp := [(q.bm, .cells #[.int .i64 s.most] 3 (0, 0)), (q.bs, .cells #[.int .i64 s.size] 3 (0, 0)), (q.bw, .cells #[.int .i64 s.words] 3 (0, 0)), (q.bf, .cells #[.int .i64 s.base] 3 (0, 0))]
def remObj (q : RemP) (s : RemS) : Obj := .cells #[.int .i64 s.base, .int .i64 s.words, sideFn q, ptr q.nb, ptr q.nc, ptr q.tb, ptr q.tc] 103 (0, 0)
/-- a set: its own block and the four boxes that its function holds; then the parts -/
def RemH (p : Nat) (s : RemS) (h : Hp) : Prop :=
  ∃ q h1 h2 h3 h4, h = [(p, remObj q s) :: remBoxes q s, h1, h2, h3, h4].flatten ∧ BufH q.nb s.nb h1 ∧ CardH q.nc s.nc h2 ∧ BufH q.tb s.tb h3 ∧ CardH q.tc s.tc h4 ∧ s.WF

/-- four cells behind two stores beside them -/
theorem keep4 {w : World} {k a b c d o1 o2 : Nat} {x1 x2 v1 v2 v3 v4 : Value} (h : w.cell? ⟨a, 0, none⟩ = some v1 ∧ w.cell? ⟨b, 0, none⟩ = some v2 ∧ w.cell? ⟨c, 0, none⟩ = some v3 ∧ w.cell? ⟨d, 0, none⟩ = some v4) (m1 : k ≠ a) (m2 : k ≠ b) (m3 : k ≠ c) (m4 : k ≠ d) :
    ((w.setCell ⟨k, o1, none⟩ x1).setCell ⟨k, o2, none⟩ x2).cell? ⟨a, 0, none⟩ = some v1 ∧ ((w.setCell ⟨k, o1, none⟩ x1).setCell ⟨k, o2, none⟩ x2).cell? ⟨b, 0, none⟩ = some v2 ∧
    ((w.setCell ⟨k, o1, none⟩ x1).setCell ⟨k, o2, none⟩ x2).cell? ⟨c, 0, none⟩ = some v3 ∧ ((w.setCell ⟨k, o1, none⟩ x1).setCell ⟨k, o2, none⟩ x2).cell? ⟨d, 0, none⟩ = some v4 := by
  have e : ∀ z v, k ≠ z → w.cell? ⟨z, 0, none⟩ = some v → ((w.setCell ⟨k, o1, none⟩ x1).setCell ⟨k, o2, none⟩ x2).cell? ⟨z, 0, none⟩ = some v := by
    intro z v hz hv
    rw [World.cell?_setCell_other _ _ _ _ (by simp [hz]), World.cell?_setCell_other _ _ _ _ (by simp [hz])]
    exact hv
  exact ⟨e a v1 m1 h.1, e b v2 m2 h.2.1, e c v3 m3 h.2.2.1, e d v4 m4 h.2.2.2⟩

set_option maxRecDepth 100000 in
set_option maxHeartbeats 2000000 in
theorem rem_side (q : RemP) (s : RemS) (w : World) (hi : In w (remBoxes q s)) (hs : s.WF) :
    Calls Tryz.prog 40 #[ptr q.bm, ptr q.bf, ptr q.bw, ptr q.bs] w fun e w' => ∃ b c h1 h2, e = .returned (.agg #[ptr b, ptr c]) ∧ BufH b ⟨s.most, []⟩ h1 ∧ CardH c (cardNew s.base s.words s.size) h2 ∧ Upd [] (h2 ++ h1) w w' := by
  obtain ⟨s1, s2, s3, s4, s5, s6, s7, s8⟩ := hs
  obtain ⟨n, hn⟩ : ∃ n : Nat, s.most = n := ⟨s.most.toNat, by omega⟩
  have hbn := fun W => buf_new n W (by omega)
  rw [← hn] at hbn
  clear hn
  have hcn := fun W => card_new s.base s.words s.size W s1 s2 s3 s4 s5 s6
  have U0 := (Upd.alloc (In.nil w) (.cells #[.pointer none, .pointer none] 98 (0, 0))).drew'
  have b0 : ∀ w', Below w.heap.size w w' → w'.cell? ⟨q.bm, 0, none⟩ = some (.int .i64 s.most) ∧ w'.cell? ⟨q.bf, 0, none⟩ = some (.int .i64 s.base) ∧ w'.cell? ⟨q.bw, 0, none⟩ = some (.int .i64 s.words) ∧ w'.cell? ⟨q.bs, 0, none⟩ = some (.int .i64 s.size) := by
    intro w' hb
    have l := fun b (hb : b ∈ (remBoxes q s).map Prod.fst) => hi.lt hb
    refine ⟨?_, ?_, ?_, ?_⟩
    · exact (hb.cell (p := ⟨q.bm, 0, none⟩) (l _ (by simp [remBoxes]))).trans (cell_of (hi.mem (b := q.bm) (o := .cells #[.int .i64 s.most] 3 (0, 0)) (by simp [remBoxes])) 0)
    · exact (hb.cell (p := ⟨q.bf, 0, none⟩) (l _ (by simp [remBoxes]))).trans (cell_of (hi.mem (b := q.bf) (o := .cells #[.int .i64 s.base] 3 (0, 0)) (by simp [remBoxes])) 0)
    · exact (hb.cell (p := ⟨q.bw, 0, none⟩) (l _ (by simp [remBoxes]))).trans (cell_of (hi.mem (b := q.bw) (o := .cells #[.int .i64 s.words] 3 (0, 0)) (by simp [remBoxes])) 0)
    · exact (hb.cell (p := ⟨q.bs, 0, none⟩) (l _ (by simp [remBoxes]))).trans (cell_of (hi.mem (b := q.bs) (o := .cells #[.int .i64 s.size] 3 (0, 0)) (by simp [remBoxes])) 0)
  have hB0 := b0 _ (U0.forget (k := []) (List.nil_sublist _)).below
  have HB := Lib.hid b0
  clear b0
  have m1 : w.heap.size ≠ q.bm := Ne.symm (Nat.ne_of_lt (hi.lt (by simp [remBoxes])))
  have m2 : w.heap.size ≠ q.bf := Ne.symm (Nat.ne_of_lt (hi.lt (by simp [remBoxes])))
  have m3 : w.heap.size ≠ q.bw := Ne.symm (Nat.ne_of_lt (hi.lt (by simp [remBoxes])))
  have m4 : w.heap.size ≠ q.bs := Ne.symm (Nat.ne_of_lt (hi.lt (by simp [remBoxes])))
  simp only [ptr] at *
  go_enter Tryz.func40, Tryz.ntmps40
  go_wp2
  go_region_held3 (fun w' => w'.cell? ⟨q.bm, 0, none⟩ = some (.int .i64 s.most) ∧ w'.cell? ⟨q.bf, 0, none⟩ = some (.int .i64 s.base) ∧ w'.cell? ⟨q.bw, 0, none⟩ = some (.int .i64 s.words) ∧ w'.cell? ⟨q.bs, 0, none⟩ = some (.int .i64 s.size))
    (first | exact hB2 | exact hB1 | exact hB0 | exact keep4 hB2 m1 m2 m3 m4 | go_keep)
    (first | (go_at_call 41; (refine Calls.mono (hbn _) ?_; rintro e w1 ⟨p1, h1, rfl, b1, u1⟩; have U1 := U0.more u1; have hB1 := HB.out _ (U1.forget (k := []) (List.nil_sublist _)).below)) | (go_at_call 42; refine Calls.mono (hcn _) ?_; rintro e w2 ⟨p2, h2, rfl, b2, u2⟩; have U2 := U1.more u2; have hB2 := HB.out _ (U2.forget (k := []) (List.nil_sublist _)).below; have d0 : w2.cell? ⟨w.heap.size, 0, none⟩ = some (.pointer none) := cell_of (U2.inn.mem (b := w.heap.size) (o := .cells #[.pointer none, .pointer none] 98 (0, 0)) (by simp)) 0; have d1 : w2.cell? ⟨w.heap.size, 1, none⟩ = some (.pointer none) := cell_of (U2.inn.mem (b := w.heap.size) (o := .cells #[.pointer none, .pointer none] 98 (0, 0)) (by simp)) 1; have f0 : w2.frozen? ⟨w.heap.size, 0, none⟩ = false := frozen_of (U2.inn.mem (b := w.heap.size) (o := .cells #[.pointer none, .pointer none] 98 (0, 0)) (by simp)) 0; have f1 : w2.frozen? ⟨w.heap.size, 1, none⟩ = false := frozen_of (U2.inn.mem (b := w.heap.size) (o := .cells #[.pointer none, .pointer none] 98 (0, 0)) (by simp)) 1))
  go_wp2
  rw [← List.append_assoc] at U2
  have UF := (U2.store' (l := h2 ++ h1) (r := []) 0 (.pointer (some ⟨p1, 0, none⟩))).store' (l := h2 ++ h1) (r := []) 1 (.pointer (some ⟨p2, 0, none⟩))
  have g := UF.inn.mem (b := w.heap.size) (o := .cells #[.pointer (some ⟨p1, 0, none⟩), .pointer (some ⟨p2, 0, none⟩)] 98 (0, 0)) (by simp)
  have g0 := cell_of g 0
  have g1 := cell_of g 1
  clear d0 d1 f0 f1 g
  refine bodyPost_ret (v := .agg #[.pointer (some ⟨p1, 0, none⟩), .pointer (some ⟨p2, 0, none⟩)]) ?_ rfl ⟨_, _, _, _, rfl, b1, b2, UF.forget (List.sublist_append_left _ _)⟩
  simp only [results, Tryz.results40]
  simp [go_sem, g0, g1]

theorem perm5 {α : Type} (x : α) (a b c d e : List α) : (x :: ((d ++ c) ++ ((b ++ a) ++ e))).Perm ([x :: e, a, b, c, d].flatten) := by
  have h1 : ((d ++ c) ++ ((b ++ a) ++ e)).Perm ((e ++ (a ++ b)) ++ (c ++ d)) :=
    (List.perm_append_comm).trans (((List.perm_append_comm).trans (List.perm_append_comm.append_left e)).append List.perm_append_comm)
  simpa using h1.cons x

set_option maxRecDepth 100000 in
set_option maxHeartbeats 2000000 in
theorem rem_new (b n c m : Int) (w : World) (h1 : 0 < b) (h2 : b ≤ 1048576) (h3 : 0 ≤ n) (h4 : n ≤ 1048576) (h5 : 1 ≤ c) (h6 : c ≤ 1048576) (h7 : 0 ≤ m) (h8 : m ≤ 1048576) :
    Calls Tryz.prog 18 #[.int .i64 b, .int .i64 n, .int .i64 c, .int .i64 m] w fun e w' => ∃ p h', e = .returned (.pointer (some ⟨p, 0, none⟩)) ∧ RemH p ⟨b, n, c, m, ⟨m, []⟩, cardNew b n c, ⟨m, []⟩, cardNew b n c⟩ h' ∧ Upd [] h' w w' := by
  have key : ∀ hn : n = 0 ∨ 0 < n, Calls Tryz.prog 18 #[.int .i64 b, .int .i64 n, .int .i64 c, .int .i64 m] w fun e w' => ∃ p h', e = .returned (.pointer (some ⟨p, 0, none⟩)) ∧ RemH p ⟨b, n, c, m, ⟨m, []⟩, cardNew b n c, ⟨m, []⟩, cardNew b n c⟩ h' ∧ Upd [] h' w w' := by
    intro hn
    have hside := fun W (hi : In W (remBoxes ⟨w.heap.size + 1 + 1 + 1, w.heap.size, w.heap.size + 1, w.heap.size + 1 + 1, 0, 0, 0, 0⟩ ⟨b, n, c, m, ⟨m, []⟩, cardNew b n c, ⟨m, []⟩, cardNew b n c⟩)) =>
      rem_side ⟨w.heap.size + 1 + 1 + 1, w.heap.size, w.heap.size + 1, w.heap.size + 1 + 1, 0, 0, 0, 0⟩ ⟨b, n, c, m, ⟨m, []⟩, cardNew b n c, ⟨m, []⟩, cardNew b n c⟩ W hi ⟨h1, h2, h3, h4, h5, h6, h7, h8⟩
    have U0 := ((((((Upd.alloc (In.nil w) (.cells #[.int .i64 b] 3 (0, 0))).alloc' (.cells #[.int .i64 n] 3 (0, 0))).alloc' (.cells #[.int .i64 c] 3 (0, 0))).alloc' (.cells #[.int .i64 m] 3 (0, 0))).drew').drew')
    simp only [World.size_alloc] at U0
    have hfin : ∀ q w3 x1 x2 x3 x4, q = RemP.mk (w.heap.size + 1 + 1 + 1) w.heap.size (w.heap.size + 1) (w.heap.size + 1 + 1) q.nb q.nc q.tb q.tc → BufH q.nb ⟨m, []⟩ x1 → CardH q.nc (cardNew b n c) x2 → BufH q.tb ⟨m, []⟩ x3 → CardH q.tc (cardNew b n c) x4 →
        Upd [] ((x4 ++ x3) ++ ((x2 ++ x1) ++ (remBoxes q ⟨b, n, c, m, ⟨m, []⟩, cardNew b n c, ⟨m, []⟩, cardNew b n c⟩))) w w3 →
        ∃ h', RemH w3.heap.size ⟨b, n, c, m, ⟨m, []⟩, cardNew b n c, ⟨m, []⟩, cardNew b n c⟩ h' ∧ Upd [] h' w (w3.alloc (remObj q ⟨b, n, c, m, ⟨m, []⟩, cardNew b n c, ⟨m, []⟩, cardNew b n c⟩)) := by
      intro q w3 x1 x2 x3 x4 _ y1 y2 y3 y4 U
      exact ⟨_, ⟨q, x1, x2, x3, x4, rfl, y1, y2, y3, y4, ⟨h1, h2, h3, h4, h5, h6, h7, h8⟩⟩, (U.alloc' _).perm (List.Perm.refl _) (perm5 _ _ _ _ _ _)⟩
    have hbox : ∀ W, In W [(w.heap.size + 1 + 1 + 1, .cells #[.int .i64 m] 3 (0, 0)), (w.heap.size + 1 + 1, .cells #[.int .i64 c] 3 (0, 0)), (w.heap.size + 1, .cells #[.int .i64 n] 3 (0, 0)), (w.heap.size, .cells #[.int .i64 b] 3 (0, 0))] →
        W.cell? ⟨w.heap.size, 0, none⟩ = some (.int .i64 b) ∧ W.cell? ⟨w.heap.size + 1, 0, none⟩ = some (.int .i64 n) :=
      fun W hi => ⟨cell_of (hi.mem (b := w.heap.size) (o := .cells #[.int .i64 b] 3 (0, 0)) (by simp)) 0, cell_of (hi.mem (b := w.heap.size + 1) (o := .cells #[.int .i64 n] 3 (0, 0)) (by simp)) 0⟩
    have HF := Lib.hid hfin
    have HS := Lib.hid hside
    have HB := Lib.hid hbox
    clear hfin hside hbox
    rcases hn with rfl | hn
    · go_enter Tryz.func18, Tryz.ntmps18
      go_wp2
      go_region
      go_wp2
      have hB0 := HB.out _ U0.inn
      go_region_held3 (fun w' => w'.cell? ⟨w.heap.size, 0, none⟩ = some (.int .i64 b) ∧ w'.cell? ⟨w.heap.size + 1, 0, none⟩ = some (.int .i64 0))
        (first | exact hB2 | exact hB1 | exact hB0 | go_keep)
        (first | (go_at_call 40; refine Calls.mono (HS.out _ U0.inn) ?_; rintro e w1 ⟨p1, p2, x1, x2, rfl, y1, y2, u1⟩; have U1 := U0.more u1; have hB1 := HB.out _ U1.inn.right; clear U0 hB0; simp only [ptr]) | (go_at_call 40; refine Calls.mono (HS.out _ U1.inn.right) ?_; rintro e w2 ⟨p3, p4, x3, x4, rfl, y3, y4, u2⟩; have U2 := U1.more u2; have hB2 := HB.out _ U2.inn.right.right; clear U1 hB1; simp only [ptr]))
      go_wp2
      obtain ⟨h', hR, hU⟩ := HF.out ⟨w.heap.size + 1 + 1 + 1, w.heap.size, w.heap.size + 1, w.heap.size + 1 + 1, p1, p2, p3, p4⟩ w2 x1 x2 x3 x4 rfl y1 y2 y3 y4 U2
      go_ret
      exact ⟨_, h', rfl, hR, hU⟩
    · go_enter Tryz.func18, Tryz.ntmps18
      go_wp2
      go_region
      go_wp2
      have hB0 := HB.out _ U0.inn
      go_region_held3 (fun w' => w'.cell? ⟨w.heap.size, 0, none⟩ = some (.int .i64 b) ∧ w'.cell? ⟨w.heap.size + 1, 0, none⟩ = some (.int .i64 n))
        (first | exact hB2 | exact hB1 | exact hB0 | go_keep)
        (first | (go_at_call 40; refine Calls.mono (HS.out _ U0.inn) ?_; rintro e w1 ⟨p1, p2, x1, x2, rfl, y1, y2, u1⟩; have U1 := U0.more u1; have hB1 := HB.out _ U1.inn.right; clear U0 hB0; simp only [ptr]) | (go_at_call 40; refine Calls.mono (HS.out _ U1.inn.right) ?_; rintro e w2 ⟨p3, p4, x3, x4, rfl, y3, y4, u2⟩; have U2 := U1.more u2; have hB2 := HB.out _ U2.inn.right.right; clear U1 hB1; simp only [ptr]))
      go_wp2
      obtain ⟨h', hR, hU⟩ := HF.out ⟨w.heap.size + 1 + 1 + 1, w.heap.size, w.heap.size + 1, w.heap.size + 1 + 1, p1, p2, p3, p4⟩ w2 x1 x2 x3 x4 rfl y1 y2 y3 y4 U2
      go_ret
      exact ⟨_, h', rfl, hR, hU⟩
  exact key (by omega)

def RemS.has (s : RemS) (i : Int) : Bool := decide (s.base ≤ i ∧ i - s.base < s.words)
def RemS.add (s : RemS) (i : Int) : RemS := if s.has i then (if s.nb.full then { s with nc := s.nc.mark i } else { s with nb := s.nb.put i }) else s
def RemS.addOk (s : RemS) (i : Int) : Bool := s.has i && (!s.nb.full || s.nc.has i)

set_option maxRecDepth 100000 in
set_option maxHeartbeats 2000000 in
theorem rem_add (p : Nat) (s : RemS) (i : Int) (w : World) (h : Hp) (hi : In w h) (hr : RemH p s h) (hx : I64 i) :
    Calls Tryz.prog 70 #[.pointer (some ⟨p, 0, none⟩), .int .i64 i] w fun e w' => e = .returned (.bool (s.addOk i)) ∧ ∃ h', RemH p (s.add i) h' ∧ Upd h h' w w' := by
  obtain ⟨q, h1, h2, h3, h4, rfl, y1, y2, y3, y4, hwf⟩ := hr
  have hwf0 := hwf
  obtain ⟨w1, w2, w3, w4, w5, w6, w7, w8⟩ := hwf
  have hb := (hi.part (i := 0) rfl).head
  have e0 : w.cell? ⟨p, 0, none⟩ = some (.int .i64 s.base) := cell_of hb 0
  have e1 : w.cell? ⟨p, 1, none⟩ = some (.int .i64 s.words) := cell_of hb 1
  have e3 : w.cell? ⟨p, 3, none⟩ = some (.pointer (some ⟨q.nb, 0, none⟩)) := cell_of hb 3
  obtain ⟨x1, x2⟩ := hx
  clear hb
  by_cases k1 : s.base ≤ i
  · have g3 : IntKind.i64.wrap (i - s.base) = i - s.base := IntWalk.i64_in _ (by omega)
    have d1 : decide (i < s.base) = false := decide_eq_false (by omega)
    by_cases k2 : i - s.base < s.words
    · have d2 : decide (s.words ≤ i - s.base) = false := decide_eq_false (by omega)
      have hh : s.has i = true := by simp [RemS.has, k1, k2]
      have hput := fun W (hiW : In W h1) => buf_put q.nb s.nb i W h1 hiW y1 ⟨x1, x2⟩
      have hmark := fun W (hiW : In W h2) => card_mark q.nc s.nc i W h2 hiW y2 ⟨x1, x2⟩
      cases hf : s.nb.full
      · have ha : s.add i = { s with nb := s.nb.put i } := by rw [RemS.add, if_pos hh, hf]; rfl
        have ho : s.addOk i = true := by simp [RemS.addOk, hh, hf]
        rw [ha, ho]
        rw [hf] at hput
        clear ha ho hh hf
        go_enter Tryz.func70, Tryz.ntmps70
        go_wp2
        go_quiet (fail)
        have U0 := Upd.drewN hi nq
        go_wp2_with (go_at_call 83; refine Calls.mono (hput _ (U0.inn.part (i := 1) rfl)) ?_; rintro e w9 ⟨rfl, h1', y1', u1⟩; have U1 := U0.then_part (i := 1) rfl u1)
        go_ret
        exact ⟨rfl, _, ⟨q, h1', h2, h3, h4, rfl, y1', y2, y3, y4, hwf0⟩, U1⟩
      · have hbp : s.nb.put i = s.nb := by rw [BufS.put, hf]; rfl
        have ha : s.add i = { s with nc := s.nc.mark i } := by rw [RemS.add, if_pos hh, hf]; rfl
        have ho : s.addOk i = s.nc.has i := by simp [RemS.addOk, hh, hf]
        rw [ha, ho]
        rw [hf, hbp] at hput
        clear ha ho hh hf hbp
        go_enter Tryz.func70, Tryz.ntmps70
        go_wp2
        go_quiet (fail)
        have U0 := Upd.drewN hi nq
        go_wp2_with (first | (go_at_call 83; refine Calls.mono (hput _ (U0.inn.part (i := 1) rfl)) ?_; rintro e w9 ⟨rfl, h1', y1', u1⟩; have U1 := U0.then_part (i := 1) rfl u1; have e4 : w9.cell? ⟨p, 4, none⟩ = some (.pointer (some ⟨q.nc, 0, none⟩)) := cell_of (U1.inn.part (i := 0) rfl).head 4) | (go_at_call 84; refine Calls.mono (hmark _ (U1.inn.part (i := 2) rfl)) ?_; rintro e w10 ⟨rfl, h2', y2', u2⟩; have U2 := U1.then_part (i := 2) rfl u2))
        go_ret
        exact ⟨rfl, _, ⟨q, h1', h2', h3, h4, rfl, y1', y2', y3, y4, hwf0⟩, U2⟩
    · have d2 : decide (s.words ≤ i - s.base) = true := decide_eq_true (by omega)
      have hh : s.has i = false := by simp [RemS.has, k2]
      have ha : s.add i = s := by simp [RemS.add, hh]
      have ho : s.addOk i = false := by simp [RemS.addOk, hh]
      rw [ha, ho]
      clear ha ho hh
      go_enter Tryz.func70, Tryz.ntmps70
      go_wp2
      go_quiet (fail)
      go_wp2
      go_ret
      exact ⟨rfl, _, ⟨q, h1, h2, h3, h4, rfl, y1, y2, y3, y4, hwf0⟩, Upd.drewN hi nq⟩
  · have d1 : decide (i < s.base) = true := decide_eq_true (by omega)
    have hh : s.has i = false := by simp [RemS.has, k1]
    have ha : s.add i = s := by simp [RemS.add, hh]
    have ho : s.addOk i = false := by simp [RemS.addOk, hh]
    rw [ha, ho]
    clear ha ho hh
    go_enter Tryz.func70, Tryz.ntmps70
    go_wp2
    go_quiet (fail)
    go_wp2
    go_ret
    exact ⟨rfl, _, ⟨q, h1, h2, h3, h4, rfl, y1, y2, y3, y4, hwf0⟩, Upd.drewN hi nq⟩

end Go.Proofs.YtglbhcoikgbcmaaGreat
