/- Plain facts on words, handles and new objects: what is read behind what was written. No program in sight. Conditions: places within the words. -/
import Derived.Test.YtglbhcoikgbcmaaGreatRows
import Derived.Test.YtglbhcoikgbcmaaGreatStep
set_option linter.unusedVariables false
set_option linter.unusedSimpArgs false
namespace Go.Proofs.YtglbhcoikgbcmaaGreat
open Go.RowKit

theorem rd_out {ws : List Int} {i : Int} (h : i < 0 ∨ (ws.length : Int) ≤ i) : rd ws i = 0 := by
  unfold rd
  split
  · have : ws.length ≤ i.toNat := by omega
    simp [List.getD, List.getElem?_eq_none this]
  · rfl
theorem hasW_iff {n : Nat} {i k : Int} : hasW n i k = true ↔ 0 ≤ i ∧ 0 ≤ k ∧ i ≤ n ∧ k ≤ n - i := by simp [hasW]
theorem ldW_eq (ws : List Int) (i : Int) : ldW ws i = rd ws i := by
  unfold ldW
  split
  · rfl
  · rename_i h
    rw [rd_out]
    simp only [hasW_iff] at h
    omega
theorem rd_st {ws : List Int} {i : Int} (h : 0 ≤ i) (h2 : i < ws.length) (v j : Int) : rd (stW ws i v) j = if j = i then v else rd ws j := by
  have hh : hasW ws.length i 1 = true := by rw [hasW_iff]; omega
  unfold stW wr
  rw [if_pos hh, if_pos h]
  unfold rd
  by_cases hj : 0 ≤ j
  · rw [if_pos hj, if_pos hj]
    simp only [List.getD, List.getElem?_set]
    by_cases e : j = i
    · subst e
      have : j.toNat < ws.length := by omega
      simp [this]
    · have : i.toNat ≠ j.toNat := by omega
      simp [this, e]
  · rw [if_neg hj, if_neg hj, if_neg (by omega)]
theorem len_st (ws : List Int) (i v : Int) : (stW ws i v).length = ws.length := by
  unfold stW wr
  split
  · split <;> simp
  · rfl
theorem rd_lay {ws xs : List Int} {i : Nat} (h : i + xs.length ≤ ws.length) (j : Int) : rd (lay ws i xs) j = if (i : Int) ≤ j ∧ j < i + xs.length then xs.getD (j.toNat - i) 0 else rd ws j := by
  unfold rd
  by_cases hj : 0 ≤ j
  · simp only [if_pos hj]
    obtain ⟨n, rfl⟩ : ∃ n : Nat, j = n := ⟨j.toNat, by omega⟩
    simp only [Int.toNat_natCast, lay, List.getD, List.getElem?_append, List.length_append, List.length_take]
    have hm : min i ws.length = i := by omega
    rw [hm]
    by_cases h1 : n < i
    · rw [if_pos (by omega), if_pos h1, if_neg (by omega)]
      simp [List.getElem?_take, h1]
    · by_cases h2 : n < i + xs.length
      · rw [if_pos (by omega), if_neg h1, if_pos (by omega)]
      · rw [if_neg (by omega), if_neg (by omega), List.getElem?_drop]
        congr 2
        omega
  · rw [if_neg hj, if_neg hj, if_neg (by omega)]
theorem rd_zero {ws : List Int} {i : Int} {n : Nat} (h : 0 ≤ i) (h2 : i + n ≤ ws.length) (j : Int) : rd (zeroW ws i n) j = if i ≤ j ∧ j < i + n then 0 else rd ws j := by
  have hh : hasW ws.length i n = true := by rw [hasW_iff]; omega
  unfold zeroW
  rw [if_pos hh, rd_lay (by simp; omega)]
  simp only [List.length_replicate]
  have : ((i.toNat : Nat) : Int) = i := by omega
  rw [this]
  split
  · simp [List.getD, List.getElem?_replicate]
    split <;> rfl
  · rfl
theorem len_zero {ws : List Int} {i : Int} {n : Nat} : (zeroW ws i n).length = ws.length := by
  unfold zeroW
  split
  · rename_i h
    rw [hasW_iff] at h
    exact length_lay _ _ _ (by simp; omega)
  · rfl
theorem u64_of {x : Int} (h : 0 ≤ x) (h2 : x < 18446744073709551616) : u64 x = x := by unfold u64; omega
theorem rd_way {ws : List Int} {i : Int} (h : 0 ≤ i) (h2 : i + 1 < ws.length) (hL : ws.length ≤ 1048576) (to j : Int) : rd (setWayW ws i to) j = if j = i + 1 then u64 to else rd ws j := by
  unfold setWayW
  rw [if_pos (by omega), rd_st (by omega) (by omega)]
theorem len_way (ws : List Int) (i to : Int) : (setWayW ws i to).length = ws.length := by
  unfold setWayW
  split
  · exact len_st ..
  · rfl

/-- what is read of an object just made, and beside it -/
theorem rd_make {ws : List Int} {i : Int} {x : Hd} (hg : x.Good) (h : 0 ≤ i) (h2 : i + x.words ≤ ws.length) (hL : ws.length ≤ 1048576) (j : Int) :
    rd (objMakeW ws i x) j = if j = i then x.enc else if j = i + 1 then i else if i ≤ j ∧ j < i + x.words then 0 else rd ws j := by
  obtain ⟨hn, hn0⟩ := Hd.words_nat hg
  have hw : 2 ≤ x.words := by have := hg.1; unfold Hd.words; omega
  have hh : hasW ws.length i x.words = true := by rw [hasW_iff]; omega
  unfold objMakeW
  rw [if_pos hh, rd_way h (by rw [len_st, len_zero]; omega) (by rw [len_st, len_zero]; exact hL), rd_st h (by rw [len_zero]; omega), rd_zero h (by omega), u64_of h (by omega)]
  have e : i + ((x.words.toNat : Nat) : Int) = i + x.words := by omega
  rw [e]
  by_cases e1 : j = i
  · rw [if_neg (by omega), if_pos e1, if_pos e1]
  · rw [if_neg e1, if_neg e1]
theorem len_make (ws : List Int) (i : Int) (x : Hd) : (objMakeW ws i x).length = ws.length := by
  unfold objMakeW
  split
  · rw [len_way, len_st, len_zero]
  · rfl

theorem place_of {i n : Int} (h : 0 ≤ i) (h2 : i ≤ 1048576) (h3 : 0 ≤ n) (h4 : n < 64) : place i n = i + 2 + n := by
  unfold place
  rw [if_pos ⟨h, h2, h3, h4⟩]

/-! handles -/
theorem tblOk_iff {l : List Int} {i : Int} : tblOk l i = true ↔ 0 ≤ i ∧ i < l.length := by simp [tblOk]
theorem len_tblSet (l : List Int) (i v : Int) : (tblSet l i v).length = l.length := by
  unfold tblSet
  split
  · simp
  · rfl
theorem tblGet_out {l : List Int} {i : Int} (h : tblOk l i = false) : tblGet l i = 0 := by simp [tblGet, h]
theorem tblOk_set (l : List Int) (i v j : Int) : tblOk (tblSet l i v) j = tblOk l j := by simp [tblOk, len_tblSet]
theorem tblErr_set (l : List Int) (i v j : Int) : tblErr (tblSet l i v) j = tblErr l j := by simp [tblErr, tblOk_set]
theorem tblGet_set {l : List Int} {i : Int} (h : tblOk l i = true) (v j : Int) : tblGet (tblSet l i v) j = if j = i then v else tblGet l j := by
  by_cases hj : tblOk l j = true
  · have hi' := tblOk_iff.1 h
    have hj' := tblOk_iff.1 hj
    unfold tblGet
    rw [tblOk_set, if_pos hj, if_pos hj]
    unfold tblSet
    rw [if_pos h]
    simp only [List.getD, List.getElem?_set]
    by_cases e : j = i
    · subst e
      have : j.toNat < l.length := by omega
      simp [this]
    · have : i.toNat ≠ j.toNat := by omega
      simp [this, e]
  · have hj2 : tblOk l j = false := by simpa using hj
    rw [tblGet_out (by rw [tblOk_set]; exact hj2), tblGet_out hj2]
    split
    · rename_i e
      rw [e] at hj2
      rw [h] at hj2
      cases hj2
    · rfl

theorem tblErr_ok {l : List Int} {i : Int} (h : tblOk l i = true) : tblErr l i = 0 := by simp [tblErr, h]

/-! cores -/
/-- a quiet core whose parts fit its configuration -/
structure CoreS.Fine (s : CoreS) : Prop where
  q : s.Quiet
  cf : s.C.Fits
  f0 : s.y.f0 = 1
  yw : s.y.words = s.C.nursery
  u0 : 0 ≤ s.y.u0
  u1 : s.y.u0 ≤ s.y.words
  wl : (s.ws.length : Int) = s.C.words
  tl : (s.t.length : Int) = s.C.handles

theorem CoreS.Fine.small {s : CoreS} (f : s.Fine) : (s.ws.length : Int) ≤ 1048576 ∧ 1 + 2 * s.C.nursery ≤ s.ws.length := by
  have h := f.cf.small
  have hp := Cfg.prod_small h
  have h1 := f.wl
  have h2 := f.cf.n2
  unfold Cfg.words Cfg.mature at h1
  omega

theorem coreNew_fine {c : Cfg} (h : c.Fits) : (coreNew c).Fine where
  q := coreNew_quiet h
  cf := h
  f0 := rfl
  yw := rfl
  u0 := Int.le_refl 0
  u1 := by have := h.n1; show (0 : Int) ≤ c.nursery; omega
  wl := by
    have hp := Cfg.prod_small h.small
    have := h.n1
    show ((List.replicate c.words.toNat (0 : Int)).length : Int) = c.words
    simp only [List.length_replicate]
    unfold Cfg.words Cfg.mature
    omega
  tl := by
    have := h.h1
    show ((List.replicate c.handles.toNat (0 : Int)).length : Int) = c.handles
    simp only [List.length_replicate]
    omega

theorem CoreS.Fine.words {s : CoreS} (f : s.Fine) {ws : List Int} (h : ws.length = s.ws.length) : ({ s with ws := ws } : CoreS).Fine :=
  ⟨f.q.words _, f.cf, f.f0, f.yw, f.u0, f.u1, by rw [← f.wl]; exact congrArg Nat.cast h, f.tl⟩
theorem CoreS.Fine.table {s : CoreS} (f : s.Fine) {t : List Int} (h : t.length = s.t.length) : ({ s with t := t } : CoreS).Fine :=
  ⟨f.q.table _, f.cf, f.f0, f.yw, f.u0, f.u1, f.wl, by rw [← f.tl]; exact congrArg Nat.cast h⟩

theorem CoreS.Fine.cu {s : CoreS} (f : s.Fine) : s.y.cu = s.y.u0 ∧ s.y.cf = 1 ∧ s.y.ou = 0 ∧ s.y.room = s.C.nursery - s.y.u0 ∧ s.kept = 0 := by
  have e1 : s.y.cu = s.y.u0 := by simp [YoungS.cu, f.q.nw]
  refine ⟨e1, by simp [YoungS.cf, f.q.nw, f.f0], by simp [YoungS.ou, f.q.nw, f.q.u1], by rw [YoungS.room, e1, f.yw], by simp [CoreS.kept, f.q.mv]⟩

theorem CoreS.Fine.shape {s : CoreS} (f : s.Fine) {p c : Int} (h : s.shapeOk p c = true) : 0 ≤ p ∧ 0 ≤ c ∧ p + c ≤ s.C.largest ∧ s.C.largest ≤ 64 := by
  simp only [CoreS.shapeOk, decide_eq_true_eq] at h
  have := f.cf.l2
  omega
theorem CoreS.Fine.room {s : CoreS} (f : s.Fine) {n : Int} : s.roomOk n = decide (s.y.u0 + n ≤ s.C.nursery) := by
  obtain ⟨e1, e2, e3, e4, e5⟩ := f.cu
  unfold CoreS.roomOk
  rw [e5, e4]
  congr 1
  apply propext
  omega
theorem CoreS.Fine.take {s : CoreS} (f : s.Fine) {n : Int} (h1 : 1 ≤ n) (h2 : s.y.u0 + n ≤ s.C.nursery) : s.y.takeAt n = 1 + s.y.u0 ∧ s.y.take n = { s.y with u0 := s.y.u0 + n } := by
  obtain ⟨e1, e2, e3, e4, e5⟩ := f.cu
  have hk : s.y.takeOk n = true := by simp [YoungS.takeOk]; omega
  refine ⟨by rw [YoungS.takeAt, if_pos hk, e1, e2], by rw [YoungS.take, if_pos hk]; simp [f.q.nw]⟩

theorem CoreS.newHd_good {s : CoreS} (f : s.Fine) {p c : Int} (h : s.shapeOk p c = true) : (s.newHd p c).Good := by
  obtain ⟨h1, h2, h3, h4⟩ := f.shape h
  exact ⟨by show 0 ≤ p + c; omega, by show p + c ≤ 64; omega, h1, by show p ≤ p + c; omega, by show (0 : Int) ≤ 0; omega, by show (0 : Int) ≤ 7; omega, .inl f.q.par⟩

/-- what stands behind a Make that was done -/
structure Made (s : CoreS) (i p c : Int) (s' : CoreS) : Prop where
  room : s.y.u0 + (p + c + 2) ≤ s.C.nursery
  t : s'.t = tblSet s.t i (1 + s.y.u0)
  y : s'.y = { s.y with u0 := s.y.u0 + (p + c + 2) }
  C : s'.C = s.C
  mem : ∀ j, rd s'.ws j = if j = 1 + s.y.u0 then (s.newHd p c).enc else if j = 2 + s.y.u0 then 1 + s.y.u0 else if 1 + s.y.u0 ≤ j ∧ j < 1 + s.y.u0 + (p + c + 2) then 0 else rd s.ws j
  wl : s'.ws.length = s.ws.length
  done : s'.done = { s.done with allocs := wrap64 (s.done.allocs + 1), words := wrap64 (s.done.words + (p + c + 2)) }
  rest : s'.r = s.r ∧ s'.g = s.g ∧ s'.o = s.o

theorem CoreS.Fine.made {s : CoreS} (f : s.Fine) {i p c : Int} (h : s.shapeOk p c = true) (hr : s.roomOk (p + c + 2) = true) : Made s i p c (s.made i p c) := by
  obtain ⟨h1, h2, h3, h4⟩ := f.shape h
  rw [f.room, decide_eq_true_eq] at hr
  obtain ⟨t1, t2⟩ := f.take (n := p + c + 2) (by omega) hr
  obtain ⟨w1, w2⟩ := f.small
  have hu := f.u0
  have hg := CoreS.newHd_good f h
  have hw : (s.newHd p c).words = p + c + 2 := rfl
  refine ⟨hr, ?_, ?_, rfl, ?_, ?_, rfl, rfl, rfl, rfl⟩
  · show tblSet s.t i (s.y.takeAt (p + c + 2)) = _
    rw [t1]
  · exact t2
  · intro j
    show Go.Proofs.YtglbhcoikgbcmaaGreat.rd (objMakeW s.ws (s.y.takeAt (p + c + 2)) (s.newHd p c)) j = _
    rw [t1, rd_make hg (by omega) (by rw [hw]; omega) (by omega), hw]
    have e : 1 + s.y.u0 + 1 = 2 + s.y.u0 := by omega
    rw [e]
  · show (objMakeW s.ws (s.y.takeAt (p + c + 2)) (s.newHd p c)).length = _
    rw [len_make]

theorem CoreS.Fine.make {s : CoreS} (f : s.Fine) (i p c : Int) : (s.make i p c).Fine := by
  unfold CoreS.make
  split
  · rename_i h
    have hq : (s.made i p c).Quiet := by have := f.q.make i p c; rw [CoreS.make, if_pos h] at this; exact this
    simp only [CoreS.makeE] at h
    split at h
    · split at h
      · rename_i hs
        split at h
        · rename_i hr
          have m := f.made (i := i) hs hr
          have hu := f.u0
          obtain ⟨h1, h2, h3, h4⟩ := f.shape hs
          have hy := f.yw
          have hrm := m.room
          exact ⟨hq, f.cf, by rw [m.y]; exact f.f0, by rw [m.y]; exact f.yw, by rw [m.y]; show 0 ≤ s.y.u0 + (p + c + 2); omega, by rw [m.y]; show s.y.u0 + (p + c + 2) ≤ s.y.words; omega, by rw [m.wl, m.C]; exact f.wl, by rw [m.t, len_tblSet, m.C]; exact f.tl⟩
        · cases h
      · cases h
    · cases h
  · exact f
theorem CoreS.Fine.note {s : CoreS} (f : s.Fine) (i : Int) : (s.note i).Fine := by
  have hq := f.q.note i
  unfold CoreS.note at *
  split
  · rename_i h
    rw [if_pos h] at hq
    exact ⟨hq, f.cf, f.f0, f.yw, f.u0, f.u1, by rw [← f.wl]; exact congrArg Nat.cast (len_st ..), f.tl⟩
  · exact f
theorem CoreS.Fine.set {s : CoreS} (f : s.Fine) (i n k : Int) : (s.set i n k).Fine := by
  unfold CoreS.set CoreS.setTo
  have h : (s.put i n k).Fine := f.words (len_st ..)
  split
  · split
    · exact h.note _
    · exact h
  · exact f
theorem CoreS.Fine.got {s : CoreS} (f : s.Fine) (a b c : Int) : (s.got a b c).Fine := by
  unfold CoreS.got
  split
  · exact f.table (len_tblSet ..)
  · exact f
theorem CoreS.Fine.write {s : CoreS} (f : s.Fine) (a b v : Int) : ({ s with ws := s.writeW a b v } : CoreS).Fine := by
  refine f.words ?_
  unfold CoreS.writeW
  split
  · exact len_st ..
  · rfl
theorem CoreS.Fine.copy {s : CoreS} (f : s.Fine) (a b : Int) : ({ s with t := s.copyT a b } : CoreS).Fine := by
  refine f.table ?_
  unfold CoreS.copyT
  split
  · exact len_tblSet ..
  · rfl
theorem CoreS.Fine.step {s : CoreS} (f : s.Fine) (x : StepS) : (stepS s x).Fine := by
  unfold stepS
  split
  · exact f.make ..
  split
  · exact f.got ..
  split
  · exact f.set ..
  split
  · exact f.write ..
  split
  · exact f.table (len_tblSet ..)
  split
  · exact f.copy ..
  exact f
theorem CoreS.Fine.run {s : CoreS} (f : s.Fine) (l : List StepS) : (runS s l).Fine := by
  induction l generalizing s with
  | nil => exact f
  | cons x l ih => exact ih (f.step x)
theorem note_C (s : CoreS) (i : Int) : (s.note i).C = s.C := by
  unfold CoreS.note
  split <;> rfl
theorem step_C (s : CoreS) (x : StepS) : (stepS s x).C = s.C := by
  unfold stepS
  split
  · unfold CoreS.make; split <;> rfl
  split
  · unfold CoreS.got; split <;> rfl
  split
  · unfold CoreS.set CoreS.setTo
    split
    · split
      · exact note_C ..
      · rfl
    · rfl
  split
  · rfl
  split
  · rfl
  split
  · rfl
  rfl
theorem run_C (s : CoreS) (l : List StepS) : (runS s l).C = s.C := by
  induction l generalizing s with
  | nil => rfl
  | cons x l ih => exact (ih (stepS s x)).trans (step_C s x)

end Go.Proofs.YtglbhcoikgbcmaaGreat
