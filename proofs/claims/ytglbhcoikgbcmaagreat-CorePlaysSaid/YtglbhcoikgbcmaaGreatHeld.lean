/- Plain facts on an object that a handle holds. No program in sight. Conditions: its words lie within. -/
import Derived.Test.YtglbhcoikgbcmaaGreatRows
import Derived.Test.YtglbhcoikgbcmaaGreatWords
set_option linter.unusedVariables false
set_option linter.unusedSimpArgs false
namespace Go.Proofs.YtglbhcoikgbcmaaGreat
open Go.RowKit

/-- a handle holds an object of this head, there -/
structure Held (s : CoreS) (i o : Int) (H : Hd) : Prop where
  ok : tblOk s.t i = true
  ho : tblGet s.t i = o
  o1 : 1 ≤ o
  o2 : o + H.words ≤ s.ws.length
  o3 : (s.ws.length : Int) ≤ 1048576
  hd : rd s.ws o = H.enc
  good : H.Good

section
variable {s : CoreS} {i o : Int} {H : Hd}
theorem Held.objE (h : Held s i o H) : s.objE i = 0 := by
  have := h.o1
  unfold CoreS.objE
  rw [if_pos h.ok, h.ho, if_neg (by omega)]
theorem Held.headS (h : Held s i o H) : headS s.ws o = H := by
  unfold Go.Proofs.YtglbhcoikgbcmaaGreat.headS
  rw [ldW_eq, h.hd, unH_enc h.good]
theorem Held.objH (h : Held s i o H) : s.objH i = H := by
  unfold CoreS.objH
  rw [if_pos h.objE, h.ho, h.headS]
theorem Held.refE (h : Held s i o H) (n k : Int) : s.refE i n k = if tblOk s.t k = true then (if 0 ≤ n ∧ n < H.ptrs then 0 else 5) else 3 := by
  unfold CoreS.refE CoreS.refOk
  rw [if_pos h.objE, h.objH]
  simp only [decide_eq_true_eq]
theorem Held.place (h : Held s i o H) {n : Int} (h0 : 0 ≤ n) (h1 : n < H.size) : place o n = o + 2 + n ∧ 0 ≤ o + 2 + n ∧ o + 2 + n < s.ws.length := by
  have e1 := h.o1
  have e2 := h.o2
  have e3 := h.o3
  have e4 := h.good.2.1
  unfold Hd.words at e2
  exact ⟨place_of (by omega) (by omega) h0 (by omega), by omega, by omega⟩
theorem Held.ref (h : Held s i o H) {n : Int} (h0 : 0 ≤ n) (h1 : n < H.ptrs) : refS s.ws (tblGet s.t i) n = wrap64 (rd s.ws (o + 2 + n)) := by
  have hp := h.good.2.2.2.1
  unfold refS
  rw [h.ho, (h.place h0 (by omega)).1, ldW_eq]
theorem Held.scalOk (h : Held s i o H) (n : Int) : s.scalOk i n = decide (0 ≤ n ∧ n < H.size - H.ptrs) := by
  unfold CoreS.scalOk
  rw [h.objH]
theorem Held.scalAt (h : Held s i o H) {n : Int} (h0 : 0 ≤ n) (h1 : n < H.size - H.ptrs) : s.scalAt i n = o + 2 + (H.ptrs + n) ∧ 0 ≤ o + 2 + (H.ptrs + n) ∧ o + 2 + (H.ptrs + n) < s.ws.length := by
  have hp := h.good.2.2.1
  unfold CoreS.scalAt
  rw [h.ho, h.objH]
  exact h.place (by omega) (by omega)
theorem Held.scalE (h : Held s i o H) (n : Int) : s.scalE i n = if 0 ≤ n ∧ n < H.size - H.ptrs then 0 else 5 := by
  unfold CoreS.scalE
  rw [if_pos h.objE, h.scalOk]
  simp only [decide_eq_true_eq]
  split
  · rename_i hn
    obtain ⟨e1, e2, e3⟩ := h.scalAt hn.1 hn.2
    rw [e1]
    unfold errW
    rw [if_pos (by rw [hasW_iff]; omega)]
  · rfl
theorem Held.readV (h : Held s i o H) (n : Int) : s.readV i n = if 0 ≤ n ∧ n < H.size - H.ptrs then rd s.ws (o + 2 + (H.ptrs + n)) else 0 := by
  unfold CoreS.readV
  rw [h.objE, h.scalOk]
  simp only [decide_eq_true_eq, true_and]
  split
  · rename_i hn
    rw [(h.scalAt hn.1 hn.2).1, ldW_eq]
  · rfl
theorem Held.writeW (h : Held s i o H) (n x : Int) : s.writeW i n x = if 0 ≤ n ∧ n < H.size - H.ptrs then stW s.ws (o + 2 + (H.ptrs + n)) x else s.ws := by
  unfold CoreS.writeW
  rw [h.objE, h.scalOk]
  simp only [decide_eq_true_eq, true_and]
  split
  · rename_i hn
    rw [(h.scalAt hn.1 hn.2).1]
  · rfl
theorem Held.put (h : Held s i o H) {n : Int} (h0 : 0 ≤ n) (h1 : n < H.ptrs) (k : Int) : s.put i n k = { s with ws := stW s.ws (o + 2 + n) (u64 (tblGet s.t k)) } := by
  have hp := h.good.2.2.2.1
  unfold CoreS.put
  rw [h.ho, (h.place h0 (by omega)).1]
/-- what is young needs no note -/
theorem note_young {s : CoreS} {o : Int} (h : (Go.Proofs.YtglbhcoikgbcmaaGreat.headS s.ws o).old = false) : s.note o = s := by
  unfold CoreS.note CoreS.noteOk
  rw [h]
  simp
theorem Held.words (h : Held s i o H) {ws : List Int} (hl : ws.length = s.ws.length) (hr : rd ws o = rd s.ws o) : Held { s with ws := ws } i o H :=
  ⟨h.ok, h.ho, h.o1, by show o + H.words ≤ ws.length; rw [hl]; exact h.o2, by show (ws.length : Int) ≤ 1048576; rw [hl]; exact h.o3, hr.trans h.hd, h.good⟩
theorem Held.table (h : Held s i o H) {t : List Int} {k : Int} (ok : tblOk t k = true) (e : tblGet t k = o) : Held { s with t := t } k o H :=
  ⟨ok, e, h.o1, h.o2, h.o3, h.hd, h.good⟩
/-- a reference within an object: behind it the head is the same -/
theorem Held.set (h : Held s i o H) (ho : H.old = false) {n : Int} (h0 : 0 ≤ n) (h1 : n < H.ptrs) {k : Int} (hk : tblOk s.t k = true) :
    s.set i n k = { s with ws := stW s.ws (o + 2 + n) (u64 (tblGet s.t k)) } := by
  have he : s.refE i n k = 0 := by rw [h.refE, if_pos hk, if_pos ⟨h0, h1⟩]
  have hp := h.good.2.2.2.1
  obtain ⟨e1, e2, e3⟩ := h.place h0 (show n < H.size by omega)
  have hH : Held { s with ws := stW s.ws (o + 2 + n) (u64 (tblGet s.t k)) } i o H := h.words (len_st ..) (by rw [rd_st e2 e3, if_neg (by omega)])
  unfold CoreS.set CoreS.setTo
  rw [if_pos he, h.put h0 h1]
  split
  · rw [h.ho]
    exact note_young (by rw [hH.headS]; exact ho)
  · rfl
end

/-! a new object -/
theorem Made.held {s s' : CoreS} {i p c : Int} (f : s.Fine) (hs : s.shapeOk p c = true) (m : Made s i p c s') (hk : tblOk s.t i = true) : Held s' i (1 + s.y.u0) (s.newHd p c) := by
  obtain ⟨h1, h2, h3, h4⟩ := f.shape hs
  obtain ⟨w1, w2⟩ := f.small
  have hu := f.u0
  have hr := m.room
  have hw : (s.newHd p c).words = p + c + 2 := rfl
  exact ⟨by rw [m.t, tblOk_set]; exact hk, by rw [m.t, tblGet_set hk, if_pos rfl], by omega, by rw [hw, m.wl]; omega, by rw [m.wl]; exact w1, by rw [m.mem, if_pos rfl], CoreS.newHd_good f hs⟩

/-- all its fields are 0 -/
theorem Made.zero {s s' : CoreS} {i p c : Int} (m : Made s i p c s') {n : Int} (h0 : 0 ≤ n) (h1 : n < p + c) : rd s'.ws (1 + s.y.u0 + 2 + n) = 0 := by
  rw [m.mem, if_neg (by omega), if_neg (by omega), if_pos (by omega)]

theorem Made.get {s s' : CoreS} {i p c : Int} (f : s.Fine) (hs : s.shapeOk p c = true) (m : Made s i p c s') {t : List Int} {k : Int} (hh : Held { s' with t := t } k (1 + s.y.u0) (s.newHd p c)) {a n : Int} (ha : tblOk t a = true) (h0 : 0 ≤ n) (h1 : n < p) :
    ({ s' with t := t } : CoreS).refE k n a = 0 ∧ ({ s' with t := t } : CoreS).got a k n = { s' with t := tblSet t a 0 } := by
  have h2 := (f.shape hs).2.1
  have e : ({ s' with t := t } : CoreS).refE k n a = 0 := by
    rw [hh.refE, if_pos ha, if_pos ⟨h0, h1⟩]
  refine ⟨e, ?_⟩
  unfold CoreS.got
  rw [if_pos e, hh.ref h0 h1]
  show ({ s' with t := tblSet t a (wrap64 (rd s'.ws _)) } : CoreS) = _
  rw [m.zero h0 (by omega), wrap_of (I64.small (by decide) (by decide))]
theorem Made.read {s s' : CoreS} {i p c : Int} (f : s.Fine) (hs : s.shapeOk p c = true) (m : Made s i p c s') {t : List Int} {k : Int} (hh : Held { s' with t := t } k (1 + s.y.u0) (s.newHd p c)) {n : Int} (h0 : 0 ≤ n) (h1 : n < c) :
    ({ s' with t := t } : CoreS).scalE k n = 0 ∧ ({ s' with t := t } : CoreS).readV k n = 0 := by
  obtain ⟨g1, g2, g3, g4⟩ := f.shape hs
  have hn : 0 ≤ n ∧ n < (s.newHd p c).size - (s.newHd p c).ptrs := by
    show 0 ≤ n ∧ n < p + c - p
    omega
  refine ⟨by rw [hh.scalE, if_pos hn], ?_⟩
  rw [hh.readV, if_pos hn]
  exact m.zero (n := p + n) (by omega) (by omega)

end Go.Proofs.YtglbhcoikgbcmaaGreat
