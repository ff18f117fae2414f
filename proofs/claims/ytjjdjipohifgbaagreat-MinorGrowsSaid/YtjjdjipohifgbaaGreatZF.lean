/- What is shown of a heap, told one after the other, as a loop does. No program in sight. Conditions: a core whose parts fit its configuration. -/
import Derived.Test.YtjjdjipohifgbaaGreatRows
import Derived.Test.YtjjdjipohifgbaaGreatZE
import Derived.Test.YtjjdjipohifgbaaGreatZD
import Derived.Test.YtjjdjipohifgbaaGreatZC
set_option linter.unusedVariables false
set_option linter.unusedSimpArgs false
/- What a heap holds, as a graph: nodes and where they lie; a move keeps it. No program in sight. Conditions: a core whose parts fit its configuration. -/
namespace Go.Proofs.YtjjdjipohifgbaaGreat
open Go.RowKit

/-- an object that has not gone -/
def Home (s : CoreS) (cur oth : List Int) (a : Int) : Prop := a ∈ cur ∨ (s.o.sizeAt a).isSome = true ∨ (a ∈ oth ∧ wayW s.ws a = a)
theorem Home.isO {s : CoreS} {cur oth : List Int} {a : Int} (h : Home s cur oth a) : IsO s cur oth a := by
  rcases h with h | h | h
  · exact .inl h
  · exact .inr (.inr h)
  · exact .inr (.inl h.1)

structure NodeG where
  ptrs : List Int
  scal : List Int
def ng0 : NodeG := ⟨[], []⟩

/-- nodes N of K lie at loc; handles hs -/
structure Rep (s : CoreS) (cur oth : List Int) (N : Int → NodeG) (hs : List Int) (K : Int → Prop) (loc : Int → Int) : Prop where
  k0 : ¬ K 0
  l0 : loc 0 = 0
  inj : ∀ n m, K n → K m → loc n = loc m → n = m
  pl : ∀ n, K n → Home s cur oth (loc n)
  sz : ∀ n, K n → (headS s.ws (loc n)).size = ((N n).ptrs.length : Int) + (N n).scal.length
  pn : ∀ n, K n → (headS s.ws (loc n)).ptrs = ((N n).ptrs.length : Int)
  pk : ∀ n, K n → ∀ m ∈ (N n).ptrs, m = 0 ∨ K m
  pt : ∀ n, K n → ∀ j : Nat, j < (N n).ptrs.length → s.now (refS s.ws (loc n) j) = loc ((N n).ptrs.getD j 0)
  sc : ∀ n, K n → ∀ j : Nat, j < (N n).scal.length → rd s.ws (loc n + 2 + (((N n).ptrs.length : Int) + j)) = (N n).scal.getD j 0
  hl : hs.length = s.t.length
  hk : ∀ x ∈ hs, x = 0 ∨ K x
  hv : ∀ j : Nat, j < hs.length → s.now (s.t.getD j 0) = loc (hs.getD j 0)

theorem Inv.refOk {s : CoreS} {cur oth : List Int} {E F : Int → Prop} (I : Inv s cur oth E F) {a : Int} (ha : IsO s cur oth a) {k : Int} (k0 : 0 ≤ k) (k1 : k < (headS s.ws a).ptrs) : OkRef s cur oth (refS s.ws a k) := by
  rcases ha with ha | ha | ha
  · rcases I.refs.rC a ha k k0 k1 with h | h | h | ⟨_, h, _⟩
    · exact .inl h
    · exact .inr (.inl h)
    · exact .inr (.inr (.inl h))
    · exact .inr (.inr (.inr h))
  · rcases I.refs.rO a ha k k0 k1 with h | h | h
    · exact .inl h
    · exact .inr (.inl h)
    · exact .inr (.inr (.inr h))
  · rcases I.refs.rM a ha k k0 k1 with h | h | ⟨h, _⟩ | ⟨_, h, _⟩
    · exact .inl h
    · exact .inr (.inl h)
    · exact .inr (.inr (.inl h))
    · exact .inr (.inr (.inr h))

theorem Lay.now_stay {s : CoreS} {cur oth : List Int} (l : Lay s cur oth) {r : Int} (h : NewRef s cur r) : s.now r = r := by
  unfold CoreS.now
  rw [if_neg]
  rintro ⟨h0, h1⟩
  rcases h with h | h | h
  · exact h0 h
  · rw [l.from_old (.inl h)] at h1; cases h1
  · rw [l.from_not (.inl h)] at h1; cases h1

/-- what is told now of a place, behind a move of a -/
theorem now_moved {s : CoreS} {cur oth cur' : List Int} {E F : Int → Prop} (I : Inv s cur oth E F) {a t : Int} (ha : a ∈ oth) (hw : wayW s.ws a = a) (M : MovedTo s cur oth a (s.moved a) cur' t) {r : Int} (hr : OkRef s cur oth r) : (s.moved a).now r = if s.now r = a then t else s.now r := by
  have hfr : ∀ x, (s.moved a).y.isFrom x = s.y.isFrom x := by
    intro x
    have hof : (s.moved a).y.of = s.y.of := by rw [M.y.1]; rfl
    unfold YoungS.isFrom
    rw [hof, M.y.2.1]
  have h0 : a ≠ 0 := I.lay.not_zero (.inr (.inl ha))
  have stay : NewRef s cur r → (s.moved a).now r = if s.now r = a then t else s.now r := by
    intro h
    have e := I.lay.now_stay h
    have hra : r ≠ a := by
      intro e2
      subst e2
      rcases h with h | h | h
      · exact h0 h
      · have := I.lay.from_oth ha
        rw [I.lay.from_old (.inl h)] at this
        cases this
      · have := I.lay.from_oth ha
        rw [I.lay.from_not (.inl h)] at this
        cases this
    rw [e, if_neg hra]
    unfold CoreS.now at e ⊢
    by_cases hc : r ≠ 0 ∧ s.y.isFrom r = true
    · exfalso
      rcases h with h | h | h
      · exact hc.1 h
      · have := hc.2
        rw [I.lay.from_old (.inl h)] at this
        cases this
      · have := hc.2
        rw [I.lay.from_not (.inl h)] at this
        cases this
    · rw [if_neg (by rw [hfr]; exact hc)]
  rcases hr with h | h | h | h
  · exact stay (.inl h)
  · exact stay (.inr (.inl h))
  · exact stay (.inr (.inr h))
  · have hr0 : r ≠ 0 := I.lay.not_zero (.inr (.inl h))
    have e1 : (s.moved a).now r = wayW (s.moved a).ws r := by
      unfold CoreS.now
      rw [if_pos ⟨hr0, by rw [hfr]; exact I.lay.from_oth h⟩]
    rw [e1, I.lay.now_oth h]
    by_cases e : r = a
    · subst e
      rw [hw, if_pos rfl, M.wayA]
    · have hO : IsO s cur oth r := .inr (.inl h)
      obtain ⟨p1, p2, p3, p4⟩ := I.lay.pos hO
      have := (words_bounds s.ws r).1
      rw [(M.rest r hO e).way (by omega) (by omega) p3, if_neg]
      intro hwa
      rcases (I.hds.hdO r h).2.2.2 with h1 | h1 | h1
      · rw [h1] at hwa; exact e hwa
      · rw [hwa] at h1
        have := I.lay.from_oth ha
        rw [I.lay.from_not (.inl h1)] at this
        cases this
      · rw [hwa] at h1
        have := I.lay.from_oth ha
        rw [I.lay.from_not (.inr h1)] at this
        cases this

theorem Rep.moved {s : CoreS} {cur oth cur' : List Int} {E F : Int → Prop} {N : Int → NodeG} {hs : List Int} {K : Int → Prop} {loc : Int → Int} (R : Rep s cur oth N hs K loc) (I : Inv s cur oth E F) {a t : Int} (ha : a ∈ oth) (hw : wayW s.ws a = a) (M : MovedTo s cur oth a (s.moved a) cur' t)
    (hm : ∀ b ∈ cur, b ∈ cur') (hT : t ∈ cur' ∨ ((s.moved a).o.sizeAt t).isSome = true) (ht : ∀ x ∈ s.t, OkRef s cur oth x) : Rep (s.moved a) cur' oth N hs K (fun n => if loc n = a then t else loc n) := by
  have h0 : a ≠ 0 := I.lay.not_zero (.inr (.inl ha))
  have hIa : IsO s cur oth a := .inr (.inl ha)
  obtain ⟨o1, o2, o3, o4, o5, o6, o7, o8, o9, o10, o11⟩ := moved_other s a
  obtain ⟨hg, hwx, hsx, hpx, hox, hnx⟩ := mvHd_good I.hds.par a
  have sm : ∀ b, IsO s cur oth b → b ≠ a → headS (s.moved a).ws b = headS s.ws b ∧ wayW (s.moved a).ws b = wayW s.ws b ∧ (∀ k : Int, 0 ≤ k → k < (headS s.ws b).ptrs → refS (s.moved a).ws b k = refS s.ws b k) ∧ ∀ k : Int, 0 ≤ k → k < (headS s.ws b).size → rd (s.moved a).ws (b + 2 + k) = rd s.ws (b + 2 + k) := by
    intro b hb hba
    have S := M.rest b hb hba
    obtain ⟨p1, p2, p3, p4⟩ := I.lay.pos hb
    obtain ⟨b1, b2, b3, b4, b5⟩ := words_bounds s.ws b
    exact ⟨S.head (by omega), S.way (by omega) (by omega) p3, fun k k0 k1 => S.ref (by omega) p3 k0 (by omega) (by omega), fun k k0 k1 => S _ (by omega) (by omega)⟩
  obtain ⟨pa1, pa2, pa3, pa4⟩ := I.lay.pos hIa
  obtain ⟨b1, b2, b3, b4, b5⟩ := words_bounds s.ws a
  have refT : ∀ k : Int, 0 ≤ k → k < (headS s.ws a).ptrs → refS (s.moved a).ws t k = refS s.ws a k := by
    intro k k0 k1
    have := M.pos
    rw [refS_eq (by omega) M.pos.2 k0 (by omega), refS_eq (by omega) pa3 k0 (by omega), M.fldT k k0 (by omega)]
  refine ⟨R.k0, ?_, ?_, ?_, ?_, ?_, R.pk, ?_, ?_, by rw [o4]; exact R.hl, R.hk, ?_⟩
  · show (if loc 0 = a then t else loc 0) = 0
    rw [R.l0, if_neg (fun e => h0 e.symm)]
  · intro n m hn hm' e
    have e' : (if loc n = a then t else loc n) = (if loc m = a then t else loc m) := e
    by_cases en : loc n = a
    · by_cases em : loc m = a
      · exact R.inj n m hn hm' (en.trans em.symm)
      · rw [if_pos en, if_neg em] at e'
        exact absurd (e' ▸ (R.pl m hm').isO) M.new
    · by_cases em : loc m = a
      · rw [if_neg en, if_pos em] at e'
        exact absurd (e' ▸ (R.pl n hn).isO) M.new
      · rw [if_neg en, if_neg em] at e'
        exact R.inj n m hn hm' e'
  · intro n hn
    show Home (s.moved a) cur' oth (if loc n = a then t else loc n)
    by_cases en : loc n = a
    · rw [if_pos en]
      exact hT.elim .inl (fun h => .inr (.inl h))
    · rw [if_neg en]
      rcases R.pl n hn with h | h | h
      · exact .inl (hm _ h)
      · refine .inr (.inl ?_)
        rw [M.size _ (.inl (fun e => M.new (.inr (.inr (e ▸ h)))))]
        exact h
      · exact .inr (.inr ⟨h.1, by rw [(sm _ (.inr (.inl h.1)) en).2.1]; exact h.2⟩)
  · intro n hn
    show (headS (s.moved a).ws (if loc n = a then t else loc n)).size = _
    by_cases en : loc n = a
    · rw [if_pos en, M.hdT, hsx, ← en]
      exact R.sz n hn
    · rw [if_neg en, (sm _ (R.pl n hn).isO en).1]
      exact R.sz n hn
  · intro n hn
    show (headS (s.moved a).ws (if loc n = a then t else loc n)).ptrs = _
    by_cases en : loc n = a
    · rw [if_pos en, M.hdT, hpx, ← en]
      exact R.pn n hn
    · rw [if_neg en, (sm _ (R.pl n hn).isO en).1]
      exact R.pn n hn
  · intro n hn j hj
    show (s.moved a).now (refS (s.moved a).ws (if loc n = a then t else loc n) j) = if loc ((N n).ptrs.getD j 0) = a then t else loc ((N n).ptrs.getD j 0)
    have hpn := R.pn n hn
    have hre : refS (s.moved a).ws (if loc n = a then t else loc n) j = refS s.ws (loc n) j := by
      by_cases en : loc n = a
      · rw [if_pos en, en]
        rw [en] at hpn
        exact refT j (by omega) (by omega)
      · rw [if_neg en]
        exact (sm _ (R.pl n hn).isO en).2.2.1 j (by omega) (by omega)
    rw [hre, now_moved I ha hw M (I.refOk (R.pl n hn).isO (by omega) (by omega)), R.pt n hn j hj]
  · intro n hn j hj
    show rd (s.moved a).ws ((if loc n = a then t else loc n) + 2 + (((N n).ptrs.length : Int) + j)) = _
    have hsz := R.sz n hn
    by_cases en : loc n = a
    · rw [if_pos en]
      rw [en] at hsz
      rw [M.fldT _ (by omega) (by omega), ← en]
      exact R.sc n hn j hj
    · rw [if_neg en, (sm _ (R.pl n hn).isO en).2.2.2 _ (by omega) (by omega)]
      exact R.sc n hn j hj
  · intro j hj
    show (s.moved a).now ((s.moved a).t.getD j 0) = if loc (hs.getD j 0) = a then t else loc (hs.getD j 0)
    rw [o4]
    have hjt : j < s.t.length := by rw [← R.hl]; exact hj
    have hx : s.t.getD j 0 ∈ s.t := by
      rw [List.getD_eq_getElem?_getD, List.getElem?_eq_getElem hjt]
      exact List.getElem_mem hjt
    rw [now_moved I ha hw M (ht _ hx), R.hv j hj]

end Go.Proofs.YtjjdjipohifgbaaGreat

/- A move, whatever it is of, and what leaves all references where they lead keep what a heap holds. No program in sight. Conditions: a core whose parts fit its configuration. -/
namespace Go.Proofs.YtjjdjipohifgbaaGreat
open Go.RowKit

theorem Rep.keep {s s' : CoreS} {cur oth cur' : List Int} {N : Int → NodeG} {hs : List Int} {K : Int → Prop} {loc : Int → Int} (R : Rep s cur oth N hs K loc) (hm : ∀ b ∈ cur, b ∈ cur') (ho : ∀ b, (s.o.sizeAt b).isSome = true → (s'.o.sizeAt b).isSome = true)
    (hw : ∀ b ∈ oth, wayW s'.ws b = wayW s.ws b) (hb : ∀ b, Home s cur oth b → (headS s'.ws b).size = (headS s.ws b).size ∧ (headS s'.ws b).ptrs = (headS s.ws b).ptrs ∧ (∀ k : Int, (headS s.ws b).ptrs ≤ k → k < (headS s.ws b).size → rd s'.ws (b + 2 + k) = rd s.ws (b + 2 + k)) ∧
      (∀ k : Int, 0 ≤ k → k < (headS s.ws b).ptrs → s'.now (refS s'.ws b k) = s.now (refS s.ws b k))) (htl : s'.t.length = s.t.length) (ht : ∀ j : Nat, j < s.t.length → s'.now (s'.t.getD j 0) = s.now (s.t.getD j 0)) : Rep s' cur' oth N hs K loc := by
  refine ⟨R.k0, R.l0, R.inj, ?_, ?_, ?_, R.pk, ?_, ?_, by rw [htl]; exact R.hl, R.hk, ?_⟩
  · intro n hn
    rcases R.pl n hn with h | h | h
    · exact .inl (hm _ h)
    · exact .inr (.inl (ho _ h))
    · exact .inr (.inr ⟨h.1, by rw [hw _ h.1]; exact h.2⟩)
  · intro n hn
    rw [(hb _ (R.pl n hn)).1]
    exact R.sz n hn
  · intro n hn
    rw [(hb _ (R.pl n hn)).2.1]
    exact R.pn n hn
  · intro n hn j hj
    have := R.pn n hn
    rw [(hb _ (R.pl n hn)).2.2.2 j (by omega) (by omega)]
    exact R.pt n hn j hj
  · intro n hn j hj
    have := R.pn n hn
    have := R.sz n hn
    rw [(hb _ (R.pl n hn)).2.2.1 _ (by omega) (by omega)]
    exact R.sc n hn j hj
  · intro j hj
    rw [ht j (by rw [← R.hl]; exact hj)]
    exact R.hv j hj

theorem MvRes.okRef {s : CoreS} {cur oth cur' : List Int} {r T : Int} {s' : CoreS} (M : MvRes s cur oth r s' cur' T) {x : Int} (h : OkRef s cur oth x) : OkRef s' cur' oth x := by
  rcases h with h | h | h | h
  · exact .inl h
  · exact .inr (.inl (by unfold InOld at h ⊢; rw [M.C, M.wl]; exact h))
  · exact .inr (.inr (.inl (M.mono x h)))
  · exact .inr (.inr (.inr h))

/-- a move, with what is held -/
theorem move_rep {s : CoreS} {cur oth : List Int} {E F : Int → Prop} (I : Inv s cur oth E F) (hmv : s.moving = true) {N : Int → NodeG} {hs : List Int} {K : Int → Prop} {loc : Int → Int} (R : Rep s cur oth N hs K loc) (ht : ∀ x ∈ s.t, OkRef s cur oth x) {r : Int} (hr : OkRef s cur oth r) :
    ∃ cur' loc', Inv (s.move r) cur' oth E F ∧ MvRes s cur oth r (s.move r) cur' (s.moveV r) ∧ Rep (s.move r) cur' oth N hs K loc' ∧ (s.move r).now r = s.moveV r := by
  have stay : r = 0 ∨ s.y.isFrom r = false → NewRef s cur r → ∃ cur' loc', Inv (s.move r) cur' oth E F ∧ MvRes s cur oth r (s.move r) cur' (s.moveV r) ∧ Rep (s.move r) cur' oth N hs K loc' ∧ (s.move r).now r = s.moveV r := by
    intro h hn
    rw [CoreS.move, CoreS.moveV, if_pos h, if_pos h]
    exact ⟨cur, loc, I, ⟨fun _ hb => hb, hn, fun _ _ _ _ _ => rfl, rfl, rfl, rfl, rfl, rfl, rfl, rfl, rfl, fun _ _ => rfl, fun _ hb => hb⟩, R, I.lay.now_stay hn⟩
  rcases hr with h | h | h | h
  · exact stay (.inl h) (.inl h)
  · exact stay (.inr (I.lay.from_old (.inl h))) (.inr (.inl h))
  · exact stay (.inr (I.lay.from_not (.inl h))) (.inr (.inr h))
  · have h0 : ¬ (r = 0 ∨ s.y.isFrom r = false) := by
      rintro (h1 | h1)
      · exact I.lay.not_zero (.inr (.inl h)) h1
      · rw [I.lay.from_oth h] at h1; cases h1
    by_cases hw : wayW s.ws r = r
    · obtain ⟨cur', M, I', hm, hT⟩ := moved_inv I hmv h hw
      have e1 : s.move r = s.moved r := by rw [CoreS.move, if_neg h0, I.lay.now_oth h, if_pos hw]
      have e2 : s.moveV r = s.mvTo r := by rw [CoreS.moveV, if_neg h0, I.lay.now_oth h, if_pos hw]
      rw [e1, e2]
      obtain ⟨o1, o2, o3, o4, o5, o6, o7, o8, o9, o10, o11⟩ := moved_other s r
      have R' := R.moved I h hw M hm hT ht
      refine ⟨cur', _, I', ⟨hm, ?_, ?_, o1, o2, o4, o5, o6, o7, o8, M.wl, ?_, ?_⟩, R', ?_⟩
      · rcases hT with hT | hT
        · exact .inr (.inr hT)
        · exact .inr (.inl (I'.lay.old_range hT))
      · intro b hb
        have hbr : b ≠ r := by
          intro e
          have h1 := I.lay.from_oth h
          rw [← e, I.lay.from_not hb] at h1
          cases h1
        exact M.rest b (hb.elim .inl (fun h => .inr (.inr h))) hbr
      · intro b hb
        refine M.size b (.inl ?_)
        intro e
        exact M.new (.inr (.inr (e ▸ hb)))
      · intro b hb
        rw [o11]
        split
        · exact List.mem_append_left _ hb
        · exact hb
      · rw [now_moved I h hw M (.inr (.inr (.inr h))), I.lay.now_oth h, hw, if_pos rfl]
    · have e1 : s.move r = s := by rw [CoreS.move, if_neg h0, I.lay.now_oth h, if_neg hw]
      have e2 : s.moveV r = wayW s.ws r := by rw [CoreS.moveV, if_neg h0, I.lay.now_oth h, if_neg hw]
      rw [e1, e2]
      refine ⟨cur, loc, I, ⟨fun _ hb => hb, ?_, fun _ _ _ _ _ => rfl, rfl, rfl, rfl, rfl, rfl, rfl, rfl, rfl, fun _ _ => rfl, fun _ hb => hb⟩, R, I.lay.now_oth h⟩
      rcases (I.hds.hdO r h).2.2.2 with h1 | h1 | h1
      · exact absurd h1 hw
      · exact .inr (.inr h1)
      · exact .inr (.inl (I.lay.old_range h1))

/-- a reference that leads where the one before led is stored -/
theorem Rep.setRef {s : CoreS} {cur oth : List Int} {E F : Int → Prop} (I : Inv s cur oth E F) {N : Int → NodeG} {hs : List Int} {K : Int → Prop} {loc : Int → Int} (R : Rep s cur oth N hs K loc) {a k T : Int} (ha : Looked s cur E a) (k0 : 0 ≤ k) (k1 : k < (headS s.ws a).ptrs) (hT : NewRef s cur T) (hn : s.now (refS s.ws a k) = T) (ht : ∀ x ∈ s.t, OkRef s cur oth x) :
    Rep { s with ws := stW s.ws (place a k) (u64 T) } cur oth N hs K loc := by
  obtain ⟨I2, r1, r2, r3, r4, r5⟩ := setRef_inv I ha k0 k1 hT
  have hIa : IsO s cur oth a := ha.elim .inl (fun h => .inr (.inr h.1))
  obtain ⟨p1, p2, p3, p4⟩ := I.lay.pos hIa
  obtain ⟨b1, b2, b3, b4, b5⟩ := words_bounds s.ws a
  have hno : ∀ b ∈ oth, b ≠ a := by
    intro b hb e
    have h1 := I.lay.from_oth hb
    rw [e, I.lay.from_not ha.isO] at h1
    cases h1
  have hway : ∀ b ∈ oth, wayW (stW s.ws (place a k) (u64 T)) b = wayW s.ws b := by
    intro b hb
    have hO : IsO s cur oth b := .inr (.inl hb)
    obtain ⟨q1, q2, q3, q4⟩ := I.lay.pos hO
    have := (words_bounds s.ws b).1
    exact (r2 b hO (hno b hb)).way (by omega) (by omega) q3
  have hnow : ∀ x, OkRef s cur oth x → CoreS.now { s with ws := stW s.ws (place a k) (u64 T) } x = s.now x := by
    intro x hx
    rcases hx with h | h | h | h
    · rw [I.lay.now_stay (.inl h)]
      exact I2.lay.now_stay (.inl h)
    · rw [I.lay.now_stay (.inr (.inl h))]
      refine I2.lay.now_stay (.inr (.inl ?_))
      unfold InOld at h ⊢
      simp only [len_st]
      exact h
    · rw [I.lay.now_stay (.inr (.inr h))]
      exact I2.lay.now_stay (.inr (.inr h))
    · rw [I.lay.now_oth h, I2.lay.now_oth h]
      exact hway x h
  have hnowH : ∀ x, (x = 0 ∨ s.y.isFrom x = false) → CoreS.now { s with ws := stW s.ws (place a k) (u64 T) } x = s.now x := by
    intro x hx
    unfold CoreS.now
    have : ¬ (x ≠ 0 ∧ s.y.isFrom x = true) := by
      rintro ⟨h1, h2⟩
      rcases hx with h | h
      · exact h1 h
      · rw [h2] at h; cases h
    rw [if_neg this, if_neg this]
  refine R.keep (fun _ h => h) (fun _ h => h) hway ?_ rfl ?_
  · intro b hb
    by_cases e : b = a
    · subst e
      refine ⟨by rw [r3], by rw [r3], fun j j0 j1 => r5 j (by omega) (by omega) (by omega), fun j j0 j1 => ?_⟩
      by_cases ej : j = k
      · subst ej
        rw [r1, hn, hnow T hT.okRef, I.lay.now_stay hT]
      · have e2 : refS (stW s.ws (place b k) (u64 T)) b j = refS s.ws b j := by
          rw [refS_eq (by omega) p3 j0 (by omega), refS_eq (by omega) p3 j0 (by omega), r5 j j0 (by omega) ej]
        rw [e2]
        exact hnow _ (I.refOk hIa j0 j1)
    · have S := r2 b hb.isO e
      obtain ⟨q1, q2, q3, q4⟩ := I.lay.pos hb.isO
      obtain ⟨c1, c2, c3, c4, c5⟩ := words_bounds s.ws b
      refine ⟨by rw [S.head (by omega)], by rw [S.head (by omega)], fun j j0 j1 => S _ (by omega) (by omega), fun j j0 j1 => ?_⟩
      rw [S.ref (by omega) q3 j0 (by omega) (by omega)]
      exact hnow _ (I.refOk hb.isO j0 j1)
  · intro j hj
    refine hnow _ (ht _ ?_)
    rw [List.getD_eq_getElem?_getD, List.getElem?_eq_getElem hj]
    exact List.getElem_mem hj

theorem thrOne_rep {s : CoreS} {cur oth : List Int} {E F : Int → Prop} (I : Inv s cur oth E F) (hmv : s.moving = true) {N : Int → NodeG} {hs : List Int} {K : Int → Prop} {loc : Int → Int} (R : Rep s cur oth N hs K loc) (ht : ∀ x ∈ s.t, OkRef s cur oth x) {a : Int} (ha : Looked s cur E a) {k : Nat} (hk : (k : Int) < (headS s.ws a).ptrs) :
    ∃ cur' loc', Inv (s.thrOne a k) cur' oth E F ∧ (∀ x, OkRef s cur oth x → OkRef (s.thrOne a k) cur' oth x) ∧ (s.thrOne a k).t = s.t ∧ (s.thrOne a k).moving = true ∧ Looked (s.thrOne a k) cur' E a ∧ headS (s.thrOne a k).ws a = headS s.ws a ∧ (∀ b ∈ cur, b ∈ cur') ∧ Rep (s.thrOne a k) cur' oth N hs K loc' := by
  obtain ⟨cur', loc', I1, M, R1, hnow⟩ := move_rep I hmv R ht (I.okRef ha (by omega) hk)
  have hI : IsO s cur oth a := ha.elim .inl (fun h => .inr (.inr h.1))
  obtain ⟨p1, p2, p3, p4⟩ := I.lay.pos hI
  obtain ⟨b1, b2, b3, b4, b5⟩ := words_bounds s.ws a
  have SA := M.same a ha.isO
  have hdA : headS (s.move (refS s.ws a k)).ws a = headS s.ws a := SA.head (by omega)
  have rfA : refS (s.move (refS s.ws a k)).ws a k = refS s.ws a k := SA.ref (by omega) p3 (by omega) (by omega) (by omega)
  have ha1 : Looked (s.move (refS s.ws a k)) cur' E a := by
    rcases ha with h | ⟨h, h2⟩
    · exact .inl (M.mono a h)
    · exact .inr ⟨by rw [M.old a h]; exact h, h2⟩
  unfold CoreS.thrOne
  by_cases hq : s.moveV (refS s.ws a k) = refS s.ws a k
  · rw [if_pos hq]
    exact ⟨cur', loc', I1, fun x hx => M.okRef hx, M.t, M.moving.trans hmv, ha1, hdA, M.mono, R1⟩
  · rw [if_neg hq]
    obtain ⟨I2, r1, r2, r3, r4, r5⟩ := setRef_inv (k := (k : Int)) I1 ha1 (by omega) (by rw [hdA]; exact hk) M.res
    have ht1 : ∀ x ∈ (s.move (refS s.ws a k)).t, OkRef (s.move (refS s.ws a k)) cur' oth x := by
      intro x hx
      rw [M.t] at hx
      exact M.okRef (ht x hx)
    have R2 := R1.setRef I1 ha1 (k := (k : Int)) (by omega) (by rw [hdA]; exact hk) M.res (by rw [rfA]; exact hnow) ht1
    refine ⟨cur', loc', I2, ?_, M.t, M.moving.trans hmv, ?_, r3.trans hdA, M.mono, R2⟩
    · intro x hx
      rcases M.okRef hx with h | h | h | h
      · exact .inl h
      · refine .inr (.inl ?_)
        unfold InOld at h ⊢
        simp only [len_st]
        exact h
      · exact .inr (.inr (.inl h))
      · exact .inr (.inr (.inr h))
    · exact ha1

/-- the look through an object's references, with what is held -/
theorem thr_rep {s : CoreS} {cur oth : List Int} {E F : Int → Prop} (I : Inv s cur oth E F) (hmv : s.moving = true) {N : Int → NodeG} {hs : List Int} {K : Int → Prop} {loc : Int → Int} (R : Rep s cur oth N hs K loc) (ht : ∀ x ∈ s.t, OkRef s cur oth x) {a : Int} (ha : Looked s cur E a) : ∀ j : Nat, (j : Int) ≤ (headS s.ws a).ptrs →
    ∃ cur' loc', Inv (s.thr a j) cur' oth E F ∧ (∀ x, OkRef s cur oth x → OkRef (s.thr a j) cur' oth x) ∧ (s.thr a j).t = s.t ∧ (s.thr a j).moving = true ∧ Looked (s.thr a j) cur' E a ∧ headS (s.thr a j).ws a = headS s.ws a ∧ (∀ b ∈ cur, b ∈ cur') ∧ Rep (s.thr a j) cur' oth N hs K loc'
  | 0, _ => ⟨cur, loc, I, fun _ h => h, rfl, hmv, ha, rfl, fun _ h => h, R⟩
  | j + 1, hj => by
    obtain ⟨c1, l1, I1, k1, q1, q2, q3, q4, q5, R1⟩ := thr_rep I hmv R ht ha j (by omega)
    obtain ⟨c2, l2, I2, k2, w1, w2, w3, w4, w5, R2⟩ := thrOne_rep I1 q2 R1 (fun x hx => k1 x (ht x (by rw [← q1]; exact hx))) q3 (k := j) (by rw [q4]; omega)
    exact ⟨c2, l2, I2, fun x hx => k2 x (k1 x hx), w1.trans q1, w2, w3, w4.trans q4, fun b hb => w5 b (q5 b hb), R2⟩

end Go.Proofs.YtjjdjipohifgbaaGreat

/- A note, the look through an object, and each bit of a cycle keep what a heap holds. No program in sight. Conditions: a core whose parts fit its configuration. -/
namespace Go.Proofs.YtjjdjipohifgbaaGreat
open Go.RowKit

/-- what lies between two places is one row alone -/
theorem ORow.uniq {ws : List Int} : ∀ {l m : List Int} {f t : Int}, ORow ws f t l → ORow ws f t m → l = m
  | [], [], _, _, _, _ => rfl
  | [], b :: m, f, t, h, g => by
    simp only [ORow] at h
    obtain ⟨rfl, g2⟩ := g
    have := g2.le
    have := (words_bounds ws b).1
    omega
  | a :: l, [], f, t, h, g => by
    simp only [ORow] at g
    obtain ⟨rfl, h2⟩ := h
    have := h2.le
    have := (words_bounds ws a).1
    omega
  | a :: l, b :: m, f, t, h, g => by
    obtain ⟨rfl, h2⟩ := h
    obtain ⟨rfl, g2⟩ := g
    rw [ORow.uniq h2 g2]
theorem Inv.uniq {s : CoreS} {cur oth cur' oth' : List Int} {E F E' F' : Int → Prop} (I : Inv s cur oth E F) (J : Inv s cur' oth' E' F') : cur' = cur ∧ oth' = oth := ⟨J.lay.rc.uniq I.lay.rc, J.lay.ro.uniq I.lay.ro⟩

theorem now_same {s s' : CoreS} {cur oth : List Int} (l : Lay s cur oth) (hy : s'.y = s.y) (hw : ∀ b ∈ oth, wayW s'.ws b = wayW s.ws b) {x : Int} (hx : OkRef s cur oth x) : s'.now x = s.now x := by
  unfold CoreS.now
  rw [hy]
  by_cases hc : x ≠ 0 ∧ s.y.isFrom x = true
  · rw [if_pos hc, if_pos hc]
    refine hw x ?_
    rcases hx with h | h | h | h
    · exact absurd h hc.1
    · have := hc.2
      rw [l.from_old (.inl h)] at this
      cases this
    · have := hc.2
      rw [l.from_not (.inl h)] at this
      cases this
    · exact h
  · rw [if_neg hc, if_neg hc]

theorem mem_getD {l : List Int} {j : Nat} (h : j < l.length) : l.getD j 0 ∈ l := by
  rw [List.getD_eq_getElem?_getD, List.getElem?_eq_getElem h]
  exact List.getElem_mem h

theorem note_rep {s : CoreS} {cur oth : List Int} {E F : Int → Prop} (I : Inv s cur oth E F) {N : Int → NodeG} {hs : List Int} {K : Int → Prop} {loc : Int → Int} (R : Rep s cur oth N hs K loc) (ht : ∀ x ∈ s.t, OkRef s cur oth x) {a : Int} (ha : (s.o.sizeAt a).isSome = true) : Rep (s.note a) cur oth N hs K loc := by
  obtain ⟨I3, n1, n2, n3, n4, n5, n6, n7⟩ := note_inv I ha
  obtain ⟨m1, m2, m3, m4, m5, m6, m7, m8, m9, m10, m11, m12, m13⟩ := note_others s a
  have hw : ∀ b ∈ oth, wayW (s.note a).ws b = wayW s.ws b := fun b hb => (n4 b (.inr (.inl hb))).2.2.2.2
  refine R.keep (fun _ h => h) (fun b h => by rw [m7]; exact h) hw ?_ (by rw [m2]) ?_
  · intro b hb
    obtain ⟨h1, h2, h3, h4, h5⟩ := n4 b hb.isO
    obtain ⟨b1, b2, b3, b4, b5⟩ := words_bounds s.ws b
    refine ⟨h1, h2, fun k k0 k1 => n5 b hb.isO k (by omega) k1, fun k k0 k1 => ?_⟩
    rw [n3 b hb.isO k k0 k1]
    exact now_same I.lay m9 hw (I.refOk hb.isO k0 k1)
  · intro j hj
    rw [m2]
    exact now_same I.lay m9 hw (ht _ (mem_getD hj))

theorem unnote_rep {s : CoreS} {cur oth : List Int} {E F : Int → Prop} (I : Inv s cur oth E F) {N : Int → NodeG} {hs : List Int} {K : Int → Prop} {loc : Int → Int} (R : Rep s cur oth N hs K loc) (ht : ∀ x ∈ s.t, OkRef s cur oth x) {a : Int} (ha : (s.o.sizeAt a).isSome = true) : Rep (s.unnote a) cur oth N hs K loc := by
  obtain ⟨I1, u1, u2, u3, u4, u5, u6⟩ := unnote_inv (E' := fun b => E b ∨ b = a) (F' := F) I ha (fun b h => .inl h) (.inr rfl) (fun _ _ h => h)
  have hw : ∀ b ∈ oth, wayW (s.unnote a).ws b = wayW s.ws b := fun b hb => u5 b (.inr (.inl hb))
  refine R.keep (fun _ h => h) (fun _ h => h) hw ?_ rfl ?_
  · intro b hb
    obtain ⟨b1, b2, b3, b4, b5⟩ := words_bounds s.ws b
    have hd : (headS (s.unnote a).ws b).size = (headS s.ws b).size ∧ (headS (s.unnote a).ws b).ptrs = (headS s.ws b).ptrs := by
      by_cases e : b = a
      · rw [e, u1]
        exact ⟨rfl, rfl⟩
      · rw [u2 b hb.isO e]
        exact ⟨rfl, rfl⟩
    refine ⟨hd.1, hd.2, fun k k0 k1 => u6 b hb.isO k (by omega) k1, fun k k0 k1 => ?_⟩
    rw [u4 b hb.isO k k0 k1]
    exact now_same (s' := s.unnote a) I.lay rfl hw (I.refOk hb.isO k0 k1)
  · intro j hj
    exact now_same (s' := s.unnote a) I.lay rfl hw (ht _ (mem_getD hj))

/-- nothing that is held hangs on what is remembered, Row or the place to scan -/
theorem Rep.other {s s' : CoreS} {cur oth : List Int} {N : Int → NodeG} {hs : List Int} {K : Int → Prop} {loc : Int → Int} (R : Rep s cur oth N hs K loc) (h1 : s'.ws = s.ws) (h2 : s'.y = s.y) (h3 : s'.o = s.o) (h4 : s'.t = s.t) : Rep s' cur oth N hs K loc := by
  have hn : ∀ x, s'.now x = s.now x := fun x => by unfold CoreS.now; rw [h1, h2]
  refine R.keep (fun _ h => h) (fun b h => by rw [h3]; exact h) (fun b _ => by rw [h1]) ?_ (by rw [h4]) ?_
  · intro b _
    rw [h1]
    exact ⟨rfl, rfl, fun _ _ _ => rfl, fun k _ _ => hn _⟩
  · intro j _
    rw [h4, hn]

/-- the look through an object, with what is held -/
theorem look_rep {s : CoreS} {cur oth : List Int} {E F : Int → Prop} (I : Inv s cur oth E F) (hmv : s.moving = true) {N : Int → NodeG} {hs : List Int} {K : Int → Prop} {loc : Int → Int} (R : Rep s cur oth N hs K loc) (ht : ∀ x ∈ s.t, OkRef s cur oth x) {a : Int} (ha : Looked s cur E a) {cur' : List Int} (J : Inv (s.through a) cur' oth E F) : ∃ loc', Rep (s.through a) cur' oth N hs K loc' := by
  have hp : ((s.ptrsOf a : Nat) : Int) = (headS s.ws a).ptrs := by
    have := (words_bounds s.ws a).2.2.2.1
    unfold CoreS.ptrsOf
    omega
  obtain ⟨c1, l1, I1, k1, q1, q2, q3, q4, q5, R1⟩ := thr_rep I hmv R ht ha (s.ptrsOf a) (by omega)
  unfold CoreS.through at J ⊢
  by_cases hy : s.thrYoung a (s.ptrsOf a) = true
  · rw [if_pos hy] at J ⊢
    rcases q3 with hc | ⟨ho, _⟩
    · rw [note_young I1 hc] at J ⊢
      obtain ⟨rfl, _⟩ := I1.uniq J
      exact ⟨l1, R1⟩
    · have R2 := note_rep I1 R1 (fun x hx => k1 x (ht x (by rw [← q1]; exact hx))) ho
      obtain ⟨rfl, _⟩ := (note_inv I1 ho).1.uniq J
      exact ⟨l1, R2⟩
  · rw [if_neg hy] at J ⊢
    obtain ⟨rfl, _⟩ := I1.uniq J
    exact ⟨l1, R1⟩

end Go.Proofs.YtjjdjipohifgbaaGreat

/- Each bit of a cycle keeps what a heap holds. No program in sight. Conditions: a core whose parts fit its configuration. -/
namespace Go.Proofs.YtjjdjipohifgbaaGreat
open Go.RowKit

theorem HdlIn.ok {s : CoreS} {cur oth : List Int} (h : HdlIn s cur) : ∀ x ∈ s.t, OkRef s cur oth x := fun x hx => (h x hx).okRef
theorem HdlIn.keep {s s' : CoreS} {cur oth cur' oth' : List Int} (l : Lay s cur oth) (l' : Lay s' cur' oth') (h : HdlIn s cur) (hC : s'.C = s.C) (ht : s'.t = s.t) (hm : ∀ b ∈ cur, b ∈ cur') : HdlIn s' cur' := by
  intro x hx
  rw [ht] at hx
  refine NewRef.mono hC ?_ hm (h x hx)
  have h1 := l.wl
  have h2 := l'.wl
  rw [hC] at h2
  omega

theorem noted_rep {s : CoreS} {cur oth cur' : List Int} {E F E' F' : Int → Prop} (I : Inv s cur oth E F) (hmv : s.moving = true) {N : Int → NodeG} {hs : List Int} {K : Int → Prop} {loc : Int → Int} (R : Rep s cur oth N hs K loc) (ht : HdlIn s cur) {a : Int} (J : Inv (s.notedS a) cur' oth E' F') : ∃ loc', Rep (s.notedS a) cur' oth N hs K loc' := by
  unfold CoreS.notedS at J ⊢
  by_cases hq : s.isNoted a = true
  · rw [if_pos hq] at J ⊢
    have ha : (s.o.sizeAt a).isSome = true := by
      unfold CoreS.isNoted at hq
      rw [Bool.and_eq_true] at hq
      exact hq.1
    obtain ⟨I1, u1, u2, u3, u4, u5, u6⟩ := unnote_inv (E' := fun b => E b ∨ b = a) (F' := F) I ha (fun b h => .inl h) (.inr rfl) (fun _ _ h => h)
    have hL : Looked (s.unnote a) cur (fun b => E b ∨ b = a) a := .inr ⟨ha, .inr rfl⟩
    obtain ⟨c1, L⟩ := look_inv I1 (show (s.unnote a).moving = true from hmv) hL
    obtain ⟨rfl, _⟩ := L.inv.uniq J
    exact look_rep I1 hmv (unnote_rep I R ht.ok ha) (HdlIn.keep I.lay I1.lay ht rfl rfl (fun _ h => h)).ok hL L.inv
  · rw [if_neg hq] at J ⊢
    obtain ⟨rfl, _⟩ := I.uniq J
    exact ⟨loc, R⟩

theorem part_rep {oth : List Int} {N : Int → NodeG} {hs : List Int} {K : Int → Prop} : ∀ (l : List Int) {s : CoreS} {cur cur' : List Int} {loc : Int → Int}, Inv s cur oth (fun b => b ∈ l ∧ (headS s.ws b).noted = true) (fun b => b ∈ l) → s.moving = true → (∀ b ∈ l, (s.o.sizeAt b).isSome = true) → HdlIn s cur → Rep s cur oth N hs K loc → Inv (s.partS l) cur' oth NoI NoI →
    ∃ loc', Rep (s.partS l) cur' oth N hs K loc'
  | [], s, cur, cur', loc, I, _, _, _, R, J => by
    have J' : Inv s cur' oth NoI NoI := J
    obtain ⟨rfl, _⟩ := I.uniq J'
    exact ⟨loc, R⟩
  | a :: l, s, cur, cur', loc, I, hmv, ho, ht, R, J => by
    obtain ⟨hok, c1, I1, M⟩ := noted_inv (a := a) (E' := fun b => b ≠ a ∧ b ∈ l ∧ (headS s.ws b).noted = true) (F' := fun b => b ∈ l) I hmv (fun _ h => h.2)
      (fun b hb h => ⟨hb, (List.mem_cons.1 h.1).resolve_left hb, h.2⟩) (fun b hb h => (List.mem_cons.1 h).resolve_left hb)
    have hds : ∀ b ∈ l, b ≠ a → headS (s.notedS a).ws b = headS s.ws b := fun b hb hba => M.others b hba (.inr (ho b (List.mem_cons_of_mem _ hb)))
    obtain ⟨l1, R1⟩ := noted_rep I hmv R ht I1
    exact part_rep l (s := s.notedS a) (cur := c1) (I1.weak (fun b h => ⟨h.2.1, by rw [hds b h.2.1 h.1]; exact h.2.2⟩) (fun _ h => h)) (M.moving.trans hmv)
      (fun b hb => by rw [M.old b (ho b (List.mem_cons_of_mem _ hb))]; exact ho b (List.mem_cons_of_mem _ hb)) (HdlIn.keep I.lay I1.lay ht M.C M.t M.mono) R1 J

theorem row_rep {s : CoreS} {cur oth cur' : List Int} (I : Inv s cur oth NoI NoI) (hmv : s.moving = true) {N : Int → NodeG} {hs : List Int} {K : Int → Prop} {loc : Int → Int} (R : Rep s cur oth N hs K loc) (ht : HdlIn s cur) (J : Inv s.rowS cur' oth NoI NoI) : ∃ loc', Rep s.rowS cur' oth N hs K loc' := by
  have I1 : Inv s.unrow cur oth (fun b => b = s.rowHd) NoI := unrow_inv I (fun b h => h.elim) (fun _ => rfl)
  have R1 : Rep s.unrow cur oth N hs K loc := R.other rfl rfl rfl rfl
  unfold CoreS.rowS at J ⊢
  by_cases ha : (s.o.sizeAt s.rowHd).isSome = true
  · rw [if_pos ha] at J ⊢
    have hL : Looked s.unrow cur (fun b => b = s.rowHd) s.rowHd := .inr ⟨ha, rfl⟩
    obtain ⟨c1, L⟩ := look_inv I1 (show s.unrow.moving = true from hmv) hL
    obtain ⟨rfl, _⟩ := L.inv.uniq J
    exact look_rep I1 hmv R1 (HdlIn.keep I.lay I1.lay ht rfl rfl (fun _ h => h)).ok hL L.inv
  · rw [if_neg ha] at J ⊢
    obtain ⟨rfl, _⟩ := I1.uniq J
    exact ⟨loc, R1⟩

theorem scan_rep {s : CoreS} {cur oth cur' : List Int} (I : Inv s cur oth NoI NoI) (hmv : s.moving = true) (hok : s.scanOk = true) {N : Int → NodeG} {hs : List Int} {K : Int → Prop} {loc : Int → Int} (R : Rep s cur oth N hs K loc) (ht : HdlIn s cur) (J : Inv s.scanS cur' oth NoI NoI) : ∃ loc', Rep s.scanS cur' oth N hs K loc' := by
  obtain ⟨hsc, c1, L, I2, _⟩ := scan_inv I hmv hok
  obtain ⟨rfl, _⟩ := I2.uniq J
  obtain ⟨l1, R1⟩ := look_rep I hmv R ht.ok (E := NoI) (.inl hsc) L.inv
  exact ⟨l1, R1.other rfl rfl rfl rfl⟩

end Go.Proofs.YtjjdjipohifgbaaGreat

/- Each bit of a cycle, its end with it, keeps what a heap holds. No program in sight. Conditions: a core whose parts fit its configuration. -/
namespace Go.Proofs.YtjjdjipohifgbaaGreat
open Go.RowKit

theorem popBuf_inv {s : CoreS} {cur oth : List Int} (I : Inv s cur oth NoI NoI) (hmv : s.moving = true) {x : Int} {l : List Int} (hx : s.r.tb.list = x :: l) : Inv s.popBuf cur oth (fun b => b = x ∧ (headS s.ws b).noted = true) (fun b => b = x) := by
  have RO := I.rem
  refine swapR_inv I hmv { s.r with tb := s.r.tb.rest } ⟨RO.base, RO.ws, RO.size, RO.most, RO.nc, RO.tc, fun y hy => RO.bi y (hy.elim .inl (fun h => .inr (List.mem_of_mem_tail h))), RO.bm.1, RO.bm.2.1, RO.bm.2.2.1, tail_le RO.bm.2.2.2⟩ (fun _ h => h) ?_
  intro b _ hn h
  rcases h with h | h
  · rw [hx] at h
    rcases List.mem_cons.1 h with h | h
    · exact .inr ⟨⟨h, hn⟩, h⟩
    · refine .inl (.inl ?_)
      show b ∈ s.r.tb.list.tail
      rw [hx]
      exact h
  · exact .inl (.inr h)

theorem popCard_inv {s : CoreS} {cur oth : List Int} (I : Inv s cur oth NoI NoI) (hmv : s.moving = true) (hx : s.r.tb.list = []) (n : Nat) :
    Inv (s.popCard n) cur oth (fun b => b ∈ s.cardStarts n ∧ (headS (s.popCard n).ws b).noted = true) (fun b => b ∈ s.cardStarts n) ∧ (∀ b ∈ s.cardStarts n, ((s.popCard n).o.sizeAt b).isSome = true) := by
  have RO := I.rem
  obtain ⟨t1, t2, t3, t4⟩ := RO.tc
  have hst : ∀ b, b ∈ s.cardStarts n ↔ s.r.tc.partLo n ≤ b ∧ b < s.r.tc.partHi n ∧ (s.o.sizeAt b).isSome = true := fun b => starts_iff I.lay.ov
  refine ⟨?_, fun b hb => ((hst b).1 hb).2.2⟩
  refine swapR_inv I hmv { s.r with tb := s.r.tb.rest, tc := s.r.tc.clr n } ⟨RO.base, RO.ws, RO.size, RO.most, RO.nc, ⟨t1, t2, t3, ?_⟩, fun y hy => RO.bi y (hy.elim .inl (fun h => .inr (List.mem_of_mem_tail h))), RO.bm.1, RO.bm.2.1, RO.bm.2.2.1, tail_le RO.bm.2.2.2⟩ (fun _ h => h) ?_
  · show ((s.r.tc.marks.set n false).length : Int) = _
    rw [List.length_set]
    exact t4
  · intro b ho hn h
    rcases h with h | h
    · rw [hx] at h
      cases h
    · by_cases e : ((b - s.r.tc.base) / s.r.tc.card).toNat = n
      · right
        have hh := h
        unfold CardS.marked at hh
        rw [Bool.and_eq_true] at hh
        have := CardS.part_of (c := s.r.tc) (by rw [t3]; exact I.lay.cf.c1) hh.1
        rw [e] at this
        have hb : b ∈ s.cardStarts n := (hst b).2 ⟨this.1, this.2, ho⟩
        exact ⟨⟨hb, hn⟩, hb⟩
      · exact .inl (.inr (CardS.clr_marked h e))

theorem NewRef.notOth {s : CoreS} {cur oth : List Int} (l : Lay s cur oth) {r : Int} (h : NewRef s cur r) : r ∉ oth := by
  intro ho
  have h1 := l.from_oth ho
  rcases h with h | h | h
  · exact l.not_zero (.inr (.inl ho)) h
  · rw [l.from_old (.inl h)] at h1; cases h1
  · rw [l.from_not (.inl h)] at h1; cases h1

theorem finish_rep {s : CoreS} {cur oth : List Int} (I : Inv s cur oth NoI NoI) (J : Inv s.finishS cur [] NoI NoI) {N : Int → NodeG} {hs : List Int} {K : Int → Prop} {loc : Int → Int} (R : Rep s cur oth N hs K loc) (ht : HdlIn s cur) : Rep s.finishS cur [] N hs (fun n => K n ∧ loc n ∉ oth) loc := by
  have hnew : ∀ r, NewRef s.finishS cur r → NewRef s cur r := fun r h => h
  have href : ∀ n, K n → loc n ∉ oth → ∀ k : Int, 0 ≤ k → k < (headS s.ws (loc n)).ptrs → NewRef s cur (refS s.ws (loc n) k) := by
    intro n hn ho k k0 k1
    rcases R.pl n hn with h | h | h
    · rcases J.refs.rC _ h k k0 k1 with h | h | h | ⟨h, _⟩
      · exact .inl h
      · exact .inr (.inl h)
      · exact .inr (.inr h)
      · cases h
    · rcases J.refs.rM _ h k k0 k1 with h | h | ⟨h, _⟩ | ⟨h, _⟩
      · exact .inl h
      · exact .inr (.inl h)
      · exact .inr (.inr h)
      · cases h
    · exact absurd h.1 ho
  have hfar : ∀ m, (m = 0 ∨ K m) → NewRef s cur (loc m) → m = 0 ∨ (K m ∧ loc m ∉ oth) := fun m hm h => hm.elim .inl (fun hk => .inr ⟨hk, h.notOth I.lay⟩)
  refine ⟨fun h => R.k0 h.1, R.l0, fun n m hn hm => R.inj n m hn.1 hm.1, ?_, fun n hn => R.sz n hn.1, fun n hn => R.pn n hn.1, ?_, ?_, fun n hn => R.sc n hn.1, R.hl, ?_, ?_⟩
  · intro n hn
    rcases R.pl n hn.1 with h | h | h
    · exact .inl h
    · exact .inr (.inl h)
    · exact absurd h.1 hn.2
  · intro n hn m hm
    obtain ⟨j, hj, rfl⟩ := List.getElem_of_mem hm
    have hpn := R.pn n hn.1
    have h1 := href n hn.1 hn.2 j (by omega) (by omega)
    have h2 := R.pt n hn.1 j hj
    rw [I.lay.now_stay h1, List.getD_eq_getElem?_getD, List.getElem?_eq_getElem hj] at h2
    refine hfar _ (R.pk n hn.1 _ hm) ?_
    have h3 : refS s.ws (loc n) j = loc ((N n).ptrs[j]) := h2
    rw [← h3]
    exact h1
  · intro n hn j hj
    have hpn := R.pn n hn.1
    have h1 := href n hn.1 hn.2 j (by omega) (by omega)
    have h2 := R.pt n hn.1 j hj
    rw [I.lay.now_stay h1] at h2
    exact (J.lay.now_stay (s := s.finishS) h1).trans h2
  · intro x hx
    obtain ⟨j, hj, rfl⟩ := List.getElem_of_mem hx
    have hjt : j < s.t.length := by rw [← R.hl]; exact hj
    have h1 := ht _ (mem_getD hjt)
    have h2 := R.hv j hj
    rw [I.lay.now_stay h1, show hs.getD j 0 = hs[j] by rw [List.getD_eq_getElem?_getD, List.getElem?_eq_getElem hj]; rfl] at h2
    refine hfar _ (R.hk _ hx) ?_
    have h3 : s.t.getD j 0 = loc (hs[j]) := h2
    rw [← h3]
    exact h1
  · intro j hj
    have hjt : j < s.t.length := by rw [← R.hl]; exact hj
    have h1 := ht _ (mem_getD hjt)
    have h2 := R.hv j hj
    rw [I.lay.now_stay h1] at h2
    exact (J.lay.now_stay (s := s.finishS) h1).trans h2

end Go.Proofs.YtjjdjipohifgbaaGreat

/- Each bit and the start of a cycle keep what a heap holds. No program in sight. Conditions: a core whose parts fit its configuration. -/
namespace Go.Proofs.YtjjdjipohifgbaaGreat
open Go.RowKit

/-- each bit -/
theorem step_rep {s : CoreS} {cur oth : List Int} (I : Inv s cur oth NoI NoI) {N : Int → NodeG} {hs : List Int} {K : Int → Prop} {loc : Int → Int} (R : Rep s cur oth N hs K loc) (ht : HdlIn s cur) :
    ∃ cur' oth' K' loc', Inv s.minStep cur' oth' NoI NoI ∧ Rep s.minStep cur' oth' N hs K' loc' ∧ HdlIn s.minStep cur' ∧ (∀ n, K' n → K n) := by
  have key : ∀ {s' : CoreS} {cur' : List Int}, Inv s' cur' oth NoI NoI → (∀ b ∈ cur, b ∈ cur') → Kept s s' → (∃ loc', Rep s' cur' oth N hs K loc') → ∃ cur' oth' K' loc', Inv s' cur' oth' NoI NoI ∧ Rep s' cur' oth' N hs K' loc' ∧ HdlIn s' cur' ∧ (∀ n, K' n → K n) := by
    rintro s' cur' J m k ⟨l', R'⟩
    exact ⟨cur', oth, K, l', J, R', HdlIn.keep I.lay J.lay ht k.C k.t m, fun _ h => h⟩
  show ∃ cur' oth' K' loc', Inv (s.stepOf s.which) cur' oth' NoI NoI ∧ Rep (s.stepOf s.which) cur' oth' N hs K' loc' ∧ HdlIn (s.stepOf s.which) cur' ∧ (∀ n, K' n → K n)
  unfold CoreS.which
  by_cases hmv : s.moving = false
  · rw [if_pos hmv]
    exact ⟨cur, oth, K, loc, I, R, ht, fun _ h => h⟩
  · rw [if_neg hmv]
    have hmv' : s.moving = true := by simpa using hmv
    by_cases hr : 0 < s.row.length
    · rw [if_pos hr]
      obtain ⟨h1, c1, I2, m, q1, q2, q3, q4, q5, q6⟩ := row_inv I hmv'
      exact key I2 m ⟨q1, q2, q3, q4⟩ (row_rep I hmv' R ht I2)
    · rw [if_neg hr]
      cases hx : s.r.tb.list with
      | cons x l =>
        obtain ⟨h1, c1, I2, m, k, q5, q6⟩ := buf_inv I hmv' hx
        have IP := popBuf_inv I hmv' hx
        exact key I2 m k (noted_rep IP hmv' (R.other (s' := s.popBuf) rfl rfl rfl rfl) (HdlIn.keep I.lay IP.lay ht rfl rfl (fun _ h => h)) I2)
      | nil =>
        cases hf : s.r.tc.first with
        | some n =>
          obtain ⟨h1, c1, I2, m, k, q5, q6⟩ := card_inv I hmv' hx n
          obtain ⟨IP, ho⟩ := popCard_inv I hmv' hx n
          exact key I2 m k (part_rep (s.cardStarts n) IP hmv' ho (HdlIn.keep I.lay IP.lay ht rfl rfl (fun _ h => h)) (R.other (s' := s.popCard n) rfl rfl rfl rfl) I2)
        | none =>
          by_cases hs' : s.scanOk = true
          · simp only [hs', if_true]
            obtain ⟨hsc, c1, L, I2, _⟩ := scan_inv I hmv' hs'
            exact key I2 L.mono ⟨L.C, L.t, L.parity, L.phase⟩ (scan_rep I hmv' hs' R ht I2)
          · simp only [hs']
            have J := finish_inv I hmv' (by omega) hx hf hs'
            exact ⟨cur, [], _, loc, J, finish_rep I J R ht, ht, fun n h => h.1⟩

theorem begun_rep {s : CoreS} {cur oth : List Int} (I : Inv s cur oth NoI NoI) (hmv : s.moving = false) {N : Int → NodeG} {hs : List Int} {K : Int → Prop} {loc : Int → Int} (R : Rep s cur oth N hs K loc) (ht : HdlIn s cur) : Rep s.begun [] cur N hs K loc := by
  obtain ⟨r1, r2, r3, r4, r5⟩ := rest_facts I hmv
  subst r1
  have B := begun_inv I hmv
  have hnow : ∀ x, NewRef s cur x → s.begun.now x = s.now x := by
    intro x hx
    rw [I.lay.now_stay hx]
    rcases hx with h | h | h
    · exact B.lay.now_stay (.inl h)
    · exact B.lay.now_stay (.inr (.inl h))
    · rw [B.lay.now_oth h]
      exact (I.hds.hdC x h).2.2.2
  have hnew : ∀ x, OkRef s cur [] x → NewRef s cur x := by
    intro x hx
    rcases hx with h | h | h | h
    · exact .inl h
    · exact .inr (.inl h)
    · exact .inr (.inr h)
    · cases h
  refine ⟨R.k0, R.l0, R.inj, ?_, R.sz, R.pn, R.pk, ?_, R.sc, R.hl, R.hk, ?_⟩
  · intro n hn
    rcases R.pl n hn with h | h | h
    · exact .inr (.inr ⟨h, (I.hds.hdC _ h).2.2.2⟩)
    · exact .inr (.inl h)
    · cases h.1
  · intro n hn j hj
    have hpn := R.pn n hn
    have h1 := hnew _ (I.refOk (R.pl n hn).isO (k := (j : Int)) (by omega) (by omega))
    exact (hnow _ h1).trans (R.pt n hn j hj)
  · intro j hj
    have hjt : j < s.t.length := by rw [← R.hl]; exact hj
    exact (hnow _ (ht _ (mem_getD hjt))).trans (R.hv j hj)

/-- a handle that leads where it led -/
theorem Rep.setT {s : CoreS} {cur oth : List Int} {N : Int → NodeG} {hs : List Int} {K : Int → Prop} {loc : Int → Int} (R : Rep s cur oth N hs K loc) (t : List Int) (h1 : t.length = s.t.length) (h2 : ∀ j : Nat, j < s.t.length → s.now (t.getD j 0) = s.now (s.t.getD j 0)) : Rep { s with t := t } cur oth N hs K loc :=
  R.keep (s' := { s with t := t }) (fun _ h => h) (fun _ h => h) (fun _ _ => rfl) (fun _ _ => ⟨rfl, rfl, fun _ _ _ => rfl, fun _ _ _ => rfl⟩) h1 h2

end Go.Proofs.YtjjdjipohifgbaaGreat

/- The start of a cycle keeps what a heap holds. No program in sight. Conditions: a core whose parts fit its configuration. -/
namespace Go.Proofs.YtjjdjipohifgbaaGreat
open Go.RowKit

theorem handles_rep {s : CoreS} {oth cur : List Int} (I : Inv s cur oth NoI NoI) (hmv : s.moving = true) (ht : ∀ x ∈ s.t, OkRef s cur oth x) {N : Int → NodeG} {hs : List Int} {K : Int → Prop} {loc : Int → Int} (R : Rep s cur oth N hs K loc) : ∀ k : Nat, k ≤ s.t.length →
    ∃ cur' loc', Inv (s.handles s.t k) cur' oth NoI NoI ∧ Rep (s.handles s.t k) cur' oth N hs K loc'
  | 0, _ => ⟨cur, loc, I, R⟩
  | k + 1, hk => by
    obtain ⟨c0, l0, I0, R0⟩ := handles_rep I hmv ht R k (by omega)
    obtain ⟨c1, I1, m1, a1, a2, a3, a4, a5, a6, a7, a8, a9⟩ := handles_inv I hmv ht k (by omega)
    obtain ⟨rfl, _⟩ := I0.uniq I1
    have lift : ∀ {x : Int}, OkRef s cur oth x → OkRef (s.handles s.t k) c1 oth x := by
      intro x h
      rcases h with h | h | h | h
      · exact .inl h
      · exact .inr (.inl (by unfold InOld at h ⊢; rw [a1, a5]; exact h))
      · exact .inr (.inr (.inl (m1 x h)))
      · exact .inr (.inr (.inr h))
    have ht1 : ∀ x ∈ (s.handles s.t k).t, OkRef (s.handles s.t k) c1 oth x := by
      intro x hx
      obtain ⟨j, hj, rfl⟩ := List.getElem_of_mem hx
      have e : (s.handles s.t k).t[j] = (s.handles s.t k).t.getD j 0 := by rw [List.getD_eq_getElem?_getD, List.getElem?_eq_getElem hj]; rfl
      rw [e]
      by_cases hjk : j < k
      · exact (a7 j hjk).okRef
      · rw [a8 j (by omega)]
        exact lift (ht _ (mem_getD (by omega)))
    obtain ⟨c2, l2, I2, M, R2, hnow⟩ := move_rep I1 a4 R0 ht1 (lift (ht _ (mem_getD (l := s.t) (j := k) (by omega))))
    have hg := fun j => tblSet_get (l := ((s.handles s.t k).move (s.t.getD k 0)).t) (i := k) (v := (s.handles s.t k).moveV (s.t.getD k 0)) (by rw [M.t]; omega) j
    refine ⟨c2, l2, I2.setT _, R2.setT (tblSet ((s.handles s.t k).move (s.t.getD k 0)).t k ((s.handles s.t k).moveV (s.t.getD k 0))) (tblSet_len ..) ?_⟩
    intro j hj
    rw [hg j]
    by_cases e : j = k
    · rw [if_pos e, e, I2.lay.now_stay M.res, M.t, a8 k (Nat.le_refl _), hnow]
    · rw [if_neg e]

theorem start_rep {s : CoreS} {cur oth : List Int} (I : Inv s cur oth NoI NoI) {N : Int → NodeG} {hs : List Int} {K : Int → Prop} {loc : Int → Int} (R : Rep s cur oth N hs K loc) (ht : HdlIn s cur) :
    ∃ cur' oth' loc', Inv s.startS cur' oth' NoI NoI ∧ Rep s.startS cur' oth' N hs K loc' ∧ HdlIn s.startS cur' := by
  obtain ⟨_, c1, o1, J, hJ, _⟩ := start_inv I ht
  cases hmv : s.moving with
  | true =>
    have e0 : s.startOk = false := by simp [CoreS.startOk, hmv]
    have e1 : s.startS = s := by unfold CoreS.startS; rw [if_neg (by rw [e0]; decide)]
    rw [e1]
    exact ⟨cur, oth, loc, I, R, ht⟩
  | false =>
    obtain ⟨r1, r2, r3, r4, r5⟩ := rest_facts I hmv
    have e0 : s.startOk = true := by simp [CoreS.startOk, hmv, r5]
    have e1 : s.startS = s.begun.handles s.t s.t.length := by unfold CoreS.startS; rw [if_pos e0]
    have B := begun_inv I hmv
    have ht2 : ∀ x ∈ s.begun.t, OkRef s.begun [] cur x := by
      intro x hx
      rcases ht x hx with h | h | h
      · exact .inl h
      · exact .inr (.inl h)
      · exact .inr (.inr (.inr h))
    obtain ⟨c2, l2, I2, R2⟩ := handles_rep B rfl ht2 (begun_rep I hmv R ht) s.t.length (Nat.le_refl _)
    rw [e1] at J hJ ⊢
    have I2' : Inv (s.begun.handles s.t s.t.length) c2 cur NoI NoI := I2
    obtain ⟨rfl, rfl⟩ := J.uniq I2'
    exact ⟨_, _, l2, J, R2, hJ⟩

end Go.Proofs.YtjjdjipohifgbaaGreat

/- What handles come to, as numbers, hangs on the graph alone. No program in sight. Conditions: none. -/
namespace Go.Proofs.YtjjdjipohifgbaaGreat
open Go.RowKit

/-- the number of a place, from 1 on; 0 of none -/
def meetL (met : List Int) (x : Int) : List Int × Int := if x = 0 then (met, 0) else if x ∈ met then (met, (met.idxOf x : Int) + 1) else (met ++ [x], (met.length : Int) + 1)
def meetsL : List Int → List Int → List Int × List Int
  | met, [] => (met, [])
  | met, x :: l => ((meetsL (meetL met x).1 l).1, (meetL met x).2 :: (meetsL (meetL met x).1 l).2)
/-- all that was met, one after the other -/
def tellL (sz pn : Int → Int) (rf sc : Int → List Int) : Nat → Nat → List Int → List Int
  | 0, _, _ => []
  | f + 1, i, met => match met[i]? with
    | none => []
    | some a => sz a :: pn a :: ((meetsL met (rf a)).2 ++ (sc a ++ tellL sz pn rf sc f (i + 1) (meetsL met (rf a)).1))
def shownL (sz pn : Int → Int) (rf sc : Int → List Int) (f : Nat) (h : List Int) : List Int := (meetsL [] h).2 ++ tellL sz pn rf sc f 0 (meetsL [] h).1

section
variable {K : Int → Prop} {loc : Int → Int}

theorem idx_map : ∀ {met : List Int} {x : Int}, (∀ m ∈ met, K m) → K x → (∀ n m, K n → K m → loc n = loc m → n = m) → (met.map loc).idxOf (loc x) = met.idxOf x
  | [], _, _, _, _ => rfl
  | m :: met, x, hm, hx, hi => by
    rw [List.map_cons, List.idxOf_cons, List.idxOf_cons, idx_map (fun m h => hm m (List.mem_cons_of_mem _ h)) hx hi]
    by_cases e : m = x
    · rw [e, beq_self_eq_true, beq_self_eq_true]
    · have : loc m ≠ loc x := fun h => e (hi m x (hm m (List.mem_cons_self ..)) hx h)
      rw [beq_eq_false_iff_ne.2 e, beq_eq_false_iff_ne.2 this]

theorem meet_map {met : List Int} {x : Int} (hm : ∀ m ∈ met, K m) (hx : x = 0 ∨ K x) (hi : ∀ n m, K n → K m → loc n = loc m → n = m) (l0 : loc 0 = 0) (k0 : ¬ K 0) (hz : ∀ n, K n → loc n ≠ 0) :
    meetL (met.map loc) (loc x) = ((meetL met x).1.map loc, (meetL met x).2) ∧ ∀ m ∈ (meetL met x).1, K m := by
  unfold meetL
  rcases hx with rfl | hx
  · rw [if_pos l0, if_pos rfl]
    exact ⟨rfl, hm⟩
  · have hx0 : x ≠ 0 := fun e => k0 (e ▸ hx)
    rw [if_neg (hz x hx), if_neg hx0]
    by_cases hin : x ∈ met
    · rw [if_pos (List.mem_map_of_mem hin), if_pos hin, idx_map hm hx hi]
      exact ⟨rfl, hm⟩
    · have hn : loc x ∉ met.map loc := by
        intro h
        obtain ⟨m, h1, h2⟩ := List.mem_map.1 h
        exact hin (hi m x (hm m h1) hx h2 ▸ h1)
      rw [if_neg hn, if_neg hin]
      refine ⟨by simp, ?_⟩
      intro m h
      rcases List.mem_append.1 h with h | h
      · exact hm m h
      · rw [List.mem_singleton.1 h]
        exact hx

theorem meets_map (hi : ∀ n m, K n → K m → loc n = loc m → n = m) (l0 : loc 0 = 0) (k0 : ¬ K 0) (hz : ∀ n, K n → loc n ≠ 0) : ∀ {l met : List Int}, (∀ m ∈ met, K m) → (∀ x ∈ l, x = 0 ∨ K x) →
    meetsL (met.map loc) (l.map loc) = ((meetsL met l).1.map loc, (meetsL met l).2) ∧ ∀ m ∈ (meetsL met l).1, K m
  | [], met, hm, _ => ⟨rfl, hm⟩
  | x :: l, met, hm, hl => by
    obtain ⟨h1, h2⟩ := meet_map hm (hl x (List.mem_cons_self ..)) hi l0 k0 hz
    obtain ⟨h3, h4⟩ := meets_map hi l0 k0 hz (l := l) h2 (fun y hy => hl y (List.mem_cons_of_mem _ hy))
    refine ⟨?_, h4⟩
    rw [List.map_cons]
    unfold meetsL
    rw [h1, h3]

theorem tell_map (hi : ∀ n m, K n → K m → loc n = loc m → n = m) (l0 : loc 0 = 0) (k0 : ¬ K 0) (hz : ∀ n, K n → loc n ≠ 0) {sz pn sz' pn' : Int → Int} {rf sc rf' sc' : Int → List Int} (h1 : ∀ n, K n → sz (loc n) = sz' n) (h2 : ∀ n, K n → pn (loc n) = pn' n) (h3 : ∀ n, K n → rf (loc n) = (rf' n).map loc) (h4 : ∀ n, K n → sc (loc n) = sc' n) (h5 : ∀ n, K n → ∀ x ∈ rf' n, x = 0 ∨ K x) :
    ∀ (f i : Nat) {met : List Int}, (∀ m ∈ met, K m) → tellL sz pn rf sc f i (met.map loc) = tellL sz' pn' rf' sc' f i met
  | 0, _, _, _ => rfl
  | f + 1, i, met, hm => by
    unfold tellL
    rw [List.getElem?_map]
    cases hq : met[i]? with
    | none => rfl
    | some n =>
      have hn : K n := hm n (List.mem_of_getElem? hq)
      simp only [Option.map_some]
      obtain ⟨g1, g2⟩ := meets_map hi l0 k0 hz (l := rf' n) hm (h5 n hn)
      rw [h1 n hn, h2 n hn, h3 n hn, h4 n hn, g1]
      simp only
      rw [tell_map hi l0 k0 hz h1 h2 h3 h4 h5 f (i + 1) g2]

/-- what is shown is told by the nodes alone -/
theorem shown_map (hi : ∀ n m, K n → K m → loc n = loc m → n = m) (l0 : loc 0 = 0) (k0 : ¬ K 0) (hz : ∀ n, K n → loc n ≠ 0) {sz pn sz' pn' : Int → Int} {rf sc rf' sc' : Int → List Int} (h1 : ∀ n, K n → sz (loc n) = sz' n) (h2 : ∀ n, K n → pn (loc n) = pn' n) (h3 : ∀ n, K n → rf (loc n) = (rf' n).map loc) (h4 : ∀ n, K n → sc (loc n) = sc' n) (h5 : ∀ n, K n → ∀ x ∈ rf' n, x = 0 ∨ K x)
    (f : Nat) {h : List Int} (hh : ∀ x ∈ h, x = 0 ∨ K x) : shownL sz pn rf sc f (h.map loc) = shownL sz' pn' rf' sc' f h := by
  obtain ⟨g1, g2⟩ := meets_map hi l0 k0 hz (l := h) (met := []) (fun _ h => by cases h) hh
  unfold shownL
  have g1' : meetsL [] (h.map loc) = ((meetsL [] h).1.map loc, (meetsL [] h).2) := g1
  rw [g1', tell_map hi l0 k0 hz h1 h2 h3 h4 h5 f 0 g2]
end

end Go.Proofs.YtjjdjipohifgbaaGreat

/- What is shown of a heap is told by the graph that it holds; each bit and the start of a cycle leave it. No program in sight. Conditions: a core whose parts fit its configuration. -/
namespace Go.Proofs.YtjjdjipohifgbaaGreat
open Go.RowKit

def CoreS.shRefs (s : CoreS) (a : Int) : List Int := (List.range (headS s.ws a).ptrs.toNat).map fun k : Nat => s.now (refS s.ws a k)
def CoreS.shScal (s : CoreS) (a : Int) : List Int := (List.range ((headS s.ws a).size - (headS s.ws a).ptrs).toNat).map fun k : Nat => wrap64 (rd s.ws (a + 2 + ((headS s.ws a).ptrs + k)))
/-- what handles come to, as numbers -/
def CoreS.shown (s : CoreS) (f : Nat) : List Int := shownL (fun a => (headS s.ws a).size) (fun a => (headS s.ws a).ptrs) s.shRefs s.shScal f (s.t.map s.now)
def shownG (N : Int → NodeG) (f : Nat) (hs : List Int) : List Int := shownL (fun n => ((N n).ptrs.length : Int) + (N n).scal.length) (fun n => (N n).ptrs.length) (fun n => (N n).ptrs) (fun n => (N n).scal.map wrap64) f hs

theorem map_range_getD {α : Type} (g : Int → α) (l : List Int) : (List.range l.length).map (fun k => g (l.getD k 0)) = l.map g := by
  apply List.ext_getElem
  · simp
  · intro i h1 h2
    simp only [List.length_map, List.length_range] at h1
    simp [List.getElem_map, List.getElem_range, List.getD_eq_getElem?_getD, List.getElem?_eq_getElem h1]

theorem shown_rep {s : CoreS} {cur oth : List Int} {E F : Int → Prop} (I : Inv s cur oth E F) {N : Int → NodeG} {hs : List Int} {K : Int → Prop} {loc : Int → Int} (R : Rep s cur oth N hs K loc) (f : Nat) : s.shown f = shownG N f hs := by
  have eh : s.t.map s.now = hs.map loc := by
    apply List.ext_getElem
    · simp [R.hl]
    · intro i h1 h2
      simp only [List.length_map] at h1 h2
      have := R.hv i h2
      rw [List.getD_eq_getElem?_getD, List.getElem?_eq_getElem h1, List.getD_eq_getElem?_getD, List.getElem?_eq_getElem h2] at this
      simpa using this
  unfold CoreS.shown shownG
  rw [eh]
  refine shown_map (K := K) (loc := loc) R.inj R.l0 R.k0 (fun n hn => I.lay.not_zero (R.pl n hn).isO) R.sz R.pn ?_ ?_ R.pk f R.hk
  · intro n hn
    have hpn := R.pn n hn
    unfold CoreS.shRefs
    rw [hpn, Int.toNat_natCast, ← map_range_getD loc]
    apply List.map_congr_left
    intro k hk
    exact R.pt n hn k (List.mem_range.1 hk)
  · intro n hn
    have hpn := R.pn n hn
    have hsz := R.sz n hn
    unfold CoreS.shScal
    rw [hpn, hsz, show (((N n).ptrs.length : Int) + ((N n).scal.length : Int) - ((N n).ptrs.length : Int)).toNat = (N n).scal.length by omega, ← map_range_getD wrap64]
    apply List.map_congr_left
    intro k hk
    have := R.sc n hn k (List.mem_range.1 hk)
    show wrap64 (rd s.ws (loc n + 2 + (((N n).ptrs.length : Int) + (k : Int)))) = wrap64 ((N n).scal.getD k 0)
    rw [this]

/-- P14.1 of a bit and of the start -/
theorem step_shown {s : CoreS} {cur oth : List Int} (I : Inv s cur oth NoI NoI) {N : Int → NodeG} {hs : List Int} {K : Int → Prop} {loc : Int → Int} (R : Rep s cur oth N hs K loc) (ht : HdlIn s cur) (f : Nat) : s.minStep.shown f = s.shown f := by
  obtain ⟨c1, o1, K1, l1, J, R1, _, _⟩ := step_rep I R ht
  rw [shown_rep J R1, shown_rep I R]
theorem start_shown {s : CoreS} {cur oth : List Int} (I : Inv s cur oth NoI NoI) {N : Int → NodeG} {hs : List Int} {K : Int → Prop} {loc : Int → Int} (R : Rep s cur oth N hs K loc) (ht : HdlIn s cur) (f : Nat) : s.startS.shown f = s.shown f := by
  obtain ⟨c1, o1, l1, J, R1, _⟩ := start_rep I R ht
  rw [shown_rep J R1, shown_rep I R]

end Go.Proofs.YtjjdjipohifgbaaGreat

/- How much a cycle has yet to do: no bit makes it more. No program in sight. Conditions: a core whose parts fit its configuration. -/
namespace Go.Proofs.YtjjdjipohifgbaaGreat
open Go.RowKit

/-- what moves do not make more -/
def CoreS.meas (s : CoreS) (c : Int) : Int := (s.row.length : Int) + s.y.cu + c * (s.y.ou - s.copied)

theorem move_meas {s : CoreS} {cur oth : List Int} {E F : Int → Prop} (I : Inv s cur oth E F) (hmv : s.moving = true) {c : Int} (hc : c = 1 ∨ c = 2) {r : Int} (hr : OkRef s cur oth r) : (s.move r).meas c ≤ s.meas c := by
  rw [CoreS.move]
  split
  · exact Int.le_refl _
  · rename_i h0
    split
    · rename_i hn
      have ho : r ∈ oth := by
        rcases hr with h | h | h | h
        · exact absurd (.inl h) h0
        · exact absurd (.inr (I.lay.from_old (.inl h))) h0
        · exact absurd (.inr (I.lay.from_not (.inl h))) h0
        · exact h
      have hw : wayW s.ws r = r := by rw [← I.lay.now_oth ho]; exact hn
      obtain ⟨cur', M, I', hm, hT⟩ := moved_inv I hmv ho hw
      obtain ⟨o1, o2, o3, o4, o5, o6, o7, o8, o9, o10, o11⟩ := moved_other s r
      obtain ⟨n1, n2, n3, n4, n5, n6, n7, n8, n9, n10⟩ := I.lay.nums
      have hroomA := goneW_room I.lay.ro ho hw
      have hgl := goneW_le I.lay.ro
      have hcp := I.hds.cp
      obtain ⟨b1, b2, b3, b4, b5⟩ := words_bounds s.ws r
      have hcop : (s.moved r).copied = s.copied + (headS s.ws r).words := by
        rw [o10]
        exact wrap_of ⟨by omega, by omega⟩
      unfold CoreS.meas
      rw [M.y.2.1, M.y.2.2, hcop, o11]
      rcases hc with rfl | rfl
      · cases hO : s.mvOld r
        · simp
          omega
        · simp
          omega
      · cases hO : s.mvOld r
        · simp
          omega
        · simp
          omega
    · exact Int.le_refl _

theorem thr_meas {s : CoreS} {cur oth : List Int} {E F : Int → Prop} (I : Inv s cur oth E F) (hmv : s.moving = true) {c : Int} (hc : c = 1 ∨ c = 2) {a : Int} (ha : Looked s cur E a) : ∀ j : Nat, (j : Int) ≤ (headS s.ws a).ptrs → (s.thr a j).meas c ≤ s.meas c
  | 0, _ => Int.le_refl _
  | j + 1, hj => by
    have ih := thr_meas I hmv hc ha j (by omega)
    obtain ⟨c1, R⟩ := thr_inv I hmv ha j (by omega)
    have ha1 : Looked (s.thr a j) c1 E a := by
      rcases ha with h | ⟨h, h2⟩
      · exact .inl (R.mono a h)
      · exact .inr ⟨by rw [R.old a h]; exact h, h2⟩
    have h1 := move_meas R.inv (R.moving.trans hmv) hc (R.inv.okRef ha1 (k := (j : Int)) (by omega) (by rw [R.head]; omega))
    have h2 : ((s.thr a j).thrOne a j).meas c = ((s.thr a j).move (refS (s.thr a j).ws a j)).meas c := by
      unfold CoreS.thrOne
      split <;> rfl
    show ((s.thr a j).thrOne a j).meas c ≤ s.meas c
    omega

theorem look_meas {s : CoreS} {cur oth : List Int} {E F : Int → Prop} (I : Inv s cur oth E F) (hmv : s.moving = true) {c : Int} (hc : c = 1 ∨ c = 2) {a : Int} (ha : Looked s cur E a) : (s.through a).meas c ≤ s.meas c := by
  have hp : ((s.ptrsOf a : Nat) : Int) = (headS s.ws a).ptrs := by
    have := (words_bounds s.ws a).2.2.2.1
    unfold CoreS.ptrsOf
    omega
  have h1 := thr_meas I hmv hc ha (s.ptrsOf a) (by omega)
  unfold CoreS.through
  split
  · obtain ⟨m1, m2, m3, m4, m5, m6, m7, m8, m9, m10, m11, m12, m13⟩ := note_others (s.thr a (s.ptrsOf a)) a
    have : ((s.thr a (s.ptrsOf a)).note a).meas c = (s.thr a (s.ptrsOf a)).meas c := by
      unfold CoreS.meas
      rw [m8, m9, m11]
    omega
  · exact h1

end Go.Proofs.YtjjdjipohifgbaaGreat

/- The look through an object leaves where the half that is filled begins, and what was remembered before. No program in sight. Conditions: a core whose parts fit its configuration. -/
namespace Go.Proofs.YtjjdjipohifgbaaGreat
open Go.RowKit

theorem placed_now (s : CoreS) (n g : Int) : (s.placed n g).y.now = s.y.now ∧ (s.placed n g).y.f0 = s.y.f0 ∧ (s.placed n g).y.f1 = s.y.f1 := by
  unfold CoreS.placed
  split
  · exact ⟨rfl, rfl, rfl⟩
  · unfold YoungS.take
    dsimp only
    split
    · split <;> exact ⟨rfl, rfl, rfl⟩
    · exact ⟨rfl, rfl, rfl⟩
theorem move_cf (s : CoreS) (r : Int) : (s.move r).y.cf = s.y.cf ∧ (s.move r).r = s.r := by
  unfold CoreS.move
  split
  · exact ⟨rfl, rfl⟩
  · split
    · obtain ⟨h1, h2, h3⟩ := placed_now s (headS s.ws r).words (s.mvAge r)
      have e : (s.moved r).y = (s.placed (headS s.ws r).words (s.mvAge r)).y := rfl
      refine ⟨?_, (moved_other s r).2.1⟩
      unfold YoungS.cf
      rw [e, h1, h2, h3]
    · exact ⟨rfl, rfl⟩
theorem thr_cf (s : CoreS) (a : Int) : ∀ j, (s.thr a j).y.cf = s.y.cf ∧ (s.thr a j).r = s.r
  | 0 => ⟨rfl, rfl⟩
  | j + 1 => by
    obtain ⟨h1, h2⟩ := thr_cf s a j
    obtain ⟨g1, g2⟩ := move_cf (s.thr a j) (refS (s.thr a j).ws a j)
    have e1 : ((s.thr a j).thrOne a j).y = ((s.thr a j).move (refS (s.thr a j).ws a j)).y := by unfold CoreS.thrOne; split <;> rfl
    have e2 : ((s.thr a j).thrOne a j).r = ((s.thr a j).move (refS (s.thr a j).ws a j)).r := by unfold CoreS.thrOne; split <;> rfl
    show ((s.thr a j).thrOne a j).y.cf = _ ∧ ((s.thr a j).thrOne a j).r = _
    rw [e1, e2, g1, g2]
    exact ⟨h1, h2⟩
theorem look_cf (s : CoreS) (a : Int) : (s.through a).y.cf = s.y.cf ∧ (s.through a).r.tb = s.r.tb ∧ (s.through a).r.tc = s.r.tc := by
  obtain ⟨h1, h2⟩ := thr_cf s a (s.ptrsOf a)
  unfold CoreS.through
  split
  · obtain ⟨m1, m2, m3, m4, m5, m6, m7, m8, m9, m10, m11, m12, m13⟩ := note_others (s.thr a (s.ptrsOf a)) a
    refine ⟨by rw [m9]; exact h1, ?_⟩
    unfold CoreS.note
    split
    · obtain ⟨a1, a2, a3, a4, a5, a6, _⟩ := add_same (s.thr a (s.ptrsOf a)).r a
      show ((s.thr a (s.ptrsOf a)).r.add a).tb = _ ∧ ((s.thr a (s.ptrsOf a)).r.add a).tc = _
      rw [a5, a6, h2]
      exact ⟨rfl, rfl⟩
    · rw [h2]
      exact ⟨rfl, rfl⟩
  · rw [h2]
    exact ⟨h1, rfl, rfl⟩

end Go.Proofs.YtjjdjipohifgbaaGreat

/- A noted object, and all of a part, do not make more of what is left. No program in sight. Conditions: a core whose parts fit its configuration. -/
namespace Go.Proofs.YtjjdjipohifgbaaGreat
open Go.RowKit

theorem noted_meas {s : CoreS} {cur oth : List Int} {E F : Int → Prop} (I : Inv s cur oth E F) (hmv : s.moving = true) {c : Int} (hc : c = 1 ∨ c = 2) (a : Int) : (s.notedS a).meas c ≤ s.meas c ∧ (s.notedS a).y.cf = s.y.cf ∧ (s.notedS a).r.tb = s.r.tb ∧ (s.notedS a).r.tc = s.r.tc := by
  unfold CoreS.notedS
  by_cases hq : s.isNoted a = true
  · rw [if_pos hq]
    have ha : (s.o.sizeAt a).isSome = true := by
      unfold CoreS.isNoted at hq
      rw [Bool.and_eq_true] at hq
      exact hq.1
    obtain ⟨I1, _⟩ := unnote_inv (E' := fun b => E b ∨ b = a) (F' := F) I ha (fun b h => .inl h) (.inr rfl) (fun _ _ h => h)
    have hL : Looked (s.unnote a) cur (fun b => E b ∨ b = a) a := .inr ⟨ha, .inr rfl⟩
    have h1 := look_meas I1 (show (s.unnote a).moving = true from hmv) hc hL
    obtain ⟨h2, h3, h4⟩ := look_cf (s.unnote a) a
    exact ⟨h1, h2, h3, h4⟩
  · rw [if_neg hq]
    exact ⟨Int.le_refl _, rfl, rfl, rfl⟩

theorem part_meas {oth : List Int} {c : Int} (hc : c = 1 ∨ c = 2) : ∀ (l : List Int) {s : CoreS} {cur : List Int}, Inv s cur oth (fun b => b ∈ l ∧ (headS s.ws b).noted = true) (fun b => b ∈ l) → s.moving = true → (∀ b ∈ l, (s.o.sizeAt b).isSome = true) →
    (s.partS l).meas c ≤ s.meas c ∧ (s.partS l).y.cf = s.y.cf ∧ (s.partS l).r.tb = s.r.tb ∧ (s.partS l).r.tc = s.r.tc
  | [], s, cur, _, _, _ => ⟨Int.le_refl _, rfl, rfl, rfl⟩
  | a :: l, s, cur, I, hmv, ho => by
    obtain ⟨hok, c1, I1, M⟩ := noted_inv (a := a) (E' := fun b => b ≠ a ∧ b ∈ l ∧ (headS s.ws b).noted = true) (F' := fun b => b ∈ l) I hmv (fun _ h => h.2)
      (fun b hb h => ⟨hb, (List.mem_cons.1 h.1).resolve_left hb, h.2⟩) (fun b hb h => (List.mem_cons.1 h).resolve_left hb)
    have hds : ∀ b ∈ l, b ≠ a → headS (s.notedS a).ws b = headS s.ws b := fun b hb hba => M.others b hba (.inr (ho b (List.mem_cons_of_mem _ hb)))
    obtain ⟨h1, h2, h3, h4⟩ := noted_meas I hmv hc a
    obtain ⟨g1, g2, g3, g4⟩ := part_meas hc l (s := s.notedS a) (cur := c1) (I1.weak (fun b h => ⟨h.2.1, by rw [hds b h.2.1 h.1]; exact h.2.2⟩) (fun _ h => h)) (M.moving.trans hmv)
      (fun b hb => by rw [M.old b (ho b (List.mem_cons_of_mem _ hb))]; exact ho b (List.mem_cons_of_mem _ hb))
    show ((s.notedS a).partS l).meas c ≤ s.meas c ∧ ((s.notedS a).partS l).y.cf = s.y.cf ∧ ((s.notedS a).partS l).r.tb = s.r.tb ∧ ((s.notedS a).partS l).r.tc = s.r.tc
    exact ⟨by omega, g2.trans h2, g3.trans h3, g4.trans h4⟩

theorem row_meas {s : CoreS} {cur oth : List Int} (I : Inv s cur oth NoI NoI) (hmv : s.moving = true) {c : Int} (hc : c = 1 ∨ c = 2) (hr : 0 < s.row.length) : s.rowS.meas c ≤ s.meas c - 1 ∧ s.rowS.y.cf = s.y.cf ∧ s.rowS.r.tb = s.r.tb ∧ s.rowS.r.tc = s.r.tc := by
  have I1 : Inv s.unrow cur oth (fun b => b = s.rowHd) NoI := unrow_inv I (fun b h => h.elim) (fun _ => rfl)
  have hu : s.unrow.meas c = s.meas c - 1 := by
    show (s.row.tail.length : Int) + s.y.cu + c * (s.y.ou - s.copied) = (s.row.length : Int) + s.y.cu + c * (s.y.ou - s.copied) - 1
    rw [List.length_tail]
    omega
  unfold CoreS.rowS
  by_cases ha : (s.o.sizeAt s.rowHd).isSome = true
  · rw [if_pos ha]
    have h1 := look_meas I1 (show s.unrow.moving = true from hmv) hc (a := s.rowHd) (.inr ⟨ha, rfl⟩)
    obtain ⟨h2, h3, h4⟩ := look_cf s.unrow s.rowHd
    exact ⟨by omega, h2, h3, h4⟩
  · rw [if_neg ha]
    exact ⟨by omega, rfl, rfl, rfl⟩

end Go.Proofs.YtjjdjipohifgbaaGreat

/- Each bit of a cycle makes less of what is left. No program in sight. Conditions: a core whose parts fit its configuration. -/
namespace Go.Proofs.YtjjdjipohifgbaaGreat
open Go.RowKit

/-- what a cycle has yet to do -/
def CoreS.todo (s : CoreS) : Int := s.meas 2 + s.y.cf - s.scan + s.r.tb.list.length + countT s.r.tc.marks

theorem countT_set : ∀ {l : List Bool} {n k : Nat}, firstT l k = some n → countT (l.set (n - k) false) + 1 = countT l
  | [], _, _, h => by cases h
  | b :: l, n, k, h => by
    unfold firstT at h
    split at h
    · rename_i hb
      cases h
      subst hb
      simp [countT]
    · rename_i hb
      have hb' : b = false := by simpa using hb
      subst hb'
      have h1 := (firstT_lt l (k + 1) n h).1
      have ih := countT_set h
      have e : n - k = (n - (k + 1)) + 1 := by omega
      rw [e, List.set_cons_succ]
      unfold countT at ih ⊢
      simpa using ih

theorem step_todo {s : CoreS} {cur oth : List Int} (I : Inv s cur oth NoI NoI) (hB : s.minB = true) : s.minStep.todo < s.todo := by
  have key : stepBOf s.which = true → (s.stepOf s.which).todo < s.todo := by
    unfold CoreS.which
    by_cases hmv : s.moving = false
    · rw [if_pos hmv]
      intro h; cases h
    · rw [if_neg hmv]
      have hmv' : s.moving = true := by simpa using hmv
      by_cases hr : 0 < s.row.length
      · rw [if_pos hr]
        intro _
        obtain ⟨h1, h2, h3, h4⟩ := row_meas I hmv' (c := 2) (.inr rfl) hr
        obtain ⟨_, c1, I2, m, q1, q2, q3, q4, q5, q6⟩ := row_inv I hmv'
        show s.rowS.todo < s.todo
        unfold CoreS.todo
        rw [h2, h3, h4, q6]
        omega
      · rw [if_neg hr]
        cases hx : s.r.tb.list with
        | cons x l =>
          intro _
          obtain ⟨_, c1, I2, m, k, q5, q6⟩ := buf_inv I hmv' hx
          obtain ⟨h1, h2, h3, h4⟩ := noted_meas (popBuf_inv I hmv' hx) hmv' (c := 2) (.inr rfl) x
          have e1 : s.popBuf.meas 2 = s.meas 2 := rfl
          have e2 : s.popBuf.y.cf = s.y.cf := rfl
          have e3 : s.popBuf.r.tb.list.length + 1 = s.r.tb.list.length := by
            show s.r.tb.list.tail.length + 1 = _
            rw [hx]
            rfl
          have e4 : s.popBuf.r.tc = s.r.tc := rfl
          show (s.popBuf.notedS x).todo < s.todo
          unfold CoreS.todo
          rw [h2, h3, h4, q6, e4, e2]
          omega
        | nil =>
          cases hf : s.r.tc.first with
          | some n =>
            intro _
            obtain ⟨_, c1, I2, m, k, q5, q6⟩ := card_inv I hmv' hx n
            obtain ⟨IP, ho⟩ := popCard_inv I hmv' hx n
            obtain ⟨h1, h2, h3, h4⟩ := part_meas (c := 2) (.inr rfl) (s.cardStarts n) IP hmv' ho
            have e1 : (s.popCard n).meas 2 = s.meas 2 := rfl
            have e2 : (s.popCard n).y.cf = s.y.cf := rfl
            have e3 : (s.popCard n).r.tb.list.length = s.r.tb.list.length := by
              show s.r.tb.list.tail.length = _
              rw [hx]
              rfl
            have e4 : countT (s.popCard n).r.tc.marks + 1 = countT s.r.tc.marks := countT_set (k := 0) hf
            show ((s.popCard n).partS (s.cardStarts n)).todo < s.todo
            unfold CoreS.todo
            rw [h2, h3, h4, q6, e2]
            omega
          | none =>
            by_cases hs' : s.scanOk = true
            · simp only [hs', if_true]
              intro _
              obtain ⟨hsc, c1, L, I2, hq⟩ := scan_inv I hmv' hs'
              have h1 := look_meas I hmv' (c := 2) (.inr rfl) (E := NoI) (.inl hsc)
              obtain ⟨h2, h3, h4⟩ := look_cf s s.scan
              have hw := (words_bounds s.ws s.scan).1
              have e1 : s.scanS.meas 2 = (s.through s.scan).meas 2 := rfl
              have e2 : s.scanS.y.cf = (s.through s.scan).y.cf := rfl
              have e3 : s.scanS.r = (s.through s.scan).r := rfl
              show s.scanS.todo < s.todo
              unfold CoreS.todo
              rw [hq, e1, e2, e3, h2, h3, h4]
              omega
            · simp only [hs']
              intro h; cases h
  exact key hB

theorem todo_bounds {s : CoreS} {cur oth : List Int} {E F : Int → Prop} (I : Inv s cur oth E F) (hmv : s.moving = true) : 0 ≤ s.todo ∧ 2 * s.todo ≤ 7 * s.C.nursery + 2 * (s.r.tb.list.length + s.r.tc.marks.length) := by
  obtain ⟨n1, n2, n3, n4, n5, n6, n7, n8, n9, n10⟩ := I.lay.nums
  have hgl := goneW_le I.lay.ro
  have hcp := I.hds.cp
  have hrl := I.hds.rl
  obtain ⟨c1, c2⟩ := I.hds.sc hmv
  have hc := countT_le s.r.tc.marks
  have hs : s.scan ≤ s.y.cf + s.y.cu := by
    rcases c2 with h | h
    · omega
    · have := I.lay.curIn h
      have := (words_bounds s.ws s.scan).1
      omega
  unfold CoreS.todo CoreS.meas
  omega

end Go.Proofs.YtjjdjipohifgbaaGreat

/- A run of bits ends, and asks nothing that is not so. No program in sight. Conditions: a core whose parts fit its configuration. -/
namespace Go.Proofs.YtjjdjipohifgbaaGreat
open Go.RowKit

theorem minN_le {s : CoreS} {cur oth : List Int} {E F : Int → Prop} (I : Inv s cur oth E F) : s.minN ≤ 1100000 := by
  unfold CoreS.minN
  cases hq : s.which with
  | none => simp [CoreS.stepNOf]
  | finish => simp [CoreS.stepNOf]
  | row => have := rowN_bounds s; simp only [CoreS.stepNOf]; omega
  | buf x => have := notedN_bounds s.popBuf x; simp only [CoreS.stepNOf]; omega
  | card n =>
    have h1 := (partN_bounds (s.cardStarts n) (s.popCard n)).2
    have h2 := startsL_len I.lay.ov.ok (s.r.tc.partLo n) (s.r.tc.partHi n) s.o.pages.length
    have h3 : (s.cardStarts n).length ≤ s.o.pages.length * 256 := h2
    have h4 := I.lay.ol
    have h5 := I.lay.cf.p2
    simp only [CoreS.stepNOf]
    omega
  | scan => have := scanN_bounds s; simp only [CoreS.stepNOf]; omega

theorem run_ok : ∀ (k : Nat) {s : CoreS} {cur oth : List Int} (_ : Inv s cur oth NoI NoI) (d work : Int), (s.moving = true → d + (s.todo + 1) * 1100000 ≤ 1000000000000) → (s.moving = false → d + 1100000 ≤ 1000000000000) → s.RunOk k d work
  | 0, _, _, _, _, _, _, _, _ => trivial
  | k + 1, s, cur, oth, I, d, work, h1, h2 => by
    intro _
    obtain ⟨hok, c1, o1, I1, K, hm⟩ := step_inv I
    have hn := minN_le I
    have hb : d + s.minN ≤ 1000000000000 := by
      cases hmv : s.moving with
      | true =>
        have := h1 hmv
        have := (todo_bounds I hmv).1
        omega
      | false =>
        have := h2 hmv
        omega
    refine ⟨hok, hb, fun hB => ?_⟩
    have ht := step_todo I hB
    have hmv : s.moving = true := by
      cases hmv : s.moving with
      | true => rfl
      | false =>
        have : s.minB = false := by unfold CoreS.minB CoreS.which; rw [if_pos hmv]; rfl
        rw [this] at hB
        cases hB
    have := h1 hmv
    obtain ⟨_, _, hm3⟩ := hm hB
    refine run_ok k I1 _ work (fun _ => by omega) (fun h => ?_)
    rw [hm3] at h
    cases h

end Go.Proofs.YtjjdjipohifgbaaGreat

/- A run of bits ends. No program in sight. Conditions: a core whose parts fit its configuration. -/
namespace Go.Proofs.YtjjdjipohifgbaaGreat
open Go.RowKit

theorem minB_moving {s : CoreS} (h : s.minB = true) : s.moving = true := by
  cases hmv : s.moving with
  | true => rfl
  | false =>
    have : s.minB = false := by unfold CoreS.minB CoreS.which; rw [if_pos hmv]; rfl
    rw [this] at h
    cases h

theorem run_some : ∀ (k : Nat) {s : CoreS} {cur oth : List Int} (_ : Inv s cur oth NoI NoI) (d work : Int), (s.moving = true → s.todo + 2 ≤ k) → 2 ≤ k → ∃ s' d', s.runF k d work = some (s', d')
  | 0, _, _, _, _, _, _, _, h => absurd h (by omega)
  | k + 1, s, cur, oth, I, d, work, h1, h2 => by
    unfold CoreS.runF
    split
    · by_cases hB : s.minB = true
      · rw [if_pos hB]
        obtain ⟨_, c1, o1, I1, K, hm⟩ := step_inv I
        have hmv := minB_moving hB
        have ht := step_todo I hB
        have hb := (todo_bounds I1 (hm hB).2.2).1
        have := h1 hmv
        exact run_some k I1 _ work (fun _ => by omega) (by omega)
      · rw [if_neg hB]
        exact ⟨_, _, rfl⟩
    · exact ⟨_, _, rfl⟩

end Go.Proofs.YtjjdjipohifgbaaGreat

/- A handle that is set keeps what a heap holds. No program in sight. Conditions: a core whose parts fit its configuration. -/
namespace Go.Proofs.YtjjdjipohifgbaaGreat
open Go.RowKit

theorem tblSet_get' {l : List Int} {i v : Int} (j : Nat) (hj : j < l.length) : (tblSet l i v).getD j 0 = if (j : Int) = i then v else l.getD j 0 := by
  by_cases h : 0 ≤ i ∧ i < l.length
  · have := tblSet_get (l := l) (i := i.toNat) (v := v) (by omega) j
    rw [show ((i.toNat : Nat) : Int) = i by omega] at this
    rw [this]
    by_cases e : (j : Int) = i
    · rw [if_pos e, if_pos (by omega)]
    · rw [if_neg e, if_neg (by omega)]
  · have e1 : tblSet l i v = l := by
      unfold tblSet tblOk
      rw [if_neg (by simpa using h)]
    rw [e1, if_neg (by omega)]

/-- a handle is set to what leads to a node, or to none -/
theorem Rep.setH {s : CoreS} {cur oth : List Int} {N : Int → NodeG} {hs : List Int} {K : Int → Prop} {loc : Int → Int} (R : Rep s cur oth N hs K loc) (i v n : Int) (hn : n = 0 ∨ K n) (hv : s.now v = loc n) : Rep { s with t := tblSet s.t i v } cur oth N (tblSet hs i n) K loc := by
  refine ⟨R.k0, R.l0, R.inj, R.pl, R.sz, R.pn, R.pk, R.pt, R.sc, ?_, ?_, ?_⟩
  · show (tblSet hs i n).length = (tblSet s.t i v).length
    rw [tblSet_len, tblSet_len]
    exact R.hl
  · intro x hx
    rcases tblSet_mem hx with h | h
    · exact R.hk x h
    · rw [h]
      exact hn
  · intro j hj
    rw [tblSet_len] at hj
    show s.now ((tblSet s.t i v).getD j 0) = loc ((tblSet hs i n).getD j 0)
    rw [tblSet_get' j (by rw [← R.hl]; exact hj), tblSet_get' j hj]
    split
    · exact hv
    · exact R.hv j hj

end Go.Proofs.YtjjdjipohifgbaaGreat

/- Marking keeps what is true of objects, and what a heap holds. No program in sight. Conditions: a core whose parts fit its configuration. -/
namespace Go.Proofs.YtjjdjipohifgbaaGreat
open Go.RowKit

/-- heads are changed, but no size, and neither old nor noted -/
theorem Inv.heads {s s' : CoreS} {cur oth : List Int} {E F : Int → Prop} (I : Inv s cur oth E F) (eC : s'.C = s.C) (ey : s'.y = s.y) (eo : s'.o = s.o) (er : s'.r = s.r) (ep : s'.parity = 0 ∨ s'.parity = 1) (em : s'.moving = s.moving) (es : s'.scan = s.scan) (ec : s'.copied = s.copied) (ew : s'.row = s.row) (hl : s'.ws.length = s.ws.length)
    (h : ∀ b, IsO s cur oth b → isHd (rd s'.ws b) = true ∧ (headS s'.ws b).size = (headS s.ws b).size ∧ (headS s'.ws b).ptrs = (headS s.ws b).ptrs ∧ (headS s'.ws b).old = (headS s.ws b).old ∧ (headS s'.ws b).noted = (headS s.ws b).noted ∧ wayW s'.ws b = wayW s.ws b ∧ ∀ k : Int, 0 ≤ k → k < (headS s.ws b).ptrs → refS s'.ws b k = refS s.ws b k) : Inv s' cur oth E F := by
  obtain ⟨l, H, R, RO⟩ := I
  have hwd : ∀ b, IsO s cur oth b → (headS s'.ws b).words = (headS s.ws b).words := fun b hb => by
    have := (h b hb).2.1
    unfold Hd.words
    rw [this]
  have hC : ∀ b, InOld s' b ↔ InOld s b := fun b => by unfold InOld; simp only [hl, eC]
  have hT : ∀ b, s'.inThen b ↔ s.inThen b := fun b => by unfold CoreS.inThen; rw [er]
  have hN : ∀ b, s'.inNow b ↔ s.inNow b := fun b => by unfold CoreS.inNow; rw [er]
  refine ⟨⟨by rw [eC]; exact l.cf, by rw [eo]; exact l.ov, by rw [eo, eC]; exact l.ob, by rw [eo, eC]; exact l.ow, by rw [eo, eC]; exact l.ol, by rw [ey]; exact l.f0, by rw [ey, eC]; exact l.f1, by rw [ey, eC]; exact l.yw, by rw [ey, eC]; exact l.u0, by rw [ey, eC]; exact l.u1, by rw [hl, eC]; exact l.wl, ?_, ?_, ?_⟩, ⟨ep, ?_, ?_, ?_, ?_, by rw [em, ey, ec]; exact H.rm, by rw [em]; exact H.nm, by rw [em, ey, es]; exact H.sc, by rw [ew, ec]; exact H.rl, by rw [ew]; exact H.ri⟩, ⟨?_, ?_, ?_, ?_, by rw [em, er]; exact R.tn⟩, RO.same er eC⟩
  · rw [ey]; exact l.rc.frame fun b hb => hwd b (.inl hb)
  · rw [ey]; exact l.ro.frame fun b hb => hwd b (.inr (.inl hb))
  · intro b z hz
    rw [eo] at hz ⊢
    rw [hwd b (.inr (.inr (by rw [hz]; rfl)))]
    exact l.fit b z hz
  · intro b hb
    obtain ⟨q1, q2, q3, q4, q5, q6, q7⟩ := h b (.inl hb)
    rw [q4, q5, q6]
    exact ⟨q1, (H.hdC b hb).2⟩
  · intro b hb
    obtain ⟨q1, q2, q3, q4, q5, q6, q7⟩ := h b (.inr (.inl hb))
    rw [q4, q5, q6, eo]
    exact ⟨q1, (H.hdO b hb).2⟩
  · intro b hb
    rw [eo] at hb
    obtain ⟨q1, q2, q3, q4, q5, q6, q7⟩ := h b (.inr (.inr hb))
    rw [q4, q6]
    exact ⟨q1, (H.hdM b hb).2⟩
  · rw [ec, H.cp]
    exact (goneW_same fun b hb => ⟨(h b (.inr (.inl hb))).2.2.2.2.2.1, hwd b (.inr (.inl hb))⟩).symm
  · intro b hb k k0 k1
    obtain ⟨q1, q2, q3, q4, q5, q6, q7⟩ := h b (.inl hb)
    rw [q3] at k1
    rw [q7 k k0 k1]
    unfold RefC
    rw [hC, em, es]
    exact R.rC b hb k k0 k1
  · intro b hb k k0 k1
    obtain ⟨q1, q2, q3, q4, q5, q6, q7⟩ := h b (.inr (.inl hb))
    rw [q3] at k1
    rw [q7 k k0 k1]
    unfold RefO
    rw [hC]
    exact R.rO b hb k k0 k1
  · intro b hb k k0 k1
    rw [eo] at hb
    obtain ⟨q1, q2, q3, q4, q5, q6, q7⟩ := h b (.inr (.inr hb))
    rw [q3] at k1
    rw [q7 k k0 k1]
    unfold RefM
    rw [hC, em, q5, ew, hT]
    exact R.rM b hb k k0 k1
  · intro b hb hn
    rw [eo] at hb
    obtain ⟨q1, q2, q3, q4, q5, q6, q7⟩ := h b (.inr (.inr hb))
    rw [q5] at hn
    rw [hN, hT]
    exact R.nt b hb hn

theorem unH_grey (x : Int) : (unH x).Good := unH_good x
/-- what marking turns -/
structure MarkRes (s s' : CoreS) (cur oth : List Int) (a : Int) : Prop where
  C : s'.C = s.C
  y : s'.y = s.y
  o : s'.o = s.o
  r : s'.r = s.r
  t : s'.t = s.t
  parity : s'.parity = s.parity
  phase : s'.phase = s.phase
  moving : s'.moving = s.moving
  scan : s'.scan = s.scan
  copied : s'.copied = s.copied
  look : s'.look = s.look
  row : s'.row = s.row
  done : s'.done = s.done
  wl : s'.ws.length = s.ws.length
  rest : ∀ p, p ≠ a → rd s'.ws p = rd s.ws p
  hd : (headS s'.ws a).size = (headS s.ws a).size ∧ (headS s'.ws a).ptrs = (headS s.ws a).ptrs ∧ (headS s'.ws a).age = (headS s.ws a).age ∧ (headS s'.ws a).old = (headS s.ws a).old ∧ (headS s'.ws a).noted = (headS s.ws a).noted

/-- a head is written anew, with another parity or grey -/
theorem sethd_res {s : CoreS} {cur oth : List Int} {E F : Int → Prop} (I : Inv s cur oth E F) {a : Int} (ha : IsO s cur oth a) (g' : GreyS) (par : Int) (hp : par = 0 ∨ par = 1) (gr : Bool) :
    MarkRes s { s with ws := stW s.ws a { headS s.ws a with parity := par, grey := gr }.enc, g := g' } cur oth a ∧ headS (stW s.ws a { headS s.ws a with parity := par, grey := gr }.enc) a = { headS s.ws a with parity := par, grey := gr } ∧ isHd (rd (stW s.ws a { headS s.ws a with parity := par, grey := gr }.enc) a) = true := by
  obtain ⟨p1, p2, p3, p4⟩ := I.lay.pos ha
  obtain ⟨b1, b2, b3, b4, b5⟩ := words_bounds s.ws a
  have hg : ({ headS s.ws a with parity := par, grey := gr } : Hd).Good := by
    obtain ⟨g1, g2, g3, g4, g5, g6, g7⟩ := unH_good (ldW s.ws a)
    exact ⟨g1, g2, g3, g4, g5, g6, hp⟩
  have hrd := fun j => rd_st (ws := s.ws) (i := a) (by omega) (by omega) ({ headS s.ws a with parity := par, grey := gr } : Hd).enc j
  have e1 : rd (stW s.ws a { headS s.ws a with parity := par, grey := gr }.enc) a = { headS s.ws a with parity := par, grey := gr }.enc := by rw [hrd, if_pos rfl]
  have e2 : headS (stW s.ws a { headS s.ws a with parity := par, grey := gr }.enc) a = { headS s.ws a with parity := par, grey := gr } := by rw [headS_eq, e1, unH_enc hg]
  refine ⟨⟨rfl, rfl, rfl, rfl, rfl, rfl, rfl, rfl, rfl, rfl, rfl, rfl, rfl, len_st .., fun p hp => by rw [hrd, if_neg hp], ?_⟩, e2, by rw [e1, isHd_enc hg]⟩
  show (headS (stW s.ws a _) a).size = _ ∧ _
  rw [e2]
  exact ⟨rfl, rfl, rfl, rfl, rfl⟩

theorem MarkRes.at {s s' : CoreS} {cur oth : List Int} {E F : Int → Prop} {a : Int} (I : Inv s cur oth E F) (ha : IsO s cur oth a) (M : MarkRes s s' cur oth a) {b : Int} (hb : IsO s cur oth b) :
    (headS s'.ws b).size = (headS s.ws b).size ∧ (headS s'.ws b).ptrs = (headS s.ws b).ptrs ∧ (headS s'.ws b).age = (headS s.ws b).age ∧ (headS s'.ws b).old = (headS s.ws b).old ∧ (headS s'.ws b).noted = (headS s.ws b).noted ∧ wayW s'.ws b = wayW s.ws b ∧ (∀ k : Int, 0 ≤ k → k < (headS s.ws b).ptrs → refS s'.ws b k = refS s.ws b k) ∧
    (∀ k : Int, 0 ≤ k → k < (headS s.ws b).size → rd s'.ws (b + 2 + k) = rd s.ws (b + 2 + k)) ∧ (b ≠ a → rd s'.ws b = rd s.ws b ∧ headS s'.ws b = headS s.ws b) := by
  obtain ⟨p1, p2, p3, p4⟩ := I.lay.pos ha
  obtain ⟨q1, q2, q3, q4⟩ := I.lay.pos hb
  obtain ⟨b1, b2, b3, b4, b5⟩ := words_bounds s.ws a
  obtain ⟨c1, c2, c3, c4, c5⟩ := words_bounds s.ws b
  have hfar : ∀ k : Int, 1 ≤ k → k < (headS s.ws b).words → b + k ≠ a := by
    intro k k1 k2 e
    by_cases hba : b = a
    · omega
    · have := I.lay.apart hb ha hba
      omega
  have hf : ∀ k : Int, 0 ≤ k → k < (headS s.ws b).size → rd s'.ws (b + 2 + k) = rd s.ws (b + 2 + k) := by
    intro k k0 k1
    have := hfar (2 + k) (by omega) (by omega)
    rw [show b + 2 + k = b + (2 + k) by omega]
    exact M.rest _ this
  have hw : wayW s'.ws b = wayW s.ws b := by
    rw [wayW_eq (by omega) q3, wayW_eq (by omega) q3, M.rest _ (hfar 1 (by omega) (by omega))]
  have hr : ∀ k : Int, 0 ≤ k → k < (headS s.ws b).ptrs → refS s'.ws b k = refS s.ws b k := by
    intro k k0 k1
    rw [refS_eq (by omega) q3 k0 (by omega), refS_eq (by omega) q3 k0 (by omega), hf k k0 (by omega)]
  by_cases e : b = a
  · subst e
    exact ⟨M.hd.1, M.hd.2.1, M.hd.2.2.1, M.hd.2.2.2.1, M.hd.2.2.2.2, hw, hr, hf, fun h => absurd rfl h⟩
  · have e1 := M.rest b e
    have e2 : headS s'.ws b = headS s.ws b := by rw [headS_eq, headS_eq, e1]
    rw [e2]
    exact ⟨rfl, rfl, rfl, rfl, rfl, hw, hr, hf, fun _ => ⟨e1, rfl⟩⟩

theorem MarkRes.inv {s s' : CoreS} {cur oth : List Int} {E F : Int → Prop} {a : Int} (I : Inv s cur oth E F) (ha : IsO s cur oth a) (M : MarkRes s s' cur oth a) (hh : isHd (rd s'.ws a) = true) : Inv s' cur oth E F := by
  have hd0 : ∀ b, IsO s cur oth b → isHd (rd s.ws b) = true := by
    intro b hb
    rcases hb with hb | hb | hb
    · exact (I.hds.hdC b hb).1
    · exact (I.hds.hdO b hb).1
    · exact (I.hds.hdM b hb).1
  refine I.heads M.C M.y M.o M.r (by rw [M.parity]; exact I.hds.par) M.moving M.scan M.copied M.row M.wl ?_
  intro b hb
  obtain ⟨c1, c2, c3, c4, c5, c6, c7, c8, c9⟩ := M.at I ha hb
  refine ⟨?_, c1, c2, c4, c5, c6, c7⟩
  by_cases e : b = a
  · rw [e]; exact hh
  · rw [(c9 e).1]; exact hd0 b hb

theorem MarkRes.now {s s' : CoreS} {cur oth : List Int} {E F : Int → Prop} {a : Int} (I : Inv s cur oth E F) (ha : IsO s cur oth a) (M : MarkRes s s' cur oth a) {x : Int} (hx : OkRef s cur oth x) : s'.now x = s.now x :=
  now_same I.lay M.y (fun b hb => (M.at I ha (.inr (.inl hb))).2.2.2.2.2.1) hx

theorem MarkRes.rep {s s' : CoreS} {cur oth : List Int} {E F : Int → Prop} {a : Int} (I : Inv s cur oth E F) (ha : IsO s cur oth a) (M : MarkRes s s' cur oth a) {N : Int → NodeG} {hs : List Int} {K : Int → Prop} {loc : Int → Int} (R : Rep s cur oth N hs K loc) (ht : ∀ x ∈ s.t, OkRef s cur oth x) : Rep s' cur oth N hs K loc := by
  refine R.keep (fun _ h => h) (fun b h => by rw [M.o]; exact h) (fun b hb => (M.at I ha (.inr (.inl hb))).2.2.2.2.2.1) ?_ (by rw [M.t]) ?_
  · intro b hb
    obtain ⟨c1, c2, c3, c4, c5, c6, c7, c8, c9⟩ := M.at I ha hb.isO
    have := (words_bounds s.ws b).2.2.2.1
    refine ⟨c1, c2, fun k k0 k1 => c8 k (by omega) k1, fun k k0 k1 => ?_⟩
    rw [c7 k k0 k1]
    exact M.now I ha (I.refOk hb.isO k0 k1)
  · intro j hj
    rw [M.t]
    exact M.now I ha (ht _ (mem_getD hj))

theorem MarkRes.hdl {s s' : CoreS} {cur oth : List Int} {a : Int} (M : MarkRes s s' cur oth a) (h : HdlIn s cur) : HdlIn s' cur := by
  intro x hx
  rw [M.t] at hx
  have := h x hx
  unfold NewRef InOld at this ⊢
  rw [M.C, M.wl]
  exact this

/-- a place is marked, if it is an object's, or 0 -/
theorem mark_res {s : CoreS} {cur oth : List Int} {E F : Int → Prop} (I : Inv s cur oth E F) {i : Int} (hi : i ≠ 0 → IsO s cur oth (s.now i)) : s.mark i = s ∨ (IsO s cur oth (s.now i) ∧ MarkRes s (s.mark i) cur oth (s.now i) ∧ isHd (rd (s.mark i).ws (s.now i)) = true) := by
  unfold CoreS.mark
  by_cases hm : s.markOk i = true
  · rw [if_pos hm]
    have hi0 : i ≠ 0 := by
      intro e
      subst e
      simp [CoreS.markOk] at hm
    obtain ⟨h1, h2, h3⟩ := sethd_res I (hi hi0) (s.g.push (s.now i)) s.parity I.hds.par true
    exact .inr ⟨hi hi0, h1, h3⟩
  · rw [if_neg hm]
    exact .inl rfl

theorem mark_keeps {s : CoreS} {cur oth : List Int} {E F : Int → Prop} (I : Inv s cur oth E F) {i : Int} (hi : i ≠ 0 → IsO s cur oth (s.now i)) {N : Int → NodeG} {hs : List Int} {K : Int → Prop} {loc : Int → Int} (R : Rep s cur oth N hs K loc) (ht : HdlIn s cur) :
    Inv (s.mark i) cur oth E F ∧ Rep (s.mark i) cur oth N hs K loc ∧ HdlIn (s.mark i) cur ∧ (s.mark i).C = s.C ∧ (s.mark i).t = s.t ∧ (s.mark i).ws.length = s.ws.length ∧ (s.mark i).y = s.y ∧ (s.mark i).moving = s.moving ∧ (s.mark i).phase = s.phase := by
  rcases mark_res I hi with h | ⟨h1, h2, h3⟩
  · rw [h]
    exact ⟨I, R, ht, rfl, rfl, rfl, rfl, rfl, rfl⟩
  · exact ⟨h2.inv I h1 h3, h2.rep I h1 R ht.ok, h2.hdl ht, h2.C, h2.t, h2.wl, h2.y, h2.moving, h2.phase⟩

end Go.Proofs.YtjjdjipohifgbaaGreat

/- The entries of a heap keep what it holds, and answer as the nodes tell. No program in sight. Conditions: a core whose parts fit its configuration. -/
namespace Go.Proofs.YtjjdjipohifgbaaGreat
open Go.RowKit

/-- all that is true of a heap between its bits -/
structure Good (s : CoreS) (cur oth : List Int) (N : Int → NodeG) (hs : List Int) (K : Int → Prop) (loc : Int → Int) : Prop where
  inv : Inv s cur oth NoI NoI
  hdl : HdlIn s cur
  rep : Rep s cur oth N hs K loc

section
variable {s : CoreS} {cur oth : List Int} {N : Int → NodeG} {hs : List Int} {K : Int → Prop} {loc : Int → Int}

theorem Good.ok (G : Good s cur oth N hs K loc) (i : Int) : tblOk s.t i = tblOk hs i := by
  unfold tblOk
  rw [G.rep.hl]

theorem tblGet_in {l : List Int} {i : Int} (h : tblOk l i = true) : tblGet l i = l.getD i.toNat 0 ∧ i.toNat < l.length := by
  obtain ⟨h0, h1⟩ := tblOk_iff.1 h
  unfold tblGet
  rw [if_pos h]
  exact ⟨rfl, by omega⟩

theorem Good.get (G : Good s cur oth N hs K loc) (i : Int) : tblGet s.t i = loc (tblGet hs i) := by
  by_cases h : tblOk s.t i = true
  · have h2 : tblOk hs i = true := by rw [← G.ok]; exact h
    obtain ⟨e1, l1⟩ := tblGet_in h
    obtain ⟨e2, l2⟩ := tblGet_in h2
    rw [e1, e2, ← G.rep.hv _ l2, G.inv.lay.now_stay (G.hdl _ (mem_getD l1))]
  · have h' : tblOk s.t i = false := by simpa using h
    rw [tblGet_out h', tblGet_out (by rw [← G.ok]; exact h'), G.rep.l0]

theorem Good.node (G : Good s cur oth N hs K loc) (i : Int) : tblGet hs i = 0 ∨ K (tblGet hs i) := by
  by_cases h : tblOk hs i = true
  · obtain ⟨e2, l2⟩ := tblGet_in h
    rw [e2]
    exact G.rep.hk _ (mem_getD l2)
  · exact .inl (tblGet_out (by simpa using h))

theorem Good.new (G : Good s cur oth N hs K loc) (i : Int) : NewRef s cur (tblGet s.t i) := by
  by_cases h : tblOk s.t i = true
  · obtain ⟨e2, l2⟩ := tblGet_in h
    rw [e2]
    exact G.hdl _ (mem_getD l2)
  · exact .inl (tblGet_out (by simpa using h))

theorem Good.zero (G : Good s cur oth N hs K loc) {n : Int} (hn : n = 0 ∨ K n) : loc n = 0 ↔ n = 0 := by
  constructor
  · intro h
    rcases hn with hn | hn
    · exact hn
    · exact absurd h (G.inv.lay.not_zero (G.rep.pl n hn).isO)
  · intro h
    rw [h, G.rep.l0]

theorem Good.same (G : Good s cur oth N hs K loc) {n m : Int} (hn : n = 0 ∨ K n) (hm : m = 0 ∨ K m) : loc n = loc m ↔ n = m := by
  refine ⟨fun h => ?_, fun h => by rw [h]⟩
  rcases hn with rfl | hn
  · rw [G.rep.l0] at h
    exact ((G.zero hm).1 h.symm).symm
  · rcases hm with rfl | hm
    · rw [G.rep.l0] at h
      exact (G.zero (.inr hn)).1 h
    · exact G.rep.inj n m hn hm h

/-- what a handle holds has its place in the half that is filled, or is old -/
theorem Good.stay (G : Good s cur oth N hs K loc) {n : Int} (hn : K n) (h : NewRef s cur (loc n)) : loc n ∈ cur ∨ (s.o.sizeAt (loc n)).isSome = true := by
  rcases G.rep.pl n hn with h1 | h1 | ⟨h1, h2⟩
  · exact .inl h1
  · exact .inr h1
  · exfalso
    have hf := G.inv.lay.from_oth h1
    rcases h with h | h | h
    · exact G.inv.lay.not_zero (.inr (.inl h1)) h
    · rw [G.inv.lay.from_old (.inl h)] at hf; cases hf
    · rw [G.inv.lay.from_not (.inl h)] at hf; cases hf

def objEG (hs : List Int) (i : Int) : Int := if tblOk hs i then (if tblGet hs i = 0 then 4 else 0) else 3
theorem Good.objE (G : Good s cur oth N hs K loc) (i : Int) : s.objE i = objEG hs i := by
  unfold CoreS.objE objEG
  rw [G.ok, G.get]
  by_cases h : tblGet hs i = 0
  · rw [if_pos h, if_pos ((G.zero (G.node i)).2 h)]
  · rw [if_neg h, if_neg (fun e => h ((G.zero (G.node i)).1 e))]

theorem objEG_zero {hs : List Int} {i : Int} (h : objEG hs i = 0) : tblOk hs i = true ∧ tblGet hs i ≠ 0 := by
  unfold objEG at h
  split at h
  · rename_i h1
    split at h
    · cases h
    · rename_i h2
      exact ⟨h1, h2⟩
  · cases h

/-- what a handle holds -/
theorem Good.obj (G : Good s cur oth N hs K loc) {i : Int} (h : s.objE i = 0) : K (tblGet hs i) ∧ tblGet s.t i = loc (tblGet hs i) ∧ (tblGet s.t i ∈ cur ∨ (s.o.sizeAt (tblGet s.t i)).isSome = true) ∧ s.objH i = headS s.ws (tblGet s.t i) ∧
    (s.objH i).size = ((N (tblGet hs i)).ptrs.length : Int) + (N (tblGet hs i)).scal.length ∧ (s.objH i).ptrs = ((N (tblGet hs i)).ptrs.length : Int) := by
  have h' := h
  rw [G.objE] at h'
  have hn : K (tblGet hs i) := (G.node i).elim (fun e => absurd e (objEG_zero h').2) id
  have e : s.objH i = headS s.ws (tblGet s.t i) := by unfold CoreS.objH; rw [if_pos h]
  have hg := G.get i
  refine ⟨hn, hg, ?_, e, ?_, ?_⟩
  · have := G.stay hn (by rw [← hg]; exact G.new i)
    rw [hg]
    exact this
  · rw [e, hg]; exact G.rep.sz _ hn
  · rw [e, hg]; exact G.rep.pn _ hn

theorem Good.setH (G : Good s cur oth N hs K loc) (i v n : Int) (hn : n = 0 ∨ K n) (hv : NewRef s cur v) (e : v = loc n) : Good { s with t := tblSet s.t i v } cur oth N (tblSet hs i n) K loc := by
  refine ⟨G.inv.setT _, ?_, G.rep.setH i v n hn ?_⟩
  · intro x hx
    rcases tblSet_mem hx with h | h
    · exact G.hdl x h
    · rw [h]
      exact hv
  · rw [G.inv.lay.now_stay hv, e]

/-! Clear, Copy -/
theorem good_clear (G : Good s cur oth N hs K loc) (i : Int) : Good { s with t := tblSet s.t i 0 } cur oth N (tblSet hs i 0) K loc :=
  G.setH i 0 0 (.inl rfl) (.inl rfl) G.rep.l0.symm

def copyG (hs : List Int) (i j : Int) : List Int := if tblOk hs j then tblSet hs i (tblGet hs j) else hs
theorem good_copy (G : Good s cur oth N hs K loc) (i j : Int) : Good { s with t := s.copyT i j } cur oth N (copyG hs i j) K loc := by
  unfold CoreS.copyT copyG
  rw [G.ok]
  split
  · exact G.setH i _ _ (G.node j) (G.new j) (G.get j)
  · exact G

/-! Write -/
def updN (N : Int → NodeG) (n : Int) (g : NodeG) : Int → NodeG := fun m => if m = n then g else N m
theorem updN_at (N : Int → NodeG) (n : Int) (g : NodeG) : updN N n g n = g := if_pos rfl
theorem updN_ne (N : Int → NodeG) {n m : Int} (g : NodeG) (h : m ≠ n) : updN N n g m = N m := if_neg h

theorem Rep.write (I : Inv s cur oth NoI NoI) (R : Rep s cur oth N hs K loc) (ht : ∀ x ∈ s.t, OkRef s cur oth x) {n : Int} (hn : K n) {k v : Int} (k0 : 0 ≤ k) (k1 : k < (N n).scal.length) :
    Rep { s with ws := stW s.ws (place (loc n) ((N n).ptrs.length + k)) v } cur oth (updN N n ⟨(N n).ptrs, (N n).scal.set k.toNat v⟩) hs K loc := by
  have hI := (R.pl n hn).isO
  obtain ⟨p1, p2, p3, p4⟩ := I.lay.pos hI
  obtain ⟨b1, b2, b3, b4, b5⟩ := words_bounds s.ws (loc n)
  have hsz := R.sz n hn
  have hpn := R.pn n hn
  rw [place_of (by omega) p3 (by omega) (by omega)]
  have hrd := fun j => rd_st (ws := s.ws) (i := loc n + 2 + ((N n).ptrs.length + k)) (by omega) (by omega) v j
  generalize hws : stW s.ws (loc n + 2 + ((N n).ptrs.length + k)) v = ws' at *
  -- what is read of an object
  have same : ∀ b, IsO s cur oth b → headS ws' b = headS s.ws b ∧ wayW ws' b = wayW s.ws b ∧ (∀ j : Int, 0 ≤ j → j < (headS s.ws b).ptrs → refS ws' b j = refS s.ws b j) ∧ ∀ j : Int, 0 ≤ j → j < (headS s.ws b).size → (b ≠ loc n ∨ j ≠ (N n).ptrs.length + k) → rd ws' (b + 2 + j) = rd s.ws (b + 2 + j) := by
    intro b hb
    obtain ⟨q1, q2, q3, q4⟩ := I.lay.pos hb
    obtain ⟨c1, c2, c3, c4, c5⟩ := words_bounds s.ws b
    by_cases e : b = loc n
    · subst e
      refine ⟨by rw [headS_eq, headS_eq, hrd, if_neg (by omega)], by rw [wayW_eq (by omega) q3, wayW_eq (by omega) q3, hrd, if_neg (by omega)], fun j j0 j1 => ?_, fun j j0 j1 hj => ?_⟩
      · rw [refS_eq (by omega) q3 j0 (by omega), refS_eq (by omega) q3 j0 (by omega), hrd, if_neg (by omega)]
      · have : j ≠ (N n).ptrs.length + k := hj.elim (fun h => absurd rfl h) id
        rw [hrd, if_neg (by omega)]
    · have := I.lay.apart hb hI e
      refine ⟨by rw [headS_eq, headS_eq, hrd, if_neg (by omega)], by rw [wayW_eq (by omega) q3, wayW_eq (by omega) q3, hrd, if_neg (by omega)], fun j j0 j1 => ?_, fun j j0 j1 hj => ?_⟩
      · rw [refS_eq (by omega) q3 j0 (by omega), refS_eq (by omega) q3 j0 (by omega), hrd, if_neg (by omega)]
      · rw [hrd, if_neg (by omega)]
  have hnow : ∀ x, OkRef s cur oth x → CoreS.now { s with ws := ws' } x = s.now x := fun x hx => now_same (s' := { s with ws := ws' }) I.lay rfl (fun b hb => (same b (.inr (.inl hb))).2.1) hx
  have hN : ∀ m, (updN N n ⟨(N n).ptrs, (N n).scal.set k.toNat v⟩ m).ptrs = (N m).ptrs ∧ (updN N n ⟨(N n).ptrs, (N n).scal.set k.toNat v⟩ m).scal.length = (N m).scal.length := by
    intro m
    by_cases e : m = n
    · subst e
      rw [updN_at]
      simp
    · rw [updN_ne N _ e]
      exact ⟨rfl, rfl⟩
  refine ⟨R.k0, R.l0, R.inj, ?_, ?_, ?_, ?_, ?_, ?_, R.hl, R.hk, ?_⟩
  · intro m hm
    rcases R.pl m hm with h | h | h
    · exact .inl h
    · exact .inr (.inl h)
    · exact .inr (.inr ⟨h.1, by show wayW ws' (loc m) = loc m; rw [(same _ (.inr (.inl h.1))).2.1]; exact h.2⟩)
  · intro m hm
    show (headS ws' (loc m)).size = _
    rw [(same _ (R.pl m hm).isO).1, (hN m).1, (hN m).2]
    exact R.sz m hm
  · intro m hm
    show (headS ws' (loc m)).ptrs = _
    rw [(same _ (R.pl m hm).isO).1, (hN m).1]
    exact R.pn m hm
  · intro m hm x hx
    rw [(hN m).1] at hx
    exact R.pk m hm x hx
  · intro m hm j hj
    rw [(hN m).1] at hj ⊢
    have hpm := R.pn m hm
    show CoreS.now { s with ws := ws' } (refS ws' (loc m) j) = _
    rw [(same _ (R.pl m hm).isO).2.2.1 j (by omega) (by omega), hnow _ (I.refOk (R.pl m hm).isO (by omega) (by omega))]
    exact R.pt m hm j hj
  · intro m hm j hj
    rw [(hN m).2] at hj
    rw [(hN m).1]
    have hsm := R.sz m hm
    show rd ws' (loc m + 2 + (((N m).ptrs.length : Int) + j)) = _
    by_cases e : m = n
    · subst e
      rw [updN_at]
      show _ = ((N m).scal.set k.toNat v).getD j 0
      rw [List.getD_eq_getElem?_getD, List.getElem?_set]
      by_cases ej : j = k.toNat
      · rw [if_pos ej.symm, if_pos (by omega), hrd, if_pos (by omega)]
        rfl
      · rw [if_neg (fun h => ej h.symm), (same _ (R.pl m hm).isO).2.2.2 _ (by omega) (by omega) (.inr (by omega)), ← List.getD_eq_getElem?_getD]
        exact R.sc m hm j hj
    · rw [updN_ne N _ e, (same _ (R.pl m hm).isO).2.2.2 _ (by omega) (by omega) (.inl (fun h => e (R.inj m n hm hn h)))]
      exact R.sc m hm j hj
  · intro j hj
    show CoreS.now { s with ws := ws' } (s.t.getD j 0) = _
    rw [hnow _ (ht _ (mem_getD (by rw [← R.hl]; exact hj)))]
    exact R.hv j hj

def scalOkG (N : Int → NodeG) (hs : List Int) (i n : Int) : Bool := decide (0 ≤ n ∧ n < (N (tblGet hs i)).scal.length)
def scalEG (N : Int → NodeG) (hs : List Int) (i n : Int) : Int := if objEG hs i = 0 then (if scalOkG N hs i n then 0 else 5) else objEG hs i
def readG (N : Int → NodeG) (hs : List Int) (i n : Int) : Int := if scalEG N hs i n = 0 then (N (tblGet hs i)).scal.getD n.toNat 0 else 0
def writeG (N : Int → NodeG) (hs : List Int) (i n x : Int) : Int → NodeG := if scalEG N hs i n = 0 then updN N (tblGet hs i) ⟨(N (tblGet hs i)).ptrs, (N (tblGet hs i)).scal.set n.toNat x⟩ else N

theorem Good.scalOk (G : Good s cur oth N hs K loc) {i : Int} (h : s.objE i = 0) (n : Int) : s.scalOk i n = scalOkG N hs i n := by
  obtain ⟨_, _, _, _, e1, e2⟩ := G.obj h
  unfold CoreS.scalOk scalOkG
  rw [e1, e2]
  congr 1
  apply propext
  omega

theorem Good.scalAt (G : Good s cur oth N hs K loc) {i n : Int} (h : s.objE i = 0) (hn : scalOkG N hs i n = true) : s.scalAt i n = place (loc (tblGet hs i)) ((N (tblGet hs i)).ptrs.length + n) ∧ place (loc (tblGet hs i)) ((N (tblGet hs i)).ptrs.length + n) = loc (tblGet hs i) + 2 + ((N (tblGet hs i)).ptrs.length + n) ∧ 0 ≤ s.scalAt i n ∧ s.scalAt i n < s.ws.length := by
  obtain ⟨hk, hg, ho, e0, e1, e2⟩ := G.obj h
  have hI := (G.rep.pl _ hk).isO
  obtain ⟨p1, p2, p3, p4⟩ := G.inv.lay.pos hI
  obtain ⟨b1, b2, b3, b4, b5⟩ := words_bounds s.ws (loc (tblGet hs i))
  have hsz := G.rep.sz _ hk
  have hpn := G.rep.pn _ hk
  have hn' := of_decide_eq_true hn
  have e : s.scalAt i n = place (loc (tblGet hs i)) ((N (tblGet hs i)).ptrs.length + n) := by
    unfold CoreS.scalAt
    rw [hg, e2]
  have e' := place_of (i := loc (tblGet hs i)) (n := (N (tblGet hs i)).ptrs.length + n) (by omega) p3 (by omega) (by omega)
  exact ⟨e, e', by rw [e, e']; omega, by rw [e, e']; omega⟩

theorem Good.scalE (G : Good s cur oth N hs K loc) (i n : Int) : s.scalE i n = scalEG N hs i n := by
  unfold CoreS.scalE scalEG
  rw [← G.objE]
  by_cases h : s.objE i = 0
  · rw [if_pos h, if_pos h, G.scalOk h]
    by_cases h2 : scalOkG N hs i n = true
    · rw [if_pos h2, if_pos h2]
      obtain ⟨_, _, a1, a2⟩ := G.scalAt h h2
      unfold errW
      rw [if_pos]
      rw [hasW_iff]
      omega
    · rw [if_neg h2, if_neg h2]
  · rw [if_neg h, if_neg h]

theorem scalEG_zero {N : Int → NodeG} {hs : List Int} {i n : Int} : scalEG N hs i n = 0 ↔ objEG hs i = 0 ∧ scalOkG N hs i n = true := by
  unfold scalEG
  constructor
  · intro h
    split at h
    · rename_i h1
      split at h
      · rename_i h2
        exact ⟨h1, h2⟩
      · cases h
    · rename_i h1
      exact absurd h h1
  · rintro ⟨h1, h2⟩
    rw [if_pos h1, if_pos h2]

theorem Good.readV (G : Good s cur oth N hs K loc) (i n : Int) : s.readV i n = readG N hs i n := by
  unfold CoreS.readV readG
  by_cases h : s.objE i = 0
  · rw [G.scalOk h]
    by_cases h2 : scalOkG N hs i n = true
    · rw [if_pos ⟨h, h2⟩, if_pos (scalEG_zero.2 ⟨by rw [← G.objE]; exact h, h2⟩)]
      obtain ⟨a0, a1, a2, a3⟩ := G.scalAt h h2
      have hn' := of_decide_eq_true h2
      rw [ldW_eq, a0, a1]
      have := G.rep.sc _ (G.obj h).1 n.toNat (by omega)
      rw [← this]
      congr 1
      omega
    · rw [if_neg (fun h' => h2 h'.2), if_neg (fun h' => h2 (scalEG_zero.1 h').2)]
  · rw [if_neg (fun h' => h h'.1), if_neg (fun h' => h (by rw [G.objE]; exact (scalEG_zero.1 h').1))]

theorem good_write (G : Good s cur oth N hs K loc) (i n v : Int) : Good { s with ws := s.writeW i n v } cur oth (writeG N hs i n v) hs K loc := by
  unfold CoreS.writeW writeG
  by_cases h : s.objE i = 0
  · rw [G.scalOk h]
    by_cases h2 : scalOkG N hs i n = true
    · rw [if_pos ⟨h, h2⟩, if_pos (scalEG_zero.2 ⟨by rw [← G.objE]; exact h, h2⟩)]
      obtain ⟨a0, a1, a2, a3⟩ := G.scalAt h h2
      obtain ⟨hk, hg, ho, e0, e1, e2⟩ := G.obj h
      have hn' := of_decide_eq_true h2
      have hI := (G.rep.pl _ hk).isO
      rw [a0]
      have hsz := G.rep.sz _ hk
      have hpn := G.rep.pn _ hk
      refine ⟨scal_inv G.inv hI (by omega) (by omega), ?_, G.rep.write G.inv G.hdl.ok hk hn'.1 hn'.2⟩
      intro x hx
      have := G.hdl x hx
      unfold NewRef InOld at this ⊢
      simp only [len_st]
      exact this
    · rw [if_neg (fun h' => h2 h'.2), if_neg (fun h' => h2 (scalEG_zero.1 h').2)]
      exact G
  · rw [if_neg (fun h' => h h'.1), if_neg (fun h' => h (by rw [G.objE]; exact (scalEG_zero.1 h').1))]
    exact G
end

end Go.Proofs.YtjjdjipohifgbaaGreat

/- Make, Get and Set keep what a heap holds. No program in sight. Conditions: a core whose parts fit its configuration. -/
namespace Go.Proofs.YtjjdjipohifgbaaGreat
open Go.RowKit

section
variable {s : CoreS} {cur oth : List Int} {N : Int → NodeG} {hs : List Int} {K : Int → Prop} {loc : Int → Int}

/-- one node more -/
theorem Rep.more (R : Rep s cur oth N hs K loc) {m t : Int} (h0 : m ≠ 0) (hk : ¬ K m) (ht : Home s cur oth t) (hne : ∀ n, K n → loc n ≠ t) (g : NodeG) (hsz : (headS s.ws t).size = (g.ptrs.length : Int) + g.scal.length) (hpn : (headS s.ws t).ptrs = (g.ptrs.length : Int))
    (hp : ∀ x ∈ g.ptrs, x = 0) (hr : ∀ j : Nat, j < g.ptrs.length → s.now (refS s.ws t j) = 0) (hsc : ∀ j : Nat, j < g.scal.length → rd s.ws (t + 2 + ((g.ptrs.length : Int) + j)) = g.scal.getD j 0) :
    Rep s cur oth (updN N m g) hs (fun n => n = m ∨ K n) (fun n => if n = m then t else loc n) := by
  have hm : ∀ n, K n → n ≠ m := fun n hn e => hk (e ▸ hn)
  have hl : ∀ x, x = 0 ∨ K x → (if x = m then t else loc x) = loc x := by
    intro x hx
    rcases hx with rfl | hx
    · rw [if_neg (fun e => h0 e.symm)]
    · rw [if_neg (hm x hx)]
  refine ⟨?_, ?_, ?_, ?_, ?_, ?_, ?_, ?_, ?_, R.hl, fun x hx => (R.hk x hx).elim .inl (fun h => .inr (.inr h)), ?_⟩
  · rintro (h | h)
    · exact h0 h.symm
    · exact R.k0 h
  · show (if (0 : Int) = m then t else loc 0) = 0
    rw [if_neg (fun e => h0 e.symm), R.l0]
  · intro n n' hn hn' e
    have e' : (if n = m then t else loc n) = (if n' = m then t else loc n') := e
    rcases hn with rfl | hn
    · rcases hn' with rfl | hn'
      · rfl
      · rw [if_pos rfl, if_neg (hm n' hn')] at e'
        exact absurd e'.symm (hne n' hn')
    · rcases hn' with rfl | hn'
      · rw [if_pos rfl, if_neg (hm n hn)] at e'
        exact absurd e' (hne n hn)
      · rw [if_neg (hm n hn), if_neg (hm n' hn')] at e'
        exact R.inj n n' hn hn' e'
  · intro n hn
    show Home s cur oth (if n = m then t else loc n)
    rcases hn with rfl | hn
    · rw [if_pos rfl]; exact ht
    · rw [if_neg (hm n hn)]; exact R.pl n hn
  · intro n hn
    show (headS s.ws (if n = m then t else loc n)).size = _
    rcases hn with rfl | hn
    · rw [if_pos rfl, updN_at]; exact hsz
    · rw [if_neg (hm n hn), updN_ne N g (hm n hn)]; exact R.sz n hn
  · intro n hn
    show (headS s.ws (if n = m then t else loc n)).ptrs = _
    rcases hn with rfl | hn
    · rw [if_pos rfl, updN_at]; exact hpn
    · rw [if_neg (hm n hn), updN_ne N g (hm n hn)]; exact R.pn n hn
  · intro n hn x hx
    rcases hn with rfl | hn
    · rw [updN_at] at hx
      exact .inl (hp x hx)
    · rw [updN_ne N g (hm n hn)] at hx
      exact (R.pk n hn x hx).elim .inl (fun h => .inr (.inr h))
  · intro n hn j hj
    show s.now (refS s.ws (if n = m then t else loc n) j) = (if (updN N m g n).ptrs.getD j 0 = m then t else loc ((updN N m g n).ptrs.getD j 0))
    rcases hn with rfl | hn
    · rw [updN_at] at hj ⊢
      have e := hp _ (mem_getD hj)
      rw [if_pos rfl, e, if_neg (fun e => h0 e.symm), R.l0]
      exact hr j hj
    · rw [updN_ne N g (hm n hn)] at hj ⊢
      rw [if_neg (hm n hn), hl _ (R.pk n hn _ (mem_getD hj))]
      exact R.pt n hn j hj
  · intro n hn j hj
    show rd s.ws ((if n = m then t else loc n) + 2 + (((updN N m g n).ptrs.length : Int) + j)) = _
    rcases hn with rfl | hn
    · rw [updN_at] at hj ⊢
      rw [if_pos rfl]
      exact hsc j hj
    · rw [updN_ne N g (hm n hn)] at hj ⊢
      rw [if_neg (hm n hn)]
      exact R.sc n hn j hj
  · intro j hj
    show s.now (s.t.getD j 0) = (if hs.getD j 0 = m then t else loc (hs.getD j 0))
    rw [hl _ (R.hk _ (mem_getD hj))]
    exact R.hv j hj

def newG (p c : Int) : NodeG := ⟨List.replicate p.toNat 0, List.replicate c.toNat 0⟩
theorem getD_zeros (n j : Nat) : (List.replicate n (0 : Int)).getD j 0 = 0 := by
  rw [List.getD_eq_getElem?_getD, List.getElem?_replicate]
  split <;> rfl

theorem shapeOk_iff {p c : Int} : s.shapeOk p c = true ↔ 0 ≤ p ∧ 0 ≤ c ∧ p ≤ s.C.largest ∧ c ≤ s.C.largest - p := by simp [CoreS.shapeOk]

theorem good_made (G : Good s cur oth N hs K loc) {i p c : Int} (he : s.makeE i p c = 0) {m : Int} (h0 : m ≠ 0) (hk : ¬ K m) :
    ∃ loc', Good (s.made i p c) (cur ++ [s.y.takeAt (p + c + 2)]) oth (updN N m (newG p c)) (tblSet hs i m) (fun n => n = m ∨ K n) loc' := by
  have hsh : s.shapeOk p c = true ∧ s.roomOk (p + c + 2) = true := by
    unfold CoreS.makeE at he
    split at he
    · split at he
      · split at he
        · rename_i h1 h2
          exact ⟨h1, h2⟩
        · cases he
      · cases he
    · cases he
  obtain ⟨hsh, hro⟩ := hsh
  obtain ⟨p0, c0, p1, c1⟩ := shapeOk_iff.1 hsh
  have hl := G.inv.lay.cf.l2
  have M := made_inv G.inv p0 c0 (by omega) hro s.t { s.done with allocs := wrap64 (s.done.allocs + 1), words := wrap64 (s.done.words + (p + c + 2)) }
  generalize hs1 : ({ s with ws := objMakeW s.ws (s.y.takeAt (p + c + 2)) (s.newHd p c), y := s.y.take (p + c + 2), t := s.t, done := { s.done with allocs := wrap64 (s.done.allocs + 1), words := wrap64 (s.done.words + (p + c + 2)) } } : CoreS) = s1 at M
  have hfin : s.made i p c = { s1 with t := tblSet s1.t i (s.y.takeAt (p + c + 2)) } := by rw [← hs1]; rfl
  have ht1 : s1.t = s.t := by rw [← hs1]
  generalize hT : s.y.takeAt (p + c + 2) = t at *
  have hHT : headS s1.ws t = s.newHd p c := M.hd
  have same : ∀ b, IsO s cur oth b → headS s1.ws b = headS s.ws b ∧ wayW s1.ws b = wayW s.ws b ∧ (∀ j : Int, 0 ≤ j → j < (headS s.ws b).ptrs → refS s1.ws b j = refS s.ws b j) ∧ ∀ j : Int, 0 ≤ j → j < (headS s.ws b).size → rd s1.ws (b + 2 + j) = rd s.ws (b + 2 + j) := by
    intro b hb
    have S := M.rest b hb
    obtain ⟨q1, q2, q3, q4⟩ := G.inv.lay.pos hb
    obtain ⟨c1, c2, c3, c4, c5⟩ := words_bounds s.ws b
    exact ⟨S.head (by omega), S.way (by omega) (by omega) q3, fun j j0 j1 => S.ref (by omega) q3 j0 (by omega) (by omega), fun j j0 j1 => S _ (by omega) (by omega)⟩
  have hnow : ∀ x, OkRef s cur oth x → s1.now x = s.now x := by
    intro x hx
    have stay : NewRef s cur x → s1.now x = s.now x := by
      intro h
      rw [G.inv.lay.now_stay h, M.inv.lay.now_stay]
      rcases h with h | h | h
      · exact .inl h
      · exact .inr (.inl (by unfold InOld at h ⊢; rw [M.C, M.wl]; exact h))
      · exact .inr (.inr (List.mem_append_left _ h))
    rcases hx with h | h | h | h
    · exact stay (.inl h)
    · exact stay (.inr (.inl h))
    · exact stay (.inr (.inr h))
    · rw [G.inv.lay.now_oth h, M.inv.lay.now_oth h]
      exact (same x (.inr (.inl h))).2.1
  have R1 : Rep s1 (cur ++ [t]) oth N hs K loc := by
    refine G.rep.keep (fun _ h => List.mem_append_left _ h) (fun b h => by rw [M.o]; exact h) (fun b hb => (same b (.inr (.inl hb))).2.1) ?_ (by rw [ht1]) ?_
    · intro b hb
      obtain ⟨e1, e2, e3, e4⟩ := same b hb.isO
      have := (words_bounds s.ws b).2.2.2.1
      refine ⟨by rw [e1], by rw [e1], fun k k0 k1 => e4 k (by omega) k1, fun k k0 k1 => ?_⟩
      rw [e3 k k0 k1]
      exact hnow _ (G.inv.refOk hb.isO k0 k1)
    · intro j hj
      rw [ht1]
      exact hnow _ (G.hdl.ok _ (mem_getD hj))
  have H1 : HdlIn s1 (cur ++ [t]) := by
    intro x hx
    rw [ht1] at hx
    rcases G.hdl x hx with h | h | h
    · exact .inl h
    · exact .inr (.inl (by unfold InOld at h ⊢; rw [M.C, M.wl]; exact h))
    · exact .inr (.inr (List.mem_append_left _ h))
  have tc : t ∈ cur ++ [t] := by simp
  have tI : IsO s1 (cur ++ [t]) oth t := .inl tc
  obtain ⟨z1, z2, z3, z4⟩ := M.inv.lay.pos tI
  have R2 := R1.more (m := m) (t := t) h0 hk (.inl tc) (fun n hn e => M.new (e ▸ (G.rep.pl n hn).isO)) (newG p c)
    (by rw [hHT]; simp only [CoreS.newHd, newG, List.length_replicate]; omega) (by rw [hHT]; simp only [CoreS.newHd, newG, List.length_replicate]; omega)
    (fun x hx => List.eq_of_mem_replicate hx)
    (by
      intro j hj
      simp only [newG, List.length_replicate] at hj
      rw [refS_eq (by omega) z3 (by omega) (by omega), M.ref j (by omega) (by omega)]
      have : wrap64 0 = 0 := wrap_of ⟨by omega, by omega⟩
      rw [this]
      exact M.inv.lay.now_stay (.inl rfl))
    (by
      intro j hj
      simp only [newG, List.length_replicate] at hj
      have e : (newG p c).scal.getD j 0 = 0 := getD_zeros _ _
      rw [e]
      simp only [newG, List.length_replicate]
      exact M.ref _ (by omega) (by omega))
  refine ⟨fun n => if n = m then t else loc n, ?_⟩
  rw [hfin]
  refine (Good.mk M.inv H1 R2).setH i t m (.inr (.inl rfl)) (.inr (.inr tc)) ?_
  show t = if m = m then t else loc m
  rw [if_pos rfl]

/-! Get -/
theorem move_rest (I : Inv s cur oth NoI NoI) (hmv : s.moving = false) (r : Int) : s.move r = s ∧ s.moveV r = r := by
  have ho := I.hds.nm hmv
  have hr := I.lay.ro
  rw [ho] at hr
  simp only [ORow] at hr
  have : s.y.isFrom r = false := by
    simp only [YoungS.isFrom, decide_eq_false_iff_not]
    omega
  exact ⟨by rw [CoreS.move, if_pos (.inr this)], by rw [CoreS.moveV, if_pos (.inr this)]⟩

theorem good_move (G : Good s cur oth N hs K loc) {r : Int} (hr : OkRef s cur oth r) :
    ∃ cur' loc', Good (s.move r) cur' oth N hs K loc' ∧ MvRes s cur oth r (s.move r) cur' (s.moveV r) ∧ (s.move r).now r = s.moveV r := by
  cases hmv : s.moving with
  | false =>
    obtain ⟨e1, e2⟩ := move_rest G.inv hmv r
    have ho := G.inv.hds.nm hmv
    have hn : NewRef s cur r := by
      rcases hr with h | h | h | h
      · exact .inl h
      · exact .inr (.inl h)
      · exact .inr (.inr h)
      · rw [ho] at h; cases h
    refine ⟨cur, loc, by rw [e1]; exact G, ?_, ?_⟩
    · rw [e1, e2]
      exact ⟨fun _ hb => hb, hn, fun _ _ _ _ _ => rfl, rfl, rfl, rfl, rfl, rfl, rfl, rfl, rfl, fun _ _ => rfl, fun _ hb => hb⟩
    · rw [e1, e2]
      exact G.inv.lay.now_stay hn
  | true =>
    obtain ⟨c1, l1, I1, M, R1, h⟩ := move_rep G.inv hmv G.rep G.hdl.ok hr
    exact ⟨c1, l1, ⟨I1, HdlIn.keep G.inv.lay I1.lay G.hdl M.C M.t M.mono, R1⟩, M, h⟩

theorem good_mark (G : Good s cur oth N hs K loc) {n : Int} (hn : n = 0 ∨ K n) : Good (s.mark (loc n)) cur oth N hs K loc ∧ (∀ x, NewRef s cur x → NewRef (s.mark (loc n)) cur x) := by
  have hi : loc n ≠ 0 → IsO s cur oth (s.now (loc n)) := by
    intro h0
    have hk : K n := hn.elim (fun e => absurd (by rw [e]; exact G.rep.l0) h0) id
    have e : s.now (loc n) = loc n := by
      rcases G.rep.pl n hk with h | h | ⟨h, h2⟩
      · exact G.inv.lay.now_stay (.inr (.inr h))
      · exact G.inv.lay.now_stay (.inr (.inl (G.inv.lay.old_range h)))
      · rw [G.inv.lay.now_oth h]; exact h2
    rw [e]
    exact (G.rep.pl n hk).isO
  obtain ⟨a1, a2, a3, a4, a5, a6, _⟩ := mark_keeps G.inv hi G.rep G.hdl
  refine ⟨⟨a1, a3, a2⟩, fun x hx => ?_⟩
  unfold NewRef InOld at hx ⊢
  rw [a4, a6]
  exact hx

/-- the core behind Get -/
def CoreS.fetch (s : CoreS) (r : Int) : CoreS := (s.move r).mark (s.moveV r)
def CoreS.gotM (s : CoreS) (a b c : Int) : CoreS := if s.refE b c a = 0 then { s.fetch (refS s.ws (tblGet s.t b) c) with t := tblSet (s.fetch (refS s.ws (tblGet s.t b) c)).t a (s.moveV (refS s.ws (tblGet s.t b) c)) } else s

def refOkG (N : Int → NodeG) (hs : List Int) (i n : Int) : Bool := decide (0 ≤ n ∧ n < (N (tblGet hs i)).ptrs.length)
def refEG (N : Int → NodeG) (hs : List Int) (i n k : Int) : Int := if objEG hs i = 0 then (if tblOk hs k then (if refOkG N hs i n then 0 else 5) else 3) else objEG hs i
theorem Good.refOk (G : Good s cur oth N hs K loc) {i : Int} (h : s.objE i = 0) (n : Int) : s.refOk i n = refOkG N hs i n := by
  obtain ⟨_, _, _, _, e1, e2⟩ := G.obj h
  unfold CoreS.refOk refOkG
  rw [e2]
theorem Good.refE (G : Good s cur oth N hs K loc) (i n k : Int) : s.refE i n k = refEG N hs i n k := by
  unfold CoreS.refE refEG
  rw [← G.objE, G.ok]
  by_cases h : s.objE i = 0
  · rw [if_pos h, if_pos h, G.refOk h]
  · rw [if_neg h, if_neg h]
theorem refEG_zero {N : Int → NodeG} {hs : List Int} {i n k : Int} : refEG N hs i n k = 0 ↔ objEG hs i = 0 ∧ tblOk hs k = true ∧ refOkG N hs i n = true := by
  unfold refEG
  constructor
  · intro h
    split at h
    · rename_i h1
      split at h
      · rename_i h2
        split at h
        · rename_i h3
          exact ⟨h1, h2, h3⟩
        · cases h
      · cases h
    · rename_i h1
      exact absurd h h1
  · rintro ⟨h1, h2, h3⟩
    rw [if_pos h1, if_pos h2, if_pos h3]

def gotG (N : Int → NodeG) (hs : List Int) (a b c : Int) : List Int := if refEG N hs b c a = 0 then tblSet hs a ((N (tblGet hs b)).ptrs.getD c.toNat 0) else hs

theorem good_got (G : Good s cur oth N hs K loc) (a b c : Int) : ∃ cur' loc', Good (s.gotM a b c) cur' oth N (gotG N hs a b c) K loc' := by
  unfold CoreS.gotM gotG
  rw [← G.refE]
  by_cases he : s.refE b c a = 0
  · rw [if_pos he, if_pos he]
    have he' := he
    rw [G.refE] at he'
    obtain ⟨z1, z2, z3⟩ := refEG_zero.1 he'
    rw [← G.objE] at z1
    obtain ⟨hk, hg, ho, e0, e1, e2⟩ := G.obj z1
    obtain ⟨c0, c1⟩ := of_decide_eq_true z3
    have hI : IsO s cur oth (tblGet s.t b) := ho.elim .inl (fun h => .inr (.inr h))
    have hpn : (headS s.ws (tblGet s.t b)).ptrs = ((N (tblGet hs b)).ptrs.length : Int) := by rw [← e0]; exact e2
    have hr := G.inv.refOk hI c0 (by rw [hpn]; exact c1)
    generalize hR : refS s.ws (tblGet s.t b) c = r at *
    obtain ⟨cur', loc', G1, M, hnow⟩ := good_move G hr
    obtain ⟨p1, p2, p3, p4⟩ := G.inv.lay.pos hI
    obtain ⟨b1, b2, b3, b4, b5⟩ := words_bounds s.ws (tblGet s.t b)
    have hmem : (N (tblGet hs b)).ptrs.getD c.toNat 0 = 0 ∨ K ((N (tblGet hs b)).ptrs.getD c.toNat 0) := G.rep.pk _ hk _ (mem_getD (by omega))
    have hloc : loc' ((N (tblGet hs b)).ptrs.getD c.toNat 0) = s.moveV r := by
      have h1 := G1.rep.pt _ hk c.toNat (by omega)
      rw [← h1]
      have h2 : loc' (tblGet hs b) = tblGet s.t b := by
        have := G1.get b
        rw [M.t] at this
        exact this.symm
      have h3 : refS (s.move r).ws (tblGet s.t b) c = r := by
        rw [(M.same _ ho).ref (by omega) p3 c0 (by omega) (by omega), hR]
      rw [h2, show ((c.toNat : Nat) : Int) = c by omega, h3]
      exact hnow
    obtain ⟨G2, hN⟩ := good_mark G1 hmem
    rw [hloc] at G2 hN
    refine ⟨cur', loc', ?_⟩
    exact G2.setH a (s.moveV r) _ hmem (hN _ M.res) hloc.symm
  · rw [if_neg he, if_neg he]
    exact ⟨cur, loc, G⟩

/-! Set -/
theorem Rep.put (I : Inv s cur oth NoI NoI) (R : Rep s cur oth N hs K loc) (ht : ∀ x ∈ s.t, OkRef s cur oth x) {n m : Int} (hn : K n) (hm : m = 0 ∨ K m) (hl : loc n ∈ cur ∨ (s.o.sizeAt (loc n)).isSome = true) (hT : NewRef s cur (loc m)) {k : Int} (k0 : 0 ≤ k) (k1 : k < (N n).ptrs.length) :
    Rep { s with ws := stW s.ws (place (loc n) k) (u64 (loc m)) } cur oth (updN N n ⟨(N n).ptrs.set k.toNat m, (N n).scal⟩) hs K loc := by
  have hpn := R.pn n hn
  have I1 : Inv s cur oth (fun b => b = loc n) NoI := I.weak (fun b h => h.elim) (fun b h => h)
  obtain ⟨I2, r1, r2, r3, r4, r5⟩ := setRef_inv I1 (a := loc n) (hl.elim .inl (fun h => .inr ⟨h, rfl⟩)) k0 (by omega) hT
  have hI := (R.pl n hn).isO
  obtain ⟨p1, p2, p3, p4⟩ := I.lay.pos hI
  obtain ⟨b1, b2, b3, b4, b5⟩ := words_bounds s.ws (loc n)
  have hsz := R.sz n hn
  generalize hws : stW s.ws (place (loc n) k) (u64 (loc m)) = ws' at *
  have same : ∀ b, IsO s cur oth b → headS ws' b = headS s.ws b ∧ wayW ws' b = wayW s.ws b ∧ (∀ j : Int, 0 ≤ j → j < (headS s.ws b).ptrs → (b ≠ loc n ∨ j ≠ k) → refS ws' b j = refS s.ws b j) ∧ ∀ j : Int, 0 ≤ j → j < (headS s.ws b).size → (b ≠ loc n ∨ j ≠ k) → rd ws' (b + 2 + j) = rd s.ws (b + 2 + j) := by
    intro b hb
    obtain ⟨q1, q2, q3, q4⟩ := I.lay.pos hb
    obtain ⟨c1, c2, c3, c4, c5⟩ := words_bounds s.ws b
    by_cases e : b = loc n
    · subst e
      refine ⟨r3, r4, fun j j0 j1 hj => ?_, fun j j0 j1 hj => ?_⟩
      · have : j ≠ k := hj.elim (fun h => absurd rfl h) id
        rw [refS_eq (by omega) q3 j0 (by omega), refS_eq (by omega) q3 j0 (by omega), r5 j j0 (by omega) this]
      · have : j ≠ k := hj.elim (fun h => absurd rfl h) id
        exact r5 j j0 (by omega) this
    · have S := r2 b hb e
      exact ⟨S.head (by omega), S.way (by omega) (by omega) q3, fun j j0 j1 _ => S.ref (by omega) q3 j0 (by omega) (by omega), fun j j0 j1 _ => S _ (by omega) (by omega)⟩
  have hnow : ∀ x, OkRef s cur oth x → CoreS.now { s with ws := ws' } x = s.now x := fun x hx => now_same (s' := { s with ws := ws' }) I.lay rfl (fun b hb => (same b (.inr (.inl hb))).2.1) hx
  have hN : ∀ x, (updN N n ⟨(N n).ptrs.set k.toNat m, (N n).scal⟩ x).ptrs.length = (N x).ptrs.length ∧ (updN N n ⟨(N n).ptrs.set k.toNat m, (N n).scal⟩ x).scal = (N x).scal := by
    intro x
    by_cases e : x = n
    · subst e
      rw [updN_at]
      simp
    · rw [updN_ne N _ e]
      exact ⟨rfl, rfl⟩
  refine ⟨R.k0, R.l0, R.inj, ?_, ?_, ?_, ?_, ?_, ?_, R.hl, R.hk, ?_⟩
  · intro x hx
    rcases R.pl x hx with h | h | h
    · exact .inl h
    · exact .inr (.inl h)
    · exact .inr (.inr ⟨h.1, by show wayW ws' (loc x) = loc x; rw [(same _ (.inr (.inl h.1))).2.1]; exact h.2⟩)
  · intro x hx
    show (headS ws' (loc x)).size = _
    rw [(same _ (R.pl x hx).isO).1, (hN x).1, (hN x).2]
    exact R.sz x hx
  · intro x hx
    show (headS ws' (loc x)).ptrs = _
    rw [(same _ (R.pl x hx).isO).1, (hN x).1]
    exact R.pn x hx
  · intro x hx y hy
    by_cases e : x = n
    · subst e
      rw [updN_at] at hy
      rcases List.mem_or_eq_of_mem_set hy with h | h
      · exact R.pk x hx y h
      · rw [h]; exact hm
    · rw [updN_ne N _ e] at hy
      exact R.pk x hx y hy
  · intro x hx j hj
    rw [(hN x).1] at hj
    have hpx := R.pn x hx
    show CoreS.now { s with ws := ws' } (refS ws' (loc x) j) = _
    by_cases e : x = n
    · subst e
      rw [updN_at]
      show _ = loc (((N x).ptrs.set k.toNat m).getD j 0)
      rw [List.getD_eq_getElem?_getD, List.getElem?_set]
      by_cases ej : k.toNat = j
      · rw [if_pos ej, if_pos (by omega), show (j : Int) = k by omega, r1]
        show CoreS.now { s with ws := ws' } (loc m) = loc m
        rw [hnow _ hT.okRef]
        exact I.lay.now_stay hT
      · rw [if_neg ej, (same _ (R.pl x hx).isO).2.2.1 j (by omega) (by omega) (.inr (by omega)), hnow _ (I.refOk (R.pl x hx).isO (by omega) (by omega)), ← List.getD_eq_getElem?_getD]
        exact R.pt x hx j hj
    · rw [updN_ne N _ e, (same _ (R.pl x hx).isO).2.2.1 j (by omega) (by omega) (.inl (fun h => e (R.inj x n hx hn h))), hnow _ (I.refOk (R.pl x hx).isO (by omega) (by omega))]
      exact R.pt x hx j hj
  · intro x hx j hj
    rw [(hN x).2] at hj ⊢
    rw [(hN x).1]
    have hsx := R.sz x hx
    show rd ws' (loc x + 2 + (((N x).ptrs.length : Int) + j)) = _
    rw [(same _ (R.pl x hx).isO).2.2.2 _ (by omega) (by omega) ?_]
    · exact R.sc x hx j hj
    · by_cases e : x = n
      · subst e
        exact .inr (by omega)
      · exact .inl (fun h => e (R.inj x n hx hn h))
  · intro j hj
    show CoreS.now { s with ws := ws' } (s.t.getD j 0) = _
    rw [hnow _ (ht _ (mem_getD (by rw [← R.hl]; exact hj)))]
    exact R.hv j hj

def setG (N : Int → NodeG) (hs : List Int) (i n k : Int) : Int → NodeG := if refEG N hs i n k = 0 then updN N (tblGet hs i) ⟨(N (tblGet hs i)).ptrs.set n.toNat (tblGet hs k), (N (tblGet hs i)).scal⟩ else N

theorem good_set (G : Good s cur oth N hs K loc) (i n k : Int) : Good (s.set i n k) cur oth (setG N hs i n k) hs K loc := by
  unfold CoreS.set setG
  rw [← G.refE]
  by_cases he : s.refE i n k = 0
  · rw [if_pos he, if_pos he]
    have he' := he
    rw [G.refE] at he'
    obtain ⟨z1, z2, z3⟩ := refEG_zero.1 he'
    rw [← G.objE] at z1
    obtain ⟨hk, hg, ho, e0, e1, e2⟩ := G.obj z1
    obtain ⟨c0, c1⟩ := of_decide_eq_true z3
    have hpn : (headS s.ws (tblGet s.t i)).ptrs = ((N (tblGet hs i)).ptrs.length : Int) := by rw [← e0]; exact e2
    have hT := G.new k
    have I1 := put_inv G.inv ho c0 (by rw [hpn]; exact c1) hT
    have hg2 := G.get k
    have R1 := G.rep.put G.inv G.hdl.ok hk (G.node k) (by rw [← hg]; exact ho) (by rw [← hg2]; exact hT) c0 c1
    rw [← hg, ← hg2] at R1
    have H1 : HdlIn (s.put i n k) cur := by
      intro x hx
      have := G.hdl x hx
      unfold NewRef InOld at this ⊢
      have e : (s.put i n k).ws.length = s.ws.length := len_st ..
      rw [e]
      exact this
    unfold CoreS.setTo
    have eI : (if s.y.isIn (tblGet s.t k) then (s.put i n k).note (tblGet s.t i) else s.put i n k) = (if s.y.isIn (tblGet s.t k) then ({ s with ws := stW s.ws (place (tblGet s.t i) n) (u64 (tblGet s.t k)) } : CoreS).note (tblGet s.t i) else { s with ws := stW s.ws (place (tblGet s.t i) n) (u64 (tblGet s.t k)) }) := rfl
    rw [← eI] at I1
    by_cases hin : s.y.isIn (tblGet s.t k) = true
    · rw [if_pos hin] at I1 ⊢
      have I2 : Inv (s.put i n k) cur oth (fun b => b = tblGet s.t i) NoI := (setRef_inv (G.inv.weak (E' := fun b => b = tblGet s.t i) (F' := NoI) (fun b h => h.elim) (fun b h => h)) (ho.elim .inl (fun h => .inr ⟨h, rfl⟩)) c0 (by rw [hpn]; exact c1) hT).1
      rcases ho with hc | hold
      · rw [note_young I2 hc] at I1 ⊢
        exact ⟨I1, H1, R1⟩
      · refine ⟨I1, ?_, note_rep I2 R1 (HdlIn.ok H1) hold⟩
        obtain ⟨m1, m2, _⟩ := note_others (s.put i n k) (tblGet s.t i)
        have hl := (note_inv I2 (a := tblGet s.t i) hold).2.2.1
        intro x hx
        rw [m2] at hx
        have := H1 x hx
        unfold NewRef InOld at this ⊢
        rw [m1, hl]
        exact this
    · rw [if_neg hin] at I1 ⊢
      exact ⟨I1, H1, R1⟩
  · rw [if_neg he, if_neg he]
    exact G

/-! cycles -/
theorem good_step (G : Good s cur oth N hs K loc) : ∃ cur' oth' K' loc', Good s.minStep cur' oth' N hs K' loc' ∧ (∀ n, K' n → K n) := by
  obtain ⟨c1, o1, K1, l1, J, R1, H1, k1⟩ := step_rep G.inv G.rep G.hdl
  exact ⟨c1, o1, K1, l1, ⟨J, H1, R1⟩, k1⟩
theorem good_start (G : Good s cur oth N hs K loc) : ∃ cur' oth' loc', Good s.startS cur' oth' N hs K loc' := by
  obtain ⟨c1, o1, l1, J, R1, H1⟩ := start_rep G.inv G.rep G.hdl
  exact ⟨c1, o1, l1, ⟨J, H1, R1⟩⟩

/-! what only asks -/
theorem Good.sameV (G : Good s cur oth N hs K loc) (i j : Int) : s.sameV i j = (tblOk hs i && tblOk hs j && decide (tblGet hs i = tblGet hs j)) := by
  unfold CoreS.sameV
  rw [G.ok, G.ok, G.get, G.get]
  congr 1
  exact decide_eq_decide.2 (G.same (G.node i) (G.node j))
theorem Good.nilV (G : Good s cur oth N hs K loc) (i : Int) : s.nilV i = (tblOk hs i && decide (tblGet hs i = 0)) := by
  unfold CoreS.nilV
  rw [G.ok, G.get]
  congr 1
  exact decide_eq_decide.2 (G.zero (G.node i))
end

/-- a new heap holds nothing -/
theorem good_new {c : Cfg} (h : c.Fits) : Good (coreNew c) [] [] (fun _ => ng0) (List.replicate c.handles.toNat 0) (fun _ => False) (fun _ => 0) := by
  have I := new_inv h
  have ht : (coreNew c).t = List.replicate c.handles.toNat 0 := rfl
  have hH : HdlIn (coreNew c) [] := fun x hx => .inl (List.eq_of_mem_replicate (by rw [ht] at hx; exact hx))
  refine ⟨I, hH, ⟨id, rfl, fun _ _ h => h.elim, fun _ h => h.elim, fun _ h => h.elim, fun _ h => h.elim, fun _ h => h.elim, fun _ h => h.elim, fun _ h => h.elim, by rw [ht], fun x hx => .inl (List.eq_of_mem_replicate hx), ?_⟩⟩
  intro j hj
  rw [ht, getD_zeros]
  exact I.lay.now_stay (.inl rfl)

end Go.Proofs.YtjjdjipohifgbaaGreat

/- Each bit of a cycle is a row of small turns: a move, a reference stored, a mark of noted; what each of these keeps, a bit keeps. No program in sight. Conditions: a core whose parts fit its configuration. -/
namespace Go.Proofs.YtjjdjipohifgbaaGreat
open Go.RowKit

/-- in the midst of a bit -/
def Mid (oth : List Int) (N : Int → NodeG) (hs : List Int) (K : Int → Prop) (s : CoreS) (cur : List Int) (loc : Int → Int) : Prop :=
  s.moving = true ∧ Rep s cur oth N hs K loc ∧ (∀ x ∈ s.t, OkRef s cur oth x) ∧ ∃ E F, Inv s cur oth E F
/-- what is moved is referred to -/
def Src (s : CoreS) (cur : List Int) (a : Int) : Prop := a ∈ s.t ∨ ∃ b k, (b ∈ cur ∨ (s.o.sizeAt b).isSome = true) ∧ 0 ≤ k ∧ k < (headS s.ws b).ptrs ∧ refS s.ws b k = a

inductive Mic (oth : List Int) (N : Int → NodeG) (hs : List Int) (K : Int → Prop) : CoreS → List Int → (Int → Int) → CoreS → List Int → (Int → Int) → Prop
  | mv {s cur loc a cur'} : Mid oth N hs K s cur loc → a ∈ oth → wayW s.ws a = a → Src s cur a → MovedTo s cur oth a (s.moved a) cur' (s.mvTo a) → (∀ b ∈ cur, b ∈ cur') → (s.mvTo a ∈ cur' ∨ ((s.moved a).o.sizeAt (s.mvTo a)).isSome = true) → Mic oth N hs K s cur loc (s.moved a) cur' (fun n => if loc n = a then s.mvTo a else loc n)
  | ref {s cur loc a k T} : Mid oth N hs K s cur loc → (a ∈ cur ∨ (s.o.sizeAt a).isSome = true) → 0 ≤ k → k < (headS s.ws a).ptrs → NewRef s cur T → s.now (refS s.ws a k) = T → Mic oth N hs K s cur loc { s with ws := stW s.ws (place a k) (u64 T) } cur loc
  | note {s cur loc a} : Mid oth N hs K s cur loc → (s.o.sizeAt a).isSome = true → Mic oth N hs K s cur loc (s.note a) cur loc
  | unnote {s cur loc a} : Mid oth N hs K s cur loc → (s.o.sizeAt a).isSome = true → Mic oth N hs K s cur loc (s.unnote a) cur loc
  | other {s cur loc s'} : Mid oth N hs K s cur loc → s'.C = s.C → s'.ws = s.ws → s'.y = s.y → s'.o = s.o → s'.t = s.t → s'.g = s.g → s'.parity = s.parity → s'.phase = s.phase → s'.moving = s.moving → s'.look = s.look → s'.copied = s.copied → s'.done = s.done → Mic oth N hs K s cur loc s' cur loc
  | hdl {s cur loc t} : Mid oth N hs K s cur loc → t.length = s.t.length → (∀ j : Nat, j < s.t.length → s.now (t.getD j 0) = s.now (s.t.getD j 0)) → Mic oth N hs K s cur loc { s with t := t } cur loc

inductive Mics (oth : List Int) (N : Int → NodeG) (hs : List Int) (K : Int → Prop) : CoreS → List Int → (Int → Int) → CoreS → List Int → (Int → Int) → Prop
  | refl {s cur loc} : Mics oth N hs K s cur loc s cur loc
  | more {s cur loc s' cur' loc' s'' cur'' loc''} : Mics oth N hs K s cur loc s' cur' loc' → Mic oth N hs K s' cur' loc' s'' cur'' loc'' → Mics oth N hs K s cur loc s'' cur'' loc''

section
variable {oth : List Int} {N : Int → NodeG} {hs : List Int} {K : Int → Prop}

theorem Mics.one {s s' : CoreS} {cur cur' : List Int} {loc loc' : Int → Int} (h : Mic oth N hs K s cur loc s' cur' loc') : Mics oth N hs K s cur loc s' cur' loc' := .more .refl h
theorem Mics.trans {s s' s'' : CoreS} {cur cur' cur'' : List Int} {loc loc' loc'' : Int → Int} (h : Mics oth N hs K s cur loc s' cur' loc') (g : Mics oth N hs K s' cur' loc' s'' cur'' loc'') : Mics oth N hs K s cur loc s'' cur'' loc'' := by
  induction g with
  | refl => exact h
  | more _ m ih => exact .more ih m
theorem Mics.keep {P : CoreS → List Int → (Int → Int) → Prop} (hP : ∀ {s cur loc s' cur' loc'}, Mic oth N hs K s cur loc s' cur' loc' → P s cur loc → P s' cur' loc') {s s' : CoreS} {cur cur' : List Int} {loc loc' : Int → Int} (g : Mics oth N hs K s cur loc s' cur' loc') (h : P s cur loc) : P s' cur' loc' := by
  induction g with
  | refl => exact h
  | more _ m ih => exact hP m ih
/-- what a row of turns keeps, told of both its ends -/
theorem Mics.rel {P : CoreS → List Int → (Int → Int) → CoreS → List Int → (Int → Int) → Prop} (h0 : ∀ s cur loc, P s cur loc s cur loc) (hP : ∀ {s cur loc s' cur' loc' s'' cur'' loc''}, P s cur loc s' cur' loc' → Mic oth N hs K s' cur' loc' s'' cur'' loc'' → P s cur loc s'' cur'' loc'') {s s' : CoreS} {cur cur' : List Int} {loc loc' : Int → Int} (g : Mics oth N hs K s cur loc s' cur' loc') : P s cur loc s' cur' loc' := by
  induction g with
  | refl => exact h0 _ _ _
  | more _ m ih => exact hP ih m

theorem move_mic {s : CoreS} {cur : List Int} {E F : Int → Prop} (I : Inv s cur oth E F) (hmv : s.moving = true) {loc : Int → Int} (R : Rep s cur oth N hs K loc) (ht : ∀ x ∈ s.t, OkRef s cur oth x) {r : Int} (hr : OkRef s cur oth r) (hs' : Src s cur r) :
    ∃ cur' loc', Inv (s.move r) cur' oth E F ∧ MvRes s cur oth r (s.move r) cur' (s.moveV r) ∧ Rep (s.move r) cur' oth N hs K loc' ∧ (s.move r).now r = s.moveV r ∧ Mics oth N hs K s cur loc (s.move r) cur' loc' := by
  by_cases hq : r ∈ oth ∧ wayW s.ws r = r
  · obtain ⟨h, hw⟩ := hq
    have h0 : ¬ (r = 0 ∨ s.y.isFrom r = false) := by
      rintro (h1 | h1)
      · exact I.lay.not_zero (.inr (.inl h)) h1
      · rw [I.lay.from_oth h] at h1; cases h1
    obtain ⟨cur', M, I', hm, hT⟩ := moved_inv I hmv h hw
    have e1 : s.move r = s.moved r := by rw [CoreS.move, if_neg h0, I.lay.now_oth h, if_pos hw]
    obtain ⟨c1, l1, I1, M1, R1, hn⟩ := move_rep I hmv R ht hr
    have hc : c1 = cur' := by
      rw [e1] at I1
      exact (I'.uniq I1).1
    subst hc
    have R' := R.moved I h hw M hm hT ht
    refine ⟨c1, _, I1, M1, by rw [e1]; exact R', hn, ?_⟩
    rw [e1]
    exact .one (.mv ⟨hmv, R, ht, E, F, I⟩ h hw hs' M hm hT)
  · have e1 : s.move r = s := by
      unfold CoreS.move
      split
      · rfl
      · rename_i h0
        split
        · rename_i h1
          exfalso
          have hro : r ∈ oth := by
            rcases hr with h | h | h | h
            · exact absurd (.inl h) h0
            · exact absurd (.inr (I.lay.from_old (.inl h))) h0
            · exact absurd (.inr (I.lay.from_not (.inl h))) h0
            · exact h
          rw [I.lay.now_oth hro] at h1
          exact hq ⟨hro, h1⟩
        · rfl
    obtain ⟨c1, l1, I1, M1, R1, hn⟩ := move_rep I hmv R ht hr
    have hc : c1 = cur := by
      rw [e1] at I1
      exact (I.uniq I1).1
    subst hc
    refine ⟨c1, loc, I1, M1, by rw [e1]; exact R, hn, ?_⟩
    rw [e1]
    exact .refl

theorem thrOne_mic {s : CoreS} {cur : List Int} {E F : Int → Prop} (I : Inv s cur oth E F) (hmv : s.moving = true) {loc : Int → Int} (R : Rep s cur oth N hs K loc) (ht : ∀ x ∈ s.t, OkRef s cur oth x) {a : Int} (ha : Looked s cur E a) {k : Nat} (hk : (k : Int) < (headS s.ws a).ptrs) :
    ∃ cur' loc', Inv (s.thrOne a k) cur' oth E F ∧ (∀ x, OkRef s cur oth x → OkRef (s.thrOne a k) cur' oth x) ∧ (s.thrOne a k).t = s.t ∧ (s.thrOne a k).moving = true ∧ Looked (s.thrOne a k) cur' E a ∧ headS (s.thrOne a k).ws a = headS s.ws a ∧ (∀ b ∈ cur, b ∈ cur') ∧ Rep (s.thrOne a k) cur' oth N hs K loc' ∧ Mics oth N hs K s cur loc (s.thrOne a k) cur' loc' := by
  obtain ⟨cur', loc', I1, M, R1, hnow, C1⟩ := move_mic I hmv R ht (I.okRef ha (by omega) hk) (.inr ⟨a, k, ha.isO, by omega, hk, rfl⟩)
  have hI : IsO s cur oth a := ha.elim .inl (fun h => .inr (.inr h.1))
  obtain ⟨p1, p2, p3, p4⟩ := I.lay.pos hI
  obtain ⟨b1, b2, b3, b4, b5⟩ := words_bounds s.ws a
  have SA := M.same a ha.isO
  have hdA : headS (s.move (refS s.ws a k)).ws a = headS s.ws a := SA.head (by omega)
  have rfA : refS (s.move (refS s.ws a k)).ws a k = refS s.ws a k := SA.ref (by omega) p3 (by omega) (by omega) (by omega)
  have ha1 : Looked (s.move (refS s.ws a k)) cur' E a := by
    rcases ha with h | ⟨h, h2⟩
    · exact .inl (M.mono a h)
    · exact .inr ⟨by rw [M.old a h]; exact h, h2⟩
  unfold CoreS.thrOne
  by_cases hq : s.moveV (refS s.ws a k) = refS s.ws a k
  · rw [if_pos hq]
    exact ⟨cur', loc', I1, fun x hx => M.okRef hx, M.t, M.moving.trans hmv, ha1, hdA, M.mono, R1, C1⟩
  · rw [if_neg hq]
    obtain ⟨I2, r1, r2, r3, r4, r5⟩ := setRef_inv (k := (k : Int)) I1 ha1 (by omega) (by rw [hdA]; exact hk) M.res
    have ht1 : ∀ x ∈ (s.move (refS s.ws a k)).t, OkRef (s.move (refS s.ws a k)) cur' oth x := by
      intro x hx
      rw [M.t] at hx
      exact M.okRef (ht x hx)
    have R2 := R1.setRef I1 ha1 (k := (k : Int)) (by omega) (by rw [hdA]; exact hk) M.res (by rw [rfA]; exact hnow) ht1
    refine ⟨cur', loc', I2, ?_, M.t, M.moving.trans hmv, ?_, r3.trans hdA, M.mono, R2, C1.more (.ref ⟨M.moving.trans hmv, R1, ht1, E, F, I1⟩ ha1.isO (by omega) (by rw [hdA]; exact hk) M.res (by rw [rfA]; exact hnow))⟩
    · intro x hx
      rcases M.okRef hx with h | h | h | h
      · exact .inl h
      · refine .inr (.inl ?_)
        unfold InOld at h ⊢
        simp only [len_st]
        exact h
      · exact .inr (.inr (.inl h))
      · exact .inr (.inr (.inr h))
    · exact ha1

theorem thr_mic {s : CoreS} {cur : List Int} {E F : Int → Prop} (I : Inv s cur oth E F) (hmv : s.moving = true) {loc : Int → Int} (R : Rep s cur oth N hs K loc) (ht : ∀ x ∈ s.t, OkRef s cur oth x) {a : Int} (ha : Looked s cur E a) : ∀ j : Nat, (j : Int) ≤ (headS s.ws a).ptrs →
    ∃ cur' loc', Inv (s.thr a j) cur' oth E F ∧ (∀ x, OkRef s cur oth x → OkRef (s.thr a j) cur' oth x) ∧ (s.thr a j).t = s.t ∧ (s.thr a j).moving = true ∧ Looked (s.thr a j) cur' E a ∧ headS (s.thr a j).ws a = headS s.ws a ∧ (∀ b ∈ cur, b ∈ cur') ∧ Rep (s.thr a j) cur' oth N hs K loc' ∧ Mics oth N hs K s cur loc (s.thr a j) cur' loc'
  | 0, _ => ⟨cur, loc, I, fun _ h => h, rfl, hmv, ha, rfl, fun _ h => h, R, .refl⟩
  | j + 1, hj => by
    obtain ⟨c1, l1, I1, k1, q1, q2, q3, q4, q5, R1, C1⟩ := thr_mic I hmv R ht ha j (by omega)
    obtain ⟨c2, l2, I2, k2, w1, w2, w3, w4, w5, R2, C2⟩ := thrOne_mic I1 q2 R1 (fun x hx => k1 x (ht x (by rw [← q1]; exact hx))) q3 (k := j) (by rw [q4]; omega)
    exact ⟨c2, l2, I2, fun x hx => k2 x (k1 x hx), w1.trans q1, w2, w3, w4.trans q4, fun b hb => w5 b (q5 b hb), R2, C1.trans C2⟩

theorem look_mic {s : CoreS} {cur : List Int} {E F : Int → Prop} (I : Inv s cur oth E F) (hmv : s.moving = true) {loc : Int → Int} (R : Rep s cur oth N hs K loc) (ht : ∀ x ∈ s.t, OkRef s cur oth x) {a : Int} (ha : Looked s cur E a) {cur' : List Int} (J : Inv (s.through a) cur' oth E F) : ∃ loc', Rep (s.through a) cur' oth N hs K loc' ∧ Mics oth N hs K s cur loc (s.through a) cur' loc' := by
  have hp : ((s.ptrsOf a : Nat) : Int) = (headS s.ws a).ptrs := by
    have := (words_bounds s.ws a).2.2.2.1
    unfold CoreS.ptrsOf
    omega
  obtain ⟨c1, l1, I1, k1, q1, q2, q3, q4, q5, R1, C1⟩ := thr_mic I hmv R ht ha (s.ptrsOf a) (by omega)
  unfold CoreS.through at J ⊢
  by_cases hy : s.thrYoung a (s.ptrsOf a) = true
  · rw [if_pos hy] at J ⊢
    rcases q3 with hc | ⟨ho, _⟩
    · rw [note_young I1 hc] at J ⊢
      obtain ⟨rfl, _⟩ := I1.uniq J
      exact ⟨l1, R1, C1⟩
    · have ht1 : ∀ x ∈ (s.thr a (s.ptrsOf a)).t, OkRef (s.thr a (s.ptrsOf a)) c1 oth x := fun x hx => k1 x (ht x (by rw [← q1]; exact hx))
      have R2 := note_rep I1 R1 ht1 ho
      obtain ⟨rfl, _⟩ := (note_inv I1 ho).1.uniq J
      exact ⟨l1, R2, C1.more (.note ⟨q2, R1, ht1, E, F, I1⟩ ho)⟩
  · rw [if_neg hy] at J ⊢
    obtain ⟨rfl, _⟩ := I1.uniq J
    exact ⟨l1, R1, C1⟩

theorem noted_mic {s : CoreS} {cur cur' : List Int} {E F E' F' : Int → Prop} (I : Inv s cur oth E F) (hmv : s.moving = true) {loc : Int → Int} (R : Rep s cur oth N hs K loc) (ht : HdlIn s cur) {a : Int} (J : Inv (s.notedS a) cur' oth E' F') : ∃ loc', Rep (s.notedS a) cur' oth N hs K loc' ∧ Mics oth N hs K s cur loc (s.notedS a) cur' loc' := by
  unfold CoreS.notedS at J ⊢
  by_cases hq : s.isNoted a = true
  · rw [if_pos hq] at J ⊢
    have ha : (s.o.sizeAt a).isSome = true := by
      unfold CoreS.isNoted at hq
      rw [Bool.and_eq_true] at hq
      exact hq.1
    obtain ⟨I1, u1, u2, u3, u4, u5, u6⟩ := unnote_inv (E' := fun b => E b ∨ b = a) (F' := F) I ha (fun b h => .inl h) (.inr rfl) (fun _ _ h => h)
    have hL : Looked (s.unnote a) cur (fun b => E b ∨ b = a) a := .inr ⟨ha, .inr rfl⟩
    obtain ⟨c1, L⟩ := look_inv I1 (show (s.unnote a).moving = true from hmv) hL
    obtain ⟨rfl, _⟩ := L.inv.uniq J
    obtain ⟨l1, R1, C1⟩ := look_mic I1 hmv (unnote_rep I R ht.ok ha) (HdlIn.keep I.lay I1.lay ht rfl rfl (fun _ h => h)).ok hL L.inv
    exact ⟨l1, R1, (Mics.one (.unnote ⟨hmv, R, ht.ok, E, F, I⟩ ha)).trans C1⟩
  · rw [if_neg hq] at J ⊢
    obtain ⟨rfl, _⟩ := I.uniq J
    exact ⟨loc, R, .refl⟩

theorem part_mic : ∀ (l : List Int) {s : CoreS} {cur cur' : List Int} {loc : Int → Int}, Inv s cur oth (fun b => b ∈ l ∧ (headS s.ws b).noted = true) (fun b => b ∈ l) → s.moving = true → (∀ b ∈ l, (s.o.sizeAt b).isSome = true) → HdlIn s cur → Rep s cur oth N hs K loc → Inv (s.partS l) cur' oth NoI NoI →
    ∃ loc', Rep (s.partS l) cur' oth N hs K loc' ∧ Mics oth N hs K s cur loc (s.partS l) cur' loc'
  | [], s, cur, cur', loc, I, _, _, _, R, J => by
    have J' : Inv s cur' oth NoI NoI := J
    obtain ⟨rfl, _⟩ := I.uniq J'
    exact ⟨loc, R, .refl⟩
  | a :: l, s, cur, cur', loc, I, hmv, ho, ht, R, J => by
    obtain ⟨hok, c1, I1, M⟩ := noted_inv (a := a) (E' := fun b => b ≠ a ∧ b ∈ l ∧ (headS s.ws b).noted = true) (F' := fun b => b ∈ l) I hmv (fun _ h => h.2)
      (fun b hb h => ⟨hb, (List.mem_cons.1 h.1).resolve_left hb, h.2⟩) (fun b hb h => (List.mem_cons.1 h).resolve_left hb)
    have hds : ∀ b ∈ l, b ≠ a → headS (s.notedS a).ws b = headS s.ws b := fun b hb hba => M.others b hba (.inr (ho b (List.mem_cons_of_mem _ hb)))
    obtain ⟨l1, R1, C1⟩ := noted_mic I hmv R ht I1
    obtain ⟨l2, R2, C2⟩ := part_mic l (s := s.notedS a) (cur := c1) (I1.weak (fun b h => ⟨h.2.1, by rw [hds b h.2.1 h.1]; exact h.2.2⟩) (fun _ h => h)) (M.moving.trans hmv)
      (fun b hb => by rw [M.old b (ho b (List.mem_cons_of_mem _ hb))]; exact ho b (List.mem_cons_of_mem _ hb)) (HdlIn.keep I.lay I1.lay ht M.C M.t M.mono) R1 J
    exact ⟨l2, R2, C1.trans C2⟩

theorem row_mic {s : CoreS} {cur cur' : List Int} (I : Inv s cur oth NoI NoI) (hmv : s.moving = true) {loc : Int → Int} (R : Rep s cur oth N hs K loc) (ht : HdlIn s cur) (J : Inv s.rowS cur' oth NoI NoI) : ∃ loc', Rep s.rowS cur' oth N hs K loc' ∧ Mics oth N hs K s cur loc s.rowS cur' loc' := by
  have I1 : Inv s.unrow cur oth (fun b => b = s.rowHd) NoI := unrow_inv I (fun b h => h.elim) (fun _ => rfl)
  have R1 : Rep s.unrow cur oth N hs K loc := R.other rfl rfl rfl rfl
  have C0 : Mics oth N hs K s cur loc s.unrow cur loc := .one (.other ⟨hmv, R, ht.ok, NoI, NoI, I⟩ rfl rfl rfl rfl rfl rfl rfl rfl rfl rfl rfl rfl)
  unfold CoreS.rowS at J ⊢
  by_cases ha : (s.o.sizeAt s.rowHd).isSome = true
  · rw [if_pos ha] at J ⊢
    have hL : Looked s.unrow cur (fun b => b = s.rowHd) s.rowHd := .inr ⟨ha, rfl⟩
    obtain ⟨c1, L⟩ := look_inv I1 (show s.unrow.moving = true from hmv) hL
    obtain ⟨rfl, _⟩ := L.inv.uniq J
    obtain ⟨l1, R2, C1⟩ := look_mic I1 hmv R1 (HdlIn.keep I.lay I1.lay ht rfl rfl (fun _ h => h)).ok hL L.inv
    exact ⟨l1, R2, C0.trans C1⟩
  · rw [if_neg ha] at J ⊢
    obtain ⟨rfl, _⟩ := I1.uniq J
    exact ⟨loc, R1, C0⟩

theorem scan_mic {s : CoreS} {cur cur' : List Int} (I : Inv s cur oth NoI NoI) (hmv : s.moving = true) (hok : s.scanOk = true) {loc : Int → Int} (R : Rep s cur oth N hs K loc) (ht : HdlIn s cur) (J : Inv s.scanS cur' oth NoI NoI) : ∃ loc', Rep s.scanS cur' oth N hs K loc' ∧ Mics oth N hs K s cur loc s.scanS cur' loc' := by
  obtain ⟨hsc, c1, L, I2, _⟩ := scan_inv I hmv hok
  obtain ⟨rfl, _⟩ := I2.uniq J
  obtain ⟨l1, R1, C1⟩ := look_mic I hmv R ht.ok (E := NoI) (.inl hsc) L.inv
  refine ⟨l1, R1.other rfl rfl rfl rfl, C1.more (.other ⟨L.moving.trans hmv, R1, (HdlIn.keep I.lay L.inv.lay ht L.C L.t L.mono).ok, NoI, NoI, L.inv⟩ rfl rfl rfl rfl rfl rfl rfl rfl rfl rfl rfl rfl)⟩

/-- a bit is a row of turns, or the end -/
theorem step_mic {s : CoreS} {cur : List Int} {loc : Int → Int} (G : Good s cur oth N hs K loc) (hmv : s.moving = true) :
    (s.minB = true ∧ ∃ cur' loc', Good s.minStep cur' oth N hs K loc' ∧ Mics oth N hs K s cur loc s.minStep cur' loc') ∨
    (s.minB = false ∧ s.minStep = s.finishS ∧ s.row = [] ∧ s.r.left = 0 ∧ s.scan = s.y.cf + s.y.cu ∧ Good s.finishS cur [] N hs (fun n => K n ∧ loc n ∉ oth) loc) := by
  obtain ⟨I, ht, R⟩ := G
  have key : ∀ {s' : CoreS} {cur' : List Int}, Inv s' cur' oth NoI NoI → (∀ b ∈ cur, b ∈ cur') → Kept s s' → (∃ loc', Rep s' cur' oth N hs K loc' ∧ Mics oth N hs K s cur loc s' cur' loc') → ∃ cur' loc', Good s' cur' oth N hs K loc' ∧ Mics oth N hs K s cur loc s' cur' loc' := by
    rintro s' cur' J m k ⟨l', R', C'⟩
    exact ⟨cur', l', ⟨J, HdlIn.keep I.lay J.lay ht k.C k.t m, R'⟩, C'⟩
  have hmv0 : ¬ s.moving = false := by rw [hmv]; decide
  show (stepBOf s.which = true ∧ ∃ cur' loc', Good (s.stepOf s.which) cur' oth N hs K loc' ∧ Mics oth N hs K s cur loc (s.stepOf s.which) cur' loc') ∨ (stepBOf s.which = false ∧ s.stepOf s.which = s.finishS ∧ _)
  unfold CoreS.which
  rw [if_neg hmv0]
  by_cases hr : 0 < s.row.length
  · rw [if_pos hr]
    left
    obtain ⟨h1, c1, I2, m, q1, q2, q3, q4, q5, q6⟩ := row_inv I hmv
    exact ⟨rfl, key I2 m ⟨q1, q2, q3, q4⟩ (row_mic I hmv R ht I2)⟩
  · rw [if_neg hr]
    cases hx : s.r.tb.list with
    | cons x l =>
      left
      obtain ⟨h1, c1, I2, m, k, q5, q6⟩ := buf_inv I hmv hx
      have IP := popBuf_inv I hmv hx
      refine ⟨rfl, key I2 m k ?_⟩
      obtain ⟨l1, R1, C1⟩ := noted_mic IP hmv (R.other (s' := s.popBuf) rfl rfl rfl rfl) (HdlIn.keep I.lay IP.lay ht rfl rfl (fun _ h => h)) I2
      exact ⟨l1, R1, (Mics.one (.other (s' := s.popBuf) ⟨hmv, R, ht.ok, NoI, NoI, I⟩ rfl rfl rfl rfl rfl rfl rfl rfl rfl rfl rfl rfl)).trans C1⟩
    | nil =>
      cases hf : s.r.tc.first with
      | some n =>
        left
        obtain ⟨h1, c1, I2, m, k, q5, q6⟩ := card_inv I hmv hx n
        obtain ⟨IP, ho⟩ := popCard_inv I hmv hx n
        refine ⟨rfl, key I2 m k ?_⟩
        obtain ⟨l1, R1, C1⟩ := part_mic (s.cardStarts n) IP hmv ho (HdlIn.keep I.lay IP.lay ht rfl rfl (fun _ h => h)) (R.other (s' := s.popCard n) rfl rfl rfl rfl) I2
        exact ⟨l1, R1, (Mics.one (.other (s' := s.popCard n) ⟨hmv, R, ht.ok, NoI, NoI, I⟩ rfl rfl rfl rfl rfl rfl rfl rfl rfl rfl rfl rfl)).trans C1⟩
      | none =>
        by_cases hs' : s.scanOk = true
        · simp only [hs', if_true]
          left
          obtain ⟨hsc, c1, L, I2, _⟩ := scan_inv I hmv hs'
          exact ⟨rfl, key I2 L.mono ⟨L.C, L.t, L.parity, L.phase⟩ (scan_mic I hmv hs' R ht I2)⟩
        · simp only [hs']
          right
          have J := finish_inv I hmv (by omega) hx hf hs'
          refine ⟨rfl, rfl, List.length_eq_zero_iff.1 (by omega), J.refs.tn rfl, ?_, ⟨J, ht, finish_rep I J R ht⟩⟩
          rcases (I.hds.sc hmv).2 with h | h
          · exact h
          · exfalso
            have h1 := I.lay.curIn h
            have h2 := (words_bounds s.ws s.scan).1
            unfold CoreS.scanOk at hs'
            simp only [decide_eq_true_eq] at hs'
            omega

theorem handles_mic {s : CoreS} {cur : List Int} (I : Inv s cur oth NoI NoI) (hmv : s.moving = true) (ht : ∀ x ∈ s.t, OkRef s cur oth x) {loc : Int → Int} (R : Rep s cur oth N hs K loc) : ∀ k : Nat, k ≤ s.t.length →
    ∃ cur' loc', Inv (s.handles s.t k) cur' oth NoI NoI ∧ Rep (s.handles s.t k) cur' oth N hs K loc' ∧ Mics oth N hs K s cur loc (s.handles s.t k) cur' loc'
  | 0, _ => ⟨cur, loc, I, R, .refl⟩
  | k + 1, hk => by
    obtain ⟨c0, l0, I0, R0, C0⟩ := handles_mic I hmv ht R k (by omega)
    obtain ⟨c1, I1, m1, a1, a2, a3, a4, a5, a6, a7, a8, a9⟩ := handles_inv I hmv ht k (by omega)
    obtain ⟨rfl, _⟩ := I0.uniq I1
    have lift : ∀ {x : Int}, OkRef s cur oth x → OkRef (s.handles s.t k) c1 oth x := by
      intro x h
      rcases h with h | h | h | h
      · exact .inl h
      · exact .inr (.inl (by unfold InOld at h ⊢; rw [a1, a5]; exact h))
      · exact .inr (.inr (.inl (m1 x h)))
      · exact .inr (.inr (.inr h))
    have ht1 : ∀ x ∈ (s.handles s.t k).t, OkRef (s.handles s.t k) c1 oth x := by
      intro x hx
      obtain ⟨j, hj, rfl⟩ := List.getElem_of_mem hx
      have e : (s.handles s.t k).t[j] = (s.handles s.t k).t.getD j 0 := by rw [List.getD_eq_getElem?_getD, List.getElem?_eq_getElem hj]; rfl
      rw [e]
      by_cases hjk : j < k
      · exact (a7 j hjk).okRef
      · rw [a8 j (by omega)]
        exact lift (ht _ (mem_getD (by omega)))
    have hsrc : Src (s.handles s.t k) c1 (s.t.getD k 0) := by
      left
      rw [← a8 k (Nat.le_refl _)]
      exact mem_getD (by omega)
    obtain ⟨c2, l2, I2, M, R2, hnow, C2⟩ := move_mic I1 a4 R0 ht1 (lift (ht _ (mem_getD (l := s.t) (j := k) (by omega)))) hsrc
    have hg := fun j => tblSet_get (l := ((s.handles s.t k).move (s.t.getD k 0)).t) (i := k) (v := (s.handles s.t k).moveV (s.t.getD k 0)) (by rw [M.t]; omega) j
    have hnw : ∀ j : Nat, j < ((s.handles s.t k).move (s.t.getD k 0)).t.length → ((s.handles s.t k).move (s.t.getD k 0)).now ((tblSet ((s.handles s.t k).move (s.t.getD k 0)).t k ((s.handles s.t k).moveV (s.t.getD k 0))).getD j 0) = ((s.handles s.t k).move (s.t.getD k 0)).now (((s.handles s.t k).move (s.t.getD k 0)).t.getD j 0) := by
      intro j hj
      rw [hg j]
      by_cases e : j = k
      · rw [if_pos e, e, I2.lay.now_stay M.res, M.t, a8 k (Nat.le_refl _), hnow]
      · rw [if_neg e]
    have ht2 : ∀ x ∈ ((s.handles s.t k).move (s.t.getD k 0)).t, OkRef ((s.handles s.t k).move (s.t.getD k 0)) c2 oth x := by
      intro x hx
      rw [M.t] at hx
      exact M.okRef (ht1 x hx)
    exact ⟨c2, l2, I2.setT _, R2.setT _ (tblSet_len ..) hnw, C0.trans (C2.more (.hdl ⟨M.moving.trans a4, R2, ht2, NoI, NoI, I2⟩ (tblSet_len ..) hnw))⟩

/-- the start of a cycle: the halves change places, then a row of turns -/
theorem start_mic {s : CoreS} {cur : List Int} {loc : Int → Int} (G : Good s cur oth N hs K loc) (hmv : s.moving = false) :
    oth = [] ∧ s.startOk = true ∧ Inv s.begun [] cur NoI NoI ∧ Rep s.begun [] cur N hs K loc ∧ ∃ cur' loc', Good s.startS cur' cur N hs K loc' ∧ Mics cur N hs K s.begun [] loc s.startS cur' loc' := by
  obtain ⟨I, ht, R⟩ := G
  obtain ⟨_, cJ, oJ, J, hJ, _⟩ := start_inv I ht
  obtain ⟨r1, r2, r3, r4, r5⟩ := rest_facts I hmv
  have e0 : s.startOk = true := by simp [CoreS.startOk, hmv, r5]
  have e1 : s.startS = s.begun.handles s.t s.t.length := by unfold CoreS.startS; rw [if_pos e0]
  have B := begun_inv I hmv
  subst r1
  have ht2 : ∀ x ∈ s.begun.t, OkRef s.begun [] cur x := by
    intro x hx
    rcases ht x hx with h | h | h
    · exact .inl h
    · exact .inr (.inl h)
    · exact .inr (.inr (.inr h))
  have RB := begun_rep I hmv R ht
  obtain ⟨c2, l2, I2, R2, C2⟩ := handles_mic B rfl ht2 RB s.t.length (Nat.le_refl _)
  refine ⟨rfl, e0, B, RB, ?_⟩
  rw [e1] at J hJ ⊢
  have I2' : Inv (s.begun.handles s.t s.t.length) c2 cur NoI NoI := I2
  obtain ⟨rfl, rfl⟩ := J.uniq I2'
  exact ⟨_, l2, ⟨J, hJ, R2⟩, C2⟩
end

end Go.Proofs.YtjjdjipohifgbaaGreat

/- A core that is as it should be: what its calls answer, and that they keep it so. Condition: it is as it should be. -/
namespace Go.Proofs.YtjjdjipohifgbaaGreat
open Go.RowKit

/-- as it should be -/
def CoreS.Sane (s : CoreS) : Prop := ∃ cur oth N hs K loc, ∃ m : Int, Good s cur oth N hs K loc ∧ 0 < m ∧ ∀ n, K n → n < m

theorem sane_new {c : Cfg} (h : c.Fits) : (coreNew c).Sane := ⟨_, _, _, _, _, _, 1, good_new h, by omega, fun _ h => h.elim⟩
theorem CoreS.Sane.make {s : CoreS} (Z : s.Sane) (i p c : Int) : (s.make i p c).Sane := by
  obtain ⟨cur, oth, N, hs, K, loc, m, G, h0, hm⟩ := Z
  unfold CoreS.make
  split
  · rename_i he
    obtain ⟨l1, G1⟩ := good_made G he (m := m) (by omega) (fun h => by have := hm m h; omega)
    refine ⟨_, _, _, _, _, l1, m + 1, G1, by omega, ?_⟩
    rintro n (rfl | h)
    · omega
    · have := hm n h; omega
  · exact ⟨cur, oth, N, hs, K, loc, m, G, h0, hm⟩
theorem CoreS.Sane.got {s : CoreS} (Z : s.Sane) (a b c : Int) : (s.gotM a b c).Sane := by
  obtain ⟨cur, oth, N, hs, K, loc, m, G, h0, hm⟩ := Z
  obtain ⟨c1, l1, G1⟩ := good_got G a b c
  exact ⟨_, _, _, _, _, l1, m, G1, h0, hm⟩
theorem CoreS.Sane.set {s : CoreS} (Z : s.Sane) (i n k : Int) : (s.set i n k).Sane := by
  obtain ⟨cur, oth, N, hs, K, loc, m, G, h0, hm⟩ := Z
  exact ⟨_, _, _, _, _, _, m, good_set G i n k, h0, hm⟩
theorem CoreS.Sane.write {s : CoreS} (Z : s.Sane) (i n v : Int) : ({ s with ws := s.writeW i n v } : CoreS).Sane := by
  obtain ⟨cur, oth, N, hs, K, loc, m, G, h0, hm⟩ := Z
  exact ⟨_, _, _, _, _, _, m, good_write G i n v, h0, hm⟩
theorem CoreS.Sane.clear {s : CoreS} (Z : s.Sane) (i : Int) : ({ s with t := tblSet s.t i 0 } : CoreS).Sane := by
  obtain ⟨cur, oth, N, hs, K, loc, m, G, h0, hm⟩ := Z
  exact ⟨_, _, _, _, _, _, m, good_clear G i, h0, hm⟩
theorem CoreS.Sane.copy {s : CoreS} (Z : s.Sane) (i j : Int) : ({ s with t := s.copyT i j } : CoreS).Sane := by
  obtain ⟨cur, oth, N, hs, K, loc, m, G, h0, hm⟩ := Z
  exact ⟨_, _, _, _, _, _, m, good_copy G i j, h0, hm⟩
theorem CoreS.Sane.minStep {s : CoreS} (Z : s.Sane) : s.minStep.Sane := by
  obtain ⟨cur, oth, N, hs, K, loc, m, G, h0, hm⟩ := Z
  obtain ⟨c1, o1, K1, l1, G1, hk⟩ := good_step G
  exact ⟨_, _, _, _, _, l1, m, G1, h0, fun n h => hm n (hk n h)⟩
theorem CoreS.Sane.startS {s : CoreS} (Z : s.Sane) : s.startS.Sane := by
  obtain ⟨cur, oth, N, hs, K, loc, m, G, h0, hm⟩ := Z
  obtain ⟨c1, o1, l1, G1⟩ := good_start G
  exact ⟨_, _, _, _, _, l1, m, G1, h0, hm⟩
theorem CoreS.Sane.inv {s : CoreS} (Z : s.Sane) : ∃ cur oth, Inv s cur oth NoI NoI ∧ HdlIn s cur := by
  obtain ⟨cur, oth, N, hs, K, loc, m, G, h0, hm⟩ := Z
  exact ⟨cur, oth, G.inv, G.hdl⟩
theorem CoreS.Sane.stepOk {s : CoreS} (Z : s.Sane) : s.StepOk := by
  obtain ⟨cur, oth, I, _⟩ := Z.inv
  exact (step_inv I).1
theorem CoreS.Sane.hdlOk {s : CoreS} (Z : s.Sane) : s.HdlOk := by
  obtain ⟨cur, oth, I, H⟩ := Z.inv
  exact (start_inv I H).1
theorem CoreS.Sane.copied {s : CoreS} (Z : s.Sane) : 0 ≤ s.copied ∧ s.copied ≤ 4096 ∧ (s.parity = 0 ∨ s.parity = 1) ∧ s.C.Fits := by
  obtain ⟨cur, oth, I, _⟩ := Z.inv
  obtain ⟨n1, n2, n3, n4, n5, n6, n7, n8, n9, n10⟩ := I.lay.nums
  have h1 := goneW_le I.lay.ro
  have h2 := I.hds.cp
  exact ⟨by omega, by omega, I.hds.par, I.lay.cf⟩

theorem sane_make_call (pc : Nat) (L : CoreL) {s : CoreS} (Z : s.Sane) (i p c : Int) (w : World) (h : Hp) (hi : In w h) (hc : CoreH pc L s h) :
    Calls Tryz.prog 12 #[ptr pc, .int .i64 i, .int .i64 p, .int .i64 c] w fun e w' => e = .returned (.int .i64 (s.makeE i p c)) ∧ ∃ h', CoreH pc L (s.make i p c) h' ∧ Upd h h' w w' := by
  obtain ⟨c1, c2, c3, c4⟩ := Z.copied
  exact core_make pc L s i p c w h hi hc c4.l1 c4.l2 c1 (by omega) c3

theorem sane_get_call (pc : Nat) (L : CoreL) {s : CoreS} (Z : s.Sane) (a b c : Int) (w : World) (h : Hp) (hi : In w h) (hc : CoreH pc L s h) :
    Calls Tryz.prog 29 #[ptr pc, .int .i64 a, .int .i64 b, .int .i64 c] w fun e w' => e = .returned (.int .i64 (s.refE b c a)) ∧ ∃ h', CoreH pc L (s.gotM a b c) h' ∧ Upd h h' w w' := by
  by_cases he : s.refE b c a = 0
  · obtain ⟨cur, oth, N, hs, K, loc, m, G, h0, hm⟩ := Z
    have e1 : s.gotM a b c = { s.fetch (refS s.ws (tblGet s.t b) c) with t := tblSet (s.fetch (refS s.ws (tblGet s.t b) c)).t a (s.moveV (refS s.ws (tblGet s.t b) c)) } := by unfold CoreS.gotM; rw [if_pos he]
    have he' := he
    rw [G.refE] at he'
    obtain ⟨z1, z2, z3⟩ := refEG_zero.1 he'
    rw [← G.objE] at z1
    obtain ⟨hk, hg, ho, e0, e2, e3⟩ := G.obj z1
    obtain ⟨c0, c1⟩ := of_decide_eq_true z3
    have hI : IsO s cur oth (tblGet s.t b) := ho.elim .inl (fun h => .inr (.inr h))
    have hpn : (headS s.ws (tblGet s.t b)).ptrs = ((N (tblGet hs b)).ptrs.length : Int) := by rw [← e0]; exact e3
    have hr := G.inv.refOk hI c0 (by rw [hpn]; exact c1)
    have hrI : I64 (refS s.ws (tblGet s.t b) c) := I64.wrap _
    obtain ⟨c2, l2, G2, M, _⟩ := good_move G hr
    have hvI : I64 (s.moveV (refS s.ws (tblGet s.t b) c)) := by
      rcases M.res with h | h | h
      · rw [h]; exact I64.small (by decide) (by decide)
      · obtain ⟨n1, n2, n3, n4, n5, _⟩ := G2.inv.lay.nums
        have h1 := h.1
        have h2 := h.2
        exact ⟨by omega, by omega⟩
      · obtain ⟨p1, p2, p3, p4⟩ := G2.inv.lay.pos (.inl h)
        exact ⟨by omega, by omega⟩
    have hto : s.y.isFrom (refS s.ws (tblGet s.t b) c) = true → s.now (refS s.ws (tblGet s.t b) c) = refS s.ws (tblGet s.t b) c → I64 (s.mvTo (refS s.ws (tblGet s.t b) c)) := by
      intro f1 f2
      have h0 : ¬ (refS s.ws (tblGet s.t b) c = 0 ∨ s.y.isFrom (refS s.ws (tblGet s.t b) c) = false) := by
        rintro (h | h)
        · rcases hr with h' | h' | h' | h'
          · rw [h', G.inv.lay.from_old (.inr rfl)] at f1; cases f1
          · rw [G.inv.lay.from_old (.inl h')] at f1; cases f1
          · rw [G.inv.lay.from_not (.inl h')] at f1; cases f1
          · exact G.inv.lay.not_zero (.inr (.inl h')) h
        · rw [h] at f1; cases f1
      have : s.moveV (refS s.ws (tblGet s.t b) c) = s.mvTo (refS s.ws (tblGet s.t b) c) := by rw [CoreS.moveV, if_neg h0, if_pos f2]
      rw [← this]
      exact hvI
    have hmove : ∀ W h, In W h → CoreH pc L s h → Calls Tryz.prog 53 #[ptr pc, .int .i64 (refS s.ws (tblGet s.t b) c)] W fun e w' => e = .returned (.int .i64 (s.moveV (refS s.ws (tblGet s.t b) c))) ∧ ∃ h', CoreH pc L (s.move (refS s.ws (tblGet s.t b) c)) h' ∧ Upd h h' W w' :=
      fun W h hi hc => core_move pc L s _ W h hi hc hrI G.inv.mv hto
    have hmark : ∀ W h, In W h → CoreH pc L (s.move (refS s.ws (tblGet s.t b) c)) h → Calls Tryz.prog 75 #[ptr pc, .int .i64 (s.moveV (refS s.ws (tblGet s.t b) c))] W fun e w' => e = .returned (.tuple #[]) ∧ ∃ h', CoreH pc L (s.fetch (refS s.ws (tblGet s.t b) c)) h' ∧ Upd h h' W w' :=
      fun W h hi hc => core_mark pc L _ _ W h hi hc hvI G2.inv.hds.par
    have key := core_get pc L s _ _ _ a b c he w h hi hc hvI hmove hmark
    have ht : (s.fetch (refS s.ws (tblGet s.t b) c)).t = s.t := by
      have e4 : (s.fetch (refS s.ws (tblGet s.t b) c)).t = (s.move (refS s.ws (tblGet s.t b) c)).t := by
        unfold CoreS.fetch CoreS.mark
        split <;> rfl
      rw [e4, M.t]
    have e5 : tblErr (s.fetch (refS s.ws (tblGet s.t b) c)).t a = 0 := by
      rw [ht]
      exact tblErr_ok (by rw [G.ok]; exact z2)
    rw [e5] at key
    rw [e1, he]
    exact key
  · have e2 : s.gotM a b c = s := by simp [CoreS.gotM, he]
    rw [e2]
    exact core_getno pc L s a b c he w h hi hc

/-- so many bits -/
def CoreS.minSteps (s : CoreS) : Nat → CoreS
  | 0 => s
  | k + 1 => (s.minSteps k).minStep
theorem CoreS.Sane.minSteps {s : CoreS} (Z : s.Sane) : ∀ k, (s.minSteps k).Sane
  | 0 => Z
  | k + 1 => (Z.minSteps k).minStep

theorem many_leW {words card : Int} (h0 : 0 ≤ words) (h1 : 1 ≤ card) : CardS.many words card ≤ words + 1 := by
  unfold CardS.many
  have h2 : words / card ≤ words := Int.ediv_le_self card h0
  omega
/-- a run ends, and what it comes to -/
theorem CoreS.Sane.run {s : CoreS} (Z : s.Sane) (work : Int) : ∃ s' d', s.runF 40000 0 work = some (s', d') ∧ s.RunOk 40000 0 work := by
  obtain ⟨cur, oth, I, _⟩ := Z.inv
  obtain ⟨n1, n2, n3, n4, n5, n6, n7, n8, n9, n10⟩ := I.lay.nums
  have hb : s.moving = true → s.todo + 2 ≤ 40000 := by
    intro hmv
    have h1 := (todo_bounds I hmv).2
    have h2 := I.rem.tc.2.2.2
    have h3 := many_leW (words := s.C.pages * s.C.page) (card := s.C.card) (by omega) I.lay.cf.c1
    have h4 := I.rem.bm.2.2.2
    have h5 := I.lay.cf.b2
    omega
  obtain ⟨s', d', h⟩ := run_some 40000 I 0 work hb (by omega)
  exact ⟨s', d', h, run_ok 40000 I 0 work (fun hmv => by have := hb hmv; omega) (fun _ => by omega)⟩

end Go.Proofs.YtjjdjipohifgbaaGreat

/- What Stats, Start and Step answer of a core that is as it should be. Condition: it is. -/
namespace Go.Proofs.YtjjdjipohifgbaaGreat
open Go.RowKit

def CoreS.statsS (s : CoreS) : StatS := s.stats s.o.used
theorem sane_stats_call (pc : Nat) (L : CoreL) {s : CoreS} (Z : s.Sane) (w : World) (h : Hp) (hi : In w h) (hc : CoreH pc L s h) :
    Calls Tryz.prog 17 #[ptr pc] w fun e w' => e = .returned (.agg (statCells s.statsS)) ∧ ∃ h', CoreH pc L s h' ∧ Upd h h' w w' := by
  obtain ⟨cur, oth, I, _⟩ := Z.inv
  refine Calls.mono (core_statsof pc L s s.o.used w h hi hc (fun W h hW hm => mature_used L.po s.o W h hW hm I.lay.ov.ok)) fun e w' hh => ?_
  exact ⟨hh.1, h, hc, hh.2⟩
theorem sane_start_call (pc : Nat) (L : CoreL) {s : CoreS} (Z : s.Sane) (w : World) (h : Hp) (hi : In w h) (hc : CoreH pc L s h) :
    Calls Tryz.prog 15 #[ptr pc] w fun e w' => e = .returned (.bool s.startOk) ∧ ∃ h', CoreH pc L s.startS h' ∧ Upd h h' w w' := minor_start pc L s w h hi hc Z.hdlOk
theorem sane_step_call (pc : Nat) (L : CoreL) {s : CoreS} (Z : s.Sane) (w : World) (h : Hp) (hi : In w h) (hc : CoreH pc L s h) :
    Calls Tryz.prog 16 #[ptr pc] w fun e w' => e = .returned (.tuple #[.int .i64 s.minN, .bool s.minB]) ∧ ∃ h', CoreH pc L s.minStep h' ∧ Upd h h' w w' := minor_step pc L s w h hi hc Z.stepOk
theorem stat_allocs (a0 a1 a2 a3 a4 a5 a6 a7 : Int) (w : World) :
    Sem.run Tryz.prog (Instr.field 44 (.agg #[.int .i64 a0, .int .i64 a1, .int .i64 a2, .int .i64 a3, .int .i64 a4, .int .i64 a5, .int .i64 a6, .int .i64 a7]) 0) w = .ok (.int .i64 a0) w := by
  simp [go_sem, Instr.field, asAgg, Tryz.underlying44]
theorem stat_words (a0 a1 a2 a3 a4 a5 a6 a7 : Int) (w : World) :
    Sem.run Tryz.prog (Instr.field 44 (.agg #[.int .i64 a0, .int .i64 a1, .int .i64 a2, .int .i64 a3, .int .i64 a4, .int .i64 a5, .int .i64 a6, .int .i64 a7]) 1) w = .ok (.int .i64 a1) w := by
  simp [go_sem, Instr.field, asAgg, Tryz.underlying44]
theorem stat_promoted (a0 a1 a2 a3 a4 a5 a6 a7 : Int) (w : World) :
    Sem.run Tryz.prog (Instr.field 44 (.agg #[.int .i64 a0, .int .i64 a1, .int .i64 a2, .int .i64 a3, .int .i64 a4, .int .i64 a5, .int .i64 a6, .int .i64 a7]) 2) w = .ok (.int .i64 a2) w := by
  simp [go_sem, Instr.field, asAgg, Tryz.underlying44]
theorem stat_minors (a0 a1 a2 a3 a4 a5 a6 a7 : Int) (w : World) :
    Sem.run Tryz.prog (Instr.field 44 (.agg #[.int .i64 a0, .int .i64 a1, .int .i64 a2, .int .i64 a3, .int .i64 a4, .int .i64 a5, .int .i64 a6, .int .i64 a7]) 3) w = .ok (.int .i64 a3) w := by
  simp [go_sem, Instr.field, asAgg, Tryz.underlying44]
theorem stat_majors (a0 a1 a2 a3 a4 a5 a6 a7 : Int) (w : World) :
    Sem.run Tryz.prog (Instr.field 44 (.agg #[.int .i64 a0, .int .i64 a1, .int .i64 a2, .int .i64 a3, .int .i64 a4, .int .i64 a5, .int .i64 a6, .int .i64 a7]) 4) w = .ok (.int .i64 a4) w := by
  simp [go_sem, Instr.field, asAgg, Tryz.underlying44]
theorem stat_young (a0 a1 a2 a3 a4 a5 a6 a7 : Int) (w : World) :
    Sem.run Tryz.prog (Instr.field 44 (.agg #[.int .i64 a0, .int .i64 a1, .int .i64 a2, .int .i64 a3, .int .i64 a4, .int .i64 a5, .int .i64 a6, .int .i64 a7]) 5) w = .ok (.int .i64 a5) w := by
  simp [go_sem, Instr.field, asAgg, Tryz.underlying44]
theorem stat_old (a0 a1 a2 a3 a4 a5 a6 a7 : Int) (w : World) :
    Sem.run Tryz.prog (Instr.field 44 (.agg #[.int .i64 a0, .int .i64 a1, .int .i64 a2, .int .i64 a3, .int .i64 a4, .int .i64 a5, .int .i64 a6, .int .i64 a7]) 6) w = .ok (.int .i64 a6) w := by
  simp [go_sem, Instr.field, asAgg, Tryz.underlying44]
theorem stat_free (a0 a1 a2 a3 a4 a5 a6 a7 : Int) (w : World) :
    Sem.run Tryz.prog (Instr.field 44 (.agg #[.int .i64 a0, .int .i64 a1, .int .i64 a2, .int .i64 a3, .int .i64 a4, .int .i64 a5, .int .i64 a6, .int .i64 a7]) 7) w = .ok (.int .i64 a7) w := by
  simp [go_sem, Instr.field, asAgg, Tryz.underlying44]
end Go.Proofs.YtjjdjipohifgbaaGreat

/- What is shown of a heap, told one after the other, as a loop does. No program in sight. Conditions: a core whose parts fit its configuration. -/
namespace Go.Proofs.YtjjdjipohifgbaaGreat
open Go.RowKit

/-- what was met, and what was told -/
def meetSt (st : List Int × List Int) (x : Int) : List Int × List Int := ((meetL st.1 x).1, st.2 ++ [(meetL st.1 x).2])
theorem meets_fold : ∀ (l met out : List Int), l.foldl meetSt (met, out) = ((meetsL met l).1, out ++ (meetsL met l).2)
  | [], met, out => by simp [meetsL]
  | x :: l, met, out => by
    rw [List.foldl_cons]
    have : meetSt (met, out) x = ((meetL met x).1, out ++ [(meetL met x).2]) := rfl
    rw [this, meets_fold l]
    simp [meetsL]
def tellSt (sz pn : Int → Int) (rf sc : Int → List Int) (st : List Int × List Int) (a : Int) : List Int × List Int := ((meetsL st.1 (rf a)).1, st.2 ++ sz a :: pn a :: ((meetsL st.1 (rf a)).2 ++ sc a))
def tells (sz pn : Int → Int) (rf sc : Int → List Int) : Nat → Nat → List Int × List Int → List Int × List Int
  | 0, _, st => st
  | f + 1, i, st => match st.1[i]? with
    | none => st
    | some a => tells sz pn rf sc f (i + 1) (tellSt sz pn rf sc st a)
theorem tells_eq (sz pn : Int → Int) (rf sc : Int → List Int) : ∀ (f i : Nat) (met out : List Int), (tells sz pn rf sc f i (met, out)).2 = out ++ tellL sz pn rf sc f i met
  | 0, _, met, out => by simp [tells, tellL]
  | f + 1, i, met, out => by
    unfold tells tellL
    show (match met[i]? with | none => (met, out) | some a => tells sz pn rf sc f (i + 1) (tellSt sz pn rf sc (met, out) a)).2 = out ++ _
    cases met[i]? with
    | none => simp
    | some a =>
      simp only
      unfold tellSt
      rw [tells_eq sz pn rf sc f (i + 1)]
      simp

/-- numbers without repetition, below a bound, are few -/
theorem nodup_few : ∀ (n : Nat) (l : List Nat), l.Nodup → (∀ x ∈ l, x < n) → l.length ≤ n
  | 0, l, _, h => by
    cases l with
    | nil => exact Nat.le_refl _
    | cons x l => exact absurd (h x (List.mem_cons_self ..)) (by omega)
  | n + 1, l, hn, h => by
    by_cases hm : n ∈ l
    · have h1 := nodup_few n (l.erase n) (hn.erase n) (fun x hx => by
        have h2 := h x (List.mem_of_mem_erase hx)
        have h3 : x ≠ n := fun e => by
          subst e
          exact (List.Nodup.not_mem_erase hn) hx
        omega)
      rw [List.length_erase_of_mem hm] at h1
      omega
    · have := nodup_few n l hn (fun x hx => by
        have h2 := h x hx
        have h3 : x ≠ n := fun e => hm (e ▸ hx)
        omega)
      omega
theorem nodup_fewI {n : Nat} {l : List Int} (hn : l.Nodup) (h : ∀ x ∈ l, 0 ≤ x ∧ x < n) : l.length ≤ n := by
  have h1 : (l.map Int.toNat).Nodup := by
    induction l with
    | nil => exact List.nodup_nil
    | cons a l ih =>
      obtain ⟨n1, n2⟩ := List.nodup_cons.1 hn
      rw [List.map_cons]
      refine List.nodup_cons.2 ⟨fun hm => ?_, ih n2 (fun x hx => h x (List.mem_cons_of_mem _ hx))⟩
      obtain ⟨b, hb, e⟩ := List.mem_map.1 hm
      have h2 := h a (List.mem_cons_self ..)
      have h3 := h b (List.mem_cons_of_mem _ hb)
      have : a = b := by omega
      exact n1 (this ▸ hb)
  have h2 := nodup_few n (l.map Int.toNat) h1 (fun x hx => by
    obtain ⟨b, hb, rfl⟩ := List.mem_map.1 hx
    have := h b hb
    omega)
  simpa using h2

/-- places that were met are nodes', none twice -/
def MetOk (K : Int → Prop) (loc : Int → Int) (met : List Int) : Prop := met.Nodup ∧ ∀ a ∈ met, ∃ n, K n ∧ loc n = a
theorem MetOk.meet {K : Int → Prop} {loc : Int → Int} {met : List Int} (h : MetOk K loc met) {y : Int} (hy : y = 0 ∨ ∃ n, K n ∧ loc n = y) : MetOk K loc (meetL met y).1 := by
  unfold meetL
  split
  · exact h
  · split
    · exact h
    · rename_i h0 h1
      refine ⟨List.nodup_append.2 ⟨h.1, by simp, ?_⟩, ?_⟩
      · intro a ha b hb
        rw [List.mem_singleton.1 hb]
        intro e
        exact h1 (e ▸ ha)
      · intro a ha
        rcases List.mem_append.1 ha with ha | ha
        · exact h.2 a ha
        · rw [List.mem_singleton.1 ha]
          exact hy.resolve_left h0
theorem MetOk.meets {K : Int → Prop} {loc : Int → Int} : ∀ {l met : List Int}, MetOk K loc met → (∀ y ∈ l, y = 0 ∨ ∃ n, K n ∧ loc n = y) → MetOk K loc (meetsL met l).1
  | [], _, h, _ => h
  | x :: l, _, h, hl => by
    unfold meetsL
    exact MetOk.meets (h.meet (hl x (List.mem_cons_self ..))) (fun y hy => hl y (List.mem_cons_of_mem _ hy))
theorem MetOk.few {s : CoreS} {cur oth : List Int} {N : Int → NodeG} {hs : List Int} {K : Int → Prop} {loc : Int → Int} (G : Good s cur oth N hs K loc) {met : List Int} (h : MetOk K loc met) : met.length ≤ 24577 := by
  obtain ⟨n1, n2, n3, n4, n5, _⟩ := G.inv.lay.nums
  refine nodup_fewI h.1 (fun x hx => ?_)
  obtain ⟨n, hn, rfl⟩ := h.2 x hx
  obtain ⟨p1, p2, _⟩ := G.inv.lay.pos (G.rep.pl n hn).isO
  have := (words_bounds s.ws (loc n)).1
  omega
theorem Good.handleAt {s : CoreS} {cur oth : List Int} {N : Int → NodeG} {hs : List Int} {K : Int → Prop} {loc : Int → Int} (G : Good s cur oth N hs K loc) {x : Int} (hx : x ∈ s.t) : s.now x = 0 ∨ ∃ n, K n ∧ loc n = s.now x := by
  obtain ⟨j, hj, rfl⟩ := List.getElem_of_mem hx
  have hj2 : j < hs.length := by rw [G.rep.hl]; exact hj
  have h1 := G.rep.hv j hj2
  have e : s.t.getD j 0 = s.t[j] := by rw [List.getD_eq_getElem?_getD, List.getElem?_eq_getElem hj]; rfl
  rw [e] at h1
  rw [h1]
  rcases G.rep.hk _ (mem_getD hj2) with h | h
  · left; rw [h, G.rep.l0]
  · exact .inr ⟨_, h, rfl⟩
theorem Good.refAt {s : CoreS} {cur oth : List Int} {N : Int → NodeG} {hs : List Int} {K : Int → Prop} {loc : Int → Int} (G : Good s cur oth N hs K loc) {a : Int} (ha : ∃ n, K n ∧ loc n = a) {k : Int} (k0 : 0 ≤ k) (k1 : k < (headS s.ws a).ptrs) : s.now (refS s.ws a k) = 0 ∨ ∃ n, K n ∧ loc n = s.now (refS s.ws a k) := by
  obtain ⟨n, hn, rfl⟩ := ha
  have hpn := G.rep.pn n hn
  have h1 := G.rep.pt n hn k.toNat (by omega)
  rw [show ((k.toNat : Nat) : Int) = k by omega] at h1
  rw [h1]
  rcases G.rep.pk n hn _ (mem_getD (l := (N n).ptrs) (j := k.toNat) (by omega)) with h | h
  · left; rw [h, G.rep.l0]
  · exact .inr ⟨_, h, rfl⟩
theorem Good.placeI {s : CoreS} {cur oth : List Int} {N : Int → NodeG} {hs : List Int} {K : Int → Prop} {loc : Int → Int} (G : Good s cur oth N hs K loc) {y : Int} (hy : y = 0 ∨ ∃ n, K n ∧ loc n = y) : I64 y := by
  rcases hy with h | ⟨n, hn, rfl⟩
  · rw [h]; exact I64.small (by decide) (by decide)
  · obtain ⟨p1, p2, p3, p4⟩ := G.inv.lay.pos (G.rep.pl n hn).isO
    exact ⟨by omega, by omega⟩

/-! an object, field by field -/
def CoreS.tellK (s : CoreS) (a : Int) (st : List Int × List Int) (k : Nat) : List Int × List Int := if (k : Int) < (headS s.ws a).ptrs then meetSt st (s.now (refS s.ws a k)) else (st.1, st.2 ++ [wrap64 (rd s.ws (a + 2 + k))])
def CoreS.tellF (s : CoreS) (a : Int) (st : List Int × List Int) (k : Nat) : List Int × List Int := (List.range k).foldl (s.tellK a) st
theorem tellF_succ (s : CoreS) (a : Int) (st : List Int × List Int) (k : Nat) : s.tellF a st (k + 1) = s.tellK a (s.tellF a st k) k := by
  unfold CoreS.tellF
  rw [List.range_succ, List.foldl_append]
  rfl
def CoreS.tellAll (s : CoreS) : List Int × List Int → Int → List Int × List Int := tellSt (fun a => (headS s.ws a).size) (fun a => (headS s.ws a).ptrs) s.shRefs s.shScal
theorem tellF_refs (s : CoreS) (a : Int) (st : List Int × List Int) : ∀ k : Nat, (k : Int) ≤ (headS s.ws a).ptrs → s.tellF a st k = ((List.range k).map (fun j : Nat => s.now (refS s.ws a j))).foldl meetSt st
  | 0, _ => rfl
  | k + 1, h => by
    rw [tellF_succ, tellF_refs s a st k (by omega), List.range_succ, List.map_append, List.foldl_append]
    unfold CoreS.tellK
    rw [if_pos (by omega)]
    rfl
theorem tellF_scal (s : CoreS) (a : Int) (st : List Int × List Int) : ∀ k : Nat, s.tellF a st ((headS s.ws a).ptrs.toNat + k) = ((s.tellF a st (headS s.ws a).ptrs.toNat).1, (s.tellF a st (headS s.ws a).ptrs.toNat).2 ++ (List.range k).map (fun j : Nat => wrap64 (rd s.ws (a + 2 + ((headS s.ws a).ptrs + j)))))
  | 0 => by simp
  | k + 1 => by
    have hp := (words_bounds s.ws a).2.2.2.1
    rw [← Nat.add_assoc, tellF_succ, tellF_scal s a st k, List.range_succ, List.map_append]
    unfold CoreS.tellK
    rw [if_neg (by omega)]
    simp only [List.map_cons, List.map_nil, ← List.append_assoc]
    rw [show ((((headS s.ws a).ptrs.toNat + k : Nat) : Int)) = (headS s.ws a).ptrs + k by omega]
theorem tellF_all (s : CoreS) (a : Int) (st : List Int × List Int) : s.tellF a (st.1, st.2 ++ [(headS s.ws a).size, (headS s.ws a).ptrs]) (headS s.ws a).size.toNat = s.tellAll st a := by
  obtain ⟨b1, b2, b3, b4, b5⟩ := words_bounds s.ws a
  have e : (headS s.ws a).size.toNat = (headS s.ws a).ptrs.toNat + ((headS s.ws a).size - (headS s.ws a).ptrs).toNat := by omega
  rw [e, tellF_scal, tellF_refs _ _ _ _ (by omega), meets_fold]
  unfold CoreS.tellAll tellSt CoreS.shRefs CoreS.shScal
  simp

theorem tellK_len (s : CoreS) (a : Int) (st : List Int × List Int) (k : Nat) : (s.tellK a st k).2.length = st.2.length + 1 := by
  unfold CoreS.tellK meetSt
  split <;> simp
theorem tellF_len (s : CoreS) (a : Int) (st : List Int × List Int) : ∀ k : Nat, (s.tellF a st k).2.length = st.2.length + k
  | 0 => rfl
  | k + 1 => by rw [tellF_succ, tellK_len, tellF_len s a st k]; omega
theorem tellK_ok {s : CoreS} {cur oth : List Int} {N : Int → NodeG} {hs : List Int} {K : Int → Prop} {loc : Int → Int} (G : Good s cur oth N hs K loc) {a : Int} (ha : ∃ n, K n ∧ loc n = a) {st : List Int × List Int} (h : MetOk K loc st.1) (k : Nat) : MetOk K loc (s.tellK a st k).1 := by
  unfold CoreS.tellK
  split
  · rename_i hk
    exact h.meet (G.refAt ha (by omega) hk)
  · exact h
theorem tellF_ok {s : CoreS} {cur oth : List Int} {N : Int → NodeG} {hs : List Int} {K : Int → Prop} {loc : Int → Int} (G : Good s cur oth N hs K loc) {a : Int} (ha : ∃ n, K n ∧ loc n = a) {st : List Int × List Int} (h : MetOk K loc st.1) : ∀ k : Nat, MetOk K loc (s.tellF a st k).1
  | 0 => h
  | k + 1 => by rw [tellF_succ]; exact tellK_ok G ha (tellF_ok G ha h k) k

/-- what was met stays where it is -/
theorem meetL_pre (met : List Int) (y : Int) : ∃ r, (meetL met y).1 = met ++ r := by
  unfold meetL
  split
  · exact ⟨[], by simp⟩
  · split
    · exact ⟨[], by simp⟩
    · exact ⟨[y], rfl⟩
theorem tellF_pre (s : CoreS) (a : Int) (st : List Int × List Int) : ∀ k : Nat, ∃ r, (s.tellF a st k).1 = st.1 ++ r
  | 0 => ⟨[], by simp [CoreS.tellF]⟩
  | k + 1 => by
    obtain ⟨r, h⟩ := tellF_pre s a st k
    rw [tellF_succ]
    unfold CoreS.tellK
    split
    · obtain ⟨r2, h2⟩ := meetL_pre (s.tellF a st k).1 (s.now (refS s.ws a k))
      refine ⟨r ++ r2, ?_⟩
      show (meetL (s.tellF a st k).1 _).1 = _
      rw [h2, h, List.append_assoc]
    · exact ⟨r, h⟩

/-! the handles -/
def CoreS.hst (s : CoreS) (k : Nat) : List Int × List Int := ((s.t.take k).map s.now).foldl meetSt ([], [])
theorem hst_succ (s : CoreS) {k : Nat} (h : k < s.t.length) : s.hst (k + 1) = meetSt (s.hst k) (s.now (s.t.getD k 0)) := by
  unfold CoreS.hst
  rw [List.take_succ_eq_append_getElem h, List.map_append, List.foldl_append, List.getD_eq_getElem?_getD, List.getElem?_eq_getElem h]
  rfl
theorem hst_len (s : CoreS) : ∀ k, k ≤ s.t.length → (s.hst k).2.length = k
  | 0, _ => rfl
  | k + 1, h => by
    rw [hst_succ s (by omega)]
    unfold meetSt
    rw [List.length_append, hst_len s k (by omega)]
    rfl
theorem hst_ok {s : CoreS} {cur oth : List Int} {N : Int → NodeG} {hs : List Int} {K : Int → Prop} {loc : Int → Int} (G : Good s cur oth N hs K loc) : ∀ k, k ≤ s.t.length → MetOk K loc (s.hst k).1
  | 0, _ => ⟨List.nodup_nil, fun a ha => by cases ha⟩
  | k + 1, h => by
    rw [hst_succ s (by omega)]
    exact (hst_ok G k (by omega)).meet (G.handleAt (mem_getD (by omega)))
/-- all that is told, behind i objects -/
def CoreS.tst (s : CoreS) (i : Nat) (st : List Int × List Int) : List Int × List Int := tells (fun a => (headS s.ws a).size) (fun a => (headS s.ws a).ptrs) s.shRefs s.shScal (1048576 - i) i st
theorem tst_shown (s : CoreS) : (s.tst 0 (s.hst s.t.length)).2 = s.shown 1048576 := by
  unfold CoreS.tst CoreS.shown shownL CoreS.hst
  rw [List.take_length, meets_fold, tells_eq]
  simp
theorem tst_more (s : CoreS) {i : Nat} {st : List Int × List Int} (hi : i < 1048576) {a : Int} (h : st.1[i]? = some a) : s.tst i st = s.tst (i + 1) (s.tellAll st a) := by
  unfold CoreS.tst
  rw [show 1048576 - i = (1048576 - (i + 1)) + 1 by omega]
  conv => lhs; unfold tells
  rw [h]
  rfl
theorem tst_end (s : CoreS) {i : Nat} {st : List Int × List Int} (h : st.1.length ≤ i) : s.tst i st = st := by
  unfold CoreS.tst
  cases 1048576 - i with
  | zero => rfl
  | succ f =>
    unfold tells
    rw [List.getElem?_eq_none h]
theorem tellAll_ok {s : CoreS} {cur oth : List Int} {N : Int → NodeG} {hs : List Int} {K : Int → Prop} {loc : Int → Int} (G : Good s cur oth N hs K loc) {a : Int} (ha : ∃ n, K n ∧ loc n = a) {st : List Int × List Int} (h : MetOk K loc st.1) : MetOk K loc (s.tellAll st a).1 := by
  rw [← tellF_all]
  exact tellF_ok G ha (st := (st.1, st.2 ++ [(headS s.ws a).size, (headS s.ws a).ptrs])) h _
theorem tellAll_len (s : CoreS) (a : Int) (st : List Int × List Int) : (s.tellAll st a).2.length ≤ st.2.length + 66 := by
  have := (words_bounds s.ws a).2.1
  have h3 := (words_bounds s.ws a).2.2.1
  rw [← tellF_all, tellF_len]
  simp only [List.length_append, List.length_cons, List.length_nil]
  omega

end Go.Proofs.YtjjdjipohifgbaaGreat
