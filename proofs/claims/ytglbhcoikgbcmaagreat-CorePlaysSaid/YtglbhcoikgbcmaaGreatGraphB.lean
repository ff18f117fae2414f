/- Each entry does to a core without cycles what it does to its graph. No program in sight. Conditions: the core is fine. -/
import Derived.Test.YtglbhcoikgbcmaaGreatRows
import Derived.Test.YtglbhcoikgbcmaaGreatGraph
set_option linter.unusedVariables false
set_option linter.unusedSimpArgs false
namespace Go.Proofs.YtglbhcoikgbcmaaGreat
open Go.RowKit

theorem rd_append {l : List Int} {x n : Int} (h0 : 0 ≤ n) (h1 : n < l.length) : rd (l ++ [x]) n = rd l n := by
  unfold rd
  rw [if_pos h0, if_pos h0]
  have : n.toNat < l.length := by omega
  simp [List.getD, List.getElem?_append, this]
theorem rd_last (l : List Int) (x : Int) : rd (l ++ [x]) l.length = x := by
  unfold rd
  rw [if_pos (by omega)]
  simp [List.getD]
theorem rd_replicate (n : Nat) (j : Int) : rd (List.replicate n 0) j = 0 := by
  unfold rd
  split
  · simp only [List.getD, List.getElem?_replicate]
    split <;> rfl
  · rfl
theorem getD_append_left {α : Type} {l : List α} {x d : α} {n : Nat} (h : n < l.length) : (l ++ [x]).getD n d = l.getD n d := by
  simp [List.getD, List.getElem?_append, h]
theorem getD_append_last {α : Type} {l : List α} {x d : α} : (l ++ [x]).getD l.length d = x := by simp [List.getD]

theorem Rel.make {s s' : CoreS} {g : GraphS} {loc : List Int} (r : Rel s g loc) (f : s.Fine) {a p c : Int} (hs : s.shapeOk p c = true) (m : Made s a p c s') :
    Rel s' (g.make a p c) (loc ++ [1 + s.y.u0]) := by
  obtain ⟨p0, c0, pc, l64⟩ := f.shape hs
  have hu := f.u0
  have hroom := m.room
  have hlen : (g.make a p c).nodes.length = g.nodes.length + 1 := by simp [GraphS.make]
  have hold : ∀ n : Int, 0 ≤ n → n < g.nodes.length → rd (loc ++ [1 + s.y.u0]) n = rd loc n := fun n h0 h1 => rd_append h0 (by rw [r.ll]; exact h1)
  have hnew : rd (loc ++ [1 + s.y.u0]) g.nodes.length = 1 + s.y.u0 := by rw [← r.ll]; exact rd_last ..
  have hl1 := r.l1
  have h0 : rd (loc ++ [1 + s.y.u0]) 0 = 0 := by rw [hold 0 (by omega) (by omega)]; exact r.l0
  have hrd : ∀ j, j < 1 + s.y.u0 → rd s'.ws j = rd s.ws j := fun j hj => by rw [m.mem, if_neg (by omega), if_neg (by omega), if_neg (by omega)]
  have hn1 : ∀ n : Nat, n < g.nodes.length → (g.make a p c).nodes.getD n nd0 = g.nodes.getD n nd0 := fun n hn => getD_append_left hn
  have hn2 : (g.make a p c).nodes.getD g.nodes.length nd0 = ⟨List.replicate p.toNat 0, List.replicate c.toNat 0⟩ := getD_append_last
  have hy : s'.y.u0 = s.y.u0 + (p + c + 2) := by rw [m.y]
  have hC : s'.C = s.C := m.C
  refine ⟨by rw [hlen]; simp [r.ll], by omega, h0, ?_, ?_, by rw [hC]; exact r.lg, ?_, ?_⟩
  · rw [m.t]
    show tblSet s.t a (1 + s.y.u0) = (tblSet g.hs a g.nodes.length).map (rd (loc ++ [1 + s.y.u0]))
    have e : g.hs.map (rd (loc ++ [1 + s.y.u0])) = g.hs.map (rd loc) := List.map_congr_left fun x hx => hold x (r.hv x hx).1 (r.hv x hx).2
    unfold tblSet
    rw [r.ok]
    split
    · rw [List.map_set, hnew, e, r.hs]
    · rw [e, r.hs]
  · intro x hx
    rw [hlen]
    have hx' : x ∈ tblSet g.hs a g.nodes.length := hx
    unfold tblSet at hx'
    split at hx'
    · rcases List.mem_or_eq_of_mem_set hx' with h | h
      · have := r.hv x h
        omega
      · omega
    · have := r.hv x hx'
      omega
  · intro n n0 n1
    rw [hlen] at n1
    by_cases hn : n < g.nodes.length
    · have hob := r.ob n n0 hn
      rw [hn1 n hn, hold n (by omega) (by omega)]
      have w := (g.nodes.getD n nd0).wd_pos
      have o2 := hob.o2
      refine ⟨hob.o1, by rw [hy]; omega, by rw [hC]; exact hob.sz, ?_, ?_, ?_⟩
      · rw [hrd _ (by omega)]
        exact hob.hd
      · intro j hj
        have := hob.pt j hj
        rw [hrd _ (by unfold NodeS.wd at o2; omega), hold _ this.2.1 this.2.2, hlen]
        exact ⟨this.1, this.2.1, by omega⟩
      · intro j hj
        rw [hrd _ (by unfold NodeS.wd at o2; omega)]
        exact hob.sc j hj
    · have en : n = g.nodes.length := by omega
      subst en
      rw [hn2, hnew]
      have e1 : ((List.replicate p.toNat (0 : Int)).length : Int) = p := by simp; omega
      have e2 : ((List.replicate c.toNat (0 : Int)).length : Int) = c := by simp; omega
      refine ⟨by omega, ?_, ?_, ?_, ?_, ?_⟩
      · show 1 + s.y.u0 + (((List.replicate p.toNat (0 : Int)).length : Int) + (List.replicate c.toNat (0 : Int)).length + 2) ≤ _
        rw [e1, e2, hy]
        omega
      · show ((List.replicate p.toNat (0 : Int)).length : Int) + (List.replicate c.toNat (0 : Int)).length ≤ _
        rw [e1, e2, hC]
        exact pc
      · show rd s'.ws _ = (hdOf ((List.replicate p.toNat (0 : Int)).length : Int) ((List.replicate c.toNat (0 : Int)).length : Int)).enc
        rw [e1, e2, m.mem, if_pos rfl, newHd_eq f.q]
      · intro j hj
        have hj' : (j : Int) < p := by simp at hj; omega
        show rd s'.ws _ = rd _ (rd (List.replicate p.toNat 0) j) ∧ 0 ≤ rd (List.replicate p.toNat 0) j ∧ _
        rw [rd_replicate, h0, hlen]
        refine ⟨?_, by omega, by omega⟩
        exact m.zero (by omega) (by omega)
      · intro j hj
        have hj' : (j : Int) < c := by simp at hj; omega
        show rd s'.ws (1 + s.y.u0 + 2 + (((List.replicate p.toNat (0 : Int)).length : Int) + j)) = rd (List.replicate c.toNat 0) j
        rw [rd_replicate, e1]
        exact m.zero (by omega) (by omega)
  · intro n k n0 nk k1
    rw [hlen] at k1
    rw [hn1 n (by omega), hold n (by omega) (by omega)]
    by_cases hk : k < g.nodes.length
    · rw [hold k (by omega) (by omega)]
      exact r.od n k n0 nk hk
    · have ek : k = g.nodes.length := by omega
      subst ek
      rw [hnew]
      exact (r.ob n n0 (by omega)).o2

theorem rd_set {l : List Int} {b : Int} (h0 : 0 ≤ b) (h1 : b < l.length) (v j : Int) : rd (l.set b.toNat v) j = if j = b then v else rd l j := by
  unfold rd
  by_cases hj : 0 ≤ j
  · rw [if_pos hj, if_pos hj]
    by_cases e : j = b
    · subst e
      rw [if_pos rfl]
      exact getD_set_same (by omega)
    · rw [if_neg e]
      exact getD_set_other (by omega)
  · rw [if_neg hj, if_neg hj, if_neg (by omega)]
theorem inL_iff {α : Type} {l : List α} {i : Int} : inL l i = true ↔ 0 ≤ i ∧ i < l.length := by simp [inL]

section
variable {s : CoreS} {g : GraphS} {loc : List Int}
theorem Rel.refE (r : Rel s g loc) (f : s.Fine) (i n k : Int) : s.refE i n k = if g.wrong i = 0 then (if tblOk g.hs k then (if inL (g.nd i).ptrs n then 0 else 5) else 3) else g.wrong i := by
  by_cases h : g.wrong i = 0
  · rw [if_pos h, (r.held f h).1.refE, r.ok]
    have : (inL (g.nd i).ptrs n = true) = (0 ≤ n ∧ n < (hdOf (g.nd i).ptrs.length (g.nd i).scal.length).ptrs) := propext inL_iff
    simp only [this]
  · rw [if_neg h]
    unfold CoreS.refE
    rw [r.wrong, if_neg h]
theorem Rel.scalE (r : Rel s g loc) (f : s.Fine) (i n : Int) : s.scalE i n = g.scalE i n := by
  unfold GraphS.scalE
  by_cases h : g.wrong i = 0
  · rw [if_pos h, (r.held f h).1.scalE]
    have : (0 ≤ n ∧ n < (hdOf (g.nd i).ptrs.length (g.nd i).scal.length).size - (hdOf (g.nd i).ptrs.length (g.nd i).scal.length).ptrs) = (inL (g.nd i).scal n = true) := by
      apply propext
      rw [inL_iff]
      show (0 ≤ n ∧ n < ((g.nd i).ptrs.length : Int) + (g.nd i).scal.length - (g.nd i).ptrs.length) ↔ _
      omega
    simp only [this]
  · rw [if_neg h]
    unfold CoreS.scalE
    rw [r.wrong, if_neg h]
theorem Rel.readV (r : Rel s g loc) (f : s.Fine) (i n : Int) : s.readV i n = if g.scalE i n = 0 then rd (g.nd i).scal n else 0 := by
  by_cases h : g.wrong i = 0
  · obtain ⟨hH, hO, _⟩ := r.held f h
    rw [hH.readV]
    have e : (hdOf (g.nd i).ptrs.length (g.nd i).scal.length).size - (hdOf (g.nd i).ptrs.length (g.nd i).scal.length).ptrs = (g.nd i).scal.length := by
      show ((g.nd i).ptrs.length : Int) + (g.nd i).scal.length - (g.nd i).ptrs.length = _
      omega
    have e2 : (hdOf (g.nd i).ptrs.length (g.nd i).scal.length).ptrs = ((g.nd i).ptrs.length : Int) := rfl
    rw [e, e2]
    unfold GraphS.scalE
    rw [if_pos h]
    by_cases hn : inL (g.nd i).scal n = true
    · have hn' := inL_iff.1 hn
      rw [if_pos hn', if_pos hn, if_pos rfl]
      have := hO.sc n.toNat (by omega)
      have en : ((n.toNat : Nat) : Int) = n := by omega
      rw [en] at this
      exact this
    · rw [if_neg (fun hx => hn (inL_iff.2 hx)), if_neg hn, if_neg (by omega)]
  · unfold CoreS.readV GraphS.scalE
    rw [r.wrong, if_neg (fun hx => h hx.1), if_neg h, if_neg h]

theorem Rel.got (r : Rel s g loc) (f : s.Fine) (a b c : Int) : s.refE b c a = g.getE a b c ∧ Rel (s.got a b c) (if g.getE a b c = 0 then g.get a b c else g) loc := by
  have he : s.refE b c a = g.getE a b c := r.refE f b c a
  refine ⟨he, ?_⟩
  unfold CoreS.got
  rw [he]
  split
  · rename_i h
    unfold GraphS.getE at h
    split at h
    · rename_i hw
      split at h
      · rename_i ha
        split at h
        · rename_i hc
          have hc' := inL_iff.1 hc
          obtain ⟨hH, hO, _⟩ := r.held f hw
          have hp := hO.pt c.toNat (by omega)
          have en : ((c.toNat : Nat) : Int) = c := by omega
          rw [en] at hp
          rw [hH.ref hc'.1 hc'.2, hp.1]
          have hsm := r.small f hp.2.1 hp.2.2
          rw [wrap_of (I64.small (by omega) (by omega))]
          exact r.table a _ hp.2.1 hp.2.2
        · cases h
      · cases h
    · rename_i hw
      exact absurd h hw
  · exact r

theorem Rel.set (r : Rel s g loc) (f : s.Fine) (a b c : Int) : s.refE a b c = g.setE a b c ∧ Rel (s.set a b c) (if g.setE a b c = 0 then g.set a b c else g) loc := by
  have he : s.refE a b c = g.setE a b c := r.refE f a b c
  refine ⟨he, ?_⟩
  by_cases h : g.setE a b c = 0
  · rw [if_pos h]
    unfold GraphS.setE at h
    split at h
    · rename_i hw
      split at h
      · rename_i ha
        split at h
        · rename_i hb
          have hb' := inL_iff.1 hb
          obtain ⟨hH, hO, _⟩ := r.held f hw
          rw [hH.set rfl hb'.1 hb'.2 (by rw [r.ok]; exact ha)]
          have hv := r.hval c
          have hsm := r.small f hv.1 hv.2
          rw [r.get c, u64_of (by omega) (by omega)]
          refine r.word f hw (k := b) (v := rd loc (tblGet g.hs c)) { g.nd a with ptrs := (g.nd a).ptrs.set b.toNat (tblGet g.hs c) } (by simp) rfl hb'.1 (by omega) ?_ ?_
          · intro j hj
            have hj' : j < (g.nd a).ptrs.length := by simpa using hj
            have hrd := rd_set hb'.1 hb'.2 (tblGet g.hs c) j
            show _ = rd loc (rd ((g.nd a).ptrs.set b.toNat (tblGet g.hs c)) j) ∧ 0 ≤ rd ((g.nd a).ptrs.set b.toNat (tblGet g.hs c)) j ∧ rd ((g.nd a).ptrs.set b.toNat (tblGet g.hs c)) j < _
            rw [hrd]
            split
            · exact ⟨rfl, hv⟩
            · exact hO.pt j hj'
          · intro j hj
            show (if (((g.nd a).ptrs.set b.toNat (tblGet g.hs c)).length : Int) + j = b then _ else rd s.ws (_ + 2 + ((((g.nd a).ptrs.set b.toNat (tblGet g.hs c)).length : Int) + j))) = rd (g.nd a).scal j
            rw [List.length_set, if_neg (by omega)]
            exact hO.sc j hj
        · cases h
      · cases h
    · rename_i hw
      exact absurd h hw
  · rw [if_neg h]
    unfold CoreS.set
    rw [he, if_neg h]
    exact r

theorem Rel.write (r : Rel s g loc) (f : s.Fine) (a b v : Int) : Rel { s with ws := s.writeW a b v } (if g.scalE a b = 0 then g.write a b v else g) loc := by
  by_cases h : g.scalE a b = 0
  · rw [if_pos h]
    unfold GraphS.scalE at h
    split at h
    · rename_i hw
      split at h
      · rename_i hb
        have hb' := inL_iff.1 hb
        obtain ⟨hH, hO, _⟩ := r.held f hw
        have e2 : (hdOf (g.nd a).ptrs.length (g.nd a).scal.length).ptrs = ((g.nd a).ptrs.length : Int) := rfl
        have e : (hdOf (g.nd a).ptrs.length (g.nd a).scal.length).size - (hdOf (g.nd a).ptrs.length (g.nd a).scal.length).ptrs = (g.nd a).scal.length := by
          show ((g.nd a).ptrs.length : Int) + (g.nd a).scal.length - (g.nd a).ptrs.length = _
          omega
        rw [hH.writeW, e, e2, if_pos hb']
        refine r.word f hw (k := (g.nd a).ptrs.length + b) (v := v) { g.nd a with scal := (g.nd a).scal.set b.toNat v } rfl (by simp) (by omega) (by omega) ?_ ?_
        · intro j hj
          have hj' : j < (g.nd a).ptrs.length := hj
          rw [if_neg (by omega)]
          exact hO.pt j hj
        · intro j hj
          have hj' : j < (g.nd a).scal.length := by simpa using hj
          show _ = rd ((g.nd a).scal.set b.toNat v) j
          have hrd := rd_set hb'.1 hb'.2 v j
          rw [hrd]
          by_cases e : (j : Int) = b
          · rw [if_pos e, if_pos (by show ((g.nd a).ptrs.length : Int) + j = _; omega)]
          · rw [if_neg e, if_neg (by show ¬ ((g.nd a).ptrs.length : Int) + j = _; omega)]
            exact hO.sc j hj'
      · cases h
    · rename_i hw
      exact absurd h hw
  · rw [if_neg h]
    have he : s.writeW a b v = s.ws := by
      unfold CoreS.writeW
      split
      · rename_i hk
        exfalso
        apply h
        rw [← r.scalE f]
        obtain ⟨h1, h2⟩ := hk
        have hw : g.wrong a = 0 := by rw [← r.wrong]; exact h1
        have hH := (r.held f hw).1
        rw [hH.scalOk, decide_eq_true_eq] at h2
        rw [hH.scalE, if_pos h2]
      · rfl
    rw [he]
    exact r
theorem Rel.copy (r : Rel s g loc) (a b : Int) : Rel { s with t := s.copyT a b } (if tblOk g.hs b then { g with hs := tblSet g.hs a (tblGet g.hs b) } else g) loc := by
  unfold CoreS.copyT
  rw [r.ok, r.get]
  have hv := r.hval b
  split
  · exact r.table a _ hv.1 hv.2
  · exact r

theorem Rel.makeE (r : Rel s g loc) (a b c : Int) : s.makeE a b c = if g.makeE a b c = 0 then (if s.roomOk (b + c + 2) then 0 else 7) else g.makeE a b c := by
  unfold CoreS.makeE GraphS.makeE
  rw [r.ok, r.shape]
  split
  · split
    · rfl
    · rfl
  · rfl
theorem Rel.make_ok (r : Rel s g loc) {a b c : Int} (h : g.makeE a b c = 0) : s.shapeOk b c = true ∧ tblOk s.t a = true := by
  unfold GraphS.makeE at h
  split at h
  · rename_i ha
    split at h
    · rename_i hs
      exact ⟨by rw [r.shape]; exact hs, by rw [r.ok]; exact ha⟩
    · cases h
  · cases h

/-- an entry, in one and the other -/
theorem Rel.step (r : Rel s g loc) (f : s.Fine) (x : StepS) (hk : x.kind = 1 → g.makeE x.a x.b x.c = 0 → s.roomOk (x.b + x.c + 2) = true) : (1 ≤ x.kind ∧ x.kind ≤ 10 → ansS s x = gAns g x) ∧ ∃ loc', Rel (stepS s x) (gStep g x) loc' := by
  obtain ⟨k, a, b, c, v⟩ := x
  by_cases k1 : k = 1
  · subst k1
    simp only [ansS, gAns, stepS, gStep, if_true]
    have hE := r.makeE a b c
    by_cases h : g.makeE a b c = 0
    · have hr := hk rfl h
      have h0 : s.makeE a b c = 0 := by rw [hE, if_pos h, if_pos hr]
      rw [if_pos h, h0, h]
      refine ⟨fun _ => rfl, loc ++ [1 + s.y.u0], ?_⟩
      have hs := (r.make_ok h).1
      have m := f.made (i := a) hs hr
      unfold CoreS.make
      rw [if_pos h0]
      exact r.make f hs m
    · rw [if_neg h] at hE
      rw [if_neg h, hE]
      refine ⟨fun _ => rfl, loc, ?_⟩
      unfold CoreS.make
      rw [hE, if_neg h]
      exact r
  by_cases k2 : k = 2
  · subst k2
    obtain ⟨h1, h2⟩ := r.got f a b c
    simp only [ansS, gAns, stepS, gStep, h1]
    exact ⟨fun _ => rfl, loc, h2⟩
  by_cases k3 : k = 3
  · subst k3
    obtain ⟨h1, h2⟩ := r.set f a b c
    simp only [ansS, gAns, stepS, gStep, h1]
    exact ⟨fun _ => rfl, loc, h2⟩
  by_cases k4 : k = 4
  · subst k4
    simp only [ansS, gAns, stepS, gStep, r.scalE f, r.readV f]
    exact ⟨fun _ => rfl, loc, r⟩
  by_cases k5 : k = 5
  · subst k5
    simp only [ansS, gAns, stepS, gStep, r.scalE f]
    exact ⟨fun _ => rfl, loc, r.write f a b v⟩
  by_cases k6 : k = 6
  · subst k6
    simp only [ansS, gAns, stepS, gStep, r.err]
    have := r.table a 0 (by omega) (by have := r.l1; omega)
    rw [r.l0] at this
    exact ⟨fun _ => rfl, loc, this⟩
  by_cases k7 : k = 7
  · subst k7
    refine ⟨fun _ => ?_, loc, ?_⟩
    · simp only [ansS, gAns, CoreS.copyE, r.ok, r.err]
      simp only [show ¬ ((7 : Int) = 1) by omega, show ¬ ((7 : Int) = 2) by omega, show ¬ ((7 : Int) = 3) by omega, show ¬ ((7 : Int) = 4) by omega, show ¬ ((7 : Int) = 5) by omega, show ¬ ((7 : Int) = 6) by omega, if_false, if_true]
      congr 1
      unfold tblErr
      cases tblOk g.hs a <;> cases tblOk g.hs b <;> rfl
    · exact r.copy a b
  by_cases k8 : k = 8
  · subst k8
    refine ⟨fun _ => ?_, loc, r⟩
    simp only [ansS, gAns, CoreS.sameE, CoreS.sameV, r.ok, r.get]
    have h1 := r.hval a
    have h2 := r.hval b
    simp only [r.inj h1.1 h1.2 h2.1 h2.2]
    rfl
  by_cases k9 : k = 9
  · subst k9
    refine ⟨fun _ => ?_, loc, r⟩
    simp only [ansS, gAns, CoreS.nilV, r.ok, r.get, r.err]
    have h1 := r.hval a
    simp only [r.zero_iff h1.1 h1.2]
    rfl
  by_cases k10 : k = 10
  · subst k10
    refine ⟨fun _ => ?_, loc, r⟩
    simp only [ansS, gAns, r.wrong]
    by_cases h : g.wrong a = 0
    · obtain ⟨hH, hO, _⟩ := r.held f h
      rw [hH.objH]
      have hsz := hO.sz
      have hl := f.cf.l2
      have e : (hdOf (g.nd a).ptrs.length (g.nd a).scal.length).size - (hdOf (g.nd a).ptrs.length (g.nd a).scal.length).ptrs = (g.nd a).scal.length := by
        show ((g.nd a).ptrs.length : Int) + (g.nd a).scal.length - (g.nd a).ptrs.length = _
        omega
      rw [e, u64_of (by omega) (by omega), if_pos h, if_pos h]
      rfl
    · have e : s.objH a = hd0 := by
        unfold CoreS.objH
        rw [r.wrong, if_neg h]
      rw [e, if_neg h, if_neg h]
      rfl
  · have e1 : stepS s ⟨k, a, b, c, v⟩ = s := by simp [stepS, k1, k2, k3, k5, k6, k7]
    have e2 : gStep g ⟨k, a, b, c, v⟩ = g := by simp [gStep, k1, k2, k3, k5, k6, k7]
    rw [e1, e2]
    refine ⟨fun h => ?_, loc, r⟩
    have : 1 ≤ k ∧ k ≤ 10 := h
    omega
end

/-- without room nothing is made -/
theorem step_noroom {s : CoreS} {g : GraphS} {loc : List Int} (r : Rel s g loc) {x : StepS} (hk : x.kind = 1) (h : g.makeE x.a x.b x.c = 0) (hr : s.roomOk (x.b + x.c + 2) = false) : stepS s x = s ∧ ansS s x = ⟨7, false, 0, 0⟩ := by
  have hE := r.makeE x.a x.b x.c
  rw [if_pos h, hr] at hE
  have hE' : s.makeE x.a x.b x.c = 7 := hE
  simp only [stepS, ansS, if_pos hk]
  unfold CoreS.make
  rw [hE']
  exact ⟨rfl, rfl⟩

theorem Rel.new {c : Cfg} (h : c.Fits) : Rel (coreNew c) (gNew c) [0] where
  ll := rfl
  l1 := Nat.le_refl 1
  l0 := rfl
  hs := by
    show List.replicate c.handles.toNat 0 = (List.replicate c.handles.toNat 0).map (rd [0])
    rw [List.map_replicate]
    rfl
  hv := by
    intro x hx
    have : x = 0 := List.eq_of_mem_replicate hx
    subst this
    exact ⟨Int.le_refl 0, by show (0 : Int) < 1; omega⟩
  lg := rfl
  ob := fun n h0 h1 => by
    have : n < 1 := h1
    omega
  od := fun n m h0 h1 h2 => by
    have : m < 1 := h2
    omega

/-- whatever the script, a core without cycles is some graph -/
theorem run_rel {s : CoreS} (f : s.Fine) (l : List StepS) : (∃ g loc, Rel s g loc) → ∃ g loc, Rel (runS s l) g loc := by
  induction l generalizing s with
  | nil => exact id
  | cons x l ih =>
    rintro ⟨g, loc, r⟩
    refine ih (f.step x) ?_
    by_cases hk : x.kind = 1 → g.makeE x.a x.b x.c = 0 → s.roomOk (x.b + x.c + 2) = true
    · obtain ⟨_, loc', r'⟩ := r.step f x hk
      exact ⟨_, loc', r'⟩
    · have h1 : x.kind = 1 := Classical.byContradiction fun h => hk (fun hh => absurd hh h)
      have h2 : g.makeE x.a x.b x.c = 0 := Classical.byContradiction fun h => hk (fun _ hh => absurd hh h)
      have h3 : s.roomOk (x.b + x.c + 2) = false := by
        cases hr : s.roomOk (x.b + x.c + 2)
        · rfl
        · exact absurd (fun _ _ => hr) hk
      have := (step_noroom r h1 h2 h3).1
      exact ⟨g, loc, by rw [this]; exact r⟩

end Go.Proofs.YtglbhcoikgbcmaaGreat
