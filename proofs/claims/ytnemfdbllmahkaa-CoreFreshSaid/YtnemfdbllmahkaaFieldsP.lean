/- Plain facts for CoreFields, CoreFresh and CoreCopies. No program in sight. Conditions: none. -/
import Derived.Test.YtnemfdbllmahkaaRows
import Derived.Test.YtnemfdbllmahkaaHeld
set_option linter.unusedVariables false
set_option linter.unusedSimpArgs false
namespace Go.Proofs.Ytnemfdbllmahkaa
open Go.RowKit

/-- the configuration of CoreFields -/
def cfgF (a b c d : Int) : Cfg := { cfgOf a b c d with largest := 8, nursery := 60 }
theorem cfgF_ok {a b c d : Int} (ha : U8 a) (hb : U8 b) (hc : U8 c) (hd : U8 d) : (cfgF a b c d).ok = true := by
  have h := cfgOf_ok ha hb hc hd
  obtain ⟨a1, a2⟩ := ha
  obtain ⟨b1, b2⟩ := hb
  obtain ⟨c1, c2⟩ := hc
  obtain ⟨d1, d2⟩ := hd
  simp only [Cfg.ok, Cfg.sizes, Cfg.rows, Cfg.taxes, Bool.and_eq_true, within_iff, decide_eq_true_eq] at h ⊢
  simp only [cfgF, cfgOf] at h ⊢
  omega

theorem makeE_zero {s : CoreS} {i p c : Int} (h1 : tblOk s.t i = true) (h2 : s.shapeOk p c = true) (h3 : s.roomOk (p + c + 2) = true) : s.makeE i p c = 0 := by
  simp [CoreS.makeE, h1, h2, h3]
theorem make_eq {s : CoreS} {i p c : Int} (h : s.makeE i p c = 0) : s.make i p c = s.made i p c := by
  unfold CoreS.make
  rw [if_pos h]

structure FieldsLaw (c : Cfg) (i k x : Int) (s1 s2 s3 s4 : CoreS) : Prop where
  e1 : (coreNew c).makeE 0 4 4 = 0
  m1 : (coreNew c).make 0 4 4 = s1
  e2 : s1.makeE 1 0 0 = 0
  m2 : s1.make 1 0 0 = s2
  e3 : s2.scalE 0 i = 0
  m3 : { s2 with ws := s2.writeW 0 i x } = s3
  e4 : s3.refE 0 k 1 = 0
  m4 : s3.set 0 k 1 = s4
  q1 : s1.Fine
  q4 : s4.Fine
  loop : ∀ t j, t.length = s4.t.length → tblGet t 0 = 1 → 0 ≤ j → j < 4 →
    ({ s4 with t := t } : CoreS).scalE 0 j = 0 ∧ ({ s4 with t := t } : CoreS).readV 0 j = (if j = i then x else 0) ∧ ({ s4 with t := t } : CoreS).refE 0 j 1 = 0 ∧
    ({ s4 with t := t } : CoreS).got 1 0 j = { s4 with t := tblSet t 1 (if j = k then 11 else 0) } ∧
    tblErr (tblSet t 1 (if j = k then 11 else 0)) 1 = 0 ∧ ({ s4 with t := tblSet t 1 (if j = k then 11 else 0) } : CoreS).nilV 1 = (!decide (j = k)) ∧
    (tblSet t 1 (if j = k then 11 else 0)).length = s4.t.length ∧ tblGet (tblSet t 1 (if j = k then 11 else 0)) 0 = 1
  start : tblGet s4.t 0 = 1

theorem fields_law {c : Cfg} (hf : c.Fits) (hl : c.largest = 8) (hn : c.nursery = 60) (hh : 2 ≤ c.handles) {i k x : Int} (hi : 0 ≤ i ∧ i < 4) (hk : 0 ≤ k ∧ k < 4) : ∃ s1 s2 s3 s4, FieldsLaw c i k x s1 s2 s3 s4 := by
  have f0 := coreNew_fine hf
  have t0 : (coreNew c).t.length = c.handles := f0.tl
  have k0 : ∀ j, 0 ≤ j → j < 2 → tblOk (coreNew c).t j = true := fun j h1 h2 => by rw [tblOk_iff]; omega
  have C0 : (coreNew c).C = c := rfl
  have u0 : (coreNew c).y.u0 = 0 := rfl
  have hs0 : (coreNew c).shapeOk 4 4 = true := by simp [CoreS.shapeOk, C0, hl]
  have hr0 : (coreNew c).roomOk (4 + 4 + 2) = true := by rw [f0.room, C0, hn, u0]; decide
  have e1 := makeE_zero (k0 0 (by omega) (by omega)) hs0 hr0
  have m1 := f0.made (i := 0) hs0 hr0
  have f1 := f0.make 0 4 4
  have g1 : (coreNew c).make 0 4 4 = (coreNew c).made 0 4 4 := make_eq e1
  rw [g1] at f1
  generalize (coreNew c).made 0 4 4 = s1 at *
  have u1 : s1.y.u0 = 10 := by rw [m1.y]; show (coreNew c).y.u0 + (4 + 4 + 2) = 10; rw [u0]; rfl
  have C1 : s1.C = c := m1.C
  have t1 : s1.t.length = s1.t.length := rfl
  have k1 : ∀ j, 0 ≤ j → j < 2 → tblOk s1.t j = true := fun j h1 h2 => by rw [m1.t, tblOk_set]; exact k0 j h1 h2
  have hs1 : s1.shapeOk 0 0 = true := by simp [CoreS.shapeOk, C1, hl]
  have hr1 : s1.roomOk (0 + 0 + 2) = true := by rw [f1.room, C1, hn, u1]; decide
  have e2 := makeE_zero (k1 1 (by omega) (by omega)) hs1 hr1
  have m2 := f1.made (i := 1) hs1 hr1
  have f2 := f1.make 1 0 0
  have g2 : s1.make 1 0 0 = s1.made 1 0 0 := make_eq e2
  rw [g2] at f2
  generalize s1.made 1 0 0 = s2 at *
  have h1 := m1.held f0 hs0 (k0 0 (by omega) (by omega))
  rw [u0] at h1
  have hH : ∃ H, (coreNew c).newHd 4 4 = H ∧ H.size = 8 ∧ H.ptrs = 4 ∧ H.old = false ∧ H.words = 10 := ⟨_, rfl, rfl, rfl, rfl, rfl⟩
  obtain ⟨H, hHe, H1, H2, H3, H4⟩ := hH
  rw [hHe] at h1
  have hr2 : ∀ j, 0 ≤ j → j < 11 → rd s2.ws j = rd s1.ws j := fun j h1 h2 => by
    rw [m2.mem, u1, if_neg (by omega), if_neg (by omega), if_neg (by omega)]
  have k2 : ∀ j, 0 ≤ j → j < 2 → tblOk s2.t j = true := fun j h1 h2 => by rw [m2.t, tblOk_set]; exact k1 j h1 h2
  have h2 : Held s2 0 1 H := by
    refine ⟨k2 0 (by omega) (by omega), ?_, by omega, by rw [m2.wl]; exact h1.o2, by rw [m2.wl]; exact h1.o3, ?_, h1.good⟩
    · rw [m2.t, tblGet_set (k1 1 (by omega) (by omega)), if_neg (by omega)]
      exact h1.ho
    · rw [hr2 1 (by omega) (by omega)]
      exact h1.hd
  have z2 : ∀ n, 0 ≤ n → n < 8 → rd s2.ws (3 + n) = 0 := fun n h1 h2 => by
    rw [hr2 _ (by omega) (by omega)]
    have := m1.zero (n := n) h1 (by omega)
    rw [u0] at this
    rw [← this]
    congr 1
  have b2 : tblGet s2.t 1 = 11 := by
    rw [m2.t, tblGet_set (k1 1 (by omega) (by omega)), if_pos rfl, u1]
    rfl
  have hi' : 0 ≤ i ∧ i < H.size - H.ptrs := by rw [H1, H2]; omega
  have e3 : s2.scalE 0 i = 0 := by rw [h2.scalE, if_pos hi']
  have w3 := h2.writeW i x
  rw [if_pos hi'] at w3
  obtain ⟨_, p1, p2⟩ := h2.scalAt hi'.1 hi'.2
  rw [H2] at w3 p1 p2
  have f3 := f2.write 0 i x
  obtain ⟨s3, hs3⟩ : ∃ s3, s3 = { s2 with ws := s2.writeW 0 i x } := ⟨_, rfl⟩
  have r3 : ∀ j, rd s3.ws j = if j = 7 + i then x else rd s2.ws j := fun j => by
    rw [hs3]
    show rd (s2.writeW 0 i x) j = _
    rw [w3, rd_st p1 p2]
    have : 1 + 2 + (4 + i) = 7 + i := by omega
    rw [this]
  have l3 : s3.ws.length = s2.ws.length := by rw [hs3]; show (s2.writeW 0 i x).length = _; rw [w3, len_st]
  have h3 : Held s3 0 1 H := by
    have := h2.words (ws := s2.writeW 0 i x) (by rw [w3, len_st]) (by rw [w3, rd_st p1 p2, if_neg (by omega)])
    rw [← hs3] at this
    exact this
  have t3 : s3.t = s2.t := by rw [hs3]
  rw [← hs3] at f3
  have hk3 : tblOk s3.t 1 = true := by rw [t3]; exact k2 1 (by omega) (by omega)
  have hk' : 0 ≤ k ∧ k < H.ptrs := by rw [H2]; omega
  have e4 : s3.refE 0 k 1 = 0 := by rw [h3.refE, if_pos hk3, if_pos hk']
  have w4 := h3.set H3 hk'.1 hk'.2 hk3
  obtain ⟨_, p3, p4⟩ := h3.place hk'.1 (show k < H.size by omega)
  have f4 := f3.set 0 k 1
  obtain ⟨s4, hs4⟩ : ∃ s4, s4 = s3.set 0 k 1 := ⟨_, rfl⟩
  rw [← hs4] at w4 f4
  have r4 : ∀ j, rd s4.ws j = if j = 3 + k then 11 else rd s3.ws j := fun j => by
    rw [w4]
    show rd (stW s3.ws (1 + 2 + k) (u64 (tblGet s3.t 1))) j = _
    rw [rd_st p3 p4, t3, b2, u64_of (by omega) (by omega)]
    have : 1 + 2 + k = 3 + k := by omega
    rw [this]
  have h4 : Held s4 0 1 H := by
    have := h3.words (ws := stW s3.ws (1 + 2 + k) (u64 (tblGet s3.t 1))) (len_st ..) (by rw [rd_st p3 p4, if_neg (by omega)])
    rw [← w4] at this
    exact this
  have t4 : s4.t = s2.t := by rw [w4]; exact t3
  refine ⟨s1, s2, s3, s4, e1, g1, e2, g2, e3, hs3.symm, e4, hs4.symm, f1, f4, ?_, by rw [t4]; exact h2.ho⟩
  intro t j ht h0 j1 j2
  have kt : ∀ j, tblOk t j = tblOk s4.t j := fun j => by simp [tblOk, ht]
  have kk : ∀ j, 0 ≤ j → j < 2 → tblOk t j = true := fun j h1 h2 => by rw [kt, t4]; exact k2 j h1 h2
  have hS : Held { s4 with t := t } 0 1 H := h4.table (kk 0 (by omega) (by omega)) h0
  have hj : 0 ≤ j ∧ j < H.size - H.ptrs := by rw [H1, H2]; omega
  have hj' : 0 ≤ j ∧ j < H.ptrs := by rw [H2]; omega
  have er : ({ s4 with t := t } : CoreS).refE 0 j 1 = 0 := by
    rw [hS.refE, if_pos hj']
    exact if_pos (kk 1 (by omega) (by omega))
  have hg := tblGet_set (kk 1 (by omega) (by omega)) (if j = k then 11 else 0)
  refine ⟨by rw [hS.scalE, if_pos hj], ?_, er, ?_, by rw [tblErr_set, tblErr_ok (kk 1 (by omega) (by omega))], ?_, by rw [len_tblSet]; exact ht, by rw [hg, if_neg (by omega)]; exact h0⟩
  · rw [hS.readV, if_pos hj]
    show rd s4.ws _ = _
    rw [H2, r4, if_neg (by omega), r3]
    by_cases e : j = i
    · rw [if_pos (by omega), if_pos e]
    · rw [if_neg (by omega), if_neg e]
      have := z2 (4 + j) (by omega) (by omega)
      rw [← this]
      congr 1 <;> omega
  · unfold CoreS.got
    rw [if_pos er, hS.ref hj'.1 hj'.2]
    show ({ s4 with t := tblSet t 1 (wrap64 (rd s4.ws (1 + 2 + j))) } : CoreS) = _
    have e : rd s4.ws (1 + 2 + j) = if j = k then 11 else 0 := by
      rw [r4]
      by_cases e : j = k
      · rw [if_pos (by omega), if_pos e]
      · rw [if_neg (by omega), if_neg e, r3, if_neg (by omega)]
        have := z2 j (by omega) (by omega)
        rw [← this]
        congr 1
    rw [e, wrap_of (by split <;> exact I64.small (by decide) (by decide))]
  · show (tblOk (tblSet t 1 _) 1 && decide (tblGet (tblSet t 1 _) 1 = 0)) = _
    rw [hg, if_pos rfl, tblOk_set, kk 1 (by omega) (by omega)]
    by_cases e : j = k
    · simp [e]
    · simp [e]

/-! CoreFresh -/
theorem fresh_loop {s s' : CoreS} {p c : Int} (f : s.Fine) (hh : 2 ≤ s.C.handles) (hs : s.shapeOk p c = true) (m : Made s 1 p c s') :
    ∀ t, t.length = s.t.length → tblGet t 1 = 1 + s.y.u0 → Held { s' with t := t } 1 (1 + s.y.u0) (s.newHd p c) ∧ tblOk t 0 = true ∧ tblOk t 1 = true ∧ (tblSet t 0 0).length = s.t.length ∧ tblGet (tblSet t 0 0) 1 = 1 + s.y.u0 ∧
      ({ s' with t := tblSet t 0 0 } : CoreS).nilV 0 = true ∧ tblErr (tblSet t 0 0) 0 = 0 := by
  intro t ht h1
  have htl := f.tl
  have kk : ∀ j, 0 ≤ j → j < 2 → tblOk t j = true := fun j h1 h2 => by rw [tblOk_iff]; omega
  have k1 : tblOk s.t 1 = true := by rw [tblOk_iff]; omega
  have h0 := m.held f hs k1
  have hg := tblGet_set (kk 0 (by omega) (by omega)) 0
  refine ⟨h0.table (kk 1 (by omega) (by omega)) h1, kk 0 (by omega) (by omega), kk 1 (by omega) (by omega), by rw [len_tblSet]; exact ht, by rw [hg, if_neg (by omega)]; exact h1, ?_, by rw [tblErr_set, tblErr_ok (kk 0 (by omega) (by omega))]⟩
  show (tblOk (tblSet t 0 0) 0 && decide (tblGet (tblSet t 0 0) 0 = 0)) = true
  rw [tblOk_set, kk 0 (by omega) (by omega), hg, if_pos rfl]
  rfl

/-! CoreCopies -/
theorem copies_law {s : CoreS} (f : s.Fine) (hh : 2 ≤ s.C.handles) :
    s.copyE 0 1 = 0 ∧ s.copyT 0 1 = tblSet s.t 0 (tblGet s.t 1) ∧
    ∀ t, t = tblSet s.t 0 (tblGet s.t 1) → ({ s with t := t } : CoreS).sameV 0 1 = true ∧ ({ s with t := t } : CoreS).sameE 0 1 = 0 ∧ ({ s with t := t } : CoreS).nilV 1 = decide (tblGet s.t 1 = 0) ∧ tblErr t 1 = 0 ∧
      ∀ t', t' = tblSet t 1 0 → ({ s with t := t' } : CoreS).sameE 0 1 = 0 ∧ ({ s with t := t' } : CoreS).sameV 0 1 = decide (tblGet s.t 1 = 0) := by
  have htl := f.tl
  have kk : ∀ j, 0 ≤ j → j < 2 → tblOk s.t j = true := fun j h1 h2 => by rw [tblOk_iff]; omega
  have k0 := kk 0 (by omega) (by omega)
  have k1 := kk 1 (by omega) (by omega)
  refine ⟨by simp [CoreS.copyE, k1, tblErr_ok k0], by simp [CoreS.copyT, k1], ?_⟩
  intro t ht
  have o0 : tblOk t 0 = true := by rw [ht, tblOk_set]; exact k0
  have o1 : tblOk t 1 = true := by rw [ht, tblOk_set]; exact k1
  have g0 : tblGet t 0 = tblGet s.t 1 := by rw [ht, tblGet_set k0, if_pos rfl]
  have g1 : tblGet t 1 = tblGet s.t 1 := by rw [ht, tblGet_set k0, if_neg (by omega)]
  refine ⟨by simp [CoreS.sameV, o0, o1, g0, g1], by simp [CoreS.sameE, o0, o1], by simp [CoreS.nilV, o1, g1], tblErr_ok o1, ?_⟩
  intro t' ht'
  have q0 : tblOk t' 0 = true := by rw [ht', tblOk_set]; exact o0
  have q1 : tblOk t' 1 = true := by rw [ht', tblOk_set]; exact o1
  have j0 : tblGet t' 0 = tblGet s.t 1 := by rw [ht', tblGet_set o1, if_neg (by omega)]; exact g0
  have j1 : tblGet t' 1 = 0 := by rw [ht', tblGet_set o1, if_pos rfl]
  exact ⟨by simp [CoreS.sameE, q0, q1], by simp [CoreS.sameV, q0, q1, j0, j1]⟩

end Go.Proofs.Ytnemfdbllmahkaa
