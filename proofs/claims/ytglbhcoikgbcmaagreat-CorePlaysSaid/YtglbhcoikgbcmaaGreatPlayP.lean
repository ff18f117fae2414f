/- Plain facts for CorePlays: a heap and its graph side by side. No program in sight. Conditions: none. -/
import Derived.Test.YtglbhcoikgbcmaaGreatRows
import Derived.Test.YtglbhcoikgbcmaaGreatGraphB
import Derived.Test.YtglbhcoikgbcmaaGreatRef
set_option linter.unusedVariables false
set_option linter.unusedSimpArgs false
namespace Go.Proofs.YtglbhcoikgbcmaaGreat
open Go.RowKit

/-- a heap, its graph, how much was made, and how many -/
structure Play (c : Cfg) (s : CoreS) (g : GraphS) (u m : Int) : Prop where
  f : s.Fine
  C : s.C = c
  r : ∃ loc, Rel s g loc
  n0 : g.nodes.getD 0 nd0 = nd0
  nl : (g.nodes.length : Int) ≤ 1 + m
  u0 : s.y.u0 = u
  dw : s.done.words = u
  da : s.done.allocs = m
  m0 : 0 ≤ m

theorem Play.ok {c : Cfg} {s : CoreS} {g : GraphS} {u m : Int} (p : Play c s g u m) (hm : m ≤ 1000) : g.Ok := by
  obtain ⟨loc, r⟩ := p.r
  have hl2 := p.f.cf.l2
  have hl1 := p.f.cf.l1
  have hnl := p.nl
  have key : ∀ x ∈ g.nodes, (∀ y ∈ x.ptrs, 0 ≤ y ∧ y < g.nodes.length) ∧ x.ptrs.length ≤ 64 ∧ x.scal.length ≤ 64 := by
    intro x hx
    obtain ⟨i, hi, rfl⟩ := List.getElem_of_mem hx
    have e : g.nodes.getD i nd0 = g.nodes[i] := by simp [List.getD, hi]
    by_cases h0 : i = 0
    · subst h0
      rw [← e, p.n0]
      exact ⟨fun y hy => by simp [nd0] at hy, by simp [nd0], by simp [nd0]⟩
    · have hob := r.ob i (by omega) hi
      rw [e] at hob
      have hsz := hob.sz
      refine ⟨fun y hy => ?_, by omega, by omega⟩
      obtain ⟨j, hj, rfl⟩ := List.getElem_of_mem hy
      have := (hob.pt j hj).2
      have e2 : rd g.nodes[i].ptrs j = g.nodes[i].ptrs[j] := by
        unfold rd
        rw [if_pos (by omega)]
        simp [List.getD, hj]
      rw [e2] at this
      exact this
  refine ⟨r.l1, by omega, r.hv, ?_, fun x hx => (key x hx).1, fun x hx => (key x hx).2, by rw [r.lg]; exact hl1, by rw [r.lg]; exact hl2⟩
  have ht := p.f.tl
  have hh2 := p.f.cf.h2
  have : s.t.length = g.hs.length := by rw [r.hs]; simp
  omega

theorem set_done (s : CoreS) (i n k : Int) : (s.set i n k).done = s.done ∧ (s.set i n k).y = s.y := by
  unfold CoreS.set CoreS.setTo
  split
  · split
    · unfold CoreS.note
      split <;> exact ⟨rfl, rfl⟩
    · exact ⟨rfl, rfl⟩
  · exact ⟨rfl, rfl⟩
/-- what makes nothing leaves what was done -/
theorem step_done (s : CoreS) (x : StepS) (h : x.kind ≠ 1 ∨ s.makeE x.a x.b x.c ≠ 0) : (stepS s x).done = s.done ∧ (stepS s x).y = s.y := by
  unfold stepS
  split
  · rename_i h1
    unfold CoreS.make
    rw [if_neg (by rcases h with h | h; exact absurd h1 h; exact h)]
    exact ⟨rfl, rfl⟩
  split
  · unfold CoreS.got
    split <;> exact ⟨rfl, rfl⟩
  split
  · exact set_done ..
  split
  · exact ⟨rfl, rfl⟩
  split
  · exact ⟨rfl, rfl⟩
  split
  · exact ⟨rfl, rfl⟩
  exact ⟨rfl, rfl⟩

theorem put_nodes (g : GraphS) (a : Int) (x : NodeS) (h : g.wrong a = 0) (hv : 0 ≤ tblGet g.hs a) (n0 : g.nodes.getD 0 nd0 = nd0) : (g.putN a x).nodes.length = g.nodes.length ∧ (g.putN a x).nodes.getD 0 nd0 = nd0 := by
  have hz : tblGet g.hs a ≠ 0 := by
    unfold GraphS.wrong at h
    split at h
    · split at h
      · cases h
      · assumption
    · cases h
  refine ⟨by simp [GraphS.putN], ?_⟩
  unfold GraphS.putN
  rw [getD_set_other (by omega)]
  exact n0

theorem gstep_nodes {s : CoreS} {g : GraphS} {loc : List Int} (r : Rel s g loc) (x : StepS) (h : x.kind ≠ 1 ∨ g.makeE x.a x.b x.c ≠ 0) (n0 : g.nodes.getD 0 nd0 = nd0) : (gStep g x).nodes.length = g.nodes.length ∧ (gStep g x).nodes.getD 0 nd0 = nd0 := by
  unfold gStep
  split
  · rename_i h1
    rw [if_neg (by rcases h with h | h; exact absurd h1 h; exact h)]
    exact ⟨rfl, n0⟩
  split
  · split <;> exact ⟨rfl, n0⟩
  split
  · split
    · rename_i he
      have hw : g.wrong x.a = 0 := by
        unfold GraphS.setE at he
        split at he
        · assumption
        · assumption
      exact put_nodes g x.a _ hw (r.hval x.a).1 n0
    · exact ⟨rfl, n0⟩
  split
  · split
    · rename_i he
      have hw : g.wrong x.a = 0 := by
        unfold GraphS.scalE at he
        split at he
        · assumption
        · assumption
      exact put_nodes g x.a _ hw (r.hval x.a).1 n0
    · exact ⟨rfl, n0⟩
  split
  · exact ⟨rfl, n0⟩
  split
  · split <;> exact ⟨rfl, n0⟩
  exact ⟨rfl, n0⟩

/-- an entry that makes nothing -/
theorem Play.other {c : Cfg} {s : CoreS} {g : GraphS} {u m : Int} (p : Play c s g u m) (x : StepS) (h1 : 1 ≤ x.kind) (h2 : x.kind ≤ 10) (h : x.kind ≠ 1 ∨ g.makeE x.a x.b x.c ≠ 0) :
    ansS s x = gAns g x ∧ Play c (stepS s x) (gStep g x) u m := by
  obtain ⟨loc, r⟩ := p.r
  obtain ⟨ha, hr⟩ := r.step p.f x (fun hk he => by rcases h with h | h; exact absurd hk h; exact absurd he h)
  have hmk : x.kind ≠ 1 ∨ s.makeE x.a x.b x.c ≠ 0 := by
    rcases h with h | h
    · exact .inl h
    · refine .inr ?_
      rw [r.makeE, if_neg h]
      exact h
  obtain ⟨d1, d2⟩ := step_done s x hmk
  obtain ⟨q1, q2⟩ := gstep_nodes r x h p.n0
  exact ⟨ha ⟨h1, h2⟩, p.f.step x, (step_C s x).trans p.C, hr, q2, by rw [q1]; exact p.nl, by rw [d2]; exact p.u0, by rw [d1]; exact p.dw, by rw [d1]; exact p.da, p.m0⟩

/-- one that makes something, where there is room -/
theorem Play.make {c : Cfg} {s : CoreS} {g : GraphS} {u m : Int} (p : Play c s g u m) (x : StepS) (h1 : x.kind = 1) (he : g.makeE x.a x.b x.c = 0) (hroom : u + x.b + x.c + 2 ≤ c.nursery) (hm : m ≤ 1000) :
    ansS s x = gAns g x ∧ Play c (stepS s x) (gStep g x) (u + x.b + x.c + 2) (m + 1) := by
  obtain ⟨loc, r⟩ := p.r
  have hrm : s.roomOk (x.b + x.c + 2) = true := by
    rw [p.f.room, decide_eq_true_eq, p.u0, p.C]
    omega
  obtain ⟨hs, ho⟩ := r.make_ok he
  obtain ⟨p0, c0, pc, l64⟩ := p.f.shape hs
  obtain ⟨ha, hr⟩ := r.step p.f x (fun _ _ => hrm)
  have h0 : s.makeE x.a x.b x.c = 0 := by rw [r.makeE, if_pos he, if_pos hrm]
  have hst : stepS s x = s.made x.a x.b x.c := by
    unfold stepS CoreS.make
    rw [if_pos h1, if_pos h0]
  have md := p.f.made (i := x.a) hs hrm
  have hgs : gStep g x = g.make x.a x.b x.c := by
    unfold gStep
    rw [if_pos h1, if_pos he]
  have hf := p.f.step x
  have hC := step_C s x
  have hu := p.f.u1
  have hyw := p.f.yw
  have hn2 := p.f.cf.n2
  have hu0 := p.f.u0
  have hpu := p.u0
  have hm0 := p.m0
  rw [hst] at hr hf hC ⊢
  rw [hgs] at hr ⊢
  have hans : ansS s x = gAns g x := by
    have := ha ⟨by omega, by omega⟩
    exact this
  refine ⟨hans, hf, hC.trans p.C, hr, ?_, ?_, ?_, ?_, ?_, by omega⟩
  · show (g.nodes ++ _).getD 0 nd0 = nd0
    rw [getD_append_left (by have := r.l1; omega)]
    exact p.n0
  · have := p.nl
    show ((g.nodes ++ [_]).length : Int) ≤ _
    rw [List.length_append]
    simp only [List.length_cons, List.length_nil]
    omega
  · rw [md.y]
    show s.y.u0 + (x.b + x.c + 2) = _
    omega
  · rw [md.done]
    show wrap64 (s.done.words + (x.b + x.c + 2)) = _
    rw [p.dw, wrap_of (I64.small (by omega) (by omega))]
    omega
  · rw [md.done]
    show wrap64 (s.done.allocs + 1) = _
    rw [p.da, wrap_of (I64.small (by omega) (by omega))]

/-- without room -/
theorem Play.full {c : Cfg} {s : CoreS} {g : GraphS} {u m : Int} (p : Play c s g u m) (x : StepS) (h1 : x.kind = 1) (he : g.makeE x.a x.b x.c = 0) (hroom : ¬ u + x.b + x.c + 2 ≤ c.nursery) : (ansS s x).e = 7 := by
  obtain ⟨loc, r⟩ := p.r
  have hrm : s.roomOk (x.b + x.c + 2) = false := by
    rw [p.f.room, decide_eq_false_iff_not, p.u0, p.C]
    omega
  rw [(step_noroom r h1 he hrm).2]

theorem Play.new {c : Cfg} (h : c.Fits) : Play c (coreNew c) (gNew c) 0 0 where
  f := coreNew_fine h
  C := rfl
  r := ⟨_, Rel.new h⟩
  n0 := rfl
  nl := by show ((1 : Nat) : Int) ≤ 1 + 0; omega
  u0 := rfl
  dw := rfl
  da := rfl
  m0 := Int.le_refl 0

/-- what Stats tells then -/
theorem Play.stats {c : Cfg} {s : CoreS} {g : GraphS} {u m : Int} (p : Play c s g u m) : (s.stats 0).allocs = m ∧ (s.stats 0).words = u ∧ (s.stats 0).young = u ∧ (s.stats 0).old = 0 := by
  obtain ⟨e1, e2, e3, e4, e5⟩ := p.f.cu
  have hu := p.f.u1
  have hu0 := p.f.u0
  have hyw := p.f.yw
  have hn2 := p.f.cf.n2
  refine ⟨p.da, p.dw, ?_, rfl⟩
  show wrap64 (s.y.cu + s.y.ou) = u
  rw [e1, e3, Int.add_zero, wrap_of (I64.small (by omega) (by omega))]
  exact p.u0

/-- what the statement's own guard says -/
theorem Play.may {c : Cfg} {s : CoreS} {g : GraphS} {u m : Int} (p : Play c s g u m) (x : StepS) : (g.makeE x.a x.b x.c = 0) ↔ (0 ≤ x.a ∧ x.a < c.handles ∧ 0 ≤ x.b ∧ 0 ≤ x.c ∧ x.b ≤ c.largest ∧ x.c ≤ c.largest - x.b) := by
  obtain ⟨loc, r⟩ := p.r
  have ht := p.f.tl
  have hl : s.t.length = g.hs.length := by rw [r.hs]; simp
  have hlg := r.lg
  rw [p.C] at ht hlg
  unfold GraphS.makeE
  by_cases ho : tblOk g.hs x.a = true
  · rw [if_pos ho]
    rw [tblOk_iff] at ho
    by_cases hs : g.shapeOk x.b x.c = true
    · rw [if_pos hs]
      simp only [GraphS.shapeOk, decide_eq_true_eq] at hs
      constructor
      · intro _
        omega
      · intro _
        rfl
    · rw [if_neg hs]
      simp only [GraphS.shapeOk, decide_eq_true_eq] at hs
      constructor
      · intro h
        cases h
      · intro h
        omega
  · rw [if_neg ho]
    rw [tblOk_iff] at ho
    constructor
    · intro h
      cases h
    · intro h
      omega

end Go.Proofs.YtglbhcoikgbcmaaGreat
