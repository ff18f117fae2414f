/- A core without cycles is a graph: what one sees of it is as of nodes by their numbers. No program in sight. Conditions: the core is fine, the entry a heap's. -/
import Derived.Test.YtglbhcoikgbcmaaGreatRows
import Derived.Test.YtglbhcoikgbcmaaGreatHeld
set_option linter.unusedVariables false
set_option linter.unusedSimpArgs false
namespace Go.Proofs.YtglbhcoikgbcmaaGreat
open Go.RowKit

structure NodeS where
  ptrs : List Int
  scal : List Int
def nd0 : NodeS := ⟨[], []⟩
def NodeS.wd (x : NodeS) : Int := x.ptrs.length + x.scal.length + 2
structure GraphS where
  nodes : List NodeS
  hs : List Int
  largest : Int

def GraphS.wrong (g : GraphS) (h : Int) : Int := if tblOk g.hs h then (if tblGet g.hs h = 0 then 4 else 0) else 3
def GraphS.nd (g : GraphS) (h : Int) : NodeS := g.nodes.getD (tblGet g.hs h).toNat nd0
def inL {α : Type} (l : List α) (i : Int) : Bool := decide (0 ≤ i ∧ i < l.length)
def GraphS.shapeOk (g : GraphS) (p c : Int) : Bool := decide (0 ≤ p ∧ 0 ≤ c ∧ p ≤ g.largest ∧ c ≤ g.largest - p)

/-- errors -/
def GraphS.makeE (g : GraphS) (a b c : Int) : Int := if tblOk g.hs a then (if g.shapeOk b c then 0 else 6) else 3
def GraphS.getE (g : GraphS) (a b c : Int) : Int := if g.wrong b = 0 then (if tblOk g.hs a then (if inL (g.nd b).ptrs c then 0 else 5) else 3) else g.wrong b
def GraphS.setE (g : GraphS) (a b c : Int) : Int := if g.wrong a = 0 then (if tblOk g.hs c then (if inL (g.nd a).ptrs b then 0 else 5) else 3) else g.wrong a
def GraphS.scalE (g : GraphS) (a b : Int) : Int := if g.wrong a = 0 then (if inL (g.nd a).scal b then 0 else 5) else g.wrong a

def GraphS.make (g : GraphS) (a b c : Int) : GraphS := { g with nodes := g.nodes ++ [⟨List.replicate b.toNat 0, List.replicate c.toNat 0⟩], hs := tblSet g.hs a g.nodes.length }
def GraphS.get (g : GraphS) (a b c : Int) : GraphS := { g with hs := tblSet g.hs a (rd (g.nd b).ptrs c) }
def GraphS.putN (g : GraphS) (a : Int) (x : NodeS) : GraphS := { g with nodes := g.nodes.set (tblGet g.hs a).toNat x }
def GraphS.set (g : GraphS) (a b c : Int) : GraphS := g.putN a { g.nd a with ptrs := (g.nd a).ptrs.set b.toNat (tblGet g.hs c) }
def GraphS.write (g : GraphS) (a b v : Int) : GraphS := g.putN a { g.nd a with scal := (g.nd a).scal.set b.toNat v }

def gStep (g : GraphS) (x : StepS) : GraphS :=
  if x.kind = 1 then (if g.makeE x.a x.b x.c = 0 then g.make x.a x.b x.c else g)
  else if x.kind = 2 then (if g.getE x.a x.b x.c = 0 then g.get x.a x.b x.c else g)
  else if x.kind = 3 then (if g.setE x.a x.b x.c = 0 then g.set x.a x.b x.c else g)
  else if x.kind = 5 then (if g.scalE x.a x.b = 0 then g.write x.a x.b x.v else g)
  else if x.kind = 6 then { g with hs := tblSet g.hs x.a 0 }
  else if x.kind = 7 then (if tblOk g.hs x.b then { g with hs := tblSet g.hs x.a (tblGet g.hs x.b) } else g)
  else g
def gAns (g : GraphS) (x : StepS) : AnsS :=
  if x.kind = 1 then ⟨g.makeE x.a x.b x.c, false, 0, 0⟩
  else if x.kind = 2 then ⟨g.getE x.a x.b x.c, false, 0, 0⟩
  else if x.kind = 3 then ⟨g.setE x.a x.b x.c, false, 0, 0⟩
  else if x.kind = 4 then ⟨g.scalE x.a x.b, false, 0, if g.scalE x.a x.b = 0 then rd (g.nd x.a).scal x.b else 0⟩
  else if x.kind = 5 then ⟨g.scalE x.a x.b, false, 0, 0⟩
  else if x.kind = 6 then ⟨tblErr g.hs x.a, false, 0, 0⟩
  else if x.kind = 7 then ⟨if tblOk g.hs x.a && tblOk g.hs x.b then 0 else 3, false, 0, 0⟩
  else if x.kind = 8 then ⟨if tblOk g.hs x.a && tblOk g.hs x.b then 0 else 3, tblOk g.hs x.a && tblOk g.hs x.b && decide (tblGet g.hs x.a = tblGet g.hs x.b), 0, 0⟩
  else if x.kind = 9 then ⟨tblErr g.hs x.a, tblOk g.hs x.a && decide (tblGet g.hs x.a = 0), 0, 0⟩
  else if x.kind = 10 then ⟨g.wrong x.a, false, if g.wrong x.a = 0 then (g.nd x.a).ptrs.length else 0, if g.wrong x.a = 0 then (g.nd x.a).scal.length else 0⟩
  else ⟨1, false, 0, 0⟩
def gNew (c : Cfg) : GraphS := ⟨[nd0], List.replicate c.handles.toNat 0, c.largest⟩

/-- a node's head -/
def hdOf (p c : Int) : Hd := ⟨p + c, p, 0, 0, false, false, false⟩
theorem newHd_eq {s : CoreS} (q : s.Quiet) (p c : Int) : s.newHd p c = hdOf p c := by
  unfold CoreS.newHd hdOf
  rw [q.par]

/-- a node's object: where it lies, and what stands there -/
structure ObjN (s : CoreS) (loc : List Int) (N : Nat) (o : Int) (x : NodeS) : Prop where
  o1 : 1 ≤ o
  o2 : o + x.wd ≤ 1 + s.y.u0
  sz : (x.ptrs.length : Int) + x.scal.length ≤ s.C.largest
  hd : rd s.ws o = (hdOf x.ptrs.length x.scal.length).enc
  pt : ∀ j : Nat, j < x.ptrs.length → rd s.ws (o + 2 + j) = rd loc (rd x.ptrs j) ∧ 0 ≤ rd x.ptrs j ∧ rd x.ptrs j < N
  sc : ∀ j : Nat, j < x.scal.length → rd s.ws (o + 2 + (x.ptrs.length + j)) = rd x.scal j

structure Rel (s : CoreS) (g : GraphS) (loc : List Int) : Prop where
  ll : loc.length = g.nodes.length
  l1 : 1 ≤ g.nodes.length
  l0 : rd loc 0 = 0
  hs : s.t = g.hs.map (rd loc)
  hv : ∀ x ∈ g.hs, 0 ≤ x ∧ x < g.nodes.length
  lg : g.largest = s.C.largest
  ob : ∀ n : Nat, 1 ≤ n → n < g.nodes.length → ObjN s loc g.nodes.length (rd loc n) (g.nodes.getD n nd0)
  od : ∀ n m : Nat, 1 ≤ n → n < m → m < g.nodes.length → rd loc n + (g.nodes.getD n nd0).wd ≤ rd loc m

theorem NodeS.wd_pos (x : NodeS) : 2 ≤ x.wd := by unfold NodeS.wd; omega

section
variable {s : CoreS} {g : GraphS} {loc : List Int}

theorem Rel.ok (r : Rel s g loc) (i : Int) : tblOk s.t i = tblOk g.hs i := by rw [r.hs]; simp [tblOk]
theorem Rel.err (r : Rel s g loc) (i : Int) : tblErr s.t i = tblErr g.hs i := by simp [tblErr, r.ok]
theorem Rel.get (r : Rel s g loc) (i : Int) : tblGet s.t i = rd loc (tblGet g.hs i) := by
  by_cases h : tblOk g.hs i = true
  · have h1 := h
    rw [← r.ok] at h1
    have hi := tblOk_iff.1 h
    unfold tblGet
    rw [if_pos h1, if_pos h, r.hs]
    have : i.toNat < g.hs.length := by omega
    simp [List.getD, this]
  · have h2 : tblOk g.hs i = false := by simpa using h
    rw [tblGet_out h2, tblGet_out (by rw [r.ok]; exact h2), r.l0]
theorem Rel.hval (r : Rel s g loc) (i : Int) : 0 ≤ tblGet g.hs i ∧ tblGet g.hs i < g.nodes.length := by
  by_cases h : tblOk g.hs i = true
  · have hi := tblOk_iff.1 h
    unfold tblGet
    rw [if_pos h]
    have hl : i.toNat < g.hs.length := by omega
    have : g.hs.getD i.toNat 0 = g.hs[i.toNat] := by simp [List.getD, hl]
    rw [this]
    exact r.hv _ (List.getElem_mem hl)
  · have h2 : tblOk g.hs i = false := by simpa using h
    rw [tblGet_out h2]
    have := r.l1
    omega
/-- places of numbers -/
theorem Rel.pos (r : Rel s g loc) {n : Int} (h0 : 0 ≤ n) (h1 : n < g.nodes.length) (hn : n ≠ 0) : 1 ≤ rd loc n ∧ rd loc n + (g.nodes.getD n.toNat nd0).wd ≤ 1 + s.y.u0 := by
  have := r.ob n.toNat (by omega) (by omega)
  have e : ((n.toNat : Nat) : Int) = n := by omega
  rw [e] at this
  exact ⟨this.o1, this.o2⟩
theorem Rel.zero_iff (r : Rel s g loc) {n : Int} (h0 : 0 ≤ n) (h1 : n < g.nodes.length) : rd loc n = 0 ↔ n = 0 := by
  constructor
  · intro h
    by_cases hn : n = 0
    · exact hn
    · have := (r.pos h0 h1 hn).1
      omega
  · rintro rfl
    exact r.l0
theorem Rel.inj (r : Rel s g loc) {n m : Int} (h0 : 0 ≤ n) (h1 : n < g.nodes.length) (k0 : 0 ≤ m) (k1 : m < g.nodes.length) : rd loc n = rd loc m ↔ n = m := by
  constructor
  · intro h
    by_cases hn : n = 0
    · subst hn
      rw [r.l0] at h
      exact ((r.zero_iff k0 k1).1 h.symm).symm
    · by_cases hm : m = 0
      · subst hm
        rw [r.l0] at h
        exact (r.zero_iff h0 h1).1 h
      · have en : ((n.toNat : Nat) : Int) = n := by omega
        have em : ((m.toNat : Nat) : Int) = m := by omega
        by_cases hlt : n < m
        · have := r.od n.toNat m.toNat (by omega) (by omega) (by omega)
          rw [en, em] at this
          have := (g.nodes.getD n.toNat nd0).wd_pos
          omega
        · by_cases hgt : m < n
          · have := r.od m.toNat n.toNat (by omega) (by omega) (by omega)
            rw [en, em] at this
            have := (g.nodes.getD m.toNat nd0).wd_pos
            omega
          · omega
  · rintro rfl
    rfl
theorem Rel.small (r : Rel s g loc) (f : s.Fine) {n : Int} (h0 : 0 ≤ n) (h1 : n < g.nodes.length) : 0 ≤ rd loc n ∧ rd loc n ≤ 4097 := by
  by_cases hn : n = 0
  · subst hn
    rw [r.l0]
    omega
  · have := r.pos h0 h1 hn
    have := (g.nodes.getD n.toNat nd0).wd_pos
    have := f.u1
    have := f.yw
    have := f.cf.n2
    omega
theorem Rel.wrong (r : Rel s g loc) (i : Int) : s.objE i = g.wrong i := by
  unfold CoreS.objE GraphS.wrong
  rw [r.ok, r.get]
  have := r.hval i
  simp only [r.zero_iff this.1 this.2]
theorem Rel.held (r : Rel s g loc) (f : s.Fine) {i : Int} (h : g.wrong i = 0) :
    Held s i (rd loc (tblGet g.hs i)) (hdOf (g.nd i).ptrs.length (g.nd i).scal.length) ∧ ObjN s loc g.nodes.length (rd loc (tblGet g.hs i)) (g.nd i) ∧ tblGet g.hs i ≠ 0 := by
  have hv := r.hval i
  unfold GraphS.wrong at h
  split at h
  · rename_i hok
    split at h
    · cases h
    · rename_i hz
      have en : (((tblGet g.hs i).toNat : Nat) : Int) = tblGet g.hs i := by omega
      have hob := r.ob (tblGet g.hs i).toNat (by omega) (by omega)
      rw [en] at hob
      have hl := f.cf.l2
      obtain ⟨w1, w2⟩ := f.small
      have hu := f.u1
      have hy := f.yw
      have h2 := hob.o2
      have h3 := hob.sz
      unfold NodeS.wd at h2
      refine ⟨⟨by rw [r.ok]; exact hok, r.get i, hob.o1, ?_, w1, hob.hd, ?_⟩, hob, hz⟩
      · show rd loc (tblGet g.hs i) + (((g.nd i).ptrs.length : Int) + (g.nd i).scal.length + 2) ≤ _
        unfold GraphS.nd
        omega
      · refine ⟨?_, ?_, ?_, ?_, ?_, ?_, .inl rfl⟩
        · show (0 : Int) ≤ ((g.nd i).ptrs.length : Int) + (g.nd i).scal.length
          omega
        · show ((g.nd i).ptrs.length : Int) + (g.nd i).scal.length ≤ 64
          unfold GraphS.nd
          omega
        · show (0 : Int) ≤ ((g.nd i).ptrs.length : Int)
          omega
        · show ((g.nd i).ptrs.length : Int) ≤ ((g.nd i).ptrs.length : Int) + (g.nd i).scal.length
          omega
        · show (0 : Int) ≤ 0
          omega
        · show (0 : Int) ≤ 7
          omega
  · cases h
theorem Rel.shape (r : Rel s g loc) (p c : Int) : s.shapeOk p c = g.shapeOk p c := by
  unfold CoreS.shapeOk GraphS.shapeOk
  rw [r.lg]

/-- another table -/
theorem Rel.table (r : Rel s g loc) (a v : Int) (h0 : 0 ≤ v) (h1 : v < g.nodes.length) : Rel { s with t := tblSet s.t a (rd loc v) } { g with hs := tblSet g.hs a v } loc where
  ll := r.ll
  l1 := r.l1
  l0 := r.l0
  hs := by
    show tblSet s.t a (rd loc v) = (tblSet g.hs a v).map (rd loc)
    unfold tblSet
    rw [r.ok]
    split
    · rw [r.hs, List.map_set]
    · exact r.hs
  hv := by
    intro x hx
    have hx' : x ∈ tblSet g.hs a v := hx
    unfold tblSet at hx'
    split at hx'
    · rcases List.mem_or_eq_of_mem_set hx' with h | h
      · exact r.hv x h
      · subst h
        exact ⟨h0, h1⟩
    · exact r.hv x hx'
  lg := r.lg
  ob := fun n h0 h1 => by
    have := r.ob n h0 h1
    exact ⟨this.o1, this.o2, this.sz, this.hd, this.pt, this.sc⟩
  od := r.od
theorem Rel.get0 (r : Rel s g loc) : (0 : Int) = rd loc 0 := r.l0.symm
end

theorem getD_set_same {α : Type} {l : List α} {i : Nat} {x d : α} (h : i < l.length) : (l.set i x).getD i d = x := by simp [List.getD, h]
theorem getD_set_other {α : Type} {l : List α} {i j : Nat} {x d : α} (h : i ≠ j) : (l.set i x).getD j d = l.getD j d := by simp [List.getD, h]

/-- one word of an object turns, and so does its node -/
theorem Rel.word {s : CoreS} {g : GraphS} {loc : List Int} (r : Rel s g loc) (f : s.Fine) {i : Int} (h : g.wrong i = 0) {k v : Int} (x : NodeS) (hp : x.ptrs.length = (g.nd i).ptrs.length) (hc : x.scal.length = (g.nd i).scal.length)
    (k0 : 0 ≤ k) (k1 : k < (g.nd i).ptrs.length + (g.nd i).scal.length)
    (pt : ∀ j : Nat, j < x.ptrs.length → (if (j : Int) = k then v else rd s.ws (rd loc (tblGet g.hs i) + 2 + j)) = rd loc (rd x.ptrs j) ∧ 0 ≤ rd x.ptrs j ∧ rd x.ptrs j < g.nodes.length)
    (sc : ∀ j : Nat, j < x.scal.length → (if (x.ptrs.length : Int) + j = k then v else rd s.ws (rd loc (tblGet g.hs i) + 2 + (x.ptrs.length + j))) = rd x.scal j) :
    Rel { s with ws := stW s.ws (rd loc (tblGet g.hs i) + 2 + k) v } (g.putN i x) loc := by
  obtain ⟨hH, hO, hz⟩ := r.held f h
  have hv := r.hval i
  have hlen : (g.putN i x).nodes.length = g.nodes.length := by simp [GraphS.putN]
  have o1 := hO.o1
  have o2 := hO.o2
  have hin : 0 ≤ rd loc (tblGet g.hs i) + 2 + k ∧ rd loc (tblGet g.hs i) + 2 + k < s.ws.length := by
    have := hH.o2
    have e : (hdOf (g.nd i).ptrs.length (g.nd i).scal.length).words = (g.nd i).ptrs.length + (g.nd i).scal.length + 2 := rfl
    rw [e] at this
    omega
  have hrd : ∀ j, rd (stW s.ws (rd loc (tblGet g.hs i) + 2 + k) v) j = if j = rd loc (tblGet g.hs i) + 2 + k then v else rd s.ws j := fun j => rd_st hin.1 hin.2 v j
  have hnode : ∀ n : Nat, (g.putN i x).nodes.getD n nd0 = if n = (tblGet g.hs i).toNat then x else g.nodes.getD n nd0 := by
    intro n
    unfold GraphS.putN
    by_cases e : n = (tblGet g.hs i).toNat
    · rw [if_pos e, e]
      exact getD_set_same (by omega)
    · rw [if_neg e]
      exact getD_set_other (by omega)
  have hwd : ∀ n : Nat, ((g.putN i x).nodes.getD n nd0).wd = (g.nodes.getD n nd0).wd := by
    intro n
    rw [hnode]
    split
    · rename_i e
      subst e
      unfold NodeS.wd
      rw [hp, hc]
      rfl
    · rfl
  refine ⟨?_, by rw [hlen]; exact r.l1, r.l0, r.hs, ?_, r.lg, ?_, ?_⟩
  · rw [hlen]; exact r.ll
  · rw [hlen]; exact r.hv
  · intro n n0 n1
    rw [hlen] at n1 ⊢
    have hob := r.ob n n0 n1
    rw [hnode]
    by_cases e : n = (tblGet g.hs i).toNat
    · rw [if_pos e]
      have en : ((n : Nat) : Int) = tblGet g.hs i := by omega
      rw [en]
      refine ⟨o1, ?_, ?_, ?_, ?_, ?_⟩
      · have : x.wd = (g.nd i).wd := by unfold NodeS.wd; rw [hp, hc]
        rw [this]
        exact o2
      · rw [hp, hc]
        exact hO.sz
      · show rd (stW s.ws _ v) _ = _
        rw [hrd, if_neg (by omega), hp, hc]
        exact hO.hd
      · intro j hj
        have := pt j hj
        refine ⟨?_, this.2⟩
        rw [← this.1]
        show rd (stW s.ws _ v) _ = _
        rw [hrd]
        by_cases e : (j : Int) = k
        · rw [if_pos e, if_pos (by omega)]
        · rw [if_neg e, if_neg (by omega)]
      · intro j hj
        rw [← sc j hj]
        show rd (stW s.ws _ v) _ = _
        rw [hrd]
        by_cases e : (x.ptrs.length : Int) + j = k
        · rw [if_pos e, if_pos (by omega)]
        · rw [if_neg e, if_neg (by omega)]
    · rw [if_neg e]
      -- objects beside it
      have hdis : rd loc n + (g.nodes.getD n nd0).wd ≤ rd loc (tblGet g.hs i) ∨ rd loc (tblGet g.hs i) + (g.nd i).wd ≤ rd loc n := by
        have en : (((tblGet g.hs i).toNat : Nat) : Int) = tblGet g.hs i := by omega
        by_cases hlt : n < (tblGet g.hs i).toNat
        · have := r.od n (tblGet g.hs i).toNat n0 hlt (by omega)
          rw [en] at this
          exact .inl this
        · have := r.od (tblGet g.hs i).toNat n (by omega) (by omega) n1
          rw [en] at this
          exact .inr this
      have hsame : ∀ q, rd loc n ≤ q → q < rd loc n + (g.nodes.getD n nd0).wd → rd (stW s.ws (rd loc (tblGet g.hs i) + 2 + k) v) q = rd s.ws q := by
        intro q q0 q1
        rw [hrd, if_neg]
        unfold NodeS.wd at *
        omega
      refine ⟨hob.o1, hob.o2, hob.sz, ?_, ?_, ?_⟩
      · show rd (stW s.ws _ v) _ = _
        rw [hsame _ (by omega) (by unfold NodeS.wd; omega)]
        exact hob.hd
      · intro j hj
        show rd (stW s.ws _ v) _ = _ ∧ _
        rw [hsame _ (by omega) (by unfold NodeS.wd; omega)]
        exact hob.pt j hj
      · intro j hj
        show rd (stW s.ws _ v) _ = _
        rw [hsame _ (by omega) (by unfold NodeS.wd; omega)]
        exact hob.sc j hj
  · intro n m n0 nm m1
    rw [hlen] at m1
    rw [hwd]
    exact r.od n m n0 nm m1

end Go.Proofs.YtglbhcoikgbcmaaGreat
