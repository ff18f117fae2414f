/- A row of entries that came in. Condition: none. -/
import Derived.Test.YtnmbehogiioonaaDoorT23Asm
import Derived.ChangeSame
import Derived.Carry
set_option linter.unusedVariables false
set_option linter.unusedSimpArgs false
namespace Go.Proofs.YtnmbehogiioonaaDoor
open Go.ChangeShapes Go.WideShapes Go.ChangeAt Go.RowKit Go.Joins Go.Deep Go.Shelf

section
variable {H : Type} {enc : TypeId × Value → H} {P : Program} {w : World} {base : Nat} {spare : Nat → Bool} {held : Bool}
theorem open_slice_fields {t e : TypeId} {fs : Array Field} {fuel : Nat} {cs : List Value} {x : DataW H × List MemPlace} (ht : P.underlying t = some (.slice e)) (he : P.underlying e = some (.struct fs))
    (hone : oneCellFields P fs = true) (hC : P.cellsOf e = fs.size) (h : DataW.trod enc P w base spare held fuel t cs = some x) :
    (cs = [.slice none 0 0] ∧ x = (.nil, [])) ∨
    ∃ (a : Addr) (len cap m : Nat) (D : Nat → DataW H) (Pl : Nat → List MemPlace), cs = [.slice (some a) len cap] ∧ base ≤ a.block ∧ len ≤ cap ∧ cap ≤ maxLen ∧ m = (if spare a.block then cap else len) ∧
      x = (.slice ((List.range len).map D) ((List.range (m - len)).map fun j => D (len + j)), MemPlace.row a (m * fs.size) ++ (List.range m).flatMap Pl) ∧
      ∀ i, i < m → ∃ (ys : List (DataW H × List MemPlace)) (n : Nat), D i = .agg (ys.map (·.1)) ∧ Pl i = ys.flatMap (·.2) ∧ ys.length = fs.size ∧
        ∀ (j : Nat) (f : Field), fs[j]? = some f → ∃ (v : Value) (y : DataW H × List MemPlace), w.cell? (a.add (i * fs.size + j)) = some v ∧ ys[j]? = some y ∧ DataW.trod enc P w base spare held n f.type [v] = some y := by
  rcases open_slice ht h with h0 | ⟨a, len, cap, m, n, D, Pl, hcs, hb, hl, hm, hmm, hx, hi⟩
  · exact .inl h0
  · refine .inr ⟨a, len, cap, m, D, Pl, hcs, hb, hl, hm, hmm, by rw [hC] at hx; exact hx, fun i him => ?_⟩
    obtain ⟨cs', hc, ht'⟩ := hi i him
    rw [hC] at hc
    obtain ⟨ys, n', hn', hy, hlen, hyl, hf⟩ := DataW.trod_struct he ht'
    obtain ⟨_, hcl, hat⟩ := World.cells?_some hc
    simp only [Prod.mk.injEq] at hy
    refine ⟨ys, n', hy.1, hy.2, hyl, fun j f hj => ?_⟩
    obtain ⟨ho, hk⟩ := hone_of hone j f hj
    have hjl : j < fs.size := (Array.getElem?_eq_some_iff.1 hj).1
    have hcell := hat j hjl
    have hv : cs'[j]? = some (cs'[j]'(by omega)) := List.getElem?_eq_getElem (by omega)
    have h1 := hf j f hj
    rw [ho, hk] at h1
    have hone' : (cs'.drop j).take 1 = [cs'[j]'(by omega)] := by
      rw [List.drop_eq_getElem_cons (by omega)]
      rfl
    rw [hone'] at h1
    have hys : ys[j]? = some (ys[j]'(by omega)) := List.getElem?_eq_getElem (by omega)
    refine ⟨_, _, ?_, hys, h1.trans hys⟩
    rw [← Go.Deep.add_add, hcell, hv]
end

theorem list_of {α : Type} {P : Nat → α → Prop} : ∀ (n : Nat), (∀ i, i < n → ∃ x, P i x) → ∃ l : List α, l.length = n ∧ ∀ i (h : i < l.length), P i l[i] := by
  intro n
  induction n with
  | zero => intro _; exact ⟨[], rfl, fun i h => by simp at h⟩
  | succ n ih =>
    intro h
    obtain ⟨l, hl, hp⟩ := ih fun i hi => h i (by omega)
    obtain ⟨x, hx⟩ := h n (by omega)
    refine ⟨l ++ [x], by simp [hl], fun i hi => ?_⟩
    rw [List.getElem_append]
    split
    · exact hp i _
    · rename_i hge
      simp at hi
      have : i = n := by omega
      subst this
      simpa [hl] using hx

/-- what is owed behind a call that laid blocks beside what there was, scripts among the arguments -/

structure EntI where
  kind : Int
  a : Int
  b : Int
  c : Int
  v : Int
def EntI.ent (x : EntI) : EntS := ⟨x.kind, x.a, x.b, x.c, x.v.toNat⟩

/-- a row that came in: entries, one behind the other, in memory -/
structure IsEntI (w : World) (v : Value) (l : List EntI) : Prop where
  fits : ∀ x ∈ l, (Lit.int .i64 x.kind).wf = true ∧ (Lit.int .i64 x.a).wf = true ∧ (Lit.int .i64 x.b).wf = true ∧ (Lit.int .i64 x.c).wf = true ∧ (Lit.int .u64 x.v).wf = true
  len : l.length ≤ 9223372036854775807
  shape : ∃ ao cap, v = .slice ao l.length cap ∧ ∀ i (h : i < l.length), ∃ b off, ao = some ⟨b, off, none⟩ ∧ b < w.heap.size ∧
    w.cell? ⟨b, off + i * 5, none⟩ = some (.int .i64 l[i].kind) ∧ w.cell? ⟨b, off + i * 5 + 1, none⟩ = some (.int .i64 l[i].a) ∧ w.cell? ⟨b, off + i * 5 + 2, none⟩ = some (.int .i64 l[i].b) ∧ w.cell? ⟨b, off + i * 5 + 3, none⟩ = some (.int .i64 l[i].c) ∧ w.cell? ⟨b, off + i * 5 + 4, none⟩ = some (.int .u64 l[i].v)

set_option maxRecDepth 100000 in
theorem open_enti {H : Type} {enc : TypeId × Value → H} {w : World} {v : Value} {d : DataW H} {p : List MemPlace} {r : Reach} {b0 : Nat}
    (hv : Value.okWide Tryd.prog w r b0 35 v) (h : DataW.Trod enc Tryd.prog w 0 (fun _ => true) true 35 v d p) : ∃ l, IsEntI w v l := by
  obtain ⟨a0, len0, cap0, rfl⟩ := okWide_slice Tryd.underlying35 hv
  obtain ⟨fuel, hf⟩ := h
  rcases open_slice_fields Tryd.underlying35 Tryd.underlying24 (by kernel_rfl) (by kernel_rfl) hf with ⟨hcs, _⟩ | ⟨a, len, cap, m, D, Pl, hcs, _, hl, hm, hmm, _, hi⟩
  · simp [Value.cells] at hcs
    obtain ⟨rfl, rfl, rfl⟩ := hcs
    exact ⟨[], by simp, by simp, none, 0, rfl, fun i h => by simp at h⟩
  · simp [Value.cells] at hcs
    obtain ⟨rfl, rfl, rfl⟩ := hcs
    simp only [if_true] at hmm
    subst hmm
    have key : ∀ i, i < len0 → ∃ x : EntI, ((Lit.int .i64 x.kind).wf = true ∧ (Lit.int .i64 x.a).wf = true ∧ (Lit.int .i64 x.b).wf = true ∧ (Lit.int .i64 x.c).wf = true ∧ (Lit.int .u64 x.v).wf = true) ∧ ∃ b off, a = ⟨b, off, none⟩ ∧ b < w.heap.size ∧ w.cell? ⟨b, off + i * 5, none⟩ = some (.int .i64 x.kind) ∧ w.cell? ⟨b, off + i * 5 + 1, none⟩ = some (.int .i64 x.a) ∧ w.cell? ⟨b, off + i * 5 + 2, none⟩ = some (.int .i64 x.b) ∧ w.cell? ⟨b, off + i * 5 + 3, none⟩ = some (.int .i64 x.c) ∧ w.cell? ⟨b, off + i * 5 + 4, none⟩ = some (.int .u64 x.v) := by
      intro i hil
      obtain ⟨ys, n, _, _, _, hfs⟩ := hi i (by omega)
      obtain ⟨v0, y0, c0, _, t0⟩ := hfs 0 _ rfl
      obtain ⟨v1, y1, c1, _, t1⟩ := hfs 1 _ rfl
      obtain ⟨v2, y2, c2, _, t2⟩ := hfs 2 _ rfl
      obtain ⟨v3, y3, c3, _, t3⟩ := hfs 3 _ rfl
      obtain ⟨v4, y4, c4, _, t4⟩ := hfs 4 _ rfl
      obtain ⟨n0, e0, _, w0⟩ := DataW.trod_int Tryd.underlying3 t0
      obtain ⟨n1, e1, _, w1⟩ := DataW.trod_int Tryd.underlying3 t1
      obtain ⟨n2, e2, _, w2⟩ := DataW.trod_int Tryd.underlying3 t2
      obtain ⟨n3, e3, _, w3⟩ := DataW.trod_int Tryd.underlying3 t3
      obtain ⟨n4, e4, _, w4⟩ := DataW.trod_int Tryd.underlying22 t4
      simp only [List.cons.injEq, and_true] at e0 e1 e2 e3 e4
      subst e0 e1 e2 e3 e4
      obtain ⟨_, _, _, _, _, hz⟩ := hi 0 (by omega)
      obtain ⟨_, _, cz, _, _⟩ := hz 0 _ rfl
      obtain ⟨b, off, spot⟩ := a
      have hspot : spot = none := by simpa [Addr.add] using World.cell?_spot cz
      subst hspot
      have hbl := World.block_lt_of_cell? w _ c0
      simp only [Addr.add_lit, List.size_toArray, List.length_cons, List.length_nil, Nat.zero_add, Nat.add_zero, ← Nat.add_assoc] at c0 c1 c2 c3 c4 hbl
      exact ⟨⟨n0, n1, n2, n3, n4⟩, ⟨w0, w1, w2, w3, w4⟩, b, off, rfl, hbl, c0, c1, c2, c3, c4⟩
    obtain ⟨l, hll, hp⟩ := list_of len0 key
    subst hll
    have hmem : ∀ x ∈ l, (Lit.int .i64 x.kind).wf = true ∧ (Lit.int .i64 x.a).wf = true ∧ (Lit.int .i64 x.b).wf = true ∧ (Lit.int .i64 x.c).wf = true ∧ (Lit.int .u64 x.v).wf = true := by
      intro x hx
      obtain ⟨i, hi, rfl⟩ := List.getElem_of_mem hx
      exact (hp i hi).1
    refine ⟨l, hmem, by unfold maxLen at hm; omega, some a, _, rfl, fun i hi => ?_⟩
    obtain ⟨_, b, off, rfl, hh⟩ := hp i hi
    exact ⟨b, off, rfl, hh⟩


/-- a row of entries that came in, as entries -/
structure IsEnts (w : World) (v : Value) (l : List EntS) : Prop where
  ok : ∀ x ∈ l, x.Ok
  len : l.length ≤ 9223372036854775807
  shape : ∃ ao cap, v = .slice ao l.length cap ∧ ∀ i (h : i < l.length), ∃ b off, ao = some ⟨b, off, none⟩ ∧ b < w.heap.size ∧
    ∀ k u, (entCells l[i])[k]? = some u → w.cell? ⟨b, off + i * 5 + k, none⟩ = some u

set_option maxRecDepth 100000 in
theorem open_steps {H : Type} {enc : TypeId × Value → H} {w : World} {v : Value} {d : DataW H} {p : List MemPlace} {r : Reach} {b0 : Nat}
    (hv : Value.okWide Tryd.prog w r b0 35 v) (h : DataW.Trod enc Tryd.prog w 0 (fun _ => true) true 35 v d p) : ∃ l, IsEnts w v l := by
  obtain ⟨l, hf, hl, ao, cap, hs, hc⟩ := open_enti hv h
  have hv0 : ∀ x ∈ l, ((x.v.toNat : Nat) : Int) = x.v := by
    intro x hx
    have := U64_wf (hf x hx).2.2.2.2
    unfold U64 at this
    omega
  refine ⟨l.map EntI.ent, ?_, by simpa using hl, ao, cap, by simpa using hs, ?_⟩
  · intro x hx
    obtain ⟨y, hy, rfl⟩ := List.mem_map.1 hx
    obtain ⟨w0, w1, w2, w3, w4⟩ := hf y hy
    exact ⟨I64_wf w0, I64_wf w1, I64_wf w2, I64_wf w3, by have := U64_wf w4; unfold U64 at this; show y.v.toNat < _; omega⟩
  · intro i hi
    have hi' : i < l.length := by simpa using hi
    obtain ⟨b, off, e, hb, c0, c1, c2, c3, c4⟩ := hc i hi'
    refine ⟨b, off, e, hb, fun k u hu => ?_⟩
    have hvi := hv0 _ (List.getElem_mem hi')
    simp only [List.getElem_map, EntI.ent, entCells, hvi] at hu
    rcases (by omega : k = 0 ∨ k = 1 ∨ k = 2 ∨ k = 3 ∨ k = 4 ∨ 5 ≤ k) with rfl | rfl | rfl | rfl | rfl | h5
    · simp at hu; subst hu; exact c0
    · simp at hu; subst hu; exact c1
    · simp at hu; subst hu; exact c2
    · simp at hu; subst hu; exact c3
    · simp at hu; subst hu; exact c4
    · rw [Array.getElem?_eq_none (by simp; omega)] at hu; cases hu

end Go.Proofs.YtnmbehogiioonaaDoor
