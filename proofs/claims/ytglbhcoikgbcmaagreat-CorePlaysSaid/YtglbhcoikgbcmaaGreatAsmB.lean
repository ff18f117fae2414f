/- A configuration, and a script, as arguments. Conditions: none. -/
import Derived.Test.YtglbhcoikgbcmaaGreatRows
import Derived.Test.YtglbhcoikgbcmaaGreatAsm
import Derived.Test.YtglbhcoikgbcmaaGreatWords
import Derived.Deep.Slices
import Derived.Deep.Fields
import Derived.ChangeSame
import Derived.Carry
set_option linter.unusedVariables false
set_option linter.unusedSimpArgs false
namespace Go.Proofs.YtglbhcoikgbcmaaGreat
open Go.ChangeShapes Go.WideShapes Go.ChangeAt Go.RowKit Go.Joins Go.Deep

theorem list13 {α : Type} {l : List α} (h : l.length = 13) : ∃ c0 c1 c2 c3 c4 c5 c6 c7 c8 c9 c10 c11 c12, l = [c0, c1, c2, c3, c4, c5, c6, c7, c8, c9, c10, c11, c12] := by
  match l, h with
  | [c0, c1, c2, c3, c4, c5, c6, c7, c8, c9, c10, c11, c12], _ => exact ⟨c0, c1, c2, c3, c4, c5, c6, c7, c8, c9, c10, c11, c12, rfl⟩
def cfgData {H : Type} (s : Cfg) : DataW H := .agg [.lit (.int .i64 s.handles), .lit (.int .i64 s.nursery), .lit (.int .i64 s.pages), .lit (.int .i64 s.page), .lit (.int .i64 s.card), .lit (.int .i64 s.buffer), .lit (.int .i64 s.stack), .lit (.int .i64 s.tenure), .lit (.int .i64 s.largest), .lit (.int .i64 s.minor), .lit (.int .i64 s.major), .lit (.int .i64 s.minorAt), .lit (.int .i64 s.majorAt)]
def Cfg.Nums (s : Cfg) : Prop := (Lit.int .i64 s.handles).wf = true ∧ (Lit.int .i64 s.nursery).wf = true ∧ (Lit.int .i64 s.pages).wf = true ∧ (Lit.int .i64 s.page).wf = true ∧ (Lit.int .i64 s.card).wf = true ∧ (Lit.int .i64 s.buffer).wf = true ∧ (Lit.int .i64 s.stack).wf = true ∧ (Lit.int .i64 s.tenure).wf = true ∧ (Lit.int .i64 s.largest).wf = true ∧ (Lit.int .i64 s.minor).wf = true ∧ (Lit.int .i64 s.major).wf = true ∧ (Lit.int .i64 s.minorAt).wf = true ∧ (Lit.int .i64 s.majorAt).wf = true

set_option maxRecDepth 100000 in
theorem open_cfg {H : Type} {enc : TypeId × Value → H} {w : World} {base : Nat} {spare : Nat → Bool} {held : Bool} {r : Reach} {b0 : Nat} {v : Value} {d : DataW H} {p : List MemPlace}
    (hv : Value.okWide Tryz.prog w r b0 24 v) (h : DataW.Trod enc Tryz.prog w base spare held 24 v d p) :
    ∃ s : Cfg, v = .agg (cfgCells s) ∧ d = cfgData s ∧ p = [] ∧ s.Nums := by
  obtain ⟨cs, rfl, hsz⟩ := okWide_struct Tryz.underlying24 hv
  obtain ⟨fuel, hf⟩ := h
  obtain ⟨xs, n, _, hx, hl, hlen, hfs⟩ := DataW.trod_struct Tryz.underlying24 hf
  have hC : Tryz.prog.cellsOf 24 = 13 := by kernel_rfl
  obtain ⟨cl⟩ := cs
  have hsz5 : cl.length = 13 := by simpa using hsz.trans hC
  obtain ⟨c0, c1, c2, c3, c4, c5, c6, c7, c8, c9, c10, c11, c12, rfl⟩ := list13 hsz5
  obtain ⟨y0, y1, y2, y3, y4, y5, y6, y7, y8, y9, y10, y11, y12, rfl⟩ := list13 (hlen.trans rfl)
  have h0 := hfs 0 _ rfl
  have h1 := hfs 1 _ rfl
  have h2 := hfs 2 _ rfl
  have h3 := hfs 3 _ rfl
  have h4 := hfs 4 _ rfl
  have h5 := hfs 5 _ rfl
  have h6 := hfs 6 _ rfl
  have h7 := hfs 7 _ rfl
  have h8 := hfs 8 _ rfl
  have h9 := hfs 9 _ rfl
  have h10 := hfs 10 _ rfl
  have h11 := hfs 11 _ rfl
  have h12 := hfs 12 _ rfl
  have k1 : Tryz.prog.cellsOf 3 = 1 := by kernel_rfl
  simp [Value.cells, k1] at h0 h1 h2 h3 h4 h5 h6 h7 h8 h9 h10 h11 h12
  obtain ⟨n0, e0, rfl, w0⟩ := DataW.trod_int Tryz.underlying3 h0
  obtain ⟨n1, e1, rfl, w1⟩ := DataW.trod_int Tryz.underlying3 h1
  obtain ⟨n2, e2, rfl, w2⟩ := DataW.trod_int Tryz.underlying3 h2
  obtain ⟨n3, e3, rfl, w3⟩ := DataW.trod_int Tryz.underlying3 h3
  obtain ⟨n4, e4, rfl, w4⟩ := DataW.trod_int Tryz.underlying3 h4
  obtain ⟨n5, e5, rfl, w5⟩ := DataW.trod_int Tryz.underlying3 h5
  obtain ⟨n6, e6, rfl, w6⟩ := DataW.trod_int Tryz.underlying3 h6
  obtain ⟨n7, e7, rfl, w7⟩ := DataW.trod_int Tryz.underlying3 h7
  obtain ⟨n8, e8, rfl, w8⟩ := DataW.trod_int Tryz.underlying3 h8
  obtain ⟨n9, e9, rfl, w9⟩ := DataW.trod_int Tryz.underlying3 h9
  obtain ⟨n10, e10, rfl, w10⟩ := DataW.trod_int Tryz.underlying3 h10
  obtain ⟨n11, e11, rfl, w11⟩ := DataW.trod_int Tryz.underlying3 h11
  obtain ⟨n12, e12, rfl, w12⟩ := DataW.trod_int Tryz.underlying3 h12
  simp only [List.cons.injEq, and_true] at e0 e1 e2 e3 e4 e5 e6 e7 e8 e9 e10 e11 e12
  subst e0 e1 e2 e3 e4 e5 e6 e7 e8 e9 e10 e11 e12
  simp at hx
  exact ⟨⟨n0, n1, n2, n3, n4, n5, n6, n7, n8, n9, n10, n11, n12⟩, rfl, hx.1, hx.2, w0, w1, w2, w3, w4, w5, w6, w7, w8, w9, w10, w11, w12⟩

theorem shut_cfg {H : Type} {enc : TypeId × Value → H} {w : World} {base : Nat} {spare : Nat → Bool} {held : Bool} {s : Cfg} (hs : s.Nums) :
    DataW.Trod enc Tryz.prog w base spare held 24 (.agg (cfgCells s)) (cfgData s) [] := by
  obtain ⟨w0, w1, w2, w3, w4, w5, w6, w7, w8, w9, w10, w11, w12⟩ := hs
  have hC : Tryz.prog.cellsOf 24 = 13 := by kernel_rfl
  have k1 : Tryz.prog.cellsOf 3 = 1 := by kernel_rfl
  have := trod_struct_mk (enc := enc) (w := w) (base := base) (spare := spare) (held := held) (n := 1) (cs := (cfgCells s).toList) (xs := [(.lit (.int .i64 s.handles), []), (.lit (.int .i64 s.nursery), []), (.lit (.int .i64 s.pages), []), (.lit (.int .i64 s.page), []), (.lit (.int .i64 s.card), []), (.lit (.int .i64 s.buffer), []), (.lit (.int .i64 s.stack), []), (.lit (.int .i64 s.tenure), []), (.lit (.int .i64 s.largest), []), (.lit (.int .i64 s.minor), []), (.lit (.int .i64 s.major), []), (.lit (.int .i64 s.minorAt), []), (.lit (.int .i64 s.majorAt), [])]) Tryz.underlying24 (by simp [cfgCells, hC])
    (by simp [cfgCells, k1, DataW.trod, Tryz.underlying3, w0, w1, w2, w3, w4, w5, w6, w7, w8, w9, w10, w11, w12])
  exact ⟨_, by simpa [Value.cells, cfgData] using this⟩

section
variable {H : Type} {enc : TypeId × Value → H} {P : Program} {w : World} {base : Nat} {spare : Nat → Bool} {held : Bool}
theorem open_slice_fields {t e : TypeId} {fs : Array Field} {fuel : Nat} {cs : List Value} {x : DataW H × List MemPlace} (ht : P.underlying t = some (.slice e)) (he : P.underlying e = some (.struct fs))
    (hone : oneCellFields P fs = true) (hC : P.cellsOf e = fs.size) (h : DataW.trod enc P w base spare held fuel t cs = some x) :
    (cs = [.slice none 0 0] ∧ x = (.nil, [])) ∨
    ∃ (a : Addr) (len cap m : Nat) (D : Nat → DataW H) (Pl : Nat → List MemPlace), cs = [.slice (some a) len cap] ∧ base ≤ a.block ∧ len ≤ cap ∧ cap ≤ maxLen ∧ m = (if spare a.block then cap else len) ∧
      x = (.slice ((List.range len).map D) ((List.range (m - len)).map fun j => D (len + j)), MemPlace.row a (m * fs.size) ++ (List.range m).flatMap Pl) ∧
      ∀ i, i < m → ∃ (ys : List (DataW H × List MemPlace)) (n : Nat), D i = .agg (ys.map (·.1)) ∧ Pl i = ys.flatMap (·.2) ∧ ys.length = fs.size ∧
        ∀ (j : Nat) (f : Field), fs[j]? = some f → ∃ (v : Value) (y : DataW H × List MemPlace), w.cell? (a.add (i * fs.size + j)) = some v ∧ ys[j]? = some y ∧ DataW.trod enc P w base spare held n f.type [v] = some y := by
  rcases open_slice ht h with h0 | ⟨a, len, cap, m, n, D, Pl, hcs, hb, hl, hm, hmm, hx, hi⟩
  · exact .inl h0
  · refine .inr ⟨a, len, cap, m, D, Pl, hcs, hb, hl, hm, hmm, by rw [hC] at hx; exact hx, fun i him => ?_⟩
    obtain ⟨cs', hc, ht'⟩ := hi i him
    rw [hC] at hc
    obtain ⟨ys, n', hn', hy, hlen, hyl, hf⟩ := DataW.trod_struct he ht'
    obtain ⟨_, hcl, hat⟩ := World.cells?_some hc
    simp only [Prod.mk.injEq] at hy
    refine ⟨ys, n', hy.1, hy.2, hyl, fun j f hj => ?_⟩
    obtain ⟨ho, hk⟩ := hone_of hone j f hj
    have hjl : j < fs.size := (Array.getElem?_eq_some_iff.1 hj).1
    have hcell := hat j hjl
    have hv : cs'[j]? = some (cs'[j]'(by omega)) := List.getElem?_eq_getElem (by omega)
    have h1 := hf j f hj
    rw [ho, hk] at h1
    have hone' : (cs'.drop j).take 1 = [cs'[j]'(by omega)] := by
      rw [List.drop_eq_getElem_cons (by omega)]
      rfl
    rw [hone'] at h1
    have hys : ys[j]? = some (ys[j]'(by omega)) := List.getElem?_eq_getElem (by omega)
    refine ⟨_, _, ?_, hys, h1.trans hys⟩
    rw [← Go.Deep.add_add, hcell, hv]
end

/-- a script that came in: entries, one behind the other, in memory -/
structure IsScript (w : World) (v : Value) (l : List StepS) : Prop where
  fits : ∀ x ∈ l, x.Fits
  len : l.length ≤ 9223372036854775807
  shape : ∃ ao cap, v = .slice ao l.length cap ∧ ∀ i (h : i < l.length), ∃ b off, ao = some ⟨b, off, none⟩ ∧ b < w.heap.size ∧
    w.cell? ⟨b, off + i * 5, none⟩ = some (.int .i64 l[i].kind) ∧ w.cell? ⟨b, off + i * 5 + 1, none⟩ = some (.int .i64 l[i].a) ∧ w.cell? ⟨b, off + i * 5 + 2, none⟩ = some (.int .i64 l[i].b) ∧ w.cell? ⟨b, off + i * 5 + 3, none⟩ = some (.int .i64 l[i].c) ∧ w.cell? ⟨b, off + i * 5 + 4, none⟩ = some (.int .u64 l[i].v)

theorem list_of {α : Type} {P : Nat → α → Prop} : ∀ (n : Nat), (∀ i, i < n → ∃ x, P i x) → ∃ l : List α, l.length = n ∧ ∀ i (h : i < l.length), P i l[i] := by
  intro n
  induction n with
  | zero => intro _; exact ⟨[], rfl, fun i h => by simp at h⟩
  | succ n ih =>
    intro h
    obtain ⟨l, hl, hp⟩ := ih fun i hi => h i (by omega)
    obtain ⟨x, hx⟩ := h n (by omega)
    refine ⟨l ++ [x], by simp [hl], fun i hi => ?_⟩
    rw [List.getElem_append]
    split
    · exact hp i _
    · rename_i hge
      simp at hi
      have : i = n := by omega
      subst this
      simpa [hl] using hx

theorem List_wf_mem {l : List StepS} (h : ∀ i (hi : i < l.length), l[i].Fits) : ∀ x ∈ l, x.Fits := by
  intro x hx
  obtain ⟨i, hi, rfl⟩ := List.getElem_of_mem hx
  exact h i hi

set_option maxRecDepth 100000 in
theorem open_steps {H : Type} {enc : TypeId × Value → H} {w : World} {v : Value} {d : DataW H} {p : List MemPlace} {r : Reach} {b0 : Nat}
    (hv : Value.okWide Tryz.prog w r b0 22 v) (h : DataW.Trod enc Tryz.prog w 0 (fun _ => true) true 22 v d p) : ∃ l, IsScript w v l := by
  obtain ⟨a0, len0, cap0, rfl⟩ := okWide_slice Tryz.underlying22 hv
  obtain ⟨fuel, hf⟩ := h
  rcases open_slice_fields Tryz.underlying22 Tryz.underlying35 (by kernel_rfl) (by kernel_rfl) hf with ⟨hcs, _⟩ | ⟨a, len, cap, m, D, Pl, hcs, _, hl, hm, hmm, _, hi⟩
  · simp [Value.cells] at hcs
    obtain ⟨rfl, rfl, rfl⟩ := hcs
    exact ⟨[], by simp, by simp, none, 0, rfl, fun i h => by simp at h⟩
  · simp [Value.cells] at hcs
    obtain ⟨rfl, rfl, rfl⟩ := hcs
    simp only [if_true] at hmm
    subst hmm
    have key : ∀ i, i < len0 → ∃ x : StepS, x.Fits ∧ ∃ b off, a = ⟨b, off, none⟩ ∧ b < w.heap.size ∧ w.cell? ⟨b, off + i * 5, none⟩ = some (.int .i64 x.kind) ∧ w.cell? ⟨b, off + i * 5 + 1, none⟩ = some (.int .i64 x.a) ∧ w.cell? ⟨b, off + i * 5 + 2, none⟩ = some (.int .i64 x.b) ∧ w.cell? ⟨b, off + i * 5 + 3, none⟩ = some (.int .i64 x.c) ∧ w.cell? ⟨b, off + i * 5 + 4, none⟩ = some (.int .u64 x.v) := by
      intro i hil
      obtain ⟨ys, n, _, _, _, hfs⟩ := hi i (by omega)
      obtain ⟨v0, y0, c0, _, t0⟩ := hfs 0 _ rfl
      obtain ⟨v1, y1, c1, _, t1⟩ := hfs 1 _ rfl
      obtain ⟨v2, y2, c2, _, t2⟩ := hfs 2 _ rfl
      obtain ⟨v3, y3, c3, _, t3⟩ := hfs 3 _ rfl
      obtain ⟨v4, y4, c4, _, t4⟩ := hfs 4 _ rfl
      obtain ⟨n0, e0, _, w0⟩ := DataW.trod_int Tryz.underlying3 t0
      obtain ⟨n1, e1, _, w1⟩ := DataW.trod_int Tryz.underlying3 t1
      obtain ⟨n2, e2, _, w2⟩ := DataW.trod_int Tryz.underlying3 t2
      obtain ⟨n3, e3, _, w3⟩ := DataW.trod_int Tryz.underlying3 t3
      obtain ⟨n4, e4, _, w4⟩ := DataW.trod_int Tryz.underlying33 t4
      simp only [List.cons.injEq, and_true] at e0 e1 e2 e3 e4
      subst e0 e1 e2 e3 e4
      obtain ⟨_, _, _, _, _, hz⟩ := hi 0 (by omega)
      obtain ⟨_, _, cz, _, _⟩ := hz 0 _ rfl
      obtain ⟨b, off, spot⟩ := a
      have hspot : spot = none := by simpa [Addr.add] using World.cell?_spot cz
      subst hspot
      have hbl := World.block_lt_of_cell? w _ c0
      simp only [Addr.add_lit, List.size_toArray, List.length_cons, List.length_nil, Nat.zero_add, Nat.add_zero, ← Nat.add_assoc] at c0 c1 c2 c3 c4 hbl
      exact ⟨⟨n0, n1, n2, n3, n4⟩, ⟨w0, w1, w2, w3, w4⟩, b, off, rfl, hbl, c0, c1, c2, c3, c4⟩
    obtain ⟨l, hll, hp⟩ := list_of len0 key
    subst hll
    refine ⟨l, List_wf_mem fun i hi => (hp i hi).1, by unfold maxLen at hm; omega, some a, _, rfl, fun i hi => ?_⟩
    obtain ⟨_, b, off, rfl, hh⟩ := hp i hi
    exact ⟨b, off, rfl, hh⟩

/-- what is owed behind a call that laid blocks beside what there was, scripts among the arguments -/
theorem post_below2 {H : Type} {enc : TypeId × Value → H} {P : Program} {f : Func} {s : ChangeSpec} {apart fresh handsOn : Bool} {W W' : World} {args : Array Value} {v : Value} {ds gs : List (DataW H)} {before pa pv : List MemPlace}
    (hW : DataW.Whole enc P f.params.toList s.vars apart W args.toList ds gs before)
    (hres : ∀ (b : Nat) (sp : Nat → Bool) (hd : Bool), DataW.TrodAll enc P W' b sp hd f.resultTypes.toList (v.resultList f.resultTypes.size) (s.fn H (ds ++ gs)).results [])
    (hargs : DataW.TrodAll enc P W' 0 (fun b => decide (b < W.heap.size)) true f.params.toList args.toList (s.fn H (ds ++ gs)).args pa)
    (hvars : ∀ sp : Nat → Bool, (∀ p ∈ before, sp p.block = true) → DataW.TrodVars enc P W' sp s.vars (s.fn H (ds ++ gs)).vars pv)
    (hps : before = pa ++ pv) (hk : W.keptBut W' (· ∈ before)) : s.post enc P f apart fresh handsOn false W args v W' := by
  have hold : ∀ p ∈ before, (fun b => decide (b < W.heap.size)) p.block = true := fun p hp => by simpa using hW.lt p hp
  refine ⟨ds, gs, before, [], pa, pv, hW, hres _ _ _, hargs, hvars _ hold, World.keptBut_mono (fun p hp => ⟨hp, ?_⟩) hk, fun hc => by cases hc⟩
  rw [hps, List.mem_append] at hp
  exact Or.inr hp

theorem U8_wf {x : Int} (h : (Lit.int .u8 x).wf = true) : U8 x := by
  simp [Lit.wf, IntKind.min, IntKind.max, IntKind.signed, IntKind.bits] at h
  unfold U8
  omega
theorem U64_wf {x : Int} (h : (Lit.int .u64 x).wf = true) : U64 x := by
  simp [Lit.wf, IntKind.min, IntKind.max, IntKind.signed, IntKind.bits] at h
  unfold U64
  omega
theorem I64_wf {x : Int} (h : (Lit.int .i64 x).wf = true) : I64 x := by
  simp [Lit.wf, IntKind.min, IntKind.max, IntKind.signed, IntKind.bits] at h
  unfold I64
  omega

theorem StepS.Fits.v {x : StepS} (h : x.Fits) : U64 x.v := by
  obtain ⟨_, _, _, _, h⟩ := h
  simp [Lit.wf, IntKind.min, IntKind.max, IntKind.signed, IntKind.bits] at h
  unfold U64
  omega

end Go.Proofs.YtglbhcoikgbcmaaGreat
