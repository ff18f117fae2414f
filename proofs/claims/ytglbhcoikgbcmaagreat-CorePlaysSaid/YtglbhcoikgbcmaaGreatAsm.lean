/- Small words for rows whose arguments are numbers and entries, and whose walk makes blocks. Conditions: none. -/
import Derived.Test.YtglbhcoikgbcmaaGreatRows
import Derived.Test.YtglbhcoikgbcmaaGreatLawD
import Derived.ProofKit
import Derived.Below
import Derived.Lib.SmallJoins
set_option linter.unusedVariables false
set_option linter.unusedSimpArgs false
namespace Go.Proofs.YtglbhcoikgbcmaaGreat
open Go.ChangeShapes Go.WideShapes Go.ChangeAt Go.RowKit Go.Joins

theorem Tryz.own : ownKnob Tryz.prog.godebug = none := by kernel_rfl
theorem Tryz.laidOut : laidOutB Tryz.prog = true := by kernel_rfl

/-- what is owed behind a call that laid blocks beside what there was -/
theorem post_below {H : Type} {enc : TypeId × Value → H} {P : Program} {f : Func} {s : ChangeSpec} {apart fresh handsOn : Bool} {W W' : World} {args : Array Value} {v : Value} {ds gs : List (DataW H)} {before pa pv : List MemPlace}
    (hW : DataW.Whole enc P f.params.toList s.vars apart W args.toList ds gs before)
    (hres : ∀ (b : Nat) (sp : Nat → Bool) (hd : Bool), DataW.TrodAll enc P W' b sp hd f.resultTypes.toList (v.resultList f.resultTypes.size) (s.fn H (ds ++ gs)).results [])
    (hargs : ∀ sp : Nat → Bool, (∀ p ∈ before, sp p.block = true) → DataW.TrodAll enc P W' 0 sp true f.params.toList args.toList (s.fn H (ds ++ gs)).args pa)
    (hvars : ∀ sp : Nat → Bool, (∀ p ∈ before, sp p.block = true) → DataW.TrodVars enc P W' sp s.vars (s.fn H (ds ++ gs)).vars pv)
    (hps : before = pa ++ pv) (hk : W.keptBut W' (· ∈ before)) : s.post enc P f apart fresh handsOn false W args v W' := by
  have hold : ∀ p ∈ before, (fun b => decide (b < W.heap.size)) p.block = true := fun p hp => by simpa using hW.lt p hp
  refine ⟨ds, gs, before, [], pa, pv, hW, hres _ _ _, hargs _ hold, hvars _ hold, World.keptBut_mono (fun p hp => ⟨hp, ?_⟩) hk, fun hc => by cases hc⟩
  rw [hps, List.mem_append] at hp
  exact Or.inr hp

theorem list5 {α : Type} {l : List α} (h : l.length = 5) : ∃ a b c d e, l = [a, b, c, d, e] := by
  match l, h with
  | [a, b, c, d, e], _ => exact ⟨a, b, c, d, e, rfl⟩

/-- an entry's data -/
def stepData {H : Type} (s : StepS) : DataW H := .agg [.lit (.int .i64 s.kind), .lit (.int .i64 s.a), .lit (.int .i64 s.b), .lit (.int .i64 s.c), .lit (.int .u64 s.v)]
def StepS.Fits (s : StepS) : Prop := (Lit.int .i64 s.kind).wf = true ∧ (Lit.int .i64 s.a).wf = true ∧ (Lit.int .i64 s.b).wf = true ∧ (Lit.int .i64 s.c).wf = true ∧ (Lit.int .u64 s.v).wf = true

set_option maxRecDepth 100000 in
theorem open_step {H : Type} {enc : TypeId × Value → H} {w : World} {base : Nat} {spare : Nat → Bool} {held : Bool} {r : Reach} {b0 : Nat} {v : Value} {d : DataW H} {p : List MemPlace}
    (hv : Value.okWide Tryz.prog w r b0 35 v) (h : DataW.Trod enc Tryz.prog w base spare held 35 v d p) :
    ∃ s : StepS, v = .agg (stepCells s) ∧ d = stepData s ∧ p = [] ∧ s.Fits := by
  obtain ⟨cs, rfl, hsz⟩ := okWide_struct Tryz.underlying35 hv
  obtain ⟨fuel, hf⟩ := h
  obtain ⟨xs, n, _, hx, hl, hlen, hfs⟩ := DataW.trod_struct Tryz.underlying35 hf
  have hC : Tryz.prog.cellsOf 35 = 5 := by kernel_rfl
  obtain ⟨cl⟩ := cs
  have hsz5 : cl.length = 5 := by simpa using hsz.trans hC
  obtain ⟨c0, c1, c2, c3, c4, rfl⟩ := list5 hsz5
  obtain ⟨y0, y1, y2, y3, y4, rfl⟩ := list5 (hlen.trans rfl)
  have h0 := hfs 0 _ rfl
  have h1 := hfs 1 _ rfl
  have h2 := hfs 2 _ rfl
  have h3 := hfs 3 _ rfl
  have h4 := hfs 4 _ rfl
  have k1 : Tryz.prog.cellsOf 3 = 1 := by kernel_rfl
  have k2 : Tryz.prog.cellsOf 33 = 1 := by kernel_rfl
  simp [Value.cells, k1, k2] at h0 h1 h2 h3 h4
  obtain ⟨n0, e0, rfl, w0⟩ := DataW.trod_int Tryz.underlying3 h0
  obtain ⟨n1, e1, rfl, w1⟩ := DataW.trod_int Tryz.underlying3 h1
  obtain ⟨n2, e2, rfl, w2⟩ := DataW.trod_int Tryz.underlying3 h2
  obtain ⟨n3, e3, rfl, w3⟩ := DataW.trod_int Tryz.underlying3 h3
  obtain ⟨n4, e4, rfl, w4⟩ := DataW.trod_int Tryz.underlying33 h4
  simp only [List.cons.injEq, and_true] at e0 e1 e2 e3 e4
  subst e0 e1 e2 e3 e4
  simp at hx
  exact ⟨⟨n0, n1, n2, n3, n4⟩, rfl, hx.1, hx.2, w0, w1, w2, w3, w4⟩

theorem shut_step {H : Type} {enc : TypeId × Value → H} {w : World} {base : Nat} {spare : Nat → Bool} {held : Bool} {s : StepS} (hs : s.Fits) :
    DataW.Trod enc Tryz.prog w base spare held 35 (.agg (stepCells s)) (stepData s) [] := by
  obtain ⟨w0, w1, w2, w3, w4⟩ := hs
  have hC : Tryz.prog.cellsOf 35 = 5 := by kernel_rfl
  have k1 : Tryz.prog.cellsOf 3 = 1 := by kernel_rfl
  have k2 : Tryz.prog.cellsOf 33 = 1 := by kernel_rfl
  have := trod_struct_mk (enc := enc) (w := w) (base := base) (spare := spare) (held := held) (n := 1) (cs := (stepCells s).toList) (xs := [(.lit (.int .i64 s.kind), []), (.lit (.int .i64 s.a), []), (.lit (.int .i64 s.b), []), (.lit (.int .i64 s.c), []), (.lit (.int .u64 s.v), [])]) Tryz.underlying35 (by simp [stepCells, hC])
    (by simp [stepCells, k1, k2, DataW.trod, Tryz.underlying3, Tryz.underlying33, w0, w1, w2, w3, w4])
  exact ⟨_, by simpa [Value.cells, stepData] using this⟩

end Go.Proofs.YtglbhcoikgbcmaaGreat
