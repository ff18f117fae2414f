/- Small words for the rows of law 23: an entry and a text that came in, what the row's list gives, a world in which its variables are laid. Conditions: none. -/
import Derived.Test.YtnmbehogiioonaaDoorT23Awake
import Derived.Lay
import Derived.SevenTiedAt
import Derived.Stop.Joined
import Derived.ProofKit
import Derived.OpenShut
import Derived.HandedShaped
import Derived.MakeChecks
import Derived.Below
import Derived.Lib.SmallJoins
import Derived.Deep.DeepHandedRow
import Derived.Deep.Slices
import Derived.Deep.Fields
set_option linter.unusedVariables false
set_option linter.unusedSimpArgs false
namespace Go.Proofs.YtnmbehogiioonaaDoor
open Go.ChangeShapes Go.WideShapes Go.ChangeAt Go.RowKit Go.Joins Go.Shelf

theorem Tryd.own : ownKnob Tryd.prog.godebug = none := by kernel_rfl
theorem Tryd.laidOut : laidOutB Tryd.prog = true := by kernel_rfl
def U8 (x : Int) : Prop := 0 ≤ x ∧ x ≤ 255
def U64 (x : Int) : Prop := 0 ≤ x ∧ x ≤ 18446744073709551615
theorem U8_wf {x : Int} (h : (Lit.int .u8 x).wf = true) : U8 x := by
  simp [Lit.wf, IntKind.min, IntKind.max, IntKind.signed, IntKind.bits] at h
  unfold U8
  omega
theorem U64_wf {x : Int} (h : (Lit.int .u64 x).wf = true) : U64 x := by
  simp [Lit.wf, IntKind.min, IntKind.max, IntKind.signed, IntKind.bits] at h
  unfold U64
  omega
theorem I64_wf {x : Int} (h : (Lit.int .i64 x).wf = true) : I64 x := by
  simp [Lit.wf, IntKind.min, IntKind.max, IntKind.signed, IntKind.bits] at h
  unfold I64
  omega
theorem wf_I64 {x : Int} (h : I64 x) : (Lit.int .i64 x).wf = true := by
  unfold I64 at h
  simp [Lit.wf, IntKind.min, IntKind.max, IntKind.signed, IntKind.bits]
  omega
theorem wf_U64 {x : Nat} (h : x < 18446744073709551616) : (Lit.int .u64 (x : Int)).wf = true := by
  simp [Lit.wf, IntKind.min, IntKind.max, IntKind.signed, IntKind.bits]
  omega
theorem post_below2 {H : Type} {enc : TypeId × Value → H} {P : Program} {f : Func} {s : ChangeSpec} {apart fresh handsOn : Bool} {W W' : World} {args : Array Value} {v : Value} {ds gs : List (DataW H)} {before pa pv : List MemPlace}
    (hW : DataW.Whole enc P f.params.toList s.vars apart W args.toList ds gs before)
    (hres : ∀ (b : Nat) (sp : Nat → Bool) (hd : Bool), DataW.TrodAll enc P W' b sp hd f.resultTypes.toList (v.resultList f.resultTypes.size) (s.fn H (ds ++ gs)).results [])
    (hargs : DataW.TrodAll enc P W' 0 (fun b => decide (b < W.heap.size)) true f.params.toList args.toList (s.fn H (ds ++ gs)).args pa)
    (hvars : ∀ sp : Nat → Bool, (∀ p ∈ before, sp p.block = true) → DataW.TrodVars enc P W' sp s.vars (s.fn H (ds ++ gs)).vars pv)
    (hps : before = pa ++ pv) (hk : W.keptBut W' (· ∈ before)) : s.post enc P f apart fresh handsOn false W args v W' := by
  have hold : ∀ p ∈ before, (fun b => decide (b < W.heap.size)) p.block = true := fun p hp => by simpa using hW.lt p hp
  refine ⟨ds, gs, before, [], pa, pv, hW, hres _ _ _, hargs, hvars _ hold, World.keptBut_mono (fun p hp => ⟨hp, ?_⟩) hk, fun hc => by cases hc⟩
  rw [hps, List.mem_append] at hp
  exact Or.inr hp

theorem list5 {α : Type} {l : List α} (h : l.length = 5) : ∃ a b c d e, l = [a, b, c, d, e] := by
  match l, h with
  | [a, b, c, d, e], _ => exact ⟨a, b, c, d, e, rfl⟩
/-- an entry's data -/
def entData {H : Type} (s : EntS) : DataW H := .agg [.lit (.int .i64 s.kind), .lit (.int .i64 s.a), .lit (.int .i64 s.b), .lit (.int .i64 s.c), .lit (.int .u64 (s.v : Int))]
set_option maxRecDepth 100000 in
theorem open_ent {H : Type} {enc : TypeId × Value → H} {w : World} {base : Nat} {spare : Nat → Bool} {held : Bool} {r : Reach} {b0 : Nat} {v : Value} {d : DataW H} {p : List MemPlace}
    (hv : Value.okWide Tryd.prog w r b0 24 v) (h : DataW.Trod enc Tryd.prog w base spare held 24 v d p) :
    ∃ s : EntS, v = .agg (entCells s) ∧ d = entData s ∧ p = [] ∧ s.Ok := by
  obtain ⟨cs, rfl, hsz⟩ := okWide_struct Tryd.underlying24 hv
  obtain ⟨fuel, hf⟩ := h
  obtain ⟨xs, n, _, hx, hl, hlen, hfs⟩ := DataW.trod_struct Tryd.underlying24 hf
  have hC : Tryd.prog.cellsOf 24 = 5 := by kernel_rfl
  obtain ⟨cl⟩ := cs
  have hsz5 : cl.length = 5 := by simpa using hsz.trans hC
  obtain ⟨c0, c1, c2, c3, c4, rfl⟩ := list5 hsz5
  obtain ⟨y0, y1, y2, y3, y4, rfl⟩ := list5 (hlen.trans rfl)
  have h0 := hfs 0 _ rfl
  have h1 := hfs 1 _ rfl
  have h2 := hfs 2 _ rfl
  have h3 := hfs 3 _ rfl
  have h4 := hfs 4 _ rfl
  have k1 : Tryd.prog.cellsOf 3 = 1 := by kernel_rfl
  have k2 : Tryd.prog.cellsOf 22 = 1 := by kernel_rfl
  simp [Value.cells, k1, k2] at h0 h1 h2 h3 h4
  obtain ⟨n0, e0, rfl, w0⟩ := DataW.trod_int Tryd.underlying3 h0
  obtain ⟨n1, e1, rfl, w1⟩ := DataW.trod_int Tryd.underlying3 h1
  obtain ⟨n2, e2, rfl, w2⟩ := DataW.trod_int Tryd.underlying3 h2
  obtain ⟨n3, e3, rfl, w3⟩ := DataW.trod_int Tryd.underlying3 h3
  obtain ⟨n4, e4, rfl, w4⟩ := DataW.trod_int Tryd.underlying22 h4
  simp only [List.cons.injEq, and_true] at e0 e1 e2 e3 e4
  subst e0 e1 e2 e3 e4
  simp at hx
  obtain ⟨m4, rfl⟩ : ∃ m : Nat, n4 = (m : Int) := ⟨n4.toNat, by have := U64_wf w4; unfold U64 at this; omega⟩
  exact ⟨⟨n0, n1, n2, n3, m4⟩, rfl, hx.1, hx.2, I64_wf w0, I64_wf w1, I64_wf w2, I64_wf w3, by have := U64_wf w4; unfold U64 at this; show m4 < _; omega⟩

theorem shut_ent {H : Type} {enc : TypeId × Value → H} {w : World} {base : Nat} {spare : Nat → Bool} {held : Bool} {s : EntS} (hs : s.Ok) :
    DataW.Trod enc Tryd.prog w base spare held 24 (.agg (entCells s)) (entData s) [] := by
  obtain ⟨w0, w1, w2, w3, w4⟩ := hs
  replace w0 := wf_I64 w0
  replace w1 := wf_I64 w1
  replace w2 := wf_I64 w2
  replace w3 := wf_I64 w3
  replace w4 := wf_U64 w4
  have hC : Tryd.prog.cellsOf 24 = 5 := by kernel_rfl
  have k1 : Tryd.prog.cellsOf 3 = 1 := by kernel_rfl
  have k2 : Tryd.prog.cellsOf 22 = 1 := by kernel_rfl
  have := trod_struct_mk (enc := enc) (w := w) (base := base) (spare := spare) (held := held) (n := 1) (cs := (entCells s).toList) (xs := [(.lit (.int .i64 s.kind), []), (.lit (.int .i64 s.a), []), (.lit (.int .i64 s.b), []), (.lit (.int .i64 s.c), []), (.lit (.int .u64 s.v), [])]) Tryd.underlying24 (by simp [entCells, hC])
    (by simp [entCells, k1, k2, DataW.trod, Tryd.underlying3, Tryd.underlying22, w0, w1, w2, w3, w4])
  exact ⟨_, by simpa [Value.cells, entData] using this⟩


theorem witness_laid {H : Type} {enc : TypeId × Value → H} {fn : Func} {s : OpenSpec} {conds : List PathCond} {apart : Bool} (os : Os) (laid : List (String × DataW Unit)) (f : FuncId) (args : Array Value)
    (h1 : ((World.laidAll Tryd.prog os laid).forCall (fun _ _ => 0) ⟨#[], args, []⟩).variablesZipB Tryd.prog = true)
    (h2 : (((World.laidAll Tryd.prog os laid).forCall (fun _ _ => 0) ⟨#[], args, []⟩).heap.toList.drop Tryd.prog.globals.size).take ((begin Tryd.prog (fun _ _ => 0) default).world.heap.size - Tryd.prog.globals.size) =
      (begin Tryd.prog (fun _ _ => 0) default).world.heap.toList.drop Tryd.prog.globals.size)
    (hok : Input.okWideB Tryd.prog ((World.laidAll Tryd.prog os laid).forCall (fun _ _ => 0) ⟨#[], args, []⟩) f ⟨#[], args, []⟩ = true)
    (hrow : s.preRow enc Tryd.prog fn conds apart laid ((World.laidAll Tryd.prog os laid).forCall (fun _ _ => 0) ⟨#[], args, []⟩).memory args) :
    ∃ (w : World) (tape : Tape) (i : Input), w.os = os ∧ (w.forCall tape i).Shaped Tryd.prog ∧ i.vars = [] ∧ Input.okWide Tryd.prog (w.forCall tape i) .any w.heap.size f i ∧
      s.preRow enc Tryd.prog fn conds apart laid (w.forCall tape i).memory i.args ∧ ({ modest := false } : Assume).holds Tryd.prog (lone (Frame.enter Tryd.prog f i.args .normal) [] (w.forCall tape i)) :=
  ⟨World.laidAll Tryd.prog os laid, fun _ _ => 0, ⟨#[], args, []⟩, World.laidAll_os _ _ _, World.shaped_of_ZipB h1 h2, (Input.okWide_of_okWideB (base := 0) hok).1, (Input.okWide_of_okWideB hok).2, hrow, by
    simp only [Assume.holds]
    exact ⟨by simp, by simp, fun _ => Modest.zero, by simp, by simp⟩⟩

theorem rowErr (u : TypeId) (h : Tryd.prog.typeName? 3 u = some "*errors.errorString") : u = 118 :=
  typeName_ptr_named (nm := "errors.errorString") (by rw [show "*" ++ "errors.errorString" = "*errors.errorString" by decide]; kernel_rfl) (by kernel_rfl) (by decide) u (by rw [show "*" ++ "errors.errorString" = "*errors.errorString" by decide]; exact h)
/-- what the row's list and the world's shape give -/
theorem laid_of {W : World} (h : laidMetH Tryd.prog Rows.taleLinesRow.laid W) (hsh : W.ShapedOpen Tryd.prog) : Laid W := by
  rw [MakeChecks.laidMetH_plain _ _ _ (by kernel_rfl)] at h
  have h1 : laidMet Tryd.prog (("internal/strconv.uint64pow10", Lib.tabData .u64 Lib.pow10Tab) :: _) W := h.tail.tail
  have h2 := h.tail.tail.tail.tail
  have h3 := h.tail.tail.tail.tail.tail
  obtain ⟨a, s, e1, _⟩ := laid_sentinel h2 (g := 3) (by kernel_rfl) (by kernel_rfl) Tryd.underlying64 rowErr Tryd.underlying118 Tryd.underlying120 rfl rfl Tryd.underlying9 (by kernel_rfl) (by kernel_rfl)
  obtain ⟨b, s2, e2, _⟩ := laid_sentinel h3 (g := 2) (by kernel_rfl) (by kernel_rfl) Tryd.underlying64 rowErr Tryd.underlying118 Tryd.underlying120 rfl rfl Tryd.underlying9 (by kernel_rfl) (by kernel_rfl)
  exact ⟨Tryd.laysMSplit.s1_3 W hsh, Lib.tabIs_of_head (g := 1) (by kernel_rfl) (by kernel_rfl) Tryd.underlying102 Tryd.underlying22 (by kernel_rfl) (by kernel_rfl) h1, ⟨_, _, e2⟩, ⟨_, _, e1⟩⟩

end Go.Proofs.YtnmbehogiioonaaDoor
