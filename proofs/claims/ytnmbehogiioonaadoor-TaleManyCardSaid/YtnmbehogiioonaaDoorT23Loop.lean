/- A loop over a text's lines, whatever its body. No condition. -/
import Derived.Test.YtnmbehogiioonaaDoorT23Lines
set_option linter.unusedVariables false
set_option linter.unusedSimpArgs false
namespace Go.Proofs.YtnmbehogiioonaaDoor
open Go.RowKit Go.Shelf Go.Lib

theorem In.put {w : World} {l r : Hp} {b : Nat} {o o' : Obj} (hi : In w (l ++ (b, o) :: r)) : In (w.putObj b o') (l ++ (b, o') :: r) := by
  have hlt : b < w.heap.size := hi.lt (by simp)
  refine ⟨by simpa using hi.1, ?_⟩
  intro x hx
  have hn := hi.1
  rw [List.map_append, List.map_cons, List.nodup_append] at hn
  obtain ⟨_, hn2, hn3⟩ := hn
  rw [List.nodup_cons] at hn2
  have hne : x ∈ l ∨ x ∈ r → x.1 ≠ b := by
    rintro (h | h) e
    · exact hn3 x.1 (List.mem_map_of_mem h) b (by simp) e
    · have := List.mem_map_of_mem (f := Prod.fst) h
      rw [e] at this
      exact hn2.1 this
  simp only [List.mem_append, List.mem_cons] at hx
  rcases hx with h | rfl | h
  · rw [World.putObj_heap_other (hne (.inl h))]; exact hi.2 x (by simp [h])
  · exact World.putObj_heap_same hlt
  · rw [World.putObj_heap_other (hne (.inr h))]; exact hi.2 x (by simp [h])
theorem Upd.put {w : World} {l r : Hp} {b : Nat} {o : Obj} (hi : In w (l ++ (b, o) :: r)) (o' : Obj) : Upd (l ++ (b, o) :: r) (l ++ (b, o') :: r) w (w.putObj b o') where
  inn := hi.put
  os := rfl
  tape := rfl
  output := rfl
  size := by simp
  frame := fun k hk hn => World.putObj_heap_other (fun e => hn (by simp [e]))
  fresh := fun k hk => .inl (by simpa using hk)
theorem Upd.put' {w0 w : World} {h l r : Hp} {b : Nat} {o : Obj} (a : Upd h (l ++ (b, o) :: r) w0 w) (o' : Obj) : Upd h (l ++ (b, o') :: r) w0 (w.putObj b o') := a.trans (Upd.put a.inn o')

/-- how a round of such a loop may end -/
def linePost (P Px : Hp → Prop) (k : Hp) (w : World) : Exit → Act → World → Prop
  | .normal, _, W => ∃ H, P H ∧ Upd [] (k ++ H) w W
  | .ret, _, W => ∃ H, Px H ∧ Upd [] (k ++ H) w W
  | _, _, _ => False

theorem wpIn_lines {assign body : Code} {Q : Exit → Act → World → Prop} {a : Act} {w W0 : World} {n p : Nat} {g : Operand} (hn : 3 ≤ n) (Bs : Nat) (text : List UInt8) (htl : text.length ≤ 1000000000) {T : TypeId}
    (hg : a.eval g = .func (.func 32) #[] #[.pointer (some ⟨Bs, 0, none⟩)])
    (P Px : List (List UInt8) → Hp → Prop) {H0 : Hp} (hP0 : P [] H0) (U0 : Upd [] ((Bs, .cells #[.string ⟨text.toArray⟩] T (0, 0)) :: H0) w W0) (a₁ : List UInt8 → Act)
    (hassign : ∀ (l : Nat) (x : List UInt8) (W : World) (K : Act → World → Prop), K (a₁ x) W →
      assign.wpIn (Fence.wide.inRound l) (n - 1 - 1) Tryd.prog (Exit.then K (fun _ _ _ => False)) { tmps := a.tmps.setIfInBounds p (.string ⟨x.toArray⟩), defers := [] } W)
    (hbody : ∀ (l : Nat) (pre : List (List UInt8)) (x : List UInt8) (H k : Hp) (W : World), P pre H → (∀ y ∈ k, ∀ cur T' fr, y.2 = .cells cur T' fr → T' = T) → x.length ≤ text.length → pre.length < text.length + 1 → Upd [] (k ++ H) w W →
      body.wpIn (Fence.wide.inRound l) (n - 1 - 1) Tryd.prog (linePost (P (pre ++ [x])) (Px (pre ++ [x])) k w) (a₁ x) W)
    (hdone : ∀ (D : Nat) (H : Hp) (W : World), P (linesL text) H → Upd [] ((D, .deferred (some [])) :: H) w W → Q .normal { a with defers := { target := .collected D, args := #[] } :: a.defers } W)
    (hstop : ∀ (D : Nat) (pre : List (List UInt8)) (H : Hp) (W : World), Px pre H → pre <+: linesL text → Upd [] ((D, .deferred (some [])) :: H) w W → Code.ret.wpIn Fence.wide n Tryd.prog Q { a with defers := { target := .collected D, args := #[] } :: a.defers } W) :
    (Code.rangeFunc g #[p] assign body).wpIn Fence.wide n Tryd.prog Q a W0 := by
  refine wpIn_rangeFunc ?_
  intro fn hfn
  obtain ⟨D, hD⟩ : ∃ D, D = W0.heap.size := ⟨_, rfl⟩
  obtain ⟨rec, hrec⟩ : ∃ rec : LoopState → Option Code → Loop, rec = fun st pe => { state := st, pending := pe, fn, tmps := a.tmps, params := #[p], assign, body, defers := D } := ⟨_, rfl⟩
  obtain ⟨W1, hW1⟩ : ∃ W1, (W0.alloc (.deferred (some []))).alloc (.loop (rec .ready none)) = W1 := ⟨_, rfl⟩
  have U1 := (U0.alloc' (.deferred (some []))).alloc' (.loop (rec .ready none))
  rw [hW1, World.size_alloc, ← hD] at U1
  obtain ⟨L, hL⟩ : ∃ L, L = D + 1 := ⟨_, rfl⟩
  rw [← hL] at U1
  refine ⟨L, [{ target := .collected D, args := #[] }], W1, { target := .fn (.func 32) #[.pointer (some ⟨Bs, 0, none⟩)], args := #[.func (.yield L) #[] #[]] }, W1, 32,
    #[.func (.yield L) #[] #[], .pointer (some ⟨Bs, 0, none⟩)], W1, ?_, ?_, fun _ _ => trivial, ?_, fun _ => by omega, ?_⟩
  · rw [← hW1, hrec, hL, hD]; exact run_enterLoop_outer _ _ _ _ _
  · simp only [resolve, hg]
    simp [go_sem]
  · simp [invoke, go_sem]
  · have hps : ∀ x : List UInt8, (#[Value.string ⟨x.toArray⟩] : Array Value).size = (rec .ready none).params.size := by intro x; rw [hrec]; rfl
    refine (lines_stops L Bs (n - 1) (by omega) text htl
      (fun pre rest W => ∃ H, P pre H ∧ Upd [] ((L, .loop (rec .ready none)) :: (D, .deferred (some [])) :: (Bs, .cells #[.string ⟨rest.toArray⟩] T (0, 0)) :: H) w W)
      (fun pre W => ∃ H rest, Px pre H ∧ Upd [] ((L, .loop (rec .done (some .ret))) :: (D, .deferred (some [])) :: (Bs, .cells #[.string rest] T (0, 0)) :: H) w W)
      ?_ ?_ ?_ W1 ⟨H0, hP0, U1⟩).mono ?_
    · rintro pre rest W ⟨H, _, U⟩
      exact ⟨cell_of U.inn.tail.tail.head 0, frozen_of U.inn.tail.tail.head 0⟩
    · rintro pre rest rest' W ⟨H, hP, U⟩
      have U2 := U.store' (l := [_, _]) 0 (.string ⟨rest'.toArray⟩)
      exact ⟨⟨H, hP, U2⟩, ⟨H, hP, U2.drew'⟩⟩
    · rintro pre x rest W ⟨H, hP, U⟩ hx hpre
      have hl := U.inn.head
      have hy := run_yield (P := Tryd.prog) (args := #[.string ⟨x.toArray⟩]) hl (hps x)
      have U2 := U.put' (l := []) (.loop { rec .ready none with state := .busy })
      have hst : (rec .ready none).state = .ready := by rw [hrec]
      rw [hrec] at hy
      refine ⟨fn, _, assign, body, hy, roundIn_of_wpIn trivial ?_⟩
      simp only [List.zip_toArray, List.zip_cons_cons, List.zip_nil_right, List.foldl_toArray, List.foldl_cons, List.foldl_nil]
      refine hassign L x W _ ⟨_, run_beginRound hl hst, ?_⟩
      have hb := hbody L pre x H [(L, .loop { rec .ready none with state := .busy }), (D, .deferred (some [])), (Bs, .cells #[.string ⟨rest.toArray⟩] T (0, 0))] _ hP (by intro y hy cur T' fr e; simp at hy; rcases hy with rfl | rfl | rfl <;> simp at e; exact e.2.1.symm) hx hpre U2
      refine wpIn_mono hb ?_
      rintro e a3 W3 hp
      cases e with
      | normal =>
        obtain ⟨H', hP', U3⟩ := hp
        have hr := run_endRound (P := Tryd.prog) none U3.inn.head
        refine ⟨_, _, hr, .inl ⟨rfl, H', hP', ?_⟩⟩
        have := U3.put' (l := []) (.loop { ({ rec .ready none with state := .busy } : Loop) with state := if (none : Option Code).isNone then .ready else .done, pending := none })
        rw [hrec] at this ⊢
        exact this
      | ret =>
        obtain ⟨H', hP', U3⟩ := hp
        have hr := run_endRound (P := Tryd.prog) (some .ret) U3.inn.head
        refine ⟨_, _, hr, .inr ⟨rfl, H', ⟨rest.toArray⟩, hP', ?_⟩⟩
        have := U3.put' (l := []) (.loop { ({ rec .ready none with state := .busy } : Loop) with state := if (some Code.ret).isNone then .ready else .done, pending := some .ret })
        rw [hrec] at this ⊢
        exact this
      | _ => exact hp.elim
    · rintro e W2 ⟨⟨v, rfl⟩, (⟨H, hP, U⟩ | ⟨pre, hpre, H, rest, hP, U⟩)⟩
      · have U3 := U.put' (l := []) (.loop { rec .ready none with state := .exhausted })
        subst hrec
        exact ⟨none, _, run_endLoop (P := Tryd.prog) U.inn.head (by simp), hdone D H _ hP (U3.forget (List.Sublist.cons _ (List.Sublist.cons_cons _ (List.sublist_cons_self _ _))))⟩
      · have U3 := U.put' (l := []) (.loop { rec .done (some .ret) with state := .exhausted })
        subst hrec
        exact ⟨some .ret, _, run_endLoop (P := Tryd.prog) U.inn.head (by simp), hstop D pre H _ hP hpre (U3.forget (List.Sublist.cons _ (List.Sublist.cons_cons _ (List.sublist_cons_self _ _))))⟩

end Go.Proofs.YtnmbehogiioonaaDoor
