/- Small words for walks over memory that a program owns: a finite list of blocks, what it is to hold it, and what a call may do to it. No condition. -/
import Derived.WalkKit
import Derived.WalkSpells
import Derived.WalkLawsBesides
import Derived.Deep.Draws
import Derived.StillTailTactics
import Derived.Lib.Hide
set_option linter.unusedVariables false
set_option linter.unusedSimpArgs false
namespace Go.Proofs.YtnmbehogiioonaaDoor
open Go.RowKit

/-- blocks by their numbers -/
abbrev Hp := List (Nat × Obj)

/-- the world holds these blocks, each once -/
def In (w : World) (h : Hp) : Prop := (h.map Prod.fst).Nodup ∧ ∀ x ∈ h, w.heap[x.1]? = some x.2

/-- of the blocks h the call made the blocks h'; all other old blocks are as they were -/
structure Upd (h h' : Hp) (w w' : World) : Prop where
  inn : In w' h'
  os : w'.os = w.os
  tape : w'.tape = w.tape
  output : w'.output = w.output
  size : w.heap.size ≤ w'.heap.size
  frame : ∀ b, b < w.heap.size → b ∉ h.map Prod.fst → w'.heap[b]? = w.heap[b]?
  fresh : ∀ b, b ∈ h'.map Prod.fst → b ∈ h.map Prod.fst ∨ w.heap.size ≤ b

theorem In.lt {w : World} {h : Hp} (hi : In w h) {b : Nat} (hb : b ∈ h.map Prod.fst) : b < w.heap.size := by
  obtain ⟨x, hx, rfl⟩ := List.mem_map.1 hb
  have := hi.2 x hx
  exact (Array.getElem?_eq_some_iff.1 this).1

theorem In.nil (w : World) : In w [] := ⟨List.nodup_nil, by simp⟩

theorem In.get {w : World} {h : Hp} (hi : In w h) {b : Nat} {o : Obj} (hb : (b, o) ∈ h) : w.heap[b]? = some o := hi.2 _ hb

theorem In.sub {w : World} {h k : Hp} (hi : In w h) (hs : k.Sublist h) : In w k :=
  ⟨hi.1.sublist (hs.map _), fun x hx => hi.2 x (hs.mem hx)⟩

theorem In.left {w : World} {h k : Hp} (hi : In w (h ++ k)) : In w h := hi.sub (List.sublist_append_left _ _)
theorem In.right {w : World} {h k : Hp} (hi : In w (h ++ k)) : In w k := hi.sub (List.sublist_append_right _ _)
theorem In.tail {w : World} {x : Nat × Obj} {k : Hp} (hi : In w (x :: k)) : In w k := hi.sub (List.sublist_cons_self _ _)
theorem In.head {w : World} {b : Nat} {o : Obj} {k : Hp} (hi : In w ((b, o) :: k)) : w.heap[b]? = some o := hi.2 (b, o) (List.mem_cons_self ..)

theorem In.perm {w : World} {h k : Hp} (hi : In w h) (hp : h.Perm k) : In w k :=
  ⟨(hp.map _).nodup_iff.1 hi.1, fun x hx => hi.2 x (hp.mem_iff.2 hx)⟩

theorem flatten_sublist {α : Type} {l : List (List α)} : ∀ {i : Nat} {x : List α}, l[i]? = some x → x.Sublist l.flatten := by
  induction l with
  | nil => intro i x h; simp at h
  | cons y l ih =>
    intro i x h
    cases i with
    | zero => simp at h; subst h; simp
    | succ i => simp at h; simp; exact (ih h).trans (List.sublist_append_right _ _)

theorem In.part {w : World} {l : List Hp} (hi : In w l.flatten) {i : Nat} {x : Hp} (h : l[i]? = some x) : In w x := hi.sub (flatten_sublist h)

/-- cells of a block -/
theorem cell_of {w : World} {b : Nat} {arr : Array Value} {T : TypeId} {fr : Nat × Nat} (h : w.heap[b]? = some (.cells arr T fr)) (i : Nat) :
    w.cell? ⟨b, i, none⟩ = arr[i]? := by simp [World.cell?, h]
theorem frozen_of {w : World} {b : Nat} {arr : Array Value} {T : TypeId} (h : w.heap[b]? = some (.cells arr T (0, 0))) (i : Nat) :
    w.frozen? ⟨b, i, none⟩ = false := by simp [World.frozen?, h]

theorem Upd.refl {w : World} {h : Hp} (hi : In w h) : Upd h h w w := ⟨hi, rfl, rfl, rfl, Nat.le_refl _, fun _ _ _ => rfl, fun _ hb => .inl hb⟩

theorem Upd.trans {w w1 w2 : World} {h h1 h2 : Hp} (a : Upd h h1 w w1) (b : Upd h1 h2 w1 w2) : Upd h h2 w w2 where
  inn := b.inn
  os := b.os.trans a.os
  tape := b.tape.trans a.tape
  output := b.output.trans a.output
  size := Nat.le_trans a.size b.size
  frame := fun k hk hn => by
    rw [b.frame k (Nat.lt_of_lt_of_le hk a.size) ?_, a.frame k hk hn]
    intro hc
    rcases a.fresh k hc with hc | hc
    · exact hn hc
    · omega
  fresh := fun k hk => by
    rcases b.fresh k hk with h | h
    · exact a.fresh k h
    · exact .inr (Nat.le_trans a.size h)

/-- blocks beside those that turn stay -/
theorem In.kept {w w' : World} {h h' k : Hp} (u : Upd h h' w w') (hi : In w (h ++ k)) : In w' (h' ++ k) := by
  refine ⟨?_, ?_⟩
  · rw [List.map_append, List.nodup_append]
    refine ⟨u.inn.1, hi.right.1, ?_⟩
    intro a ha b hb e
    subst e
    rcases u.fresh a ha with h1 | h1
    · have := hi.1
      rw [List.map_append, List.nodup_append] at this
      exact this.2.2 a h1 a hb rfl
    · have := hi.right.lt hb
      omega
  · intro x hx
    rcases List.mem_append.1 hx with hx | hx
    · exact u.inn.2 x hx
    · have hb : x.1 ∈ k.map Prod.fst := List.mem_map_of_mem hx
      rw [u.frame x.1 (hi.right.lt hb) ?_]
      · exact hi.right.2 x hx
      · intro hc
        have := hi.1
        rw [List.map_append, List.nodup_append] at this
        exact this.2.2 _ hc _ hb rfl

theorem Upd.beside {w w' : World} {h h' k : Hp} (u : Upd h h' w w') (hi : In w (h ++ k)) : Upd (h ++ k) (h' ++ k) w w' where
  inn := In.kept u hi
  os := u.os
  tape := u.tape
  output := u.output
  size := u.size
  frame := fun b hb hn => u.frame b hb (fun hc => hn (by simp at *; rcases hc with ⟨o, ho⟩; exact .inl ⟨o, ho⟩))
  fresh := fun b hb => by
    rw [List.map_append, List.mem_append] at hb
    rcases hb with hb | hb
    · rcases u.fresh b hb with h1 | h1
      · exact .inl (by rw [List.map_append, List.mem_append]; exact .inl h1)
      · exact .inr h1
    · exact .inl (by rw [List.map_append, List.mem_append]; exact .inr hb)

theorem Upd.perm {w w' : World} {h h' k k' : Hp} (u : Upd h h' w w') (p : h.Perm k) (p' : h'.Perm k') : Upd k k' w w' where
  inn := u.inn.perm p'
  os := u.os
  tape := u.tape
  output := u.output
  size := u.size
  frame := fun b hb hn => u.frame b hb (fun hc => hn ((p.map _).mem_iff.1 hc))
  fresh := fun b hb => by
    rcases u.fresh b ((p'.map _).mem_iff.2 hb) with h1 | h1
    · exact .inl ((p.map _).mem_iff.1 h1)
    · exact .inr h1

theorem flatten_perm_set {α : Type} {l : List (List α)} : ∀ {i : Nat} {x : List α} (y : List α), l[i]? = some x → (l.set i y).flatten.Perm (y ++ (l.eraseIdx i).flatten) := by
  induction l with
  | nil => intro i x y h; simp at h
  | cons z l ih =>
    intro i x y h
    cases i with
    | zero => simp
    | succ i =>
      simp at h
      simp only [List.set_cons_succ, List.flatten_cons, List.eraseIdx_cons_succ]
      exact ((ih y h).append_left z).trans (by
        rw [← List.append_assoc, ← List.append_assoc]
        exact (List.perm_append_comm).append_right _)

theorem set_self {α : Type} {l : List α} : ∀ {i : Nat} {x : α}, l[i]? = some x → l.set i x = l := by
  induction l with
  | nil => intro i x h; simp at h
  | cons z l ih =>
    intro i x h
    cases i with
    | zero => simp at h; subst h; rfl
    | succ i => simp at h; simp [ih h]

theorem flatten_perm_get {α : Type} {l : List (List α)} {i : Nat} {x : List α} (h : l[i]? = some x) : l.flatten.Perm (x ++ (l.eraseIdx i).flatten) := by
  have := flatten_perm_set x h
  rwa [set_self h] at this

/-- one part of several turns -/
theorem Upd.part {w w' : World} {l : List Hp} {i : Nat} {x y : Hp} (hi : In w l.flatten) (h : l[i]? = some x) (u : Upd x y w w') : Upd l.flatten (l.set i y).flatten w w' := by
  have p := flatten_perm_get h
  have q := flatten_perm_set y h
  exact (u.beside (hi.perm p)).perm p.symm q.symm

theorem Upd.then_part {w0 w w' : World} {h : Hp} {l : List Hp} {i : Nat} {x y : Hp} (a : Upd h l.flatten w0 w) (hx : l[i]? = some x) (u : Upd x y w w') : Upd h (l.set i y).flatten w0 w' :=
  a.trans (Upd.part a.inn hx u)

/-- a store into a block that is held -/
theorem heap_setCell_same {w : World} {b off : Nat} {v : Value} {arr : Array Value} {T : TypeId} {fr : Nat × Nat} (h : w.heap[b]? = some (.cells arr T fr)) :
    (w.setCell ⟨b, off, none⟩ v).heap[b]? = some (.cells (arr.setIfInBounds off v) T fr) := by
  simp [World.setCell, Array.getElem?_modify, h]
theorem heap_setCell_other {w : World} {a : Addr} {v : Value} {b : Nat} (h : b ≠ a.block) : (w.setCell a v).heap[b]? = w.heap[b]? := by
  simp only [World.setCell, Array.getElem?_modify]
  rw [if_neg (by omega)]
theorem heap_alloc_old {w : World} {o : Obj} {b : Nat} (h : b < w.heap.size) : (w.alloc o).heap[b]? = w.heap[b]? := by
  show (w.heap.push o)[b]? = _
  rw [Array.getElem?_push, if_neg (by omega)]
theorem heap_alloc_new {w : World} {o : Obj} : (w.alloc o).heap[w.heap.size]? = some o := by
  show (w.heap.push o)[w.heap.size]? = _
  simp

theorem Upd.store {w : World} {l r : Hp} {b off : Nat} {v : Value} {arr : Array Value} {T : TypeId} {fr : Nat × Nat} (hi : In w (l ++ (b, .cells arr T fr) :: r)) :
    Upd (l ++ (b, .cells arr T fr) :: r) (l ++ (b, .cells (arr.setIfInBounds off v) T fr) :: r) w (w.setCell ⟨b, off, none⟩ v) where
  inn := by
    have hn := hi.1
    have hne : ∀ x ∈ l ++ r, x.1 ≠ b := by
      intro x hx e
      simp only [List.map_append, List.map_cons, List.nodup_append, List.nodup_cons] at hn
      rcases List.mem_append.1 hx with hx | hx
      · exact hn.2.2 x.1 (List.mem_map_of_mem hx) b (List.mem_cons_self ..) e
      · exact hn.2.1.1 (e ▸ List.mem_map_of_mem hx)
    refine ⟨by simpa using hn, ?_⟩
    intro x hx
    rcases List.mem_append.1 hx with hx | hx
    · rw [heap_setCell_other (by exact hne x (List.mem_append_left _ hx))]
      exact hi.2 x (List.mem_append_left _ hx)
    · rcases List.mem_cons.1 hx with rfl | hx
      · exact heap_setCell_same (hi.2 (b, .cells arr T fr) (List.mem_append_right _ (List.mem_cons_self ..)))
      · rw [heap_setCell_other (by exact hne x (List.mem_append_right _ hx))]
        exact hi.2 x (List.mem_append_right _ (List.mem_cons_of_mem _ hx))
  os := rfl
  tape := rfl
  output := rfl
  size := by simp
  frame := fun k hk hn => heap_setCell_other (by
    intro e
    subst e
    exact hn (by simp))
  fresh := fun k hk => .inl (by simpa using hk)

theorem Upd.alloc {w : World} {h : Hp} (hi : In w h) (o : Obj) : Upd h ((w.heap.size, o) :: h) w (w.alloc o) where
  inn := by
    refine ⟨?_, ?_⟩
    · simp only [List.map_cons, List.nodup_cons]
      refine ⟨fun hc => ?_, hi.1⟩
      have := hi.lt hc
      omega
    · intro x hx
      rcases List.mem_cons.1 hx with rfl | hx
      · exact heap_alloc_new
      · rw [heap_alloc_old (hi.lt (List.mem_map_of_mem hx))]
        exact hi.2 x hx
  os := rfl
  tape := rfl
  output := rfl
  size := by simp
  frame := fun k hk _ => heap_alloc_old hk
  fresh := fun k hk => by
    simp only [List.map_cons, List.mem_cons] at hk
    rcases hk with rfl | hk
    · exact .inr (Nat.le_refl _)
    · exact .inl hk

theorem Upd.forget {w w' : World} {h h' k : Hp} (u : Upd h h' w w') (s : k.Sublist h') : Upd h k w w' where
  inn := u.inn.sub s
  os := u.os
  tape := u.tape
  output := u.output
  size := u.size
  frame := u.frame
  fresh := fun b hb => u.fresh b ((s.map _).mem hb)

theorem Upd.skip {w : World} {h : Hp} (hi : In w h) (o : Obj) : Upd h h w (w.alloc o) := (Upd.alloc hi o).forget (List.sublist_cons_self _ _)

theorem In.drewN {w : World} {h : Hp} (hi : In w h) (n : Nat) : In (w.drewN n) h := hi
theorem Upd.drewN {w : World} {h : Hp} (hi : In w h) (n : Nat) : Upd h h w (w.drewN n) := ⟨hi, rfl, rfl, rfl, Nat.le_refl _, fun _ _ _ => rfl, fun _ hb => .inl hb⟩
theorem Upd.drew {w : World} {h : Hp} (hi : In w h) : Upd h h w w.drew := ⟨hi, rfl, rfl, rfl, Nat.le_refl _, fun _ _ _ => rfl, fun _ hb => .inl hb⟩

/-- chains -/
theorem Upd.store' {w0 w : World} {h l r : Hp} {b : Nat} {arr : Array Value} {T : TypeId} {fr : Nat × Nat} (a : Upd h (l ++ (b, .cells arr T fr) :: r) w0 w) (off : Nat) (v : Value) :
    Upd h (l ++ (b, .cells (arr.setIfInBounds off v) T fr) :: r) w0 (w.setCell ⟨b, off, none⟩ v) := a.trans (Upd.store a.inn)
theorem Upd.alloc' {w0 w : World} {h k : Hp} (a : Upd h k w0 w) (o : Obj) : Upd h ((w.heap.size, o) :: k) w0 (w.alloc o) := a.trans (Upd.alloc a.inn o)
theorem Upd.skip' {w0 w : World} {h k : Hp} (a : Upd h k w0 w) (o : Obj) : Upd h k w0 (w.alloc o) := a.trans (Upd.skip a.inn o)
theorem Upd.drew' {w0 w : World} {h k : Hp} (a : Upd h k w0 w) : Upd h k w0 w.drew := a.trans (Upd.drew a.inn)
theorem Upd.drewN' {w0 w : World} {h k : Hp} (a : Upd h k w0 w) (n : Nat) : Upd h k w0 (w.drewN n) := a.trans (Upd.drewN a.inn n)

/-- what is known of a block that is not held -/
theorem Upd.block {w w' : World} {h h' : Hp} (u : Upd h h' w w') {b : Nat} {o : Obj} (hb : w.heap[b]? = some o) (hn : b ∉ h.map Prod.fst) : w'.heap[b]? = some o := by
  rw [u.frame b (Array.getElem?_eq_some_iff.1 hb).1 hn]
  exact hb

/-- nothing was held: all that was there is as it was -/
theorem Upd.below {w w' : World} {h' : Hp} (u : Upd [] h' w w') : Below w.heap.size w w' :=
  ⟨u.os, u.tape, u.output, u.size, fun k hk => u.frame k hk (by simp)⟩

/-- a region that draws its order: n operations that only read, then the others in one order; the world behind the draw under a name of its own -/
theorem wp_tail {P : Program} {id : Nat} {Q : Exit → Act → World → Prop} {a : Act} {w : World} {l : List Oper} (n : Nat) (hm : P.follows .mixedOrders = true) (hB : Region.lexTailB .any l.toArray n = true)
    (h : ∀ w1, w1 = w.drew → wpStill P l.toArray w1 (fun a' => wpList P l.toArray Q (l.drop n) a' w1) (l.take n) a) : (Code.region id l.toArray true).wp P Q a w :=
  wp_region_still_tail n hm hB (h w.drew rfl)
/-- all of it only reads -/
theorem wp_still {P : Program} {id : Nat} {Q : Exit → Act → World → Prop} {a : Act} {w : World} {l : List Oper} (hm : P.follows .mixedOrders = true) (hB : Region.lexB .any l.toArray = true)
    (h : ∀ w1, w1 = w.drew → wpStill P l.toArray w1 (fun a' => Q .normal a' w1) l a) : (Code.region id l.toArray true).wp P Q a w :=
  wp_region_still_lit hm hB (h w.drew rfl)

/-- a number that an int holds -/
def I64 (x : Int) : Prop := -9223372036854775808 ≤ x ∧ x ≤ 9223372036854775807
theorem I64.mk {x : Int} (h : -9223372036854775808 ≤ x) (h' : x ≤ 9223372036854775807) : I64 x := ⟨h, h'⟩
theorem I64.small {x : Int} (h : -1000000000000 ≤ x) (h' : x ≤ 1000000000000) : I64 x := ⟨by omega, by omega⟩
theorem I64.wrap (x : Int) : I64 (wrap64 x) := by unfold wrap64 I64; omega
theorem wrap_of {x : Int} (h : I64 x) : wrap64 x = x := by unfold I64 at h; unfold wrap64; omega

/-- a call that held nothing left every block -/
theorem Upd.keep0 {w w' : World} {h' : Hp} (u : Upd [] h' w w') {b : Nat} {o : Obj} (hb : w.heap[b]? = some o) : w'.heap[b]? = some o := u.block hb (by simp)

theorem heap_alloc_at {w : World} {o : Obj} {k : Nat} (h : k = w.heap.size) : (w.alloc o).heap[k]? = some o := h ▸ heap_alloc_new

/-- a store into a new block that is not held -/
theorem Upd.junk {w w' : World} {h h' : Hp} (u : Upd h h' w w') {a : Addr} (ha : w.heap.size ≤ a.block) (hn : a.block ∉ h'.map Prod.fst) (v : Value) : Upd h h' w (w'.setCell a v) where
  inn := ⟨u.inn.1, fun x hx => by
    rw [heap_setCell_other (fun e => hn (e ▸ List.mem_map_of_mem hx))]
    exact u.inn.2 x hx⟩
  os := u.os
  tape := u.tape
  output := u.output
  size := by simpa using u.size
  frame := fun b hb hh => by rw [heap_setCell_other (by omega)]; exact u.frame b hb hh
  fresh := u.fresh
theorem Upd.junk0 {w w' : World} {h : Hp} (u : Upd h [] w w') {b o : Nat} (ha : w.heap.size ≤ b) (v : Value) : Upd h [] w (w'.setCell ⟨b, o, none⟩ v) := u.junk ha (by simp) v

/-- a block that lies beside what is held: a variable of the walk's own -/
structure Aside (w : World) (h : Hp) (k : Nat) (o : Obj) : Prop where
  blk : w.heap[k]? = some o
  out : k ∉ h.map Prod.fst
theorem Aside.step {w w1 : World} {h h' : Hp} {k : Nat} {o : Obj} (a : Aside w h k o) (u : Upd h h' w w1) : Aside w1 h' k o where
  blk := u.block a.blk a.out
  out := fun hc => by
    rcases u.fresh k hc with h1 | h1
    · exact a.out h1
    · have := (Array.getElem?_eq_some_iff.1 a.blk).1
      omega
theorem Aside.alloc {w : World} {h : Hp} (hi : In w h) (o : Obj) : Aside (w.alloc o) h w.heap.size o :=
  ⟨heap_alloc_new, fun hc => by have := hi.lt hc; omega⟩
theorem Aside.alloc2 {w : World} {h : Hp} {k : Nat} {o : Obj} (a : Aside w h k o) (o' : Obj) : Aside (w.alloc o') h k o :=
  ⟨(heap_alloc_old (Array.getElem?_eq_some_iff.1 a.blk).1).trans a.blk, a.out⟩
theorem Aside.drew {w : World} {h : Hp} {k : Nat} {o : Obj} (a : Aside w h k o) : Aside w.drew h k o := ⟨a.blk, a.out⟩
theorem In.alloc {w : World} {h : Hp} (hi : In w h) (o : Obj) : In (w.alloc o) h := (Upd.skip hi o).inn
theorem In.drew {w : World} {h : Hp} (hi : In w h) : In w.drew h := hi

theorem Aside.lt {w : World} {h : Hp} {k : Nat} {o : Obj} (a : Aside w h k o) : k < w.heap.size := (Array.getElem?_eq_some_iff.1 a.blk).1
theorem Aside.ne {w : World} {h : Hp} {k : Nat} {o : Obj} (a : Aside w h k o) : k ≠ w.heap.size := Nat.ne_of_lt a.lt

/-- a call over what is held under one block more -/
theorem Upd.under {w0 w w' : World} {h0 h h' : Hp} {x : Nat × Obj} (a : Upd h0 (x :: h) w0 w) (u : Upd h h' w w') : Upd h0 (x :: h') w0 w' := by
  have hi : In w (h ++ [x]) := a.inn.perm (by simpa using (List.perm_append_comm (l₁ := [x]) (l₂ := h)))
  have u2 := u.beside (k := [x]) hi
  exact a.trans (u2.perm (by simp) (by simp))
theorem Upd.under0 {w0 w w' : World} {h0 h : Hp} (a : Upd h0 h w0 w) (u : Upd [] [] w w') : Upd h0 h w0 w' := by
  have := u.beside (k := h) a.inn
  exact a.trans (by simpa using this)
theorem Upd.drop1 {w w' : World} {h h' : Hp} {x : Nat × Obj} (u : Upd h (x :: h') w w') : Upd h h' w w' := u.forget (List.sublist_cons_self _ _)
/-- a store into the first block -/
theorem Upd.store1 {w0 w : World} {h r : Hp} {b : Nat} {arr : Array Value} {T : TypeId} {fr : Nat × Nat} (a : Upd h ((b, .cells arr T fr) :: r) w0 w) (off : Nat) (v : Value) :
    Upd h ((b, .cells (arr.setIfInBounds off v) T fr) :: r) w0 (w.setCell ⟨b, off, none⟩ v) := Upd.store' (l := []) a off v
theorem Upd.skip1 {w0 w : World} {h k : Hp} (a : Upd h k w0 w) (o : Obj) : Upd h k w0 (w.alloc o) := a.skip' o

/-- an operation whose guard says no is passed over -/
theorem wpStill_pass {P : Program} {ops : Array Oper} {w : World} {Q : Act → Prop} {a : Act} {o : Oper} {rest : List Oper} (h : Region.wanted o (yielded ops a.tmps) = false)
    (h' : wpStill P ops w Q rest (a.put o.dst undef)) : wpStill P ops w Q (o :: rest) a := by
  simp only [wpStill, h, Bool.false_eq_true, if_false]
  exact h'

/-- a call that made blocks -/
theorem Upd.more {w0 w w' : World} {h0 h h' : Hp} (a : Upd h0 h w0 w) (u : Upd [] h' w w') : Upd h0 (h' ++ h) w0 w' := by
  have := u.beside (k := h) (by simpa using a.inn)
  exact a.trans (by simpa using this)
theorem In.mem {w : World} {h : Hp} (hi : In w h) {b : Nat} {o : Obj} (hb : (b, o) ∈ h) : w.heap[b]? = some o := hi.2 _ hb

end Go.Proofs.YtnmbehogiioonaaDoor
