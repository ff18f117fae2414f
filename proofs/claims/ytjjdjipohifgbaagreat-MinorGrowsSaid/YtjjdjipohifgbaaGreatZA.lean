/- A core in memory: its own block and its parts'. No condition. -/
import Derived.WalkKit
import Derived.WalkSpells
import Derived.WalkLawsBesides
import Derived.Deep.Draws
import Derived.StillTailTactics
import Derived.Lib.Hide
import Derived.ArgAppend
import Derived.Laws.CopyRow
import Derived.Laws.MakeOwn
import Derived.Test.YtjjdjipohifgbaaGreatRows
import Derived.Laws.CopyOwn
import Derived.Deep.RegionHeld3
import Derived.Deep.QuietTactic
import Derived.BigQuiet
set_option linter.unusedVariables false
set_option linter.unusedSimpArgs false
/- Small words for walks over memory that a program owns: a finite list of blocks, what it is to hold it, and what a call may do to it. No condition. -/
namespace Go.Proofs.YtjjdjipohifgbaaGreat
open Go.RowKit

/-- blocks by their numbers -/
abbrev Hp := List (Nat × Obj)

/-- the world holds these blocks, each once -/
def In (w : World) (h : Hp) : Prop := (h.map Prod.fst).Nodup ∧ ∀ x ∈ h, w.heap[x.1]? = some x.2

/-- of the blocks h the call made the blocks h'; all other old blocks are as they were -/
structure Upd (h h' : Hp) (w w' : World) : Prop where
  inn : In w' h'
  os : w'.os = w.os
  tape : w'.tape = w.tape
  output : w'.output = w.output
  size : w.heap.size ≤ w'.heap.size
  frame : ∀ b, b < w.heap.size → b ∉ h.map Prod.fst → w'.heap[b]? = w.heap[b]?
  fresh : ∀ b, b ∈ h'.map Prod.fst → b ∈ h.map Prod.fst ∨ w.heap.size ≤ b

theorem In.lt {w : World} {h : Hp} (hi : In w h) {b : Nat} (hb : b ∈ h.map Prod.fst) : b < w.heap.size := by
  obtain ⟨x, hx, rfl⟩ := List.mem_map.1 hb
  have := hi.2 x hx
  exact (Array.getElem?_eq_some_iff.1 this).1

theorem In.nil (w : World) : In w [] := ⟨List.nodup_nil, by simp⟩

theorem In.get {w : World} {h : Hp} (hi : In w h) {b : Nat} {o : Obj} (hb : (b, o) ∈ h) : w.heap[b]? = some o := hi.2 _ hb

theorem In.sub {w : World} {h k : Hp} (hi : In w h) (hs : k.Sublist h) : In w k :=
  ⟨hi.1.sublist (hs.map _), fun x hx => hi.2 x (hs.mem hx)⟩

theorem In.left {w : World} {h k : Hp} (hi : In w (h ++ k)) : In w h := hi.sub (List.sublist_append_left _ _)
theorem In.right {w : World} {h k : Hp} (hi : In w (h ++ k)) : In w k := hi.sub (List.sublist_append_right _ _)
theorem In.tail {w : World} {x : Nat × Obj} {k : Hp} (hi : In w (x :: k)) : In w k := hi.sub (List.sublist_cons_self _ _)
theorem In.head {w : World} {b : Nat} {o : Obj} {k : Hp} (hi : In w ((b, o) :: k)) : w.heap[b]? = some o := hi.2 (b, o) (List.mem_cons_self ..)

theorem In.perm {w : World} {h k : Hp} (hi : In w h) (hp : h.Perm k) : In w k :=
  ⟨(hp.map _).nodup_iff.1 hi.1, fun x hx => hi.2 x (hp.mem_iff.2 hx)⟩

theorem flatten_sublist {α : Type} {l : List (List α)} : ∀ {i : Nat} {x : List α}, l[i]? = some x → x.Sublist l.flatten := by
  induction l with
  | nil => intro i x h; simp at h
  | cons y l ih =>
    intro i x h
    cases i with
    | zero => simp at h; subst h; simp
    | succ i => simp at h; simp; exact (ih h).trans (List.sublist_append_right _ _)

theorem In.part {w : World} {l : List Hp} (hi : In w l.flatten) {i : Nat} {x : Hp} (h : l[i]? = some x) : In w x := hi.sub (flatten_sublist h)

/-- cells of a block -/
theorem cell_of {w : World} {b : Nat} {arr : Array Value} {T : TypeId} {fr : Nat × Nat} (h : w.heap[b]? = some (.cells arr T fr)) (i : Nat) :
    w.cell? ⟨b, i, none⟩ = arr[i]? := by simp [World.cell?, h]
theorem frozen_of {w : World} {b : Nat} {arr : Array Value} {T : TypeId} (h : w.heap[b]? = some (.cells arr T (0, 0))) (i : Nat) :
    w.frozen? ⟨b, i, none⟩ = false := by simp [World.frozen?, h]

theorem Upd.refl {w : World} {h : Hp} (hi : In w h) : Upd h h w w := ⟨hi, rfl, rfl, rfl, Nat.le_refl _, fun _ _ _ => rfl, fun _ hb => .inl hb⟩

theorem Upd.trans {w w1 w2 : World} {h h1 h2 : Hp} (a : Upd h h1 w w1) (b : Upd h1 h2 w1 w2) : Upd h h2 w w2 where
  inn := b.inn
  os := b.os.trans a.os
  tape := b.tape.trans a.tape
  output := b.output.trans a.output
  size := Nat.le_trans a.size b.size
  frame := fun k hk hn => by
    rw [b.frame k (Nat.lt_of_lt_of_le hk a.size) ?_, a.frame k hk hn]
    intro hc
    rcases a.fresh k hc with hc | hc
    · exact hn hc
    · omega
  fresh := fun k hk => by
    rcases b.fresh k hk with h | h
    · exact a.fresh k h
    · exact .inr (Nat.le_trans a.size h)

/-- blocks beside those that turn stay -/
theorem In.kept {w w' : World} {h h' k : Hp} (u : Upd h h' w w') (hi : In w (h ++ k)) : In w' (h' ++ k) := by
  refine ⟨?_, ?_⟩
  · rw [List.map_append, List.nodup_append]
    refine ⟨u.inn.1, hi.right.1, ?_⟩
    intro a ha b hb e
    subst e
    rcases u.fresh a ha with h1 | h1
    · have := hi.1
      rw [List.map_append, List.nodup_append] at this
      exact this.2.2 a h1 a hb rfl
    · have := hi.right.lt hb
      omega
  · intro x hx
    rcases List.mem_append.1 hx with hx | hx
    · exact u.inn.2 x hx
    · have hb : x.1 ∈ k.map Prod.fst := List.mem_map_of_mem hx
      rw [u.frame x.1 (hi.right.lt hb) ?_]
      · exact hi.right.2 x hx
      · intro hc
        have := hi.1
        rw [List.map_append, List.nodup_append] at this
        exact this.2.2 _ hc _ hb rfl

theorem Upd.beside {w w' : World} {h h' k : Hp} (u : Upd h h' w w') (hi : In w (h ++ k)) : Upd (h ++ k) (h' ++ k) w w' where
  inn := In.kept u hi
  os := u.os
  tape := u.tape
  output := u.output
  size := u.size
  frame := fun b hb hn => u.frame b hb (fun hc => hn (by simp at *; rcases hc with ⟨o, ho⟩; exact .inl ⟨o, ho⟩))
  fresh := fun b hb => by
    rw [List.map_append, List.mem_append] at hb
    rcases hb with hb | hb
    · rcases u.fresh b hb with h1 | h1
      · exact .inl (by rw [List.map_append, List.mem_append]; exact .inl h1)
      · exact .inr h1
    · exact .inl (by rw [List.map_append, List.mem_append]; exact .inr hb)

theorem Upd.perm {w w' : World} {h h' k k' : Hp} (u : Upd h h' w w') (p : h.Perm k) (p' : h'.Perm k') : Upd k k' w w' where
  inn := u.inn.perm p'
  os := u.os
  tape := u.tape
  output := u.output
  size := u.size
  frame := fun b hb hn => u.frame b hb (fun hc => hn ((p.map _).mem_iff.1 hc))
  fresh := fun b hb => by
    rcases u.fresh b ((p'.map _).mem_iff.2 hb) with h1 | h1
    · exact .inl ((p.map _).mem_iff.1 h1)
    · exact .inr h1

theorem flatten_perm_set {α : Type} {l : List (List α)} : ∀ {i : Nat} {x : List α} (y : List α), l[i]? = some x → (l.set i y).flatten.Perm (y ++ (l.eraseIdx i).flatten) := by
  induction l with
  | nil => intro i x y h; simp at h
  | cons z l ih =>
    intro i x y h
    cases i with
    | zero => simp
    | succ i =>
      simp at h
      simp only [List.set_cons_succ, List.flatten_cons, List.eraseIdx_cons_succ]
      exact ((ih y h).append_left z).trans (by
        rw [← List.append_assoc, ← List.append_assoc]
        exact (List.perm_append_comm).append_right _)

theorem set_self {α : Type} {l : List α} : ∀ {i : Nat} {x : α}, l[i]? = some x → l.set i x = l := by
  induction l with
  | nil => intro i x h; simp at h
  | cons z l ih =>
    intro i x h
    cases i with
    | zero => simp at h; subst h; rfl
    | succ i => simp at h; simp [ih h]

theorem flatten_perm_get {α : Type} {l : List (List α)} {i : Nat} {x : List α} (h : l[i]? = some x) : l.flatten.Perm (x ++ (l.eraseIdx i).flatten) := by
  have := flatten_perm_set x h
  rwa [set_self h] at this

/-- one part of several turns -/
theorem Upd.part {w w' : World} {l : List Hp} {i : Nat} {x y : Hp} (hi : In w l.flatten) (h : l[i]? = some x) (u : Upd x y w w') : Upd l.flatten (l.set i y).flatten w w' := by
  have p := flatten_perm_get h
  have q := flatten_perm_set y h
  exact (u.beside (hi.perm p)).perm p.symm q.symm

theorem Upd.then_part {w0 w w' : World} {h : Hp} {l : List Hp} {i : Nat} {x y : Hp} (a : Upd h l.flatten w0 w) (hx : l[i]? = some x) (u : Upd x y w w') : Upd h (l.set i y).flatten w0 w' :=
  a.trans (Upd.part a.inn hx u)

/-- a store into a block that is held -/
theorem heap_setCell_same {w : World} {b off : Nat} {v : Value} {arr : Array Value} {T : TypeId} {fr : Nat × Nat} (h : w.heap[b]? = some (.cells arr T fr)) :
    (w.setCell ⟨b, off, none⟩ v).heap[b]? = some (.cells (arr.setIfInBounds off v) T fr) := by
  simp [World.setCell, Array.getElem?_modify, h]
theorem heap_setCell_other {w : World} {a : Addr} {v : Value} {b : Nat} (h : b ≠ a.block) : (w.setCell a v).heap[b]? = w.heap[b]? := by
  simp only [World.setCell, Array.getElem?_modify]
  rw [if_neg (by omega)]
theorem heap_alloc_old {w : World} {o : Obj} {b : Nat} (h : b < w.heap.size) : (w.alloc o).heap[b]? = w.heap[b]? := by
  show (w.heap.push o)[b]? = _
  rw [Array.getElem?_push, if_neg (by omega)]
theorem heap_alloc_new {w : World} {o : Obj} : (w.alloc o).heap[w.heap.size]? = some o := by
  show (w.heap.push o)[w.heap.size]? = _
  simp

theorem Upd.store {w : World} {l r : Hp} {b off : Nat} {v : Value} {arr : Array Value} {T : TypeId} {fr : Nat × Nat} (hi : In w (l ++ (b, .cells arr T fr) :: r)) :
    Upd (l ++ (b, .cells arr T fr) :: r) (l ++ (b, .cells (arr.setIfInBounds off v) T fr) :: r) w (w.setCell ⟨b, off, none⟩ v) where
  inn := by
    have hn := hi.1
    have hne : ∀ x ∈ l ++ r, x.1 ≠ b := by
      intro x hx e
      simp only [List.map_append, List.map_cons, List.nodup_append, List.nodup_cons] at hn
      rcases List.mem_append.1 hx with hx | hx
      · exact hn.2.2 x.1 (List.mem_map_of_mem hx) b (List.mem_cons_self ..) e
      · exact hn.2.1.1 (e ▸ List.mem_map_of_mem hx)
    refine ⟨by simpa using hn, ?_⟩
    intro x hx
    rcases List.mem_append.1 hx with hx | hx
    · rw [heap_setCell_other (by exact hne x (List.mem_append_left _ hx))]
      exact hi.2 x (List.mem_append_left _ hx)
    · rcases List.mem_cons.1 hx with rfl | hx
      · exact heap_setCell_same (hi.2 (b, .cells arr T fr) (List.mem_append_right _ (List.mem_cons_self ..)))
      · rw [heap_setCell_other (by exact hne x (List.mem_append_right _ hx))]
        exact hi.2 x (List.mem_append_right _ (List.mem_cons_of_mem _ hx))
  os := rfl
  tape := rfl
  output := rfl
  size := by simp
  frame := fun k hk hn => heap_setCell_other (by
    intro e
    subst e
    exact hn (by simp))
  fresh := fun k hk => .inl (by simpa using hk)

theorem Upd.alloc {w : World} {h : Hp} (hi : In w h) (o : Obj) : Upd h ((w.heap.size, o) :: h) w (w.alloc o) where
  inn := by
    refine ⟨?_, ?_⟩
    · simp only [List.map_cons, List.nodup_cons]
      refine ⟨fun hc => ?_, hi.1⟩
      have := hi.lt hc
      omega
    · intro x hx
      rcases List.mem_cons.1 hx with rfl | hx
      · exact heap_alloc_new
      · rw [heap_alloc_old (hi.lt (List.mem_map_of_mem hx))]
        exact hi.2 x hx
  os := rfl
  tape := rfl
  output := rfl
  size := by simp
  frame := fun k hk _ => heap_alloc_old hk
  fresh := fun k hk => by
    simp only [List.map_cons, List.mem_cons] at hk
    rcases hk with rfl | hk
    · exact .inr (Nat.le_refl _)
    · exact .inl hk

theorem Upd.forget {w w' : World} {h h' k : Hp} (u : Upd h h' w w') (s : k.Sublist h') : Upd h k w w' where
  inn := u.inn.sub s
  os := u.os
  tape := u.tape
  output := u.output
  size := u.size
  frame := u.frame
  fresh := fun b hb => u.fresh b ((s.map _).mem hb)

theorem Upd.skip {w : World} {h : Hp} (hi : In w h) (o : Obj) : Upd h h w (w.alloc o) := (Upd.alloc hi o).forget (List.sublist_cons_self _ _)

theorem In.drewN {w : World} {h : Hp} (hi : In w h) (n : Nat) : In (w.drewN n) h := hi
theorem Upd.drewN {w : World} {h : Hp} (hi : In w h) (n : Nat) : Upd h h w (w.drewN n) := ⟨hi, rfl, rfl, rfl, Nat.le_refl _, fun _ _ _ => rfl, fun _ hb => .inl hb⟩
theorem Upd.drew {w : World} {h : Hp} (hi : In w h) : Upd h h w w.drew := ⟨hi, rfl, rfl, rfl, Nat.le_refl _, fun _ _ _ => rfl, fun _ hb => .inl hb⟩

/-- chains -/
theorem Upd.store' {w0 w : World} {h l r : Hp} {b : Nat} {arr : Array Value} {T : TypeId} {fr : Nat × Nat} (a : Upd h (l ++ (b, .cells arr T fr) :: r) w0 w) (off : Nat) (v : Value) :
    Upd h (l ++ (b, .cells (arr.setIfInBounds off v) T fr) :: r) w0 (w.setCell ⟨b, off, none⟩ v) := a.trans (Upd.store a.inn)
theorem Upd.alloc' {w0 w : World} {h k : Hp} (a : Upd h k w0 w) (o : Obj) : Upd h ((w.heap.size, o) :: k) w0 (w.alloc o) := a.trans (Upd.alloc a.inn o)
theorem Upd.skip' {w0 w : World} {h k : Hp} (a : Upd h k w0 w) (o : Obj) : Upd h k w0 (w.alloc o) := a.trans (Upd.skip a.inn o)
theorem Upd.drew' {w0 w : World} {h k : Hp} (a : Upd h k w0 w) : Upd h k w0 w.drew := a.trans (Upd.drew a.inn)
theorem Upd.drewN' {w0 w : World} {h k : Hp} (a : Upd h k w0 w) (n : Nat) : Upd h k w0 (w.drewN n) := a.trans (Upd.drewN a.inn n)

/-- what is known of a block that is not held -/
theorem Upd.block {w w' : World} {h h' : Hp} (u : Upd h h' w w') {b : Nat} {o : Obj} (hb : w.heap[b]? = some o) (hn : b ∉ h.map Prod.fst) : w'.heap[b]? = some o := by
  rw [u.frame b (Array.getElem?_eq_some_iff.1 hb).1 hn]
  exact hb

/-- nothing was held: all that was there is as it was -/
theorem Upd.below {w w' : World} {h' : Hp} (u : Upd [] h' w w') : Below w.heap.size w w' :=
  ⟨u.os, u.tape, u.output, u.size, fun k hk => u.frame k hk (by simp)⟩

/-- a region that draws its order: n operations that only read, then the others in one order; the world behind the draw under a name of its own -/
theorem wp_tail {P : Program} {id : Nat} {Q : Exit → Act → World → Prop} {a : Act} {w : World} {l : List Oper} (n : Nat) (hm : P.follows .mixedOrders = true) (hB : Region.lexTailB .any l.toArray n = true)
    (h : ∀ w1, w1 = w.drew → wpStill P l.toArray w1 (fun a' => wpList P l.toArray Q (l.drop n) a' w1) (l.take n) a) : (Code.region id l.toArray true).wp P Q a w :=
  wp_region_still_tail n hm hB (h w.drew rfl)
/-- all of it only reads -/
theorem wp_still {P : Program} {id : Nat} {Q : Exit → Act → World → Prop} {a : Act} {w : World} {l : List Oper} (hm : P.follows .mixedOrders = true) (hB : Region.lexB .any l.toArray = true)
    (h : ∀ w1, w1 = w.drew → wpStill P l.toArray w1 (fun a' => Q .normal a' w1) l a) : (Code.region id l.toArray true).wp P Q a w :=
  wp_region_still_lit hm hB (h w.drew rfl)

/-- a number that an int holds -/
def I64 (x : Int) : Prop := -9223372036854775808 ≤ x ∧ x ≤ 9223372036854775807
theorem I64.mk {x : Int} (h : -9223372036854775808 ≤ x) (h' : x ≤ 9223372036854775807) : I64 x := ⟨h, h'⟩
theorem I64.small {x : Int} (h : -1000000000000 ≤ x) (h' : x ≤ 1000000000000) : I64 x := ⟨by omega, by omega⟩
theorem I64.wrap (x : Int) : I64 (wrap64 x) := by unfold wrap64 I64; omega
theorem wrap_of {x : Int} (h : I64 x) : wrap64 x = x := by unfold I64 at h; unfold wrap64; omega

/-- a call that held nothing left every block -/
theorem Upd.keep0 {w w' : World} {h' : Hp} (u : Upd [] h' w w') {b : Nat} {o : Obj} (hb : w.heap[b]? = some o) : w'.heap[b]? = some o := u.block hb (by simp)

theorem heap_alloc_at {w : World} {o : Obj} {k : Nat} (h : k = w.heap.size) : (w.alloc o).heap[k]? = some o := h ▸ heap_alloc_new

/-- a store into a new block that is not held -/
theorem Upd.junk {w w' : World} {h h' : Hp} (u : Upd h h' w w') {a : Addr} (ha : w.heap.size ≤ a.block) (hn : a.block ∉ h'.map Prod.fst) (v : Value) : Upd h h' w (w'.setCell a v) where
  inn := ⟨u.inn.1, fun x hx => by
    rw [heap_setCell_other (fun e => hn (e ▸ List.mem_map_of_mem hx))]
    exact u.inn.2 x hx⟩
  os := u.os
  tape := u.tape
  output := u.output
  size := by simpa using u.size
  frame := fun b hb hh => by rw [heap_setCell_other (by omega)]; exact u.frame b hb hh
  fresh := u.fresh
theorem Upd.junk0 {w w' : World} {h : Hp} (u : Upd h [] w w') {b o : Nat} (ha : w.heap.size ≤ b) (v : Value) : Upd h [] w (w'.setCell ⟨b, o, none⟩ v) := u.junk ha (by simp) v

/-- a block that lies beside what is held: a variable of the walk's own -/
structure Aside (w : World) (h : Hp) (k : Nat) (o : Obj) : Prop where
  blk : w.heap[k]? = some o
  out : k ∉ h.map Prod.fst
theorem Aside.step {w w1 : World} {h h' : Hp} {k : Nat} {o : Obj} (a : Aside w h k o) (u : Upd h h' w w1) : Aside w1 h' k o where
  blk := u.block a.blk a.out
  out := fun hc => by
    rcases u.fresh k hc with h1 | h1
    · exact a.out h1
    · have := (Array.getElem?_eq_some_iff.1 a.blk).1
      omega
theorem Aside.alloc {w : World} {h : Hp} (hi : In w h) (o : Obj) : Aside (w.alloc o) h w.heap.size o :=
  ⟨heap_alloc_new, fun hc => by have := hi.lt hc; omega⟩
theorem Aside.alloc2 {w : World} {h : Hp} {k : Nat} {o : Obj} (a : Aside w h k o) (o' : Obj) : Aside (w.alloc o') h k o :=
  ⟨(heap_alloc_old (Array.getElem?_eq_some_iff.1 a.blk).1).trans a.blk, a.out⟩
theorem Aside.drew {w : World} {h : Hp} {k : Nat} {o : Obj} (a : Aside w h k o) : Aside w.drew h k o := ⟨a.blk, a.out⟩
theorem In.alloc {w : World} {h : Hp} (hi : In w h) (o : Obj) : In (w.alloc o) h := (Upd.skip hi o).inn
theorem In.drew {w : World} {h : Hp} (hi : In w h) : In w.drew h := hi

theorem Aside.lt {w : World} {h : Hp} {k : Nat} {o : Obj} (a : Aside w h k o) : k < w.heap.size := (Array.getElem?_eq_some_iff.1 a.blk).1
theorem Aside.ne {w : World} {h : Hp} {k : Nat} {o : Obj} (a : Aside w h k o) : k ≠ w.heap.size := Nat.ne_of_lt a.lt

/-- a call over what is held under one block more -/
theorem Upd.under {w0 w w' : World} {h0 h h' : Hp} {x : Nat × Obj} (a : Upd h0 (x :: h) w0 w) (u : Upd h h' w w') : Upd h0 (x :: h') w0 w' := by
  have hi : In w (h ++ [x]) := a.inn.perm (by simpa using (List.perm_append_comm (l₁ := [x]) (l₂ := h)))
  have u2 := u.beside (k := [x]) hi
  exact a.trans (u2.perm (by simp) (by simp))
theorem Upd.under0 {w0 w w' : World} {h0 h : Hp} (a : Upd h0 h w0 w) (u : Upd [] [] w w') : Upd h0 h w0 w' := by
  have := u.beside (k := h) a.inn
  exact a.trans (by simpa using this)
theorem Upd.drop1 {w w' : World} {h h' : Hp} {x : Nat × Obj} (u : Upd h (x :: h') w w') : Upd h h' w w' := u.forget (List.sublist_cons_self _ _)
/-- a store into the first block -/
theorem Upd.store1 {w0 w : World} {h r : Hp} {b : Nat} {arr : Array Value} {T : TypeId} {fr : Nat × Nat} (a : Upd h ((b, .cells arr T fr) :: r) w0 w) (off : Nat) (v : Value) :
    Upd h ((b, .cells (arr.setIfInBounds off v) T fr) :: r) w0 (w.setCell ⟨b, off, none⟩ v) := Upd.store' (l := []) a off v
theorem Upd.skip1 {w0 w : World} {h k : Hp} (a : Upd h k w0 w) (o : Obj) : Upd h k w0 (w.alloc o) := a.skip' o

/-- an operation whose guard says no is passed over -/
theorem wpStill_pass {P : Program} {ops : Array Oper} {w : World} {Q : Act → Prop} {a : Act} {o : Oper} {rest : List Oper} (h : Region.wanted o (yielded ops a.tmps) = false)
    (h' : wpStill P ops w Q rest (a.put o.dst undef)) : wpStill P ops w Q (o :: rest) a := by
  simp only [wpStill, h, Bool.false_eq_true, if_false]
  exact h'

/-- a call that made blocks -/
theorem Upd.more {w0 w w' : World} {h0 h h' : Hp} (a : Upd h0 h w0 w) (u : Upd [] h' w w') : Upd h0 (h' ++ h) w0 w' := by
  have := u.beside (k := h) (by simpa using a.inn)
  exact a.trans (by simpa using this)
theorem In.mem {w : World} {h : Hp} (hi : In w h) {b : Nat} {o : Obj} (hb : (b, o) ∈ h) : w.heap[b]? = some o := hi.2 _ hb

end Go.Proofs.YtjjdjipohifgbaaGreat

/- Slices that a program owns: what they hold, and append onto them. Conditions: sizes that fit. -/
namespace Go.Proofs.YtjjdjipohifgbaaGreat
open Go.RowKit

/-- the slice v of n elements of size cells each, of type T, holds the cells xs; its block, if it has one, is h -/
def SliceH (T : TypeId) (size : Nat) (v : Value) (n : Nat) (xs : List Value) (h : Hp) : Prop :=
  xs.length = n * size ∧ ((v = .slice none 0 0 ∧ n = 0 ∧ h = []) ∨
    ∃ (g : Nat) (pre post : List Value) (cap : Nat), v = .slice (some ⟨g, pre.length, none⟩) n cap ∧ h = [(g, .cells (pre ++ xs ++ post).toArray T (0, 0))] ∧ n ≤ cap ∧ cap * size ≤ xs.length + post.length ∧ cap ≤ maxLen)

theorem setCells_row (b : Nat) (T : TypeId) (fr : Nat × Nat) : ∀ (vs : List Value) (o : Nat) (cur : Array Value) (w : World), w.heap[b]? = some (.cells cur T fr) → o + vs.length ≤ cur.size →
    w.setCells b o vs = w.setRow b (cur.toList.take o ++ vs ++ cur.toList.drop (o + vs.length)).toArray
  | [], o, cur, w, hb, _ => by
    simp only [World.setCells, List.append_nil, List.length_nil, Nat.add_zero, List.take_append_drop, Array.toArray_toList]
    exact (setRow_self w b cur T fr hb).symm
  | v :: vs, o, cur, w, hb, hl => by
    simp only [World.setCells]
    have hl' : o + (vs.length + 1) ≤ cur.size := by simpa using hl
    rw [setCell_eq_setRow w b o cur T fr v hb]
    have ih := setCells_row b T fr vs (o + 1) (cur.setIfInBounds o v) (w.setRow b (cur.setIfInBounds o v)) (setRow_heap w b cur _ T fr hb) (by simp; omega)
    rw [ih, setRow_setRow]
    congr 2
    have e := list_seg_step cur.toList o v vs (by simpa using hl')
    simpa [Array.toList_setIfInBounds, Nat.add_assoc] using e

theorem splice_mid (pre xs old post news : List Value) (h : old.length = news.length) :
    ((pre ++ xs ++ (old ++ post)).take (pre.length + xs.length) ++ news ++ (pre ++ xs ++ (old ++ post)).drop (pre.length + xs.length + news.length)) = pre ++ (xs ++ news) ++ post := by
  have e1 : (pre ++ xs ++ (old ++ post)).take (pre.length + xs.length) = pre ++ xs := by
    rw [show pre.length + xs.length = (pre ++ xs).length by simp]
    exact List.take_left
  have e2 : (pre ++ xs ++ (old ++ post)).drop (pre.length + xs.length + news.length) = post := by
    rw [← h, show pre.length + xs.length + old.length = (pre ++ xs ++ old).length by simp; omega, ← List.append_assoc (pre ++ xs)]
    exact List.drop_left
  rw [e1, e2]
  simp

/-- append: one law for all ways -/
theorem wpList_append_mine {P : Program} {w : World} {ops : Array Oper} {rest : List Oper} {o : Oper} {a : Act} {Q : Exit → Act → World → Prop}
    (hg : o.guard = none) (s x : Operand) (t : TypeId) (hop : o.op = Op.call { callee := Callee.builtin Builtin.append, args := #[s, x], argTypes := #[t, t] })
    (e : TypeId) (size bytes : Nat) (z : Value) (h1 : P.underlying t = some (.slice e)) (hinfo : (P.info? e).map (fun i => (i.zero, i.size, i.bytes)) = some (some z, size, bytes)) (h6 : z.cells.size = size) (h7 : 0 < size)
    (v : Value) (n : Nat) (xs : List Value) (hX : Hp) (hs : a.eval s = v) (HS : SliceH e size v n xs hX) (hin : In w hX)
    (ad : Addr) (m c : Nat) (news : List Value) (hx : a.eval x = .slice (some ad) m c) (hc : ∀ j u, news[j]? = some u → w.cell? (ad.add j) = some u) (hn : news.length = m * size) (h1c : ∀ u ∈ news, u.oneCell' = true) (hm : 0 < m ∨ v ≠ .slice none 0 0)
    (b1 : n + m ≤ maxLen) (b2 : (n + m) * bytes ≤ 140737488355328)
    (hK : ∀ v' w' hX', SliceH e size v' (n + m) (xs ++ news) hX' → Upd hX hX' w w' → wpList P ops Q rest (a.put o.dst v') w') : wpList P ops Q (o :: rest) a w := by
  obtain ⟨i, hi, hz0, hz1, hz2⟩ := info_parts hinfo
  obtain ⟨hlen, HS⟩ := HS
  have hlen2 : (xs ++ news).length = (n + m) * size := by rw [List.length_append, hlen, hn, Nat.add_mul]
  rcases HS with ⟨rfl, rfl, rfl⟩ | ⟨g, pre, post, cap, rfl, rfl, hnc, hcap, hcm⟩
  · obtain rfl : xs = [] := List.eq_nil_of_length_eq_zero (by simpa using hlen)
    have hm : 0 < m := hm.resolve_right (by simp)
    refine wpList_append_grows w hg s x t hop e i z size bytes h1 hi hz0 hz1 hz2 h6 h7 none 0 0 [] hs (fun _ => ⟨rfl, rfl⟩) (by simp) (by intro _ h; cases h) ad m c news hx hn hc h1c (by omega) b1 b2 ?_
    intro v' w' hown hgrow
    obtain ⟨hl, hown⟩ := hown
    rcases hown with ⟨rfl, h0⟩ | ⟨g, cap, cur, rfl, hge, hgb, hnc, hcm, hsz, htk⟩
    · omega
    · refine hK _ _ [(g, .cells ([] ++ ([] ++ news) ++ (cur.toList.drop ((0 + m) * size))).toArray e (0, 0))] ⟨hlen2, .inr ⟨g, [], cur.toList.drop ((0 + m) * size), cap, rfl, rfl, hnc, ?_, hcm⟩⟩ ?_
      · rw [hlen2]
        simp [hsz]
        have : m * size ≤ cap * size := Nat.mul_le_mul_right _ (by omega)
        omega
      · have hcur : ([] ++ ([] ++ news) ++ (cur.toList.drop ((0 + m) * size))).toArray = cur := by
          have : cur.toList = news ++ cur.toList.drop ((0 + m) * size) := by
            rw [List.nil_append] at htk
            conv => lhs; rw [← List.take_append_drop ((0 + m) * size) cur.toList, htk]
          apply Array.toList_inj.1
          simpa using this.symm
        rw [hcur]
        exact { inn := ⟨by simp, by intro x hx; simp at hx; subst hx; exact hgb⟩, os := hgrow.os, tape := hgrow.tape, output := hgrow.output, size := hgrow.size, frame := fun k hk _ => hgrow.block k hk (by simp), fresh := fun k hk => by simp at hk; subst hk; exact .inr hge }
  · have hgb := hin.head
    refine wpList_append_arg w hg s x t hop e i z size bytes h1 hi hz0 hz1 hz2 h6 h7 g pre.length n cap xs hs hlen ?_ ad m c news hx hn hc h1c ?_ b1 b2 ?_ ?_
    · intro j u hj
      rw [cell_of hgb]
      have hj' : j < xs.length := (List.getElem?_eq_some_iff.1 hj).1
      have e := (List.getElem?_eq_some_iff.1 hj).2
      simp [List.getElem?_append, hj', e]
    · intro hr j hj
      have : j < post.length := by
        have : (n + m) * size ≤ cap * size := Nat.mul_le_mul_right _ hr
        rw [Nat.add_mul] at this
        omega
      refine ⟨?_, frozen_of hgb _⟩
      rw [cell_of hgb, ← hlen]
      have e : pre.length + xs.length + j < (pre ++ xs ++ post).length := by simp; omega
      simp only [List.getElem?_toArray]
      rw [List.getElem?_eq_getElem e]
      rfl
    · intro hr
      have hle : (n + m) * size ≤ cap * size := Nat.mul_le_mul_right _ hr
      rw [Nat.add_mul] at hle
      have hpl : news.length ≤ post.length := by omega
      obtain ⟨old, post', rfl, hol⟩ : ∃ old post', post = old ++ post' ∧ old.length = news.length := ⟨post.take news.length, post.drop news.length, (List.take_append_drop _ _).symm, by simp; omega⟩
      have hrow := setCells_row g e (0, 0) news (pre.length + n * size) _ w hgb (by simp; omega)
      rw [hrow]
      have es : ((pre ++ xs ++ (old ++ post')).toArray.toList.take (pre.length + n * size) ++ news ++ (pre ++ xs ++ (old ++ post')).toArray.toList.drop (pre.length + n * size + news.length)) = pre ++ (xs ++ news) ++ post' := by
        rw [← hlen]
        simpa using splice_mid pre xs old post' news hol
      rw [es]
      refine hK _ _ [(g, .cells (pre ++ (xs ++ news) ++ post').toArray e (0, 0))] ⟨hlen2, .inr ⟨g, pre, post', cap, rfl, rfl, hr, ?_, hcm⟩⟩ ?_
      · simp at hcap ⊢; omega
      · have hbk := setRow_heap w g _ (pre ++ (xs ++ news) ++ post').toArray e (0, 0) hgb
        exact { inn := ⟨by simp, by intro x hx; simp only [List.mem_singleton] at hx; subst hx; exact hbk⟩, os := rfl, tape := rfl, output := rfl, size := by simp [World.setRow], frame := fun k hk hne => setRow_other w g k _ (by simpa using hne), fresh := fun k hk => .inl (by simpa using hk) }
    · intro hfull v' w' hown hgrow
      obtain ⟨hl, hown⟩ := hown
      rcases hown with ⟨rfl, h0⟩ | ⟨g2, cap2, cur, rfl, hge, hgb2, hnc2, hcm2, hsz, htk⟩
      · have : n ≤ cap := hnc
        omega
      · refine hK _ _ [(g2, .cells ([] ++ (xs ++ news) ++ (cur.toList.drop ((n + m) * size))).toArray e (0, 0))] ⟨hlen2, .inr ⟨g2, [], cur.toList.drop ((n + m) * size), cap2, rfl, rfl, hnc2, ?_, hcm2⟩⟩ ?_
        · rw [hlen2]
          simp [hsz]
          have : (n + m) * size ≤ cap2 * size := Nat.mul_le_mul_right _ hnc2
          omega
        · have hcur : ([] ++ (xs ++ news) ++ (cur.toList.drop ((n + m) * size))).toArray = cur := by
            have : cur.toList = xs ++ news ++ cur.toList.drop ((n + m) * size) := by
              conv => lhs; rw [← List.take_append_drop ((n + m) * size) cur.toList, htk]
            apply Array.toList_inj.1
            simpa using this.symm
          rw [hcur]
          exact { inn := ⟨by simp, by intro x hx; simp at hx; subst hx; exact hgb2⟩, os := hgrow.os, tape := hgrow.tape, output := hgrow.output, size := hgrow.size, frame := fun k hk _ => hgrow.block k hk (by simp), fresh := fun k hk => by simp at hk; subst hk; exact .inr hge }

/-- what a block's cells are to an append -/
theorem news_of {w : World} {b : Nat} {news : List Value} {T : TypeId} {fr : Nat × Nat} (hb : w.heap[b]? = some (.cells news.toArray T fr)) :
    ∀ j u, news[j]? = some u → w.cell? ((⟨b, 0, none⟩ : Addr).add j) = some u := by
  intro j u hj
  rw [Addr.add_lit, Nat.zero_add, cell_of hb]
  simpa using hj

/-- a cell of a slice -/
theorem SliceH.cell {T : TypeId} {size : Nat} {v : Value} {n : Nat} {xs : List Value} {h : Hp} {w : World} (hs : SliceH T size v n xs h) (hi : In w h) {g off cap : Nat} (hv : v = .slice (some ⟨g, off, none⟩) n cap) {j : Nat} (hj : j < xs.length) :
    w.cell? ⟨g, off + j, none⟩ = some xs[j] := by
  rcases hs.2 with ⟨rfl, _, _⟩ | ⟨g', pre, post, cap', rfl, rfl, _, _, _⟩
  · cases hv
  · cases hv
    rw [cell_of hi.head]
    simp [List.getElem?_append, hj]
theorem SliceH.news {T : TypeId} {size : Nat} {v : Value} {n : Nat} {xs : List Value} {h : Hp} {w : World} (hs : SliceH T size v n xs h) (hi : In w h) {g off cap : Nat} (hv : v = .slice (some ⟨g, off, none⟩) n cap) :
    ∀ j u, xs[j]? = some u → w.cell? ((⟨g, off, none⟩ : Addr).add j) = some u := by
  intro j u hj
  obtain ⟨hj', rfl⟩ := List.getElem?_eq_some_iff.1 hj
  rw [Addr.add_lit]
  exact hs.cell hi hv hj'
theorem SliceH.frozen {T : TypeId} {size : Nat} {v : Value} {n : Nat} {xs : List Value} {h : Hp} {w : World} (hs : SliceH T size v n xs h) (hi : In w h) {g off cap : Nat} (hv : v = .slice (some ⟨g, off, none⟩) n cap) (j : Nat) :
    w.frozen? ⟨g, j, none⟩ = false := by
  rcases hs.2 with ⟨rfl, _, _⟩ | ⟨g', pre, post, cap', rfl, rfl, _, _, _⟩
  · cases hv
  · cases hv
    exact frozen_of hi.head _
theorem SliceH.addr {T : TypeId} {size : Nat} {v : Value} {n : Nat} {xs : List Value} {h : Hp} (hs : SliceH T size v n xs h) (hn : 0 < n) : ∃ g off cap, v = .slice (some ⟨g, off, none⟩) n cap ∧ n ≤ cap := by
  rcases hs.2 with ⟨_, h0, _⟩ | ⟨g', pre, post, cap', rfl, rfl, hc, _, _⟩
  · omega
  · exact ⟨_, _, _, rfl, hc⟩
theorem SliceH.shape {T : TypeId} {size : Nat} {v : Value} {n : Nat} {xs : List Value} {h : Hp} (hs : SliceH T size v n xs h) : ∃ ao cap, v = .slice ao n cap ∧ n ≤ cap := by
  rcases hs.2 with ⟨rfl, rfl, _⟩ | ⟨g', pre, post, cap', rfl, rfl, hc, _, _⟩
  · exact ⟨_, _, rfl, Nat.le_refl _⟩
  · exact ⟨_, _, rfl, hc⟩
theorem SliceH.nil (T : TypeId) (size : Nat) : SliceH T size (.slice none 0 0) 0 [] [] := ⟨by simp, .inl ⟨rfl, rfl, rfl⟩⟩
/-- a block made whole -/
theorem SliceH.made {T : TypeId} {g n : Nat} {xs : List Value} (hl : xs.length = n) (hm : n ≤ maxLen) : SliceH T 1 (.slice (some ⟨g, 0, none⟩) n n) n xs [(g, .cells xs.toArray T (0, 0))] :=
  ⟨by omega, .inr ⟨g, [], [], n, rfl, by simp, Nat.le_refl _, by simp [hl], hm⟩⟩

/-- numbers as cells -/
abbrev ints (l : List Int) : List Value := l.map (Value.int .i64)

theorem store_mid (pre xs post : List Value) (j : Nat) (v : Value) (hj : j < xs.length) : (pre ++ xs ++ post).toArray.setIfInBounds (pre.length + j) v = (pre ++ xs.set j v ++ post).toArray := by
  simp [List.set_append, hj]

/-- a store into a slice -/
theorem SliceH.store {T : TypeId} {v : Value} {n : Nat} {xs : List Value} {h : Hp} {w : World} (hs : SliceH T 1 v n xs h) (hi : In w h) {g off cap : Nat} (hv : v = .slice (some ⟨g, off, none⟩) n cap) {j : Nat} (hj : j < xs.length) (u : Value) :
    ∃ h', SliceH T 1 v n (xs.set j u) h' ∧ Upd h h' w (w.setCell ⟨g, off + j, none⟩ u) := by
  obtain ⟨hl, hs⟩ := hs
  rcases hs with ⟨rfl, _, _⟩ | ⟨g', pre, post, cap', rfl, rfl, h1, h2, h3⟩
  · cases hv
  · cases hv
    refine ⟨_, ⟨by simpa using hl, .inr ⟨g, pre, post, cap, rfl, rfl, h1, by simpa using h2, h3⟩⟩, ?_⟩
    have := Upd.store (l := []) (r := []) (off := pre.length + j) (v := u) hi
    rw [store_mid pre xs post j u hj] at this
    exact this

/-- the same slice, its capacity cut off -/
theorem SliceH.clip {T : TypeId} {g off n cap : Nat} {xs : List Value} {h : Hp} (hs : SliceH T 1 (.slice (some ⟨g, off, none⟩) n cap) n xs h) : SliceH T 1 (.slice (some ⟨g, off, none⟩) n n) n xs h := by
  obtain ⟨hl, hs⟩ := hs
  rcases hs with ⟨h1, _, _⟩ | ⟨g', pre, post, cap', h1, h2, h3, h4, h5⟩
  · cases h1
  · cases h1
    exact ⟨hl, .inr ⟨g, pre, post, n, rfl, h2, Nat.le_refl _, by omega, by omega⟩⟩

theorem madeCells_one (z : Value) (n : Nat) : madeCells #[z] n = (List.replicate n z).toArray := by
  apply Array.ext
  · simp [madeCells]
  · intro i h1 h2
    have : i % 1 = 0 := by omega
    simp [madeCells, this]

/-- make, of elements of one cell -/
theorem run_make1 {P : Program} (w : World) (t e : TypeId) (z : Value) (bytes : Nat) (hu : P.underlying t = some (.slice e)) (hinfo : (P.info? e).map (fun i => (i.zero, i.size, i.bytes)) = some (some z, 1, bytes)) (hz : z.cells = #[z])
    (n : Nat) (hn : n ≤ 1048576) (hb : bytes ≤ 64) :
    (Instr.makeSlice t (.int .i64 n) (.int .i64 n)).run P w = .ok (.slice (some ⟨w.heap.size, 0, none⟩) n n) (w.alloc (.cells (List.replicate n z).toArray e (0, 0))) := by
  obtain ⟨i, hi, hz0, hz1, hz2⟩ := info_parts hinfo
  have hmul : (i.bytes : Int) * (n : Int) ≤ 281474976710656 := by
    rw [hz2]
    have : (bytes : Int) * (n : Int) ≤ 64 * 1048576 := Int.mul_le_mul (by omega) (by omega) (by omega) (by omega)
    omega
  have h := run_make (P := P) w t e i z hu hi hz0 .i64 .i64 n n (by omega) (by omega) hmul (by omega)
  rw [hz1, hz, Nat.mul_one, Int.toNat_natCast, madeCells_one] at h
  exact h

end Go.Proofs.YtjjdjipohifgbaaGreat

/- What each call of package arena comes to. Conditions: none beyond an arena of at most 2^20 words. -/
namespace Go.Proofs.YtjjdjipohifgbaaGreat
open Go.RowKit

/-- words as cells -/
def cellsU (ws : List Int) : Array Value := (ws.map (Value.int .u64)).toArray
/-- each is of 64 bits -/
def U64 (x : Int) : Prop := 0 ≤ x ∧ x < 18446744073709551616

/-- an arena's two blocks: its words ws -/
def ArenaH (p : Nat) (ws : List Int) (h : Hp) : Prop :=
  ∃ (b : Nat) (n : Int), h = [(p, .cells #[.slice (some ⟨b, 0, none⟩) ws.length ws.length, .int .i64 n] 122 (0, 0)), (b, .cells (cellsU ws) 83 (0, 0))] ∧ ws.length ≤ 1048576 ∧ ∀ x ∈ ws, U64 x

set_option maxHeartbeats 400000 in
theorem arena_len (pa ba n : Nat) (w : World) 
    (h0 : w.cell? ⟨pa, 0, none⟩ = some (.slice (some ⟨ba, 0, none⟩) n n)) :
    Calls Tryz.prog 119 #[.pointer (some ⟨pa, 0, none⟩)] w fun e w' => e = .returned (.int .i64 n) ∧ w = w' := by
  go_enter Tryz.func119, Tryz.ntmps119
  go_wp2
  go_ret
  exact ⟨rfl, rfl⟩

/-- are there k words from a place on, of n -/
def hasW (n : Nat) (i k : Int) : Bool := decide (0 ≤ i ∧ 0 ≤ k ∧ i ≤ n ∧ k ≤ n - i)

set_option maxHeartbeats 400000 in
theorem arena_has (pa ba n : Nat) (i k : Int) (w : World) (hn : n ≤ 1048576)
    (h0 : w.cell? ⟨pa, 0, none⟩ = some (.slice (some ⟨ba, 0, none⟩) n n)) :
    Calls Tryz.prog 106 #[.pointer (some ⟨pa, 0, none⟩), .int .i64 i, .int .i64 k] w fun e w' => e = .returned (.bool (hasW n i k)) ∧ w = w' := by
  unfold hasW
  by_cases h1 : 0 ≤ i
  · by_cases h2 : 0 ≤ k
    · by_cases h3 : i ≤ n
      · by_cases h4 : k ≤ n - i
        all_goals
          go_enter Tryz.func106, Tryz.ntmps106
          go_wp2_with (go_at_call 119; refine (arena_len _ _ _ _ h0).mono ?_; rintro e w' ⟨rfl, rfl⟩)
          go_ret
          simp [*] <;> omega
      · go_enter Tryz.func106, Tryz.ntmps106
        go_wp2_with (go_at_call 119; refine (arena_len _ _ _ _ h0).mono ?_; rintro e w' ⟨rfl, rfl⟩)
        go_ret
        simp [*] <;> omega
    · go_enter Tryz.func106, Tryz.ntmps106
      go_wp2_with (go_at_call 119; refine (arena_len _ _ _ _ h0).mono ?_; rintro e w' ⟨rfl, rfl⟩)
      go_ret
      simp [*] <;> omega
  · go_enter Tryz.func106, Tryz.ntmps106
    go_wp2_with (go_at_call 119; refine (arena_len _ _ _ _ h0).mono ?_; rintro e w' ⟨rfl, rfl⟩)
    go_ret
    simp [*] <;> omega

theorem words_cell {w : World} {b : Nat} {ws : List Int} {T : TypeId} (h : w.heap[b]? = some (.cells (cellsU ws) T (0, 0))) (i : Nat) (hi : i < ws.length) :
    w.cell? ⟨b, i, none⟩ = some (.int .u64 (ws.getD i 0)) := by
  rw [cell_of h]
  simp [cellsU, List.getD, hi]

/-- a word, 0 where there is none -/
def rd (ws : List Int) (i : Int) : Int := if 0 ≤ i then ws.getD i.toNat 0 else 0
def wr (ws : List Int) (i : Int) (v : Int) : List Int := if 0 ≤ i then ws.set i.toNat v else ws

/-- the error of asking for k words from i on, of n -/
def errW (n : Nat) (i k : Int) : Int := if hasW n i k then 0 else 2
def ldW (ws : List Int) (i : Int) : Int := if hasW ws.length i 1 then rd ws i else 0
def stW (ws : List Int) (i v : Int) : List Int := if hasW ws.length i 1 then wr ws i v else ws

theorem cellsU_set (ws : List Int) (k : Nat) (v : Int) : (cellsU ws).setIfInBounds k (.int .u64 v) = cellsU (ws.set k v) := by
  simp [cellsU, List.map_set]

theorem U64_set {ws : List Int} {k : Nat} {v : Int} (h : ∀ x ∈ ws, U64 x) (hv : U64 v) : ∀ x ∈ ws.set k v, U64 x := by
  intro x hx
  rcases List.mem_or_eq_of_mem_set hx with h1 | h1
  · exact h x h1
  · exact h1 ▸ hv

theorem has_one {n : Nat} {i : Int} (h : hasW n i 1 = true) : ∃ k : Nat, i = k ∧ k < n := by
  unfold hasW at h
  simp at h
  exact ⟨i.toNat, by omega, by omega⟩

set_option maxHeartbeats 1000000 in
theorem arena_load (pa : Nat) (ws : List Int) (i : Int) (w : World) (h : Hp) (hi : In w h) (ha : ArenaH pa ws h) :
    Calls Tryz.prog 72 #[.pointer (some ⟨pa, 0, none⟩), .int .i64 i] w fun e w' =>
      e = .returned (.tuple #[.int .u64 (ldW ws i), .int .i64 (errW ws.length i 1)]) ∧ ∃ h', ArenaH pa ws h' ∧ Upd h h' w w' := by
  obtain ⟨b, n, rfl, hl, hu⟩ := ha
  have e0 : w.cell? ⟨pa, 0, none⟩ = some (.slice (some ⟨b, 0, none⟩) ws.length ws.length) := cell_of hi.head 0
  have e1 : w.cell? ⟨pa, 1, none⟩ = some (.int .i64 n) := cell_of hi.head 1
  have f1 : w.frozen? ⟨pa, 1, none⟩ = false := frozen_of hi.head 1
  by_cases hh : hasW ws.length i 1 = true
  · obtain ⟨k, rfl, hk⟩ := has_one hh
    have e2 := words_cell hi.tail.head k hk
    have hne : pa ≠ b := by have := hi.1; simp at this; exact this
    have hne' : b ≠ pa := hne.symm
    go_enter Tryz.func72, Tryz.ntmps72
    go_wp2_with (go_at_call 106; refine (arena_has _ _ _ _ _ _ hl e0).mono ?_; rintro e w' ⟨rfl, rfl⟩)
    go_ret2
    exact ⟨by simp [ldW, errW, hh, rd, List.getD, hk], _, ⟨b, wrap64 (n + 1), rfl, hl, hu⟩, Upd.store (l := []) (off := 1) (v := .int .i64 (wrap64 (n + 1))) hi⟩
  · have hh' : hasW ws.length i 1 = false := by simpa using hh
    go_enter Tryz.func72, Tryz.ntmps72
    go_wp2_with (go_at_call 106; refine (arena_has _ _ _ _ _ _ hl e0).mono ?_; rintro e w' ⟨rfl, rfl⟩)
    go_ret2
    exact ⟨by simp [ldW, errW, hh'], _, ⟨b, n, rfl, hl, hu⟩, Upd.refl hi⟩

set_option maxHeartbeats 1000000 in
theorem arena_store (pa : Nat) (ws : List Int) (i v : Int) (w : World) (h : Hp) (hi : In w h) (ha : ArenaH pa ws h) (hv : U64 v) :
    Calls Tryz.prog 104 #[.pointer (some ⟨pa, 0, none⟩), .int .i64 i, .int .u64 v] w fun e w' =>
      e = .returned (.int .i64 (errW ws.length i 1)) ∧ ∃ h', ArenaH pa (stW ws i v) h' ∧ Upd h h' w w' := by
  obtain ⟨b, n, rfl, hl, hu⟩ := ha
  have e0 : w.cell? ⟨pa, 0, none⟩ = some (.slice (some ⟨b, 0, none⟩) ws.length ws.length) := cell_of hi.head 0
  have e1 : w.cell? ⟨pa, 1, none⟩ = some (.int .i64 n) := cell_of hi.head 1
  have f1 : w.frozen? ⟨pa, 1, none⟩ = false := frozen_of hi.head 1
  by_cases hh : hasW ws.length i 1 = true
  · obtain ⟨k, rfl, hk⟩ := has_one hh
    have e2 := words_cell hi.tail.head k hk
    have f2 : w.frozen? ⟨b, k, none⟩ = false := frozen_of hi.tail.head k
    have hne : pa ≠ b := by have := hi.1; simp at this; exact this
    have hne' : b ≠ pa := hne.symm
    go_enter Tryz.func104, Tryz.ntmps104
    go_wp2_with (go_at_call 106; refine (arena_has _ _ _ _ _ _ hl e0).mono ?_; rintro e w' ⟨rfl, rfl⟩)
    go_ret
    refine ⟨by simp [errW, hh], _, ⟨b, wrap64 (n + 1), ?_, ?_, ?_⟩, (Upd.store' (l := [(pa, _)]) (Upd.store (l := []) (off := 1) (v := .int .i64 (wrap64 (n + 1))) hi) k (.int .u64 v))⟩
    · simp [cellsU_set, wr, stW, hh]
    · simp [wr, stW, hh]; exact hl
    · simp [wr, stW, hh]; exact U64_set hu hv
  · have hh' : hasW ws.length i 1 = false := by simpa using hh
    go_enter Tryz.func104, Tryz.ntmps104
    go_wp2_with (go_at_call 106; refine (arena_has _ _ _ _ _ _ hl e0).mono ?_; rintro e w' ⟨rfl, rfl⟩)
    go_ret
    exact ⟨by simp [errW, hh'], _, ⟨b, n, by simp [stW, hh'], by simpa [stW, hh'] using hl, by simpa [stW, hh'] using hu⟩, Upd.refl hi⟩

theorem Upd.row {w : World} {l r : Hp} {b : Nat} {arr arr' : Array Value} {T : TypeId} {fr : Nat × Nat} (hi : In w (l ++ (b, .cells arr T fr) :: r)) :
    Upd (l ++ (b, .cells arr T fr) :: r) (l ++ (b, .cells arr' T fr) :: r) w (w.setRow b arr') where
  inn := by
    have hn := hi.1
    have hne : ∀ x ∈ l ++ r, x.1 ≠ b := by
      intro x hx e
      simp only [List.map_append, List.map_cons, List.nodup_append, List.nodup_cons] at hn
      rcases List.mem_append.1 hx with hx | hx
      · exact hn.2.2 x.1 (List.mem_map_of_mem hx) b (List.mem_cons_self ..) e
      · exact hn.2.1.1 (e ▸ List.mem_map_of_mem hx)
    refine ⟨by simpa using hn, ?_⟩
    intro x hx
    rcases List.mem_append.1 hx with hx | hx
    · rw [setRow_other w b x.1 arr' (hne x (List.mem_append_left _ hx))]
      exact hi.2 x (List.mem_append_left _ hx)
    · rcases List.mem_cons.1 hx with rfl | hx
      · exact setRow_heap w b arr arr' T fr (hi.2 (b, .cells arr T fr) (List.mem_append_right _ (List.mem_cons_self ..)))
      · rw [setRow_other w b x.1 arr' (hne x (List.mem_append_right _ hx))]
        exact hi.2 x (List.mem_append_right _ (List.mem_cons_of_mem _ hx))
  os := rfl
  tape := rfl
  output := rfl
  size := by simp [World.setRow]
  frame := fun k hk hn => setRow_other w b k arr' (by intro e; subst e; exact hn (by simp))
  fresh := fun k hk => .inl (by simpa using hk)
theorem Upd.row' {w0 w : World} {h l r : Hp} {b : Nat} {arr : Array Value} {T : TypeId} {fr : Nat × Nat} (a : Upd h (l ++ (b, .cells arr T fr) :: r) w0 w) (arr' : Array Value) :
    Upd h (l ++ (b, .cells arr' T fr) :: r) w0 (w.setRow b arr') := a.trans (Upd.row a.inn)

/-- n words from a place on are others -/
def lay (ws : List Int) (i : Nat) (xs : List Int) : List Int := ws.take i ++ xs ++ ws.drop (i + xs.length)

def zeroW (ws : List Int) (i : Int) (n : Nat) : List Int := if hasW ws.length i n then lay ws i.toNat (List.replicate n 0) else ws

theorem cells_lay (ws : List Int) (i : Nat) (xs : List Int) :
    ((cellsU ws).toList.take i ++ xs.map (Value.int .u64) ++ (cellsU ws).toList.drop (i + (xs.map (Value.int .u64)).length)).toArray = cellsU (lay ws i xs) := by
  simp [cellsU, lay, List.map_take, List.map_drop]

theorem U64_lay {ws : List Int} {i : Nat} {xs : List Int} (h : ∀ x ∈ ws, U64 x) (hx : ∀ x ∈ xs, U64 x) : ∀ x ∈ lay ws i xs, U64 x := by
  intro x hm
  simp only [lay, List.mem_append] at hm
  rcases hm with (hm | hm) | hm
  · exact h x (List.mem_of_mem_take hm)
  · exact hx x hm
  · exact h x (List.mem_of_mem_drop hm)

theorem length_lay (ws : List Int) (i : Nat) (xs : List Int) (h : i + xs.length ≤ ws.length) : (lay ws i xs).length = ws.length := by
  simp [lay]; omega

theorem run_clear (w : World) (T ty : TypeId) (b o n c : Nat) (ws : List Int) (hu : Tryz.prog.underlying T = some (.slice 83)) 
    (hg : w.heap[b]? = some (.cells (cellsU ws) 83 (0, 0))) (hn : 0 < n) (hfit : o + n ≤ ws.length) :
    (Builtin.clear_ #[T] ty #[.slice (some ⟨b, o, none⟩) n c]).run Tryz.prog w = .ok (.tuple #[]) (w.setRow b (cellsU (lay ws o (List.replicate n 0)))) := by
  have hst := run_storeCells_at Tryz.prog b o 83 (List.replicate n (Value.int .u64 0)) 0 (cellsU ws) w hg (by simp [cellsU]; omega) (by intro v hv; simp at hv; rw [hv.2]; rfl)
  have hz : (zeroValue 83).run Tryz.prog w = .ok (.int .u64 0) w := by kernel_rfl
  have e : (Builtin.zeroCells #[Value.int .u64 0] n).toList = List.replicate n (Value.int .u64 0) := by
    simp only [Builtin.zeroCells, Array.toList_map, Array.toList_range]
    apply List.ext_getElem (by simp)
    intro i h1 h2
    have : i % 1 = 0 := by omega
    simp [this]
  obtain ⟨m, rfl⟩ : ∃ m, n = m + 1 := ⟨n - 1, by omega⟩
  have er : List.replicate (m + 1) (Value.int .u64 0) = (List.replicate (m + 1) (0 : Int)).map (Value.int .u64) := by simp
  have hst' : (storeCells ⟨b, o, none⟩ (List.replicate (m + 1) (Value.int .u64 0))).run Tryz.prog w = .ok () (w.setRow b (cellsU (lay ws o (List.replicate (m + 1) 0)))) := by
    rw [hst, Nat.add_zero, er, cells_lay]
  simp [Builtin.clear_, run_underlying hu, hz, e, hst', Value.cells]

set_option maxRecDepth 100000 in
set_option maxHeartbeats 1000000 in
theorem arena_zero (pa : Nat) (ws : List Int) (i : Int) (n : Nat) (w : World) (h : Hp) (hi : In w h) (ha : ArenaH pa ws h) (hn : 0 < n) :
    Calls Tryz.prog 84 #[.pointer (some ⟨pa, 0, none⟩), .int .i64 i, .int .i64 n] w fun e w' =>
      e = .returned (.int .i64 (errW ws.length i n)) ∧ ∃ h', ArenaH pa (zeroW ws i n) h' ∧ Upd h h' w w' := by
  obtain ⟨b, c, rfl, hl, hu⟩ := ha
  have e0 : w.cell? ⟨pa, 0, none⟩ = some (.slice (some ⟨b, 0, none⟩) ws.length ws.length) := cell_of hi.head 0
  have e1 : w.cell? ⟨pa, 1, none⟩ = some (.int .i64 c) := cell_of hi.head 1
  have f1 : w.frozen? ⟨pa, 1, none⟩ = false := frozen_of hi.head 1
  by_cases hh : hasW ws.length i n = true
  · have hb := hh
    unfold hasW at hb
    simp at hb
    obtain ⟨k, rfl⟩ : ∃ k : Nat, i = k := ⟨i.toNat, by omega⟩
    have hk : k + n ≤ ws.length := by omega
    have hlt : k < ws.length := by omega
    clear hb
    have hne : pa ≠ b := by have := hi.1; simp at this; exact this
    have hne' : b ≠ pa := hne.symm
    have hu1 := Upd.store (l := []) (off := 1) (v := .int .i64 (wrap64 (c + n))) hi
    have hcl := fun T ty c' hT => run_clear _ T ty b k n c' ws hT (Upd.inn hu1).tail.head hn hk
    have hcl1 := hcl 120 0 (ws.length - k) Tryz.underlying120
    clear hcl
    go_enter Tryz.func84, Tryz.ntmps84
    go_wp2_with (go_at_call 106; refine (arena_has _ _ _ _ _ _ hl e0).mono ?_; rintro e w' ⟨rfl, rfl⟩)
    go_ret
    have hz : zeroW ws k n = lay ws k (List.replicate n 0) := by simp [zeroW, hh]
    have hll := length_lay ws k (List.replicate n 0) (by simpa using hk)
    refine ⟨by simp [errW, hh], _, ⟨b, wrap64 (c + n), ?_, ?_, ?_⟩, Upd.row' (l := [(pa, _)]) hu1 (cellsU (lay ws k (List.replicate n 0)))⟩
    · rw [hz, hll]; rfl
    · rw [hz, hll]; exact hl
    · rw [hz]; exact U64_lay hu (by intro x hx; simp at hx; rw [hx.2]; exact ⟨by decide, by decide⟩)
  · have hh' : hasW ws.length i n = false := by simpa using hh
    have hz : zeroW ws i n = ws := by simp [zeroW, hh']
    rw [hz]
    go_enter Tryz.func84, Tryz.ntmps84
    go_wp2_with (go_at_call 106; refine (arena_has _ _ _ _ _ _ hl e0).mono ?_; rintro e w' ⟨rfl, rfl⟩)
    go_ret
    exact ⟨by simp [errW, hh'], _, ⟨b, c, rfl, hl, hu⟩, Upd.refl hi⟩

/-- n words from a place on -/
def seg (ws : List Int) (i n : Nat) : List Int := (ws.drop i).take n
def copyOk (ws : List Int) (i j : Int) (n : Nat) : Bool := hasW ws.length i n && hasW ws.length j n
def copyW (ws : List Int) (i j : Int) (n : Nat) : List Int := if copyOk ws i j n then lay ws j.toNat (seg ws i.toNat n) else ws
def copyE (ws : List Int) (i j : Int) (n : Nat) : Int := if copyOk ws i j n then 0 else 2
theorem U64_seg {ws : List Int} {i n : Nat} (h : ∀ x ∈ ws, U64 x) : ∀ x ∈ seg ws i n, U64 x := fun x hx => h x (List.mem_of_mem_drop (List.mem_of_mem_take hx))
theorem length_seg (ws : List Int) (i n : Nat) (h : i + n ≤ ws.length) : (seg ws i n).length = n := by simp [seg]; omega

theorem run_copy (w : World) (T ty : TypeId) (b o c s sc n : Nat) (ws : List Int) (hu : Tryz.prog.underlying T = some (.slice 83)) 
    (hg : w.heap[b]? = some (.cells (cellsU ws) 83 (0, 0))) (hfit : o + n ≤ ws.length) (hs : s + n ≤ ws.length) :
    (Builtin.copy_ #[T, T] ty #[.slice (some ⟨b, o, none⟩) n c, .slice (some ⟨b, s, none⟩) n sc]).run Tryz.prog w = .ok (goInt n) (w.setRow b (cellsU (lay ws o (seg ws s n)))) := by
  have hlen := length_seg ws s n hs
  have h := run_copy_row Tryz.prog w T T ty 83 b o n c ⟨b, s, none⟩ n sc (cellsU ws) 83 ((seg ws s n).map (Value.int .u64)) hu (by kernel_rfl) hg (by simp [hlen])
    (by
      intro j v hj
      have hj' := hj
      simp only [List.getElem?_map, Option.map_eq_some_iff] at hj'
      obtain ⟨x, hx, rfl⟩ := hj'
      have hjn : j < n := by have := (List.getElem?_eq_some_iff.1 hx).1; omega
      have hadd : (⟨b, s, none⟩ : Addr).add j = ⟨b, s + j, none⟩ := by unfold Addr.add; split <;> simp_all
      rw [hadd, cell_of hg]
      simp only [seg, List.getElem?_take, List.getElem?_drop] at hx
      rw [if_pos hjn] at hx
      simp [cellsU, hx])
    (by simp [cellsU, hlen]; exact hfit) (by intro v hv; simp at hv; obtain ⟨x, _, rfl⟩ := hv; rfl)
  rw [cells_lay] at h
  simpa [hlen] using h

set_option maxRecDepth 100000 in
set_option maxHeartbeats 1000000 in
theorem arena_copy (pa : Nat) (ws : List Int) (i j : Int) (n : Nat) (w : World) (h : Hp) (hi : In w h) (ha : ArenaH pa ws h) (hn : 0 < n) :
    Calls Tryz.prog 112 #[.pointer (some ⟨pa, 0, none⟩), .int .i64 i, .int .i64 j, .int .i64 n] w fun e w' =>
      e = .returned (.int .i64 (copyE ws i j n)) ∧ ∃ h', ArenaH pa (copyW ws i j n) h' ∧ Upd h h' w w' := by
  obtain ⟨b, c, rfl, hl, hu⟩ := ha
  have e0 : w.cell? ⟨pa, 0, none⟩ = some (.slice (some ⟨b, 0, none⟩) ws.length ws.length) := cell_of hi.head 0
  have e1 : w.cell? ⟨pa, 1, none⟩ = some (.int .i64 c) := cell_of hi.head 1
  have f1 : w.frozen? ⟨pa, 1, none⟩ = false := frozen_of hi.head 1
  by_cases hh : hasW ws.length i n = true
  · by_cases hh2 : hasW ws.length j n = true
    · have hb := hh
      have hb2 := hh2
      unfold hasW at hb hb2
      simp at hb hb2
      obtain ⟨k, rfl⟩ : ∃ k : Nat, i = k := ⟨i.toNat, by omega⟩
      obtain ⟨m, rfl⟩ : ∃ k : Nat, j = k := ⟨j.toNat, by omega⟩
      have hk : k + n ≤ ws.length := by omega
      have hlt : k < ws.length := by omega
      have hk2 : m + n ≤ ws.length := by omega
      have hlt2 : m < ws.length := by omega
      clear hb hb2
      have hne : pa ≠ b := by have := hi.1; simp at this; exact this
      have hne' : b ≠ pa := hne.symm
      have hu1 := Upd.drew' (Upd.store (l := []) (off := 1) (v := .int .i64 (wrap64 (c + 2 * n))) hi)
      have hcl1 := run_copy _ 120 3 b m (ws.length - m) k (ws.length - k) n ws Tryz.underlying120 (Upd.inn hu1).tail.head hk2 hk
      go_enter Tryz.func112, Tryz.ntmps112
      go_wp2_with (go_at_call 106; refine (arena_has _ _ _ _ _ _ hl e0).mono ?_; rintro e w' ⟨rfl, rfl⟩)
      have w1 : IntKind.i64.wrap ((m : Int) + n) = (m : Int) + n := IntWalk.i64_in _ (by omega)
      have w2 : IntKind.i64.wrap ((k : Int) + n) = (k : Int) + n := IntWalk.i64_in _ (by omega)
      have q1 : (m : Int) + n ≤ ws.length := by omega
      have q2 : ¬ ws.length = m := by omega
      have q3 : (k : Int) + n ≤ ws.length := by omega
      have q4 : ¬ ws.length = k := by omega
      have p1 : 0 ≤ (m : Int) + n := by omega
      have p2 : 0 ≤ (k : Int) + n := by omega
      have t1 : ((m : Int) + n).toNat = m + n := by omega
      have t2 : ((k : Int) + n).toNat = k + n := by omega
      refine wp_tail 18 (by kernel_rfl) (by kernel_rfl) fun w1 hw1 => ?_
      simp only [List.take_succ_cons, List.take_zero, List.drop_succ_cons, List.drop_zero]
      have e2 : w1.cell? ⟨pa, 0, none⟩ = some (.slice (some ⟨b, 0, none⟩) ws.length ws.length) := by subst hw1; exact cell_of hu1.inn.head 0
      rw [← hw1] at hcl1 hu1
      clear hw1
      repeat still_step
      refine wpStill_nil ?_
      go_wp2
      go_ret
      have hz : copyW ws k m n = lay ws m (seg ws k n) := by simp [copyW, copyOk, hh, hh2]
      have hll := length_lay ws m (seg ws k n) (by rw [length_seg ws k n hk]; exact hk2)
      refine ⟨by simp [copyE, copyOk, hh, hh2], _, ⟨b, wrap64 (c + 2 * n), ?_, ?_, ?_⟩, Upd.row' (l := [(pa, _)]) hu1 (cellsU (lay ws m (seg ws k n)))⟩
      · rw [hz, hll]; rfl
      · rw [hz, hll]; exact hl
      · rw [hz]; exact U64_lay hu (U64_seg hu)
    · have hh' : hasW ws.length j n = false := by simpa using hh2
      have hz : copyW ws i j n = ws := by simp [copyW, copyOk, hh']
      have hz2 : copyE ws i j n = 2 := by simp [copyE, copyOk, hh']
      rw [hz, hz2]
      go_enter Tryz.func112, Tryz.ntmps112
      go_wp2_with (go_at_call 106; refine (arena_has _ _ _ _ _ _ hl e0).mono ?_; rintro e w' ⟨rfl, rfl⟩)
      go_ret
      exact ⟨rfl, _, ⟨b, c, rfl, hl, hu⟩, Upd.refl hi⟩
  · have hh' : hasW ws.length i n = false := by simpa using hh
    have hz : copyW ws i j n = ws := by simp [copyW, copyOk, hh']
    have hz2 : copyE ws i j n = 2 := by simp [copyE, copyOk, hh']
    rw [hz, hz2]
    go_enter Tryz.func112, Tryz.ntmps112
    go_wp2_with (go_at_call 106; refine (arena_has _ _ _ _ _ _ hl e0).mono ?_; rintro e w' ⟨rfl, rfl⟩)
    go_ret
    exact ⟨rfl, _, ⟨b, c, rfl, hl, hu⟩, Upd.refl hi⟩

theorem Tryz.infoU64 : (Tryz.prog.info? 83).map (fun i => (i.zero, i.size, i.bytes)) = some (some (.int .u64 0), 1, 8) := by kernel_rfl

set_option maxRecDepth 100000 in
set_option maxHeartbeats 1000000 in
theorem arena_new (n : Nat) (w : World) (h0 : 0 < n) (h1 : n ≤ 1048576) :
    Calls Tryz.prog 33 #[.int .i64 n] w fun e w' => ∃ p h', e = .returned (.pointer (some ⟨p, 0, none⟩)) ∧ ArenaH p (List.replicate n 0) h' ∧ Upd [] h' w w' := by
  have hm := run_make1 (P := Tryz.prog) w 120 83 (.int .u64 0) 8 Tryz.underlying120 Tryz.infoU64 rfl n (by omega) (by decide)
  have hU := (Upd.alloc (In.nil w) (.cells (List.replicate n (Value.int .u64 0)).toArray 83 (0, 0))).alloc' (.cells #[.slice (some ⟨w.heap.size, 0, none⟩) n n, .int .i64 0] 122 (0, 0))
  have hH : ArenaH (w.heap.size + 1) (List.replicate n 0) [(w.heap.size + 1, .cells #[.slice (some ⟨w.heap.size, 0, none⟩) n n, .int .i64 0] 122 (0, 0)), (w.heap.size, .cells (List.replicate n (Value.int .u64 0)).toArray 83 (0, 0))] :=
    ⟨w.heap.size, 0, by simp [cellsU], by simpa using h1, by intro x hx; simp at hx; rw [hx.2]; exact ⟨by decide, by decide⟩⟩
  have h0' : (0 : Int) < n := by omega
  have h1' : (n : Int) ≤ 1048576 := by omega
  generalize hR : List.replicate n (Value.int .u64 0) = R at *
  clear hR
  go_enter Tryz.func33, Tryz.ntmps33
  go_wp2
  go_ret
  exact ⟨_, _, rfl, hH, by simpa using hU⟩

end Go.Proofs.YtjjdjipohifgbaaGreat

/- What each call of package bump comes to. Conditions: a space as New makes it. -/
namespace Go.Proofs.YtjjdjipohifgbaaGreat
open Go.RowKit

/-- two halves: where each begins and how much of it is used; which one is filled -/
structure YoungS where
  f0 : Int
  u0 : Int
  f1 : Int
  u1 : Int
  words : Int
  now : Bool

namespace YoungS
def cf (y : YoungS) : Int := if y.now then y.f1 else y.f0
def cu (y : YoungS) : Int := if y.now then y.u1 else y.u0
def of (y : YoungS) : Int := if y.now then y.f0 else y.f1
def ou (y : YoungS) : Int := if y.now then y.u0 else y.u1
def WF (y : YoungS) : Prop := 0 ≤ y.f0 ∧ y.f0 ≤ 1048576 ∧ 0 ≤ y.f1 ∧ y.f1 ≤ 2097152 ∧ 0 ≤ y.u0 ∧ y.u0 ≤ y.words ∧ 0 ≤ y.u1 ∧ y.u1 ≤ y.words ∧ y.words ≤ 1048576
def room (y : YoungS) : Int := y.words - y.cu
def takeOk (y : YoungS) (n : Int) : Bool := decide (1 ≤ n ∧ n ≤ y.room)
def takeAt (y : YoungS) (n : Int) : Int := if y.takeOk n then y.cf + y.cu else 0
def take (y : YoungS) (n : Int) : YoungS := if y.takeOk n then (if y.now then { y with u1 := y.u1 + n } else { y with u0 := y.u0 + n }) else y
def flipOk (y : YoungS) : Bool := decide (y.ou ≤ 0)
def flip (y : YoungS) : YoungS := if y.flipOk then { y with now := !y.now } else y
def dropOk (y : YoungS) : Bool := !decide (y.ou = 0)
def drop (y : YoungS) : YoungS := if y.now then { y with u0 := 0 } else { y with u1 := 0 }
def isIn (y : YoungS) (i : Int) : Bool := decide (y.cf ≤ i ∧ i - y.cf < y.cu)
def isFrom (y : YoungS) (i : Int) : Bool := decide (y.of ≤ i ∧ i - y.of < y.ou)
def hasN (y : YoungS) (n : Bool) (i : Int) : Bool := if n then decide (y.f1 ≤ i ∧ i - y.f1 < y.u1) else decide (y.f0 ≤ i ∧ i - y.f0 < y.u0)
end YoungS

def bit01 (b : Bool) : Int := if b then 1 else 0

def youngCells (y : YoungS) : Array Value := #[.int .i64 y.f0, .int .i64 y.u0, .int .i64 y.f1, .int .i64 y.u1, .int .i64 y.words, .int .i64 (bit01 y.now)]

def YoungH (p : Nat) (y : YoungS) (h : Hp) : Prop := h = [(p, .cells (youngCells y) 107 (0, 0))] ∧ y.WF

theorem young_cells {w : World} {p : Nat} {y : YoungS} {h : Hp} (hi : In w h) (hy : YoungH p y h) :
    w.cell? ⟨p, 0, none⟩ = some (.int .i64 y.f0) ∧ w.cell? ⟨p, 1, none⟩ = some (.int .i64 y.u0) ∧ w.cell? ⟨p, 2, none⟩ = some (.int .i64 y.f1) ∧
    w.cell? ⟨p, 3, none⟩ = some (.int .i64 y.u1) ∧ w.cell? ⟨p, 4, none⟩ = some (.int .i64 y.words) ∧ w.cell? ⟨p, 5, none⟩ = some (.int .i64 (bit01 y.now)) := by
  obtain ⟨rfl, _⟩ := hy
  have := hi.head
  exact ⟨cell_of this 0, cell_of this 1, cell_of this 2, cell_of this 3, cell_of this 4, cell_of this 5⟩
theorem young_frozen {w : World} {p : Nat} {y : YoungS} {h : Hp} (hi : In w h) (hy : YoungH p y h) (i : Nat) : w.frozen? ⟨p, i, none⟩ = false := by
  obtain ⟨rfl, _⟩ := hy
  exact frozen_of hi.head i

set_option maxRecDepth 100000 in
set_option maxHeartbeats 400000 in
theorem bump_room (p : Nat) (y : YoungS) (w : World) (h : Hp) (hi : In w h) (hy : YoungH p y h) :
    Calls Tryz.prog 82 #[.pointer (some ⟨p, 0, none⟩)] w fun e w' => e = .returned (.int .i64 y.room) ∧ Upd h h w w' := by
  obtain ⟨c0, c1, c2, c3, c4, c5⟩ := young_cells hi hy
  obtain ⟨hh, h1, h2, h3, h4, h5, h6, h7, h8, h9⟩ := hy
  rcases y with ⟨f0, u0, f1, u1, words, now⟩
  simp only [bit01] at *
  have e1 : IntKind.i64.wrap (words - u0) = words - u0 := IntWalk.i64_in _ (by omega)
  have e2 : IntKind.i64.wrap (words - u1) = words - u1 := IntWalk.i64_in _ (by omega)
  cases now
  all_goals
    simp only [YoungS.room, YoungS.cu, if_true, if_false, Bool.false_eq_true] at *
    go_enter Tryz.func82, Tryz.ntmps82
    go_wp2
    refine wp_still (by kernel_rfl) (by kernel_rfl) fun w1 hw1 => ?_
    subst hw1
    repeat still_step
    refine wpStill_nil ?_
    go_wp2
    go_ret
    exact ⟨rfl, Upd.drew hi⟩

set_option maxRecDepth 100000 in
set_option maxHeartbeats 400000 in
theorem bump_used (p : Nat) (y : YoungS) (w : World) (h : Hp) (hi : In w h) (hy : YoungH p y h) :
    Calls Tryz.prog 58 #[.pointer (some ⟨p, 0, none⟩)] w fun e w' => e = .returned (.int .i64 y.cu) ∧ Upd h h w w' := by
  obtain ⟨c0, c1, c2, c3, c4, c5⟩ := young_cells hi hy
  rcases y with ⟨f0, u0, f1, u1, words, now⟩
  simp only [bit01] at *
  cases now
  all_goals
    simp only [YoungS.cu, if_true, if_false, Bool.false_eq_true] at *
    go_enter Tryz.func58, Tryz.ntmps58
    go_wp2
    refine wp_still (by kernel_rfl) (by kernel_rfl) fun w1 hw1 => ?_
    subst hw1
    repeat still_step
    refine wpStill_nil ?_
    go_wp2
    go_ret
    exact ⟨rfl, Upd.drew hi⟩

set_option maxRecDepth 100000 in
set_option maxHeartbeats 400000 in
theorem bump_left (p : Nat) (y : YoungS) (w : World) (h : Hp) (hi : In w h) (hy : YoungH p y h) :
    Calls Tryz.prog 21 #[.pointer (some ⟨p, 0, none⟩)] w fun e w' => e = .returned (.int .i64 y.ou) ∧ Upd h h w w' := by
  obtain ⟨c0, c1, c2, c3, c4, c5⟩ := young_cells hi hy
  rcases y with ⟨f0, u0, f1, u1, words, now⟩
  simp only [bit01] at *
  have k0 : IntKind.i64.wrap 0 = 0 := by kernel_rfl
  have k1 : IntKind.i64.wrap 1 = 1 := by kernel_rfl
  cases now
  all_goals
    simp only [YoungS.ou, if_true, if_false, Bool.false_eq_true] at *
    go_enter Tryz.func21, Tryz.ntmps21
    go_wp2
    refine wp_still (by kernel_rfl) (by kernel_rfl) fun w1 hw1 => ?_
    subst hw1
    repeat still_step
    refine wpStill_nil ?_
    go_wp2
    go_ret
    exact ⟨rfl, Upd.drew hi⟩

set_option maxRecDepth 100000 in
set_option maxHeartbeats 400000 in
theorem bump_has (p : Nat) (y : YoungS) (n : Bool) (i : Int) (w : World) (h : Hp) (hi : In w h) (hy : YoungH p y h) (hb : I64 i) :
    Calls Tryz.prog 67 #[.pointer (some ⟨p, 0, none⟩), .int .i64 (bit01 n), .int .i64 i] w fun e w' => e = .returned (.bool (y.hasN n i)) ∧ Upd h h w w' := by
  obtain ⟨c0, c1, c2, c3, c4, c5⟩ := young_cells hi hy
  obtain ⟨hh, h1, h2, h3, h4, h5, h6, h7, h8, h9⟩ := hy
  obtain ⟨hb1, hb2⟩ := hb
  clear hh
  rcases y with ⟨f0, u0, f1, u1, words, now⟩
  simp only [bit01, YoungS.hasN] at *
  have hp : p < w.heap.size := World.block_lt_of_cell? w _ c0
  have hp' : p ≠ w.heap.size := by omega
  cases n
  · simp only [if_false, Bool.false_eq_true]
    by_cases g1 : f0 ≤ i
    · have g3 : wrap64 (i - f0) = i - f0 := by unfold wrap64; omega
      by_cases g2 : i - f0 < u0
      all_goals
        go_enter Tryz.func67, Tryz.ntmps67
        go_wp2
        go_ret
        exact ⟨by simp [g1, g2, g3], Upd.skip hi _⟩
    · go_enter Tryz.func67, Tryz.ntmps67
      go_wp2
      go_ret
      exact ⟨by simp [g1] <;> omega, Upd.skip hi _⟩
  · simp only [if_true]
    by_cases g1 : f1 ≤ i
    · have g3 : wrap64 (i - f1) = i - f1 := by unfold wrap64; omega
      by_cases g2 : i - f1 < u1
      all_goals
        go_enter Tryz.func67, Tryz.ntmps67
        go_wp2
        go_ret
        exact ⟨by simp [g1, g2, g3], Upd.skip hi _⟩
    · go_enter Tryz.func67, Tryz.ntmps67
      go_wp2
      go_ret
      exact ⟨by simp [g1] <;> omega, Upd.skip hi _⟩

theorem isIn_eq (y : YoungS) (i : Int) : y.isIn i = y.hasN y.now i := by
  rcases y with ⟨f0, u0, f1, u1, words, now⟩
  cases now <;> rfl
theorem isFrom_eq (y : YoungS) (i : Int) : y.isFrom i = y.hasN (!y.now) i := by
  rcases y with ⟨f0, u0, f1, u1, words, now⟩
  cases now <;> rfl

set_option maxRecDepth 100000 in
set_option maxHeartbeats 400000 in
theorem bump_in (p : Nat) (y : YoungS) (i : Int) (w : World) (h : Hp) (hi : In w h) (hy : YoungH p y h) (hb : I64 i) :
    Calls Tryz.prog 70 #[.pointer (some ⟨p, 0, none⟩), .int .i64 i] w fun e w' => e = .returned (.bool (y.isIn i)) ∧ Upd h h w w' := by
  obtain ⟨c0, c1, c2, c3, c4, c5⟩ := young_cells hi hy
  rw [isIn_eq]
  go_enter Tryz.func70, Tryz.ntmps70
  go_wp2_with (go_at_call 67; refine (bump_has p y _ i _ _ hi hy hb).mono ?_; rintro e w1 ⟨rfl, u1⟩)
  go_ret
  exact ⟨rfl, u1⟩

set_option maxRecDepth 100000 in
set_option maxHeartbeats 400000 in
theorem bump_from (p : Nat) (y : YoungS) (i : Int) (w : World) (h : Hp) (hi : In w h) (hy : YoungH p y h) (hb : I64 i) :
    Calls Tryz.prog 23 #[.pointer (some ⟨p, 0, none⟩), .int .i64 i] w fun e w' => e = .returned (.bool (y.isFrom i)) ∧ Upd h h w w' := by
  obtain ⟨c0, c1, c2, c3, c4, c5⟩ := young_cells hi hy
  rw [isFrom_eq]
  have k1 : bit01 (!y.now) = 1 - bit01 y.now := by cases y.now <;> rfl
  have b1 : 0 ≤ bit01 y.now := by cases y.now <;> decide
  have b2 : bit01 y.now ≤ 1 := by cases y.now <;> decide
  have h1 := bump_has p y (!y.now) i w h hi hy hb
  rw [k1] at h1
  clear k1
  go_enter Tryz.func23, Tryz.ntmps23
  go_wp2_with (go_at_call 67; refine h1.mono ?_; rintro e w1 ⟨rfl, u1⟩)
  go_ret
  exact ⟨rfl, u1⟩

set_option maxRecDepth 100000 in
set_option maxHeartbeats 1000000 in
theorem bump_take (p : Nat) (y : YoungS) (n : Int) (w : World) (h : Hp) (hi : In w h) (hy : YoungH p y h) (hb : I64 n) :
    Calls Tryz.prog 46 #[.pointer (some ⟨p, 0, none⟩), .int .i64 n] w fun e w' => e = .returned (.tuple #[.int .i64 (y.takeAt n), .bool (y.takeOk n)]) ∧ ∃ h', YoungH p (y.take n) h' ∧ Upd h h' w w' := by
  obtain ⟨c0, c1, c2, c3, c4, c5⟩ := young_cells hi hy
  have hf := young_frozen hi hy
  have f1 := hf 1
  have f3 := hf 3
  clear hf
  have hroom := bump_room p y w h hi hy
  by_cases hn : 1 ≤ n
  · by_cases hr : n ≤ y.room
    · have hok : y.takeOk n = true := by simp [YoungS.takeOk, hn, hr]
      have hy0 := hy
      obtain ⟨hh, h1, h2, h3, h4, h5, h6, h7, h8, h9⟩ := hy0
      obtain ⟨hb1, hb2⟩ := hb
      have hroomv : y.room ≤ 1048576 := by unfold YoungS.room YoungS.cu; split <;> omega
      cases hnow : y.now
      · have hcu : y.cu = y.u0 := by simp [YoungS.cu, hnow]
        have hcf : y.cf = y.f0 := by simp [YoungS.cf, hnow]
        have hw' : y.u0 + n ≤ y.words := by unfold YoungS.room at hr; omega
        have hbit : bit01 y.now = 0 := by rw [hnow]; rfl
        have hta : y.takeAt n = y.f0 + y.u0 := by simp [YoungS.takeAt, hok, hcf, hcu]
        have htk : y.take n = { y with u0 := y.u0 + n } := by simp [YoungS.take, hok, hnow]
        rw [hok, hta, htk]
        have hH : YoungH p { y with u0 := y.u0 + n } [(p, .cells ((youngCells y).setIfInBounds 1 (.int .i64 (y.u0 + n))) 107 (0, 0))] := ⟨rfl, h1, h2, h3, h4, by first | assumption | (show 0 ≤ y.u0 + n; omega), by first | assumption | exact hw', by first | assumption | (show 0 ≤ y.u0 + n; omega), by first | assumption | exact hw', h9⟩
        have hfin : ∀ w1, Upd h h w w1 → Upd h [(p, .cells ((youngCells y).setIfInBounds 1 (.int .i64 (y.u0 + n))) 107 (0, 0))] w (w1.setCell ⟨p, 1, none⟩ (.int .i64 (y.u0 + n))) := by
          intro w1 u1
          subst hh
          exact Upd.store' (l := []) u1 1 (.int .i64 (y.u0 + n))
        clear hta htk hcu hcf hok hh hnow
        go_enter Tryz.func46, Tryz.ntmps46
        go_wp2_with (go_at_call 82; refine hroom.mono ?_; rintro e w1 ⟨rfl, u1⟩)
        obtain ⟨d0, d1, d2, d3, d4, d5⟩ := young_cells u1.inn hy
        rw [hbit] at d5
        have g1 := young_frozen u1.inn hy 1
        clear c0 c1 c2 c3 c4 c5 f1 f3 hroom hbit
        refine wp_still (by kernel_rfl) (by kernel_rfl) fun w2 hw2 => ?_
        subst hw2
        repeat still_step
        refine wpStill_nil ?_
        go_wp2
        refine wp_still (by kernel_rfl) (by kernel_rfl) fun w2 hw2 => ?_
        subst hw2
        have s1 : IntKind.i64.wrap (y.f0 + y.u0) = y.f0 + y.u0 := IntWalk.i64_in _ (by omega)
        have s2 : IntKind.i64.wrap (y.u0 + n) = y.u0 + n := IntWalk.i64_in _ (by omega)
        repeat still_step
        refine wpStill_nil ?_
        go_wp2
        go_ret2
        exact ⟨rfl, _, hH, hfin _ (u1.drew'.drew')⟩
      · have hcu : y.cu = y.u1 := by simp [YoungS.cu, hnow]
        have hcf : y.cf = y.f1 := by simp [YoungS.cf, hnow]
        have hw' : y.u1 + n ≤ y.words := by unfold YoungS.room at hr; omega
        have hbit : bit01 y.now = 1 := by rw [hnow]; rfl
        have hta : y.takeAt n = y.f1 + y.u1 := by simp [YoungS.takeAt, hok, hcf, hcu]
        have htk : y.take n = { y with u1 := y.u1 + n } := by simp [YoungS.take, hok, hnow]
        rw [hok, hta, htk]
        have hH : YoungH p { y with u1 := y.u1 + n } [(p, .cells ((youngCells y).setIfInBounds 3 (.int .i64 (y.u1 + n))) 107 (0, 0))] := ⟨rfl, h1, h2, h3, h4, by first | assumption | (show 0 ≤ y.u1 + n; omega), by first | assumption | exact hw', by first | assumption | (show 0 ≤ y.u1 + n; omega), by first | assumption | exact hw', h9⟩
        have hfin : ∀ w1, Upd h h w w1 → Upd h [(p, .cells ((youngCells y).setIfInBounds 3 (.int .i64 (y.u1 + n))) 107 (0, 0))] w (w1.setCell ⟨p, 3, none⟩ (.int .i64 (y.u1 + n))) := by
          intro w1 u1
          subst hh
          exact Upd.store' (l := []) u1 3 (.int .i64 (y.u1 + n))
        clear hta htk hcu hcf hok hh hnow
        go_enter Tryz.func46, Tryz.ntmps46
        go_wp2_with (go_at_call 82; refine hroom.mono ?_; rintro e w1 ⟨rfl, u1⟩)
        obtain ⟨d0, d1, d2, d3, d4, d5⟩ := young_cells u1.inn hy
        rw [hbit] at d5
        have g1 := young_frozen u1.inn hy 3
        clear c0 c1 c2 c3 c4 c5 f1 f3 hroom hbit
        refine wp_still (by kernel_rfl) (by kernel_rfl) fun w2 hw2 => ?_
        subst hw2
        repeat still_step
        refine wpStill_nil ?_
        go_wp2
        refine wp_still (by kernel_rfl) (by kernel_rfl) fun w2 hw2 => ?_
        subst hw2
        have s1 : IntKind.i64.wrap (y.f1 + y.u1) = y.f1 + y.u1 := IntWalk.i64_in _ (by omega)
        have s2 : IntKind.i64.wrap (y.u1 + n) = y.u1 + n := IntWalk.i64_in _ (by omega)
        repeat still_step
        refine wpStill_nil ?_
        go_wp2
        go_ret2
        exact ⟨rfl, _, hH, hfin _ (u1.drew'.drew')⟩
    · have hok : y.takeOk n = false := by simp [YoungS.takeOk]; omega
      have hta : y.takeAt n = 0 := by simp [YoungS.takeAt, hok]
      have htk : y.take n = y := by simp [YoungS.take, hok]
      rw [hok, hta, htk]
      clear hta htk hok
      go_enter Tryz.func46, Tryz.ntmps46
      go_wp2_with (go_at_call 82; refine hroom.mono ?_; rintro e w1 ⟨rfl, u1⟩)
      go_ret2
      exact ⟨rfl, _, hy, u1⟩
  · have hok : y.takeOk n = false := by simp [YoungS.takeOk]; omega
    have hta : y.takeAt n = 0 := by simp [YoungS.takeAt, hok]
    have htk : y.take n = y := by simp [YoungS.take, hok]
    rw [hok, hta, htk]
    clear hta htk hok
    go_enter Tryz.func46, Tryz.ntmps46
    go_wp2_with (go_at_call 82; refine hroom.mono ?_; rintro e w1 ⟨rfl, u1⟩)
    go_ret2
    exact ⟨rfl, _, hy, Upd.refl hi⟩

set_option maxRecDepth 100000 in
set_option maxHeartbeats 400000 in
theorem bump_within (n : Int) (w : World) (h1 : 0 ≤ n) (h2 : n ≤ 1048576) :
    Calls Tryz.prog 78 #[.int .i64 n] w fun e w' => e = .returned (.int .i64 n) ∧ w = w' := by
  go_enter Tryz.func78, Tryz.ntmps78
  go_wp2
  all_goals
    go_ret
    first
      | exact ⟨rfl, rfl⟩
      | (obtain rfl : n = 0 := by omega
         exact ⟨rfl, rfl⟩)

def youngNew (f n : Int) : YoungS := ⟨f, 0, f + n, 0, n, false⟩

set_option maxRecDepth 100000 in
set_option maxHeartbeats 400000 in
theorem bump_new (f n : Int) (w : World) (h1 : 0 ≤ f) (h2 : f ≤ 1048576) (h3 : 0 ≤ n) (h4 : n ≤ 1048576) :
    Calls Tryz.prog 35 #[.int .i64 f, .int .i64 n] w fun e w' => ∃ p h', e = .returned (.pointer (some ⟨p, 0, none⟩)) ∧ YoungH p (youngNew f n) h' ∧ Upd [] h' w w' := by
  have hH : YoungH w.heap.size (youngNew f n) [(w.heap.size, .cells (youngCells (youngNew f n)) 107 (0, 0))] := ⟨rfl, by simp only [youngNew, YoungS.WF]; omega⟩
  have hU := Upd.alloc (In.nil w) (.cells (youngCells (youngNew f n)) 107 (0, 0))
  go_enter Tryz.func35, Tryz.ntmps35
  go_wp2_with (go_at_call 78; refine (bump_within _ _ (by omega) (by omega)).mono ?_; rintro e w1 ⟨rfl, rfl⟩)
  go_ret
  exact ⟨_, _, rfl, hH, hU⟩

end Go.Proofs.YtjjdjipohifgbaaGreat

/- What each call of package conf comes to. No condition. -/
namespace Go.Proofs.YtjjdjipohifgbaaGreat
open Go.RowKit

/-- how a heap is made -/
structure Cfg where
  handles : Int
  nursery : Int
  pages : Int
  page : Int
  card : Int
  buffer : Int
  stack : Int
  tenure : Int
  largest : Int
  minor : Int
  major : Int
  minorAt : Int
  majorAt : Int

def cfgCells (c : Cfg) : Array Value := #[.int .i64 c.handles, .int .i64 c.nursery, .int .i64 c.pages, .int .i64 c.page, .int .i64 c.card, .int .i64 c.buffer, .int .i64 c.stack, .int .i64 c.tenure, .int .i64 c.largest, .int .i64 c.minor, .int .i64 c.major, .int .i64 c.minorAt, .int .i64 c.majorAt]

def within (n a b : Int) : Bool := decide (a ≤ n ∧ n ≤ b)
def Cfg.sizes (c : Cfg) : Bool := within c.handles 1 64 && within c.nursery 8 4096 && within c.pages 0 64 && within c.page 16 256
def Cfg.rows (c : Cfg) : Bool := within c.buffer 0 256 && within c.stack 1 256 && within c.tenure 1 7 && within c.largest 0 64
def Cfg.taxes (c : Cfg) : Bool := within c.minor 0 64 && within c.major 0 64 && within c.minorAt 0 c.nursery && within c.majorAt 0 c.pages
def Cfg.ok (c : Cfg) : Bool := c.sizes && within c.card 1 c.page && decide (c.page % c.card = 0) && c.rows && c.taxes && decide (c.largest + 2 ≤ c.nursery)
def Cfg.err (c : Cfg) : Int := if c.ok then 0 else 1

theorem within_iff {n a b : Int} : within n a b = true ↔ a ≤ n ∧ n ≤ b := by simp [within]

set_option maxRecDepth 100000 in
set_option maxHeartbeats 400000 in
theorem conf_within (n a b : Int) (w : World) :
    Calls Tryz.prog 77 #[.int .i64 n, .int .i64 a, .int .i64 b] w fun e w' => e = .returned (.bool (within n a b)) ∧ w' = w := by
  by_cases h1 : a ≤ n
  · by_cases h2 : n ≤ b
    all_goals
      unfold within
      go_enter Tryz.func77, Tryz.ntmps77
      go_wp2
      go_ret
      exact ⟨by simp [h1, h2] <;> omega, rfl⟩
  · have hw : within n a b = false := by simp [within]; omega
    rw [hw]
    clear hw
    go_enter Tryz.func77, Tryz.ntmps77
    go_wp2
    go_ret
    exact ⟨by simp [h1] <;> omega, rfl⟩

set_option maxRecDepth 100000 in
set_option maxHeartbeats 400000 in
theorem conf_all (b0 b1 b2 b3 : Bool) (p : Nat) (w : World)
    (c0 : w.cell? ⟨p, 0, none⟩ = some (.bool b0)) (c1 : w.cell? ⟨p, 1, none⟩ = some (.bool b1)) (c2 : w.cell? ⟨p, 2, none⟩ = some (.bool b2)) (c3 : w.cell? ⟨p, 3, none⟩ = some (.bool b3)) :
    Calls Tryz.prog 76 #[.slice (some ⟨p, 0, none⟩) 4 4] w fun e w' => e = .returned (.bool (b0 && b1 && b2 && b3)) ∧ w' = w := by
  obtain ⟨f, hf⟩ : ∃ f : Nat → Bool, f = fun i => [b0, b1, b2, b3].getD i true := ⟨_, rfl⟩
  have hc : ∀ k, k < 4 → w.cell? ⟨p, k, none⟩ = some (.bool (f k)) := by
    intro k hk
    subst hf
    match k, hk with
    | 0, _ => exact c0
    | 1, _ => exact c1
    | 2, _ => exact c2
    | 3, _ => exact c3
  have hres : (b0 && b1 && b2 && b3) = (f 0 && f 1 && f 2 && f 3) := by subst hf; rfl
  rw [hres]
  clear hres hf c0 c1 c2 c3
  have H := Lib.hid hc
  clear hc
  go_enter Tryz.func76, Tryz.ntmps76
  go_wp2
  go_loop [7] (fun i => ∃ k : Nat, k ≤ 4 ∧ i = .int .i64 k ∧ ∀ j, j < k → f j = true) (fun i => 4 - (intOf i).toNat)
  case atStart => exact ⟨0, by omega, rfl, by intro j hj; omega⟩
  case round =>
    obtain ⟨k, hk, rfl, hall⟩ := hrel
    have HA := Lib.hid hall
    clear hall
    by_cases hlt : k < 4
    · have e := H.out k hlt
      cases hfk : f k
      · rw [hfk] at e
        have hfin : (f 0 && f 1 && f 2 && f 3) = false := by
          match k, hlt, hfk with
          | 0, _, h => simp [h]
          | 1, _, h => simp [h]
          | 2, _, h => simp [h]
          | 3, _, h => simp [h]
        go_wp2
        go_ret
        exact ⟨rfl, rfl⟩
      · rw [hfk] at e
        go_wp2
        go_round
        case rel => exact ⟨k + 1, by omega, by go_num, by intro j hj; rcases Nat.lt_succ_iff_lt_or_eq.1 hj with h | h; exact HA.out j h; rw [h]; exact hfk⟩
        case measure => simp [intOf]; omega
    · obtain rfl : k = 4 := by omega
      have h0 := HA.out 0 (by omega)
      have h1 := HA.out 1 (by omega)
      have h2 := HA.out 2 (by omega)
      have h3 := HA.out 3 (by omega)
      go_wp2
      go_ret
      exact ⟨by simp, rfl⟩

def Cfg.mature (c : Cfg) : Int := 1 + 2 * c.nursery
def Cfg.words (c : Cfg) : Int := c.mature + c.pages * c.page

/-- small enough -/
def Cfg.Small (c : Cfg) : Prop := 0 ≤ c.nursery ∧ c.nursery ≤ 4096 ∧ 0 ≤ c.pages ∧ c.pages ≤ 64 ∧ 0 ≤ c.page ∧ c.page ≤ 256
theorem Cfg.prod_small {c : Cfg} (h : c.Small) : 0 ≤ c.pages * c.page ∧ c.pages * c.page ≤ 16384 := by
  obtain ⟨_, _, h3, h4, h5, h6⟩ := h
  exact ⟨Int.mul_nonneg h3 h5, by have := Int.mul_le_mul h4 h6 h5 (by omega : (0:Int) ≤ 64); omega⟩

set_option maxRecDepth 100000 in
set_option maxHeartbeats 400000 in
theorem conf_mature (c : Cfg) (w : World) (hs : c.Small) :
    Calls Tryz.prog 32 #[.agg (cfgCells c)] w fun e w' => e = .returned (.int .i64 c.mature) ∧ Upd [] [] w w' := by
  have hU := Upd.skip (In.nil w) (.cells (cfgCells c) 24 (0, 0))
  obtain ⟨h1, h2, h3, h4, h5, h6⟩ := hs
  rcases c with ⟨handles, nursery, pages, page, card, buffer, stack, tenure, largest, minor, major, minorAt, majorAt⟩
  simp only [cfgCells, Cfg.mature] at *
  go_enter Tryz.func32, Tryz.ntmps32
  go_wp2
  go_ret
  exact ⟨rfl, hU⟩

/-- the cells of a configuration that lies in memory -/
def CfgCells (w : World) (b : Nat) (c : Cfg) : Prop := w.cell? ⟨b, 0, none⟩ = some (.int .i64 c.handles) ∧ w.cell? ⟨b, 1, none⟩ = some (.int .i64 c.nursery) ∧ w.cell? ⟨b, 2, none⟩ = some (.int .i64 c.pages) ∧ w.cell? ⟨b, 3, none⟩ = some (.int .i64 c.page) ∧ w.cell? ⟨b, 4, none⟩ = some (.int .i64 c.card) ∧ w.cell? ⟨b, 5, none⟩ = some (.int .i64 c.buffer) ∧ w.cell? ⟨b, 6, none⟩ = some (.int .i64 c.stack) ∧ w.cell? ⟨b, 7, none⟩ = some (.int .i64 c.tenure) ∧ w.cell? ⟨b, 8, none⟩ = some (.int .i64 c.largest) ∧ w.cell? ⟨b, 9, none⟩ = some (.int .i64 c.minor) ∧ w.cell? ⟨b, 10, none⟩ = some (.int .i64 c.major) ∧ w.cell? ⟨b, 11, none⟩ = some (.int .i64 c.minorAt) ∧ w.cell? ⟨b, 12, none⟩ = some (.int .i64 c.majorAt)
theorem cfg_cells {w : World} {b : Nat} {c : Cfg} {T : TypeId} (h : w.heap[b]? = some (.cells (cfgCells c) T (0, 0))) : CfgCells w b c :=
  ⟨cell_of h 0, cell_of h 1, cell_of h 2, cell_of h 3, cell_of h 4, cell_of h 5, cell_of h 6, cell_of h 7, cell_of h 8, cell_of h 9, cell_of h 10, cell_of h 11, cell_of h 12⟩

set_option maxRecDepth 100000 in
set_option maxHeartbeats 1000000 in
theorem conf_words (c : Cfg) (w : World) (hs : c.Small) :
    Calls Tryz.prog 34 #[.agg (cfgCells c)] w fun e w' => e = .returned (.int .i64 c.words) ∧ Upd [] [] w w' := by
  have hU := Upd.drew' (Upd.alloc (In.nil w) (.cells (cfgCells c) 24 (0, 0)))
  have hp := Cfg.prod_small hs
  have hm := conf_mature c
  have e1 : IntKind.i64.wrap (c.pages * c.page) = c.pages * c.page := IntWalk.i64_in _ (by omega)
  have e2 : IntKind.i64.wrap (c.mature + c.pages * c.page) = c.words := IntWalk.i64_in _ (by obtain ⟨h1, h2, h3, h4, h5, h6⟩ := hs; unfold Cfg.mature; omega)
  go_enter Tryz.func34, Tryz.ntmps34
  simp only [cfgCells]
  go_wp2
  go_region_held3 (fun w' => w'.cell? ⟨w.heap.size, 0, none⟩ = some (.int .i64 c.handles) ∧ w'.cell? ⟨w.heap.size, 1, none⟩ = some (.int .i64 c.nursery) ∧ w'.cell? ⟨w.heap.size, 2, none⟩ = some (.int .i64 c.pages) ∧ w'.cell? ⟨w.heap.size, 3, none⟩ = some (.int .i64 c.page) ∧ w'.cell? ⟨w.heap.size, 4, none⟩ = some (.int .i64 c.card) ∧ w'.cell? ⟨w.heap.size, 5, none⟩ = some (.int .i64 c.buffer) ∧ w'.cell? ⟨w.heap.size, 6, none⟩ = some (.int .i64 c.stack) ∧ w'.cell? ⟨w.heap.size, 7, none⟩ = some (.int .i64 c.tenure) ∧ w'.cell? ⟨w.heap.size, 8, none⟩ = some (.int .i64 c.largest) ∧ w'.cell? ⟨w.heap.size, 9, none⟩ = some (.int .i64 c.minor) ∧ w'.cell? ⟨w.heap.size, 10, none⟩ = some (.int .i64 c.major) ∧ w'.cell? ⟨w.heap.size, 11, none⟩ = some (.int .i64 c.minorAt) ∧ w'.cell? ⟨w.heap.size, 12, none⟩ = some (.int .i64 c.majorAt)) (first | go_keep | exact cfg_cells (c := c) (Upd.keep0 u1 heap_alloc_new)) (first | (go_at_call 32; refine (hm _ hs).mono ?_; rintro e w1 ⟨rfl, u1⟩))
  go_wp2
  go_ret
  exact ⟨rfl, ((Upd.skip (In.nil w) _).drew').trans u1⟩


set_option maxRecDepth 100000 in
set_option maxHeartbeats 400000 in
theorem conf_half (c : Cfg) (w : World) (hs : c.Small) :
    Calls Tryz.prog 36 #[.agg (cfgCells c), .int .i64 0] w fun e w' => e = .returned (.int .i64 1) ∧ Upd [] [] w w' := by
  have hU := Upd.skip (In.nil w) (.cells (cfgCells c) 24 (0, 0))
  obtain ⟨h1, h2, h3, h4, h5, h6⟩ := hs
  rcases c with ⟨handles, nursery, pages, page, card, buffer, stack, tenure, largest, minor, major, minorAt, majorAt⟩
  simp only [cfgCells] at *
  have hb : bits BinOp.and IntKind.i64 0 1 = 0 := by kernel_rfl
  go_enter Tryz.func36, Tryz.ntmps36
  go_wp2
  go_ret
  exact ⟨rfl, hU⟩

/-- a block of four flags -/
theorem conf_all4 (b0 b1 b2 b3 : Bool) (p : Nat) (w : World) (h : w.heap[p]? = some (.cells #[.bool b0, .bool b1, .bool b2, .bool b3] 4 (0, 0))) :
    Calls Tryz.prog 76 #[.slice (some ⟨p, 0, none⟩) 4 4] w fun e w' => e = .returned (.bool (b0 && b1 && b2 && b3)) ∧ w' = w :=
  conf_all b0 b1 b2 b3 p w (cell_of h 0) (cell_of h 1) (cell_of h 2) (cell_of h 3)

set_option maxRecDepth 100000 in
set_option maxHeartbeats 2000000 in
theorem conf_check (c : Cfg) (w : World) :
    Calls Tryz.prog 31 #[.agg (cfgCells c)] w fun e w' => e = .returned (.int .i64 c.err) ∧ Upd [] [] w w' := by
  by_cases hs : c.sizes = true
  · have hs' := hs
    simp only [Cfg.sizes, Bool.and_eq_true, within_iff] at hs'
    obtain ⟨⟨⟨s1, s2⟩, s3⟩, s4⟩ := hs'
    have hz : (within c.handles 1 64 && within c.nursery 8 4096 && within c.pages 0 64 && within c.page 16 256) = true := hs
    cases hwc : within c.card 1 c.page
    · have he : c.err = 1 := by simp [Cfg.err, Cfg.ok, hwc]
      rw [he]
      clear he hs
      go_enter Tryz.func31, Tryz.ntmps31
      simp only [cfgCells]
      go_wp2
      refine wp_tail 12 (by kernel_rfl) (by kernel_rfl) fun w1 hw1 => ?_
      subst hw1
      simp only [List.take_succ_cons, List.take_zero, List.drop_succ_cons, List.drop_zero]
      repeat (first | still_step | still_call (conf_within _ _ _ _))
      refine wpStill_nil ?_
      go_wp2_with (first | (go_at_call 76; refine Calls.mono (conf_all4 _ _ _ _ _ _ (heap_alloc_at (by simp))) ?_; rintro e w1 ⟨rfl, rfl⟩) | (go_at_call 77; refine Calls.mono (conf_within _ _ _ _) ?_; rintro e w1 ⟨rfl, rfl⟩))
      go_ret
      exact ⟨rfl, (((Upd.skip (In.nil w) _).drew').skip' _)⟩
    · have hc := within_iff.1 hwc
      obtain ⟨k1, k2⟩ := hc
      by_cases hrem : c.page % c.card = 0
      · have hrem' : (c.page % c.card == 0) = true := by simpa using hrem
        have hrem'' : (c.page % c.card != 0) = false := by simpa using hrem
        cases hr : c.rows
        · have he : c.err = 1 := by simp [Cfg.err, Cfg.ok, hr]
          have hzr : (within c.buffer 0 256 && within c.stack 1 256 && within c.tenure 1 7 && within c.largest 0 64) = false := hr
          rw [he]
          clear he hs
          go_enter Tryz.func31, Tryz.ntmps31
          simp only [cfgCells]
          go_wp2
          refine wp_tail 12 (by kernel_rfl) (by kernel_rfl) fun w1 hw1 => ?_
          subst hw1
          simp only [List.take_succ_cons, List.take_zero, List.drop_succ_cons, List.drop_zero]
          repeat (first | still_step | still_call (conf_within _ _ _ _))
          refine wpStill_nil ?_
          go_wp2_with (first | (go_at_call 76; refine Calls.mono (conf_all4 _ _ _ _ _ _ (heap_alloc_at (by simp))) ?_; rintro e w1 ⟨rfl, rfl⟩) | (go_at_call 77; refine Calls.mono (conf_within _ _ _ _) ?_; rintro e w1 ⟨rfl, rfl⟩))
          refine wp_tail 12 (by kernel_rfl) (by kernel_rfl) fun w1 hw1 => ?_
          subst hw1
          simp only [List.take_succ_cons, List.take_zero, List.drop_succ_cons, List.drop_zero]
          repeat (first | still_step | still_call (conf_within _ _ _ _))
          refine wpStill_nil ?_
          go_wp2_with (first | (go_at_call 76; refine Calls.mono (conf_all4 _ _ _ _ _ _ (heap_alloc_at (by simp))) ?_; rintro e w1 ⟨rfl, rfl⟩) | (go_at_call 77; refine Calls.mono (conf_within _ _ _ _) ?_; rintro e w1 ⟨rfl, rfl⟩))
          refine wp_tail 16 (by kernel_rfl) (by kernel_rfl) fun w1 hw1 => ?_
          subst hw1
          simp only [List.take_succ_cons, List.take_zero, List.drop_succ_cons, List.drop_zero]
          repeat (first | still_step | still_call (conf_within _ _ _ _))
          refine wpStill_nil ?_
          go_wp2_with (first | (go_at_call 76; refine Calls.mono (conf_all4 _ _ _ _ _ _ (heap_alloc_at (by simp))) ?_; rintro e w1 ⟨rfl, rfl⟩) | (go_at_call 77; refine Calls.mono (conf_within _ _ _ _) ?_; rintro e w1 ⟨rfl, rfl⟩))
          go_ret
          exact ⟨rfl, (((((((Upd.skip (In.nil w) _).drew').skip' _).drew').skip' _).drew').skip' _)⟩
        · have hzr : (within c.buffer 0 256 && within c.stack 1 256 && within c.tenure 1 7 && within c.largest 0 64) = true := hr
          have hr2 := hzr
          simp only [Bool.and_eq_true, within_iff] at hr2
          obtain ⟨_, l1, l2⟩ := hr2
          cases ht : c.taxes
          · have he : c.err = 1 := by simp [Cfg.err, Cfg.ok, ht]
            have hzt : (within c.minor 0 64 && within c.major 0 64 && within c.minorAt 0 c.nursery && within c.majorAt 0 c.pages) = false := ht
            rw [he]
            clear he hs
            go_enter Tryz.func31, Tryz.ntmps31
            simp only [cfgCells]
            go_wp2
            refine wp_tail 12 (by kernel_rfl) (by kernel_rfl) fun w1 hw1 => ?_
            subst hw1
            simp only [List.take_succ_cons, List.take_zero, List.drop_succ_cons, List.drop_zero]
            repeat (first | still_step | still_call (conf_within _ _ _ _))
            refine wpStill_nil ?_
            go_wp2_with (first | (go_at_call 76; refine Calls.mono (conf_all4 _ _ _ _ _ _ (heap_alloc_at (by simp))) ?_; rintro e w1 ⟨rfl, rfl⟩) | (go_at_call 77; refine Calls.mono (conf_within _ _ _ _) ?_; rintro e w1 ⟨rfl, rfl⟩))
            refine wp_tail 12 (by kernel_rfl) (by kernel_rfl) fun w1 hw1 => ?_
            subst hw1
            simp only [List.take_succ_cons, List.take_zero, List.drop_succ_cons, List.drop_zero]
            repeat (first | still_step | still_call (conf_within _ _ _ _))
            refine wpStill_nil ?_
            go_wp2_with (first | (go_at_call 76; refine Calls.mono (conf_all4 _ _ _ _ _ _ (heap_alloc_at (by simp))) ?_; rintro e w1 ⟨rfl, rfl⟩) | (go_at_call 77; refine Calls.mono (conf_within _ _ _ _) ?_; rintro e w1 ⟨rfl, rfl⟩))
            refine wp_tail 16 (by kernel_rfl) (by kernel_rfl) fun w1 hw1 => ?_
            subst hw1
            simp only [List.take_succ_cons, List.take_zero, List.drop_succ_cons, List.drop_zero]
            repeat (first | still_step | still_call (conf_within _ _ _ _))
            refine wpStill_nil ?_
            go_wp2_with (first | (go_at_call 76; refine Calls.mono (conf_all4 _ _ _ _ _ _ (heap_alloc_at (by simp))) ?_; rintro e w1 ⟨rfl, rfl⟩) | (go_at_call 77; refine Calls.mono (conf_within _ _ _ _) ?_; rintro e w1 ⟨rfl, rfl⟩))
            go_ret
            exact ⟨rfl, (((((((Upd.skip (In.nil w) _).drew').skip' _).drew').skip' _).drew').skip' _)⟩
          · have hzt : (within c.minor 0 64 && within c.major 0 64 && within c.minorAt 0 c.nursery && within c.majorAt 0 c.pages) = true := ht
            by_cases hl : c.nursery < c.largest + 2
            · have he : c.err = 1 := by simp [Cfg.err, Cfg.ok]; omega
              rw [he]
              clear he hs
              go_enter Tryz.func31, Tryz.ntmps31
              simp only [cfgCells]
              go_wp2
              refine wp_tail 12 (by kernel_rfl) (by kernel_rfl) fun w1 hw1 => ?_
              subst hw1
              simp only [List.take_succ_cons, List.take_zero, List.drop_succ_cons, List.drop_zero]
              repeat (first | still_step | still_call (conf_within _ _ _ _))
              refine wpStill_nil ?_
              go_wp2_with (first | (go_at_call 76; refine Calls.mono (conf_all4 _ _ _ _ _ _ (heap_alloc_at (by simp))) ?_; rintro e w1 ⟨rfl, rfl⟩) | (go_at_call 77; refine Calls.mono (conf_within _ _ _ _) ?_; rintro e w1 ⟨rfl, rfl⟩))
              refine wp_tail 12 (by kernel_rfl) (by kernel_rfl) fun w1 hw1 => ?_
              subst hw1
              simp only [List.take_succ_cons, List.take_zero, List.drop_succ_cons, List.drop_zero]
              repeat (first | still_step | still_call (conf_within _ _ _ _))
              refine wpStill_nil ?_
              go_wp2_with (first | (go_at_call 76; refine Calls.mono (conf_all4 _ _ _ _ _ _ (heap_alloc_at (by simp))) ?_; rintro e w1 ⟨rfl, rfl⟩) | (go_at_call 77; refine Calls.mono (conf_within _ _ _ _) ?_; rintro e w1 ⟨rfl, rfl⟩))
              refine wp_tail 16 (by kernel_rfl) (by kernel_rfl) fun w1 hw1 => ?_
              subst hw1
              simp only [List.take_succ_cons, List.take_zero, List.drop_succ_cons, List.drop_zero]
              repeat (first | still_step | still_call (conf_within _ _ _ _))
              refine wpStill_nil ?_
              go_wp2_with (first | (go_at_call 76; refine Calls.mono (conf_all4 _ _ _ _ _ _ (heap_alloc_at (by simp))) ?_; rintro e w1 ⟨rfl, rfl⟩) | (go_at_call 77; refine Calls.mono (conf_within _ _ _ _) ?_; rintro e w1 ⟨rfl, rfl⟩))
              go_ret
              exact ⟨rfl, (((((((Upd.skip (In.nil w) _).drew').skip' _).drew').skip' _).drew').skip' _)⟩
            · have he : c.err = 0 := by simp [Cfg.err, Cfg.ok, hs, hwc, hrem, hr, ht]; omega
              rw [he]
              clear he hs
              go_enter Tryz.func31, Tryz.ntmps31
              simp only [cfgCells]
              go_wp2
              refine wp_tail 12 (by kernel_rfl) (by kernel_rfl) fun w1 hw1 => ?_
              subst hw1
              simp only [List.take_succ_cons, List.take_zero, List.drop_succ_cons, List.drop_zero]
              repeat (first | still_step | still_call (conf_within _ _ _ _))
              refine wpStill_nil ?_
              go_wp2_with (first | (go_at_call 76; refine Calls.mono (conf_all4 _ _ _ _ _ _ (heap_alloc_at (by simp))) ?_; rintro e w1 ⟨rfl, rfl⟩) | (go_at_call 77; refine Calls.mono (conf_within _ _ _ _) ?_; rintro e w1 ⟨rfl, rfl⟩))
              refine wp_tail 12 (by kernel_rfl) (by kernel_rfl) fun w1 hw1 => ?_
              subst hw1
              simp only [List.take_succ_cons, List.take_zero, List.drop_succ_cons, List.drop_zero]
              repeat (first | still_step | still_call (conf_within _ _ _ _))
              refine wpStill_nil ?_
              go_wp2_with (first | (go_at_call 76; refine Calls.mono (conf_all4 _ _ _ _ _ _ (heap_alloc_at (by simp))) ?_; rintro e w1 ⟨rfl, rfl⟩) | (go_at_call 77; refine Calls.mono (conf_within _ _ _ _) ?_; rintro e w1 ⟨rfl, rfl⟩))
              refine wp_tail 16 (by kernel_rfl) (by kernel_rfl) fun w1 hw1 => ?_
              subst hw1
              simp only [List.take_succ_cons, List.take_zero, List.drop_succ_cons, List.drop_zero]
              repeat (first | still_step | still_call (conf_within _ _ _ _))
              refine wpStill_nil ?_
              go_wp2_with (first | (go_at_call 76; refine Calls.mono (conf_all4 _ _ _ _ _ _ (heap_alloc_at (by simp))) ?_; rintro e w1 ⟨rfl, rfl⟩) | (go_at_call 77; refine Calls.mono (conf_within _ _ _ _) ?_; rintro e w1 ⟨rfl, rfl⟩))
              go_ret
              exact ⟨rfl, (((((((Upd.skip (In.nil w) _).drew').skip' _).drew').skip' _).drew').skip' _)⟩
      · have hrem' : (c.page % c.card == 0) = false := by simpa using hrem
        have hrem'' : (c.page % c.card != 0) = true := by simpa using hrem
        have he : c.err = 1 := by simp [Cfg.err, Cfg.ok, hrem]
        rw [he]
        clear he hs
        go_enter Tryz.func31, Tryz.ntmps31
        simp only [cfgCells]
        go_wp2
        refine wp_tail 12 (by kernel_rfl) (by kernel_rfl) fun w1 hw1 => ?_
        subst hw1
        simp only [List.take_succ_cons, List.take_zero, List.drop_succ_cons, List.drop_zero]
        repeat (first | still_step | still_call (conf_within _ _ _ _))
        refine wpStill_nil ?_
        go_wp2_with (first | (go_at_call 76; refine Calls.mono (conf_all4 _ _ _ _ _ _ (heap_alloc_at (by simp))) ?_; rintro e w1 ⟨rfl, rfl⟩) | (go_at_call 77; refine Calls.mono (conf_within _ _ _ _) ?_; rintro e w1 ⟨rfl, rfl⟩))
        go_ret
        exact ⟨rfl, (((Upd.skip (In.nil w) _).drew').skip' _)⟩
  · have hs' : c.sizes = false := by simpa using hs
    have he : c.err = 1 := by simp [Cfg.err, Cfg.ok, hs']
    have hz : (within c.handles 1 64 && within c.nursery 8 4096 && within c.pages 0 64 && within c.page 16 256) = false := hs'
    rw [he]
    clear he hs
    go_enter Tryz.func31, Tryz.ntmps31
    simp only [cfgCells]
    go_wp2
    refine wp_tail 12 (by kernel_rfl) (by kernel_rfl) fun w1 hw1 => ?_
    subst hw1
    simp only [List.take_succ_cons, List.take_zero, List.drop_succ_cons, List.drop_zero]
    repeat (first | still_step | still_call (conf_within _ _ _ _))
    refine wpStill_nil ?_
    go_wp2_with (go_at_call 76; refine Calls.mono (conf_all4 _ _ _ _ _ _ (heap_alloc_at (by simp))) ?_; rintro e w1 ⟨rfl, rfl⟩)
    go_ret
    exact ⟨rfl, (((Upd.skip (In.nil w) _).drew').skip' _)⟩

end Go.Proofs.YtjjdjipohifgbaaGreat

/- What each call of package head comes to. No condition. -/
namespace Go.Proofs.YtjjdjipohifgbaaGreat
open Go.RowKit

/-- an object's first word -/
structure Hd where
  size : Int
  ptrs : Int
  age : Int
  parity : Int
  grey : Bool
  noted : Bool
  old : Bool
deriving DecidableEq

def hdCells (h : Hd) : Array Value := #[.int .i64 h.size, .int .i64 h.ptrs, .int .i64 h.age, .int .i64 h.parity, .bool h.grey, .bool h.noted, .bool h.old]

def Hd.Good (h : Hd) : Prop := 0 ≤ h.size ∧ h.size ≤ 64 ∧ 0 ≤ h.ptrs ∧ h.ptrs ≤ h.size ∧ 0 ≤ h.age ∧ h.age ≤ 7 ∧ (h.parity = 0 ∨ h.parity = 1)
instance (h : Hd) : Decidable h.Good := by unfold Hd.Good; infer_instance
def Hd.good (h : Hd) : Bool := decide h.Good
theorem Hd.good_false {h : Hd} (hn : ¬ h.Good) : h.good = false := by simp [Hd.good, hn]
theorem Hd.good_true {h : Hd} (hn : h.Good) : h.good = true := by simp [Hd.good, hn]
def flag (b : Bool) (n : Int) : Int := if b then n else 0
/-- a head's word -/
def Hd.enc (h : Hd) : Int := h.size + h.ptrs * 65536 + h.age * 4294967296 + h.parity * 1099511627776 + flag h.grey 2199023255552 + flag h.noted 4398046511104 + flag h.old 8796093022208 + 17592186044416

set_option maxRecDepth 100000 in
set_option maxHeartbeats 2000000 in
theorem head_good (h : Hd) (w : World) :
    Calls Tryz.prog 83 #[.agg (hdCells h)] w fun e w' => e = .returned (.bool h.good) ∧ Upd [] [] w w' := by
  have hU := Upd.skip (In.nil w) (.cells (hdCells h) 65 (0, 0))
  simp only [hdCells] at *
  go_enter Tryz.func83, Tryz.ntmps83
  go_wp2
  all_goals
    go_ret
    refine ⟨?_, Upd.skip (In.nil w) _⟩
    first
      | exact congrArg (fun b => Ending.returned (.bool b)) (Hd.good_false (by unfold Hd.Good; omega)).symm
      | exact congrArg (fun b => Ending.returned (.bool b)) (Hd.good_true (by unfold Hd.Good; omega)).symm
      | (have hg : h.good = (h.parity == 0 || h.parity == 1) := by
           by_cases hp : h.parity = 0 ∨ h.parity = 1
           · rw [Hd.good_true (by unfold Hd.Good; omega)]
             simpa using hp
           · rw [Hd.good_false (by unfold Hd.Good; omega)]
             symm
             simpa using hp
         exact congrArg (fun b => Ending.returned (.bool b)) hg.symm)

set_option maxRecDepth 100000 in
set_option maxHeartbeats 400000 in
theorem head_bit41 (b : Bool) (w : World) :
    Calls Tryz.prog 120 #[.bool b, .int .i64 41] w fun e w' => e = .returned (.int .u64 (flag b 2199023255552)) ∧ w' = w := by
  cases b
  all_goals
    go_enter Tryz.func120, Tryz.ntmps120
    go_wp2
    go_ret
    exact ⟨rfl, rfl⟩

set_option maxRecDepth 100000 in
set_option maxHeartbeats 400000 in
theorem head_bit42 (b : Bool) (w : World) :
    Calls Tryz.prog 120 #[.bool b, .int .i64 42] w fun e w' => e = .returned (.int .u64 (flag b 4398046511104)) ∧ w' = w := by
  cases b
  all_goals
    go_enter Tryz.func120, Tryz.ntmps120
    go_wp2
    go_ret
    exact ⟨rfl, rfl⟩

set_option maxRecDepth 100000 in
set_option maxHeartbeats 400000 in
theorem head_bit43 (b : Bool) (w : World) :
    Calls Tryz.prog 120 #[.bool b, .int .i64 43] w fun e w' => e = .returned (.int .u64 (flag b 8796093022208)) ∧ w' = w := by
  cases b
  all_goals
    go_enter Tryz.func120, Tryz.ntmps120
    go_wp2
    go_ret
    exact ⟨rfl, rfl⟩


theorem or_u64 (k M : Nat) (hM : M = 2 ^ k) (a b : Int) (h0 : 0 ≤ a) (h1 : a < M) (h2 : 0 ≤ b) (h3 : b % M = 0) (h4 : b < 18446744073709551616) (h5 : a < 18446744073709551616) :
    bits .or .u64 a b = a + b := by
  obtain ⟨x, rfl⟩ := Int.eq_ofNat_of_zero_le h0
  obtain ⟨y, rfl⟩ := Int.eq_ofNat_of_zero_le h2
  subst hM
  rw [bits_or_u64_nat x y (by omega) (by omega)]
  have hx : x < 2 ^ k := by omega
  have hy : y % 2 ^ k = 0 := by omega
  have hq : y = 2 ^ k * (y / 2 ^ k) := by have := Nat.div_add_mod y (2 ^ k); omega
  have := Nat.two_pow_add_eq_or_of_lt hx (y / 2 ^ k)
  rw [← hq] at this
  rw [Nat.or_comm, ← this]
  omega

theorem and_u64 (k M : Nat) (hM : M = 2 ^ k) (a : Int) (m : Int) (hm : m = M - 1) (h0 : 0 ≤ a) (h1 : a < 18446744073709551616) (h2 : M < 18446744073709551616) : bits .and .u64 a m = a % M := by
  obtain ⟨x, rfl⟩ := Int.eq_ofNat_of_zero_le h0
  have hp : 0 < 2 ^ k := Nat.two_pow_pos k
  have hm' : m = ((M - 1 : Nat) : Int) := by subst hM; omega
  rw [hm', bits_and_u64_nat x (M - 1) (by omega) (by omega), hM, Nat.and_two_pow_sub_one_eq_mod]
  omega

def bitv (n : Int) : Int := if n = 41 then 2199023255552 else if n = 42 then 4398046511104 else 8796093022208
theorem head_bit (b : Bool) (n : Int) (w : World) (hn : n = 41 ∨ n = 42 ∨ n = 43) :
    Calls Tryz.prog 120 #[.bool b, .int .i64 n] w fun e w' => e = .returned (.int .u64 (flag b (bitv n))) ∧ w' = w := by
  rcases hn with rfl | rfl | rfl
  · exact head_bit41 b w
  · exact head_bit42 b w
  · exact head_bit43 b w

theorem hd_cells {w : World} {b : Nat} {x : Hd} {T : TypeId} (h : w.heap[b]? = some (.cells (hdCells x) T (0, 0))) :
    w.cell? ⟨b, 0, none⟩ = some (.int .i64 x.size) ∧ w.cell? ⟨b, 1, none⟩ = some (.int .i64 x.ptrs) ∧ w.cell? ⟨b, 2, none⟩ = some (.int .i64 x.age) ∧ w.cell? ⟨b, 3, none⟩ = some (.int .i64 x.parity) ∧ w.cell? ⟨b, 4, none⟩ = some (.bool x.grey) ∧ w.cell? ⟨b, 5, none⟩ = some (.bool x.noted) ∧ w.cell? ⟨b, 6, none⟩ = some (.bool x.old) :=
  ⟨cell_of h 0, cell_of h 1, cell_of h 2, cell_of h 3, cell_of h 4, cell_of h 5, cell_of h 6⟩
theorem hd_frozen {w : World} {b : Nat} {x : Hd} {T : TypeId} (h : w.heap[b]? = some (.cells (hdCells x) T (0, 0))) :
    w.frozen? ⟨b, 0, none⟩ = false ∧ w.frozen? ⟨b, 1, none⟩ = false ∧ w.frozen? ⟨b, 2, none⟩ = false ∧ w.frozen? ⟨b, 3, none⟩ = false ∧ w.frozen? ⟨b, 4, none⟩ = false ∧ w.frozen? ⟨b, 5, none⟩ = false ∧ w.frozen? ⟨b, 6, none⟩ = false :=
  ⟨frozen_of h 0, frozen_of h 1, frozen_of h 2, frozen_of h 3, frozen_of h 4, frozen_of h 5, frozen_of h 6⟩
def Hd.encE (h : Hd) : Int := if h.good then h.enc else 0

set_option maxRecDepth 100000 in
set_option maxHeartbeats 2000000 in
theorem head_pack (h : Hd) (w : World) :
    Calls Tryz.prog 107 #[.agg (hdCells h)] w fun e w' => e = .returned (.tuple #[.int .u64 h.encE, .bool h.good]) ∧ Upd [] [] w w' := by
  have hgood := head_good h
  by_cases hg : h.good = true
  · have hg' : h.Good := by simpa [Hd.good] using hg
    have he : h.encE = h.enc := by simp [Hd.encE, hg]
    rw [he, hg]
    rw [hg] at hgood
    obtain ⟨h1, h2, h3, h4, h5, h6, h7⟩ := hg'
    have h8 : 0 ≤ h.parity := by omega
    have h9 : h.parity ≤ 1 := by omega
    have h10 : h.ptrs ≤ 64 := by omega
    clear hg he h7
    simp only [hdCells] at *
    go_enter Tryz.func107, Tryz.ntmps107
    go_wp2_with (go_at_call 83; refine Calls.mono (hgood _) ?_; rintro e w1 ⟨rfl, u1⟩; obtain ⟨c0, c1, c2, c3, c4, c5, c6⟩ := hd_cells (x := h) (Upd.keep0 u1 heap_alloc_new))
    refine wp_still (by kernel_rfl) (by kernel_rfl) fun w2 hw2 => ?_
    subst hw2
    repeat (first | still_step | still_call (head_bit _ _ _ (by decide)))
    refine wpStill_nil ?_
    go_wp2
    go_ret2
    refine ⟨?_, ((Upd.skip (In.nil w) _).trans u1).drew'⟩
    have f1 : flag h.grey (bitv 41) = 0 ∨ flag h.grey (bitv 41) = 2199023255552 := by cases h.grey; exact .inl rfl; exact .inr rfl
    have f2 : flag h.noted (bitv 42) = 0 ∨ flag h.noted (bitv 42) = 4398046511104 := by cases h.noted; exact .inl rfl; exact .inr rfl
    have f3 : flag h.old (bitv 43) = 0 ∨ flag h.old (bitv 43) = 8796093022208 := by cases h.old; exact .inl rfl; exact .inr rfl
    have e1 := or_u64 16 65536 (by decide) h.size (h.ptrs * 65536) (by omega) (by omega) (by omega) (by omega) (by omega) (by omega)
    have e2 := or_u64 32 4294967296 (by decide) (h.size + h.ptrs * 65536) (h.age * 4294967296) (by omega) (by omega) (by omega) (by omega) (by omega) (by omega)
    have e3 := or_u64 40 1099511627776 (by decide) (h.size + h.ptrs * 65536 + h.age * 4294967296) (h.parity * 1099511627776) (by omega) (by omega) (by omega) (by omega) (by omega) (by omega)
    have e4 := or_u64 41 2199023255552 (by decide) (h.size + h.ptrs * 65536 + h.age * 4294967296 + h.parity * 1099511627776) (flag h.grey (bitv 41)) (by omega) (by omega) (by omega) (by omega) (by omega) (by omega)
    have e5 := or_u64 42 4398046511104 (by decide) (h.size + h.ptrs * 65536 + h.age * 4294967296 + h.parity * 1099511627776 + flag h.grey (bitv 41)) (flag h.noted (bitv 42)) (by omega) (by omega) (by omega) (by omega) (by omega) (by omega)
    have e6 := or_u64 43 8796093022208 (by decide) (h.size + h.ptrs * 65536 + h.age * 4294967296 + h.parity * 1099511627776 + flag h.grey (bitv 41) + flag h.noted (bitv 42)) (flag h.old (bitv 43)) (by omega) (by omega) (by omega) (by omega) (by omega) (by omega)
    have e7 := or_u64 44 17592186044416 (by decide) (h.size + h.ptrs * 65536 + h.age * 4294967296 + h.parity * 1099511627776 + flag h.grey (bitv 41) + flag h.noted (bitv 42) + flag h.old (bitv 43)) 17592186044416 (by omega) (by omega) (by omega) (by omega) (by omega) (by omega)
    have e : bits BinOp.or IntKind.u64 (bits BinOp.or IntKind.u64 (bits BinOp.or IntKind.u64 (bits BinOp.or IntKind.u64 (bits BinOp.or IntKind.u64 (bits BinOp.or IntKind.u64 (bits BinOp.or IntKind.u64 h.size (h.ptrs * 65536)) (h.age * 4294967296)) (h.parity * 1099511627776)) (flag h.grey (bitv 41))) (flag h.noted (bitv 42))) (flag h.old (bitv 43))) 17592186044416 = h.enc := by
      rw [e1, e2, e3, e4, e5, e6, e7]
      rfl
    exact congrArg (fun x => Ending.returned (.tuple #[.int .u64 x, .bool true])) e
  · have hf : h.good = false := by simpa using hg
    have he : h.encE = 0 := by simp [Hd.encE, hf]
    rw [he, hf]
    rw [hf] at hgood
    clear he hf hg
    simp only [hdCells] at *
    go_enter Tryz.func107, Tryz.ntmps107
    go_wp2_with (go_at_call 83; refine Calls.mono (hgood _) ?_; rintro e w1 ⟨rfl, u1⟩)
    go_ret2
    exact ⟨rfl, (Upd.skip (In.nil w) _).trans u1⟩

/-- the head of a word -/
def decH (w : Int) : Hd := ⟨w % 65536, w / 65536 % 65536, w / 4294967296 % 256, w / 1099511627776 % 2, decide (w / 2199023255552 % 2 = 1), decide (w / 4398046511104 % 2 = 1), decide (w / 8796093022208 % 2 = 1)⟩
def hd0 : Hd := ⟨0, 0, 0, 0, false, false, false⟩
def isHd (w : Int) : Bool := (decH w).good && decide ((decH w).enc = w)
def unH (w : Int) : Hd := if isHd w then decH w else hd0

theorem enc_dec {h : Hd} (hg : h.Good) : decH h.enc = h := by
  obtain ⟨h1, h2, h3, h4, h5, h6, h7⟩ := hg
  rcases h with ⟨size, ptrs, age, parity, grey, noted, old⟩
  simp only at *
  have f1 : flag grey 2199023255552 = 0 ∧ grey = false ∨ flag grey 2199023255552 = 2199023255552 ∧ grey = true := by cases grey; exact .inl ⟨rfl, rfl⟩; exact .inr ⟨rfl, rfl⟩
  have f2 : flag noted 4398046511104 = 0 ∧ noted = false ∨ flag noted 4398046511104 = 4398046511104 ∧ noted = true := by cases noted; exact .inl ⟨rfl, rfl⟩; exact .inr ⟨rfl, rfl⟩
  have f3 : flag old 8796093022208 = 0 ∧ old = false ∨ flag old 8796093022208 = 8796093022208 ∧ old = true := by cases old; exact .inl ⟨rfl, rfl⟩; exact .inr ⟨rfl, rfl⟩
  generalize he : Hd.enc ⟨size, ptrs, age, parity, grey, noted, old⟩ = e
  unfold Hd.enc at he
  simp only at he
  simp only [decH, Hd.mk.injEq]
  refine ⟨by omega, by omega, by omega, by omega, ?_, ?_, ?_⟩
  · rcases f1 with ⟨f, rfl⟩ | ⟨f, rfl⟩
    · exact decide_eq_false (by omega)
    · exact decide_eq_true (by omega)
  · rcases f2 with ⟨f, rfl⟩ | ⟨f, rfl⟩
    · exact decide_eq_false (by omega)
    · exact decide_eq_true (by omega)
  · rcases f3 with ⟨f, rfl⟩ | ⟨f, rfl⟩
    · exact decide_eq_false (by omega)
    · exact decide_eq_true (by omega)

theorem isHd_enc {h : Hd} (hg : h.Good) : isHd h.enc = true := by simp [isHd, enc_dec hg, Hd.good, hg]
theorem unH_enc {h : Hd} (hg : h.Good) : unH h.enc = h := by simp [unH, isHd_enc hg, enc_dec hg]
theorem hd0_good : hd0.Good := by decide
theorem unH_good (w : Int) : (unH w).Good := by
  unfold unH
  split
  · rename_i h
    simp [isHd, Hd.good] at h
    exact h.1
  · exact hd0_good
theorem enc_bounds {h : Hd} (hg : h.Good) : 0 ≤ h.enc ∧ h.enc < 18446744073709551616 := by
  obtain ⟨h1, h2, h3, h4, h5, h6, h7⟩ := hg
  have f1 : flag h.grey 2199023255552 = 0 ∨ flag h.grey 2199023255552 = 2199023255552 := by cases h.grey; exact .inl rfl; exact .inr rfl
  have f2 : flag h.noted 4398046511104 = 0 ∨ flag h.noted 4398046511104 = 4398046511104 := by cases h.noted; exact .inl rfl; exact .inr rfl
  have f3 : flag h.old 8796093022208 = 0 ∨ flag h.old 8796093022208 = 8796093022208 := by cases h.old; exact .inl rfl; exact .inr rfl
  unfold Hd.enc
  omega

set_option maxRecDepth 100000 in
set_option maxHeartbeats 2000000 in
theorem head_unpack (x : Int) (w : World) (h0 : 0 ≤ x) (h1 : x < 18446744073709551616) :
    Calls Tryz.prog 73 #[.int .u64 x] w fun e w' => e = .returned (.tuple #[.agg (hdCells (unH x)), .bool (isHd x)]) ∧ Upd [] [] w w' := by
  obtain ⟨H, hH⟩ : ∃ H, H = decH x := ⟨_, rfl⟩
  have q1 : bits .and .u64 x 65535 = H.size := by rw [and_u64 16 65536 (by decide) _ _ (by decide) h0 h1 (by decide), hH]; rfl
  have q2 : bits .and .u64 (x / 65536) 65535 = H.ptrs := by rw [and_u64 16 65536 (by decide) _ _ (by decide) (by omega) (by omega) (by decide), hH]; rfl
  have q3 : bits .and .u64 (x / 4294967296) 255 = H.age := by rw [and_u64 8 256 (by decide) _ _ (by decide) (by omega) (by omega) (by decide), hH]; rfl
  have q4 : bits .and .u64 (x / 1099511627776) 1 = H.parity := by rw [and_u64 1 2 (by decide) _ _ (by decide) (by omega) (by omega) (by decide), hH]; rfl
  have q5 : (bits .and .u64 (x / 2199023255552) 1 == 1) = H.grey := by rw [and_u64 1 2 (by decide) _ _ (by decide) (by omega) (by omega) (by decide), hH]; rfl
  have q6 : (bits .and .u64 (x / 4398046511104) 1 == 1) = H.noted := by rw [and_u64 1 2 (by decide) _ _ (by decide) (by omega) (by omega) (by decide), hH]; rfl
  have q7 : (bits .and .u64 (x / 8796093022208) 1 == 1) = H.old := by rw [and_u64 1 2 (by decide) _ _ (by decide) (by omega) (by omega) (by decide), hH]; rfl
  have b1 : 0 ≤ H.size ∧ H.size ≤ 65535 := by rw [hH]; simp only [decH]; omega
  have b2 : 0 ≤ H.ptrs ∧ H.ptrs ≤ 65535 := by rw [hH]; simp only [decH]; omega
  have b3 : 0 ≤ H.age ∧ H.age ≤ 255 := by rw [hH]; simp only [decH]; omega
  have b4 : 0 ≤ H.parity ∧ H.parity ≤ 1 := by rw [hH]; simp only [decH]; omega
  obtain ⟨b1, b1'⟩ := b1
  obtain ⟨b2, b2'⟩ := b2
  obtain ⟨b3, b3'⟩ := b3
  obtain ⟨b4, b4'⟩ := b4
  have hp := head_pack H
  by_cases hi : isHd x = true
  · have hu : unH x = H := by rw [unH, if_pos hi, hH]
    have hi' := hi
    simp only [isHd, Bool.and_eq_true, decide_eq_true_eq, ← hH] at hi'
    obtain ⟨g1, g2⟩ := hi'
    have he : H.encE = x := by rw [Hd.encE, if_pos g1, g2]
    rw [hu, hi]
    rw [he, g1] at hp
    clear g1 g2 he hi hu hH
    simp only [hdCells] at hp
    go_enter Tryz.func73, Tryz.ntmps73
    go_wp2_with (go_at_call 107; refine Calls.mono (hp _) ?_; rintro e w1 ⟨rfl, u1⟩; have hb1 : w1.heap[w.heap.size + 1]? = some (.cells (hdCells H) 65 (0, 0)) := Upd.keep0 u1 (heap_alloc_at (by simp)); have hb0 : w1.heap[w.heap.size]? = some (.cells (hdCells hd0) 65 (0, 0)) := Upd.keep0 u1 ((heap_alloc_old (by simp)).trans heap_alloc_new); obtain ⟨c0, c1, c2, c3, c4, c5, c6⟩ := hd_cells hb1; obtain ⟨d0, d1, d2, d3, d4, d5, d6⟩ := hd_cells hb0; obtain ⟨f0, f1, f2, f3, f4, f5, f6⟩ := hd_frozen hb0)
    refine bodyPost_ret (v := .tuple #[.agg (hdCells H), .bool true]) (by simp [results, Tryz.results73, go_sem, hdCells, hd0, d0, d1, d2, d3, d4, d5, d6, World.cell?_setCell_same w1 _ _ d0]) rfl ⟨rfl, ?_⟩
    exact (((((((((Upd.skip (In.nil w) _).skip' _).trans u1).junk0 (Nat.le_refl _) _).junk0 (Nat.le_refl _) _).junk0 (Nat.le_refl _) _).junk0 (Nat.le_refl _) _).junk0 (Nat.le_refl _) _).junk0 (Nat.le_refl _) _).junk0 (Nat.le_refl _) _
  · have hi' : isHd x = false := by simpa using hi
    have hu : unH x = hd0 := by simp [unH, hi']
    rw [hu, hi']
    clear hu
    cases hg : H.good
    · rw [hg] at hp
      clear hi hi' hH hg
      simp only [hdCells] at hp
      go_enter Tryz.func73, Tryz.ntmps73
      go_wp2_with (go_at_call 107; refine Calls.mono (hp _) ?_; rintro e w1 ⟨rfl, u1⟩; have hb1 : w1.heap[w.heap.size + 1]? = some (.cells (hdCells H) 65 (0, 0)) := Upd.keep0 u1 (heap_alloc_at (by simp)); have hb0 : w1.heap[w.heap.size]? = some (.cells (hdCells hd0) 65 (0, 0)) := Upd.keep0 u1 ((heap_alloc_old (by simp)).trans heap_alloc_new); obtain ⟨c0, c1, c2, c3, c4, c5, c6⟩ := hd_cells hb1; obtain ⟨d0, d1, d2, d3, d4, d5, d6⟩ := hd_cells hb0; obtain ⟨f0, f1, f2, f3, f4, f5, f6⟩ := hd_frozen hb0)
      refine bodyPost_ret (v := .tuple #[.agg (hdCells hd0), .bool false]) (by simp [results, Tryz.results73, go_sem, hdCells, hd0, d0, d1, d2, d3, d4, d5, d6, World.cell?_setCell_same w1 _ _ d0]) rfl ⟨rfl, ?_⟩
      exact (((((((((Upd.skip (In.nil w) _).skip' _).trans u1).junk0 (Nat.le_refl _) _).junk0 (Nat.le_refl _) _).junk0 (Nat.le_refl _) _).junk0 (Nat.le_refl _) _).junk0 (Nat.le_refl _) _).junk0 (Nat.le_refl _) _).junk0 (Nat.le_refl _) _
    · have hne : H.encE ≠ x := by
        intro e
        rw [Hd.encE, if_pos hg] at e
        simp [isHd, ← hH, hg, e] at hi'
      rw [hg] at hp
      have hne' : (H.encE != x) = true := by simpa using hne
      clear hi hi' hH hg
      simp only [hdCells] at hp
      go_enter Tryz.func73, Tryz.ntmps73
      go_wp2_with (go_at_call 107; refine Calls.mono (hp _) ?_; rintro e w1 ⟨rfl, u1⟩; have hb1 : w1.heap[w.heap.size + 1]? = some (.cells (hdCells H) 65 (0, 0)) := Upd.keep0 u1 (heap_alloc_at (by simp)); have hb0 : w1.heap[w.heap.size]? = some (.cells (hdCells hd0) 65 (0, 0)) := Upd.keep0 u1 ((heap_alloc_old (by simp)).trans heap_alloc_new); obtain ⟨c0, c1, c2, c3, c4, c5, c6⟩ := hd_cells hb1; obtain ⟨d0, d1, d2, d3, d4, d5, d6⟩ := hd_cells hb0; obtain ⟨f0, f1, f2, f3, f4, f5, f6⟩ := hd_frozen hb0)
      refine bodyPost_ret (v := .tuple #[.agg (hdCells hd0), .bool false]) (by simp [results, Tryz.results73, go_sem, hdCells, hd0, d0, d1, d2, d3, d4, d5, d6, World.cell?_setCell_same w1 _ _ d0]) rfl ⟨rfl, ?_⟩
      exact (((((((((Upd.skip (In.nil w) _).skip' _).trans u1).junk0 (Nat.le_refl _) _).junk0 (Nat.le_refl _) _).junk0 (Nat.le_refl _) _).junk0 (Nat.le_refl _) _).junk0 (Nat.le_refl _) _).junk0 (Nat.le_refl _) _).junk0 (Nat.le_refl _) _

/-- a head that is laid over another one, cell by cell -/
theorem Upd.hd {w0 w : World} {h r : Hp} {b : Nat} {x : Hd} {T : TypeId} {fr : Nat × Nat} (a : Upd h ((b, .cells (hdCells x) T fr) :: r) w0 w) (y : Hd) :
    Upd h ((b, .cells (hdCells y) T fr) :: r) w0 (((((((w.setCell ⟨b, 0, none⟩ (.int .i64 y.size)).setCell ⟨b, 1, none⟩ (.int .i64 y.ptrs)).setCell ⟨b, 2, none⟩ (.int .i64 y.age)).setCell ⟨b, 3, none⟩ (.int .i64 y.parity)).setCell ⟨b, 4, none⟩ (.bool y.grey)).setCell ⟨b, 5, none⟩ (.bool y.noted)).setCell ⟨b, 6, none⟩ (.bool y.old)) := by
  have u := ((((((a.store1 0 (.int .i64 y.size)).store1 1 (.int .i64 y.ptrs)).store1 2 (.int .i64 y.age)).store1 3 (.int .i64 y.parity)).store1 4 (.bool y.grey)).store1 5 (.bool y.noted)).store1 6 (.bool y.old)
  have e : (((((((hdCells x).setIfInBounds 0 (.int .i64 y.size)).setIfInBounds 1 (.int .i64 y.ptrs)).setIfInBounds 2 (.int .i64 y.age)).setIfInBounds 3 (.int .i64 y.parity)).setIfInBounds 4 (.bool y.grey)).setIfInBounds 5 (.bool y.noted)).setIfInBounds 6 (.bool y.old) = hdCells y := by
    simp [hdCells]
  rw [e] at u
  exact u

end Go.Proofs.YtjjdjipohifgbaaGreat

/- What each call of package obj comes to. Conditions: heads that may be. -/
namespace Go.Proofs.YtjjdjipohifgbaaGreat
open Go.RowKit

def Hd.words (h : Hd) : Int := h.size + 2

set_option maxRecDepth 100000 in
set_option maxHeartbeats 400000 in
theorem obj_words (x : Hd) (hg : x.Good) (w : World) :
    Calls Tryz.prog 44 #[.agg (hdCells x)] w fun e w' => e = .returned (.int .i64 x.words) ∧ Upd [] [] w w' := by
  obtain ⟨h1, h2, h3, h4, h5, h6, h7⟩ := hg
  simp only [hdCells]
  go_enter Tryz.func44, Tryz.ntmps44
  go_wp2
  all_goals
    go_ret
    first
      | exact ⟨rfl, Upd.skip (In.nil w) _⟩
      | (have h0 : x.size = 0 := by omega
         exact ⟨by simp [Hd.words, h0], Upd.skip (In.nil w) _⟩)

/-- a call that held nothing, beside blocks that are held -/
theorem Upd.with {w w' : World} {h : Hp} (u : Upd [] [] w w') (hi : In w h) : Upd h h w w' := by
  have := u.beside (k := h) hi
  simpa using this

def wayW (ws : List Int) (i : Int) : Int := if 0 ≤ i ∧ i ≤ 1048576 then wrap64 (ldW ws (i + 1)) else 0
def wayE (ws : List Int) (i : Int) : Int := if 0 ≤ i ∧ i ≤ 1048576 then errW ws.length (i + 1) 1 else 2
def u64 (x : Int) : Int := x % 18446744073709551616
theorem U64_u64 (x : Int) : U64 (u64 x) := by unfold U64 u64; omega
def setWayW (ws : List Int) (i to : Int) : List Int := if 0 ≤ i ∧ i ≤ 1048576 then stW ws (i + 1) (u64 to) else ws
def place (i n : Int) : Int := if 0 ≤ i ∧ i ≤ 1048576 ∧ 0 ≤ n ∧ n < 64 then i + 2 + n else -1

set_option maxRecDepth 100000 in
set_option maxHeartbeats 400000 in
theorem obj_way (pa : Nat) (ws : List Int) (i : Int) (w : World) (h : Hp) (hi : In w h) (ha : ArenaH pa ws h) :
    Calls Tryz.prog 68 #[.pointer (some ⟨pa, 0, none⟩), .int .i64 i] w fun e w' =>
      e = .returned (.tuple #[.int .i64 (wayW ws i), .int .i64 (wayE ws i)]) ∧ ∃ h', ArenaH pa ws h' ∧ Upd h h' w w' := by
  by_cases hr : 0 ≤ i ∧ i ≤ 1048576
  · have h1 : wayW ws i = wrap64 (ldW ws (i + 1)) := by rw [wayW, if_pos hr]
    have h2 : wayE ws i = errW ws.length (i + 1) 1 := by rw [wayE, if_pos hr]
    rw [h1, h2]
    clear h1 h2
    obtain ⟨r1, r2⟩ := hr
    have hl := arena_load pa ws (i + 1) w h hi ha
    go_enter Tryz.func68, Tryz.ntmps68
    go_wp2_with (go_at_call 72; refine Calls.mono hl ?_; rintro e w1 ⟨rfl, h', a1, u1⟩)
    go_ret2
    exact ⟨rfl, h', a1, u1⟩
  · have h1 : wayW ws i = 0 := by rw [wayW, if_neg hr]
    have h2 : wayE ws i = 2 := by rw [wayE, if_neg hr]
    rw [h1, h2]
    clear h1 h2
    by_cases r1 : 0 ≤ i
    · have r2 : 1048576 < i := by omega
      clear hr
      go_enter Tryz.func68, Tryz.ntmps68
      go_wp2
      go_ret2
      exact ⟨rfl, h, ha, Upd.refl hi⟩
    · clear hr
      go_enter Tryz.func68, Tryz.ntmps68
      go_wp2
      go_ret2
      exact ⟨rfl, h, ha, Upd.refl hi⟩

set_option maxRecDepth 100000 in
set_option maxHeartbeats 400000 in
theorem obj_setway (pa : Nat) (ws : List Int) (i to : Int) (w : World) (h : Hp) (hi : In w h) (ha : ArenaH pa ws h) :
    Calls Tryz.prog 86 #[.pointer (some ⟨pa, 0, none⟩), .int .i64 i, .int .i64 to] w fun e w' =>
      e = .returned (.int .i64 (wayE ws i)) ∧ ∃ h', ArenaH pa (setWayW ws i to) h' ∧ Upd h h' w w' := by
  by_cases hr : 0 ≤ i ∧ i ≤ 1048576
  · have h1 : setWayW ws i to = stW ws (i + 1) (u64 to) := by rw [setWayW, if_pos hr]
    have h2 : wayE ws i = errW ws.length (i + 1) 1 := by rw [wayE, if_pos hr]
    rw [h1, h2]
    clear h1 h2
    obtain ⟨r1, r2⟩ := hr
    have hl := arena_store pa ws (i + 1) (u64 to) w h hi ha (U64_u64 to)
    have hw : IntKind.u64.wrap to = u64 to := IntKind.wrap_u64 to
    go_enter Tryz.func86, Tryz.ntmps86
    go_wp2_with (go_at_call 104; refine Calls.mono hl ?_; rintro e w1 ⟨rfl, h', a1, u1⟩)
    go_ret
    exact ⟨rfl, h', a1, u1⟩
  · have h1 : setWayW ws i to = ws := by rw [setWayW, if_neg hr]
    have h2 : wayE ws i = 2 := by rw [wayE, if_neg hr]
    rw [h1, h2]
    clear h1 h2
    by_cases r1 : 0 ≤ i
    · have r2 : 1048576 < i := by omega
      clear hr
      go_enter Tryz.func86, Tryz.ntmps86
      go_wp2
      go_ret
      exact ⟨rfl, h, ha, Upd.refl hi⟩
    · clear hr
      go_enter Tryz.func86, Tryz.ntmps86
      go_wp2
      go_ret
      exact ⟨rfl, h, ha, Upd.refl hi⟩

set_option maxRecDepth 100000 in
set_option maxHeartbeats 400000 in
theorem obj_place (i n : Int) (w : World) :
    Calls Tryz.prog 103 #[.int .i64 i, .int .i64 n] w fun e w' => e = .returned (.int .i64 (place i n)) ∧ w = w' := by
  by_cases hr : 0 ≤ i ∧ i ≤ 1048576 ∧ 0 ≤ n ∧ n < 64
  · have h1 : place i n = i + 2 + n := by rw [place, if_pos hr]
    rw [h1]
    clear h1
    obtain ⟨r1, r2, r3, r4⟩ := hr
    go_enter Tryz.func103, Tryz.ntmps103
    go_wp2
    go_ret
    exact ⟨rfl, rfl⟩
  · have h1 : place i n = -1 := by rw [place, if_neg hr]
    rw [h1]
    clear h1
    have HR := Lib.hid hr
    clear hr
    go_enter Tryz.func103, Tryz.ntmps103
    go_wp2
    all_goals
      go_ret
      first
        | exact ⟨rfl, rfl⟩
        | (exfalso; have := HR.out; omega)

set_option maxRecDepth 100000 in
set_option maxHeartbeats 400000 in
theorem obj_field (pa : Nat) (ws : List Int) (i n : Int) (w : World) (h : Hp) (hi : In w h) (ha : ArenaH pa ws h) :
    Calls Tryz.prog 64 #[.pointer (some ⟨pa, 0, none⟩), .int .i64 i, .int .i64 n] w fun e w' =>
      e = .returned (.tuple #[.int .u64 (ldW ws (place i n)), .int .i64 (errW ws.length (place i n) 1)]) ∧ ∃ h', ArenaH pa ws h' ∧ Upd h h' w w' := by
  have hl := arena_load pa ws (place i n) w h hi ha
  have hp := obj_place i n w
  go_enter Tryz.func64, Tryz.ntmps64
  go_wp2_with (first | (go_at_call 103; refine Calls.mono hp ?_; rintro e w1 ⟨rfl, rfl⟩) | (go_at_call 72; refine Calls.mono hl ?_; rintro e w1 ⟨rfl, h', a1, u1⟩))
  go_ret2
  exact ⟨rfl, h', a1, u1⟩

set_option maxRecDepth 100000 in
set_option maxHeartbeats 400000 in
theorem obj_setfield (pa : Nat) (ws : List Int) (i n v : Int) (w : World) (h : Hp) (hi : In w h) (ha : ArenaH pa ws h) (hv : U64 v) :
    Calls Tryz.prog 69 #[.pointer (some ⟨pa, 0, none⟩), .int .i64 i, .int .i64 n, .int .u64 v] w fun e w' =>
      e = .returned (.int .i64 (errW ws.length (place i n) 1)) ∧ ∃ h', ArenaH pa (stW ws (place i n) v) h' ∧ Upd h h' w w' := by
  have hl := arena_store pa ws (place i n) v w h hi ha hv
  have hp := obj_place i n w
  go_enter Tryz.func69, Tryz.ntmps69
  go_wp2_with (first | (go_at_call 103; refine Calls.mono hp ?_; rintro e w1 ⟨rfl, rfl⟩) | (go_at_call 104; refine Calls.mono hl ?_; rintro e w1 ⟨rfl, h', a1, u1⟩))
  go_ret
  exact ⟨rfl, h', a1, u1⟩

set_option maxRecDepth 100000 in
set_option maxHeartbeats 1000000 in
theorem obj_sethead (pa : Nat) (ws : List Int) (i : Int) (x : Hd) (hg : x.Good) (w : World) (h : Hp) (hi : In w h) (ha : ArenaH pa ws h) :
    Calls Tryz.prog 85 #[.pointer (some ⟨pa, 0, none⟩), .int .i64 i, .agg (hdCells x)] w fun e w' =>
      e = .returned (.int .i64 (errW ws.length i 1)) ∧ ∃ h', ArenaH pa (stW ws i x.enc) h' ∧ Upd h h' w w' := by
  have hp := head_pack x
  rw [Hd.good_true hg, show x.encE = x.enc from by rw [Hd.encE, if_pos (Hd.good_true hg)]] at hp
  have hl := fun w1 (h1 : In w1 h) => arena_store pa ws i x.enc w1 h h1 ha (enc_bounds hg)
  simp only [hdCells] at *
  go_enter Tryz.func85, Tryz.ntmps85
  go_wp2_with (first | (go_at_call 107; refine Calls.mono (hp _) ?_; rintro e w1 ⟨rfl, u1⟩; have u1' := Upd.with u1 (hi.alloc _)) | (go_at_call 104; refine Calls.mono (hl _ u1'.inn) ?_; rintro e w2 ⟨rfl, h', a1, u2⟩))
  go_ret
  exact ⟨rfl, h', a1, ((Upd.skip hi _).trans u1').trans u2⟩

/-- what Head answers -/
def headE (ws : List Int) (i : Int) : Int := if hasW ws.length i 1 then (if isHd (rd ws i) then 0 else 1) else 2
def headS (ws : List Int) (i : Int) : Hd := unH (ldW ws i)

theorem ld_u64 {ws : List Int} (h : ∀ x ∈ ws, U64 x) (i : Int) : U64 (ldW ws i) := by
  unfold ldW
  split
  · rename_i hh
    obtain ⟨k, rfl, hk⟩ := has_one hh
    have : rd ws k = ws[k] := by simp [rd, List.getD, hk]
    rw [this]
    exact h _ (List.getElem_mem hk)
  · exact ⟨by decide, by decide⟩

set_option maxRecDepth 100000 in
set_option maxHeartbeats 2000000 in
theorem obj_head (pa : Nat) (ws : List Int) (i : Int) (w : World) (h : Hp) (hi : In w h) (ha : ArenaH pa ws h) :
    Calls Tryz.prog 27 #[.pointer (some ⟨pa, 0, none⟩), .int .i64 i] w fun e w' =>
      e = .returned (.tuple #[.agg (hdCells (headS ws i)), .int .i64 (headE ws i)]) ∧ ∃ h', ArenaH pa ws h' ∧ Upd h h' w w' := by
  have hl := fun w1 (h1 : In w1 h) => arena_load pa ws i w1 h h1 ha
  have hu : U64 (ldW ws i) := by obtain ⟨b, n, rfl, _, hu⟩ := ha; exact ld_u64 hu i
  have hz := Upd.alloc hi (.cells (hdCells hd0) 65 (0, 0))
  by_cases hh : hasW ws.length i 1 = true
  · have he : errW ws.length i 1 = 0 := by simp [errW, hh]
    have hld : ldW ws i = rd ws i := by simp [ldW, hh]
    rw [he] at hl
    have hup := fun w1 => head_unpack (ldW ws i) w1 hu.1 hu.2
    cases hd : isHd (ldW ws i)
    · have hE : headE ws i = 1 := by simp [headE, hh, ← hld, hd]
      have hS : headS ws i = hd0 := by simp [headS, unH, hd]
      rw [hE, hS]
      rw [hd, show unH (ldW ws i) = hd0 from by simp [unH, hd]] at hup
      clear hE hS hld he hd hh
      simp only [hdCells, hd0] at hup
      go_enter Tryz.func27, Tryz.ntmps27
      go_wp2_with (first | (go_at_call 72; refine Calls.mono (hl _ hz.inn.tail) ?_; rintro e w1 ⟨rfl, h', a1, u1⟩; have U1 := hz.under u1) | (go_at_call 73; refine Calls.mono (hup _) ?_; rintro e w2 ⟨rfl, u2⟩; have U2 := U1.under0 u2; have lt2 := U2.inn.lt (b := w.heap.size) (by simp); have ne2 := Nat.ne_of_lt lt2; obtain ⟨d0, d1, d2, d3, d4, d5, d6⟩ := hd_cells U2.inn.head; obtain ⟨f0, f1, f2, f3, f4, f5, f6⟩ := hd_frozen U2.inn.head))
      have UF := (U2.hd hd0).skip1 (.cells (hdCells hd0) 65 (0, 0))
      have G := hd_cells UF.inn.head
      try simp only [hd0, hdCells] at G
      obtain ⟨g0, g1, g2, g3, g4, g5, g6⟩ := G
      clear d0 d1 d2 d3 d4 d5 d6 f0 f1 f2 f3 f4 f5 f6
      refine bodyPost_ret (v := .tuple #[.agg (hdCells hd0), .int .i64 1]) ?_ rfl ⟨rfl, h', a1, UF.drop1⟩
      simp only [results, Tryz.results27]
      simp [go_sem, hdCells, hd0, g0, g1, g2, g3, g4, g5, g6]
    · have hE : headE ws i = 0 := by simp [headE, hh, ← hld, hd]
      have hS : headS ws i = unH (ldW ws i) := rfl
      obtain ⟨H, hH⟩ : ∃ H, H = unH (ldW ws i) := ⟨_, rfl⟩
      rw [hE, hS, ← hH]
      rw [hd, ← hH] at hup
      clear hE hS hld he hd hh hH
      simp only [hdCells] at hup
      go_enter Tryz.func27, Tryz.ntmps27
      go_wp2_with (first | (go_at_call 72; refine Calls.mono (hl _ hz.inn.tail) ?_; rintro e w1 ⟨rfl, h', a1, u1⟩; have U1 := hz.under u1) | (go_at_call 73; refine Calls.mono (hup _) ?_; rintro e w2 ⟨rfl, u2⟩; have U2 := U1.under0 u2; have lt2 := U2.inn.lt (b := w.heap.size) (by simp); have ne2 := Nat.ne_of_lt lt2; obtain ⟨d0, d1, d2, d3, d4, d5, d6⟩ := hd_cells U2.inn.head; obtain ⟨f0, f1, f2, f3, f4, f5, f6⟩ := hd_frozen U2.inn.head))
      have UF := (U2.hd H).skip1 (.cells (hdCells H) 65 (0, 0))
      have G := hd_cells UF.inn.head
      try simp only [hd0, hdCells] at G
      obtain ⟨g0, g1, g2, g3, g4, g5, g6⟩ := G
      clear d0 d1 d2 d3 d4 d5 d6 f0 f1 f2 f3 f4 f5 f6
      refine bodyPost_ret (v := .tuple #[.agg (hdCells H), .int .i64 0]) ?_ rfl ⟨rfl, h', a1, UF.drop1⟩
      simp only [results, Tryz.results27]
      simp [go_sem, hdCells, hd0, g0, g1, g2, g3, g4, g5, g6]
  · have hh' : hasW ws.length i 1 = false := by simpa using hh
    have he : errW ws.length i 1 = 2 := by simp [errW, hh']
    have hE : headE ws i = 2 := by simp [headE, hh']
    have h0 : unH 0 = hd0 := by decide
    have hS : headS ws i = hd0 := by simp [headS, ldW, hh', h0]
    rw [he] at hl
    rw [hE, hS]
    clear hE hS he hh hh' h0
    go_enter Tryz.func27, Tryz.ntmps27
    go_wp2_with (first | (go_at_call 72; refine Calls.mono (hl _ hz.inn.tail) ?_; rintro e w1 ⟨rfl, h', a1, u1⟩; have U1 := hz.under u1; obtain ⟨d0, d1, d2, d3, d4, d5, d6⟩ := hd_cells U1.inn.head; obtain ⟨f0, f1, f2, f3, f4, f5, f6⟩ := hd_frozen U1.inn.head))
    have UF := U1.hd hd0
    have G := hd_cells UF.inn.head
    try simp only [hd0, hdCells] at G
    obtain ⟨g0, g1, g2, g3, g4, g5, g6⟩ := G
    clear d0 d1 d2 d3 d4 d5 d6 f0 f1 f2 f3 f4 f5 f6
    refine bodyPost_ret (v := .tuple #[.agg (hdCells hd0), .int .i64 2]) ?_ rfl ⟨rfl, h', a1, UF.drop1⟩
    simp only [results, Tryz.results27]
    simp [go_sem, hdCells, hd0, g0, g1, g2, g3, g4, g5, g6]

def objMakeW (ws : List Int) (i : Int) (x : Hd) : List Int :=
  if hasW ws.length i x.words then setWayW (stW (zeroW ws i x.words.toNat) i x.enc) i i else ws
def objMakeE (ws : List Int) (i : Int) (x : Hd) : Int :=
  if hasW ws.length i x.words then wayE (stW (zeroW ws i x.words.toNat) i x.enc) i else 2

theorem Hd.words_nat {x : Hd} (hg : x.Good) : x.words = (x.words.toNat : Int) ∧ 0 < x.words.toNat := by
  obtain ⟨h1, h2, _⟩ := hg
  unfold Hd.words
  omega

set_option maxRecDepth 100000 in
set_option maxHeartbeats 2000000 in
theorem obj_make (pa : Nat) (ws : List Int) (i : Int) (x : Hd) (hg : x.Good) (w : World) (h : Hp) (hi : In w h) (ha : ArenaH pa ws h) :
    Calls Tryz.prog 47 #[.pointer (some ⟨pa, 0, none⟩), .int .i64 i, .agg (hdCells x)] w fun e w' =>
      e = .returned (.int .i64 (objMakeE ws i x)) ∧ ∃ h', ArenaH pa (objMakeW ws i x) h' ∧ Upd h h' w w' := by
  have hgood := head_good x
  rw [Hd.good_true hg] at hgood
  have hwords := obj_words x hg
  obtain ⟨hn, hn0⟩ := Hd.words_nat hg
  obtain ⟨n, hnn⟩ : ∃ n, n = x.words.toNat := ⟨_, rfl⟩
  rw [hn] at hwords
  rw [← hnn] at hwords hn0
  have hzero := fun w1 (h1 : In w1 h) => arena_zero pa ws i n w1 h h1 ha hn0
  have U0 := Upd.alloc hi (.cells (hdCells x) 65 (0, 0))
  by_cases hh : hasW ws.length i n = true
  · have e1 : objMakeE ws i x = wayE (stW (zeroW ws i n) i x.enc) i := by rw [objMakeE, hn, ← hnn, if_pos hh, Int.toNat_natCast]
    have e2 : objMakeW ws i x = setWayW (stW (zeroW ws i n) i x.enc) i i := by rw [objMakeW, hn, ← hnn, if_pos hh, Int.toNat_natCast]
    have e3 : errW ws.length i n = 0 := by simp [errW, hh]
    rw [e1, e2]
    rw [e3] at hzero
    have hset := fun w1 h1 (hi1 : In w1 h1) (ha1 : ArenaH pa (zeroW ws i n) h1) => obj_sethead pa (zeroW ws i n) i x hg w1 h1 hi1 ha1
    have hway := fun w1 h1 (hi1 : In w1 h1) (ha1 : ArenaH pa (stW (zeroW ws i n) i x.enc) h1) => obj_setway pa (stW (zeroW ws i n) i x.enc) i i w1 h1 hi1 ha1
    clear e1 e2 e3 hh hn hnn hn0
    simp only [hdCells] at *
    go_enter Tryz.func47, Tryz.ntmps47
    go_wp2_with (first
      | (go_at_call 83; refine Calls.mono (hgood _) ?_; rintro e w1 ⟨rfl, u1⟩; have U1 := U0.under0 u1; obtain ⟨d0, d1, d2, d3, d4, d5, d6⟩ := hd_cells (x := x) U1.inn.head)
      | (go_at_call 44; refine Calls.mono (hwords _) ?_; rintro e w2 ⟨rfl, u2⟩; have U2 := U1.under0 u2; clear d0 d1 d2 d3 d4 d5 d6; obtain ⟨d0, d1, d2, d3, d4, d5, d6⟩ := hd_cells (x := x) U2.inn.head)
      | (go_at_call 84; refine Calls.mono (hzero _ U2.inn.tail) ?_; rintro e w3 ⟨rfl, h3, a3, u3⟩; have U3 := U2.under u3; clear d0 d1 d2 d3 d4 d5 d6; obtain ⟨d0, d1, d2, d3, d4, d5, d6⟩ := hd_cells (x := x) U3.inn.head)
      | (go_at_call 85; refine Calls.mono (hset _ _ U3.inn.tail a3) ?_; rintro e w4 ⟨rfl, h4, a4, u4⟩; have U4 := U3.under u4)
      | (go_at_call 86; refine Calls.mono (hway _ _ U4.inn.tail a4) ?_; rintro e w5 ⟨rfl, h5, a5, u5⟩; have U5 := U4.under u5))
    go_ret
    exact ⟨rfl, _, a5, U5.drop1⟩
  · have hh' : hasW ws.length i n = false := by simpa using hh
    have e1 : objMakeE ws i x = 2 := by rw [objMakeE, hn, ← hnn, if_neg hh]
    have e2 : objMakeW ws i x = ws := by rw [objMakeW, hn, ← hnn, if_neg hh]
    have e3 : errW ws.length i n = 2 := by simp [errW, hh']
    have e4 : zeroW ws i n = ws := by simp [zeroW, hh']
    rw [e1, e2]
    rw [e3, e4] at hzero
    clear e1 e2 e3 e4 hh hh' hn hnn hn0
    simp only [hdCells] at *
    go_enter Tryz.func47, Tryz.ntmps47
    go_wp2_with (first
      | (go_at_call 83; refine Calls.mono (hgood _) ?_; rintro e w1 ⟨rfl, u1⟩; have U1 := U0.under0 u1; obtain ⟨d0, d1, d2, d3, d4, d5, d6⟩ := hd_cells (x := x) U1.inn.head)
      | (go_at_call 44; refine Calls.mono (hwords _) ?_; rintro e w2 ⟨rfl, u2⟩; have U2 := U1.under0 u2; clear d0 d1 d2 d3 d4 d5 d6; obtain ⟨d0, d1, d2, d3, d4, d5, d6⟩ := hd_cells (x := x) U2.inn.head)
      | (go_at_call 84; refine Calls.mono (hzero _ U2.inn.tail) ?_; rintro e w3 ⟨rfl, h3, a3, u3⟩; have U3 := U2.under u3; clear d0 d1 d2 d3 d4 d5 d6; obtain ⟨d0, d1, d2, d3, d4, d5, d6⟩ := hd_cells (x := x) U3.inn.head))
    go_ret
    exact ⟨rfl, _, a3, U3.drop1⟩

/-- the words behind the copy of an object, its head, its way, and the elder one's way -/
def objMoveW (ws : List Int) (i j : Int) (x : Hd) : List Int :=
  if copyOk ws i j x.words.toNat then setWayW (setWayW (stW (copyW ws i j x.words.toNat) j x.enc) j j) i j else ws
def objMoveE (ws : List Int) (i j : Int) (x : Hd) : Int :=
  if copyOk ws i j x.words.toNat then wayE (setWayW (stW (copyW ws i j x.words.toNat) j x.enc) j j) i else 2

set_option maxRecDepth 100000 in
set_option maxHeartbeats 2000000 in
theorem obj_move (pa : Nat) (ws : List Int) (i j : Int) (x : Hd) (hg : x.Good) (w : World) (h : Hp) (hi : In w h) (ha : ArenaH pa ws h) :
    Calls Tryz.prog 90 #[.pointer (some ⟨pa, 0, none⟩), .int .i64 i, .int .i64 j, .agg (hdCells x)] w fun e w' =>
      e = .returned (.int .i64 (objMoveE ws i j x)) ∧ ∃ h', ArenaH pa (objMoveW ws i j x) h' ∧ Upd h h' w w' := by
  have hgood := head_good x
  rw [Hd.good_true hg] at hgood
  have hwords := obj_words x hg
  obtain ⟨hn, hn0⟩ := Hd.words_nat hg
  obtain ⟨n, hnn⟩ : ∃ n, n = x.words.toNat := ⟨_, rfl⟩
  rw [hn] at hwords
  rw [← hnn] at hwords hn0
  have hcopy := fun w1 (h1 : In w1 h) => arena_copy pa ws i j n w1 h h1 ha hn0
  have U0 := Upd.alloc hi (.cells (hdCells x) 65 (0, 0))
  by_cases hh : copyOk ws i j n = true
  · have e1 : objMoveE ws i j x = wayE (setWayW (stW (copyW ws i j n) j x.enc) j j) i := by rw [objMoveE, ← hnn, if_pos hh]
    have e2 : objMoveW ws i j x = setWayW (setWayW (stW (copyW ws i j n) j x.enc) j j) i j := by rw [objMoveW, ← hnn, if_pos hh]
    have e3 : copyE ws i j n = 0 := by simp [copyE, hh]
    rw [e1, e2]
    rw [e3] at hcopy
    have hset := fun w1 h1 (hi1 : In w1 h1) (ha1 : ArenaH pa (copyW ws i j n) h1) => obj_sethead pa (copyW ws i j n) j x hg w1 h1 hi1 ha1
    have hway := fun ws1 p1 q1 w1 h1 (hi1 : In w1 h1) (ha1 : ArenaH pa ws1 h1) => obj_setway pa ws1 p1 q1 w1 h1 hi1 ha1
    clear e1 e2 e3 hh hn hnn hn0
    simp only [hdCells] at *
    go_enter Tryz.func90, Tryz.ntmps90
    go_wp2_with (first
      | (go_at_call 83; refine Calls.mono (hgood _) ?_; rintro e w1 ⟨rfl, u1⟩; have U1 := U0.under0 u1; obtain ⟨d0, d1, d2, d3, d4, d5, d6⟩ := hd_cells (x := x) U1.inn.head)
      | (go_at_call 44; refine Calls.mono (hwords _) ?_; rintro e w2 ⟨rfl, u2⟩; have U2 := U1.under0 u2; clear d0 d1 d2 d3 d4 d5 d6; obtain ⟨d0, d1, d2, d3, d4, d5, d6⟩ := hd_cells (x := x) U2.inn.head)
      | (go_at_call 112; refine Calls.mono (hcopy _ U2.inn.tail) ?_; rintro e w3 ⟨rfl, h3, a3, u3⟩; have U3 := U2.under u3; clear d0 d1 d2 d3 d4 d5 d6; obtain ⟨d0, d1, d2, d3, d4, d5, d6⟩ := hd_cells (x := x) U3.inn.head)
      | (go_at_call 85; refine Calls.mono (hset _ _ U3.inn.tail a3) ?_; rintro e w4 ⟨rfl, h4, a4, u4⟩; have U4 := U3.under u4)
      | (go_at_call 86; with_reducible refine Calls.mono (hway _ j j _ _ U4.inn.tail a4) ?_; rintro e w5 ⟨rfl, h5, a5, u5⟩; have U5 := U4.under u5; clear U4)
      | (go_at_call 86; with_reducible refine Calls.mono (hway _ i j _ _ U5.inn.tail a5) ?_; rintro e w6 ⟨rfl, h6, a6, u6⟩; have U6 := U5.under u6))
    go_ret
    exact ⟨rfl, _, a6, U6.drop1⟩
  · have hh' : copyOk ws i j n = false := by simpa using hh
    have e1 : objMoveE ws i j x = 2 := by rw [objMoveE, ← hnn, if_neg hh]
    have e2 : objMoveW ws i j x = ws := by rw [objMoveW, ← hnn, if_neg hh]
    have e3 : copyE ws i j n = 2 := by simp [copyE, hh']
    have e4 : copyW ws i j n = ws := by simp [copyW, hh']
    rw [e1, e2]
    rw [e3, e4] at hcopy
    clear e1 e2 e3 e4 hh hh' hn hnn hn0
    simp only [hdCells] at *
    go_enter Tryz.func90, Tryz.ntmps90
    go_wp2_with (first
      | (go_at_call 83; refine Calls.mono (hgood _) ?_; rintro e w1 ⟨rfl, u1⟩; have U1 := U0.under0 u1; obtain ⟨d0, d1, d2, d3, d4, d5, d6⟩ := hd_cells (x := x) U1.inn.head)
      | (go_at_call 44; refine Calls.mono (hwords _) ?_; rintro e w2 ⟨rfl, u2⟩; have U2 := U1.under0 u2; clear d0 d1 d2 d3 d4 d5 d6; obtain ⟨d0, d1, d2, d3, d4, d5, d6⟩ := hd_cells (x := x) U2.inn.head)
      | (go_at_call 112; refine Calls.mono (hcopy _ U2.inn.tail) ?_; rintro e w3 ⟨rfl, h3, a3, u3⟩; have U3 := U2.under u3; clear d0 d1 d2 d3 d4 d5 d6; obtain ⟨d0, d1, d2, d3, d4, d5, d6⟩ := hd_cells (x := x) U3.inn.head))
    go_ret
    exact ⟨rfl, _, a3, U3.drop1⟩

end Go.Proofs.YtjjdjipohifgbaaGreat

/- What each call of package table comes to. Conditions: a table as New makes it. -/
namespace Go.Proofs.YtjjdjipohifgbaaGreat
open Go.RowKit

/-- handles: a block for the table, one for its list -/
def TableH (p : Nat) (l : List Int) (h : Hp) : Prop :=
  ∃ b : Nat, h = [(p, .cells #[.slice (some ⟨b, 0, none⟩) l.length l.length] 110 (0, 0)), (b, .cells (ints l).toArray 3 (0, 0))] ∧ l.length ≤ 64 ∧ ∀ x ∈ l, I64 x

def tblOk (l : List Int) (i : Int) : Bool := decide (0 ≤ i ∧ i < l.length)
def tblGet (l : List Int) (i : Int) : Int := if tblOk l i then l.getD i.toNat 0 else 0
def tblErr (l : List Int) (i : Int) : Int := if tblOk l i then 0 else 3
def tblSet (l : List Int) (i v : Int) : List Int := if tblOk l i then l.set i.toNat v else l

theorem tbl_cell {w : World} {b : Nat} {l : List Int} {T : TypeId} (h : w.heap[b]? = some (.cells (ints l).toArray T (0, 0))) (i : Nat) (hi : i < l.length) :
    w.cell? ⟨b, i, none⟩ = some (.int .i64 (l.getD i 0)) := by
  rw [cell_of h]
  simp [ints, List.getD, hi]

set_option maxRecDepth 100000 in
set_option maxHeartbeats 1000000 in
theorem table_get (p : Nat) (l : List Int) (i : Int) (w : World) (h : Hp) (hi : In w h) (ht : TableH p l h) :
    Calls Tryz.prog 26 #[.pointer (some ⟨p, 0, none⟩), .int .i64 i] w fun e w' => e = .returned (.tuple #[.int .i64 (tblGet l i), .int .i64 (tblErr l i)]) ∧ w = w' := by
  obtain ⟨b, rfl, hl, hu⟩ := ht
  have e0 : w.cell? ⟨p, 0, none⟩ = some (.slice (some ⟨b, 0, none⟩) l.length l.length) := cell_of hi.head 0
  by_cases hh : 0 ≤ i ∧ i < l.length
  · have h1 : tblGet l i = l.getD i.toNat 0 := by simp [tblGet, tblOk, hh]
    have h2 : tblErr l i = 0 := by simp [tblErr, tblOk, hh]
    rw [h1, h2]
    obtain ⟨k, rfl⟩ : ∃ k : Nat, i = k := ⟨i.toNat, by omega⟩
    have hk : k < l.length := by omega
    have e2 := tbl_cell hi.tail.head k hk
    clear h1 h2 hh
    rw [Int.toNat_natCast]
    generalize l.getD k 0 = z at *
    go_enter Tryz.func26, Tryz.ntmps26
    go_wp2
    go_ret2
    exact ⟨rfl, rfl⟩
  · have h1 : tblGet l i = 0 := by simp [tblGet, tblOk, hh]
    have h2 : tblErr l i = 3 := by simp [tblErr, tblOk, hh]
    rw [h1, h2]
    clear h1 h2
    by_cases hp : 0 ≤ i
    · have hq : (l.length : Int) ≤ i := by omega
      clear hh
      go_enter Tryz.func26, Tryz.ntmps26
      go_wp2
      go_ret2
      exact ⟨rfl, rfl⟩
    · clear hh
      go_enter Tryz.func26, Tryz.ntmps26
      go_wp2
      go_ret2
      exact ⟨rfl, rfl⟩

theorem I64_set {l : List Int} {k : Nat} {v : Int} (h : ∀ x ∈ l, I64 x) (hv : I64 v) : ∀ x ∈ l.set k v, I64 x := by
  intro x hx
  rcases List.mem_or_eq_of_mem_set hx with h1 | h1
  · exact h x h1
  · exact h1 ▸ hv

set_option maxRecDepth 100000 in
set_option maxHeartbeats 1000000 in
theorem table_set (p : Nat) (l : List Int) (i v : Int) (w : World) (h : Hp) (hi : In w h) (ht : TableH p l h) (hv : I64 v) :
    Calls Tryz.prog 48 #[.pointer (some ⟨p, 0, none⟩), .int .i64 i, .int .i64 v] w fun e w' => e = .returned (.int .i64 (tblErr l i)) ∧ ∃ h', TableH p (tblSet l i v) h' ∧ Upd h h' w w' := by
  obtain ⟨b, rfl, hl, hu⟩ := ht
  have e0 : w.cell? ⟨p, 0, none⟩ = some (.slice (some ⟨b, 0, none⟩) l.length l.length) := cell_of hi.head 0
  by_cases hh : 0 ≤ i ∧ i < l.length
  · have h1 : tblSet l i v = l.set i.toNat v := by simp [tblSet, tblOk, hh]
    have h2 : tblErr l i = 0 := by simp [tblErr, tblOk, hh]
    rw [h1, h2]
    obtain ⟨k, rfl⟩ : ∃ k : Nat, i = k := ⟨i.toNat, by omega⟩
    have hk : k < l.length := by omega
    have e2 := tbl_cell hi.tail.head k hk
    have f2 : w.frozen? ⟨b, k, none⟩ = false := frozen_of hi.tail.head k
    clear h1 h2 hh
    rw [Int.toNat_natCast]
    have hU := Upd.store (l := [(p, _)]) (r := []) (off := k) (v := .int .i64 v) hi
    have hs : (ints l).toArray.setIfInBounds k (.int .i64 v) = (ints (l.set k v)).toArray := by simp [ints, List.map_set]
    have hH : TableH p (l.set k v) [(p, .cells #[.slice (some ⟨b, 0, none⟩) l.length l.length] 110 (0, 0)), (b, .cells ((ints l).toArray.setIfInBounds k (.int .i64 v)) 3 (0, 0))] :=
      ⟨b, by rw [hs]; simp, by simpa using hl, I64_set hu hv⟩
    clear hs
    go_enter Tryz.func48, Tryz.ntmps48
    go_wp2
    go_ret
    exact ⟨rfl, _, hH, hU⟩
  · have h1 : tblSet l i v = l := by simp [tblSet, tblOk, hh]
    have h2 : tblErr l i = 3 := by simp [tblErr, tblOk, hh]
    rw [h1, h2]
    clear h1 h2
    by_cases hp : 0 ≤ i
    · have hq : (l.length : Int) ≤ i := by omega
      clear hh
      go_enter Tryz.func48, Tryz.ntmps48
      go_wp2
      go_ret
      exact ⟨rfl, _, ⟨b, rfl, hl, hu⟩, Upd.refl hi⟩
    · clear hh
      go_enter Tryz.func48, Tryz.ntmps48
      go_wp2
      go_ret
      exact ⟨rfl, _, ⟨b, rfl, hl, hu⟩, Upd.refl hi⟩

theorem Tryz.infoInt : (Tryz.prog.info? 3).map (fun i => (i.zero, i.size, i.bytes)) = some (some (.int .i64 0), 1, 8) := by kernel_rfl

set_option maxRecDepth 100000 in
set_option maxHeartbeats 1000000 in
theorem table_new (n : Nat) (w : World) (h0 : 0 < n) (h1 : n ≤ 64) :
    Calls Tryz.prog 40 #[.int .i64 n] w fun e w' => ∃ p h', e = .returned (.pointer (some ⟨p, 0, none⟩)) ∧ TableH p (List.replicate n 0) h' ∧ Upd [] h' w w' := by
  have hm := run_make1 (P := Tryz.prog) w 42 3 (.int .i64 0) 8 Tryz.underlying42 Tryz.infoInt rfl n (by omega) (by decide)
  have hU := (Upd.alloc (In.nil w) (.cells (List.replicate n (Value.int .i64 0)).toArray 3 (0, 0))).alloc' (.cells #[.slice (some ⟨w.heap.size, 0, none⟩) n n] 110 (0, 0))
  have hH : TableH (w.heap.size + 1) (List.replicate n 0) [(w.heap.size + 1, .cells #[.slice (some ⟨w.heap.size, 0, none⟩) n n] 110 (0, 0)), (w.heap.size, .cells (List.replicate n (Value.int .i64 0)).toArray 3 (0, 0))] :=
    ⟨w.heap.size, by simp [ints], by simpa using h1, by intro x hx; simp at hx; rw [hx.2]; exact ⟨by decide, by decide⟩⟩
  have h0' : (0 : Int) < n := by omega
  have h1' : (n : Int) ≤ 64 := by omega
  generalize hR : List.replicate n (Value.int .i64 0) = R at *
  clear hR
  go_enter Tryz.func40, Tryz.ntmps40
  go_wp2
  go_ret
  exact ⟨_, _, rfl, hH, by simpa using hU⟩

end Go.Proofs.YtjjdjipohifgbaaGreat

/- What New and Push of package grey come to. Conditions: a stack as New makes it. -/
namespace Go.Proofs.YtjjdjipohifgbaaGreat
open Go.RowKit

structure GreyS where
  most : Int
  list : List Int
  lost : Bool

def GreyS.WF (s : GreyS) : Prop := 0 ≤ s.most ∧ s.most ≤ 1048576 ∧ s.list.length ≤ s.most ∧ ∀ x ∈ s.list, I64 x
def greyObj (s : GreyS) (v : Value) : Obj := .cells #[.int .i64 s.most, v, .bool s.lost] 136 (0, 0)
def GreyH (p : Nat) (s : GreyS) (h : Hp) : Prop :=
  ∃ v hs, h = (p, greyObj s v) :: hs ∧ SliceH 3 1 v s.list.length (ints s.list) hs ∧ s.WF

def GreyS.full (s : GreyS) : Bool := decide (s.most ≤ s.list.length)
def GreyS.push (s : GreyS) (x : Int) : GreyS := if s.full then { s with lost := true } else { s with list := s.list ++ [x] }

set_option maxRecDepth 100000 in
set_option maxHeartbeats 1000000 in
theorem grey_push (p : Nat) (s : GreyS) (x : Int) (w : World) (h : Hp) (hi : In w h) (hg : GreyH p s h) (hx : I64 x) :
    Calls Tryz.prog 108 #[.pointer (some ⟨p, 0, none⟩), .int .i64 x] w fun e w' => e = .returned (.bool (!s.full)) ∧ ∃ h', GreyH p (s.push x) h' ∧ Upd h h' w w' := by
  obtain ⟨v, hs, rfl, hS, w1, w2, w3, w4⟩ := hg
  have hv := hS.shape
  obtain ⟨ao, cap, rfl, hcap⟩ := hv
  have e0 : w.cell? ⟨p, 0, none⟩ = some (.int .i64 s.most) := cell_of hi.head 0
  have e1 : w.cell? ⟨p, 1, none⟩ = some (.slice ao s.list.length cap) := cell_of hi.head 1
  have e2 : w.cell? ⟨p, 2, none⟩ = some (.bool s.lost) := cell_of hi.head 2
  have f1 : w.frozen? ⟨p, 1, none⟩ = false := frozen_of hi.head 1
  have f2 : w.frozen? ⟨p, 2, none⟩ = false := frozen_of hi.head 2
  by_cases hf : s.most ≤ s.list.length
  · have hb : s.full = true := by simp [GreyS.full, hf]
    have hp : s.push x = { s with lost := true } := by simp [GreyS.push, hb]
    rw [hb, hp]
    have hU := Upd.store1 (Upd.drew (Upd.refl hi).inn) 2 (.bool true)
    clear hb hp
    go_enter Tryz.func108, Tryz.ntmps108
    go_wp2
    refine wp_still (by kernel_rfl) (by kernel_rfl) fun w1 hw1 => ?_
    subst hw1
    repeat still_step
    refine wpStill_nil ?_
    go_wp2
    go_ret
    exact ⟨rfl, _, ⟨_, _, rfl, hS, w1, w2, w3, w4⟩, hU⟩
  · have hb : s.full = false := by simp [GreyS.full]; omega
    have hp : s.push x = { s with list := s.list ++ [x] } := by simp [GreyS.push, hb]
    rw [hb, hp]
    have U1 := ((Upd.refl hi).drew').skip' (.cells #[.int .i64 x] 3 (0, 0))
    have hnews := news_of (news := [.int .i64 x]) (w := w.drew.alloc (.cells #[.int .i64 x] 3 (0, 0))) (b := w.heap.size) (T := 3) (fr := (0, 0)) (heap_alloc_at (by simp))
    have hl : ((s.list.length : Nat) : Int) < s.most := by omega
    have hmax : s.list.length + 1 ≤ maxLen := by unfold maxLen; omega
    have hmem : ∀ y ∈ s.list ++ [x], I64 y := by
      intro y hy
      rcases List.mem_append.1 hy with h1 | h1
      · exact w4 y h1
      · simp at h1; exact h1 ▸ hx
    have H1 := Lib.hid hnews
    clear hb hp hnews
    go_enter Tryz.func108, Tryz.ntmps108
    go_wp2
    refine wp_still (by kernel_rfl) (by kernel_rfl) fun w1 hw1 => ?_
    subst hw1
    repeat still_step
    refine wpStill_nil ?_
    go_wp2_with (at_builtin; refine wpList_append_mine rfl (.tmp 24) (.tmp 26) 42 rfl 3 1 8 (.int .i64 0) Tryz.underlying42 Tryz.infoInt rfl (by decide) (.slice ao s.list.length cap) s.list.length (ints s.list) hs rfl hS U1.inn.tail ⟨w.heap.size, 0, none⟩ 1 1 [.int .i64 x] rfl H1.out rfl (by intro u hu; simp at hu; subst hu; rfl) (Or.inl (by decide)) hmax (by omega) ?_; intro v' w3 hX' hS' hU'; obtain ⟨ao', cap', rfl, _⟩ := hS'.shape; have U2 := U1.under hU'; have g1 : w3.cell? ⟨p, 1, none⟩ = some (.slice ao s.list.length cap) := cell_of U2.inn.head 1; have k1 : w3.frozen? ⟨p, 1, none⟩ = false := frozen_of U2.inn.head 1)
    go_ret
    refine ⟨rfl, _, ⟨.slice ao' (s.list.length + 1) cap', hX', rfl, ?_, w1, w2, ?_, hmem⟩, U2.store1 1 (.slice ao' (s.list.length + 1) cap')⟩
    · simpa [ints] using hS'
    · simp; omega

set_option maxRecDepth 100000 in
set_option maxHeartbeats 1000000 in
theorem grey_new (n : Nat) (w : World) (h0 : 0 < n) (h1 : n ≤ 1048576) :
    Calls Tryz.prog 39 #[.int .i64 n] w fun e w' => ∃ p h', e = .returned (.pointer (some ⟨p, 0, none⟩)) ∧ GreyH p ⟨n, [], false⟩ h' ∧ Upd [] h' w w' := by
  have hU := Upd.alloc (In.nil w) (greyObj ⟨n, [], false⟩ (.slice none 0 0))
  have hH : GreyH w.heap.size ⟨n, [], false⟩ [(w.heap.size, greyObj ⟨n, [], false⟩ (.slice none 0 0))] :=
    ⟨_, [], rfl, SliceH.nil _ _, by simp only [GreyS.WF, List.length_nil]; omega, by simp only; omega, by simp only [List.length_nil]; omega, by simp⟩
  have h0' : (0 : Int) < n := by omega
  have h1' : (n : Int) ≤ 1048576 := by omega
  go_enter Tryz.func39, Tryz.ntmps39
  go_wp2
  go_ret
  exact ⟨_, _, rfl, hH, hU⟩

end Go.Proofs.YtjjdjipohifgbaaGreat

/- What each call of packages buf and card comes to, as far as core needs them. Conditions: things as New makes them. -/
namespace Go.Proofs.YtjjdjipohifgbaaGreat
open Go.RowKit

structure BufS where
  most : Int
  list : List Int
def BufS.WF (s : BufS) : Prop := 0 ≤ s.most ∧ s.most ≤ 1048576 ∧ s.list.length ≤ s.most ∧ ∀ x ∈ s.list, I64 x
def bufObj (s : BufS) (v : Value) : Obj := .cells #[.int .i64 s.most, v] 157 (0, 0)
def BufH (p : Nat) (s : BufS) (h : Hp) : Prop :=
  ∃ v hs, h = (p, bufObj s v) :: hs ∧ SliceH 3 1 v s.list.length (ints s.list) hs ∧ s.WF
def BufS.full (s : BufS) : Bool := decide (s.most ≤ s.list.length)
def BufS.put (s : BufS) (x : Int) : BufS := if s.full then s else { s with list := s.list ++ [x] }

set_option maxRecDepth 100000 in
set_option maxHeartbeats 1000000 in
theorem buf_put (p : Nat) (s : BufS) (x : Int) (w : World) (h : Hp) (hi : In w h) (hg : BufH p s h) (hx : I64 x) :
    Calls Tryz.prog 117 #[.pointer (some ⟨p, 0, none⟩), .int .i64 x] w fun e w' => e = .returned (.bool (!s.full)) ∧ ∃ h', BufH p (s.put x) h' ∧ Upd h h' w w' := by
  obtain ⟨v, hs, rfl, hS, w1, w2, w3, w4⟩ := hg
  have hv := hS.shape
  obtain ⟨ao, cap, rfl, hcap⟩ := hv
  have e0 : w.cell? ⟨p, 0, none⟩ = some (.int .i64 s.most) := cell_of hi.head 0
  have e1 : w.cell? ⟨p, 1, none⟩ = some (.slice ao s.list.length cap) := cell_of hi.head 1
  have f1 : w.frozen? ⟨p, 1, none⟩ = false := frozen_of hi.head 1
  by_cases hf : s.most ≤ s.list.length
  · have hb : s.full = true := by simp [BufS.full, hf]
    have hp : s.put x = s := by simp [BufS.put, hb]
    rw [hb, hp]
    have hU := Upd.drew hi
    clear hb hp
    go_enter Tryz.func117, Tryz.ntmps117
    go_wp2
    refine wp_still (by kernel_rfl) (by kernel_rfl) fun w1 hw1 => ?_
    subst hw1
    repeat (refine wpStill_step (fun K hK => ?_); have HK := Lib.hid hK; clear hK; go_simp; refine HK.out _ ?_; clear HK K)
    refine wpStill_nil ?_
    go_wp2
    go_ret
    exact ⟨rfl, _, ⟨_, _, rfl, hS, w1, w2, w3, w4⟩, hU⟩
  · have hb : s.full = false := by simp [BufS.full]; omega
    have hp : s.put x = { s with list := s.list ++ [x] } := by simp [BufS.put, hb]
    rw [hb, hp]
    have U1 := ((Upd.refl hi).drew').skip' (.cells #[.int .i64 x] 3 (0, 0))
    have hnews := news_of (news := [.int .i64 x]) (w := w.drew.alloc (.cells #[.int .i64 x] 3 (0, 0))) (b := w.heap.size) (T := 3) (fr := (0, 0)) (heap_alloc_at (by simp))
    have hl : ((s.list.length : Nat) : Int) < s.most := by omega
    have hmax : s.list.length + 1 ≤ maxLen := by unfold maxLen; omega
    have hmem : ∀ y ∈ s.list ++ [x], I64 y := by
      intro y hy
      rcases List.mem_append.1 hy with h1 | h1
      · exact w4 y h1
      · simp at h1; exact h1 ▸ hx
    have H1 := Lib.hid hnews
    clear hb hp hnews
    go_enter Tryz.func117, Tryz.ntmps117
    go_wp2
    refine wp_still (by kernel_rfl) (by kernel_rfl) fun w1 hw1 => ?_
    subst hw1
    repeat (refine wpStill_step (fun K hK => ?_); have HK := Lib.hid hK; clear hK; go_simp; refine HK.out _ ?_; clear HK K)
    refine wpStill_nil ?_
    go_wp2_with (at_builtin; refine wpList_append_mine rfl (.tmp 25) (.tmp 27) 42 rfl 3 1 8 (.int .i64 0) Tryz.underlying42 Tryz.infoInt rfl (by decide) (.slice ao s.list.length cap) s.list.length (ints s.list) hs rfl hS U1.inn.tail ⟨w.heap.size, 0, none⟩ 1 1 [.int .i64 x] rfl H1.out rfl (by intro u hu; simp at hu; subst hu; rfl) (Or.inl (by decide)) hmax (by omega) ?_; intro v' w3 hX' hS' hU'; obtain ⟨ao', cap', rfl, _⟩ := hS'.shape; have U2 := U1.under hU'; have g1 : w3.cell? ⟨p, 1, none⟩ = some (.slice ao s.list.length cap) := cell_of U2.inn.head 1; have k1 : w3.frozen? ⟨p, 1, none⟩ = false := frozen_of U2.inn.head 1)
    go_ret
    refine ⟨rfl, _, ⟨.slice ao' (s.list.length + 1) cap', hX', rfl, ?_, w1, w2, ?_, hmem⟩, U2.store1 1 (.slice ao' (s.list.length + 1) cap')⟩
    · simpa [ints] using hS'
    · simp; omega

set_option maxRecDepth 100000 in
set_option maxHeartbeats 1000000 in
theorem buf_new (n : Nat) (w : World) (h1 : n ≤ 1048576) :
    Calls Tryz.prog 80 #[.int .i64 n] w fun e w' => ∃ p h', e = .returned (.pointer (some ⟨p, 0, none⟩)) ∧ BufH p ⟨n, []⟩ h' ∧ Upd [] h' w w' := by
  have hU := Upd.alloc (In.nil w) (bufObj ⟨n, []⟩ (.slice none 0 0))
  have hH : BufH w.heap.size ⟨n, []⟩ [(w.heap.size, bufObj ⟨n, []⟩ (.slice none 0 0))] :=
    ⟨_, [], rfl, SliceH.nil _ _, by simp only; omega, by simp only; omega, by simp only [List.length_nil]; omega, by simp⟩
  have h1' : (n : Int) ≤ 1048576 := by omega
  rcases Nat.eq_zero_or_pos n with rfl | h0
  · go_enter Tryz.func80, Tryz.ntmps80
    go_wp2
    go_ret
    exact ⟨_, _, rfl, hH, hU⟩
  · have h0' : (0 : Int) < n := by omega
    go_enter Tryz.func80, Tryz.ntmps80
    go_wp2
    go_ret
    exact ⟨_, _, rfl, hH, hU⟩

structure CardS where
  base : Int
  words : Int
  card : Int
  marks : List Bool
def CardS.many (words card : Int) : Int := words / card + min (words % card) 1
def CardS.WF (s : CardS) : Prop := 0 ≤ s.base ∧ s.base ≤ 1048576 ∧ 0 ≤ s.words ∧ s.words ≤ 1048576 ∧ 1 ≤ s.card ∧ s.card ≤ 1048576 ∧ (s.marks.length : Int) = CardS.many s.words s.card
abbrev bools (l : List Bool) : List Value := l.map Value.bool
def CardH (p : Nat) (s : CardS) (h : Hp) : Prop :=
  ∃ b : Nat, h = [(p, .cells #[.int .i64 s.base, .int .i64 s.words, .int .i64 s.card, .slice (some ⟨b, 0, none⟩) s.marks.length s.marks.length] 159 (0, 0)), (b, .cells (bools s.marks).toArray 4 (0, 0))] ∧ s.WF
def CardS.has (s : CardS) (i : Int) : Bool := decide (s.base ≤ i ∧ i - s.base < s.words)
def CardS.of (s : CardS) (i : Int) : Int := if s.has i then (i - s.base) / s.card else -1
def CardS.mark (s : CardS) (i : Int) : CardS := if s.has i then { s with marks := s.marks.set ((i - s.base) / s.card).toNat true } else s

theorem div_lt_many {x words card : Int} (h0 : 0 ≤ x) (h1 : x < words) (h2 : 1 ≤ card) : 0 ≤ x / card ∧ x / card < CardS.many words card := by
  have hx : 0 ≤ x / card := Int.ediv_nonneg h0 (by omega)
  refine ⟨hx, ?_⟩
  unfold CardS.many
  have e1 : card * (x / card) + x % card = x := Int.mul_ediv_add_emod x card
  have e2 : card * (words / card) + words % card = words := Int.mul_ediv_add_emod words card
  have m1 : 0 ≤ x % card := Int.emod_nonneg x (by omega)
  have m2 : words % card < card := Int.emod_lt_of_pos words (by omega)
  have m3 : 0 ≤ words % card := Int.emod_nonneg words (by omega)
  by_cases hz : words % card = 0
  · rw [hz]
    have : card * (x / card) < card * (words / card) := by omega
    have := Int.lt_of_mul_lt_mul_left this (by omega)
    omega
  · have : card * (x / card) < card * (words / card + 1) := by rw [Int.mul_add]; omega
    have := Int.lt_of_mul_lt_mul_left this (by omega)
    omega

set_option maxRecDepth 100000 in
set_option maxHeartbeats 1000000 in
theorem card_of (p : Nat) (s : CardS) (i : Int) (w : World) (h : Hp) (hi : In w h) (hg : CardH p s h) (hx : I64 i) :
    Calls Tryz.prog 125 #[.pointer (some ⟨p, 0, none⟩), .int .i64 i] w fun e w' => e = .returned (.int .i64 (s.of i)) ∧ Upd h h w w' := by
  obtain ⟨b, rfl, w1, w2, w3, w4, w5, w6, w7⟩ := hg
  have e0 : w.cell? ⟨p, 0, none⟩ = some (.int .i64 s.base) := cell_of hi.head 0
  have e1 : w.cell? ⟨p, 1, none⟩ = some (.int .i64 s.words) := cell_of hi.head 1
  have e2 : w.cell? ⟨p, 2, none⟩ = some (.int .i64 s.card) := cell_of hi.head 2
  obtain ⟨x1, x2⟩ := hx
  clear w7
  by_cases h1 : s.base ≤ i
  · have g3 : IntKind.i64.wrap (i - s.base) = i - s.base := IntWalk.i64_in _ (by omega)
    have d1 : decide (i < s.base) = false := decide_eq_false (by omega)
    by_cases h2 : i - s.base < s.words
    · have d2 : decide (s.words ≤ i - s.base) = false := decide_eq_false (by omega)
      have ho : s.of i = (i - s.base) / s.card := by simp [CardS.of, CardS.has, h1, h2]
      rw [ho]
      have hz : s.card ≠ 0 := by omega
      have hd : (i - s.base).tdiv s.card = (i - s.base) / s.card := Int.tdiv_eq_ediv_of_nonneg (by omega)
      have hd0 : 0 ≤ (i - s.base) / s.card := Int.ediv_nonneg (by omega) (by omega)
      have hd1 : (i - s.base) / s.card ≤ i - s.base := Int.ediv_le_self _ (by omega)
      have g4 : IntKind.i64.wrap ((i - s.base) / s.card) = (i - s.base) / s.card := IntWalk.i64_in _ (by omega)
      have p0 : 0 ≤ i - s.base := by omega
      clear ho
      go_enter Tryz.func125, Tryz.ntmps125
      go_wp2
      go_quiet (fail)
      go_wp2
      refine wp_still (by kernel_rfl) (by kernel_rfl) fun w1 hw1 => ?_
      subst hw1
      repeat (refine wpStill_step (fun K hK => ?_); have HK := Lib.hid hK; clear hK; go_simp; refine HK.out _ ?_; clear HK K)
      refine wpStill_nil ?_
      go_wp2
      go_ret
      exact ⟨rfl, (Upd.drewN hi nq).drew'⟩
    · have d2 : decide (s.words ≤ i - s.base) = true := decide_eq_true (by omega)
      have ho : s.of i = -1 := by simp [CardS.of, CardS.has, h2]
      rw [ho]
      clear ho
      go_enter Tryz.func125, Tryz.ntmps125
      go_wp2
      go_quiet (fail)
      go_wp2
      go_ret
      exact ⟨rfl, Upd.drewN hi nq⟩
  · have d1 : decide (i < s.base) = true := decide_eq_true (by omega)
    have ho : s.of i = -1 := by simp [CardS.of, CardS.has, h1]
    rw [ho]
    clear ho
    go_enter Tryz.func125, Tryz.ntmps125
    go_wp2
    go_quiet (fail)
    go_wp2
    go_ret
    exact ⟨rfl, Upd.drewN hi nq⟩

set_option maxRecDepth 100000 in
set_option maxHeartbeats 1000000 in
theorem card_mark (p : Nat) (s : CardS) (i : Int) (w : World) (h : Hp) (hi : In w h) (hg : CardH p s h) (hx : I64 i) :
    Calls Tryz.prog 118 #[.pointer (some ⟨p, 0, none⟩), .int .i64 i] w fun e w' => e = .returned (.bool (s.has i)) ∧ ∃ h', CardH p (s.mark i) h' ∧ Upd h h' w w' := by
  have hof := card_of p s i w h hi hg hx
  have hg0 := hg
  obtain ⟨b, rfl, w1, w2, w3, w4, w5, w6, w7⟩ := hg
  by_cases h1 : s.has i = true
  · have h1' := h1
    simp only [CardS.has, decide_eq_true_eq] at h1'
    obtain ⟨k1, k2⟩ := h1'
    have hd := div_lt_many (x := i - s.base) (words := s.words) (card := s.card) (by omega) k2 w5
    have ho : s.of i = (i - s.base) / s.card := by rw [CardS.of, if_pos h1]
    have hm : s.mark i = { s with marks := s.marks.set ((i - s.base) / s.card).toNat true } := by rw [CardS.mark, if_pos h1]
    rw [h1, hm]
    rw [ho] at hof
    obtain ⟨k, hk⟩ : ∃ k : Nat, (i - s.base) / s.card = k := ⟨((i - s.base) / s.card).toNat, by omega⟩
    rw [hk] at hof hd ⊢
    rw [Int.toNat_natCast]
    have hkl : k < s.marks.length := by omega
    clear ho hm hk h1 k1 k2
    obtain ⟨d1, d2⟩ := hd
    go_enter Tryz.func118, Tryz.ntmps118
    go_wp2_with (go_at_call 125; refine Calls.mono hof ?_; rintro e wx ⟨rfl, u2⟩; have e3 : wx.cell? ⟨p, 3, none⟩ = some (.slice (some ⟨b, 0, none⟩) s.marks.length s.marks.length) := cell_of u2.inn.head 3; have e4 : wx.cell? ⟨b, k, none⟩ = some (.bool (s.marks.getD k false)) := ((cell_of u2.inn.tail.head k).trans (by simp [List.getD, hkl])); have f4 : wx.frozen? ⟨b, k, none⟩ = false := frozen_of u2.inn.tail.head k)
    go_ret
    have hs : (bools s.marks).toArray.setIfInBounds k (.bool true) = (bools (s.marks.set k true)).toArray := by simp [bools, List.map_set]
    refine ⟨rfl, _, ⟨b, ?_, w1, w2, w3, w4, w5, w6, ?_⟩, Upd.store' (l := [(p, _)]) (r := []) u2 k (.bool true)⟩
    · simp only [hs]; simp
    · simpa using w7
  · have h1' : s.has i = false := by simpa using h1
    have ho : s.of i = -1 := by rw [CardS.of, if_neg h1]
    have hm : s.mark i = s := by rw [CardS.mark, if_neg h1]
    rw [h1', hm]
    rw [ho] at hof
    clear ho hm h1 h1'
    go_enter Tryz.func118, Tryz.ntmps118
    go_wp2_with (go_at_call 125; refine Calls.mono hof ?_; rintro e wx ⟨rfl, u2⟩)
    go_ret
    exact ⟨rfl, _, hg0, u2⟩

theorem Tryz.infoBool : (Tryz.prog.info? 4).map (fun i => (i.zero, i.size, i.bytes)) = some (some (.bool false), 1, 1) := by kernel_rfl

def cardNew (b n c : Int) : CardS := ⟨b, n, c, List.replicate (CardS.many n c).toNat false⟩

theorem many_bounds {words card : Int} (h0 : 0 ≤ words) (h1 : words ≤ 1048576) (h2 : 1 ≤ card) : 0 ≤ CardS.many words card ∧ CardS.many words card ≤ 1048576 := by
  rcases Int.lt_or_eq_of_le h0 with h | h
  · have := div_lt_many (x := words - 1) (words := words) (card := card) (by omega) (by omega) h2
    refine ⟨by omega, ?_⟩
    unfold CardS.many
    have e2 : card * (words / card) + words % card = words := Int.mul_ediv_add_emod words card
    have m3 : 0 ≤ words % card := Int.emod_nonneg words (by omega)
    have hd : 0 ≤ words / card := Int.ediv_nonneg h0 (by omega)
    have : words / card ≤ card * (words / card) := by
      have := Int.mul_le_mul_of_nonneg_right h2 hd
      omega
    omega
  · subst h
    simp [CardS.many] <;> omega

set_option maxRecDepth 100000 in
set_option maxHeartbeats 1000000 in
theorem card_new (b n c : Int) (w : World) (h1 : 0 < b) (h2 : b ≤ 1048576) (h3 : 0 ≤ n) (h4 : n ≤ 1048576) (h5 : 1 ≤ c) (h6 : c ≤ 1048576) :
    Calls Tryz.prog 81 #[.int .i64 b, .int .i64 n, .int .i64 c] w fun e w' => ∃ p h', e = .returned (.pointer (some ⟨p, 0, none⟩)) ∧ CardH p (cardNew b n c) h' ∧ Upd [] h' w w' := by
  obtain ⟨mb1, mb2⟩ := many_bounds h3 h4 h5
  obtain ⟨m, hm⟩ : ∃ m : Nat, CardS.many n c = m := ⟨(CardS.many n c).toNat, by omega⟩
  have hmk := fun W => run_make1 (P := Tryz.prog) W 153 4 (.bool false) 1 Tryz.underlying153 Tryz.infoBool rfl m (by omega) (by decide)
  have hU := fun W => (Upd.alloc (In.nil W) (.cells (List.replicate m (Value.bool false)).toArray 4 (0, 0))).alloc' (.cells #[.int .i64 b, .int .i64 n, .int .i64 c, .slice (some ⟨W.heap.size, 0, none⟩) m m] 159 (0, 0))
  have hH : ∀ k, CardH (k + 1) (cardNew b n c) [(k + 1, .cells #[.int .i64 b, .int .i64 n, .int .i64 c, .slice (some ⟨k, 0, none⟩) m m] 159 (0, 0)), (k, .cells (List.replicate m (Value.bool false)).toArray 4 (0, 0))] :=
    fun k => ⟨k, by simp [cardNew, bools, hm], Int.le_of_lt h1, h2, h3, h4, h5, h6, by simp [cardNew, hm]⟩
  generalize hR : List.replicate m (Value.bool false) = R at *
  clear hR
  have hz : c ≠ 0 := by omega
  have hd : n.tdiv c = n / c := Int.tdiv_eq_ediv_of_nonneg h3
  have hd2 : n.tmod c = n % c := Int.tmod_eq_emod_of_nonneg h3
  have d0 : 0 ≤ n / c := Int.ediv_nonneg h3 (by omega)
  have d1 : n / c ≤ n := Int.ediv_le_self _ h3
  have r0 : 0 ≤ n % c := Int.emod_nonneg n hz
  have r1 : n % c < c := Int.emod_lt_of_pos n (by omega)
  have key : ∀ (hw : n = 0 ∨ 0 < n), Calls Tryz.prog 81 #[.int .i64 b, .int .i64 n, .int .i64 c] w fun e w' => ∃ p h', e = .returned (.pointer (some ⟨p, 0, none⟩)) ∧ CardH p (cardNew b n c) h' ∧ Upd [] h' w w' := by
    intro hw
    rcases hw with rfl | hn
    · have hm0 : m = 0 := by simp [CardS.many] at hm; omega
      subst hm0
      clear hd hd2 d0 d1 r0 r1 hm mb1 mb2
      have k0 : IntKind.i64.wrap 0 = 0 := by kernel_rfl
      have hc01 : c = 1 ∨ 1 < c := by omega
      rcases hc01 with rfl | hc
      all_goals
        go_enter Tryz.func81, Tryz.ntmps81
        go_wp2
        have hmk1 := hmk w.drew
        have hU1 := (Upd.drew (In.nil w)).trans (hU w.drew)
        rw [World.size_alloc] at hU1
        have hH1 := hH w.heap.size
        try rw [show ((0 : Nat) : Int) = 0 from rfl] at hmk1
        clear hmk hU hH
        go_region
        all_goals
          go_wp2
          go_ret
          exact ⟨_, _, rfl, hH1, hU1⟩
    · have hc01 : c = 1 ∨ 1 < c := by omega
      rcases hc01 with rfl | hc
      · have hm0 : (m : Int) = n := by rw [← hm]; simp [CardS.many] <;> omega
        obtain rfl : n = m := hm0.symm
        clear hd hd2 d0 d1 r0 r1 hm mb1 mb2
        have hwn : IntKind.i64.wrap (m : Int) = m := IntWalk.i64_in _ (by omega)
        go_enter Tryz.func81, Tryz.ntmps81
        go_wp2
        have hmk1 := hmk w.drew
        have hU1 := (Upd.drew (In.nil w)).trans (hU w.drew)
        rw [World.size_alloc] at hU1
        have hH1 := hH w.heap.size
        try rw [show ((0 : Nat) : Int) = 0 from rfl] at hmk1
        clear hmk hU hH
        go_region
        all_goals
          go_wp2
          go_ret
          exact ⟨_, _, rfl, hH1, hU1⟩
      · unfold CardS.many at hm
        obtain ⟨q, hq⟩ : ∃ q, q = n / c := ⟨_, rfl⟩
        obtain ⟨r, hr⟩ : ∃ r, r = n % c := ⟨_, rfl⟩
        rw [← hq, ← hr] at hm
        rw [← hq] at hd d0 d1
        rw [← hr] at hd2 r0 r1
        clear hq hr
        have hwq : IntKind.i64.wrap q = q := IntWalk.i64_in _ (by omega)
        have hwr : IntKind.i64.wrap r = r := IntWalk.i64_in _ (by omega)
        have hr01 : r = 0 ∨ 1 ≤ r := by omega
        rcases hr01 with rfl | hr
        · obtain rfl : q = m := by omega
          clear hm mb1 mb2
          go_enter Tryz.func81, Tryz.ntmps81
          go_wp2
          have hmk1 := hmk w.drew
          have hU1 := (Upd.drew (In.nil w)).trans (hU w.drew)
          rw [World.size_alloc] at hU1
          have hH1 := hH w.heap.size
          try rw [show ((0 : Nat) : Int) = 0 from rfl] at hmk1
          clear hmk hU hH
          go_region
          all_goals
            go_wp2
            go_ret
            exact ⟨_, _, rfl, hH1, hU1⟩
        · have hr1 : r = 1 ∨ 1 < r := by omega
          have hs1 : IntKind.i64.wrap (q + 1) = m := by rw [IntWalk.i64_in _ (by omega)]; omega
          clear hr
          rcases hr1 with rfl | hr
          all_goals
            clear hm mb1 mb2
            go_enter Tryz.func81, Tryz.ntmps81
            go_wp2
            have hmk1 := hmk w.drew
            have hU1 := (Upd.drew (In.nil w)).trans (hU w.drew)
            rw [World.size_alloc] at hU1
            have hH1 := hH w.heap.size
            try rw [show ((0 : Nat) : Int) = 0 from rfl] at hmk1
            clear hmk hU hH
            go_region
            all_goals
              go_wp2
              go_ret
              exact ⟨_, _, rfl, hH1, hU1⟩
  exact key (by omega)

end Go.Proofs.YtjjdjipohifgbaaGreat

/- What New and Add of package remset come to. Conditions: a set as New makes it. -/
namespace Go.Proofs.YtjjdjipohifgbaaGreat
open Go.RowKit

structure RemS where
  base : Int
  words : Int
  size : Int
  most : Int
  nb : BufS
  nc : CardS
  tb : BufS
  tc : CardS

def RemS.WF (s : RemS) : Prop := 0 < s.base ∧ s.base ≤ 1048576 ∧ 0 ≤ s.words ∧ s.words ≤ 1048576 ∧ 1 ≤ s.size ∧ s.size ≤ 1048576 ∧ 0 ≤ s.most ∧ s.most ≤ 1048576

/-- the places of a set's blocks -/
structure RemP where
  bm : Nat
  bf : Nat
  bw : Nat
  bs : Nat
  nb : Nat
  nc : Nat
  tb : Nat
  tc : Nat
def ptr (b : Nat) : Value := .pointer (some ⟨b, 0, none⟩)
def sideFn (q : RemP) : Value := .func (.func 79) #[] #[ptr q.bm, ptr q.bf, ptr q.bw, ptr q.bs]
def remBoxes (q : RemP) (s : RemS) : Hp := [(q.bm, .cells #[.int .i64 s.most] 3 (0, 0)), (q.bs, .cells #[.int .i64 s.size] 3 (0, 0)), (q.bw, .cells #[.int .i64 s.words] 3 (0, 0)), (q.bf, .cells #[.int .i64 s.base] 3 (0, 0))]
def remObj (q : RemP) (s : RemS) : Obj := .cells #[.int .i64 s.base, .int .i64 s.words, sideFn q, ptr q.nb, ptr q.nc, ptr q.tb, ptr q.tc] 134 (0, 0)
/-- a set: its own block and the four boxes that its function holds; then the parts -/
def RemH (p : Nat) (s : RemS) (h : Hp) : Prop :=
  ∃ q h1 h2 h3 h4, h = [(p, remObj q s) :: remBoxes q s, h1, h2, h3, h4].flatten ∧ BufH q.nb s.nb h1 ∧ CardH q.nc s.nc h2 ∧ BufH q.tb s.tb h3 ∧ CardH q.tc s.tc h4 ∧ s.WF

/-- four cells behind two stores beside them -/
theorem keep4 {w : World} {k a b c d o1 o2 : Nat} {x1 x2 v1 v2 v3 v4 : Value} (h : w.cell? ⟨a, 0, none⟩ = some v1 ∧ w.cell? ⟨b, 0, none⟩ = some v2 ∧ w.cell? ⟨c, 0, none⟩ = some v3 ∧ w.cell? ⟨d, 0, none⟩ = some v4) (m1 : k ≠ a) (m2 : k ≠ b) (m3 : k ≠ c) (m4 : k ≠ d) :
    ((w.setCell ⟨k, o1, none⟩ x1).setCell ⟨k, o2, none⟩ x2).cell? ⟨a, 0, none⟩ = some v1 ∧ ((w.setCell ⟨k, o1, none⟩ x1).setCell ⟨k, o2, none⟩ x2).cell? ⟨b, 0, none⟩ = some v2 ∧
    ((w.setCell ⟨k, o1, none⟩ x1).setCell ⟨k, o2, none⟩ x2).cell? ⟨c, 0, none⟩ = some v3 ∧ ((w.setCell ⟨k, o1, none⟩ x1).setCell ⟨k, o2, none⟩ x2).cell? ⟨d, 0, none⟩ = some v4 := by
  have e : ∀ z v, k ≠ z → w.cell? ⟨z, 0, none⟩ = some v → ((w.setCell ⟨k, o1, none⟩ x1).setCell ⟨k, o2, none⟩ x2).cell? ⟨z, 0, none⟩ = some v := by
    intro z v hz hv
    rw [World.cell?_setCell_other _ _ _ _ (by simp [hz]), World.cell?_setCell_other _ _ _ _ (by simp [hz])]
    exact hv
  exact ⟨e a v1 m1 h.1, e b v2 m2 h.2.1, e c v3 m3 h.2.2.1, e d v4 m4 h.2.2.2⟩

set_option maxRecDepth 100000 in
set_option maxHeartbeats 2000000 in
theorem rem_side (q : RemP) (s : RemS) (w : World) (hi : In w (remBoxes q s)) (hs : s.WF) :
    Calls Tryz.prog 79 #[ptr q.bm, ptr q.bf, ptr q.bw, ptr q.bs] w fun e w' => ∃ b c h1 h2, e = .returned (.agg #[ptr b, ptr c]) ∧ BufH b ⟨s.most, []⟩ h1 ∧ CardH c (cardNew s.base s.words s.size) h2 ∧ Upd [] (h2 ++ h1) w w' := by
  obtain ⟨s1, s2, s3, s4, s5, s6, s7, s8⟩ := hs
  obtain ⟨n, hn⟩ : ∃ n : Nat, s.most = n := ⟨s.most.toNat, by omega⟩
  have hbn := fun W => buf_new n W (by omega)
  rw [← hn] at hbn
  clear hn
  have hcn := fun W => card_new s.base s.words s.size W s1 s2 s3 s4 s5 s6
  have U0 := (Upd.alloc (In.nil w) (.cells #[.pointer none, .pointer none] 129 (0, 0))).drew'
  have b0 : ∀ w', Below w.heap.size w w' → w'.cell? ⟨q.bm, 0, none⟩ = some (.int .i64 s.most) ∧ w'.cell? ⟨q.bf, 0, none⟩ = some (.int .i64 s.base) ∧ w'.cell? ⟨q.bw, 0, none⟩ = some (.int .i64 s.words) ∧ w'.cell? ⟨q.bs, 0, none⟩ = some (.int .i64 s.size) := by
    intro w' hb
    have l := fun b (hb : b ∈ (remBoxes q s).map Prod.fst) => hi.lt hb
    refine ⟨?_, ?_, ?_, ?_⟩
    · exact (hb.cell (p := ⟨q.bm, 0, none⟩) (l _ (by simp [remBoxes]))).trans (cell_of (hi.mem (b := q.bm) (o := .cells #[.int .i64 s.most] 3 (0, 0)) (by simp [remBoxes])) 0)
    · exact (hb.cell (p := ⟨q.bf, 0, none⟩) (l _ (by simp [remBoxes]))).trans (cell_of (hi.mem (b := q.bf) (o := .cells #[.int .i64 s.base] 3 (0, 0)) (by simp [remBoxes])) 0)
    · exact (hb.cell (p := ⟨q.bw, 0, none⟩) (l _ (by simp [remBoxes]))).trans (cell_of (hi.mem (b := q.bw) (o := .cells #[.int .i64 s.words] 3 (0, 0)) (by simp [remBoxes])) 0)
    · exact (hb.cell (p := ⟨q.bs, 0, none⟩) (l _ (by simp [remBoxes]))).trans (cell_of (hi.mem (b := q.bs) (o := .cells #[.int .i64 s.size] 3 (0, 0)) (by simp [remBoxes])) 0)
  have hB0 := b0 _ (U0.forget (k := []) (List.nil_sublist _)).below
  have HB := Lib.hid b0
  clear b0
  have m1 : w.heap.size ≠ q.bm := Ne.symm (Nat.ne_of_lt (hi.lt (by simp [remBoxes])))
  have m2 : w.heap.size ≠ q.bf := Ne.symm (Nat.ne_of_lt (hi.lt (by simp [remBoxes])))
  have m3 : w.heap.size ≠ q.bw := Ne.symm (Nat.ne_of_lt (hi.lt (by simp [remBoxes])))
  have m4 : w.heap.size ≠ q.bs := Ne.symm (Nat.ne_of_lt (hi.lt (by simp [remBoxes])))
  simp only [ptr] at *
  go_enter Tryz.func79, Tryz.ntmps79
  go_wp2
  go_region_held3 (fun w' => w'.cell? ⟨q.bm, 0, none⟩ = some (.int .i64 s.most) ∧ w'.cell? ⟨q.bf, 0, none⟩ = some (.int .i64 s.base) ∧ w'.cell? ⟨q.bw, 0, none⟩ = some (.int .i64 s.words) ∧ w'.cell? ⟨q.bs, 0, none⟩ = some (.int .i64 s.size))
    (first | exact hB2 | exact hB1 | exact hB0 | exact keep4 hB2 m1 m2 m3 m4 | go_keep)
    (first | (go_at_call 80; (refine Calls.mono (hbn _) ?_; rintro e w1 ⟨p1, h1, rfl, b1, u1⟩; have U1 := U0.more u1; have hB1 := HB.out _ (U1.forget (k := []) (List.nil_sublist _)).below)) | (go_at_call 81; refine Calls.mono (hcn _) ?_; rintro e w2 ⟨p2, h2, rfl, b2, u2⟩; have U2 := U1.more u2; have hB2 := HB.out _ (U2.forget (k := []) (List.nil_sublist _)).below; have d0 : w2.cell? ⟨w.heap.size, 0, none⟩ = some (.pointer none) := cell_of (U2.inn.mem (b := w.heap.size) (o := .cells #[.pointer none, .pointer none] 129 (0, 0)) (by simp)) 0; have d1 : w2.cell? ⟨w.heap.size, 1, none⟩ = some (.pointer none) := cell_of (U2.inn.mem (b := w.heap.size) (o := .cells #[.pointer none, .pointer none] 129 (0, 0)) (by simp)) 1; have f0 : w2.frozen? ⟨w.heap.size, 0, none⟩ = false := frozen_of (U2.inn.mem (b := w.heap.size) (o := .cells #[.pointer none, .pointer none] 129 (0, 0)) (by simp)) 0; have f1 : w2.frozen? ⟨w.heap.size, 1, none⟩ = false := frozen_of (U2.inn.mem (b := w.heap.size) (o := .cells #[.pointer none, .pointer none] 129 (0, 0)) (by simp)) 1))
  go_wp2
  rw [← List.append_assoc] at U2
  have UF := (U2.store' (l := h2 ++ h1) (r := []) 0 (.pointer (some ⟨p1, 0, none⟩))).store' (l := h2 ++ h1) (r := []) 1 (.pointer (some ⟨p2, 0, none⟩))
  have g := UF.inn.mem (b := w.heap.size) (o := .cells #[.pointer (some ⟨p1, 0, none⟩), .pointer (some ⟨p2, 0, none⟩)] 129 (0, 0)) (by simp)
  have g0 := cell_of g 0
  have g1 := cell_of g 1
  clear d0 d1 f0 f1 g
  refine bodyPost_ret (v := .agg #[.pointer (some ⟨p1, 0, none⟩), .pointer (some ⟨p2, 0, none⟩)]) ?_ rfl ⟨_, _, _, _, rfl, b1, b2, UF.forget (List.sublist_append_left _ _)⟩
  simp only [results, Tryz.results79]
  simp [go_sem, g0, g1]

theorem perm5 {α : Type} (x : α) (a b c d e : List α) : (x :: ((d ++ c) ++ ((b ++ a) ++ e))).Perm ([x :: e, a, b, c, d].flatten) := by
  have h1 : ((d ++ c) ++ ((b ++ a) ++ e)).Perm ((e ++ (a ++ b)) ++ (c ++ d)) :=
    (List.perm_append_comm).trans (((List.perm_append_comm).trans (List.perm_append_comm.append_left e)).append List.perm_append_comm)
  simpa using h1.cons x

set_option maxRecDepth 100000 in
set_option maxHeartbeats 2000000 in
theorem rem_new (b n c m : Int) (w : World) (h1 : 0 < b) (h2 : b ≤ 1048576) (h3 : 0 ≤ n) (h4 : n ≤ 1048576) (h5 : 1 ≤ c) (h6 : c ≤ 1048576) (h7 : 0 ≤ m) (h8 : m ≤ 1048576) :
    Calls Tryz.prog 38 #[.int .i64 b, .int .i64 n, .int .i64 c, .int .i64 m] w fun e w' => ∃ p h', e = .returned (.pointer (some ⟨p, 0, none⟩)) ∧ RemH p ⟨b, n, c, m, ⟨m, []⟩, cardNew b n c, ⟨m, []⟩, cardNew b n c⟩ h' ∧ Upd [] h' w w' := by
  have key : ∀ hn : n = 0 ∨ 0 < n, Calls Tryz.prog 38 #[.int .i64 b, .int .i64 n, .int .i64 c, .int .i64 m] w fun e w' => ∃ p h', e = .returned (.pointer (some ⟨p, 0, none⟩)) ∧ RemH p ⟨b, n, c, m, ⟨m, []⟩, cardNew b n c, ⟨m, []⟩, cardNew b n c⟩ h' ∧ Upd [] h' w w' := by
    intro hn
    have hside := fun W (hi : In W (remBoxes ⟨w.heap.size + 1 + 1 + 1, w.heap.size, w.heap.size + 1, w.heap.size + 1 + 1, 0, 0, 0, 0⟩ ⟨b, n, c, m, ⟨m, []⟩, cardNew b n c, ⟨m, []⟩, cardNew b n c⟩)) =>
      rem_side ⟨w.heap.size + 1 + 1 + 1, w.heap.size, w.heap.size + 1, w.heap.size + 1 + 1, 0, 0, 0, 0⟩ ⟨b, n, c, m, ⟨m, []⟩, cardNew b n c, ⟨m, []⟩, cardNew b n c⟩ W hi ⟨h1, h2, h3, h4, h5, h6, h7, h8⟩
    have U0 := ((((((Upd.alloc (In.nil w) (.cells #[.int .i64 b] 3 (0, 0))).alloc' (.cells #[.int .i64 n] 3 (0, 0))).alloc' (.cells #[.int .i64 c] 3 (0, 0))).alloc' (.cells #[.int .i64 m] 3 (0, 0))).drew').drew')
    simp only [World.size_alloc] at U0
    have hfin : ∀ q w3 x1 x2 x3 x4, q = RemP.mk (w.heap.size + 1 + 1 + 1) w.heap.size (w.heap.size + 1) (w.heap.size + 1 + 1) q.nb q.nc q.tb q.tc → BufH q.nb ⟨m, []⟩ x1 → CardH q.nc (cardNew b n c) x2 → BufH q.tb ⟨m, []⟩ x3 → CardH q.tc (cardNew b n c) x4 →
        Upd [] ((x4 ++ x3) ++ ((x2 ++ x1) ++ (remBoxes q ⟨b, n, c, m, ⟨m, []⟩, cardNew b n c, ⟨m, []⟩, cardNew b n c⟩))) w w3 →
        ∃ h', RemH w3.heap.size ⟨b, n, c, m, ⟨m, []⟩, cardNew b n c, ⟨m, []⟩, cardNew b n c⟩ h' ∧ Upd [] h' w (w3.alloc (remObj q ⟨b, n, c, m, ⟨m, []⟩, cardNew b n c, ⟨m, []⟩, cardNew b n c⟩)) := by
      intro q w3 x1 x2 x3 x4 _ y1 y2 y3 y4 U
      exact ⟨_, ⟨q, x1, x2, x3, x4, rfl, y1, y2, y3, y4, ⟨h1, h2, h3, h4, h5, h6, h7, h8⟩⟩, (U.alloc' _).perm (List.Perm.refl _) (perm5 _ _ _ _ _ _)⟩
    have hbox : ∀ W, In W [(w.heap.size + 1 + 1 + 1, .cells #[.int .i64 m] 3 (0, 0)), (w.heap.size + 1 + 1, .cells #[.int .i64 c] 3 (0, 0)), (w.heap.size + 1, .cells #[.int .i64 n] 3 (0, 0)), (w.heap.size, .cells #[.int .i64 b] 3 (0, 0))] →
        W.cell? ⟨w.heap.size, 0, none⟩ = some (.int .i64 b) ∧ W.cell? ⟨w.heap.size + 1, 0, none⟩ = some (.int .i64 n) :=
      fun W hi => ⟨cell_of (hi.mem (b := w.heap.size) (o := .cells #[.int .i64 b] 3 (0, 0)) (by simp)) 0, cell_of (hi.mem (b := w.heap.size + 1) (o := .cells #[.int .i64 n] 3 (0, 0)) (by simp)) 0⟩
    have HF := Lib.hid hfin
    have HS := Lib.hid hside
    have HB := Lib.hid hbox
    clear hfin hside hbox
    rcases hn with rfl | hn
    · go_enter Tryz.func38, Tryz.ntmps38
      go_wp2
      go_region
      go_wp2
      have hB0 := HB.out _ U0.inn
      go_region_held3 (fun w' => w'.cell? ⟨w.heap.size, 0, none⟩ = some (.int .i64 b) ∧ w'.cell? ⟨w.heap.size + 1, 0, none⟩ = some (.int .i64 0))
        (first | exact hB2 | exact hB1 | exact hB0 | go_keep)
        (first | (go_at_call 79; refine Calls.mono (HS.out _ U0.inn) ?_; rintro e w1 ⟨p1, p2, x1, x2, rfl, y1, y2, u1⟩; have U1 := U0.more u1; have hB1 := HB.out _ U1.inn.right; clear U0 hB0; simp only [ptr]) | (go_at_call 79; refine Calls.mono (HS.out _ U1.inn.right) ?_; rintro e w2 ⟨p3, p4, x3, x4, rfl, y3, y4, u2⟩; have U2 := U1.more u2; have hB2 := HB.out _ U2.inn.right.right; clear U1 hB1; simp only [ptr]))
      go_wp2
      obtain ⟨h', hR, hU⟩ := HF.out ⟨w.heap.size + 1 + 1 + 1, w.heap.size, w.heap.size + 1, w.heap.size + 1 + 1, p1, p2, p3, p4⟩ w2 x1 x2 x3 x4 rfl y1 y2 y3 y4 U2
      go_ret
      exact ⟨_, h', rfl, hR, hU⟩
    · go_enter Tryz.func38, Tryz.ntmps38
      go_wp2
      go_region
      go_wp2
      have hB0 := HB.out _ U0.inn
      go_region_held3 (fun w' => w'.cell? ⟨w.heap.size, 0, none⟩ = some (.int .i64 b) ∧ w'.cell? ⟨w.heap.size + 1, 0, none⟩ = some (.int .i64 n))
        (first | exact hB2 | exact hB1 | exact hB0 | go_keep)
        (first | (go_at_call 79; refine Calls.mono (HS.out _ U0.inn) ?_; rintro e w1 ⟨p1, p2, x1, x2, rfl, y1, y2, u1⟩; have U1 := U0.more u1; have hB1 := HB.out _ U1.inn.right; clear U0 hB0; simp only [ptr]) | (go_at_call 79; refine Calls.mono (HS.out _ U1.inn.right) ?_; rintro e w2 ⟨p3, p4, x3, x4, rfl, y3, y4, u2⟩; have U2 := U1.more u2; have hB2 := HB.out _ U2.inn.right.right; clear U1 hB1; simp only [ptr]))
      go_wp2
      obtain ⟨h', hR, hU⟩ := HF.out ⟨w.heap.size + 1 + 1 + 1, w.heap.size, w.heap.size + 1, w.heap.size + 1 + 1, p1, p2, p3, p4⟩ w2 x1 x2 x3 x4 rfl y1 y2 y3 y4 U2
      go_ret
      exact ⟨_, h', rfl, hR, hU⟩
  exact key (by omega)

def RemS.has (s : RemS) (i : Int) : Bool := decide (s.base ≤ i ∧ i - s.base < s.words)
def RemS.add (s : RemS) (i : Int) : RemS := if s.has i then (if s.nb.full then { s with nc := s.nc.mark i } else { s with nb := s.nb.put i }) else s
def RemS.addOk (s : RemS) (i : Int) : Bool := s.has i && (!s.nb.full || s.nc.has i)

set_option maxRecDepth 100000 in
set_option maxHeartbeats 2000000 in
theorem rem_add (p : Nat) (s : RemS) (i : Int) (w : World) (h : Hp) (hi : In w h) (hr : RemH p s h) (hx : I64 i) :
    Calls Tryz.prog 105 #[.pointer (some ⟨p, 0, none⟩), .int .i64 i] w fun e w' => e = .returned (.bool (s.addOk i)) ∧ ∃ h', RemH p (s.add i) h' ∧ Upd h h' w w' := by
  obtain ⟨q, h1, h2, h3, h4, rfl, y1, y2, y3, y4, hwf⟩ := hr
  have hwf0 := hwf
  obtain ⟨w1, w2, w3, w4, w5, w6, w7, w8⟩ := hwf
  have hb := (hi.part (i := 0) rfl).head
  have e0 : w.cell? ⟨p, 0, none⟩ = some (.int .i64 s.base) := cell_of hb 0
  have e1 : w.cell? ⟨p, 1, none⟩ = some (.int .i64 s.words) := cell_of hb 1
  have e3 : w.cell? ⟨p, 3, none⟩ = some (.pointer (some ⟨q.nb, 0, none⟩)) := cell_of hb 3
  obtain ⟨x1, x2⟩ := hx
  clear hb
  by_cases k1 : s.base ≤ i
  · have g3 : IntKind.i64.wrap (i - s.base) = i - s.base := IntWalk.i64_in _ (by omega)
    have d1 : decide (i < s.base) = false := decide_eq_false (by omega)
    by_cases k2 : i - s.base < s.words
    · have d2 : decide (s.words ≤ i - s.base) = false := decide_eq_false (by omega)
      have hh : s.has i = true := by simp [RemS.has, k1, k2]
      have hput := fun W (hiW : In W h1) => buf_put q.nb s.nb i W h1 hiW y1 ⟨x1, x2⟩
      have hmark := fun W (hiW : In W h2) => card_mark q.nc s.nc i W h2 hiW y2 ⟨x1, x2⟩
      cases hf : s.nb.full
      · have ha : s.add i = { s with nb := s.nb.put i } := by rw [RemS.add, if_pos hh, hf]; rfl
        have ho : s.addOk i = true := by simp [RemS.addOk, hh, hf]
        rw [ha, ho]
        rw [hf] at hput
        clear ha ho hh hf
        go_enter Tryz.func105, Tryz.ntmps105
        go_wp2
        go_quiet (fail)
        have U0 := Upd.drewN hi nq
        go_wp2_with (go_at_call 117; refine Calls.mono (hput _ (U0.inn.part (i := 1) rfl)) ?_; rintro e w9 ⟨rfl, h1', y1', u1⟩; have U1 := U0.then_part (i := 1) rfl u1)
        go_ret
        exact ⟨rfl, _, ⟨q, h1', h2, h3, h4, rfl, y1', y2, y3, y4, hwf0⟩, U1⟩
      · have hbp : s.nb.put i = s.nb := by rw [BufS.put, hf]; rfl
        have ha : s.add i = { s with nc := s.nc.mark i } := by rw [RemS.add, if_pos hh, hf]; rfl
        have ho : s.addOk i = s.nc.has i := by simp [RemS.addOk, hh, hf]
        rw [ha, ho]
        rw [hf, hbp] at hput
        clear ha ho hh hf hbp
        go_enter Tryz.func105, Tryz.ntmps105
        go_wp2
        go_quiet (fail)
        have U0 := Upd.drewN hi nq
        go_wp2_with (first | (go_at_call 117; refine Calls.mono (hput _ (U0.inn.part (i := 1) rfl)) ?_; rintro e w9 ⟨rfl, h1', y1', u1⟩; have U1 := U0.then_part (i := 1) rfl u1; have e4 : w9.cell? ⟨p, 4, none⟩ = some (.pointer (some ⟨q.nc, 0, none⟩)) := cell_of (U1.inn.part (i := 0) rfl).head 4) | (go_at_call 118; refine Calls.mono (hmark _ (U1.inn.part (i := 2) rfl)) ?_; rintro e w10 ⟨rfl, h2', y2', u2⟩; have U2 := U1.then_part (i := 2) rfl u2))
        go_ret
        exact ⟨rfl, _, ⟨q, h1', h2', h3, h4, rfl, y1', y2', y3, y4, hwf0⟩, U2⟩
    · have d2 : decide (s.words ≤ i - s.base) = true := decide_eq_true (by omega)
      have hh : s.has i = false := by simp [RemS.has, k2]
      have ha : s.add i = s := by simp [RemS.add, hh]
      have ho : s.addOk i = false := by simp [RemS.addOk, hh]
      rw [ha, ho]
      clear ha ho hh
      go_enter Tryz.func105, Tryz.ntmps105
      go_wp2
      go_quiet (fail)
      go_wp2
      go_ret
      exact ⟨rfl, _, ⟨q, h1, h2, h3, h4, rfl, y1, y2, y3, y4, hwf0⟩, Upd.drewN hi nq⟩
  · have d1 : decide (i < s.base) = true := decide_eq_true (by omega)
    have hh : s.has i = false := by simp [RemS.has, k1]
    have ha : s.add i = s := by simp [RemS.add, hh]
    have ho : s.addOk i = false := by simp [RemS.addOk, hh]
    rw [ha, ho]
    clear ha ho hh
    go_enter Tryz.func105, Tryz.ntmps105
    go_wp2
    go_quiet (fail)
    go_wp2
    go_ret
    exact ⟨rfl, _, ⟨q, h1, h2, h3, h4, rfl, y1, y2, y3, y4, hwf0⟩, Upd.drewN hi nq⟩

end Go.Proofs.YtjjdjipohifgbaaGreat

/- What New, and Used of an empty space, of package mature come to. Conditions: a space as New makes it. -/
namespace Go.Proofs.YtjjdjipohifgbaaGreat
open Go.RowKit

structure PageS where
  kind : Int
  size : Int
  used : List Bool
  pending : Bool

structure MatS where
  base : Int
  words : Int
  pages : List PageS

abbrev PRow := PageS × Value × Hp
def rowCells (r : PRow) : List Value := [.int .i64 r.1.kind, .int .i64 r.1.size, r.2.1, .bool r.1.pending]
def RowOk (r : PRow) : Prop := SliceH 4 1 r.2.1 r.1.used.length (bools r.1.used) r.2.2 ∧ r.1.used.length ≤ 1048576
def matObj (s : MatS) (b : Nat) : Obj := .cells #[.int .i64 s.base, .int .i64 s.words, .slice (some ⟨b, 0, none⟩) s.pages.length s.pages.length] 125 (0, 0)
def listObj (rows : List PRow) : Obj := .cells (rows.flatMap rowCells).toArray 163 (0, 0)
def MatS.WF (s : MatS) : Prop := 0 ≤ s.base ∧ s.base ≤ 1048576 ∧ 1 ≤ s.words ∧ s.words ≤ 256 ∧ s.pages.length ≤ 64
/-- a space: its block, its list's, and for each page that has cells one -/
def MatureH (p : Nat) (s : MatS) (h : Hp) : Prop :=
  ∃ (b : Nat) (rows : List PRow), h = (p, matObj s b) :: (b, listObj rows) :: (rows.map (·.2.2)).flatten ∧ s.pages = rows.map (·.1) ∧ (∀ r ∈ rows, RowOk r) ∧ s.WF

def pg0 : PageS := ⟨0, 0, [], false⟩
def row0 : PRow := (pg0, .slice none 0 0, [])
theorem row0_ok : RowOk row0 := ⟨SliceH.nil _ _, by decide⟩

theorem Tryz.infoPage : (Tryz.prog.info? 163).map (fun i => (i.zero, i.size, i.bytes)) = some (some (.agg #[.int .i64 0, .int .i64 0, .slice none 0 0, .bool false]), 4, 48) := by kernel_rfl

theorem madeCells_four (a b c d : Value) (n : Nat) : madeCells #[a, b, c, d] (n * 4) = ((List.replicate n [a, b, c, d]).flatten).toArray := by
  apply Array.toList_inj.1
  simp only [madeCells, Array.toList_map, Array.toList_range]
  induction n with
  | zero => rfl
  | succ n ih =>
    have e : (n + 1) * 4 = n * 4 + 1 + 1 + 1 + 1 := by omega
    rw [e]
    simp only [List.range_succ, List.map_append, ih]
    have m0 : n * 4 % 4 = 0 := by omega
    have m1 : (n * 4 + 1) % 4 = 1 := by omega
    have m2 : (n * 4 + 1 + 1) % 4 = 2 := by omega
    have m3 : (n * 4 + 1 + 1 + 1) % 4 = 3 := by omega
    simp [m0, m1, m2, m3, List.replicate_succ']

set_option maxRecDepth 100000 in
set_option maxHeartbeats 1000000 in
theorem mature_new (b : Int) (n : Nat) (k : Int) (w : World) (h1 : 0 < b) (h2 : b ≤ 1048576) (h3 : n ≤ 64) (h4 : 1 < k) (h5 : k ≤ 256) :
    Calls Tryz.prog 37 #[.int .i64 b, .int .i64 n, .int .i64 k] w fun e w' => ∃ p h', e = .returned (.pointer (some ⟨p, 0, none⟩)) ∧ MatureH p ⟨b, k, List.replicate n pg0⟩ h' ∧ Upd [] h' w w' := by
  obtain ⟨i, hi, hz0, hz1, hz2⟩ := info_parts Tryz.infoPage
  have hmk := run_make (P := Tryz.prog) w 123 163 i _ Tryz.underlying123 hi hz0 .i64 .i64 n n (by omega) (by omega) (by rw [hz2]; omega) (by omega)
  rw [hz1, Int.toNat_natCast, Value.cells, madeCells_four] at hmk
  have hcells : (List.replicate n [Value.int .i64 0, .int .i64 0, .slice none 0 0, .bool false]).flatten = (List.replicate n row0).flatMap rowCells := by
    simp [List.flatMap, rowCells, row0, pg0]
  rw [hcells] at hmk
  have hflat : ((List.replicate n row0).map (·.2.2)).flatten = [] := by simp [row0]
  have hU := (Upd.alloc (In.nil w) (listObj (List.replicate n row0))).alloc' (matObj ⟨b, k, List.replicate n pg0⟩ w.heap.size)
  have hH : MatureH (w.heap.size + 1) ⟨b, k, List.replicate n pg0⟩ [(w.heap.size + 1, matObj ⟨b, k, List.replicate n pg0⟩ w.heap.size), (w.heap.size, listObj (List.replicate n row0))] :=
    ⟨w.heap.size, List.replicate n row0, by rw [hflat], by simp [row0], by intro r hr; simp at hr; rw [hr.2]; exact row0_ok, by simp only; omega, h2, by simp only; omega, h5, by simpa using h3⟩
  simp only [listObj, matObj, List.length_replicate] at hU hH
  generalize hR : ((List.replicate n row0).flatMap rowCells).toArray = R at *
  clear hR hcells hflat hi hz0 hz1 hz2
  have h3' : (n : Int) ≤ 64 := by omega
  have key : ∀ hn : n = 0 ∨ 0 < (n : Int), Calls Tryz.prog 37 #[.int .i64 b, .int .i64 n, .int .i64 k] w fun e w' => ∃ p h', e = .returned (.pointer (some ⟨p, 0, none⟩)) ∧ MatureH p ⟨b, k, List.replicate n pg0⟩ h' ∧ Upd [] h' w w' := by
    intro hn
    rcases hn with rfl | hn
    · have HH := Lib.hid hH
      clear hH
      rw [show ((0 : Nat) : Int) = 0 from rfl] at hmk ⊢
      go_enter Tryz.func37, Tryz.ntmps37
      go_wp2
      go_ret
      exact ⟨_, _, rfl, HH.out, by simpa using hU⟩
    · have HH := Lib.hid hH
      clear hH
      go_enter Tryz.func37, Tryz.ntmps37
      go_wp2
      go_ret
      exact ⟨_, _, rfl, HH.out, by simpa using hU⟩
  exact key (by omega)

theorem rows_get : ∀ (rows : List PRow) (n j : Nat), j < 4 → (rows.flatMap rowCells)[n * 4 + j]? = (rows[n]?).bind fun r => (rowCells r)[j]?
  | [], n, j, _ => by simp
  | r :: rows, 0, j, hj => by
    have hl : (rowCells r).length = 4 := rfl
    simp only [List.flatMap_cons, Nat.zero_mul, Nat.zero_add, List.getElem?_cons_zero, Option.bind_some]
    rw [List.getElem?_append_left (by omega)]
  | r :: rows, n + 1, j, hj => by
    have hl : (rowCells r).length = 4 := rfl
    simp only [List.flatMap_cons, List.getElem?_cons_succ]
    rw [List.getElem?_append_right (by omega), hl, show (n + 1) * 4 + j - 4 = n * 4 + j by omega]
    exact rows_get rows n j hj

theorem list_cells {w : World} {b : Nat} {rows : List PRow} {n : Nat} {r : PRow} (h : w.heap[b]? = some (listObj rows)) (hr : rows[n]? = some r) :
    w.cell? ⟨b, n * 4, none⟩ = some (.int .i64 r.1.kind) ∧ w.cell? ⟨b, n * 4 + 1, none⟩ = some (.int .i64 r.1.size) ∧ w.cell? ⟨b, n * 4 + 2, none⟩ = some r.2.1 ∧ w.cell? ⟨b, n * 4 + 3, none⟩ = some (.bool r.1.pending) := by
  have e := fun j (hj : j < 4) => (cell_of h (n * 4 + j)).trans ((by simp [hr] : (rows.flatMap rowCells).toArray[n * 4 + j]? = (rows.flatMap rowCells)[n * 4 + j]?).trans (rows_get rows n j hj))
  simp only [hr, Option.bind_some] at e
  exact ⟨by have := e 0 (by omega); rw [Nat.add_zero] at this; exact this, e 1 (by omega), e 2 (by omega), e 3 (by omega)⟩

/-- all pages are free -/
def MatS.empty (s : MatS) : Prop := ∀ g ∈ s.pages, g.kind = 0 ∧ g.used = []

theorem SliceH.zero {T : TypeId} {size : Nat} {v : Value} {xs : List Value} {h : Hp} (hs : SliceH T size v 0 xs h) : ∃ ao cap, v = .slice ao 0 cap := by
  obtain ⟨ao, cap, rfl, _⟩ := hs.shape
  exact ⟨ao, cap, rfl⟩

set_option maxRecDepth 100000 in
set_option maxHeartbeats 1000000 in
theorem mature_starts0 (p : Nat) (s : MatS) (n : Nat) (w : World) (h : Hp) (hi : In w h) (hm : MatureH p s h) (he : s.empty) (hn : n < s.pages.length) :
    Calls Tryz.prog 102 #[.pointer (some ⟨p, 0, none⟩), .int .i64 n] w fun e w' => e = .returned (.slice none 0 0) ∧ Upd h h w w' := by
  obtain ⟨b, rows, rfl, hp, hr, w1, w2, w3, w4, w5⟩ := hm
  have e2 : w.cell? ⟨p, 2, none⟩ = some (.slice (some ⟨b, 0, none⟩) s.pages.length s.pages.length) := cell_of hi.head 2
  have hlen : rows.length = s.pages.length := by rw [hp]; simp
  obtain ⟨r, hrn⟩ : ∃ r, rows[n]? = some r := ⟨_, List.getElem?_eq_getElem (by omega)⟩
  have hrm : r ∈ rows := List.mem_of_getElem? hrn
  obtain ⟨c0, c1, c2, c3⟩ := list_cells hi.tail.head hrn
  have hz := he r.1 (by rw [hp]; exact List.mem_map_of_mem hrm)
  have hS := (hr r hrm).1
  rw [hz.1] at c0
  rw [hz.2] at hS
  obtain ⟨ao, cap, hv⟩ := hS.zero
  rw [hv] at c2
  have hbl : b < w.heap.size := (Array.getElem?_eq_some_iff.1 hi.tail.head).1
  have hne : b ≠ w.heap.size := Nat.ne_of_lt hbl
  have hU := Upd.skip hi (.cells #[.int .i64 0, .int .i64 r.1.size, .slice ao 0 cap, .bool r.1.pending] 163 (0, 0))
  clear hv hS hz hrm hrn hr hp he
  generalize r.1.size = rs at *
  generalize r.1.pending = rp at *
  go_enter Tryz.func102, Tryz.ntmps102
  go_wp2
  go_loop [6, 26] (fun v i => v = .slice none 0 0 ∧ i = .int .i64 0) (fun _ _ => 0)
  case atStart => exact ⟨rfl, rfl⟩
  case round =>
    obtain ⟨rfl, rfl⟩ := hrel
    go_wp2
    go_ret
    exact ⟨rfl, hU⟩

set_option maxRecDepth 100000 in
set_option maxHeartbeats 1000000 in
theorem mature_used0 (p : Nat) (s : MatS) (w : World) (h : Hp) (hi : In w h) (hm : MatureH p s h) (he : s.empty) :
    Calls Tryz.prog 61 #[.pointer (some ⟨p, 0, none⟩)] w fun e w' => e = .returned (.int .i64 0) ∧ Upd h h w w' := by
  have hst := fun n W (hi : In W h) => mature_starts0 p s n W h hi hm he
  obtain ⟨b, rows, hh, hp, hr, w1, w2, w3, w4, w5⟩ := hm
  have hb : ∃ r, h = (p, matObj s b) :: r := ⟨_, hh⟩
  obtain ⟨t, rfl⟩ := hb
  have e2 : w.cell? ⟨p, 2, none⟩ = some (.slice (some ⟨b, 0, none⟩) s.pages.length s.pages.length) := cell_of hi.head 2
  have U0 := Upd.refl hi
  clear hh hr hp
  have HS := Lib.hid hst
  have HU := Lib.hid U0
  clear hst U0
  go_enter Tryz.func61, Tryz.ntmps61
  go_wp2
  go_loopw [3, 16] (fun v i wr => ∃ k : Nat, k ≤ s.pages.length ∧ i = .int .i64 k ∧ v = .int .i64 0 ∧ Hid (Upd ((p, matObj s b) :: t) ((p, matObj s b) :: t) w wr)) (fun _ i _ => s.pages.length - (intOf i).toNat)
  case atStart => exact ⟨0, by omega, rfl, rfl, HU⟩
  case round =>
    obtain ⟨k, hk, rfl, rfl, HW⟩ := hrel
    by_cases hlt : k < s.pages.length
    · go_wp2_with (go_at_call 102; refine Calls.mono (HS.out k _ HW.out.inn hlt) ?_; rintro e w9 ⟨rfl, u9⟩; have U9 := Lib.hid (HW.out.trans u9))
      go_loop [3, 23] (fun v i => v = .int .i64 0 ∧ i = .int .i64 0) (fun _ _ => 0)
      case atStart => exact ⟨rfl, rfl⟩
      case round =>
        obtain ⟨rfl, rfl⟩ := hrel
        go_wp2
        go_roundw
        case rel => exact ⟨k + 1, by omega, by go_num, rfl, U9⟩
        case measure => simp [intOf]; omega
    · go_wp2
      go_ret
      exact ⟨rfl, HW.out⟩

end Go.Proofs.YtjjdjipohifgbaaGreat

/- A core in memory: its own block and its parts'. No condition. -/
namespace Go.Proofs.YtjjdjipohifgbaaGreat
open Go.RowKit

/-- what a heap has done -/
structure StatS where
  allocs : Int
  words : Int
  promoted : Int
  minors : Int
  majors : Int
  young : Int
  old : Int
  free : Int

structure CoreS where
  C : Cfg
  ws : List Int
  y : YoungS
  o : MatS
  r : RemS
  g : GreyS
  t : List Int
  parity : Int
  phase : Int
  moving : Bool
  scan : Int
  copied : Int
  look : Int
  row : List Int
  done : StatS

/-- where its parts lie -/
structure CoreL where
  pa : Nat
  py : Nat
  po : Nat
  pr : Nat
  pg : Nat
  pt : Nat

def coreCells (L : CoreL) (s : CoreS) (v : Value) : Array Value := #[.int .i64 s.C.handles, .int .i64 s.C.nursery, .int .i64 s.C.pages, .int .i64 s.C.page, .int .i64 s.C.card, .int .i64 s.C.buffer, .int .i64 s.C.stack, .int .i64 s.C.tenure, .int .i64 s.C.largest, .int .i64 s.C.minor, .int .i64 s.C.major, .int .i64 s.C.minorAt, .int .i64 s.C.majorAt, ptr L.pa, ptr L.py, ptr L.po, ptr L.pr, ptr L.pg, ptr L.pt, .int .i64 s.parity, .int .i64 s.phase, .bool s.moving, .int .i64 s.scan, .int .i64 s.copied, .int .i64 s.look, v, .int .i64 s.done.allocs, .int .i64 s.done.words, .int .i64 s.done.promoted, .int .i64 s.done.minors, .int .i64 s.done.majors, .int .i64 s.done.young, .int .i64 s.done.old, .int .i64 s.done.free]
def coreObj (L : CoreL) (s : CoreS) (v : Value) : Obj := .cells (coreCells L s v) 46 (0, 0)

abbrev coreParts (pc : Nat) (o : Obj) (ha hy ho hr hg ht hw : Hp) : List Hp := [[(pc, o)], ha, hy, ho, hr, hg, ht, hw]

def CoreH (pc : Nat) (L : CoreL) (s : CoreS) (h : Hp) : Prop :=
  ∃ v ha hy ho hr hg ht hw, h = (coreParts pc (coreObj L s v) ha hy ho hr hg ht hw).flatten ∧ ArenaH L.pa s.ws ha ∧ YoungH L.py s.y hy ∧ MatureH L.po s.o ho ∧ RemH L.pr s.r hr ∧ GreyH L.pg s.g hg ∧ TableH L.pt s.t ht ∧ SliceH 3 1 v s.row.length (ints s.row) hw

section
variable {w0 w w' : World} {h0 x : Hp} {pc : Nat} {o : Obj} {ha hy ho hr hg ht hw k : Hp}
theorem In.arena (hi : In w (x ++ (coreParts pc o ha hy ho hr hg ht hw).flatten)) : In w ha := hi.right.part (l := coreParts pc o ha hy ho hr hg ht hw) (i := 1) rfl
theorem Upd.arena (a : Upd h0 (x ++ (coreParts pc o ha hy ho hr hg ht hw).flatten) w0 w) (u : Upd ha k w w') : Upd h0 (x ++ (coreParts pc o k hy ho hr hg ht hw).flatten) w0 w' :=
  Upd.then_part (l := x :: coreParts pc o ha hy ho hr hg ht hw) (i := 2) a rfl u
theorem In.young (hi : In w (x ++ (coreParts pc o ha hy ho hr hg ht hw).flatten)) : In w hy := hi.right.part (l := coreParts pc o ha hy ho hr hg ht hw) (i := 2) rfl
theorem Upd.young (a : Upd h0 (x ++ (coreParts pc o ha hy ho hr hg ht hw).flatten) w0 w) (u : Upd hy k w w') : Upd h0 (x ++ (coreParts pc o ha k ho hr hg ht hw).flatten) w0 w' :=
  Upd.then_part (l := x :: coreParts pc o ha hy ho hr hg ht hw) (i := 3) a rfl u
theorem In.old (hi : In w (x ++ (coreParts pc o ha hy ho hr hg ht hw).flatten)) : In w ho := hi.right.part (l := coreParts pc o ha hy ho hr hg ht hw) (i := 3) rfl
theorem Upd.old (a : Upd h0 (x ++ (coreParts pc o ha hy ho hr hg ht hw).flatten) w0 w) (u : Upd ho k w w') : Upd h0 (x ++ (coreParts pc o ha hy k hr hg ht hw).flatten) w0 w' :=
  Upd.then_part (l := x :: coreParts pc o ha hy ho hr hg ht hw) (i := 4) a rfl u
theorem In.rem (hi : In w (x ++ (coreParts pc o ha hy ho hr hg ht hw).flatten)) : In w hr := hi.right.part (l := coreParts pc o ha hy ho hr hg ht hw) (i := 4) rfl
theorem Upd.rem (a : Upd h0 (x ++ (coreParts pc o ha hy ho hr hg ht hw).flatten) w0 w) (u : Upd hr k w w') : Upd h0 (x ++ (coreParts pc o ha hy ho k hg ht hw).flatten) w0 w' :=
  Upd.then_part (l := x :: coreParts pc o ha hy ho hr hg ht hw) (i := 5) a rfl u
theorem In.grey (hi : In w (x ++ (coreParts pc o ha hy ho hr hg ht hw).flatten)) : In w hg := hi.right.part (l := coreParts pc o ha hy ho hr hg ht hw) (i := 5) rfl
theorem Upd.grey (a : Upd h0 (x ++ (coreParts pc o ha hy ho hr hg ht hw).flatten) w0 w) (u : Upd hg k w w') : Upd h0 (x ++ (coreParts pc o ha hy ho hr k ht hw).flatten) w0 w' :=
  Upd.then_part (l := x :: coreParts pc o ha hy ho hr hg ht hw) (i := 6) a rfl u
theorem In.table (hi : In w (x ++ (coreParts pc o ha hy ho hr hg ht hw).flatten)) : In w ht := hi.right.part (l := coreParts pc o ha hy ho hr hg ht hw) (i := 6) rfl
theorem Upd.table (a : Upd h0 (x ++ (coreParts pc o ha hy ho hr hg ht hw).flatten) w0 w) (u : Upd ht k w w') : Upd h0 (x ++ (coreParts pc o ha hy ho hr hg k hw).flatten) w0 w' :=
  Upd.then_part (l := x :: coreParts pc o ha hy ho hr hg ht hw) (i := 7) a rfl u
theorem In.rows (hi : In w (x ++ (coreParts pc o ha hy ho hr hg ht hw).flatten)) : In w hw := hi.right.part (l := coreParts pc o ha hy ho hr hg ht hw) (i := 7) rfl
theorem Upd.rows (a : Upd h0 (x ++ (coreParts pc o ha hy ho hr hg ht hw).flatten) w0 w) (u : Upd hw k w w') : Upd h0 (x ++ (coreParts pc o ha hy ho hr hg ht k).flatten) w0 w' :=
  Upd.then_part (l := x :: coreParts pc o ha hy ho hr hg ht hw) (i := 8) a rfl u
theorem In.core (hi : In w (x ++ (coreParts pc o ha hy ho hr hg ht hw).flatten)) : w.heap[pc]? = some o := (hi.right.part (l := coreParts pc o ha hy ho hr hg ht hw) (i := 0) rfl).head
theorem Upd.core {arr : Array Value} {T : TypeId} {fr : Nat × Nat} (a : Upd h0 (x ++ (coreParts pc (.cells arr T fr) ha hy ho hr hg ht hw).flatten) w0 w) (off : Nat) (v : Value) :
    Upd h0 (x ++ (coreParts pc (.cells (arr.setIfInBounds off v) T fr) ha hy ho hr hg ht hw).flatten) w0 (w.setCell ⟨pc, off, none⟩ v) :=
  Upd.then_part (l := x :: coreParts pc (.cells arr T fr) ha hy ho hr hg ht hw) (i := 1) a rfl (Upd.store (l := []) (r := []) ((a.inn.part (l := x :: coreParts pc (.cells arr T fr) ha hy ho hr hg ht hw) (i := 1) rfl)))
theorem Upd.box (a : Upd h0 (x ++ (coreParts pc o ha hy ho hr hg ht hw).flatten) w0 w) (b : Obj) : Upd h0 (((w.heap.size, b) :: x) ++ (coreParts pc o ha hy ho hr hg ht hw).flatten) w0 (w.alloc b) := a.alloc' b
theorem Upd.unbox (a : Upd h0 (x ++ (coreParts pc o ha hy ho hr hg ht hw).flatten) w0 w) : Upd h0 ((coreParts pc o ha hy ho hr hg ht hw).flatten) w0 w := a.forget (List.sublist_append_right _ _)
end
section
variable {w : World} {pc : Nat} {L : CoreL} {s : CoreS} {v : Value}
theorem core_cfg (h : w.heap[pc]? = some (coreObj L s v)) :
    w.cell? ⟨pc, 0, none⟩ = some (.int .i64 s.C.handles) ∧ w.cell? ⟨pc, 1, none⟩ = some (.int .i64 s.C.nursery) ∧ w.cell? ⟨pc, 2, none⟩ = some (.int .i64 s.C.pages) ∧ w.cell? ⟨pc, 3, none⟩ = some (.int .i64 s.C.page) ∧ w.cell? ⟨pc, 4, none⟩ = some (.int .i64 s.C.card) ∧ w.cell? ⟨pc, 5, none⟩ = some (.int .i64 s.C.buffer) ∧ w.cell? ⟨pc, 6, none⟩ = some (.int .i64 s.C.stack) ∧ w.cell? ⟨pc, 7, none⟩ = some (.int .i64 s.C.tenure) ∧ w.cell? ⟨pc, 8, none⟩ = some (.int .i64 s.C.largest) ∧ w.cell? ⟨pc, 9, none⟩ = some (.int .i64 s.C.minor) ∧ w.cell? ⟨pc, 10, none⟩ = some (.int .i64 s.C.major) ∧ w.cell? ⟨pc, 11, none⟩ = some (.int .i64 s.C.minorAt) ∧ w.cell? ⟨pc, 12, none⟩ = some (.int .i64 s.C.majorAt) :=
  ⟨cell_of h 0, cell_of h 1, cell_of h 2, cell_of h 3, cell_of h 4, cell_of h 5, cell_of h 6, cell_of h 7, cell_of h 8, cell_of h 9, cell_of h 10, cell_of h 11, cell_of h 12⟩
theorem core_ptrs (h : w.heap[pc]? = some (coreObj L s v)) :
    w.cell? ⟨pc, 13, none⟩ = some (ptr L.pa) ∧ w.cell? ⟨pc, 14, none⟩ = some (ptr L.py) ∧ w.cell? ⟨pc, 15, none⟩ = some (ptr L.po) ∧ w.cell? ⟨pc, 16, none⟩ = some (ptr L.pr) ∧ w.cell? ⟨pc, 17, none⟩ = some (ptr L.pg) ∧ w.cell? ⟨pc, 18, none⟩ = some (ptr L.pt) :=
  ⟨cell_of h 13, cell_of h 14, cell_of h 15, cell_of h 16, cell_of h 17, cell_of h 18⟩
theorem core_vars (h : w.heap[pc]? = some (coreObj L s v)) :
    w.cell? ⟨pc, 19, none⟩ = some (.int .i64 s.parity) ∧ w.cell? ⟨pc, 20, none⟩ = some (.int .i64 s.phase) ∧ w.cell? ⟨pc, 21, none⟩ = some (.bool s.moving) ∧ w.cell? ⟨pc, 22, none⟩ = some (.int .i64 s.scan) ∧ w.cell? ⟨pc, 23, none⟩ = some (.int .i64 s.copied) ∧ w.cell? ⟨pc, 24, none⟩ = some (.int .i64 s.look) :=
  ⟨cell_of h 19, cell_of h 20, cell_of h 21, cell_of h 22, cell_of h 23, cell_of h 24⟩
theorem core_stats (h : w.heap[pc]? = some (coreObj L s v)) :
    w.cell? ⟨pc, 26, none⟩ = some (.int .i64 s.done.allocs) ∧ w.cell? ⟨pc, 27, none⟩ = some (.int .i64 s.done.words) ∧ w.cell? ⟨pc, 28, none⟩ = some (.int .i64 s.done.promoted) ∧ w.cell? ⟨pc, 29, none⟩ = some (.int .i64 s.done.minors) ∧ w.cell? ⟨pc, 30, none⟩ = some (.int .i64 s.done.majors) ∧ w.cell? ⟨pc, 31, none⟩ = some (.int .i64 s.done.young) ∧ w.cell? ⟨pc, 32, none⟩ = some (.int .i64 s.done.old) ∧ w.cell? ⟨pc, 33, none⟩ = some (.int .i64 s.done.free) :=
  ⟨cell_of h 26, cell_of h 27, cell_of h 28, cell_of h 29, cell_of h 30, cell_of h 31, cell_of h 32, cell_of h 33⟩
theorem Upd.cset_parity {w0 w : World} {h0 x : Hp} {ha hy ho hr hg ht hw : Hp} (a : Upd h0 (x ++ (coreParts pc (coreObj L s v) ha hy ho hr hg ht hw).flatten) w0 w) (u : Int) :
    Upd h0 (x ++ (coreParts pc (coreObj L { s with parity := u } v) ha hy ho hr hg ht hw).flatten) w0 (w.setCell ⟨pc, 19, none⟩ (.int .i64 u)) := a.core 19 _
theorem Upd.cset_phase {w0 w : World} {h0 x : Hp} {ha hy ho hr hg ht hw : Hp} (a : Upd h0 (x ++ (coreParts pc (coreObj L s v) ha hy ho hr hg ht hw).flatten) w0 w) (u : Int) :
    Upd h0 (x ++ (coreParts pc (coreObj L { s with phase := u } v) ha hy ho hr hg ht hw).flatten) w0 (w.setCell ⟨pc, 20, none⟩ (.int .i64 u)) := a.core 20 _
theorem Upd.cset_moving {w0 w : World} {h0 x : Hp} {ha hy ho hr hg ht hw : Hp} (a : Upd h0 (x ++ (coreParts pc (coreObj L s v) ha hy ho hr hg ht hw).flatten) w0 w) (u : Bool) :
    Upd h0 (x ++ (coreParts pc (coreObj L { s with moving := u } v) ha hy ho hr hg ht hw).flatten) w0 (w.setCell ⟨pc, 21, none⟩ (.bool u)) := a.core 21 _
theorem Upd.cset_scan {w0 w : World} {h0 x : Hp} {ha hy ho hr hg ht hw : Hp} (a : Upd h0 (x ++ (coreParts pc (coreObj L s v) ha hy ho hr hg ht hw).flatten) w0 w) (u : Int) :
    Upd h0 (x ++ (coreParts pc (coreObj L { s with scan := u } v) ha hy ho hr hg ht hw).flatten) w0 (w.setCell ⟨pc, 22, none⟩ (.int .i64 u)) := a.core 22 _
theorem Upd.cset_copied {w0 w : World} {h0 x : Hp} {ha hy ho hr hg ht hw : Hp} (a : Upd h0 (x ++ (coreParts pc (coreObj L s v) ha hy ho hr hg ht hw).flatten) w0 w) (u : Int) :
    Upd h0 (x ++ (coreParts pc (coreObj L { s with copied := u } v) ha hy ho hr hg ht hw).flatten) w0 (w.setCell ⟨pc, 23, none⟩ (.int .i64 u)) := a.core 23 _
theorem Upd.cset_look {w0 w : World} {h0 x : Hp} {ha hy ho hr hg ht hw : Hp} (a : Upd h0 (x ++ (coreParts pc (coreObj L s v) ha hy ho hr hg ht hw).flatten) w0 w) (u : Int) :
    Upd h0 (x ++ (coreParts pc (coreObj L { s with look := u } v) ha hy ho hr hg ht hw).flatten) w0 (w.setCell ⟨pc, 24, none⟩ (.int .i64 u)) := a.core 24 _
theorem Upd.cset_allocs {w0 w : World} {h0 x : Hp} {ha hy ho hr hg ht hw : Hp} (a : Upd h0 (x ++ (coreParts pc (coreObj L s v) ha hy ho hr hg ht hw).flatten) w0 w) (u : Int) :
    Upd h0 (x ++ (coreParts pc (coreObj L { s with done := { s.done with allocs := u } } v) ha hy ho hr hg ht hw).flatten) w0 (w.setCell ⟨pc, 26, none⟩ (.int .i64 u)) := a.core 26 _
theorem Upd.cset_words {w0 w : World} {h0 x : Hp} {ha hy ho hr hg ht hw : Hp} (a : Upd h0 (x ++ (coreParts pc (coreObj L s v) ha hy ho hr hg ht hw).flatten) w0 w) (u : Int) :
    Upd h0 (x ++ (coreParts pc (coreObj L { s with done := { s.done with words := u } } v) ha hy ho hr hg ht hw).flatten) w0 (w.setCell ⟨pc, 27, none⟩ (.int .i64 u)) := a.core 27 _
theorem Upd.cset_promoted {w0 w : World} {h0 x : Hp} {ha hy ho hr hg ht hw : Hp} (a : Upd h0 (x ++ (coreParts pc (coreObj L s v) ha hy ho hr hg ht hw).flatten) w0 w) (u : Int) :
    Upd h0 (x ++ (coreParts pc (coreObj L { s with done := { s.done with promoted := u } } v) ha hy ho hr hg ht hw).flatten) w0 (w.setCell ⟨pc, 28, none⟩ (.int .i64 u)) := a.core 28 _
theorem Upd.cset_minors {w0 w : World} {h0 x : Hp} {ha hy ho hr hg ht hw : Hp} (a : Upd h0 (x ++ (coreParts pc (coreObj L s v) ha hy ho hr hg ht hw).flatten) w0 w) (u : Int) :
    Upd h0 (x ++ (coreParts pc (coreObj L { s with done := { s.done with minors := u } } v) ha hy ho hr hg ht hw).flatten) w0 (w.setCell ⟨pc, 29, none⟩ (.int .i64 u)) := a.core 29 _
theorem Upd.cset_majors {w0 w : World} {h0 x : Hp} {ha hy ho hr hg ht hw : Hp} (a : Upd h0 (x ++ (coreParts pc (coreObj L s v) ha hy ho hr hg ht hw).flatten) w0 w) (u : Int) :
    Upd h0 (x ++ (coreParts pc (coreObj L { s with done := { s.done with majors := u } } v) ha hy ho hr hg ht hw).flatten) w0 (w.setCell ⟨pc, 30, none⟩ (.int .i64 u)) := a.core 30 _
theorem Upd.cset_young {w0 w : World} {h0 x : Hp} {ha hy ho hr hg ht hw : Hp} (a : Upd h0 (x ++ (coreParts pc (coreObj L s v) ha hy ho hr hg ht hw).flatten) w0 w) (u : Int) :
    Upd h0 (x ++ (coreParts pc (coreObj L { s with done := { s.done with young := u } } v) ha hy ho hr hg ht hw).flatten) w0 (w.setCell ⟨pc, 31, none⟩ (.int .i64 u)) := a.core 31 _
theorem Upd.cset_old {w0 w : World} {h0 x : Hp} {ha hy ho hr hg ht hw : Hp} (a : Upd h0 (x ++ (coreParts pc (coreObj L s v) ha hy ho hr hg ht hw).flatten) w0 w) (u : Int) :
    Upd h0 (x ++ (coreParts pc (coreObj L { s with done := { s.done with old := u } } v) ha hy ho hr hg ht hw).flatten) w0 (w.setCell ⟨pc, 32, none⟩ (.int .i64 u)) := a.core 32 _
theorem Upd.cset_free {w0 w : World} {h0 x : Hp} {ha hy ho hr hg ht hw : Hp} (a : Upd h0 (x ++ (coreParts pc (coreObj L s v) ha hy ho hr hg ht hw).flatten) w0 w) (u : Int) :
    Upd h0 (x ++ (coreParts pc (coreObj L { s with done := { s.done with free := u } } v) ha hy ho hr hg ht hw).flatten) w0 (w.setCell ⟨pc, 33, none⟩ (.int .i64 u)) := a.core 33 _
theorem core_cell (h : w.heap[pc]? = some (coreObj L s v)) (i : Nat) : w.cell? ⟨pc, i, none⟩ = (coreCells L s v)[i]? := cell_of h i
theorem core_frozen (h : w.heap[pc]? = some (coreObj L s v)) (i : Nat) : w.frozen? ⟨pc, i, none⟩ = false := frozen_of h i
end

end Go.Proofs.YtjjdjipohifgbaaGreat
