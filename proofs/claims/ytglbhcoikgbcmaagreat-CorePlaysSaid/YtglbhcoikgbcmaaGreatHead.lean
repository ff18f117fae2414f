/- What each call of package head comes to. No condition. -/
import Derived.Test.YtglbhcoikgbcmaaGreatRows
import Derived.Test.YtglbhcoikgbcmaaGreatLib
set_option linter.unusedVariables false
set_option linter.unusedSimpArgs false
namespace Go.Proofs.YtglbhcoikgbcmaaGreat
open Go.RowKit

/-- an object's first word -/
structure Hd where
  size : Int
  ptrs : Int
  age : Int
  parity : Int
  grey : Bool
  noted : Bool
  old : Bool
deriving DecidableEq

def hdCells (h : Hd) : Array Value := #[.int .i64 h.size, .int .i64 h.ptrs, .int .i64 h.age, .int .i64 h.parity, .bool h.grey, .bool h.noted, .bool h.old]

def Hd.Good (h : Hd) : Prop := 0 ≤ h.size ∧ h.size ≤ 64 ∧ 0 ≤ h.ptrs ∧ h.ptrs ≤ h.size ∧ 0 ≤ h.age ∧ h.age ≤ 7 ∧ (h.parity = 0 ∨ h.parity = 1)
instance (h : Hd) : Decidable h.Good := by unfold Hd.Good; infer_instance
def Hd.good (h : Hd) : Bool := decide h.Good
theorem Hd.good_false {h : Hd} (hn : ¬ h.Good) : h.good = false := by simp [Hd.good, hn]
theorem Hd.good_true {h : Hd} (hn : h.Good) : h.good = true := by simp [Hd.good, hn]
def flag (b : Bool) (n : Int) : Int := if b then n else 0
/-- a head's word -/
def Hd.enc (h : Hd) : Int := h.size + h.ptrs * 65536 + h.age * 4294967296 + h.parity * 1099511627776 + flag h.grey 2199023255552 + flag h.noted 4398046511104 + flag h.old 8796093022208 + 17592186044416

set_option maxRecDepth 100000 in
set_option maxHeartbeats 2000000 in
theorem head_good (h : Hd) (w : World) :
    Calls Tryz.prog 61 #[.agg (hdCells h)] w fun e w' => e = .returned (.bool h.good) ∧ Upd [] [] w w' := by
  have hU := Upd.skip (In.nil w) (.cells (hdCells h) 112 (0, 0))
  simp only [hdCells] at *
  go_enter Tryz.func61, Tryz.ntmps61
  go_wp2
  all_goals
    go_ret
    refine ⟨?_, Upd.skip (In.nil w) _⟩
    first
      | exact congrArg (fun b => Ending.returned (.bool b)) (Hd.good_false (by unfold Hd.Good; omega)).symm
      | exact congrArg (fun b => Ending.returned (.bool b)) (Hd.good_true (by unfold Hd.Good; omega)).symm
      | (have hg : h.good = (h.parity == 0 || h.parity == 1) := by
           by_cases hp : h.parity = 0 ∨ h.parity = 1
           · rw [Hd.good_true (by unfold Hd.Good; omega)]
             simpa using hp
           · rw [Hd.good_false (by unfold Hd.Good; omega)]
             symm
             simpa using hp
         exact congrArg (fun b => Ending.returned (.bool b)) hg.symm)

set_option maxRecDepth 100000 in
set_option maxHeartbeats 400000 in
theorem head_bit41 (b : Bool) (w : World) :
    Calls Tryz.prog 89 #[.bool b, .int .i64 41] w fun e w' => e = .returned (.int .u64 (flag b 2199023255552)) ∧ w' = w := by
  cases b
  all_goals
    go_enter Tryz.func89, Tryz.ntmps89
    go_wp2
    go_ret
    exact ⟨rfl, rfl⟩

set_option maxRecDepth 100000 in
set_option maxHeartbeats 400000 in
theorem head_bit42 (b : Bool) (w : World) :
    Calls Tryz.prog 89 #[.bool b, .int .i64 42] w fun e w' => e = .returned (.int .u64 (flag b 4398046511104)) ∧ w' = w := by
  cases b
  all_goals
    go_enter Tryz.func89, Tryz.ntmps89
    go_wp2
    go_ret
    exact ⟨rfl, rfl⟩

set_option maxRecDepth 100000 in
set_option maxHeartbeats 400000 in
theorem head_bit43 (b : Bool) (w : World) :
    Calls Tryz.prog 89 #[.bool b, .int .i64 43] w fun e w' => e = .returned (.int .u64 (flag b 8796093022208)) ∧ w' = w := by
  cases b
  all_goals
    go_enter Tryz.func89, Tryz.ntmps89
    go_wp2
    go_ret
    exact ⟨rfl, rfl⟩


theorem or_u64 (k M : Nat) (hM : M = 2 ^ k) (a b : Int) (h0 : 0 ≤ a) (h1 : a < M) (h2 : 0 ≤ b) (h3 : b % M = 0) (h4 : b < 18446744073709551616) (h5 : a < 18446744073709551616) :
    bits .or .u64 a b = a + b := by
  obtain ⟨x, rfl⟩ := Int.eq_ofNat_of_zero_le h0
  obtain ⟨y, rfl⟩ := Int.eq_ofNat_of_zero_le h2
  subst hM
  rw [bits_or_u64_nat x y (by omega) (by omega)]
  have hx : x < 2 ^ k := by omega
  have hy : y % 2 ^ k = 0 := by omega
  have hq : y = 2 ^ k * (y / 2 ^ k) := by have := Nat.div_add_mod y (2 ^ k); omega
  have := Nat.two_pow_add_eq_or_of_lt hx (y / 2 ^ k)
  rw [← hq] at this
  rw [Nat.or_comm, ← this]
  omega

theorem and_u64 (k M : Nat) (hM : M = 2 ^ k) (a : Int) (m : Int) (hm : m = M - 1) (h0 : 0 ≤ a) (h1 : a < 18446744073709551616) (h2 : M < 18446744073709551616) : bits .and .u64 a m = a % M := by
  obtain ⟨x, rfl⟩ := Int.eq_ofNat_of_zero_le h0
  have hp : 0 < 2 ^ k := Nat.two_pow_pos k
  have hm' : m = ((M - 1 : Nat) : Int) := by subst hM; omega
  rw [hm', bits_and_u64_nat x (M - 1) (by omega) (by omega), hM, Nat.and_two_pow_sub_one_eq_mod]
  omega

def bitv (n : Int) : Int := if n = 41 then 2199023255552 else if n = 42 then 4398046511104 else 8796093022208
theorem head_bit (b : Bool) (n : Int) (w : World) (hn : n = 41 ∨ n = 42 ∨ n = 43) :
    Calls Tryz.prog 89 #[.bool b, .int .i64 n] w fun e w' => e = .returned (.int .u64 (flag b (bitv n))) ∧ w' = w := by
  rcases hn with rfl | rfl | rfl
  · exact head_bit41 b w
  · exact head_bit42 b w
  · exact head_bit43 b w

theorem hd_cells {w : World} {b : Nat} {x : Hd} {T : TypeId} (h : w.heap[b]? = some (.cells (hdCells x) T (0, 0))) :
    w.cell? ⟨b, 0, none⟩ = some (.int .i64 x.size) ∧ w.cell? ⟨b, 1, none⟩ = some (.int .i64 x.ptrs) ∧ w.cell? ⟨b, 2, none⟩ = some (.int .i64 x.age) ∧ w.cell? ⟨b, 3, none⟩ = some (.int .i64 x.parity) ∧ w.cell? ⟨b, 4, none⟩ = some (.bool x.grey) ∧ w.cell? ⟨b, 5, none⟩ = some (.bool x.noted) ∧ w.cell? ⟨b, 6, none⟩ = some (.bool x.old) :=
  ⟨cell_of h 0, cell_of h 1, cell_of h 2, cell_of h 3, cell_of h 4, cell_of h 5, cell_of h 6⟩
theorem hd_frozen {w : World} {b : Nat} {x : Hd} {T : TypeId} (h : w.heap[b]? = some (.cells (hdCells x) T (0, 0))) :
    w.frozen? ⟨b, 0, none⟩ = false ∧ w.frozen? ⟨b, 1, none⟩ = false ∧ w.frozen? ⟨b, 2, none⟩ = false ∧ w.frozen? ⟨b, 3, none⟩ = false ∧ w.frozen? ⟨b, 4, none⟩ = false ∧ w.frozen? ⟨b, 5, none⟩ = false ∧ w.frozen? ⟨b, 6, none⟩ = false :=
  ⟨frozen_of h 0, frozen_of h 1, frozen_of h 2, frozen_of h 3, frozen_of h 4, frozen_of h 5, frozen_of h 6⟩
def Hd.encE (h : Hd) : Int := if h.good then h.enc else 0

set_option maxRecDepth 100000 in
set_option maxHeartbeats 2000000 in
theorem head_pack (h : Hd) (w : World) :
    Calls Tryz.prog 81 #[.agg (hdCells h)] w fun e w' => e = .returned (.tuple #[.int .u64 h.encE, .bool h.good]) ∧ Upd [] [] w w' := by
  have hgood := head_good h
  by_cases hg : h.good = true
  · have hg' : h.Good := by simpa [Hd.good] using hg
    have he : h.encE = h.enc := by simp [Hd.encE, hg]
    rw [he, hg]
    rw [hg] at hgood
    obtain ⟨h1, h2, h3, h4, h5, h6, h7⟩ := hg'
    have h8 : 0 ≤ h.parity := by omega
    have h9 : h.parity ≤ 1 := by omega
    have h10 : h.ptrs ≤ 64 := by omega
    clear hg he h7
    simp only [hdCells] at *
    go_enter Tryz.func81, Tryz.ntmps81
    go_wp2_with (go_at_call 61; refine Calls.mono (hgood _) ?_; rintro e w1 ⟨rfl, u1⟩; obtain ⟨c0, c1, c2, c3, c4, c5, c6⟩ := hd_cells (x := h) (Upd.keep0 u1 heap_alloc_new))
    refine wp_still (by kernel_rfl) (by kernel_rfl) fun w2 hw2 => ?_
    subst hw2
    repeat (first | still_step | still_call (head_bit _ _ _ (by decide)))
    refine wpStill_nil ?_
    go_wp2
    go_ret2
    refine ⟨?_, ((Upd.skip (In.nil w) _).trans u1).drew'⟩
    have f1 : flag h.grey (bitv 41) = 0 ∨ flag h.grey (bitv 41) = 2199023255552 := by cases h.grey; exact .inl rfl; exact .inr rfl
    have f2 : flag h.noted (bitv 42) = 0 ∨ flag h.noted (bitv 42) = 4398046511104 := by cases h.noted; exact .inl rfl; exact .inr rfl
    have f3 : flag h.old (bitv 43) = 0 ∨ flag h.old (bitv 43) = 8796093022208 := by cases h.old; exact .inl rfl; exact .inr rfl
    have e1 := or_u64 16 65536 (by decide) h.size (h.ptrs * 65536) (by omega) (by omega) (by omega) (by omega) (by omega) (by omega)
    have e2 := or_u64 32 4294967296 (by decide) (h.size + h.ptrs * 65536) (h.age * 4294967296) (by omega) (by omega) (by omega) (by omega) (by omega) (by omega)
    have e3 := or_u64 40 1099511627776 (by decide) (h.size + h.ptrs * 65536 + h.age * 4294967296) (h.parity * 1099511627776) (by omega) (by omega) (by omega) (by omega) (by omega) (by omega)
    have e4 := or_u64 41 2199023255552 (by decide) (h.size + h.ptrs * 65536 + h.age * 4294967296 + h.parity * 1099511627776) (flag h.grey (bitv 41)) (by omega) (by omega) (by omega) (by omega) (by omega) (by omega)
    have e5 := or_u64 42 4398046511104 (by decide) (h.size + h.ptrs * 65536 + h.age * 4294967296 + h.parity * 1099511627776 + flag h.grey (bitv 41)) (flag h.noted (bitv 42)) (by omega) (by omega) (by omega) (by omega) (by omega) (by omega)
    have e6 := or_u64 43 8796093022208 (by decide) (h.size + h.ptrs * 65536 + h.age * 4294967296 + h.parity * 1099511627776 + flag h.grey (bitv 41) + flag h.noted (bitv 42)) (flag h.old (bitv 43)) (by omega) (by omega) (by omega) (by omega) (by omega) (by omega)
    have e7 := or_u64 44 17592186044416 (by decide) (h.size + h.ptrs * 65536 + h.age * 4294967296 + h.parity * 1099511627776 + flag h.grey (bitv 41) + flag h.noted (bitv 42) + flag h.old (bitv 43)) 17592186044416 (by omega) (by omega) (by omega) (by omega) (by omega) (by omega)
    have e : bits BinOp.or IntKind.u64 (bits BinOp.or IntKind.u64 (bits BinOp.or IntKind.u64 (bits BinOp.or IntKind.u64 (bits BinOp.or IntKind.u64 (bits BinOp.or IntKind.u64 (bits BinOp.or IntKind.u64 h.size (h.ptrs * 65536)) (h.age * 4294967296)) (h.parity * 1099511627776)) (flag h.grey (bitv 41))) (flag h.noted (bitv 42))) (flag h.old (bitv 43))) 17592186044416 = h.enc := by
      rw [e1, e2, e3, e4, e5, e6, e7]
      rfl
    exact congrArg (fun x => Ending.returned (.tuple #[.int .u64 x, .bool true])) e
  · have hf : h.good = false := by simpa using hg
    have he : h.encE = 0 := by simp [Hd.encE, hf]
    rw [he, hf]
    rw [hf] at hgood
    clear he hf hg
    simp only [hdCells] at *
    go_enter Tryz.func81, Tryz.ntmps81
    go_wp2_with (go_at_call 61; refine Calls.mono (hgood _) ?_; rintro e w1 ⟨rfl, u1⟩)
    go_ret2
    exact ⟨rfl, (Upd.skip (In.nil w) _).trans u1⟩

/-- the head of a word -/
def decH (w : Int) : Hd := ⟨w % 65536, w / 65536 % 65536, w / 4294967296 % 256, w / 1099511627776 % 2, decide (w / 2199023255552 % 2 = 1), decide (w / 4398046511104 % 2 = 1), decide (w / 8796093022208 % 2 = 1)⟩
def hd0 : Hd := ⟨0, 0, 0, 0, false, false, false⟩
def isHd (w : Int) : Bool := (decH w).good && decide ((decH w).enc = w)
def unH (w : Int) : Hd := if isHd w then decH w else hd0

theorem enc_dec {h : Hd} (hg : h.Good) : decH h.enc = h := by
  obtain ⟨h1, h2, h3, h4, h5, h6, h7⟩ := hg
  rcases h with ⟨size, ptrs, age, parity, grey, noted, old⟩
  simp only at *
  have f1 : flag grey 2199023255552 = 0 ∧ grey = false ∨ flag grey 2199023255552 = 2199023255552 ∧ grey = true := by cases grey; exact .inl ⟨rfl, rfl⟩; exact .inr ⟨rfl, rfl⟩
  have f2 : flag noted 4398046511104 = 0 ∧ noted = false ∨ flag noted 4398046511104 = 4398046511104 ∧ noted = true := by cases noted; exact .inl ⟨rfl, rfl⟩; exact .inr ⟨rfl, rfl⟩
  have f3 : flag old 8796093022208 = 0 ∧ old = false ∨ flag old 8796093022208 = 8796093022208 ∧ old = true := by cases old; exact .inl ⟨rfl, rfl⟩; exact .inr ⟨rfl, rfl⟩
  generalize he : Hd.enc ⟨size, ptrs, age, parity, grey, noted, old⟩ = e
  unfold Hd.enc at he
  simp only at he
  simp only [decH, Hd.mk.injEq]
  refine ⟨by omega, by omega, by omega, by omega, ?_, ?_, ?_⟩
  · rcases f1 with ⟨f, rfl⟩ | ⟨f, rfl⟩
    · exact decide_eq_false (by omega)
    · exact decide_eq_true (by omega)
  · rcases f2 with ⟨f, rfl⟩ | ⟨f, rfl⟩
    · exact decide_eq_false (by omega)
    · exact decide_eq_true (by omega)
  · rcases f3 with ⟨f, rfl⟩ | ⟨f, rfl⟩
    · exact decide_eq_false (by omega)
    · exact decide_eq_true (by omega)

theorem isHd_enc {h : Hd} (hg : h.Good) : isHd h.enc = true := by simp [isHd, enc_dec hg, Hd.good, hg]
theorem unH_enc {h : Hd} (hg : h.Good) : unH h.enc = h := by simp [unH, isHd_enc hg, enc_dec hg]
theorem hd0_good : hd0.Good := by decide
theorem unH_good (w : Int) : (unH w).Good := by
  unfold unH
  split
  · rename_i h
    simp [isHd, Hd.good] at h
    exact h.1
  · exact hd0_good
theorem enc_bounds {h : Hd} (hg : h.Good) : 0 ≤ h.enc ∧ h.enc < 18446744073709551616 := by
  obtain ⟨h1, h2, h3, h4, h5, h6, h7⟩ := hg
  have f1 : flag h.grey 2199023255552 = 0 ∨ flag h.grey 2199023255552 = 2199023255552 := by cases h.grey; exact .inl rfl; exact .inr rfl
  have f2 : flag h.noted 4398046511104 = 0 ∨ flag h.noted 4398046511104 = 4398046511104 := by cases h.noted; exact .inl rfl; exact .inr rfl
  have f3 : flag h.old 8796093022208 = 0 ∨ flag h.old 8796093022208 = 8796093022208 := by cases h.old; exact .inl rfl; exact .inr rfl
  unfold Hd.enc
  omega

set_option maxRecDepth 100000 in
set_option maxHeartbeats 2000000 in
theorem head_unpack (x : Int) (w : World) (h0 : 0 ≤ x) (h1 : x < 18446744073709551616) :
    Calls Tryz.prog 90 #[.int .u64 x] w fun e w' => e = .returned (.tuple #[.agg (hdCells (unH x)), .bool (isHd x)]) ∧ Upd [] [] w w' := by
  obtain ⟨H, hH⟩ : ∃ H, H = decH x := ⟨_, rfl⟩
  have q1 : bits .and .u64 x 65535 = H.size := by rw [and_u64 16 65536 (by decide) _ _ (by decide) h0 h1 (by decide), hH]; rfl
  have q2 : bits .and .u64 (x / 65536) 65535 = H.ptrs := by rw [and_u64 16 65536 (by decide) _ _ (by decide) (by omega) (by omega) (by decide), hH]; rfl
  have q3 : bits .and .u64 (x / 4294967296) 255 = H.age := by rw [and_u64 8 256 (by decide) _ _ (by decide) (by omega) (by omega) (by decide), hH]; rfl
  have q4 : bits .and .u64 (x / 1099511627776) 1 = H.parity := by rw [and_u64 1 2 (by decide) _ _ (by decide) (by omega) (by omega) (by decide), hH]; rfl
  have q5 : (bits .and .u64 (x / 2199023255552) 1 == 1) = H.grey := by rw [and_u64 1 2 (by decide) _ _ (by decide) (by omega) (by omega) (by decide), hH]; rfl
  have q6 : (bits .and .u64 (x / 4398046511104) 1 == 1) = H.noted := by rw [and_u64 1 2 (by decide) _ _ (by decide) (by omega) (by omega) (by decide), hH]; rfl
  have q7 : (bits .and .u64 (x / 8796093022208) 1 == 1) = H.old := by rw [and_u64 1 2 (by decide) _ _ (by decide) (by omega) (by omega) (by decide), hH]; rfl
  have b1 : 0 ≤ H.size ∧ H.size ≤ 65535 := by rw [hH]; simp only [decH]; omega
  have b2 : 0 ≤ H.ptrs ∧ H.ptrs ≤ 65535 := by rw [hH]; simp only [decH]; omega
  have b3 : 0 ≤ H.age ∧ H.age ≤ 255 := by rw [hH]; simp only [decH]; omega
  have b4 : 0 ≤ H.parity ∧ H.parity ≤ 1 := by rw [hH]; simp only [decH]; omega
  obtain ⟨b1, b1'⟩ := b1
  obtain ⟨b2, b2'⟩ := b2
  obtain ⟨b3, b3'⟩ := b3
  obtain ⟨b4, b4'⟩ := b4
  have hp := head_pack H
  by_cases hi : isHd x = true
  · have hu : unH x = H := by rw [unH, if_pos hi, hH]
    have hi' := hi
    simp only [isHd, Bool.and_eq_true, decide_eq_true_eq, ← hH] at hi'
    obtain ⟨g1, g2⟩ := hi'
    have he : H.encE = x := by rw [Hd.encE, if_pos g1, g2]
    rw [hu, hi]
    rw [he, g1] at hp
    clear g1 g2 he hi hu hH
    simp only [hdCells] at hp
    go_enter Tryz.func90, Tryz.ntmps90
    go_wp2_with (go_at_call 81; refine Calls.mono (hp _) ?_; rintro e w1 ⟨rfl, u1⟩; have hb1 : w1.heap[w.heap.size + 1]? = some (.cells (hdCells H) 112 (0, 0)) := Upd.keep0 u1 (heap_alloc_at (by simp)); have hb0 : w1.heap[w.heap.size]? = some (.cells (hdCells hd0) 112 (0, 0)) := Upd.keep0 u1 ((heap_alloc_old (by simp)).trans heap_alloc_new); obtain ⟨c0, c1, c2, c3, c4, c5, c6⟩ := hd_cells hb1; obtain ⟨d0, d1, d2, d3, d4, d5, d6⟩ := hd_cells hb0; obtain ⟨f0, f1, f2, f3, f4, f5, f6⟩ := hd_frozen hb0)
    refine bodyPost_ret (v := .tuple #[.agg (hdCells H), .bool true]) (by simp [results, Tryz.results90, go_sem, hdCells, hd0, d0, d1, d2, d3, d4, d5, d6, World.cell?_setCell_same w1 _ _ d0]) rfl ⟨rfl, ?_⟩
    exact (((((((((Upd.skip (In.nil w) _).skip' _).trans u1).junk0 (Nat.le_refl _) _).junk0 (Nat.le_refl _) _).junk0 (Nat.le_refl _) _).junk0 (Nat.le_refl _) _).junk0 (Nat.le_refl _) _).junk0 (Nat.le_refl _) _).junk0 (Nat.le_refl _) _
  · have hi' : isHd x = false := by simpa using hi
    have hu : unH x = hd0 := by simp [unH, hi']
    rw [hu, hi']
    clear hu
    cases hg : H.good
    · rw [hg] at hp
      clear hi hi' hH hg
      simp only [hdCells] at hp
      go_enter Tryz.func90, Tryz.ntmps90
      go_wp2_with (go_at_call 81; refine Calls.mono (hp _) ?_; rintro e w1 ⟨rfl, u1⟩; have hb1 : w1.heap[w.heap.size + 1]? = some (.cells (hdCells H) 112 (0, 0)) := Upd.keep0 u1 (heap_alloc_at (by simp)); have hb0 : w1.heap[w.heap.size]? = some (.cells (hdCells hd0) 112 (0, 0)) := Upd.keep0 u1 ((heap_alloc_old (by simp)).trans heap_alloc_new); obtain ⟨c0, c1, c2, c3, c4, c5, c6⟩ := hd_cells hb1; obtain ⟨d0, d1, d2, d3, d4, d5, d6⟩ := hd_cells hb0; obtain ⟨f0, f1, f2, f3, f4, f5, f6⟩ := hd_frozen hb0)
      refine bodyPost_ret (v := .tuple #[.agg (hdCells hd0), .bool false]) (by simp [results, Tryz.results90, go_sem, hdCells, hd0, d0, d1, d2, d3, d4, d5, d6, World.cell?_setCell_same w1 _ _ d0]) rfl ⟨rfl, ?_⟩
      exact (((((((((Upd.skip (In.nil w) _).skip' _).trans u1).junk0 (Nat.le_refl _) _).junk0 (Nat.le_refl _) _).junk0 (Nat.le_refl _) _).junk0 (Nat.le_refl _) _).junk0 (Nat.le_refl _) _).junk0 (Nat.le_refl _) _).junk0 (Nat.le_refl _) _
    · have hne : H.encE ≠ x := by
        intro e
        rw [Hd.encE, if_pos hg] at e
        simp [isHd, ← hH, hg, e] at hi'
      rw [hg] at hp
      have hne' : (H.encE != x) = true := by simpa using hne
      clear hi hi' hH hg
      simp only [hdCells] at hp
      go_enter Tryz.func90, Tryz.ntmps90
      go_wp2_with (go_at_call 81; refine Calls.mono (hp _) ?_; rintro e w1 ⟨rfl, u1⟩; have hb1 : w1.heap[w.heap.size + 1]? = some (.cells (hdCells H) 112 (0, 0)) := Upd.keep0 u1 (heap_alloc_at (by simp)); have hb0 : w1.heap[w.heap.size]? = some (.cells (hdCells hd0) 112 (0, 0)) := Upd.keep0 u1 ((heap_alloc_old (by simp)).trans heap_alloc_new); obtain ⟨c0, c1, c2, c3, c4, c5, c6⟩ := hd_cells hb1; obtain ⟨d0, d1, d2, d3, d4, d5, d6⟩ := hd_cells hb0; obtain ⟨f0, f1, f2, f3, f4, f5, f6⟩ := hd_frozen hb0)
      refine bodyPost_ret (v := .tuple #[.agg (hdCells hd0), .bool false]) (by simp [results, Tryz.results90, go_sem, hdCells, hd0, d0, d1, d2, d3, d4, d5, d6, World.cell?_setCell_same w1 _ _ d0]) rfl ⟨rfl, ?_⟩
      exact (((((((((Upd.skip (In.nil w) _).skip' _).trans u1).junk0 (Nat.le_refl _) _).junk0 (Nat.le_refl _) _).junk0 (Nat.le_refl _) _).junk0 (Nat.le_refl _) _).junk0 (Nat.le_refl _) _).junk0 (Nat.le_refl _) _).junk0 (Nat.le_refl _) _

/-- a head that is laid over another one, cell by cell -/
theorem Upd.hd {w0 w : World} {h r : Hp} {b : Nat} {x : Hd} {T : TypeId} {fr : Nat × Nat} (a : Upd h ((b, .cells (hdCells x) T fr) :: r) w0 w) (y : Hd) :
    Upd h ((b, .cells (hdCells y) T fr) :: r) w0 (((((((w.setCell ⟨b, 0, none⟩ (.int .i64 y.size)).setCell ⟨b, 1, none⟩ (.int .i64 y.ptrs)).setCell ⟨b, 2, none⟩ (.int .i64 y.age)).setCell ⟨b, 3, none⟩ (.int .i64 y.parity)).setCell ⟨b, 4, none⟩ (.bool y.grey)).setCell ⟨b, 5, none⟩ (.bool y.noted)).setCell ⟨b, 6, none⟩ (.bool y.old)) := by
  have u := ((((((a.store1 0 (.int .i64 y.size)).store1 1 (.int .i64 y.ptrs)).store1 2 (.int .i64 y.age)).store1 3 (.int .i64 y.parity)).store1 4 (.bool y.grey)).store1 5 (.bool y.noted)).store1 6 (.bool y.old)
  have e : (((((((hdCells x).setIfInBounds 0 (.int .i64 y.size)).setIfInBounds 1 (.int .i64 y.ptrs)).setIfInBounds 2 (.int .i64 y.age)).setIfInBounds 3 (.int .i64 y.parity)).setIfInBounds 4 (.bool y.grey)).setIfInBounds 5 (.bool y.noted)).setIfInBounds 6 (.bool y.old) = hdCells y := by
    simp [hdCells]
  rw [e] at u
  exact u

end Go.Proofs.YtglbhcoikgbcmaaGreat
