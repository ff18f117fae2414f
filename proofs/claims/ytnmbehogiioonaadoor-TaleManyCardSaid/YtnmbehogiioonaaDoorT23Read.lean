/- An entry's words, read by a form. Condition: the library's variables are as its text lays them. -/
import Derived.Test.YtnmbehogiioonaaDoorT23Num
import Derived.Lib.SlicesS
set_option linter.unusedVariables false
set_option linter.unusedSimpArgs false
namespace Go.Proofs.YtnmbehogiioonaaDoor
open Go.RowKit Go.Shelf Go.Lib

def sizeOf (f : FormS) : Nat := 1 + f.size + (if f.scalar then 1 else 0)
def arrN (l : List (List UInt8)) (j : Nat) : List Int := [0, 1, 2].map fun k => if k < j then atoiV (l.getD (k + 1) []) else 0
def entZ : EntS := ⟨0, 0, 0, 0, 0⟩
def readX (l : List (List UInt8)) (kind : Int) (f : FormS) : EntS :=
  ⟨kind, (arrN l f.size).getD 0 0, (arrN l f.size).getD 1 0, (arrN l f.size).getD 2 0, if f.scalar then puV (l.getD (f.size + 1) []) else 0⟩
def readOk (l : List (List UInt8)) (f : FormS) : Bool := decide (l.getD 0 [] = f.word) && decide (l.length = sizeOf f) && ((l.drop 1).take f.size).all plainL
def readL (l : List (List UInt8)) (kind : Int) (f : FormS) : EntS × Bool := if readOk l f then (readX l kind f, true) else (entZ, false)
theorem readL_no {l : List (List UInt8)} {kind : Int} {f : FormS} (h : readOk l f = false) : readL l kind f = (entZ, false) := by unfold readL; rw [h]; rfl
theorem readL_yes {l : List (List UInt8)} {kind : Int} {f : FormS} (h : readOk l f = true) : readL l kind f = (readX l kind f, true) := by unfold readL; rw [h]; rfl

theorem cell_keep {w w' : World} {k : Hp} (u : Upd [] k w w') {g o : Nat} (hg : g < w.heap.size) : w'.cell? ⟨g, o, none⟩ = w.cell? ⟨g, o, none⟩ := by
  simp [World.cell?, u.frame g hg (by simp)]
theorem bytes_ne {a b : List UInt8} (h : a ≠ b) : (⟨a.toArray⟩ : ByteArray) ≠ ⟨b.toArray⟩ := by
  intro e
  injection e with e
  exact h (by simpa using e)
theorem arrN_set (l : List (List UInt8)) (j : Nat) (hj : j < 3) : (ints (arrN l j)).set j (.int .i64 (atoiV (l.getD (j + 1) []))) = ints (arrN l (j + 1)) := by
  rcases (by omega : j = 0 ∨ j = 1 ∨ j = 2) with rfl | rfl | rfl <;> simp [arrN]

set_option maxRecDepth 100000 in
set_option maxHeartbeats 4000000 in
theorem tale_read (l : List (List UInt8)) (hl0 : 0 < l.length) (hlm : l.length ≤ 1000000000000) (hlen : ∀ s ∈ l, s.length ≤ 1000000000000) (v : Value) (h : Hp) (kind : Int) (hk : I64 kind) (f : FormS) (hf : f.size ≤ 3) (w : World)
    (hs : SliceH 9 1 v l.length (strs l) h) (hi : In w h) (hL : Laid w) :
    Calls Tryd.prog 20 #[v, .int .i64 kind, .agg (formCells f).toArray] w fun e w' => e = .returned (.tuple #[.agg (entCells (readL l kind f).1), .bool (readL l kind f).2]) ∧ Upd [] [] w w' := by
  obtain ⟨f0, f1, f2⟩ := f
  simp only at hf
  simp only [formCells]
  obtain ⟨g, off, cap, rfl, hcap⟩ := hs.addr hl0
  have hg : g < w.heap.size := by
    rcases hs.2 with ⟨h1, _⟩ | ⟨g', pre, post, cap', h1, rfl, _⟩
    · cases h1
    · cases h1; exact hi.lt (by simp)
  have hcell : ∀ j (hj : j < l.length), w.cell? ⟨g, off + j, none⟩ = some (.string ⟨(l.getD j []).toArray⟩) := by
    intro j hj
    have h1 := hs.cell hi rfl (j := j) (by simp [strs]; exact hj)
    rw [h1]
    simp [strs, List.getElem?_eq_getElem hj]
  clear hs hi
  have hnv : (l.getD 0 []).length ≤ 1000000000000 := by
    rw [List.getD_eq_getElem?_getD, List.getElem?_eq_getElem hl0]; exact hlen _ (List.getElem_mem _)
  have HC := Lib.hid hcell
  have h0 := hcell 0 hl0
  clear hcell
  have U1 := ((Upd.refl (In.nil w)).alloc' (.cells #[.string ⟨f0.toArray⟩, .int .i64 f1, .bool f2] 45 (0, 0))).alloc' (.cells (entCells entZ) 24 (0, 0))
  have HGfalse : f2 = false → Calls Tryd.prog 20 #[.slice (some ⟨g, off, none⟩) l.length cap, .int .i64 kind, .agg #[.string ⟨f0.toArray⟩, .int .i64 f1, .bool f2]] w fun e w' => e = .returned (.tuple #[.agg (entCells (readL l kind ⟨f0, f1, f2⟩).1), .bool (readL l kind ⟨f0, f1, f2⟩).2]) ∧ Upd [] [] w w' := by
    rintro rfl
    obtain ⟨S0, hS0⟩ : ∃ s : ByteArray, (⟨(l.getD 0 []).toArray⟩ : ByteArray) = s := ⟨_, rfl⟩
    obtain ⟨F0, hF0⟩ : ∃ s : ByteArray, (⟨f0.toArray⟩ : ByteArray) = s := ⟨_, rfl⟩
    rw [hS0] at h0
    rw [hF0] at U1 ⊢
    obtain ⟨B0, hB0⟩ : ∃ b, b = w.heap.size := ⟨_, rfl⟩
    obtain ⟨B1, hB1⟩ : ∃ b, b = w.heap.size + 1 := ⟨_, rfl⟩
    simp only [World.size_alloc] at U1
    rw [← hB1, ← hB0] at U1
    have HU := Lib.hid U1.drew'
    have HU1 := Lib.hid U1
    have hl1 : (0 : Int) < (l.length : Int) := by omega
    have hwr : IntKind.i64.wrap (1 + (f1 : Int)) = 1 + (f1 : Int) := IntWalk.i64_in _ (by omega)
    have d0 : ∀ nq, (World.drewN ((w.alloc (.cells #[.string F0, .int .i64 f1, .bool false] 45 (0, 0))).alloc (.cells #[.int .i64 0, .int .i64 0, .int .i64 0, .int .i64 0, .int .u64 0] 24 (0, 0))) nq).cell? ⟨g, off, none⟩ = some (.string S0) := fun nq => (cell_keep (U1.drewN' nq) hg).trans h0
    have d1 : ∀ nq, (World.drewN ((w.alloc (.cells #[.string F0, .int .i64 f1, .bool false] 45 (0, 0))).alloc (.cells #[.int .i64 0, .int .i64 0, .int .i64 0, .int .i64 0, .int .u64 0] 24 (0, 0))) nq).cell? ⟨B0, 0, none⟩ = some (.string F0) := fun nq => cell_of (U1.drewN' nq).inn.tail.head 0
    clear U1
    go_enter Tryd.func20, Tryd.ntmps20
    go_upto_block 0 with (fail)
    rw [← hB1, ← hB0]
    clear hB0 hB1
    have hz1 : S0 ≠ F0 → readL l kind ⟨f0, f1, false⟩ = (entZ, false) := fun hw => readL_no (by
      unfold readOk
      rw [decide_eq_false (fun e => hw (by rw [← hS0, ← hF0, e])), Bool.false_and, Bool.false_and])
    have hz2 : ¬ (l.length : Int) = 1 + (f1 : Int) → readL l kind ⟨f0, f1, false⟩ = (entZ, false) := fun hn => readL_no (by
      unfold readOk
      rw [decide_eq_false (p := l.length = _) (fun e => hn (by rw [e]; simp only [sizeOf]; simp)), Bool.and_false, Bool.false_and])
    have HZ1 := Lib.hid hz1
    have HZ2 := Lib.hid hz2
    have hw0 : S0 = F0 → l.getD 0 [] = f0 := fun e => by
      by_cases e' : l.getD 0 [] = f0
      · exact e'
      · exact absurd (by rw [hS0, hF0, e]) (bytes_ne e')
    have HW00 := Lib.hid hw0
    clear hz1 hz2 hS0 hF0 h0 HU hw0
    by_cases hw : S0 = F0
    · have hwb : (S0.toList == F0.toList) = true := (bytes_beq_iff _ _).2 hw
      by_cases hn : (l.length : Int) = 1 + (f1 : Int)
      · have hnb : ((l.length : Int) != 1 + (f1 : Int)) = false := by simpa using hn
        have HN := Lib.hid hn
        have HW0 := Lib.hid (HW00.out hw)
        clear hn hw HW00
        go_quiet (fail)
        have UA := HU1.out.drewN' nq
        simp only [entCells, entZ] at UA
        generalize World.drewN ((w.alloc (.cells #[.string F0, .int .i64 f1, .bool false] 45 (0, 0))).alloc (.cells #[.int .i64 0, .int .i64 0, .int .i64 0, .int .i64 0, .int .u64 0] 24 (0, 0))) nq = W at *
        have c0 : W.cell? ⟨B1, 0, none⟩ = some (.int .i64 0) := cell_of UA.inn.head 0
        have c1 : W.cell? ⟨B1, 1, none⟩ = some (.int .i64 0) := cell_of UA.inn.head 1
        have c2 : W.cell? ⟨B1, 2, none⟩ = some (.int .i64 0) := cell_of UA.inn.head 2
        have c3 : W.cell? ⟨B1, 3, none⟩ = some (.int .i64 0) := cell_of UA.inn.head 3
        have c4 : W.cell? ⟨B1, 4, none⟩ = some (.int .u64 0) := cell_of UA.inn.head 4
        have z0 : W.frozen? ⟨B1, 0, none⟩ = false := frozen_of UA.inn.head 0
        have z1 : W.frozen? ⟨B1, 1, none⟩ = false := frozen_of UA.inn.head 1
        have z2 : W.frozen? ⟨B1, 2, none⟩ = false := frozen_of UA.inn.head 2
        have z3 : W.frozen? ⟨B1, 3, none⟩ = false := frozen_of UA.inn.head 3
        have z4 : W.frozen? ⟨B1, 4, none⟩ = false := frozen_of UA.inn.head 4
        have e1 : W.cell? ⟨B0, 1, none⟩ = some (.int .i64 f1) := cell_of UA.inn.tail.head 1
        have e2 : W.cell? ⟨B0, 2, none⟩ = some (.bool false) := cell_of UA.inn.tail.head 2
        clear d0 d1
        have UB := UA.alloc' (.cells #[.int .i64 0, .int .i64 0, .int .i64 0] 70 (0, 0))
        obtain ⟨B2, hB2⟩ : ∃ b, b = W.heap.size := ⟨_, rfl⟩
        rw [← hB2] at UB
        have k1 : (W.alloc (.cells #[.int .i64 0, .int .i64 0, .int .i64 0] 70 (0, 0))).cell? ⟨B0, 1, none⟩ = some (.int .i64 f1) := cell_of UB.inn.tail.tail.head 1
        have HUB := Lib.hid UB
        clear UA UB HU1
        go_wp2_with fail
        rw [← hB2]
        clear hB2
        go_loopw [34] (fun q wr => ∃ (j : Nat), j ≤ f1 ∧ q = .int .i64 j ∧ (∀ i, i < j → plainL (l.getD (i + 1) []) = true) ∧ Hid (Upd [] [(B2, .cells (ints (arrN l j)).toArray 70 (0, 0)), (B1, .cells #[.int .i64 0, .int .i64 0, .int .i64 0, .int .i64 0, .int .u64 0] 24 (0, 0)), (B0, .cells #[.string F0, .int .i64 f1, .bool false] 45 (0, 0))] w wr)) (fun q _ => f1 - (RowKit.intOf q).toNat)
        case atStart => exact ⟨0, by omega, rfl, fun i h => by omega, HUB⟩
        case round =>
          obtain ⟨j, hj, rfl, hp, HV⟩ := hrel
          by_cases hjl : j < f1
          · have hj3 : j < 3 := by omega
            obtain ⟨s, hs⟩ : ∃ s, l.getD (j + 1) [] = s := ⟨_, rfl⟩
            have hn := HN.out
            have hsl : s.length ≤ 1000000000000 := by rw [← hs, List.getD_eq_getElem?_getD, List.getElem?_eq_getElem (by omega)]; exact hlen _ (List.getElem_mem _)
            have hb0 : wr.cell? ⟨g, off + (j + 1), none⟩ = some (.string ⟨s.toArray⟩) := by rw [cell_keep HV.out hg, ← hs]; exact HC.out (j + 1) (by omega)
            have hix : (j : Int) + 1 < (l.length : Int) := by omega
            have hjI : (j : Int) < (f1 : Int) := by omega
            have hj3I : (j : Int) < 3 := by omega
            have hjw : IntKind.i64.wrap ((j : Int) + 1) = (j : Int) + 1 := IntWalk.i64_in _ (by omega)
            obtain ⟨q, hq⟩ : ∃ q, plainL s = q := ⟨_, rfl⟩
            have hF : q = false → readL l kind ⟨f0, f1, false⟩ = (entZ, false) := fun e => readL_no (by
              unfold readOk
              have : ((l.drop 1).take f1).all plainL = false := by
                rw [List.all_eq_false]
                refine ⟨s, List.mem_iff_getElem?.2 ⟨j, ?_⟩, by rw [hq, e]; simp⟩
                rw [List.getElem?_take_of_lt hjl, List.getElem?_drop, Nat.add_comm 1 j, ← hs, List.getD_eq_getElem?_getD, List.getElem?_eq_getElem (by omega)]
                rfl
              rw [this, Bool.and_false])
            have HF := Lib.hid hF
            have HP := Lib.hid (fun W => tale_plain s hsl W)
            rw [hq] at HP
            have HAT := Lib.hid (fun W (h : Laid W) => atoi_call s hsl W h)
            have HS := Lib.hid hs
            have HPQ := Lib.hid hq
            have HPP := Lib.hid hp
            clear hn hF hs hq hp HZ1 HZ2
            cases q
            · go_wp2_with (go_at_call 29; refine Calls.mono (HP.out _) ?_; rintro e w5 ⟨rfl, u5⟩; have U5 := HV.out.under0 u5; have c0 : w5.cell? ⟨B1, 0, none⟩ = some (.int .i64 0) := cell_of U5.inn.tail.head 0; have c1 : w5.cell? ⟨B1, 1, none⟩ = some (.int .i64 0) := cell_of U5.inn.tail.head 1; have c2 : w5.cell? ⟨B1, 2, none⟩ = some (.int .i64 0) := cell_of U5.inn.tail.head 2; have c3 : w5.cell? ⟨B1, 3, none⟩ = some (.int .i64 0) := cell_of U5.inn.tail.head 3; have c4 : w5.cell? ⟨B1, 4, none⟩ = some (.int .u64 0) := cell_of U5.inn.tail.head 4; have z0 : w5.frozen? ⟨B1, 0, none⟩ = false := frozen_of U5.inn.tail.head 0; have z1 : w5.frozen? ⟨B1, 1, none⟩ = false := frozen_of U5.inn.tail.head 1; have z2 : w5.frozen? ⟨B1, 2, none⟩ = false := frozen_of U5.inn.tail.head 2; have z3 : w5.frozen? ⟨B1, 3, none⟩ = false := frozen_of U5.inn.tail.head 3; have z4 : w5.frozen? ⟨B1, 4, none⟩ = false := frozen_of U5.inn.tail.head 4; have e1 : w5.cell? ⟨B0, 1, none⟩ = some (.int .i64 f1) := cell_of U5.inn.tail.tail.head 1; have e2 : w5.cell? ⟨B0, 2, none⟩ = some (.bool false) := cell_of U5.inn.tail.tail.head 2; have HU5 := Lib.hid U5; clear U5 u5)
              refine bodyPost_ret (v := .tuple #[.agg #[.int .i64 0, .int .i64 0, .int .i64 0, .int .i64 0, .int .u64 0], .bool false]) (by rw [results_cell_tmp rfl]; go_simp) rfl ?_
              exact ⟨by rw [HF.out (by trivial)]; rfl, ((((((HU5.out.store' (l := [_]) 0 _).store' (l := [_]) 1 _).store' (l := [_]) 2 _).store' (l := [_]) 3 _).store' (l := [_]) 4 _)).forget (List.nil_sublist _)⟩
            · have hzj : j < (ints (arrN l j)).toArray.size := by simp [arrN]; omega
              obtain ⟨y, hy⟩ : ∃ y, (ints (arrN l j)).toArray[j]? = some y := ⟨_, Array.getElem?_eq_getElem hzj⟩
              have HSET := Lib.hid (arrN_set l j hj3)
              rw [HS.out] at HSET
              go_wp2_with (first | (go_at_call 29; refine Calls.mono (HP.out _) ?_; rintro e w5 ⟨rfl, u5⟩; have U5 := HV.out.under0 u5; have hb1 : w5.cell? ⟨g, off + (j + 1), none⟩ = some (.string ⟨s.toArray⟩) := (cell_keep u5 (by have := HV.out.size; omega)).trans hb0; have HL5 := Lib.hid (hL.upd U5); have HU5 := Lib.hid U5; clear U5 u5) | (go_at_call 30; refine Calls.mono (HAT.out _ HL5.out) ?_; rintro e w6 ⟨ev, rfl, u6⟩; have U6 := HU5.out.under0 u6; have g0 : w6.cell? ⟨B2, j, none⟩ = some y := (cell_of U6.inn.head j).trans hy; have g1 : w6.frozen? ⟨B2, j, none⟩ = false := frozen_of U6.inn.head j; have HU6 := Lib.hid U6; clear U6 u6))
              go_roundw
              case rel =>
                refine ⟨j + 1, by omega, by go_num, fun i hi => ?_, Lib.hid ?_⟩
                · rcases (by omega : i < j ∨ i = j) with h1 | rfl
                  · exact HPP.out i h1
                  · rw [HS.out]; exact HPQ.out
                · have := HU6.out.store1 j (.int .i64 (atoiV s))
                  rw [List.setIfInBounds_toArray, HSET.out] at this
                  exact this
              case measure => simp [RowKit.intOf]; omega
          · have hje : j = f1 := by omega
            have hjI : ¬ (j : Int) < (f1 : Int) := by omega
            have hn := HN.out
            have hY : readL l kind ⟨f0, f1, false⟩ = (readX l kind ⟨f0, f1, false⟩, true) := readL_yes (by
              have e1 : l.getD 0 [] = f0 := HW0.out
              have e2 : l.length = sizeOf ⟨f0, f1, false⟩ := by simp only [sizeOf]; simp; omega
              have e3 : ((l.drop 1).take f1).all plainL = true := by
                rw [List.all_eq_true]
                intro s hs
                obtain ⟨i, hi⟩ := List.mem_iff_getElem?.1 hs
                have hif : i < f1 := by
                  have := (List.getElem?_eq_some_iff.1 hi).1
                  simp at this; omega
                rw [List.getElem?_take_of_lt hif, List.getElem?_drop, Nat.add_comm 1 i] at hi
                have := hp i (by omega)
                rw [List.getD_eq_getElem?_getD, hi] at this
                exact this
              unfold readOk
              rw [decide_eq_true (p := l.getD 0 [] = _) e1, decide_eq_true (p := l.length = _) e2, e3]; rfl)
            subst hje
            obtain ⟨x0, hx0⟩ : ∃ x, (arrN l j).getD 0 0 = x := ⟨_, rfl⟩
            obtain ⟨x1, hx1⟩ : ∃ x, (arrN l j).getD 1 0 = x := ⟨_, rfl⟩
            obtain ⟨x2, hx2⟩ : ∃ x, (arrN l j).getD 2 0 = x := ⟨_, rfl⟩
            have g0 : wr.cell? ⟨B2, 0, none⟩ = some (.int .i64 x0) := by rw [cell_of HV.out.inn.head 0, ← hx0]; simp [arrN]
            have g1 : wr.cell? ⟨B2, 1, none⟩ = some (.int .i64 x1) := by rw [cell_of HV.out.inn.head 1, ← hx1]; simp [arrN]
            have g2 : wr.cell? ⟨B2, 2, none⟩ = some (.int .i64 x2) := by rw [cell_of HV.out.inn.head 2, ← hx2]; simp [arrN]
            have UA := HV.out.alloc' (.cells #[.int .i64 kind, .int .i64 x0, .int .i64 x1, .int .i64 x2, .int .u64 0] 24 (0, 0))
            have fc0 : (wr.alloc (.cells #[.int .i64 kind, .int .i64 x0, .int .i64 x1, .int .i64 x2, .int .u64 0] 24 (0, 0))).cell? ⟨B1, 0, none⟩ = some (.int .i64 0) := cell_of UA.inn.tail.tail.head 0
            have fc1 : (wr.alloc (.cells #[.int .i64 kind, .int .i64 x0, .int .i64 x1, .int .i64 x2, .int .u64 0] 24 (0, 0))).cell? ⟨B1, 1, none⟩ = some (.int .i64 0) := cell_of UA.inn.tail.tail.head 1
            have fc2 : (wr.alloc (.cells #[.int .i64 kind, .int .i64 x0, .int .i64 x1, .int .i64 x2, .int .u64 0] 24 (0, 0))).cell? ⟨B1, 2, none⟩ = some (.int .i64 0) := cell_of UA.inn.tail.tail.head 2
            have fc3 : (wr.alloc (.cells #[.int .i64 kind, .int .i64 x0, .int .i64 x1, .int .i64 x2, .int .u64 0] 24 (0, 0))).cell? ⟨B1, 3, none⟩ = some (.int .i64 0) := cell_of UA.inn.tail.tail.head 3
            have fc4 : (wr.alloc (.cells #[.int .i64 kind, .int .i64 x0, .int .i64 x1, .int .i64 x2, .int .u64 0] 24 (0, 0))).cell? ⟨B1, 4, none⟩ = some (.int .u64 0) := cell_of UA.inn.tail.tail.head 4
            have fz0 : (wr.alloc (.cells #[.int .i64 kind, .int .i64 x0, .int .i64 x1, .int .i64 x2, .int .u64 0] 24 (0, 0))).frozen? ⟨B1, 0, none⟩ = false := frozen_of UA.inn.tail.tail.head 0
            have fz1 : (wr.alloc (.cells #[.int .i64 kind, .int .i64 x0, .int .i64 x1, .int .i64 x2, .int .u64 0] 24 (0, 0))).frozen? ⟨B1, 1, none⟩ = false := frozen_of UA.inn.tail.tail.head 1
            have fz2 : (wr.alloc (.cells #[.int .i64 kind, .int .i64 x0, .int .i64 x1, .int .i64 x2, .int .u64 0] 24 (0, 0))).frozen? ⟨B1, 2, none⟩ = false := frozen_of UA.inn.tail.tail.head 2
            have fz3 : (wr.alloc (.cells #[.int .i64 kind, .int .i64 x0, .int .i64 x1, .int .i64 x2, .int .u64 0] 24 (0, 0))).frozen? ⟨B1, 3, none⟩ = false := frozen_of UA.inn.tail.tail.head 3
            have fz4 : (wr.alloc (.cells #[.int .i64 kind, .int .i64 x0, .int .i64 x1, .int .i64 x2, .int .u64 0] 24 (0, 0))).frozen? ⟨B1, 4, none⟩ = false := frozen_of UA.inn.tail.tail.head 4
            have fe1 : (wr.alloc (.cells #[.int .i64 kind, .int .i64 x0, .int .i64 x1, .int .i64 x2, .int .u64 0] 24 (0, 0))).cell? ⟨B0, 1, none⟩ = some (.int .i64 j) := cell_of UA.inn.tail.tail.tail.head 1
            have fe2 : (wr.alloc (.cells #[.int .i64 kind, .int .i64 x0, .int .i64 x1, .int .i64 x2, .int .u64 0] 24 (0, 0))).cell? ⟨B0, 2, none⟩ = some (.bool false) := cell_of UA.inn.tail.tail.tail.head 2
            have HX : readX l kind ⟨f0, j, false⟩ = ⟨kind, x0, x1, x2, 0⟩ := by unfold readX; rw [hx0, hx1, hx2]; rfl
            have HY := Lib.hid hY
            rw [HX] at HY
            have HUA := Lib.hid UA
            clear hY UA hx0 hx1 hx2 HX hn hp HZ1 HZ2
            go_wp2
            refine bodyPost_ret (v := .tuple #[.agg #[.int .i64 kind, .int .i64 x0, .int .i64 x1, .int .i64 x2, .int .u64 0], .bool true]) (by rw [results_cell_tmp rfl]; go_simp) rfl ?_
            exact ⟨by rw [HY.out]; rfl, ((((((HUA.out.store' (l := [_, _]) 0 _).store' (l := [_, _]) 1 _).store' (l := [_, _]) 2 _).store' (l := [_, _]) 3 _).store' (l := [_, _]) 4 _)).forget (List.nil_sublist _)⟩
      · have hnb : ((l.length : Int) != 1 + (f1 : Int)) = true := by simpa using hn
        have HZ := Lib.hid (HZ2.out hn)
        clear hn hw HZ1 HZ2
        go_quiet (fail)
        have UA := HU1.out.drewN' nq
        simp only [entCells, entZ] at UA
        generalize World.drewN ((w.alloc (.cells #[.string F0, .int .i64 f1, .bool false] 45 (0, 0))).alloc (.cells #[.int .i64 0, .int .i64 0, .int .i64 0, .int .i64 0, .int .u64 0] 24 (0, 0))) nq = W at *
        have c0 : W.cell? ⟨B1, 0, none⟩ = some (.int .i64 0) := cell_of UA.inn.head 0
        have c1 : W.cell? ⟨B1, 1, none⟩ = some (.int .i64 0) := cell_of UA.inn.head 1
        have c2 : W.cell? ⟨B1, 2, none⟩ = some (.int .i64 0) := cell_of UA.inn.head 2
        have c3 : W.cell? ⟨B1, 3, none⟩ = some (.int .i64 0) := cell_of UA.inn.head 3
        have c4 : W.cell? ⟨B1, 4, none⟩ = some (.int .u64 0) := cell_of UA.inn.head 4
        have z0 : W.frozen? ⟨B1, 0, none⟩ = false := frozen_of UA.inn.head 0
        have z1 : W.frozen? ⟨B1, 1, none⟩ = false := frozen_of UA.inn.head 1
        have z2 : W.frozen? ⟨B1, 2, none⟩ = false := frozen_of UA.inn.head 2
        have z3 : W.frozen? ⟨B1, 3, none⟩ = false := frozen_of UA.inn.head 3
        have z4 : W.frozen? ⟨B1, 4, none⟩ = false := frozen_of UA.inn.head 4
        have e1 : W.cell? ⟨B0, 1, none⟩ = some (.int .i64 f1) := cell_of UA.inn.tail.head 1
        have e2 : W.cell? ⟨B0, 2, none⟩ = some (.bool false) := cell_of UA.inn.tail.head 2
        clear d0 d1
        have HUA := Lib.hid UA
        clear UA HU1
        go_wp2
        refine bodyPost_ret (v := .tuple #[.agg #[.int .i64 0, .int .i64 0, .int .i64 0, .int .i64 0, .int .u64 0], .bool false]) (by rw [results_cell_tmp rfl]; go_simp) rfl ?_
        exact ⟨by rw [HZ.out]; rfl, (((((HUA.out.store1 0 _).store1 1 _).store1 2 _).store1 3 _).store1 4 _).forget (List.nil_sublist _)⟩
    · have hwb : (S0.toList == F0.toList) = false := (bytes_beq_false_iff _ _).2 hw
      have HZ := Lib.hid (HZ1.out hw)
      clear hw HZ1 HZ2
      go_quiet (fail)
      have UA := HU1.out.drewN' nq
      simp only [entCells, entZ] at UA
      generalize World.drewN ((w.alloc (.cells #[.string F0, .int .i64 f1, .bool false] 45 (0, 0))).alloc (.cells #[.int .i64 0, .int .i64 0, .int .i64 0, .int .i64 0, .int .u64 0] 24 (0, 0))) nq = W at *
      have c0 : W.cell? ⟨B1, 0, none⟩ = some (.int .i64 0) := cell_of UA.inn.head 0
      have c1 : W.cell? ⟨B1, 1, none⟩ = some (.int .i64 0) := cell_of UA.inn.head 1
      have c2 : W.cell? ⟨B1, 2, none⟩ = some (.int .i64 0) := cell_of UA.inn.head 2
      have c3 : W.cell? ⟨B1, 3, none⟩ = some (.int .i64 0) := cell_of UA.inn.head 3
      have c4 : W.cell? ⟨B1, 4, none⟩ = some (.int .u64 0) := cell_of UA.inn.head 4
      have z0 : W.frozen? ⟨B1, 0, none⟩ = false := frozen_of UA.inn.head 0
      have z1 : W.frozen? ⟨B1, 1, none⟩ = false := frozen_of UA.inn.head 1
      have z2 : W.frozen? ⟨B1, 2, none⟩ = false := frozen_of UA.inn.head 2
      have z3 : W.frozen? ⟨B1, 3, none⟩ = false := frozen_of UA.inn.head 3
      have z4 : W.frozen? ⟨B1, 4, none⟩ = false := frozen_of UA.inn.head 4
      have e1 : W.cell? ⟨B0, 1, none⟩ = some (.int .i64 f1) := cell_of UA.inn.tail.head 1
      have e2 : W.cell? ⟨B0, 2, none⟩ = some (.bool false) := cell_of UA.inn.tail.head 2
      clear d0 d1
      have HUA := Lib.hid UA
      clear UA HU1
      go_wp2
      refine bodyPost_ret (v := .tuple #[.agg #[.int .i64 0, .int .i64 0, .int .i64 0, .int .i64 0, .int .u64 0], .bool false]) (by rw [results_cell_tmp rfl]; go_simp) rfl ?_
      exact ⟨by rw [HZ.out]; rfl, (((((HUA.out.store1 0 _).store1 1 _).store1 2 _).store1 3 _).store1 4 _).forget (List.nil_sublist _)⟩
  have HGtrue : f2 = true → Calls Tryd.prog 20 #[.slice (some ⟨g, off, none⟩) l.length cap, .int .i64 kind, .agg #[.string ⟨f0.toArray⟩, .int .i64 f1, .bool f2]] w fun e w' => e = .returned (.tuple #[.agg (entCells (readL l kind ⟨f0, f1, f2⟩).1), .bool (readL l kind ⟨f0, f1, f2⟩).2]) ∧ Upd [] [] w w' := by
    rintro rfl
    obtain ⟨S0, hS0⟩ : ∃ s : ByteArray, (⟨(l.getD 0 []).toArray⟩ : ByteArray) = s := ⟨_, rfl⟩
    obtain ⟨F0, hF0⟩ : ∃ s : ByteArray, (⟨f0.toArray⟩ : ByteArray) = s := ⟨_, rfl⟩
    rw [hS0] at h0
    rw [hF0] at U1 ⊢
    obtain ⟨B0, hB0⟩ : ∃ b, b = w.heap.size := ⟨_, rfl⟩
    obtain ⟨B1, hB1⟩ : ∃ b, b = w.heap.size + 1 := ⟨_, rfl⟩
    simp only [World.size_alloc] at U1
    rw [← hB1, ← hB0] at U1
    have HU := Lib.hid U1.drew'
    have HU1 := Lib.hid U1
    have hl1 : (0 : Int) < (l.length : Int) := by omega
    have hwr : IntKind.i64.wrap (1 + (f1 : Int)) = 1 + (f1 : Int) := IntWalk.i64_in _ (by omega)
    have d0 : ∀ nq, (World.drewN ((w.alloc (.cells #[.string F0, .int .i64 f1, .bool true] 45 (0, 0))).alloc (.cells #[.int .i64 0, .int .i64 0, .int .i64 0, .int .i64 0, .int .u64 0] 24 (0, 0))) nq).cell? ⟨g, off, none⟩ = some (.string S0) := fun nq => (cell_keep (U1.drewN' nq) hg).trans h0
    have d1 : ∀ nq, (World.drewN ((w.alloc (.cells #[.string F0, .int .i64 f1, .bool true] 45 (0, 0))).alloc (.cells #[.int .i64 0, .int .i64 0, .int .i64 0, .int .i64 0, .int .u64 0] 24 (0, 0))) nq).cell? ⟨B0, 0, none⟩ = some (.string F0) := fun nq => cell_of (U1.drewN' nq).inn.tail.head 0
    clear U1
    go_enter Tryd.func20, Tryd.ntmps20
    go_upto_block 0 with (fail)
    rw [← hB1, ← hB0]
    clear hB0 hB1
    have hz1 : S0 ≠ F0 → readL l kind ⟨f0, f1, true⟩ = (entZ, false) := fun hw => readL_no (by
      unfold readOk
      rw [decide_eq_false (fun e => hw (by rw [← hS0, ← hF0, e])), Bool.false_and, Bool.false_and])
    have hz2 : ¬ (l.length : Int) = 1 + (f1 : Int) + 1 → readL l kind ⟨f0, f1, true⟩ = (entZ, false) := fun hn => readL_no (by
      unfold readOk
      rw [decide_eq_false (p := l.length = _) (fun e => hn (by rw [e]; simp only [sizeOf]; simp)), Bool.and_false, Bool.false_and])
    have HZ1 := Lib.hid hz1
    have HZ2 := Lib.hid hz2
    have hw0 : S0 = F0 → l.getD 0 [] = f0 := fun e => by
      by_cases e' : l.getD 0 [] = f0
      · exact e'
      · exact absurd (by rw [hS0, hF0, e]) (bytes_ne e')
    have HW00 := Lib.hid hw0
    clear hz1 hz2 hS0 hF0 h0 HU hw0
    by_cases hw : S0 = F0
    · have hwb : (S0.toList == F0.toList) = true := (bytes_beq_iff _ _).2 hw
      by_cases hn : (l.length : Int) = 1 + (f1 : Int) + 1
      · have hnb : ((l.length : Int) != 1 + (f1 : Int) + 1) = false := by simpa using hn
        have HN := Lib.hid hn
        have HW0 := Lib.hid (HW00.out hw)
        clear hn hw HW00
        go_quiet (fail)
        have UA := HU1.out.drewN' nq
        simp only [entCells, entZ] at UA
        generalize World.drewN ((w.alloc (.cells #[.string F0, .int .i64 f1, .bool true] 45 (0, 0))).alloc (.cells #[.int .i64 0, .int .i64 0, .int .i64 0, .int .i64 0, .int .u64 0] 24 (0, 0))) nq = W at *
        have c0 : W.cell? ⟨B1, 0, none⟩ = some (.int .i64 0) := cell_of UA.inn.head 0
        have c1 : W.cell? ⟨B1, 1, none⟩ = some (.int .i64 0) := cell_of UA.inn.head 1
        have c2 : W.cell? ⟨B1, 2, none⟩ = some (.int .i64 0) := cell_of UA.inn.head 2
        have c3 : W.cell? ⟨B1, 3, none⟩ = some (.int .i64 0) := cell_of UA.inn.head 3
        have c4 : W.cell? ⟨B1, 4, none⟩ = some (.int .u64 0) := cell_of UA.inn.head 4
        have z0 : W.frozen? ⟨B1, 0, none⟩ = false := frozen_of UA.inn.head 0
        have z1 : W.frozen? ⟨B1, 1, none⟩ = false := frozen_of UA.inn.head 1
        have z2 : W.frozen? ⟨B1, 2, none⟩ = false := frozen_of UA.inn.head 2
        have z3 : W.frozen? ⟨B1, 3, none⟩ = false := frozen_of UA.inn.head 3
        have z4 : W.frozen? ⟨B1, 4, none⟩ = false := frozen_of UA.inn.head 4
        have e1 : W.cell? ⟨B0, 1, none⟩ = some (.int .i64 f1) := cell_of UA.inn.tail.head 1
        have e2 : W.cell? ⟨B0, 2, none⟩ = some (.bool true) := cell_of UA.inn.tail.head 2
        clear d0 d1
        have UB := UA.alloc' (.cells #[.int .i64 0, .int .i64 0, .int .i64 0] 70 (0, 0))
        obtain ⟨B2, hB2⟩ : ∃ b, b = W.heap.size := ⟨_, rfl⟩
        rw [← hB2] at UB
        have k1 : (W.alloc (.cells #[.int .i64 0, .int .i64 0, .int .i64 0] 70 (0, 0))).cell? ⟨B0, 1, none⟩ = some (.int .i64 f1) := cell_of UB.inn.tail.tail.head 1
        have HUB := Lib.hid UB
        clear UA UB HU1
        go_wp2_with fail
        rw [← hB2]
        clear hB2
        go_loopw [34] (fun q wr => ∃ (j : Nat), j ≤ f1 ∧ q = .int .i64 j ∧ (∀ i, i < j → plainL (l.getD (i + 1) []) = true) ∧ Hid (Upd [] [(B2, .cells (ints (arrN l j)).toArray 70 (0, 0)), (B1, .cells #[.int .i64 0, .int .i64 0, .int .i64 0, .int .i64 0, .int .u64 0] 24 (0, 0)), (B0, .cells #[.string F0, .int .i64 f1, .bool true] 45 (0, 0))] w wr)) (fun q _ => f1 - (RowKit.intOf q).toNat)
        case atStart => exact ⟨0, by omega, rfl, fun i h => by omega, HUB⟩
        case round =>
          obtain ⟨j, hj, rfl, hp, HV⟩ := hrel
          by_cases hjl : j < f1
          · have hj3 : j < 3 := by omega
            obtain ⟨s, hs⟩ : ∃ s, l.getD (j + 1) [] = s := ⟨_, rfl⟩
            have hn := HN.out
            have hsl : s.length ≤ 1000000000000 := by rw [← hs, List.getD_eq_getElem?_getD, List.getElem?_eq_getElem (by omega)]; exact hlen _ (List.getElem_mem _)
            have hb0 : wr.cell? ⟨g, off + (j + 1), none⟩ = some (.string ⟨s.toArray⟩) := by rw [cell_keep HV.out hg, ← hs]; exact HC.out (j + 1) (by omega)
            have hix : (j : Int) + 1 < (l.length : Int) := by omega
            have hjI : (j : Int) < (f1 : Int) := by omega
            have hj3I : (j : Int) < 3 := by omega
            have hjw : IntKind.i64.wrap ((j : Int) + 1) = (j : Int) + 1 := IntWalk.i64_in _ (by omega)
            obtain ⟨q, hq⟩ : ∃ q, plainL s = q := ⟨_, rfl⟩
            have hF : q = false → readL l kind ⟨f0, f1, true⟩ = (entZ, false) := fun e => readL_no (by
              unfold readOk
              have : ((l.drop 1).take f1).all plainL = false := by
                rw [List.all_eq_false]
                refine ⟨s, List.mem_iff_getElem?.2 ⟨j, ?_⟩, by rw [hq, e]; simp⟩
                rw [List.getElem?_take_of_lt hjl, List.getElem?_drop, Nat.add_comm 1 j, ← hs, List.getD_eq_getElem?_getD, List.getElem?_eq_getElem (by omega)]
                rfl
              rw [this, Bool.and_false])
            have HF := Lib.hid hF
            have HP := Lib.hid (fun W => tale_plain s hsl W)
            rw [hq] at HP
            have HAT := Lib.hid (fun W (h : Laid W) => atoi_call s hsl W h)
            have HS := Lib.hid hs
            have HPQ := Lib.hid hq
            have HPP := Lib.hid hp
            clear hn hF hs hq hp HZ1 HZ2
            cases q
            · go_wp2_with (go_at_call 29; refine Calls.mono (HP.out _) ?_; rintro e w5 ⟨rfl, u5⟩; have U5 := HV.out.under0 u5; have c0 : w5.cell? ⟨B1, 0, none⟩ = some (.int .i64 0) := cell_of U5.inn.tail.head 0; have c1 : w5.cell? ⟨B1, 1, none⟩ = some (.int .i64 0) := cell_of U5.inn.tail.head 1; have c2 : w5.cell? ⟨B1, 2, none⟩ = some (.int .i64 0) := cell_of U5.inn.tail.head 2; have c3 : w5.cell? ⟨B1, 3, none⟩ = some (.int .i64 0) := cell_of U5.inn.tail.head 3; have c4 : w5.cell? ⟨B1, 4, none⟩ = some (.int .u64 0) := cell_of U5.inn.tail.head 4; have z0 : w5.frozen? ⟨B1, 0, none⟩ = false := frozen_of U5.inn.tail.head 0; have z1 : w5.frozen? ⟨B1, 1, none⟩ = false := frozen_of U5.inn.tail.head 1; have z2 : w5.frozen? ⟨B1, 2, none⟩ = false := frozen_of U5.inn.tail.head 2; have z3 : w5.frozen? ⟨B1, 3, none⟩ = false := frozen_of U5.inn.tail.head 3; have z4 : w5.frozen? ⟨B1, 4, none⟩ = false := frozen_of U5.inn.tail.head 4; have e1 : w5.cell? ⟨B0, 1, none⟩ = some (.int .i64 f1) := cell_of U5.inn.tail.tail.head 1; have e2 : w5.cell? ⟨B0, 2, none⟩ = some (.bool true) := cell_of U5.inn.tail.tail.head 2; have HU5 := Lib.hid U5; clear U5 u5)
              refine bodyPost_ret (v := .tuple #[.agg #[.int .i64 0, .int .i64 0, .int .i64 0, .int .i64 0, .int .u64 0], .bool false]) (by rw [results_cell_tmp rfl]; go_simp) rfl ?_
              exact ⟨by rw [HF.out (by trivial)]; rfl, ((((((HU5.out.store' (l := [_]) 0 _).store' (l := [_]) 1 _).store' (l := [_]) 2 _).store' (l := [_]) 3 _).store' (l := [_]) 4 _)).forget (List.nil_sublist _)⟩
            · have hzj : j < (ints (arrN l j)).toArray.size := by simp [arrN]; omega
              obtain ⟨y, hy⟩ : ∃ y, (ints (arrN l j)).toArray[j]? = some y := ⟨_, Array.getElem?_eq_getElem hzj⟩
              have HSET := Lib.hid (arrN_set l j hj3)
              rw [HS.out] at HSET
              go_wp2_with (first | (go_at_call 29; refine Calls.mono (HP.out _) ?_; rintro e w5 ⟨rfl, u5⟩; have U5 := HV.out.under0 u5; have hb1 : w5.cell? ⟨g, off + (j + 1), none⟩ = some (.string ⟨s.toArray⟩) := (cell_keep u5 (by have := HV.out.size; omega)).trans hb0; have HL5 := Lib.hid (hL.upd U5); have HU5 := Lib.hid U5; clear U5 u5) | (go_at_call 30; refine Calls.mono (HAT.out _ HL5.out) ?_; rintro e w6 ⟨ev, rfl, u6⟩; have U6 := HU5.out.under0 u6; have g0 : w6.cell? ⟨B2, j, none⟩ = some y := (cell_of U6.inn.head j).trans hy; have g1 : w6.frozen? ⟨B2, j, none⟩ = false := frozen_of U6.inn.head j; have HU6 := Lib.hid U6; clear U6 u6))
              go_roundw
              case rel =>
                refine ⟨j + 1, by omega, by go_num, fun i hi => ?_, Lib.hid ?_⟩
                · rcases (by omega : i < j ∨ i = j) with h1 | rfl
                  · exact HPP.out i h1
                  · rw [HS.out]; exact HPQ.out
                · have := HU6.out.store1 j (.int .i64 (atoiV s))
                  rw [List.setIfInBounds_toArray, HSET.out] at this
                  exact this
              case measure => simp [RowKit.intOf]; omega
          · have hje : j = f1 := by omega
            have hjI : ¬ (j : Int) < (f1 : Int) := by omega
            have hn := HN.out
            have hY : readL l kind ⟨f0, f1, true⟩ = (readX l kind ⟨f0, f1, true⟩, true) := readL_yes (by
              have e1 : l.getD 0 [] = f0 := HW0.out
              have e2 : l.length = sizeOf ⟨f0, f1, true⟩ := by simp only [sizeOf]; simp; omega
              have e3 : ((l.drop 1).take f1).all plainL = true := by
                rw [List.all_eq_true]
                intro s hs
                obtain ⟨i, hi⟩ := List.mem_iff_getElem?.1 hs
                have hif : i < f1 := by
                  have := (List.getElem?_eq_some_iff.1 hi).1
                  simp at this; omega
                rw [List.getElem?_take_of_lt hif, List.getElem?_drop, Nat.add_comm 1 i] at hi
                have := hp i (by omega)
                rw [List.getD_eq_getElem?_getD, hi] at this
                exact this
              unfold readOk
              rw [decide_eq_true (p := l.getD 0 [] = _) e1, decide_eq_true (p := l.length = _) e2, e3]; rfl)
            subst hje
            obtain ⟨x0, hx0⟩ : ∃ x, (arrN l j).getD 0 0 = x := ⟨_, rfl⟩
            obtain ⟨x1, hx1⟩ : ∃ x, (arrN l j).getD 1 0 = x := ⟨_, rfl⟩
            obtain ⟨x2, hx2⟩ : ∃ x, (arrN l j).getD 2 0 = x := ⟨_, rfl⟩
            have g0 : wr.cell? ⟨B2, 0, none⟩ = some (.int .i64 x0) := by rw [cell_of HV.out.inn.head 0, ← hx0]; simp [arrN]
            have g1 : wr.cell? ⟨B2, 1, none⟩ = some (.int .i64 x1) := by rw [cell_of HV.out.inn.head 1, ← hx1]; simp [arrN]
            have g2 : wr.cell? ⟨B2, 2, none⟩ = some (.int .i64 x2) := by rw [cell_of HV.out.inn.head 2, ← hx2]; simp [arrN]
            have UA := HV.out.alloc' (.cells #[.int .i64 kind, .int .i64 x0, .int .i64 x1, .int .i64 x2, .int .u64 0] 24 (0, 0))
            have fc0 : (wr.alloc (.cells #[.int .i64 kind, .int .i64 x0, .int .i64 x1, .int .i64 x2, .int .u64 0] 24 (0, 0))).cell? ⟨B1, 0, none⟩ = some (.int .i64 0) := cell_of UA.inn.tail.tail.head 0
            have fc1 : (wr.alloc (.cells #[.int .i64 kind, .int .i64 x0, .int .i64 x1, .int .i64 x2, .int .u64 0] 24 (0, 0))).cell? ⟨B1, 1, none⟩ = some (.int .i64 0) := cell_of UA.inn.tail.tail.head 1
            have fc2 : (wr.alloc (.cells #[.int .i64 kind, .int .i64 x0, .int .i64 x1, .int .i64 x2, .int .u64 0] 24 (0, 0))).cell? ⟨B1, 2, none⟩ = some (.int .i64 0) := cell_of UA.inn.tail.tail.head 2
            have fc3 : (wr.alloc (.cells #[.int .i64 kind, .int .i64 x0, .int .i64 x1, .int .i64 x2, .int .u64 0] 24 (0, 0))).cell? ⟨B1, 3, none⟩ = some (.int .i64 0) := cell_of UA.inn.tail.tail.head 3
            have fc4 : (wr.alloc (.cells #[.int .i64 kind, .int .i64 x0, .int .i64 x1, .int .i64 x2, .int .u64 0] 24 (0, 0))).cell? ⟨B1, 4, none⟩ = some (.int .u64 0) := cell_of UA.inn.tail.tail.head 4
            have fz0 : (wr.alloc (.cells #[.int .i64 kind, .int .i64 x0, .int .i64 x1, .int .i64 x2, .int .u64 0] 24 (0, 0))).frozen? ⟨B1, 0, none⟩ = false := frozen_of UA.inn.tail.tail.head 0
            have fz1 : (wr.alloc (.cells #[.int .i64 kind, .int .i64 x0, .int .i64 x1, .int .i64 x2, .int .u64 0] 24 (0, 0))).frozen? ⟨B1, 1, none⟩ = false := frozen_of UA.inn.tail.tail.head 1
            have fz2 : (wr.alloc (.cells #[.int .i64 kind, .int .i64 x0, .int .i64 x1, .int .i64 x2, .int .u64 0] 24 (0, 0))).frozen? ⟨B1, 2, none⟩ = false := frozen_of UA.inn.tail.tail.head 2
            have fz3 : (wr.alloc (.cells #[.int .i64 kind, .int .i64 x0, .int .i64 x1, .int .i64 x2, .int .u64 0] 24 (0, 0))).frozen? ⟨B1, 3, none⟩ = false := frozen_of UA.inn.tail.tail.head 3
            have fz4 : (wr.alloc (.cells #[.int .i64 kind, .int .i64 x0, .int .i64 x1, .int .i64 x2, .int .u64 0] 24 (0, 0))).frozen? ⟨B1, 4, none⟩ = false := frozen_of UA.inn.tail.tail.head 4
            have fe1 : (wr.alloc (.cells #[.int .i64 kind, .int .i64 x0, .int .i64 x1, .int .i64 x2, .int .u64 0] 24 (0, 0))).cell? ⟨B0, 1, none⟩ = some (.int .i64 j) := cell_of UA.inn.tail.tail.tail.head 1
            have fe2 : (wr.alloc (.cells #[.int .i64 kind, .int .i64 x0, .int .i64 x1, .int .i64 x2, .int .u64 0] 24 (0, 0))).cell? ⟨B0, 2, none⟩ = some (.bool true) := cell_of UA.inn.tail.tail.tail.head 2
            obtain ⟨s, hs⟩ : ∃ s, l.getD (j + 1) [] = s := ⟨_, rfl⟩
            have hsl : s.length ≤ 1000000000000 := by rw [← hs, List.getD_eq_getElem?_getD, List.getElem?_eq_getElem (by omega)]; exact hlen _ (List.getElem_mem _)
            have hb0 : (wr.alloc (.cells #[.int .i64 kind, .int .i64 x0, .int .i64 x1, .int .i64 x2, .int .u64 0] 24 (0, 0))).cell? ⟨g, off + (1 + j), none⟩ = some (.string ⟨s.toArray⟩) := by rw [cell_keep UA hg, ← hs, Nat.add_comm 1 j]; exact HC.out (j + 1) (by omega)
            have HX : readX l kind ⟨f0, j, true⟩ = ⟨kind, x0, x1, x2, puV s⟩ := by unfold readX; rw [hx0, hx1, hx2, ← hs]; rfl
            have hix : 1 + (j : Int) < (l.length : Int) := by omega
            have hjw : IntKind.i64.wrap (1 + (j : Int)) = 1 + (j : Int) := IntWalk.i64_in _ (by omega)
            have HP := Lib.hid (fun W (h : Laid W) => pu_call s hsl W h)
            obtain ⟨u, hu⟩ : ∃ u, puV s = u := ⟨_, rfl⟩
            rw [hu] at HP HX
            have HY := Lib.hid hY
            rw [HX] at HY
            have HLA := Lib.hid (hL.upd UA)
            have HUA := Lib.hid UA
            clear hY UA hx0 hx1 hx2 HX hn hp HZ1 HZ2 hs hu
            go_wp2_with (go_at_call 31; refine Calls.mono (HP.out _ HLA.out) ?_; rintro e w7 ⟨ev, rfl, u7⟩; have U7 := HUA.out.under0 u7; have U8 := U7.store1 4 (.int .u64 u); have pc0 : (w7.setCell ⟨wr.heap.size, 4, none⟩ (.int .u64 u)).cell? ⟨B1, 0, none⟩ = some (.int .i64 0) := cell_of U8.inn.tail.tail.head 0; have pc1 : (w7.setCell ⟨wr.heap.size, 4, none⟩ (.int .u64 u)).cell? ⟨B1, 1, none⟩ = some (.int .i64 0) := cell_of U8.inn.tail.tail.head 1; have pc2 : (w7.setCell ⟨wr.heap.size, 4, none⟩ (.int .u64 u)).cell? ⟨B1, 2, none⟩ = some (.int .i64 0) := cell_of U8.inn.tail.tail.head 2; have pc3 : (w7.setCell ⟨wr.heap.size, 4, none⟩ (.int .u64 u)).cell? ⟨B1, 3, none⟩ = some (.int .i64 0) := cell_of U8.inn.tail.tail.head 3; have pc4 : (w7.setCell ⟨wr.heap.size, 4, none⟩ (.int .u64 u)).cell? ⟨B1, 4, none⟩ = some (.int .u64 0) := cell_of U8.inn.tail.tail.head 4; have pz0 : (w7.setCell ⟨wr.heap.size, 4, none⟩ (.int .u64 u)).frozen? ⟨B1, 0, none⟩ = false := frozen_of U8.inn.tail.tail.head 0; have pz1 : (w7.setCell ⟨wr.heap.size, 4, none⟩ (.int .u64 u)).frozen? ⟨B1, 1, none⟩ = false := frozen_of U8.inn.tail.tail.head 1; have pz2 : (w7.setCell ⟨wr.heap.size, 4, none⟩ (.int .u64 u)).frozen? ⟨B1, 2, none⟩ = false := frozen_of U8.inn.tail.tail.head 2; have pz3 : (w7.setCell ⟨wr.heap.size, 4, none⟩ (.int .u64 u)).frozen? ⟨B1, 3, none⟩ = false := frozen_of U8.inn.tail.tail.head 3; have pz4 : (w7.setCell ⟨wr.heap.size, 4, none⟩ (.int .u64 u)).frozen? ⟨B1, 4, none⟩ = false := frozen_of U8.inn.tail.tail.head 4; have pe1 : (w7.setCell ⟨wr.heap.size, 4, none⟩ (.int .u64 u)).cell? ⟨B0, 1, none⟩ = some (.int .i64 j) := cell_of U8.inn.tail.tail.tail.head 1; have pe2 : (w7.setCell ⟨wr.heap.size, 4, none⟩ (.int .u64 u)).cell? ⟨B0, 2, none⟩ = some (.bool true) := cell_of U8.inn.tail.tail.tail.head 2; have q0 : (w7.setCell ⟨wr.heap.size, 4, none⟩ (.int .u64 u)).cell? ⟨wr.heap.size, 0, none⟩ = some (.int .i64 kind) := cell_of U8.inn.head 0; have q1 : (w7.setCell ⟨wr.heap.size, 4, none⟩ (.int .u64 u)).cell? ⟨wr.heap.size, 1, none⟩ = some (.int .i64 x0) := cell_of U8.inn.head 1; have q2 : (w7.setCell ⟨wr.heap.size, 4, none⟩ (.int .u64 u)).cell? ⟨wr.heap.size, 2, none⟩ = some (.int .i64 x1) := cell_of U8.inn.head 2; have q3 : (w7.setCell ⟨wr.heap.size, 4, none⟩ (.int .u64 u)).cell? ⟨wr.heap.size, 3, none⟩ = some (.int .i64 x2) := cell_of U8.inn.head 3; have q4 : (w7.setCell ⟨wr.heap.size, 4, none⟩ (.int .u64 u)).cell? ⟨wr.heap.size, 4, none⟩ = some (.int .u64 u) := cell_of U8.inn.head 4; have r4 : w7.cell? ⟨wr.heap.size, 4, none⟩ = some (.int .u64 0) := cell_of U7.inn.head 4; have r5 : w7.frozen? ⟨wr.heap.size, 4, none⟩ = false := frozen_of U7.inn.head 4; have HU8 := Lib.hid U8; clear U8 U7 u7)
            refine bodyPost_ret (v := .tuple #[.agg #[.int .i64 kind, .int .i64 x0, .int .i64 x1, .int .i64 x2, .int .u64 u], .bool true]) (by rw [results_cell_tmp rfl]; go_simp) rfl ?_
            exact ⟨by rw [HY.out]; rfl, ((((((HU8.out.store' (l := [_, _]) 0 _).store' (l := [_, _]) 1 _).store' (l := [_, _]) 2 _).store' (l := [_, _]) 3 _).store' (l := [_, _]) 4 _)).forget (List.nil_sublist _)⟩
      · have hnb : ((l.length : Int) != 1 + (f1 : Int) + 1) = true := by simpa using hn
        have HZ := Lib.hid (HZ2.out hn)
        clear hn hw HZ1 HZ2
        go_quiet (fail)
        have UA := HU1.out.drewN' nq
        simp only [entCells, entZ] at UA
        generalize World.drewN ((w.alloc (.cells #[.string F0, .int .i64 f1, .bool true] 45 (0, 0))).alloc (.cells #[.int .i64 0, .int .i64 0, .int .i64 0, .int .i64 0, .int .u64 0] 24 (0, 0))) nq = W at *
        have c0 : W.cell? ⟨B1, 0, none⟩ = some (.int .i64 0) := cell_of UA.inn.head 0
        have c1 : W.cell? ⟨B1, 1, none⟩ = some (.int .i64 0) := cell_of UA.inn.head 1
        have c2 : W.cell? ⟨B1, 2, none⟩ = some (.int .i64 0) := cell_of UA.inn.head 2
        have c3 : W.cell? ⟨B1, 3, none⟩ = some (.int .i64 0) := cell_of UA.inn.head 3
        have c4 : W.cell? ⟨B1, 4, none⟩ = some (.int .u64 0) := cell_of UA.inn.head 4
        have z0 : W.frozen? ⟨B1, 0, none⟩ = false := frozen_of UA.inn.head 0
        have z1 : W.frozen? ⟨B1, 1, none⟩ = false := frozen_of UA.inn.head 1
        have z2 : W.frozen? ⟨B1, 2, none⟩ = false := frozen_of UA.inn.head 2
        have z3 : W.frozen? ⟨B1, 3, none⟩ = false := frozen_of UA.inn.head 3
        have z4 : W.frozen? ⟨B1, 4, none⟩ = false := frozen_of UA.inn.head 4
        have e1 : W.cell? ⟨B0, 1, none⟩ = some (.int .i64 f1) := cell_of UA.inn.tail.head 1
        have e2 : W.cell? ⟨B0, 2, none⟩ = some (.bool true) := cell_of UA.inn.tail.head 2
        clear d0 d1
        have HUA := Lib.hid UA
        clear UA HU1
        go_wp2
        refine bodyPost_ret (v := .tuple #[.agg #[.int .i64 0, .int .i64 0, .int .i64 0, .int .i64 0, .int .u64 0], .bool false]) (by rw [results_cell_tmp rfl]; go_simp) rfl ?_
        exact ⟨by rw [HZ.out]; rfl, (((((HUA.out.store1 0 _).store1 1 _).store1 2 _).store1 3 _).store1 4 _).forget (List.nil_sublist _)⟩
    · have hwb : (S0.toList == F0.toList) = false := (bytes_beq_false_iff _ _).2 hw
      have HZ := Lib.hid (HZ1.out hw)
      clear hw HZ1 HZ2
      go_quiet (fail)
      have UA := HU1.out.drewN' nq
      simp only [entCells, entZ] at UA
      generalize World.drewN ((w.alloc (.cells #[.string F0, .int .i64 f1, .bool true] 45 (0, 0))).alloc (.cells #[.int .i64 0, .int .i64 0, .int .i64 0, .int .i64 0, .int .u64 0] 24 (0, 0))) nq = W at *
      have c0 : W.cell? ⟨B1, 0, none⟩ = some (.int .i64 0) := cell_of UA.inn.head 0
      have c1 : W.cell? ⟨B1, 1, none⟩ = some (.int .i64 0) := cell_of UA.inn.head 1
      have c2 : W.cell? ⟨B1, 2, none⟩ = some (.int .i64 0) := cell_of UA.inn.head 2
      have c3 : W.cell? ⟨B1, 3, none⟩ = some (.int .i64 0) := cell_of UA.inn.head 3
      have c4 : W.cell? ⟨B1, 4, none⟩ = some (.int .u64 0) := cell_of UA.inn.head 4
      have z0 : W.frozen? ⟨B1, 0, none⟩ = false := frozen_of UA.inn.head 0
      have z1 : W.frozen? ⟨B1, 1, none⟩ = false := frozen_of UA.inn.head 1
      have z2 : W.frozen? ⟨B1, 2, none⟩ = false := frozen_of UA.inn.head 2
      have z3 : W.frozen? ⟨B1, 3, none⟩ = false := frozen_of UA.inn.head 3
      have z4 : W.frozen? ⟨B1, 4, none⟩ = false := frozen_of UA.inn.head 4
      have e1 : W.cell? ⟨B0, 1, none⟩ = some (.int .i64 f1) := cell_of UA.inn.tail.head 1
      have e2 : W.cell? ⟨B0, 2, none⟩ = some (.bool true) := cell_of UA.inn.tail.head 2
      clear d0 d1
      have HUA := Lib.hid UA
      clear UA HU1
      go_wp2
      refine bodyPost_ret (v := .tuple #[.agg #[.int .i64 0, .int .i64 0, .int .i64 0, .int .i64 0, .int .u64 0], .bool false]) (by rw [results_cell_tmp rfl]; go_simp) rfl ?_
      exact ⟨by rw [HZ.out]; rfl, (((((HUA.out.store1 0 _).store1 1 _).store1 2 _).store1 3 _).store1 4 _).forget (List.nil_sublist _)⟩
  cases f2
  · exact HGfalse rfl
  · exact HGtrue rfl

end Go.Proofs.YtnmbehogiioonaaDoor
