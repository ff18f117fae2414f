/- The entry of a line. Condition: the library's variables are as its text lays them. -/
import Derived.Test.YtnmbehogiioonaaDoorT23Split
import Derived.Test.YtnmbehogiioonaaDoorT23Line
set_option linter.unusedVariables false
set_option linter.unusedSimpArgs false
namespace Go.Proofs.YtnmbehogiioonaaDoor
open Go.RowKit Go.Shelf Go.Lib

/-- the entry that a line is by a form, if it is one -/
def tryF (l : List UInt8) (kind : Int) (f : FormS) : Option EntS :=
  if (readL (splitL l) kind f).2 = true ∧ Lib.join (wordsOf (readL (splitL l) kind f).1 f) [32] = l then some (readL (splitL l) kind f).1 else none
def stepGo (l : List UInt8) : List FormS → Int → Option EntS
  | [], _ => none
  | f :: r, k => match tryF l k f with
    | some x => some x
    | none => stepGo l r (k + 1)
def stepOf (l : List UInt8) : Option EntS := stepGo l formsL 1
def stepV (l : List UInt8) : Value := match stepOf l with
  | some x => .tuple #[.agg (entCells x), .int .i64 0]
  | none => .tuple #[.agg (entCells entZ), .int .i64 9]
theorem stepV_some {l : List UInt8} {x : EntS} (h : stepOf l = some x) : stepV l = .tuple #[.agg (entCells x), .int .i64 0] := by unfold stepV; rw [h]
theorem stepV_none {l : List UInt8} (h : stepOf l = none) : stepV l = .tuple #[.agg (entCells entZ), .int .i64 9] := by unfold stepV; rw [h]
theorem readX_ok (l : List (List UInt8)) (kind : Int) (hk : I64 kind) (f : FormS) : (readX l kind f).Ok := by
  have h : ∀ j k, I64 ((arrN l j).getD k 0) := by
    intro j k
    have z : I64 0 := ⟨by decide, by decide⟩
    have hz : ∀ i, I64 (if i < j then atoiV (l.getD (i + 1) []) else 0) := by
      intro i; split
      · exact atoiV_I64 _
      · exact z
    rcases (by omega : k = 0 ∨ k = 1 ∨ k = 2 ∨ 3 ≤ k) with rfl | rfl | rfl | h3
    · exact hz 0
    · exact hz 1
    · exact hz 2
    · unfold arrN
      rw [List.getD_eq_getElem?_getD, List.getElem?_eq_none (by simp; omega)]
      exact z
  refine ⟨hk, h f.size 0, h f.size 1, h f.size 2, ?_⟩
  show (if f.scalar then puV _ else 0) < _
  split
  · exact puV_lt _
  · decide
theorem readL_ok (l : List (List UInt8)) (kind : Int) (hk : I64 kind) (f : FormS) : (readL l kind f).1.Ok := by
  unfold readL
  split
  · exact readX_ok l kind hk f
  · refine ⟨?_, ?_, ?_, ?_, ?_⟩ <;> first | decide | exact ⟨by decide, by decide⟩
theorem formsCells_at (j : Nat) (hj : j < 12) (i : Nat) (hi : i < 3) : formsCells.toArray[j * 3 + i]? = (formCells (formsL.getD j ⟨[], 0, false⟩))[i]? := by
  have : ∀ j : Fin 12, ∀ i : Fin 3, formsCells[j.val * 3 + i.val]? = (formCells (formsL.getD j.val ⟨[], 0, false⟩))[i.val]? := by
    intro j i
    rcases j with ⟨j, hj⟩
    rcases i with ⟨i, hi⟩
    rcases (by omega : j = 0 ∨ j = 1 ∨ j = 2 ∨ j = 3 ∨ j = 4 ∨ j = 5 ∨ j = 6 ∨ j = 7 ∨ j = 8 ∨ j = 9 ∨ j = 10 ∨ j = 11) with rfl | rfl | rfl | rfl | rfl | rfl | rfl | rfl | rfl | rfl | rfl | rfl <;>
    rcases (by omega : i = 0 ∨ i = 1 ∨ i = 2) with rfl | rfl | rfl <;> rfl
  simpa using this ⟨j, hj⟩ ⟨i, hi⟩

theorem splitL_len1 (l : List UInt8) : (splitL l).length ≤ l.length + 1 := by
  have : ∀ k s, (splitK [32] 0 k s).length ≤ k + 1 := by
    intro k
    induction k with
    | zero => intro s; simp [splitK]
    | succ k ih => intro s; unfold splitK; split <;> simp; exact ih _
  have h2 := this (count l [32]) l
  rw [count_one] at h2
  have := List.count_le_length (a := (32 : UInt8)) (l := l)
  unfold splitL Lib.split
  rw [count_one]
  omega

set_option maxRecDepth 100000 in
set_option maxHeartbeats 4000000 in
theorem tale_step (l : List UInt8) (hl : l.length ≤ 1000000000) (w : World) (hL : Laid w) :
    Calls Tryd.prog 11 #[.string ⟨l.toArray⟩] w fun e w' => e = .returned (stepV l) ∧ Upd [] [] w w' := by
  obtain ⟨S, hS⟩ : ∃ s : ByteArray, (⟨l.toArray⟩ : ByteArray) = s := ⟨_, rfl⟩
  have HSP := Lib.hid (fun W (h : Laid W) => split_call l hl W h)
  rw [hS] at HSP ⊢
  have U1 := (Upd.refl (In.nil w)).alloc' (.cells (entCells entZ) 24 (0, 0))
  have HL1 := Lib.hid (hL.upd U1)
  have HU1 := Lib.hid U1
  clear U1
  have HFS := Lib.hid (fun W => tale_forms W)
  have HSS := Lib.hid hS
  clear hS
  go_enter Tryd.func11, Tryd.ntmps11
  go_wp2_with (first | (go_at_call 19; refine Calls.mono (HSP.out _ HL1.out) ?_; rintro e w2 ⟨v, h, rfl, sl, u2⟩; have U2 := Lib.hid (HU1.out.more u2); have SL := Lib.hid sl; clear sl u2) | (go_at_call 13; refine Calls.mono (HFS.out _) ?_; rintro e w3 ⟨b, rfl, u3⟩; have U3 := Lib.hid (U2.out.more u3)))
  go_loopw [13] (fun q wr => ∃ (j : Nat), j ≤ 12 ∧ q = .int .i64 j ∧ stepGo l (formsL.drop j) (j + 1) = stepOf l ∧ Hid (Upd [] ([(b, .cells formsCells.toArray 45 (0, 0))] ++ (h ++ [(w.heap.size, .cells (entCells entZ) 24 (0, 0))])) w wr)) (fun q _ => 12 - (RowKit.intOf q).toNat)
  case atStart => exact ⟨0, by omega, rfl, rfl, U3⟩
  case round =>
    obtain ⟨j, hj, rfl, hg, HV⟩ := hrel
    by_cases hjl : j < 12
    · obtain ⟨f, hf⟩ : ∃ f, formsL.getD j ⟨[], 0, false⟩ = f := ⟨_, rfl⟩
      have hfm : f ∈ formsL := by
        rw [← hf, List.getD_eq_getElem?_getD, List.getElem?_eq_getElem (by simpa [formsL] using hjl)]
        exact List.getElem_mem _
      have hfs := formsL_size hfm
      have hdr : formsL.drop j = f :: formsL.drop (j + 1) := by
        rw [List.drop_eq_getElem_cons (by simpa [formsL] using hjl), ← hf, List.getD_eq_getElem?_getD, List.getElem?_eq_getElem (by simpa [formsL] using hjl)]
        rfl
      rw [hdr] at hg
      have hca := fun i hi => (cell_of HV.out.inn.head (j * 3 + i)).trans (formsCells_at j hjl i hi)
      rw [hf] at hca
      have HWL := Lib.hid (fun (x : EntS) (ho : x.Ok) => words_len (x := x) ho hfm)
      obtain ⟨f0, f1, f2⟩ := f
      simp only at hfs
      have d0 : wr.cell? ⟨b, j * 3, none⟩ = some (.string ⟨f0.toArray⟩) := hca 0 (by decide)
      have d1 : wr.cell? ⟨b, j * 3 + 1, none⟩ = some (.int .i64 f1) := hca 1 (by decide)
      have d2 : wr.cell? ⟨b, j * 3 + 2, none⟩ = some (.bool f2) := hca 2 (by decide)
      have hjI : (j : Int) < 12 := by omega
      have hjk : I64 ((j : Int) + 1) := ⟨by omega, by omega⟩
      have hjw : IntKind.i64.wrap ((j : Int) + 1) = (j : Int) + 1 := IntWalk.i64_in _ (by omega)
      have hxo := readL_ok (splitL l) (j + 1) hjk ⟨f0, f1, f2⟩
      have hR := fun v h W hs hi hL => tale_read (splitL l) (splitK_pos _ _ _) (by have := count_le l [32]; have h2 := splitL_len1 l; omega) (fun s hs => by have := splitL_len l s hs; omega) v h (j + 1) hjk ⟨f0, f1, f2⟩ hfs W hs hi hL
      have ht : tryF l (j + 1) ⟨f0, f1, f2⟩ = if (readL (splitL l) (j + 1) ⟨f0, f1, f2⟩).2 = true ∧ Lib.join (wordsOf (readL (splitL l) (j + 1) ⟨f0, f1, f2⟩).1 ⟨f0, f1, f2⟩) [32] = l then some (readL (splitL l) (j + 1) ⟨f0, f1, f2⟩).1 else none := rfl
      have hg2 : (match tryF l (j + 1) ⟨f0, f1, f2⟩ with | some x => some x | none => stepGo l (formsL.drop (j + 1)) (j + 1 + 1)) = stepOf l := hg
      obtain ⟨x, hx⟩ : ∃ x, (readL (splitL l) (j + 1) ⟨f0, f1, f2⟩).1 = x := ⟨_, rfl⟩
      obtain ⟨ok, hok⟩ : ∃ x, (readL (splitL l) (j + 1) ⟨f0, f1, f2⟩).2 = x := ⟨_, rfl⟩
      rw [hx, hok] at hR ht
      rw [hx] at hxo
      rw [ht] at hg2
      obtain ⟨x0, x1, x2, x3, x4⟩ := x
      have HWL2 := Lib.hid (HWL.out _ hxo)
      have HWW := Lib.hid (fun W (h : Tab W) => tale_words ⟨x0, x1, x2, x3, x4⟩ hxo ⟨f0, f1, f2⟩ hfs W h)
      simp only [entCells, formCells] at hR HWW
      have UA := HV.out.alloc' (.cells #[.string ⟨f0.toArray⟩, .int .i64 f1, .bool f2] 45 (0, 0))
      have HRR := Lib.hid (hR v h _ SL.out UA.inn.tail.right.left (hL.upd UA))
      have HUA := Lib.hid UA
      have HG := Lib.hid hg2
      clear hR ht hg hg2 hdr hca hx hok hf hxo UA hfm HWL hjk
      cases ok
      · go_wp2_with (go_at_call 20; refine Calls.mono HRR.out ?_; rintro e w5 ⟨rfl, u5⟩; have U5 := Lib.hid (HUA.out.under0 u5); clear u5)
        go_roundw
        case rel => exact ⟨j + 1, by omega, by go_num, HG.out, Lib.hid ((U5.out.drop1).skip' _)⟩
        case measure => simp [RowKit.intOf]; omega
      · obtain ⟨J, hJ⟩ : ∃ s : ByteArray, (⟨(Lib.join (wordsOf ⟨x0, x1, x2, x3, x4⟩ ⟨f0, f1, f2⟩) [32]).toArray⟩ : ByteArray) = s := ⟨_, rfl⟩
        have HJ := Lib.hid hJ
        have hsame : J = S ↔ Lib.join (wordsOf ⟨x0, x1, x2, x3, x4⟩ ⟨f0, f1, f2⟩) [32] = l := by
          rw [← hJ, ← HSS.out]
          constructor
          · intro e; injection e with e; simpa using e
          · intro e; rw [e]
        clear hJ
        by_cases hq : J = S
        · have hqb : (J.toList == S.toList) = true := (bytes_beq_iff _ _).2 hq
          have HX : Hid (stepOf l = some ⟨x0, x1, x2, x3, x4⟩) := Lib.hid (by rw [← HG.out, if_pos ⟨rfl, hsame.1 hq⟩])
          clear hq hsame
          go_wp2_with (first | (go_at_call 20; refine Calls.mono HRR.out ?_; rintro e w5 ⟨rfl, u5⟩; have U6 := (HUA.out.under0 u5).alloc' (.cells #[.int .i64 x0, .int .i64 x1, .int .i64 x2, .int .i64 x3, .int .u64 x4] 24 (0, 0)); have e0 : (w5.alloc (.cells #[.int .i64 x0, .int .i64 x1, .int .i64 x2, .int .i64 x3, .int .u64 x4] 24 (0, 0))).cell? ⟨wr.heap.size, 0, none⟩ = some (.string ⟨f0.toArray⟩) := cell_of U6.inn.tail.head 0; have e1 : (w5.alloc (.cells #[.int .i64 x0, .int .i64 x1, .int .i64 x2, .int .i64 x3, .int .u64 x4] 24 (0, 0))).cell? ⟨wr.heap.size, 1, none⟩ = some (.int .i64 f1) := cell_of U6.inn.tail.head 1; have e2 : (w5.alloc (.cells #[.int .i64 x0, .int .i64 x1, .int .i64 x2, .int .i64 x3, .int .u64 x4] 24 (0, 0))).cell? ⟨wr.heap.size, 2, none⟩ = some (.bool f2) := cell_of U6.inn.tail.head 2; have HT6 := Lib.hid (hL.upd U6).tab; have HU6 := Lib.hid U6; clear u5 U6) | (go_at_call 16; refine Calls.mono (HWW.out _ HT6.out) ?_; rintro e w7 ⟨v2, h2, rfl, sl2, u7⟩; have U7 := Lib.hid (HU6.out.more u7); have SL2 := Lib.hid sl2; clear sl2 u7) | (go_at_call 15; refine Calls.mono (join_call SL2.out rfl (by simp [wordsOf]) (by have := HWL2.out.1; omega) U7.out.inn.left (by have := HWL2.out.2; omega)) ?_; rw [HJ.out]; rintro e w8 ⟨rfl, u8⟩; have U8 := U7.out.under0 u8; have U9 := U8.forget ((List.sublist_append_right h _).trans ((List.sublist_append_right [(b, Obj.cells formsCells.toArray 45 (0, 0))] _).trans ((List.sublist_cons_self _ _).trans ((List.sublist_cons_self _ _).trans (List.sublist_append_right h2 _))))); have q0 : w8.cell? ⟨w5.heap.size, 0, none⟩ = some (.int .i64 x0) := cell_of U8.inn.right.head 0; have q1 : w8.cell? ⟨w5.heap.size, 1, none⟩ = some (.int .i64 x1) := cell_of U8.inn.right.head 1; have q2 : w8.cell? ⟨w5.heap.size, 2, none⟩ = some (.int .i64 x2) := cell_of U8.inn.right.head 2; have q3 : w8.cell? ⟨w5.heap.size, 3, none⟩ = some (.int .i64 x3) := cell_of U8.inn.right.head 3; have q4 : w8.cell? ⟨w5.heap.size, 4, none⟩ = some (.int .u64 x4) := cell_of U8.inn.right.head 4; have z0 : w8.cell? ⟨w.heap.size, 0, none⟩ = some (.int .i64 0) := cell_of U9.inn.head 0; have z1 : w8.cell? ⟨w.heap.size, 1, none⟩ = some (.int .i64 0) := cell_of U9.inn.head 1; have z2 : w8.cell? ⟨w.heap.size, 2, none⟩ = some (.int .i64 0) := cell_of U9.inn.head 2; have z3 : w8.cell? ⟨w.heap.size, 3, none⟩ = some (.int .i64 0) := cell_of U9.inn.head 3; have z4 : w8.cell? ⟨w.heap.size, 4, none⟩ = some (.int .u64 0) := cell_of U9.inn.head 4; have y0 : w8.frozen? ⟨w.heap.size, 0, none⟩ = false := frozen_of U9.inn.head 0; have y1 : w8.frozen? ⟨w.heap.size, 1, none⟩ = false := frozen_of U9.inn.head 1; have y2 : w8.frozen? ⟨w.heap.size, 2, none⟩ = false := frozen_of U9.inn.head 2; have y3 : w8.frozen? ⟨w.heap.size, 3, none⟩ = false := frozen_of U9.inn.head 3; have y4 : w8.frozen? ⟨w.heap.size, 4, none⟩ = false := frozen_of U9.inn.head 4; have HU9 := Lib.hid U9; clear U9; have HU8 := Lib.hid U8; clear U8 u8))
          refine bodyPost_ret (v := .tuple #[.agg #[.int .i64 x0, .int .i64 x1, .int .i64 x2, .int .i64 x3, .int .u64 x4], .int .i64 0]) (by rw [results_cell_tmp rfl]; go_simp) rfl ?_
          exact ⟨by rw [stepV_some HX.out]; rfl, (((((HU9.out.store1 0 _).store1 1 _).store1 2 _).store1 3 _).store1 4 _).forget (List.nil_sublist _)⟩
        · have hqb : (J.toList == S.toList) = false := (bytes_beq_false_iff _ _).2 hq
          have HX : Hid (stepGo l (formsL.drop (j + 1)) (j + 1 + 1) = stepOf l) := Lib.hid (by rw [← HG.out, if_neg (fun e => hq (hsame.2 e.2))])
          clear hq hsame
          go_wp2_with (first | (go_at_call 20; refine Calls.mono HRR.out ?_; rintro e w5 ⟨rfl, u5⟩; have U6 := (HUA.out.under0 u5).alloc' (.cells #[.int .i64 x0, .int .i64 x1, .int .i64 x2, .int .i64 x3, .int .u64 x4] 24 (0, 0)); have e0 : (w5.alloc (.cells #[.int .i64 x0, .int .i64 x1, .int .i64 x2, .int .i64 x3, .int .u64 x4] 24 (0, 0))).cell? ⟨wr.heap.size, 0, none⟩ = some (.string ⟨f0.toArray⟩) := cell_of U6.inn.tail.head 0; have e1 : (w5.alloc (.cells #[.int .i64 x0, .int .i64 x1, .int .i64 x2, .int .i64 x3, .int .u64 x4] 24 (0, 0))).cell? ⟨wr.heap.size, 1, none⟩ = some (.int .i64 f1) := cell_of U6.inn.tail.head 1; have e2 : (w5.alloc (.cells #[.int .i64 x0, .int .i64 x1, .int .i64 x2, .int .i64 x3, .int .u64 x4] 24 (0, 0))).cell? ⟨wr.heap.size, 2, none⟩ = some (.bool f2) := cell_of U6.inn.tail.head 2; have HT6 := Lib.hid (hL.upd U6).tab; have HU6 := Lib.hid U6; clear u5 U6) | (go_at_call 16; refine Calls.mono (HWW.out _ HT6.out) ?_; rintro e w7 ⟨v2, h2, rfl, sl2, u7⟩; have U7 := Lib.hid (HU6.out.more u7); have SL2 := Lib.hid sl2; clear sl2 u7) | (go_at_call 15; refine Calls.mono (join_call SL2.out rfl (by simp [wordsOf]) (by have := HWL2.out.1; omega) U7.out.inn.left (by have := HWL2.out.2; omega)) ?_; rw [HJ.out]; rintro e w8 ⟨rfl, u8⟩; have U8 := U7.out.under0 u8;  have HU8 := Lib.hid U8; clear U8 u8))
          go_roundw
          case rel => exact ⟨j + 1, by omega, by go_num, HX.out, Lib.hid (HU8.out.forget ((List.sublist_cons_self _ _).trans ((List.sublist_cons_self _ _).trans (List.sublist_append_right h2 _))))⟩
          case measure => simp [RowKit.intOf]; omega
    · have hje : j = 12 := by omega
      subst hje
      have HX : Hid (stepOf l = none) := Lib.hid (by rw [← hg]; rfl)
      have U9 := HV.out.forget ((List.sublist_append_right h _).trans (List.sublist_append_right [(b, Obj.cells formsCells.toArray 45 (0, 0))] _))
      have z0 : wr.cell? ⟨w.heap.size, 0, none⟩ = some (.int .i64 0) := cell_of U9.inn.head 0
      have y0 : wr.frozen? ⟨w.heap.size, 0, none⟩ = false := frozen_of U9.inn.head 0
      have z1 : wr.cell? ⟨w.heap.size, 1, none⟩ = some (.int .i64 0) := cell_of U9.inn.head 1
      have y1 : wr.frozen? ⟨w.heap.size, 1, none⟩ = false := frozen_of U9.inn.head 1
      have z2 : wr.cell? ⟨w.heap.size, 2, none⟩ = some (.int .i64 0) := cell_of U9.inn.head 2
      have y2 : wr.frozen? ⟨w.heap.size, 2, none⟩ = false := frozen_of U9.inn.head 2
      have z3 : wr.cell? ⟨w.heap.size, 3, none⟩ = some (.int .i64 0) := cell_of U9.inn.head 3
      have y3 : wr.frozen? ⟨w.heap.size, 3, none⟩ = false := frozen_of U9.inn.head 3
      have z4 : wr.cell? ⟨w.heap.size, 4, none⟩ = some (.int .u64 0) := cell_of U9.inn.head 4
      have y4 : wr.frozen? ⟨w.heap.size, 4, none⟩ = false := frozen_of U9.inn.head 4
      have HU9 := Lib.hid U9
      clear U9 hg hj
      go_wp2
      refine bodyPost_ret (v := .tuple #[.agg #[.int .i64 0, .int .i64 0, .int .i64 0, .int .i64 0, .int .u64 0], .int .i64 9]) (by rw [results_cell_tmp rfl]; go_simp) rfl ?_
      exact ⟨by rw [stepV_none HX.out]; rfl, (((((HU9.out.store1 0 _).store1 1 _).store1 2 _).store1 3 _).store1 4 _).forget (List.nil_sublist _)⟩

end Go.Proofs.YtnmbehogiioonaaDoor
