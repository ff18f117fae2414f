/- An entry's words. Condition: the library's table is as its text lays it. -/
import Derived.Test.YtnmbehogiioonaaDoorT23Fmt
import Derived.Test.YtnmbehogiioonaaDoorT23Forms
import Derived.Lib.ItoaMem
import Derived.BigQuiet
import Derived.Deep.RegionHeld3
import Derived.Deep.DeepCutAuto
import Derived.Deep.CutBlock
set_option linter.unusedVariables false
set_option linter.unusedSimpArgs false
namespace Go.Proofs.YtnmbehogiioonaaDoor
open Go.RowKit Go.Shelf Go.Sort Go.Lib

theorem Tryd.infoStr : (Tryd.prog.info? 9).map (fun i => (i.zero, i.size, i.bytes)) = some (some (.string ByteArray.empty), 1, 16) := by kernel_rfl
abbrev Tab (w : World) : Prop := Lib.TabIs Tryd.prog w "internal/strconv.uint64pow10" .u64 Lib.pow10Tab

theorem tab_upd {w w' : World} (h : Tab w) {k : Hp} (u : Upd [] k w w') : Tab w' := by
  unfold Tab TabIs World.var? at *
  cases hg : (Tryd.prog).globalNamed "internal/strconv.uint64pow10" with
  | none => simp [hg] at h
  | some g =>
    simp only [hg, Option.bind_some] at h ⊢
    have hlt : g < w.heap.size := by
      rcases Nat.lt_or_ge g w.heap.size with h' | h'
      · exact h'
      · rw [Array.getElem?_eq_none h'] at h; simp at h
    rw [u.frame g hlt (by simp)]
    exact h
theorem upd_of_below {w w' : World} (b : Below w.heap.size w w') : Upd [] [] w w' where
  inn := In.nil _
  os := b.os
  tape := b.tape
  output := b.output
  size := b.size
  frame := fun k hk _ => b.block k hk
  fresh := fun k hk => by simp at hk
theorem Upd.overA {w0 w w' : World} {h0 h k h' : Hp} (a : Upd h0 (h ++ k) w0 w) (u : Upd h h' w w') : Upd h0 (h' ++ k) w0 w' := a.trans (u.beside a.inn)
theorem upd_grow (w : World) (k : Nat) (os : Array Obj) : Upd [] [] w (grow (w.drewN k) os) := by
  have e : (w.drewN k).heap = w.heap := rfl
  refine upd_of_below ⟨rfl, rfl, rfl, ?_, ?_⟩
  · show w.heap.size ≤ ((w.drewN k).heap ++ os).size
    rw [e, Array.size_append]
    omega
  · intro b hb
    show ((w.drewN k).heap ++ os)[b]? = w.heap[b]?
    rw [e, Array.getElem?_append_left hb]

structure EntS where
  kind : Int
  a : Int
  b : Int
  c : Int
  v : Nat
deriving DecidableEq
def entCells (x : EntS) : Array Value := #[.int .i64 x.kind, .int .i64 x.a, .int .i64 x.b, .int .i64 x.c, .int .u64 x.v]
def EntS.Ok (x : EntS) : Prop := I64 x.kind ∧ I64 x.a ∧ I64 x.b ∧ I64 x.c ∧ x.v < 18446744073709551616
def wordsOf (x : EntS) (f : FormS) : List (List UInt8) := f.word :: (([x.a, x.b, x.c].take f.size).map Lib.itoa) ++ (if f.scalar then [Lib.decDigits x.v] else [])
def strs (l : List (List UInt8)) : List Value := l.map fun s => .string ⟨s.toArray⟩

theorem itoa_call (n : Int) (hn : I64 n) (w : World) (ht : Tab w) : Calls Tryd.prog 26 #[.int .i64 n] w fun e w' => e = .returned (.string ⟨(Lib.itoa n).toArray⟩) ∧ Upd [] [] w w' := by
  refine Calls.mono (Any.strconv_Itoa Tryd.laysItoa n hn.1 (by have := hn.2; omega) w ht) ?_
  rintro e w' ⟨rfl, k, os, rfl⟩
  exact ⟨rfl, upd_grow w k os⟩
theorem utoa_call (u : Nat) (hu : u < 18446744073709551616) (w : World) (ht : Tab w) : Calls Tryd.prog 27 #[.int .u64 u, .int .i64 10] w fun e w' => e = .returned (.string ⟨(Lib.decDigits u).toArray⟩) ∧ Upd [] [] w w' := by
  refine Calls.mono (formatUint u hu w ht) ?_
  rintro e w' ⟨rfl, k, os, rfl⟩
  exact ⟨rfl, upd_grow w k os⟩

set_option maxRecDepth 100000 in
set_option maxHeartbeats 4000000 in
theorem tale_words (x : EntS) (hx : x.Ok) (f : FormS) (hf : f.size ≤ 3) (w : World) (ht : Tab w) :
    Calls Tryd.prog 16 #[.agg (entCells x), .agg (formCells f).toArray] w fun e w' => ∃ v h, e = .returned v ∧ SliceH 9 1 v (wordsOf x f).length (strs (wordsOf x f)) h ∧ Upd [] h w w' := by
  obtain ⟨x0, x1, x2, x3, x4⟩ := x
  obtain ⟨hx0, hx1, hx2, hx3, hx4⟩ := hx
  obtain ⟨f0, f1, f2⟩ := f
  simp only at hf hx0 hx1 hx2 hx3 hx4
  simp only [entCells, formCells]
  go_enter Tryd.func16, Tryd.ntmps16
  go_upto_block 0 with (fail)
  have U1 := ((((Upd.refl (In.nil w)).alloc' (.cells #[.int .i64 x0, .int .i64 x1, .int .i64 x2, .int .i64 x3, .int .u64 x4] 24 (0, 0))).alloc' (.cells #[.string ⟨f0.toArray⟩, .int .i64 f1, .bool f2] 45 (0, 0))).alloc' (.cells #[.string ⟨f0.toArray⟩] 9 (0, 0))).alloc' (.cells #[.int .i64 x1, .int .i64 x2, .int .i64 x3] 3 (0, 0))
  simp only [World.size_alloc] at U1
  obtain ⟨B0, hB0⟩ : ∃ b, b = w.heap.size := ⟨_, rfl⟩
  obtain ⟨B1, hB1⟩ : ∃ b, b = w.heap.size + 1 := ⟨_, rfl⟩
  obtain ⟨B2, hB2⟩ : ∃ b, b = w.heap.size + 1 + 1 := ⟨_, rfl⟩
  obtain ⟨B3, hB3⟩ : ∃ b, b = w.heap.size + 1 + 1 + 1 := ⟨_, rfl⟩
  rw [← hB3, ← hB2, ← hB1, ← hB0] at U1
  have sl0 : SliceH 9 1 (.slice (some ⟨B2, 0, none⟩) 1 1) 1 (strs (f0 :: ((([x1, x2, x3] : List Int).take 0).map Lib.itoa))) [(B2, .cells #[.string ⟨f0.toArray⟩] 9 (0, 0))] := SliceH.made rfl (by decide)
  have U2 := U1.perm (List.Perm.refl _) (List.Perm.swap _ _ _)
  have HS0 : Hid (∃ h, SliceH 9 1 (.slice (some ⟨B2, 0, none⟩) 1 1) 1 (strs (f0 :: ((([x1, x2, x3] : List Int).take 0).map Lib.itoa))) h ∧ Upd [] (h ++ [(B3, .cells #[.int .i64 x1, .int .i64 x2, .int .i64 x3] 3 (0, 0)), (B1, .cells #[.string ⟨f0.toArray⟩, .int .i64 f1, .bool f2] 45 (0, 0)), (B0, .cells #[.int .i64 x0, .int .i64 x1, .int .i64 x2, .int .i64 x3, .int .u64 x4] 24 (0, 0))]) w _) := Lib.hid ⟨_, sl0, U2⟩
  clear sl0 U1 U2
  rw [← hB3, ← hB2, ← hB1, ← hB0]
  clear hB0 hB1 hB2 hB3
  go_wp2_with fail
  go_loopw [5, 22] (fun v q wr => ∃ (j : Nat), j ≤ f1 ∧ q = .int .i64 j ∧ (∃ ao cap, v = .slice ao (1 + j) cap) ∧ Hid (∃ h, SliceH 9 1 v (1 + j) (strs (f0 :: ((([x1, x2, x3] : List Int).take j).map Lib.itoa))) h ∧ Upd [] (h ++ [(B3, .cells #[.int .i64 x1, .int .i64 x2, .int .i64 x3] 3 (0, 0)), (B1, .cells #[.string ⟨f0.toArray⟩, .int .i64 f1, .bool f2] 45 (0, 0)), (B0, .cells #[.int .i64 x0, .int .i64 x1, .int .i64 x2, .int .i64 x3, .int .u64 x4] 24 (0, 0))]) w wr)) (fun _ q _ => f1 - (RowKit.intOf q).toNat)
  case atStart => exact ⟨0, by omega, rfl, ⟨_, _, rfl⟩, HS0⟩
  case round =>
    obtain ⟨j, hj, rfl, ⟨ao, cap, rfl⟩, HV⟩ := hrel
    obtain ⟨h, sl, U⟩ := HV.out
    by_cases hjl : j < f1
    · have hj3 : j < 3 := by omega
      have hjI : (j : Int) < (f1 : Int) := by omega
      obtain ⟨y, hy⟩ : ∃ y, y = ([x1, x2, x3] : List Int).getD j 0 := ⟨_, rfl⟩
      have hyI : I64 y := by
        rw [hy]
        rcases (by omega : j = 0 ∨ j = 1 ∨ j = 2) with rfl | rfl | rfl
        · exact hx1
        · exact hx2
        · exact hx3
      have hc : wr.cell? ⟨B3, j, none⟩ = some (.int .i64 y) := by
        rw [cell_of U.inn.right.head, hy]
        rcases (by omega : j = 0 ∨ j = 1 ∨ j = 2) with rfl | rfl | rfl <;> rfl
      have hts : strs (f0 :: ((([x1, x2, x3] : List Int).take (j + 1)).map Lib.itoa)) = strs (f0 :: ((([x1, x2, x3] : List Int).take j).map Lib.itoa)) ++ [.string ⟨(Lib.itoa y).toArray⟩] := by
        rw [hy]
        rcases (by omega : j = 0 ∨ j = 1 ∨ j = 2) with rfl | rfl | rfl <;> rfl
      have HTS := Lib.hid hts
      have SL := Lib.hid sl
      have HU := Lib.hid U
      have HIT := Lib.hid (fun W (h : Tab W) => itoa_call y hyI W h)
      have HT := Lib.hid (tab_upd ht U)
      have hmax : 1 + j + 1 ≤ maxLen := by unfold maxLen; omega
      clear hy hts sl U HV HS0
      go_wp2_with (first
        | (go_at_call 26; refine Calls.mono (HIT.out _ HT.out) ?_; rintro e wa ⟨rfl, ua⟩; have H1 := Lib.hid (news_of (news := [.string ⟨(Lib.itoa y).toArray⟩]) (w := wa.alloc (.cells #[.string ⟨(Lib.itoa y).toArray⟩] 9 (0, 0))) (b := wa.heap.size) (T := 9) (fr := (0, 0)) heap_alloc_new); have UA := (HU.out.under0 ua).skip' (.cells #[.string ⟨(Lib.itoa y).toArray⟩] 9 (0, 0)); clear ua)
        | (at_builtin; refine wpList_append_mine rfl (.tmp 26) (.tmp 29) 47 rfl 9 1 16 (.string ByteArray.empty) Tryd.underlying47 Tryd.infoStr rfl (by decide) (.slice ao (1 + j) cap) (1 + j) _ h rfl SL.out UA.inn.left ⟨wa.heap.size, 0, none⟩ 1 1 [.string ⟨(Lib.itoa y).toArray⟩] rfl H1.out rfl (by intro u hu; simp at hu; subst hu; rfl) (Or.inl (by decide)) hmax (by omega) ?_; intro v' w3 hX' hS' hU'; obtain ⟨ao', cap', rfl, _⟩ := hS'.shape; have U4 := UA.overA hU'))
      go_roundw
      case rel => exact ⟨j + 1, by omega, by go_num, ⟨_, _, rfl⟩, Lib.hid ⟨hX', by rw [HTS.out]; exact hS', U4⟩⟩
      case measure => simp [RowKit.intOf]; omega
    · have hje : j = f1 := by omega
      subst hje
      have hjj : ¬ ((j : Int) < (j : Int)) := by omega
      have c1 : wr.cell? ⟨B1, 2, none⟩ = some (.bool f2) := cell_of U.inn.right.tail.head 2
      have c0 : wr.cell? ⟨B0, 4, none⟩ = some (.int .u64 x4) := cell_of U.inn.right.tail.tail.head 4
      have hl3 : (([x1, x2, x3] : List Int).take j).length = j := by
        rcases (by omega : j = 0 ∨ j = 1 ∨ j = 2 ∨ j = 3) with rfl | rfl | rfl | rfl <;> rfl
      cases f2 with
      | false =>
        have e1 : wordsOf ⟨x0, x1, x2, x3, x4⟩ ⟨f0, j, false⟩ = f0 :: ((([x1, x2, x3] : List Int).take j).map Lib.itoa) := by simp [wordsOf]
        have e2 : (wordsOf ⟨x0, x1, x2, x3, x4⟩ ⟨f0, j, false⟩).length = 1 + j := by rw [e1]; simp [hl3]; omega
        have E1 := Lib.hid e1
        have E2 := Lib.hid e2
        have SL := Lib.hid sl
        have HU := Lib.hid U
        clear sl U HV HS0 e1 e2 hl3
        go_wp2
        go_ret
        exact ⟨_, rfl, h, by rw [E2.out, E1.out]; exact SL.out, HU.out.forget (List.sublist_append_left _ _)⟩
      | true =>
        have e1 : wordsOf ⟨x0, x1, x2, x3, x4⟩ ⟨f0, j, true⟩ = (f0 :: ((([x1, x2, x3] : List Int).take j).map Lib.itoa)) ++ [Lib.decDigits x4] := by simp [wordsOf]
        have e2 : (wordsOf ⟨x0, x1, x2, x3, x4⟩ ⟨f0, j, true⟩).length = 1 + j + 1 := by rw [e1]; simp [hl3]; omega
        have e3 : strs ((f0 :: ((([x1, x2, x3] : List Int).take j).map Lib.itoa)) ++ [Lib.decDigits x4]) = strs (f0 :: ((([x1, x2, x3] : List Int).take j).map Lib.itoa)) ++ [.string ⟨(Lib.decDigits x4).toArray⟩] := by simp [strs]
        have E1 := Lib.hid (e1 ▸ e3 : strs (wordsOf ⟨x0, x1, x2, x3, x4⟩ ⟨f0, j, true⟩) = _)
        have E2 := Lib.hid e2
        have SL := Lib.hid sl
        have HU := Lib.hid U
        have HIT := Lib.hid (fun W (h : Tab W) => utoa_call x4 hx4 W h)
        have HT := Lib.hid (tab_upd ht U)
        have hmax : 1 + j + 1 ≤ maxLen := by unfold maxLen; omega
        clear sl U HV HS0 e1 e2 e3 hl3
        go_wp2_with (first
          | (go_at_call 27; refine Calls.mono (HIT.out _ HT.out) ?_; rintro e wa ⟨rfl, ua⟩; have H1 := Lib.hid (news_of (news := [.string ⟨(Lib.decDigits x4).toArray⟩]) (w := wa.alloc (.cells #[.string ⟨(Lib.decDigits x4).toArray⟩] 9 (0, 0))) (b := wa.heap.size) (T := 9) (fr := (0, 0)) heap_alloc_new); have UA := (HU.out.under0 ua).skip' (.cells #[.string ⟨(Lib.decDigits x4).toArray⟩] 9 (0, 0)); clear ua)
          | (at_builtin; refine wpList_append_mine rfl (.tmp 34) (.tmp 38) 47 rfl 9 1 16 (.string ByteArray.empty) Tryd.underlying47 Tryd.infoStr rfl (by decide) (.slice ao (1 + j) cap) (1 + j) _ h rfl SL.out UA.inn.left ⟨wa.heap.size, 0, none⟩ 1 1 [.string ⟨(Lib.decDigits x4).toArray⟩] rfl H1.out rfl (by intro u hu; simp at hu; subst hu; rfl) (Or.inl (by decide)) hmax (by omega) ?_; intro v' w3 hX' hS' hU'; obtain ⟨ao', cap', rfl, _⟩ := hS'.shape; have U4 := UA.overA hU'))
        go_ret
        exact ⟨_, hX', rfl, by rw [E2.out, E1.out]; exact hS', U4.forget (List.sublist_append_left _ _)⟩

end Go.Proofs.YtnmbehogiioonaaDoor
