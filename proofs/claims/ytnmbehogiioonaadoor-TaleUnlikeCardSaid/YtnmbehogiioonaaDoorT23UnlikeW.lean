/- The law TaleUnlike answers true. Condition: the library's variables are as its text lays them. -/
import Derived.Test.YtnmbehogiioonaaDoorT23Asm
import Derived.Laws.StructEq
import Derived.Lib.ConvBytes
set_option linter.unusedVariables false
set_option linter.unusedSimpArgs false
namespace Go.Proofs.YtnmbehogiioonaaDoor
open Go.RowKit Go.Shelf Go.Lib

theorem frozen_below {w : World} {b : Nat} {arr : Array Value} {T : TypeId} {m : Nat} (h : w.heap[b]? = some (.cells arr T (m, m + 1))) {i : Nat} (hi : i < m) : w.frozen? ⟨b, i, none⟩ = false := by
  simp [World.frozen?, h]
  omega
theorem to_bytes (l : List UInt8) (w : World) : ∃ (cap m : Nat) (arr : Array Value) (W : World), (convert 9 39 (.string ⟨l.toArray⟩)).run Tryd.prog w = .ok (.slice (some ⟨w.heap.size, 0, none⟩) l.length cap) W ∧
    Upd [] [(w.heap.size, .cells arr 5 (m, m + 1))] w W ∧ l.length ≤ m ∧ m = arr.size ∧ ∀ j (h : j < l.length), arr[j]? = some (.int .u8 (l[j].toNat : Int)) := by
  have hr := Lib.run_convert_string_bytes (P := Tryd.prog) w 9 39 5 ⟨l.toArray⟩ Tryd.underlying9 Tryd.underlying39 Tryd.underlying5
  have hb := bytesWorld_below w 5 ⟨l.toArray⟩
  refine ⟨_, (bytesCells w 5 ⟨l.toArray⟩).size, bytesCells w 5 ⟨l.toArray⟩, _, hr, ?_, ?_, rfl, ?_⟩
  · have u := upd_of_below hb
    exact { inn := ⟨by simp, by intro x hx; simp at hx; subst hx; exact bytesWorld_at_new w 5 ⟨l.toArray⟩⟩, os := u.os, tape := u.tape, output := u.output, size := u.size, frame := u.frame, fresh := fun k hk => by simp at hk; subst hk; exact .inr (Nat.le_refl _) }
  · simp [bytesCells]
  · intro j h
    unfold bytesCells
    rw [Array.getElem?_append_left (by simpa using h)]
    simp [h]

set_option maxRecDepth 100000 in
set_option maxHeartbeats 4000000 in
theorem taleUnlike_any (x : EntS) (at_ c : Int) (hx : x.Ok) (ha : U8 at_) (hc : U8 c) (w : World) (hL : Laid w) : Calls Tryd.prog 7 #[.agg (entCells x), .int .u8 at_, .int .u8 c] w fun e w' => e = .returned (.bool true) ∧ Upd [] [] w w' := by
  have H1 := Lib.hid (fun W (h : Laid W) => tale_line x hx W h.tab)
  have H3 := Lib.hid (fun W (h : Laid W) => law_awake W h)
  have HL := Lib.hid hL
  cases hl : lineOf x with
  | none =>
    rw [lineV_none hl] at H1
    obtain ⟨x0, x1, x2, x3, x4⟩ := x
    simp only [entCells] at H1 ⊢
    have U1 := (Upd.refl (In.nil w)).alloc' (.cells #[.int .i64 x0, .int .i64 x1, .int .i64 x2, .int .i64 x3, .int .u64 (x4 : Int)] 24 (0, 0))
    have HL1 := Lib.hid (hL.upd U1)
    have HU1 := Lib.hid U1
    clear hl U1 hx
    go_enter Tryd.func7, Tryd.ntmps7
    go_wp2_with (first
      | (go_at_call 8; refine Calls.mono (H1.out _ HL1.out) ?_; rintro e w2 ⟨rfl, u2⟩; have U2 := HU1.out.under0 u2; have HL2 := Lib.hid (HL.out.upd U2); have HU2 := Lib.hid U2; clear U2)
      | (go_at_call 10; refine Calls.mono (H3.out _ HL2.out) ?_; rintro e w4 ⟨rfl, u4⟩; have HU4 := Lib.hid (HU2.out.under0 u4)))
    go_ret
    exact ⟨rfl, HU4.out.forget (List.nil_sublist _)⟩
  | some l =>
    rw [lineV_some hl] at H1
    have hll : 0 < l.length ∧ l.length ≤ 200 := by
      unfold lineOf at hl
      cases hfo : formOf x.kind with
      | none => rw [hfo] at hl; cases hl
      | some f =>
        rw [hfo] at hl
        simp only at hl
        split at hl
        · injection hl with hl
          unfold formOf at hfo
          split at hfo
          · have h1 := (words_len hx (List.mem_of_getElem? hfo)).2
            have h2 : 0 < f.word.length := by
              have : ∀ f ∈ formsL, 0 < f.word.length := by decide
              exact this f (List.mem_of_getElem? hfo)
            have h3 : f.word.length ≤ (Lib.join (wordsOf x f) [32]).length := by (rw [show wordsOf x f = f.word :: (([x.a, x.b, x.c].take f.size).map Lib.itoa ++ (if f.scalar then [Lib.decDigits x.v] else [])) from rfl, join_cons, List.length_append]; omega)
            rw [hl] at h1 h3
            omega
          · cases hfo
        · cases hl
    obtain ⟨hl0, hl1⟩ := hll
    obtain ⟨k, hk⟩ : ∃ k : Nat, at_.toNat % l.length = k := ⟨_, rfl⟩
    have hkl : k < l.length := by rw [← hk]; exact Nat.mod_lt _ hl0
    obtain ⟨ha0, ha1⟩ := ha
    obtain ⟨hc0, hc1⟩ := hc
    have hmod : at_ % (l.length : Int) = (k : Int) := by (rw [show at_ = ((at_.toNat : Nat) : Int) by omega]; exact_mod_cast hk)
    have htmod : at_.tmod (l.length : Int) = (k : Int) := by rw [Int.tmod_eq_emod_of_nonneg ha0]; exact hmod
    obtain ⟨cc, hcc⟩ : ∃ cc : UInt8, UInt8.ofNat c.toNat = cc := ⟨_, rfl⟩
    have hcn : (cc.toNat : Int) = c := by rw [← hcc]; simp; omega
    obtain ⟨b0, hb0⟩ : ∃ b : Int, ((l[k]'hkl).toNat : Int) = b := ⟨_, rfl⟩
    obtain ⟨S, hS⟩ : ∃ s : ByteArray, (⟨l.toArray⟩ : ByteArray) = s := ⟨_, rfl⟩
    have hne : (S.toList == ByteArray.toList ⟨#[]⟩) = false := (bytes_beq_false_iff _ _).2 (by intro e; rw [← hS] at e; injection e with e; simp at e; rw [e] at hl0; simp at hl0)
    have hne2 : S.toList.isEmpty = false := by
      rw [← hS, ByteArray.toList_eq]
      cases l with
      | nil => simp at hl0
      | cons a r => rfl
    have HTB := Lib.hid (fun W => to_bytes l W)
    rw [hS] at H1 HTB
    have hsz : S.size = l.length := by rw [← hS]; rfl
    have hI0 : (0 : Int) < (l.length : Int) := by omega
    have hI1 : ¬ (l.length : Int) = 0 := by omega
    have hI2 : (k : Int) < (l.length : Int) := by omega
    have hI3 : (0 : Int) ≤ (k : Int) := by omega
    have HHL := Lib.hid hl
    have HHX := Lib.hid hx
    obtain ⟨x0, x1, x2, x3, x4⟩ := x
    simp only [entCells] at H1 ⊢
    have U1 := (Upd.refl (In.nil w)).alloc' (.cells #[.int .i64 x0, .int .i64 x1, .int .i64 x2, .int .i64 x3, .int .u64 (x4 : Int)] 24 (0, 0))
    have HL1 := Lib.hid (hL.upd U1)
    have HU1 := Lib.hid U1
    by_cases hbc : b0 = c
    · have hbb : (b0 == c) = true := by simp [hbc]
      clear hl U1 hx hk hS
      go_enter Tryd.func7, Tryd.ntmps7
      go_wp2_with (first | (go_at_call 8; refine Calls.mono (H1.out _ HL1.out) ?_; rintro e w2 ⟨rfl, u2⟩; have U2 := HU1.out.under0 u2; obtain ⟨cap, m, arr, W3, hcv, u3, hm1, hm2, harr⟩ := HTB.out w2; have U3 := U2.more u3; have c0 : W3.cell? ⟨w2.heap.size, k, none⟩ = some (.int .u8 b0) := (cell_of U3.inn.head k).trans ((harr k hkl).trans (congrArg (fun z => some (Value.int .u8 z)) hb0)); have c1 : W3.frozen? ⟨w2.heap.size, k, none⟩ = false := frozen_below U3.inn.head (by omega); have HL3 := Lib.hid (HL.out.upd U3); have HU3 := Lib.hid U3; clear U3 U2 hm1 u3 u2) | (go_at_call 10; refine Calls.mono (H3.out _ HL3.out) ?_; rintro e w7 ⟨rfl, u7⟩; have U7 := HU3.out.under0 u7; have HU7 := Lib.hid U7; clear U7))
      go_ret
      exact ⟨rfl, HU7.out.forget (List.nil_sublist _)⟩
    · have hbb : (b0 == c) = false := by simpa using hbc
      obtain ⟨l', hl'⟩ : ∃ l', l.set k cc = l' := ⟨_, rfl⟩
      have hll' : l'.length = l.length := by rw [← hl']; simp
      have hdiff : l' ≠ l := by
        intro e
        apply hbc
        rw [← hb0, ← hcn]
        have h2 : l'[k]? = l[k]? := by rw [e]
        rw [← hl', List.getElem?_set_self hkl, List.getElem?_eq_getElem hkl] at h2
        injection h2 with h2
        rw [h2]
      have HCELL : Hid (∀ (W : World) (b : Nat) (arr : Array Value) (T : TypeId) (fr : Nat × Nat), W.heap[b]? = some (.cells (arr.setIfInBounds k (.int .u8 c)) T fr) → (∀ j (h : j < l.length), arr[j]? = some (.int .u8 (l[j].toNat : Int))) → l.length ≤ arr.size → ∀ j v, (bytesV l')[j]? = some v → W.cell? ((⟨b, 0, none⟩ : Addr).add j) = some v) := Lib.hid (by
        intro W b arr T fr hb harr hle j v hj
        rw [Addr.add_lit, Nat.zero_add, cell_of hb]
        unfold bytesV at hj
        rw [List.getElem?_map, Option.map_eq_some_iff] at hj
        obtain ⟨u, hu, rfl⟩ := hj
        have hjl : j < l.length := by have := (List.getElem?_eq_some_iff.1 hu).1; omega
        rw [← hl'] at hu
        by_cases hjk : j = k
        · subst hjk
          rw [List.getElem?_set_self hjl] at hu
          injection hu with hu
          rw [← hu, hcn, Array.getElem?_setIfInBounds_self_of_lt (by omega)]
        · rw [List.getElem?_set_ne (Ne.symm hjk), List.getElem?_eq_getElem hjl] at hu
          injection hu with hu
          rw [Array.getElem?_setIfInBounds_ne (Ne.symm hjk), harr j hjl, hu])
      obtain ⟨S', hS'⟩ : ∃ s : ByteArray, (⟨l'.toArray⟩ : ByteArray) = s := ⟨_, rfl⟩
      have H4 := Lib.hid (fun W (h : Laid W) => tale_step l' (by omega) W h)
      have HCV := Lib.hid (fun W (a : Addr) (cap : Nat) h => conv_str W a cap l' h l.length hll'.symm)
      rw [hS'] at H4 HCV
      cases hst : stepOf l' with
      | none =>
        rw [stepV_none hst] at H4
        simp only [entCells, entZ] at H4
        clear hl U1 hx hk hS hS' hst hl' hdiff hbc
        go_enter Tryd.func7, Tryd.ntmps7
        go_wp2_with (first | (go_at_call 8; refine Calls.mono (H1.out _ HL1.out) ?_; rintro e w2 ⟨rfl, u2⟩; have U2 := HU1.out.under0 u2; obtain ⟨cap, m, arr, W3, hcv, u3, hm1, hm2, harr⟩ := HTB.out w2; have U3 := U2.more u3; have c0 : W3.cell? ⟨w2.heap.size, k, none⟩ = some (.int .u8 b0) := (cell_of U3.inn.head k).trans ((harr k hkl).trans (congrArg (fun z => some (Value.int .u8 z)) hb0)); have c1 : W3.frozen? ⟨w2.heap.size, k, none⟩ = false := frozen_below U3.inn.head (by omega); have HL3 := Lib.hid (HL.out.upd U3); have HU3 := Lib.hid U3; have U4 := U3.store1 k (.int .u8 c); have hcv2 := HCV.out (W3.setCell ⟨w2.heap.size, k, none⟩ (.int .u8 c)) ⟨w2.heap.size, 0, none⟩ cap (HCELL.out _ _ arr _ _ U4.inn.head harr (by omega)); have HL4 := Lib.hid (HL.out.upd U4); have HU4 := Lib.hid U4; clear U4; clear U3 U2 hm1 u3 u2) | (go_at_call 11; refine Calls.mono (H4.out _ HL4.out) ?_; rintro e w5 ⟨rfl, u5⟩; have U5 := (HU4.out.under0 u5).alloc' (.cells #[.int .i64 0, .int .i64 0, .int .i64 0, .int .i64 0, .int .u64 0] 24 (0, 0)); have HL5 := Lib.hid (HL.out.upd U5); have HU5 := Lib.hid U5; clear U5 u5) | (go_at_call 10; refine Calls.mono (H3.out _ HL5.out) ?_; rintro e w7 ⟨rfl, u7⟩; have U7 := HU5.out.under0 u7; have HU7 := Lib.hid U7; clear U7))
        go_ret
        exact ⟨rfl, HU7.out.forget (List.nil_sublist _)⟩
      | some y =>
        rw [stepV_some hst] at H4
        obtain ⟨hy, hlo⟩ := step_line hst
        have hyx : y ≠ ⟨x0, x1, x2, x3, x4⟩ := by
          rintro rfl
          rw [hl] at hlo
          injection hlo with hlo
          exact hdiff hlo.symm
        obtain ⟨y0, y1, y2, y3, y4⟩ := y
        simp only [entCells] at H4
        have HYX := Lib.hid hyx
        clear hl U1 hx hk hS hS' hst hl' hdiff hbc hyx hlo hy
        go_enter Tryd.func7, Tryd.ntmps7
        go_wp2_with (first | (go_at_call 8; refine Calls.mono (H1.out _ HL1.out) ?_; rintro e w2 ⟨rfl, u2⟩; have U2 := HU1.out.under0 u2; obtain ⟨cap, m, arr, W3, hcv, u3, hm1, hm2, harr⟩ := HTB.out w2; have U3 := U2.more u3; have c0 : W3.cell? ⟨w2.heap.size, k, none⟩ = some (.int .u8 b0) := (cell_of U3.inn.head k).trans ((harr k hkl).trans (congrArg (fun z => some (Value.int .u8 z)) hb0)); have c1 : W3.frozen? ⟨w2.heap.size, k, none⟩ = false := frozen_below U3.inn.head (by omega); have HL3 := Lib.hid (HL.out.upd U3); have HU3 := Lib.hid U3; have U4 := U3.store1 k (.int .u8 c); have hcv2 := HCV.out (W3.setCell ⟨w2.heap.size, k, none⟩ (.int .u8 c)) ⟨w2.heap.size, 0, none⟩ cap (HCELL.out _ _ arr _ _ U4.inn.head harr (by omega)); have HL4 := Lib.hid (HL.out.upd U4); have HU4 := Lib.hid U4; clear U4; clear U3 U2 hm1 u3 u2) | (go_at_call 11; refine Calls.mono (H4.out _ HL4.out) ?_; rintro e w5 ⟨rfl, u5⟩; have U5 := (HU4.out.under0 u5).alloc' (.cells #[.int .i64 y0, .int .i64 y1, .int .i64 y2, .int .i64 y3, .int .u64 (y4 : Int)] 24 (0, 0)); have HL5 := Lib.hid (HL.out.upd U5); have HU5 := Lib.hid U5; clear U5 u5) | (go_at_call 10; refine Calls.mono (H3.out _ HL5.out) ?_; rintro e w7 ⟨rfl, u7⟩; have U7 := HU5.out.under0 u7; have d0 : w7.cell? ⟨w5.heap.size, 0, none⟩ = some (.int .i64 y0) := cell_of U7.inn.head 0; have d1 : w7.cell? ⟨w5.heap.size, 1, none⟩ = some (.int .i64 y1) := cell_of U7.inn.head 1; have d2 : w7.cell? ⟨w5.heap.size, 2, none⟩ = some (.int .i64 y2) := cell_of U7.inn.head 2; have d3 : w7.cell? ⟨w5.heap.size, 3, none⟩ = some (.int .i64 y3) := cell_of U7.inn.head 3; have d4 : w7.cell? ⟨w5.heap.size, 4, none⟩ = some (.int .u64 (y4 : Int)) := cell_of U7.inn.head 4; have f0 : w7.cell? ⟨w.heap.size, 0, none⟩ = some (.int .i64 x0) := cell_of U7.inn.tail.tail.head 0; have f1 : w7.cell? ⟨w.heap.size, 1, none⟩ = some (.int .i64 x1) := cell_of U7.inn.tail.tail.head 1; have f2 : w7.cell? ⟨w.heap.size, 2, none⟩ = some (.int .i64 x2) := cell_of U7.inn.tail.tail.head 2; have f3 : w7.cell? ⟨w.heap.size, 3, none⟩ = some (.int .i64 x3) := cell_of U7.inn.tail.tail.head 3; have f4 : w7.cell? ⟨w.heap.size, 4, none⟩ = some (.int .u64 (x4 : Int)) := cell_of U7.inn.tail.tail.head 4; have HU7 := Lib.hid U7; clear U7))
        all_goals go_ret
        all_goals first
          | exact ⟨rfl, HU7.out.forget (List.nil_sublist _)⟩
          | exact absurd rfl HYX.out
          | (exfalso; apply HYX.out; simp only [EntS.mk.injEq]; refine ⟨?_, ?_, ?_, ?_, ?_⟩ <;> omega)

end Go.Proofs.YtnmbehogiioonaaDoor
