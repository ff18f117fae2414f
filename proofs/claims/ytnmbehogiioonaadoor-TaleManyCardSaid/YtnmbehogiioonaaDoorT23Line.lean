/- The line of an entry. Condition: the library's table is as its text lays it. -/
import Derived.Test.YtnmbehogiioonaaDoorT23Fits
import Derived.Lib.ItoaLen
import Derived.Deep.RegionLaw
import Derived.Deep.Draws
import Derived.BigRegion
set_option linter.unusedVariables false
set_option linter.unusedSimpArgs false
namespace Go.Proofs.YtnmbehogiioonaaDoor
open Go.RowKit Go.Shelf

/-- the form of a kind -/
def formOf (k : Int) : Option FormS := if 1 ≤ k ∧ k ≤ 12 then formsL[(k - 1).toNat]? else none
/-- the line, if there is one -/
def lineOf (x : EntS) : Option (List UInt8) := match formOf x.kind with
  | some f => if fitsS x f then some (Lib.join (wordsOf x f) [32]) else none
  | none => none

def lineV (x : EntS) : Value := match lineOf x with | some l => .tuple #[.string ⟨l.toArray⟩, .int .i64 0] | none => .tuple #[.string ⟨#[]⟩, .int .i64 1]
theorem lineV_none {x : EntS} (h : lineOf x = none) : lineV x = .tuple #[.string ⟨#[]⟩, .int .i64 1] := by unfold lineV; rw [h]
theorem lineV_some {x : EntS} {l : List UInt8} (h : lineOf x = some l) : lineV x = .tuple #[.string ⟨l.toArray⟩, .int .i64 0] := by unfold lineV; rw [h]

theorem formsL_size {f : FormS} (h : f ∈ formsL) : f.size ≤ 3 := by
  have : ∀ f ∈ formsL, f.size ≤ 3 := by decide
  exact this f h
theorem Upd.ofBelow2 {w w' : World} (b : Below w.heap.size w w') : Upd [] [] w w' := upd_of_below b

theorem join_call {v : Value} {n : Nat} {l : List (List UInt8)} {h : Hp} {w : World} (hs : SliceH 9 1 v n (strs l) h) (hl : l.length = n) (hn : 0 < n) (hN : n ≤ 1000000) (hi : In w h) (hlen : (Lib.join l [32]).length ≤ 140737488355328) :
    Calls Tryd.prog 15 #[v, .string ⟨#[32]⟩] w fun e w' => e = .returned (.string ⟨(Lib.join l [32]).toArray⟩) ∧ Upd [] [] w w' := by
  obtain ⟨g, off, cap, rfl, hc⟩ := hs.addr hn
  have hm : (l.map fun s => (⟨s.toArray⟩ : ByteArray)).map (·.data.toList) = l := by
    rw [List.map_map]
    exact (List.map_congr_left fun a _ => by simp).trans (List.map_id l)
  have hj := Any.strings_Join Tryd.laysJoin Tryd.extra g off cap (l.map fun s => (⟨s.toArray⟩ : ByteArray)) ⟨#[32]⟩ w
    (fun j x hx => by
      have hjl : j < l.length := by
        have := (List.getElem?_eq_some_iff.1 hx).1
        simpa using this
      have h1 := hs.cell hi rfl (j := j) (by simp [strs]; exact hjl)
      rw [h1]
      simp [strs] at hx ⊢
      obtain ⟨a, ha, rfl⟩ := hx
      rw [List.getElem?_eq_getElem hjl] at ha
      cases ha
      rfl)
    (by
      rcases hs.2 with ⟨h1, _⟩ | ⟨g', pre, post, cap', h1, rfl, _⟩
      · cases h1
      · cases h1
        exact hi.lt (by simp))
    (by simp; omega) (by simp; omega) (by rw [hm]; exact hlen)
  rw [List.length_map, hl, hm] at hj
  refine Calls.mono hj ?_
  rintro e w' ⟨rfl, b⟩
  exact ⟨rfl, upd_of_below b⟩

theorem lens_append (l m : List (List UInt8)) : Lib.lens (l ++ m) = Lib.lens l + Lib.lens m := by simp [Lib.lens]
theorem lens_itoa : ∀ (l : List Int), (∀ n ∈ l, I64 n) → Lib.lens (l.map Lib.itoa) ≤ 21 * l.length
  | [], _ => by simp [Lib.lens]
  | n :: l, h => by
    have h1 := h n (List.mem_cons_self ..)
    have := Lib.itoa_length_le n h1.1 (by have := h1.2; omega)
    have ih := lens_itoa l (fun m hm => h m (List.mem_cons_of_mem _ hm))
    simp only [Lib.lens, List.map_cons, List.sum_cons, List.length_cons] at ih ⊢
    omega
theorem words_len {x : EntS} (hx : x.Ok) {f : FormS} (hf : f ∈ formsL) : (wordsOf x f).length ≤ 5 ∧ (Lib.join (wordsOf x f) [32]).length ≤ 200 := by
  obtain ⟨hx0, hx1, hx2, hx3, hx4⟩ := hx
  have h3 := formsL_size hf
  have h5 : f.word.length ≤ 5 := by
    have : ∀ f ∈ formsL, f.word.length ≤ 5 := by decide
    exact this f hf
  have hn := lens_itoa (([x.a, x.b, x.c] : List Int).take f.size) (fun n hn => by
    have := List.mem_of_mem_take hn
    simp at this
    rcases this with rfl | rfl | rfl <;> assumption)
  have hl : (([x.a, x.b, x.c] : List Int).take f.size).length ≤ 3 := by simp; omega
  have hd : (Lib.decDigits x.v).length ≤ 20 := by rw [Lib.decDigits_length]; exact Lib.nDigits_le20 x.v hx4
  have e : wordsOf x f = f.word :: ((([x.a, x.b, x.c].take f.size).map Lib.itoa) ++ (if f.scalar then [Lib.decDigits x.v] else [])) := rfl
  have hlen : (([x.a, x.b, x.c].take f.size).map Lib.itoa ++ (if f.scalar then [Lib.decDigits x.v] else [])).length ≤ 4 := by
    rw [List.length_append, List.length_map]
    split <;> simp at hl ⊢ <;> omega
  refine ⟨by rw [e, List.length_cons]; omega, ?_⟩
  rw [e, Lib.join_length]
  have h2 : Lib.lens (f.word :: (([x.a, x.b, x.c].take f.size).map Lib.itoa ++ (if f.scalar then [Lib.decDigits x.v] else []))) ≤ 5 + (63 + 20) := by
    have e2 : Lib.lens (f.word :: (([x.a, x.b, x.c].take f.size).map Lib.itoa ++ (if f.scalar then [Lib.decDigits x.v] else []))) = f.word.length + (Lib.lens (([x.a, x.b, x.c].take f.size).map Lib.itoa) + Lib.lens (if f.scalar then [Lib.decDigits x.v] else [])) := by
      rw [← lens_append]; simp [Lib.lens]
    have e3 : Lib.lens (if f.scalar then [Lib.decDigits x.v] else []) ≤ 20 := by split <;> simp [Lib.lens]; exact hd
    rw [e2]
    omega
  simp only [List.length_singleton]
  omega

set_option maxRecDepth 100000 in
set_option maxHeartbeats 4000000 in
theorem tale_line (x : EntS) (hx : x.Ok) (w : World) (ht : Tab w) :
    Calls Tryd.prog 8 #[.agg (entCells x)] w fun e w' => e = .returned (lineV x) ∧ Upd [] [] w w' := by
  have hO := Lib.hid hx
  have HT := Lib.hid ht
  have U1 := (Upd.refl (In.nil w)).alloc' (.cells (entCells x) 24 (0, 0))
  have HF := Lib.hid (fun W => tale_forms W)
  go_enter Tryd.func8, Tryd.ntmps8
  by_cases hk : 1 ≤ x.kind ∧ x.kind ≤ 12
  · obtain ⟨x0, x1, x2, x3, x4⟩ := x
    simp only at hk
    rcases (by omega : x0 = 1 ∨ x0 = 2 ∨ x0 = 3 ∨ x0 = 4 ∨ x0 = 5 ∨ x0 = 6 ∨ x0 = 7 ∨ x0 = 8 ∨ x0 = 9 ∨ x0 = 10 ∨ x0 = 11 ∨ x0 = 12) with rfl | rfl | rfl | rfl | rfl | rfl | rfl | rfl | rfl | rfl | rfl | rfl
    · simp only [entCells] at *
      go_wp2_with (go_at_call 13; refine Calls.mono (HF.out _) ?_; rintro e w2 ⟨b, rfl, u2⟩; have U2 := U1.more u2)
      have hsx : ∀ W, Upd [] ([(b, .cells formsCells.toArray 45 (0, 0))] ++ [(w.heap.size, .cells (entCells ⟨1, x1, x2, x3, x4⟩) 24 (0, 0))]) w W → (fun w' => w'.cell? ⟨w.heap.size, 0, none⟩ = some (.int .i64 1) ∧ w'.cell? ⟨w.heap.size, 1, none⟩ = some (.int .i64 x1) ∧ w'.cell? ⟨w.heap.size, 2, none⟩ = some (.int .i64 x2) ∧ w'.cell? ⟨w.heap.size, 3, none⟩ = some (.int .i64 x3) ∧ w'.cell? ⟨w.heap.size, 4, none⟩ = some (.int .u64 x4) ∧ w'.cell? ⟨b, 0, none⟩ = some (.string ⟨#[109, 97, 107, 101]⟩) ∧ w'.cell? ⟨b, 1, none⟩ = some (.int .i64 3) ∧ w'.cell? ⟨b, 2, none⟩ = some (.bool false)) W := fun W U => ⟨cell_of U.inn.right.head 0, cell_of U.inn.right.head 1, cell_of U.inn.right.head 2, cell_of U.inn.right.head 3, cell_of U.inn.right.head 4, cell_of U.inn.left.head 0, cell_of U.inn.left.head 1, cell_of U.inn.left.head 2⟩
      have HSX := Lib.hid hsx
      have UZ := U2.drew'
      have tZ := hsx _ UZ
      have HU := Lib.hid UZ
      obtain ⟨q, hq⟩ : ∃ q, fitsS ⟨1, x1, x2, x3, x4⟩ ⟨[109, 97, 107, 101], 3, false⟩ = q := ⟨_, rfl⟩
      have HFT := Lib.hid (fun W => tale_fits ⟨1, x1, x2, x3, x4⟩ ⟨[109, 97, 107, 101], 3, false⟩ (by decide) W)
      rw [hq] at HFT
      simp only [entCells, formCells] at HFT
      clear hsx UZ U2 U1 u2
      have hwk : IntKind.i64.wrap 0 = 0 := by rfl
      go_region_held3 (fun w' => w'.cell? ⟨w.heap.size, 0, none⟩ = some (.int .i64 1) ∧ w'.cell? ⟨w.heap.size, 1, none⟩ = some (.int .i64 x1) ∧ w'.cell? ⟨w.heap.size, 2, none⟩ = some (.int .i64 x2) ∧ w'.cell? ⟨w.heap.size, 3, none⟩ = some (.int .i64 x3) ∧ w'.cell? ⟨w.heap.size, 4, none⟩ = some (.int .u64 x4) ∧ w'.cell? ⟨b, 0, none⟩ = some (.string ⟨#[109, 97, 107, 101]⟩) ∧ w'.cell? ⟨b, 1, none⟩ = some (.int .i64 3) ∧ w'.cell? ⟨b, 2, none⟩ = some (.bool false))
        (first | (with_reducible exact tZ) | (with_reducible exact t3))
        (first | (go_at_call 14; refine Calls.mono (HFT.out _) ?_; rintro e w3 ⟨rfl, u3⟩; have U3 := HU.out.under0 u3; have t3 := HSX.out _ U3))
      cases q
      · have hl : lineOf ⟨1, x1, x2, x3, x4⟩ = none := by (show (if fitsS ⟨1, x1, x2, x3, x4⟩ _ then _ else _) = none; rw [hq]; rfl)
        have HL := Lib.hid hl
        clear hl hq
        go_wp2
        go_ret2
        exact ⟨by rw [lineV_none HL.out]; rfl, U3.forget (List.nil_sublist _)⟩
      · have hl : lineOf ⟨1, x1, x2, x3, x4⟩ = some (Lib.join (wordsOf ⟨1, x1, x2, x3, x4⟩ ⟨[109, 97, 107, 101], 3, false⟩) [32]) := by (show (if fitsS ⟨1, x1, x2, x3, x4⟩ _ then _ else _) = _; rw [hq]; rfl)
        have HL := Lib.hid hl
        have HN := Lib.hid (words_len hx (f := ⟨[109, 97, 107, 101], 3, false⟩) (by decide))
        have HW := Lib.hid (fun W (h : Tab W) => tale_words ⟨1, x1, x2, x3, x4⟩ hx ⟨[109, 97, 107, 101], 3, false⟩ (by decide) W h)
        simp only [entCells, formCells] at HW
        have U6 := U3.drew'
        have t6 := HSX.out _ U6
        have HU6 := Lib.hid U6
        have HT6 := Lib.hid (tab_upd ht U6)
        clear hl hq U6 HU U3 t3 tZ u3 ht hx
        go_wp2_with fail
        go_region_held3 (fun w' => w'.cell? ⟨w.heap.size, 0, none⟩ = some (.int .i64 1) ∧ w'.cell? ⟨w.heap.size, 1, none⟩ = some (.int .i64 x1) ∧ w'.cell? ⟨w.heap.size, 2, none⟩ = some (.int .i64 x2) ∧ w'.cell? ⟨w.heap.size, 3, none⟩ = some (.int .i64 x3) ∧ w'.cell? ⟨w.heap.size, 4, none⟩ = some (.int .u64 x4) ∧ w'.cell? ⟨b, 0, none⟩ = some (.string ⟨#[109, 97, 107, 101]⟩) ∧ w'.cell? ⟨b, 1, none⟩ = some (.int .i64 3) ∧ w'.cell? ⟨b, 2, none⟩ = some (.bool false))
          (first | (with_reducible exact t6) | (with_reducible exact t4) | (with_reducible exact t5))
          (first | (go_at_call 16; refine Calls.mono (HW.out _ HT6.out) ?_; rintro e w4 ⟨v, h, rfl, sl, u4⟩; have U4 := HU6.out.more u4; have t4 := HSX.out _ (U4.forget (List.sublist_append_right _ _)); have SL := Lib.hid sl; clear sl) | (go_at_call 15; refine Calls.mono (join_call SL.out rfl (by simp [wordsOf]) (by have := HN.out.1; omega) U4.inn.left (by have := HN.out.2; omega)) ?_; rintro e w5 ⟨rfl, u5⟩; have U5 := U4.under0 u5; have t5 := HSX.out _ (U5.forget (List.sublist_append_right _ _))))
        go_wp2_with fail
        go_ret2
        exact ⟨by rw [lineV_some HL.out]; rfl, U5.forget (List.nil_sublist _)⟩
    · simp only [entCells] at *
      go_wp2_with (go_at_call 13; refine Calls.mono (HF.out _) ?_; rintro e w2 ⟨b, rfl, u2⟩; have U2 := U1.more u2)
      have hsx : ∀ W, Upd [] ([(b, .cells formsCells.toArray 45 (0, 0))] ++ [(w.heap.size, .cells (entCells ⟨2, x1, x2, x3, x4⟩) 24 (0, 0))]) w W → (fun w' => w'.cell? ⟨w.heap.size, 0, none⟩ = some (.int .i64 2) ∧ w'.cell? ⟨w.heap.size, 1, none⟩ = some (.int .i64 x1) ∧ w'.cell? ⟨w.heap.size, 2, none⟩ = some (.int .i64 x2) ∧ w'.cell? ⟨w.heap.size, 3, none⟩ = some (.int .i64 x3) ∧ w'.cell? ⟨w.heap.size, 4, none⟩ = some (.int .u64 x4) ∧ w'.cell? ⟨b, 3, none⟩ = some (.string ⟨#[103, 101, 116]⟩) ∧ w'.cell? ⟨b, 4, none⟩ = some (.int .i64 3) ∧ w'.cell? ⟨b, 5, none⟩ = some (.bool false)) W := fun W U => ⟨cell_of U.inn.right.head 0, cell_of U.inn.right.head 1, cell_of U.inn.right.head 2, cell_of U.inn.right.head 3, cell_of U.inn.right.head 4, cell_of U.inn.left.head 3, cell_of U.inn.left.head 4, cell_of U.inn.left.head 5⟩
      have HSX := Lib.hid hsx
      have UZ := U2.drew'
      have tZ := hsx _ UZ
      have HU := Lib.hid UZ
      obtain ⟨q, hq⟩ : ∃ q, fitsS ⟨2, x1, x2, x3, x4⟩ ⟨[103, 101, 116], 3, false⟩ = q := ⟨_, rfl⟩
      have HFT := Lib.hid (fun W => tale_fits ⟨2, x1, x2, x3, x4⟩ ⟨[103, 101, 116], 3, false⟩ (by decide) W)
      rw [hq] at HFT
      simp only [entCells, formCells] at HFT
      clear hsx UZ U2 U1 u2
      have hwk : IntKind.i64.wrap 1 = 1 := by rfl
      go_region_held3 (fun w' => w'.cell? ⟨w.heap.size, 0, none⟩ = some (.int .i64 2) ∧ w'.cell? ⟨w.heap.size, 1, none⟩ = some (.int .i64 x1) ∧ w'.cell? ⟨w.heap.size, 2, none⟩ = some (.int .i64 x2) ∧ w'.cell? ⟨w.heap.size, 3, none⟩ = some (.int .i64 x3) ∧ w'.cell? ⟨w.heap.size, 4, none⟩ = some (.int .u64 x4) ∧ w'.cell? ⟨b, 3, none⟩ = some (.string ⟨#[103, 101, 116]⟩) ∧ w'.cell? ⟨b, 4, none⟩ = some (.int .i64 3) ∧ w'.cell? ⟨b, 5, none⟩ = some (.bool false))
        (first | (with_reducible exact tZ) | (with_reducible exact t3))
        (first | (go_at_call 14; refine Calls.mono (HFT.out _) ?_; rintro e w3 ⟨rfl, u3⟩; have U3 := HU.out.under0 u3; have t3 := HSX.out _ U3))
      cases q
      · have hl : lineOf ⟨2, x1, x2, x3, x4⟩ = none := by (show (if fitsS ⟨2, x1, x2, x3, x4⟩ _ then _ else _) = none; rw [hq]; rfl)
        have HL := Lib.hid hl
        clear hl hq
        go_wp2
        go_ret2
        exact ⟨by rw [lineV_none HL.out]; rfl, U3.forget (List.nil_sublist _)⟩
      · have hl : lineOf ⟨2, x1, x2, x3, x4⟩ = some (Lib.join (wordsOf ⟨2, x1, x2, x3, x4⟩ ⟨[103, 101, 116], 3, false⟩) [32]) := by (show (if fitsS ⟨2, x1, x2, x3, x4⟩ _ then _ else _) = _; rw [hq]; rfl)
        have HL := Lib.hid hl
        have HN := Lib.hid (words_len hx (f := ⟨[103, 101, 116], 3, false⟩) (by decide))
        have HW := Lib.hid (fun W (h : Tab W) => tale_words ⟨2, x1, x2, x3, x4⟩ hx ⟨[103, 101, 116], 3, false⟩ (by decide) W h)
        simp only [entCells, formCells] at HW
        have U6 := U3.drew'
        have t6 := HSX.out _ U6
        have HU6 := Lib.hid U6
        have HT6 := Lib.hid (tab_upd ht U6)
        clear hl hq U6 HU U3 t3 tZ u3 ht hx
        go_wp2_with fail
        go_region_held3 (fun w' => w'.cell? ⟨w.heap.size, 0, none⟩ = some (.int .i64 2) ∧ w'.cell? ⟨w.heap.size, 1, none⟩ = some (.int .i64 x1) ∧ w'.cell? ⟨w.heap.size, 2, none⟩ = some (.int .i64 x2) ∧ w'.cell? ⟨w.heap.size, 3, none⟩ = some (.int .i64 x3) ∧ w'.cell? ⟨w.heap.size, 4, none⟩ = some (.int .u64 x4) ∧ w'.cell? ⟨b, 3, none⟩ = some (.string ⟨#[103, 101, 116]⟩) ∧ w'.cell? ⟨b, 4, none⟩ = some (.int .i64 3) ∧ w'.cell? ⟨b, 5, none⟩ = some (.bool false))
          (first | (with_reducible exact t6) | (with_reducible exact t4) | (with_reducible exact t5))
          (first | (go_at_call 16; refine Calls.mono (HW.out _ HT6.out) ?_; rintro e w4 ⟨v, h, rfl, sl, u4⟩; have U4 := HU6.out.more u4; have t4 := HSX.out _ (U4.forget (List.sublist_append_right _ _)); have SL := Lib.hid sl; clear sl) | (go_at_call 15; refine Calls.mono (join_call SL.out rfl (by simp [wordsOf]) (by have := HN.out.1; omega) U4.inn.left (by have := HN.out.2; omega)) ?_; rintro e w5 ⟨rfl, u5⟩; have U5 := U4.under0 u5; have t5 := HSX.out _ (U5.forget (List.sublist_append_right _ _))))
        go_wp2_with fail
        go_ret2
        exact ⟨by rw [lineV_some HL.out]; rfl, U5.forget (List.nil_sublist _)⟩
    · simp only [entCells] at *
      go_wp2_with (go_at_call 13; refine Calls.mono (HF.out _) ?_; rintro e w2 ⟨b, rfl, u2⟩; have U2 := U1.more u2)
      have hsx : ∀ W, Upd [] ([(b, .cells formsCells.toArray 45 (0, 0))] ++ [(w.heap.size, .cells (entCells ⟨3, x1, x2, x3, x4⟩) 24 (0, 0))]) w W → (fun w' => w'.cell? ⟨w.heap.size, 0, none⟩ = some (.int .i64 3) ∧ w'.cell? ⟨w.heap.size, 1, none⟩ = some (.int .i64 x1) ∧ w'.cell? ⟨w.heap.size, 2, none⟩ = some (.int .i64 x2) ∧ w'.cell? ⟨w.heap.size, 3, none⟩ = some (.int .i64 x3) ∧ w'.cell? ⟨w.heap.size, 4, none⟩ = some (.int .u64 x4) ∧ w'.cell? ⟨b, 6, none⟩ = some (.string ⟨#[115, 101, 116]⟩) ∧ w'.cell? ⟨b, 7, none⟩ = some (.int .i64 3) ∧ w'.cell? ⟨b, 8, none⟩ = some (.bool false)) W := fun W U => ⟨cell_of U.inn.right.head 0, cell_of U.inn.right.head 1, cell_of U.inn.right.head 2, cell_of U.inn.right.head 3, cell_of U.inn.right.head 4, cell_of U.inn.left.head 6, cell_of U.inn.left.head 7, cell_of U.inn.left.head 8⟩
      have HSX := Lib.hid hsx
      have UZ := U2.drew'
      have tZ := hsx _ UZ
      have HU := Lib.hid UZ
      obtain ⟨q, hq⟩ : ∃ q, fitsS ⟨3, x1, x2, x3, x4⟩ ⟨[115, 101, 116], 3, false⟩ = q := ⟨_, rfl⟩
      have HFT := Lib.hid (fun W => tale_fits ⟨3, x1, x2, x3, x4⟩ ⟨[115, 101, 116], 3, false⟩ (by decide) W)
      rw [hq] at HFT
      simp only [entCells, formCells] at HFT
      clear hsx UZ U2 U1 u2
      have hwk : IntKind.i64.wrap 2 = 2 := by rfl
      go_region_held3 (fun w' => w'.cell? ⟨w.heap.size, 0, none⟩ = some (.int .i64 3) ∧ w'.cell? ⟨w.heap.size, 1, none⟩ = some (.int .i64 x1) ∧ w'.cell? ⟨w.heap.size, 2, none⟩ = some (.int .i64 x2) ∧ w'.cell? ⟨w.heap.size, 3, none⟩ = some (.int .i64 x3) ∧ w'.cell? ⟨w.heap.size, 4, none⟩ = some (.int .u64 x4) ∧ w'.cell? ⟨b, 6, none⟩ = some (.string ⟨#[115, 101, 116]⟩) ∧ w'.cell? ⟨b, 7, none⟩ = some (.int .i64 3) ∧ w'.cell? ⟨b, 8, none⟩ = some (.bool false))
        (first | (with_reducible exact tZ) | (with_reducible exact t3))
        (first | (go_at_call 14; refine Calls.mono (HFT.out _) ?_; rintro e w3 ⟨rfl, u3⟩; have U3 := HU.out.under0 u3; have t3 := HSX.out _ U3))
      cases q
      · have hl : lineOf ⟨3, x1, x2, x3, x4⟩ = none := by (show (if fitsS ⟨3, x1, x2, x3, x4⟩ _ then _ else _) = none; rw [hq]; rfl)
        have HL := Lib.hid hl
        clear hl hq
        go_wp2
        go_ret2
        exact ⟨by rw [lineV_none HL.out]; rfl, U3.forget (List.nil_sublist _)⟩
      · have hl : lineOf ⟨3, x1, x2, x3, x4⟩ = some (Lib.join (wordsOf ⟨3, x1, x2, x3, x4⟩ ⟨[115, 101, 116], 3, false⟩) [32]) := by (show (if fitsS ⟨3, x1, x2, x3, x4⟩ _ then _ else _) = _; rw [hq]; rfl)
        have HL := Lib.hid hl
        have HN := Lib.hid (words_len hx (f := ⟨[115, 101, 116], 3, false⟩) (by decide))
        have HW := Lib.hid (fun W (h : Tab W) => tale_words ⟨3, x1, x2, x3, x4⟩ hx ⟨[115, 101, 116], 3, false⟩ (by decide) W h)
        simp only [entCells, formCells] at HW
        have U6 := U3.drew'
        have t6 := HSX.out _ U6
        have HU6 := Lib.hid U6
        have HT6 := Lib.hid (tab_upd ht U6)
        clear hl hq U6 HU U3 t3 tZ u3 ht hx
        go_wp2_with fail
        go_region_held3 (fun w' => w'.cell? ⟨w.heap.size, 0, none⟩ = some (.int .i64 3) ∧ w'.cell? ⟨w.heap.size, 1, none⟩ = some (.int .i64 x1) ∧ w'.cell? ⟨w.heap.size, 2, none⟩ = some (.int .i64 x2) ∧ w'.cell? ⟨w.heap.size, 3, none⟩ = some (.int .i64 x3) ∧ w'.cell? ⟨w.heap.size, 4, none⟩ = some (.int .u64 x4) ∧ w'.cell? ⟨b, 6, none⟩ = some (.string ⟨#[115, 101, 116]⟩) ∧ w'.cell? ⟨b, 7, none⟩ = some (.int .i64 3) ∧ w'.cell? ⟨b, 8, none⟩ = some (.bool false))
          (first | (with_reducible exact t6) | (with_reducible exact t4) | (with_reducible exact t5))
          (first | (go_at_call 16; refine Calls.mono (HW.out _ HT6.out) ?_; rintro e w4 ⟨v, h, rfl, sl, u4⟩; have U4 := HU6.out.more u4; have t4 := HSX.out _ (U4.forget (List.sublist_append_right _ _)); have SL := Lib.hid sl; clear sl) | (go_at_call 15; refine Calls.mono (join_call SL.out rfl (by simp [wordsOf]) (by have := HN.out.1; omega) U4.inn.left (by have := HN.out.2; omega)) ?_; rintro e w5 ⟨rfl, u5⟩; have U5 := U4.under0 u5; have t5 := HSX.out _ (U5.forget (List.sublist_append_right _ _))))
        go_wp2_with fail
        go_ret2
        exact ⟨by rw [lineV_some HL.out]; rfl, U5.forget (List.nil_sublist _)⟩
    · simp only [entCells] at *
      go_wp2_with (go_at_call 13; refine Calls.mono (HF.out _) ?_; rintro e w2 ⟨b, rfl, u2⟩; have U2 := U1.more u2)
      have hsx : ∀ W, Upd [] ([(b, .cells formsCells.toArray 45 (0, 0))] ++ [(w.heap.size, .cells (entCells ⟨4, x1, x2, x3, x4⟩) 24 (0, 0))]) w W → (fun w' => w'.cell? ⟨w.heap.size, 0, none⟩ = some (.int .i64 4) ∧ w'.cell? ⟨w.heap.size, 1, none⟩ = some (.int .i64 x1) ∧ w'.cell? ⟨w.heap.size, 2, none⟩ = some (.int .i64 x2) ∧ w'.cell? ⟨w.heap.size, 3, none⟩ = some (.int .i64 x3) ∧ w'.cell? ⟨w.heap.size, 4, none⟩ = some (.int .u64 x4) ∧ w'.cell? ⟨b, 9, none⟩ = some (.string ⟨#[114, 101, 97, 100]⟩) ∧ w'.cell? ⟨b, 10, none⟩ = some (.int .i64 2) ∧ w'.cell? ⟨b, 11, none⟩ = some (.bool false)) W := fun W U => ⟨cell_of U.inn.right.head 0, cell_of U.inn.right.head 1, cell_of U.inn.right.head 2, cell_of U.inn.right.head 3, cell_of U.inn.right.head 4, cell_of U.inn.left.head 9, cell_of U.inn.left.head 10, cell_of U.inn.left.head 11⟩
      have HSX := Lib.hid hsx
      have UZ := U2.drew'
      have tZ := hsx _ UZ
      have HU := Lib.hid UZ
      obtain ⟨q, hq⟩ : ∃ q, fitsS ⟨4, x1, x2, x3, x4⟩ ⟨[114, 101, 97, 100], 2, false⟩ = q := ⟨_, rfl⟩
      have HFT := Lib.hid (fun W => tale_fits ⟨4, x1, x2, x3, x4⟩ ⟨[114, 101, 97, 100], 2, false⟩ (by decide) W)
      rw [hq] at HFT
      simp only [entCells, formCells] at HFT
      clear hsx UZ U2 U1 u2
      have hwk : IntKind.i64.wrap 3 = 3 := by rfl
      go_region_held3 (fun w' => w'.cell? ⟨w.heap.size, 0, none⟩ = some (.int .i64 4) ∧ w'.cell? ⟨w.heap.size, 1, none⟩ = some (.int .i64 x1) ∧ w'.cell? ⟨w.heap.size, 2, none⟩ = some (.int .i64 x2) ∧ w'.cell? ⟨w.heap.size, 3, none⟩ = some (.int .i64 x3) ∧ w'.cell? ⟨w.heap.size, 4, none⟩ = some (.int .u64 x4) ∧ w'.cell? ⟨b, 9, none⟩ = some (.string ⟨#[114, 101, 97, 100]⟩) ∧ w'.cell? ⟨b, 10, none⟩ = some (.int .i64 2) ∧ w'.cell? ⟨b, 11, none⟩ = some (.bool false))
        (first | (with_reducible exact tZ) | (with_reducible exact t3))
        (first | (go_at_call 14; refine Calls.mono (HFT.out _) ?_; rintro e w3 ⟨rfl, u3⟩; have U3 := HU.out.under0 u3; have t3 := HSX.out _ U3))
      cases q
      · have hl : lineOf ⟨4, x1, x2, x3, x4⟩ = none := by (show (if fitsS ⟨4, x1, x2, x3, x4⟩ _ then _ else _) = none; rw [hq]; rfl)
        have HL := Lib.hid hl
        clear hl hq
        go_wp2
        go_ret2
        exact ⟨by rw [lineV_none HL.out]; rfl, U3.forget (List.nil_sublist _)⟩
      · have hl : lineOf ⟨4, x1, x2, x3, x4⟩ = some (Lib.join (wordsOf ⟨4, x1, x2, x3, x4⟩ ⟨[114, 101, 97, 100], 2, false⟩) [32]) := by (show (if fitsS ⟨4, x1, x2, x3, x4⟩ _ then _ else _) = _; rw [hq]; rfl)
        have HL := Lib.hid hl
        have HN := Lib.hid (words_len hx (f := ⟨[114, 101, 97, 100], 2, false⟩) (by decide))
        have HW := Lib.hid (fun W (h : Tab W) => tale_words ⟨4, x1, x2, x3, x4⟩ hx ⟨[114, 101, 97, 100], 2, false⟩ (by decide) W h)
        simp only [entCells, formCells] at HW
        have U6 := U3.drew'
        have t6 := HSX.out _ U6
        have HU6 := Lib.hid U6
        have HT6 := Lib.hid (tab_upd ht U6)
        clear hl hq U6 HU U3 t3 tZ u3 ht hx
        go_wp2_with fail
        go_region_held3 (fun w' => w'.cell? ⟨w.heap.size, 0, none⟩ = some (.int .i64 4) ∧ w'.cell? ⟨w.heap.size, 1, none⟩ = some (.int .i64 x1) ∧ w'.cell? ⟨w.heap.size, 2, none⟩ = some (.int .i64 x2) ∧ w'.cell? ⟨w.heap.size, 3, none⟩ = some (.int .i64 x3) ∧ w'.cell? ⟨w.heap.size, 4, none⟩ = some (.int .u64 x4) ∧ w'.cell? ⟨b, 9, none⟩ = some (.string ⟨#[114, 101, 97, 100]⟩) ∧ w'.cell? ⟨b, 10, none⟩ = some (.int .i64 2) ∧ w'.cell? ⟨b, 11, none⟩ = some (.bool false))
          (first | (with_reducible exact t6) | (with_reducible exact t4) | (with_reducible exact t5))
          (first | (go_at_call 16; refine Calls.mono (HW.out _ HT6.out) ?_; rintro e w4 ⟨v, h, rfl, sl, u4⟩; have U4 := HU6.out.more u4; have t4 := HSX.out _ (U4.forget (List.sublist_append_right _ _)); have SL := Lib.hid sl; clear sl) | (go_at_call 15; refine Calls.mono (join_call SL.out rfl (by simp [wordsOf]) (by have := HN.out.1; omega) U4.inn.left (by have := HN.out.2; omega)) ?_; rintro e w5 ⟨rfl, u5⟩; have U5 := U4.under0 u5; have t5 := HSX.out _ (U5.forget (List.sublist_append_right _ _))))
        go_wp2_with fail
        go_ret2
        exact ⟨by rw [lineV_some HL.out]; rfl, U5.forget (List.nil_sublist _)⟩
    · simp only [entCells] at *
      go_wp2_with (go_at_call 13; refine Calls.mono (HF.out _) ?_; rintro e w2 ⟨b, rfl, u2⟩; have U2 := U1.more u2)
      have hsx : ∀ W, Upd [] ([(b, .cells formsCells.toArray 45 (0, 0))] ++ [(w.heap.size, .cells (entCells ⟨5, x1, x2, x3, x4⟩) 24 (0, 0))]) w W → (fun w' => w'.cell? ⟨w.heap.size, 0, none⟩ = some (.int .i64 5) ∧ w'.cell? ⟨w.heap.size, 1, none⟩ = some (.int .i64 x1) ∧ w'.cell? ⟨w.heap.size, 2, none⟩ = some (.int .i64 x2) ∧ w'.cell? ⟨w.heap.size, 3, none⟩ = some (.int .i64 x3) ∧ w'.cell? ⟨w.heap.size, 4, none⟩ = some (.int .u64 x4) ∧ w'.cell? ⟨b, 12, none⟩ = some (.string ⟨#[119, 114, 105, 116, 101]⟩) ∧ w'.cell? ⟨b, 13, none⟩ = some (.int .i64 2) ∧ w'.cell? ⟨b, 14, none⟩ = some (.bool true)) W := fun W U => ⟨cell_of U.inn.right.head 0, cell_of U.inn.right.head 1, cell_of U.inn.right.head 2, cell_of U.inn.right.head 3, cell_of U.inn.right.head 4, cell_of U.inn.left.head 12, cell_of U.inn.left.head 13, cell_of U.inn.left.head 14⟩
      have HSX := Lib.hid hsx
      have UZ := U2.drew'
      have tZ := hsx _ UZ
      have HU := Lib.hid UZ
      obtain ⟨q, hq⟩ : ∃ q, fitsS ⟨5, x1, x2, x3, x4⟩ ⟨[119, 114, 105, 116, 101], 2, true⟩ = q := ⟨_, rfl⟩
      have HFT := Lib.hid (fun W => tale_fits ⟨5, x1, x2, x3, x4⟩ ⟨[119, 114, 105, 116, 101], 2, true⟩ (by decide) W)
      rw [hq] at HFT
      simp only [entCells, formCells] at HFT
      clear hsx UZ U2 U1 u2
      have hwk : IntKind.i64.wrap 4 = 4 := by rfl
      go_region_held3 (fun w' => w'.cell? ⟨w.heap.size, 0, none⟩ = some (.int .i64 5) ∧ w'.cell? ⟨w.heap.size, 1, none⟩ = some (.int .i64 x1) ∧ w'.cell? ⟨w.heap.size, 2, none⟩ = some (.int .i64 x2) ∧ w'.cell? ⟨w.heap.size, 3, none⟩ = some (.int .i64 x3) ∧ w'.cell? ⟨w.heap.size, 4, none⟩ = some (.int .u64 x4) ∧ w'.cell? ⟨b, 12, none⟩ = some (.string ⟨#[119, 114, 105, 116, 101]⟩) ∧ w'.cell? ⟨b, 13, none⟩ = some (.int .i64 2) ∧ w'.cell? ⟨b, 14, none⟩ = some (.bool true))
        (first | (with_reducible exact tZ) | (with_reducible exact t3))
        (first | (go_at_call 14; refine Calls.mono (HFT.out _) ?_; rintro e w3 ⟨rfl, u3⟩; have U3 := HU.out.under0 u3; have t3 := HSX.out _ U3))
      cases q
      · have hl : lineOf ⟨5, x1, x2, x3, x4⟩ = none := by (show (if fitsS ⟨5, x1, x2, x3, x4⟩ _ then _ else _) = none; rw [hq]; rfl)
        have HL := Lib.hid hl
        clear hl hq
        go_wp2
        go_ret2
        exact ⟨by rw [lineV_none HL.out]; rfl, U3.forget (List.nil_sublist _)⟩
      · have hl : lineOf ⟨5, x1, x2, x3, x4⟩ = some (Lib.join (wordsOf ⟨5, x1, x2, x3, x4⟩ ⟨[119, 114, 105, 116, 101], 2, true⟩) [32]) := by (show (if fitsS ⟨5, x1, x2, x3, x4⟩ _ then _ else _) = _; rw [hq]; rfl)
        have HL := Lib.hid hl
        have HN := Lib.hid (words_len hx (f := ⟨[119, 114, 105, 116, 101], 2, true⟩) (by decide))
        have HW := Lib.hid (fun W (h : Tab W) => tale_words ⟨5, x1, x2, x3, x4⟩ hx ⟨[119, 114, 105, 116, 101], 2, true⟩ (by decide) W h)
        simp only [entCells, formCells] at HW
        have U6 := U3.drew'
        have t6 := HSX.out _ U6
        have HU6 := Lib.hid U6
        have HT6 := Lib.hid (tab_upd ht U6)
        clear hl hq U6 HU U3 t3 tZ u3 ht hx
        go_wp2_with fail
        go_region_held3 (fun w' => w'.cell? ⟨w.heap.size, 0, none⟩ = some (.int .i64 5) ∧ w'.cell? ⟨w.heap.size, 1, none⟩ = some (.int .i64 x1) ∧ w'.cell? ⟨w.heap.size, 2, none⟩ = some (.int .i64 x2) ∧ w'.cell? ⟨w.heap.size, 3, none⟩ = some (.int .i64 x3) ∧ w'.cell? ⟨w.heap.size, 4, none⟩ = some (.int .u64 x4) ∧ w'.cell? ⟨b, 12, none⟩ = some (.string ⟨#[119, 114, 105, 116, 101]⟩) ∧ w'.cell? ⟨b, 13, none⟩ = some (.int .i64 2) ∧ w'.cell? ⟨b, 14, none⟩ = some (.bool true))
          (first | (with_reducible exact t6) | (with_reducible exact t4) | (with_reducible exact t5))
          (first | (go_at_call 16; refine Calls.mono (HW.out _ HT6.out) ?_; rintro e w4 ⟨v, h, rfl, sl, u4⟩; have U4 := HU6.out.more u4; have t4 := HSX.out _ (U4.forget (List.sublist_append_right _ _)); have SL := Lib.hid sl; clear sl) | (go_at_call 15; refine Calls.mono (join_call SL.out rfl (by simp [wordsOf]) (by have := HN.out.1; omega) U4.inn.left (by have := HN.out.2; omega)) ?_; rintro e w5 ⟨rfl, u5⟩; have U5 := U4.under0 u5; have t5 := HSX.out _ (U5.forget (List.sublist_append_right _ _))))
        go_wp2_with fail
        go_ret2
        exact ⟨by rw [lineV_some HL.out]; rfl, U5.forget (List.nil_sublist _)⟩
    · simp only [entCells] at *
      go_wp2_with (go_at_call 13; refine Calls.mono (HF.out _) ?_; rintro e w2 ⟨b, rfl, u2⟩; have U2 := U1.more u2)
      have hsx : ∀ W, Upd [] ([(b, .cells formsCells.toArray 45 (0, 0))] ++ [(w.heap.size, .cells (entCells ⟨6, x1, x2, x3, x4⟩) 24 (0, 0))]) w W → (fun w' => w'.cell? ⟨w.heap.size, 0, none⟩ = some (.int .i64 6) ∧ w'.cell? ⟨w.heap.size, 1, none⟩ = some (.int .i64 x1) ∧ w'.cell? ⟨w.heap.size, 2, none⟩ = some (.int .i64 x2) ∧ w'.cell? ⟨w.heap.size, 3, none⟩ = some (.int .i64 x3) ∧ w'.cell? ⟨w.heap.size, 4, none⟩ = some (.int .u64 x4) ∧ w'.cell? ⟨b, 15, none⟩ = some (.string ⟨#[99, 108, 101, 97, 114]⟩) ∧ w'.cell? ⟨b, 16, none⟩ = some (.int .i64 1) ∧ w'.cell? ⟨b, 17, none⟩ = some (.bool false)) W := fun W U => ⟨cell_of U.inn.right.head 0, cell_of U.inn.right.head 1, cell_of U.inn.right.head 2, cell_of U.inn.right.head 3, cell_of U.inn.right.head 4, cell_of U.inn.left.head 15, cell_of U.inn.left.head 16, cell_of U.inn.left.head 17⟩
      have HSX := Lib.hid hsx
      have UZ := U2.drew'
      have tZ := hsx _ UZ
      have HU := Lib.hid UZ
      obtain ⟨q, hq⟩ : ∃ q, fitsS ⟨6, x1, x2, x3, x4⟩ ⟨[99, 108, 101, 97, 114], 1, false⟩ = q := ⟨_, rfl⟩
      have HFT := Lib.hid (fun W => tale_fits ⟨6, x1, x2, x3, x4⟩ ⟨[99, 108, 101, 97, 114], 1, false⟩ (by decide) W)
      rw [hq] at HFT
      simp only [entCells, formCells] at HFT
      clear hsx UZ U2 U1 u2
      have hwk : IntKind.i64.wrap 5 = 5 := by rfl
      go_region_held3 (fun w' => w'.cell? ⟨w.heap.size, 0, none⟩ = some (.int .i64 6) ∧ w'.cell? ⟨w.heap.size, 1, none⟩ = some (.int .i64 x1) ∧ w'.cell? ⟨w.heap.size, 2, none⟩ = some (.int .i64 x2) ∧ w'.cell? ⟨w.heap.size, 3, none⟩ = some (.int .i64 x3) ∧ w'.cell? ⟨w.heap.size, 4, none⟩ = some (.int .u64 x4) ∧ w'.cell? ⟨b, 15, none⟩ = some (.string ⟨#[99, 108, 101, 97, 114]⟩) ∧ w'.cell? ⟨b, 16, none⟩ = some (.int .i64 1) ∧ w'.cell? ⟨b, 17, none⟩ = some (.bool false))
        (first | (with_reducible exact tZ) | (with_reducible exact t3))
        (first | (go_at_call 14; refine Calls.mono (HFT.out _) ?_; rintro e w3 ⟨rfl, u3⟩; have U3 := HU.out.under0 u3; have t3 := HSX.out _ U3))
      cases q
      · have hl : lineOf ⟨6, x1, x2, x3, x4⟩ = none := by (show (if fitsS ⟨6, x1, x2, x3, x4⟩ _ then _ else _) = none; rw [hq]; rfl)
        have HL := Lib.hid hl
        clear hl hq
        go_wp2
        go_ret2
        exact ⟨by rw [lineV_none HL.out]; rfl, U3.forget (List.nil_sublist _)⟩
      · have hl : lineOf ⟨6, x1, x2, x3, x4⟩ = some (Lib.join (wordsOf ⟨6, x1, x2, x3, x4⟩ ⟨[99, 108, 101, 97, 114], 1, false⟩) [32]) := by (show (if fitsS ⟨6, x1, x2, x3, x4⟩ _ then _ else _) = _; rw [hq]; rfl)
        have HL := Lib.hid hl
        have HN := Lib.hid (words_len hx (f := ⟨[99, 108, 101, 97, 114], 1, false⟩) (by decide))
        have HW := Lib.hid (fun W (h : Tab W) => tale_words ⟨6, x1, x2, x3, x4⟩ hx ⟨[99, 108, 101, 97, 114], 1, false⟩ (by decide) W h)
        simp only [entCells, formCells] at HW
        have U6 := U3.drew'
        have t6 := HSX.out _ U6
        have HU6 := Lib.hid U6
        have HT6 := Lib.hid (tab_upd ht U6)
        clear hl hq U6 HU U3 t3 tZ u3 ht hx
        go_wp2_with fail
        go_region_held3 (fun w' => w'.cell? ⟨w.heap.size, 0, none⟩ = some (.int .i64 6) ∧ w'.cell? ⟨w.heap.size, 1, none⟩ = some (.int .i64 x1) ∧ w'.cell? ⟨w.heap.size, 2, none⟩ = some (.int .i64 x2) ∧ w'.cell? ⟨w.heap.size, 3, none⟩ = some (.int .i64 x3) ∧ w'.cell? ⟨w.heap.size, 4, none⟩ = some (.int .u64 x4) ∧ w'.cell? ⟨b, 15, none⟩ = some (.string ⟨#[99, 108, 101, 97, 114]⟩) ∧ w'.cell? ⟨b, 16, none⟩ = some (.int .i64 1) ∧ w'.cell? ⟨b, 17, none⟩ = some (.bool false))
          (first | (with_reducible exact t6) | (with_reducible exact t4) | (with_reducible exact t5))
          (first | (go_at_call 16; refine Calls.mono (HW.out _ HT6.out) ?_; rintro e w4 ⟨v, h, rfl, sl, u4⟩; have U4 := HU6.out.more u4; have t4 := HSX.out _ (U4.forget (List.sublist_append_right _ _)); have SL := Lib.hid sl; clear sl) | (go_at_call 15; refine Calls.mono (join_call SL.out rfl (by simp [wordsOf]) (by have := HN.out.1; omega) U4.inn.left (by have := HN.out.2; omega)) ?_; rintro e w5 ⟨rfl, u5⟩; have U5 := U4.under0 u5; have t5 := HSX.out _ (U5.forget (List.sublist_append_right _ _))))
        go_wp2_with fail
        go_ret2
        exact ⟨by rw [lineV_some HL.out]; rfl, U5.forget (List.nil_sublist _)⟩
    · simp only [entCells] at *
      go_wp2_with (go_at_call 13; refine Calls.mono (HF.out _) ?_; rintro e w2 ⟨b, rfl, u2⟩; have U2 := U1.more u2)
      have hsx : ∀ W, Upd [] ([(b, .cells formsCells.toArray 45 (0, 0))] ++ [(w.heap.size, .cells (entCells ⟨7, x1, x2, x3, x4⟩) 24 (0, 0))]) w W → (fun w' => w'.cell? ⟨w.heap.size, 0, none⟩ = some (.int .i64 7) ∧ w'.cell? ⟨w.heap.size, 1, none⟩ = some (.int .i64 x1) ∧ w'.cell? ⟨w.heap.size, 2, none⟩ = some (.int .i64 x2) ∧ w'.cell? ⟨w.heap.size, 3, none⟩ = some (.int .i64 x3) ∧ w'.cell? ⟨w.heap.size, 4, none⟩ = some (.int .u64 x4) ∧ w'.cell? ⟨b, 18, none⟩ = some (.string ⟨#[99, 111, 112, 121]⟩) ∧ w'.cell? ⟨b, 19, none⟩ = some (.int .i64 2) ∧ w'.cell? ⟨b, 20, none⟩ = some (.bool false)) W := fun W U => ⟨cell_of U.inn.right.head 0, cell_of U.inn.right.head 1, cell_of U.inn.right.head 2, cell_of U.inn.right.head 3, cell_of U.inn.right.head 4, cell_of U.inn.left.head 18, cell_of U.inn.left.head 19, cell_of U.inn.left.head 20⟩
      have HSX := Lib.hid hsx
      have UZ := U2.drew'
      have tZ := hsx _ UZ
      have HU := Lib.hid UZ
      obtain ⟨q, hq⟩ : ∃ q, fitsS ⟨7, x1, x2, x3, x4⟩ ⟨[99, 111, 112, 121], 2, false⟩ = q := ⟨_, rfl⟩
      have HFT := Lib.hid (fun W => tale_fits ⟨7, x1, x2, x3, x4⟩ ⟨[99, 111, 112, 121], 2, false⟩ (by decide) W)
      rw [hq] at HFT
      simp only [entCells, formCells] at HFT
      clear hsx UZ U2 U1 u2
      have hwk : IntKind.i64.wrap 6 = 6 := by rfl
      go_region_held3 (fun w' => w'.cell? ⟨w.heap.size, 0, none⟩ = some (.int .i64 7) ∧ w'.cell? ⟨w.heap.size, 1, none⟩ = some (.int .i64 x1) ∧ w'.cell? ⟨w.heap.size, 2, none⟩ = some (.int .i64 x2) ∧ w'.cell? ⟨w.heap.size, 3, none⟩ = some (.int .i64 x3) ∧ w'.cell? ⟨w.heap.size, 4, none⟩ = some (.int .u64 x4) ∧ w'.cell? ⟨b, 18, none⟩ = some (.string ⟨#[99, 111, 112, 121]⟩) ∧ w'.cell? ⟨b, 19, none⟩ = some (.int .i64 2) ∧ w'.cell? ⟨b, 20, none⟩ = some (.bool false))
        (first | (with_reducible exact tZ) | (with_reducible exact t3))
        (first | (go_at_call 14; refine Calls.mono (HFT.out _) ?_; rintro e w3 ⟨rfl, u3⟩; have U3 := HU.out.under0 u3; have t3 := HSX.out _ U3))
      cases q
      · have hl : lineOf ⟨7, x1, x2, x3, x4⟩ = none := by (show (if fitsS ⟨7, x1, x2, x3, x4⟩ _ then _ else _) = none; rw [hq]; rfl)
        have HL := Lib.hid hl
        clear hl hq
        go_wp2
        go_ret2
        exact ⟨by rw [lineV_none HL.out]; rfl, U3.forget (List.nil_sublist _)⟩
      · have hl : lineOf ⟨7, x1, x2, x3, x4⟩ = some (Lib.join (wordsOf ⟨7, x1, x2, x3, x4⟩ ⟨[99, 111, 112, 121], 2, false⟩) [32]) := by (show (if fitsS ⟨7, x1, x2, x3, x4⟩ _ then _ else _) = _; rw [hq]; rfl)
        have HL := Lib.hid hl
        have HN := Lib.hid (words_len hx (f := ⟨[99, 111, 112, 121], 2, false⟩) (by decide))
        have HW := Lib.hid (fun W (h : Tab W) => tale_words ⟨7, x1, x2, x3, x4⟩ hx ⟨[99, 111, 112, 121], 2, false⟩ (by decide) W h)
        simp only [entCells, formCells] at HW
        have U6 := U3.drew'
        have t6 := HSX.out _ U6
        have HU6 := Lib.hid U6
        have HT6 := Lib.hid (tab_upd ht U6)
        clear hl hq U6 HU U3 t3 tZ u3 ht hx
        go_wp2_with fail
        go_region_held3 (fun w' => w'.cell? ⟨w.heap.size, 0, none⟩ = some (.int .i64 7) ∧ w'.cell? ⟨w.heap.size, 1, none⟩ = some (.int .i64 x1) ∧ w'.cell? ⟨w.heap.size, 2, none⟩ = some (.int .i64 x2) ∧ w'.cell? ⟨w.heap.size, 3, none⟩ = some (.int .i64 x3) ∧ w'.cell? ⟨w.heap.size, 4, none⟩ = some (.int .u64 x4) ∧ w'.cell? ⟨b, 18, none⟩ = some (.string ⟨#[99, 111, 112, 121]⟩) ∧ w'.cell? ⟨b, 19, none⟩ = some (.int .i64 2) ∧ w'.cell? ⟨b, 20, none⟩ = some (.bool false))
          (first | (with_reducible exact t6) | (with_reducible exact t4) | (with_reducible exact t5))
          (first | (go_at_call 16; refine Calls.mono (HW.out _ HT6.out) ?_; rintro e w4 ⟨v, h, rfl, sl, u4⟩; have U4 := HU6.out.more u4; have t4 := HSX.out _ (U4.forget (List.sublist_append_right _ _)); have SL := Lib.hid sl; clear sl) | (go_at_call 15; refine Calls.mono (join_call SL.out rfl (by simp [wordsOf]) (by have := HN.out.1; omega) U4.inn.left (by have := HN.out.2; omega)) ?_; rintro e w5 ⟨rfl, u5⟩; have U5 := U4.under0 u5; have t5 := HSX.out _ (U5.forget (List.sublist_append_right _ _))))
        go_wp2_with fail
        go_ret2
        exact ⟨by rw [lineV_some HL.out]; rfl, U5.forget (List.nil_sublist _)⟩
    · simp only [entCells] at *
      go_wp2_with (go_at_call 13; refine Calls.mono (HF.out _) ?_; rintro e w2 ⟨b, rfl, u2⟩; have U2 := U1.more u2)
      have hsx : ∀ W, Upd [] ([(b, .cells formsCells.toArray 45 (0, 0))] ++ [(w.heap.size, .cells (entCells ⟨8, x1, x2, x3, x4⟩) 24 (0, 0))]) w W → (fun w' => w'.cell? ⟨w.heap.size, 0, none⟩ = some (.int .i64 8) ∧ w'.cell? ⟨w.heap.size, 1, none⟩ = some (.int .i64 x1) ∧ w'.cell? ⟨w.heap.size, 2, none⟩ = some (.int .i64 x2) ∧ w'.cell? ⟨w.heap.size, 3, none⟩ = some (.int .i64 x3) ∧ w'.cell? ⟨w.heap.size, 4, none⟩ = some (.int .u64 x4) ∧ w'.cell? ⟨b, 21, none⟩ = some (.string ⟨#[115, 97, 109, 101]⟩) ∧ w'.cell? ⟨b, 22, none⟩ = some (.int .i64 2) ∧ w'.cell? ⟨b, 23, none⟩ = some (.bool false)) W := fun W U => ⟨cell_of U.inn.right.head 0, cell_of U.inn.right.head 1, cell_of U.inn.right.head 2, cell_of U.inn.right.head 3, cell_of U.inn.right.head 4, cell_of U.inn.left.head 21, cell_of U.inn.left.head 22, cell_of U.inn.left.head 23⟩
      have HSX := Lib.hid hsx
      have UZ := U2.drew'
      have tZ := hsx _ UZ
      have HU := Lib.hid UZ
      obtain ⟨q, hq⟩ : ∃ q, fitsS ⟨8, x1, x2, x3, x4⟩ ⟨[115, 97, 109, 101], 2, false⟩ = q := ⟨_, rfl⟩
      have HFT := Lib.hid (fun W => tale_fits ⟨8, x1, x2, x3, x4⟩ ⟨[115, 97, 109, 101], 2, false⟩ (by decide) W)
      rw [hq] at HFT
      simp only [entCells, formCells] at HFT
      clear hsx UZ U2 U1 u2
      have hwk : IntKind.i64.wrap 7 = 7 := by rfl
      go_region_held3 (fun w' => w'.cell? ⟨w.heap.size, 0, none⟩ = some (.int .i64 8) ∧ w'.cell? ⟨w.heap.size, 1, none⟩ = some (.int .i64 x1) ∧ w'.cell? ⟨w.heap.size, 2, none⟩ = some (.int .i64 x2) ∧ w'.cell? ⟨w.heap.size, 3, none⟩ = some (.int .i64 x3) ∧ w'.cell? ⟨w.heap.size, 4, none⟩ = some (.int .u64 x4) ∧ w'.cell? ⟨b, 21, none⟩ = some (.string ⟨#[115, 97, 109, 101]⟩) ∧ w'.cell? ⟨b, 22, none⟩ = some (.int .i64 2) ∧ w'.cell? ⟨b, 23, none⟩ = some (.bool false))
        (first | (with_reducible exact tZ) | (with_reducible exact t3))
        (first | (go_at_call 14; refine Calls.mono (HFT.out _) ?_; rintro e w3 ⟨rfl, u3⟩; have U3 := HU.out.under0 u3; have t3 := HSX.out _ U3))
      cases q
      · have hl : lineOf ⟨8, x1, x2, x3, x4⟩ = none := by (show (if fitsS ⟨8, x1, x2, x3, x4⟩ _ then _ else _) = none; rw [hq]; rfl)
        have HL := Lib.hid hl
        clear hl hq
        go_wp2
        go_ret2
        exact ⟨by rw [lineV_none HL.out]; rfl, U3.forget (List.nil_sublist _)⟩
      · have hl : lineOf ⟨8, x1, x2, x3, x4⟩ = some (Lib.join (wordsOf ⟨8, x1, x2, x3, x4⟩ ⟨[115, 97, 109, 101], 2, false⟩) [32]) := by (show (if fitsS ⟨8, x1, x2, x3, x4⟩ _ then _ else _) = _; rw [hq]; rfl)
        have HL := Lib.hid hl
        have HN := Lib.hid (words_len hx (f := ⟨[115, 97, 109, 101], 2, false⟩) (by decide))
        have HW := Lib.hid (fun W (h : Tab W) => tale_words ⟨8, x1, x2, x3, x4⟩ hx ⟨[115, 97, 109, 101], 2, false⟩ (by decide) W h)
        simp only [entCells, formCells] at HW
        have U6 := U3.drew'
        have t6 := HSX.out _ U6
        have HU6 := Lib.hid U6
        have HT6 := Lib.hid (tab_upd ht U6)
        clear hl hq U6 HU U3 t3 tZ u3 ht hx
        go_wp2_with fail
        go_region_held3 (fun w' => w'.cell? ⟨w.heap.size, 0, none⟩ = some (.int .i64 8) ∧ w'.cell? ⟨w.heap.size, 1, none⟩ = some (.int .i64 x1) ∧ w'.cell? ⟨w.heap.size, 2, none⟩ = some (.int .i64 x2) ∧ w'.cell? ⟨w.heap.size, 3, none⟩ = some (.int .i64 x3) ∧ w'.cell? ⟨w.heap.size, 4, none⟩ = some (.int .u64 x4) ∧ w'.cell? ⟨b, 21, none⟩ = some (.string ⟨#[115, 97, 109, 101]⟩) ∧ w'.cell? ⟨b, 22, none⟩ = some (.int .i64 2) ∧ w'.cell? ⟨b, 23, none⟩ = some (.bool false))
          (first | (with_reducible exact t6) | (with_reducible exact t4) | (with_reducible exact t5))
          (first | (go_at_call 16; refine Calls.mono (HW.out _ HT6.out) ?_; rintro e w4 ⟨v, h, rfl, sl, u4⟩; have U4 := HU6.out.more u4; have t4 := HSX.out _ (U4.forget (List.sublist_append_right _ _)); have SL := Lib.hid sl; clear sl) | (go_at_call 15; refine Calls.mono (join_call SL.out rfl (by simp [wordsOf]) (by have := HN.out.1; omega) U4.inn.left (by have := HN.out.2; omega)) ?_; rintro e w5 ⟨rfl, u5⟩; have U5 := U4.under0 u5; have t5 := HSX.out _ (U5.forget (List.sublist_append_right _ _))))
        go_wp2_with fail
        go_ret2
        exact ⟨by rw [lineV_some HL.out]; rfl, U5.forget (List.nil_sublist _)⟩
    · simp only [entCells] at *
      go_wp2_with (go_at_call 13; refine Calls.mono (HF.out _) ?_; rintro e w2 ⟨b, rfl, u2⟩; have U2 := U1.more u2)
      have hsx : ∀ W, Upd [] ([(b, .cells formsCells.toArray 45 (0, 0))] ++ [(w.heap.size, .cells (entCells ⟨9, x1, x2, x3, x4⟩) 24 (0, 0))]) w W → (fun w' => w'.cell? ⟨w.heap.size, 0, none⟩ = some (.int .i64 9) ∧ w'.cell? ⟨w.heap.size, 1, none⟩ = some (.int .i64 x1) ∧ w'.cell? ⟨w.heap.size, 2, none⟩ = some (.int .i64 x2) ∧ w'.cell? ⟨w.heap.size, 3, none⟩ = some (.int .i64 x3) ∧ w'.cell? ⟨w.heap.size, 4, none⟩ = some (.int .u64 x4) ∧ w'.cell? ⟨b, 24, none⟩ = some (.string ⟨#[110, 105, 108]⟩) ∧ w'.cell? ⟨b, 25, none⟩ = some (.int .i64 1) ∧ w'.cell? ⟨b, 26, none⟩ = some (.bool false)) W := fun W U => ⟨cell_of U.inn.right.head 0, cell_of U.inn.right.head 1, cell_of U.inn.right.head 2, cell_of U.inn.right.head 3, cell_of U.inn.right.head 4, cell_of U.inn.left.head 24, cell_of U.inn.left.head 25, cell_of U.inn.left.head 26⟩
      have HSX := Lib.hid hsx
      have UZ := U2.drew'
      have tZ := hsx _ UZ
      have HU := Lib.hid UZ
      obtain ⟨q, hq⟩ : ∃ q, fitsS ⟨9, x1, x2, x3, x4⟩ ⟨[110, 105, 108], 1, false⟩ = q := ⟨_, rfl⟩
      have HFT := Lib.hid (fun W => tale_fits ⟨9, x1, x2, x3, x4⟩ ⟨[110, 105, 108], 1, false⟩ (by decide) W)
      rw [hq] at HFT
      simp only [entCells, formCells] at HFT
      clear hsx UZ U2 U1 u2
      have hwk : IntKind.i64.wrap 8 = 8 := by rfl
      go_region_held3 (fun w' => w'.cell? ⟨w.heap.size, 0, none⟩ = some (.int .i64 9) ∧ w'.cell? ⟨w.heap.size, 1, none⟩ = some (.int .i64 x1) ∧ w'.cell? ⟨w.heap.size, 2, none⟩ = some (.int .i64 x2) ∧ w'.cell? ⟨w.heap.size, 3, none⟩ = some (.int .i64 x3) ∧ w'.cell? ⟨w.heap.size, 4, none⟩ = some (.int .u64 x4) ∧ w'.cell? ⟨b, 24, none⟩ = some (.string ⟨#[110, 105, 108]⟩) ∧ w'.cell? ⟨b, 25, none⟩ = some (.int .i64 1) ∧ w'.cell? ⟨b, 26, none⟩ = some (.bool false))
        (first | (with_reducible exact tZ) | (with_reducible exact t3))
        (first | (go_at_call 14; refine Calls.mono (HFT.out _) ?_; rintro e w3 ⟨rfl, u3⟩; have U3 := HU.out.under0 u3; have t3 := HSX.out _ U3))
      cases q
      · have hl : lineOf ⟨9, x1, x2, x3, x4⟩ = none := by (show (if fitsS ⟨9, x1, x2, x3, x4⟩ _ then _ else _) = none; rw [hq]; rfl)
        have HL := Lib.hid hl
        clear hl hq
        go_wp2
        go_ret2
        exact ⟨by rw [lineV_none HL.out]; rfl, U3.forget (List.nil_sublist _)⟩
      · have hl : lineOf ⟨9, x1, x2, x3, x4⟩ = some (Lib.join (wordsOf ⟨9, x1, x2, x3, x4⟩ ⟨[110, 105, 108], 1, false⟩) [32]) := by (show (if fitsS ⟨9, x1, x2, x3, x4⟩ _ then _ else _) = _; rw [hq]; rfl)
        have HL := Lib.hid hl
        have HN := Lib.hid (words_len hx (f := ⟨[110, 105, 108], 1, false⟩) (by decide))
        have HW := Lib.hid (fun W (h : Tab W) => tale_words ⟨9, x1, x2, x3, x4⟩ hx ⟨[110, 105, 108], 1, false⟩ (by decide) W h)
        simp only [entCells, formCells] at HW
        have U6 := U3.drew'
        have t6 := HSX.out _ U6
        have HU6 := Lib.hid U6
        have HT6 := Lib.hid (tab_upd ht U6)
        clear hl hq U6 HU U3 t3 tZ u3 ht hx
        go_wp2_with fail
        go_region_held3 (fun w' => w'.cell? ⟨w.heap.size, 0, none⟩ = some (.int .i64 9) ∧ w'.cell? ⟨w.heap.size, 1, none⟩ = some (.int .i64 x1) ∧ w'.cell? ⟨w.heap.size, 2, none⟩ = some (.int .i64 x2) ∧ w'.cell? ⟨w.heap.size, 3, none⟩ = some (.int .i64 x3) ∧ w'.cell? ⟨w.heap.size, 4, none⟩ = some (.int .u64 x4) ∧ w'.cell? ⟨b, 24, none⟩ = some (.string ⟨#[110, 105, 108]⟩) ∧ w'.cell? ⟨b, 25, none⟩ = some (.int .i64 1) ∧ w'.cell? ⟨b, 26, none⟩ = some (.bool false))
          (first | (with_reducible exact t6) | (with_reducible exact t4) | (with_reducible exact t5))
          (first | (go_at_call 16; refine Calls.mono (HW.out _ HT6.out) ?_; rintro e w4 ⟨v, h, rfl, sl, u4⟩; have U4 := HU6.out.more u4; have t4 := HSX.out _ (U4.forget (List.sublist_append_right _ _)); have SL := Lib.hid sl; clear sl) | (go_at_call 15; refine Calls.mono (join_call SL.out rfl (by simp [wordsOf]) (by have := HN.out.1; omega) U4.inn.left (by have := HN.out.2; omega)) ?_; rintro e w5 ⟨rfl, u5⟩; have U5 := U4.under0 u5; have t5 := HSX.out _ (U5.forget (List.sublist_append_right _ _))))
        go_wp2_with fail
        go_ret2
        exact ⟨by rw [lineV_some HL.out]; rfl, U5.forget (List.nil_sublist _)⟩
    · simp only [entCells] at *
      go_wp2_with (go_at_call 13; refine Calls.mono (HF.out _) ?_; rintro e w2 ⟨b, rfl, u2⟩; have U2 := U1.more u2)
      have hsx : ∀ W, Upd [] ([(b, .cells formsCells.toArray 45 (0, 0))] ++ [(w.heap.size, .cells (entCells ⟨10, x1, x2, x3, x4⟩) 24 (0, 0))]) w W → (fun w' => w'.cell? ⟨w.heap.size, 0, none⟩ = some (.int .i64 10) ∧ w'.cell? ⟨w.heap.size, 1, none⟩ = some (.int .i64 x1) ∧ w'.cell? ⟨w.heap.size, 2, none⟩ = some (.int .i64 x2) ∧ w'.cell? ⟨w.heap.size, 3, none⟩ = some (.int .i64 x3) ∧ w'.cell? ⟨w.heap.size, 4, none⟩ = some (.int .u64 x4) ∧ w'.cell? ⟨b, 27, none⟩ = some (.string ⟨#[115, 104, 97, 112, 101]⟩) ∧ w'.cell? ⟨b, 28, none⟩ = some (.int .i64 1) ∧ w'.cell? ⟨b, 29, none⟩ = some (.bool false)) W := fun W U => ⟨cell_of U.inn.right.head 0, cell_of U.inn.right.head 1, cell_of U.inn.right.head 2, cell_of U.inn.right.head 3, cell_of U.inn.right.head 4, cell_of U.inn.left.head 27, cell_of U.inn.left.head 28, cell_of U.inn.left.head 29⟩
      have HSX := Lib.hid hsx
      have UZ := U2.drew'
      have tZ := hsx _ UZ
      have HU := Lib.hid UZ
      obtain ⟨q, hq⟩ : ∃ q, fitsS ⟨10, x1, x2, x3, x4⟩ ⟨[115, 104, 97, 112, 101], 1, false⟩ = q := ⟨_, rfl⟩
      have HFT := Lib.hid (fun W => tale_fits ⟨10, x1, x2, x3, x4⟩ ⟨[115, 104, 97, 112, 101], 1, false⟩ (by decide) W)
      rw [hq] at HFT
      simp only [entCells, formCells] at HFT
      clear hsx UZ U2 U1 u2
      have hwk : IntKind.i64.wrap 9 = 9 := by rfl
      go_region_held3 (fun w' => w'.cell? ⟨w.heap.size, 0, none⟩ = some (.int .i64 10) ∧ w'.cell? ⟨w.heap.size, 1, none⟩ = some (.int .i64 x1) ∧ w'.cell? ⟨w.heap.size, 2, none⟩ = some (.int .i64 x2) ∧ w'.cell? ⟨w.heap.size, 3, none⟩ = some (.int .i64 x3) ∧ w'.cell? ⟨w.heap.size, 4, none⟩ = some (.int .u64 x4) ∧ w'.cell? ⟨b, 27, none⟩ = some (.string ⟨#[115, 104, 97, 112, 101]⟩) ∧ w'.cell? ⟨b, 28, none⟩ = some (.int .i64 1) ∧ w'.cell? ⟨b, 29, none⟩ = some (.bool false))
        (first | (with_reducible exact tZ) | (with_reducible exact t3))
        (first | (go_at_call 14; refine Calls.mono (HFT.out _) ?_; rintro e w3 ⟨rfl, u3⟩; have U3 := HU.out.under0 u3; have t3 := HSX.out _ U3))
      cases q
      · have hl : lineOf ⟨10, x1, x2, x3, x4⟩ = none := by (show (if fitsS ⟨10, x1, x2, x3, x4⟩ _ then _ else _) = none; rw [hq]; rfl)
        have HL := Lib.hid hl
        clear hl hq
        go_wp2
        go_ret2
        exact ⟨by rw [lineV_none HL.out]; rfl, U3.forget (List.nil_sublist _)⟩
      · have hl : lineOf ⟨10, x1, x2, x3, x4⟩ = some (Lib.join (wordsOf ⟨10, x1, x2, x3, x4⟩ ⟨[115, 104, 97, 112, 101], 1, false⟩) [32]) := by (show (if fitsS ⟨10, x1, x2, x3, x4⟩ _ then _ else _) = _; rw [hq]; rfl)
        have HL := Lib.hid hl
        have HN := Lib.hid (words_len hx (f := ⟨[115, 104, 97, 112, 101], 1, false⟩) (by decide))
        have HW := Lib.hid (fun W (h : Tab W) => tale_words ⟨10, x1, x2, x3, x4⟩ hx ⟨[115, 104, 97, 112, 101], 1, false⟩ (by decide) W h)
        simp only [entCells, formCells] at HW
        have U6 := U3.drew'
        have t6 := HSX.out _ U6
        have HU6 := Lib.hid U6
        have HT6 := Lib.hid (tab_upd ht U6)
        clear hl hq U6 HU U3 t3 tZ u3 ht hx
        go_wp2_with fail
        go_region_held3 (fun w' => w'.cell? ⟨w.heap.size, 0, none⟩ = some (.int .i64 10) ∧ w'.cell? ⟨w.heap.size, 1, none⟩ = some (.int .i64 x1) ∧ w'.cell? ⟨w.heap.size, 2, none⟩ = some (.int .i64 x2) ∧ w'.cell? ⟨w.heap.size, 3, none⟩ = some (.int .i64 x3) ∧ w'.cell? ⟨w.heap.size, 4, none⟩ = some (.int .u64 x4) ∧ w'.cell? ⟨b, 27, none⟩ = some (.string ⟨#[115, 104, 97, 112, 101]⟩) ∧ w'.cell? ⟨b, 28, none⟩ = some (.int .i64 1) ∧ w'.cell? ⟨b, 29, none⟩ = some (.bool false))
          (first | (with_reducible exact t6) | (with_reducible exact t4) | (with_reducible exact t5))
          (first | (go_at_call 16; refine Calls.mono (HW.out _ HT6.out) ?_; rintro e w4 ⟨v, h, rfl, sl, u4⟩; have U4 := HU6.out.more u4; have t4 := HSX.out _ (U4.forget (List.sublist_append_right _ _)); have SL := Lib.hid sl; clear sl) | (go_at_call 15; refine Calls.mono (join_call SL.out rfl (by simp [wordsOf]) (by have := HN.out.1; omega) U4.inn.left (by have := HN.out.2; omega)) ?_; rintro e w5 ⟨rfl, u5⟩; have U5 := U4.under0 u5; have t5 := HSX.out _ (U5.forget (List.sublist_append_right _ _))))
        go_wp2_with fail
        go_ret2
        exact ⟨by rw [lineV_some HL.out]; rfl, U5.forget (List.nil_sublist _)⟩
    · simp only [entCells] at *
      go_wp2_with (go_at_call 13; refine Calls.mono (HF.out _) ?_; rintro e w2 ⟨b, rfl, u2⟩; have U2 := U1.more u2)
      have hsx : ∀ W, Upd [] ([(b, .cells formsCells.toArray 45 (0, 0))] ++ [(w.heap.size, .cells (entCells ⟨11, x1, x2, x3, x4⟩) 24 (0, 0))]) w W → (fun w' => w'.cell? ⟨w.heap.size, 0, none⟩ = some (.int .i64 11) ∧ w'.cell? ⟨w.heap.size, 1, none⟩ = some (.int .i64 x1) ∧ w'.cell? ⟨w.heap.size, 2, none⟩ = some (.int .i64 x2) ∧ w'.cell? ⟨w.heap.size, 3, none⟩ = some (.int .i64 x3) ∧ w'.cell? ⟨w.heap.size, 4, none⟩ = some (.int .u64 x4) ∧ w'.cell? ⟨b, 30, none⟩ = some (.string ⟨#[105, 100, 108, 101]⟩) ∧ w'.cell? ⟨b, 31, none⟩ = some (.int .i64 2) ∧ w'.cell? ⟨b, 32, none⟩ = some (.bool false)) W := fun W U => ⟨cell_of U.inn.right.head 0, cell_of U.inn.right.head 1, cell_of U.inn.right.head 2, cell_of U.inn.right.head 3, cell_of U.inn.right.head 4, cell_of U.inn.left.head 30, cell_of U.inn.left.head 31, cell_of U.inn.left.head 32⟩
      have HSX := Lib.hid hsx
      have UZ := U2.drew'
      have tZ := hsx _ UZ
      have HU := Lib.hid UZ
      obtain ⟨q, hq⟩ : ∃ q, fitsS ⟨11, x1, x2, x3, x4⟩ ⟨[105, 100, 108, 101], 2, false⟩ = q := ⟨_, rfl⟩
      have HFT := Lib.hid (fun W => tale_fits ⟨11, x1, x2, x3, x4⟩ ⟨[105, 100, 108, 101], 2, false⟩ (by decide) W)
      rw [hq] at HFT
      simp only [entCells, formCells] at HFT
      clear hsx UZ U2 U1 u2
      have hwk : IntKind.i64.wrap 10 = 10 := by rfl
      go_region_held3 (fun w' => w'.cell? ⟨w.heap.size, 0, none⟩ = some (.int .i64 11) ∧ w'.cell? ⟨w.heap.size, 1, none⟩ = some (.int .i64 x1) ∧ w'.cell? ⟨w.heap.size, 2, none⟩ = some (.int .i64 x2) ∧ w'.cell? ⟨w.heap.size, 3, none⟩ = some (.int .i64 x3) ∧ w'.cell? ⟨w.heap.size, 4, none⟩ = some (.int .u64 x4) ∧ w'.cell? ⟨b, 30, none⟩ = some (.string ⟨#[105, 100, 108, 101]⟩) ∧ w'.cell? ⟨b, 31, none⟩ = some (.int .i64 2) ∧ w'.cell? ⟨b, 32, none⟩ = some (.bool false))
        (first | (with_reducible exact tZ) | (with_reducible exact t3))
        (first | (go_at_call 14; refine Calls.mono (HFT.out _) ?_; rintro e w3 ⟨rfl, u3⟩; have U3 := HU.out.under0 u3; have t3 := HSX.out _ U3))
      cases q
      · have hl : lineOf ⟨11, x1, x2, x3, x4⟩ = none := by (show (if fitsS ⟨11, x1, x2, x3, x4⟩ _ then _ else _) = none; rw [hq]; rfl)
        have HL := Lib.hid hl
        clear hl hq
        go_wp2
        go_ret2
        exact ⟨by rw [lineV_none HL.out]; rfl, U3.forget (List.nil_sublist _)⟩
      · have hl : lineOf ⟨11, x1, x2, x3, x4⟩ = some (Lib.join (wordsOf ⟨11, x1, x2, x3, x4⟩ ⟨[105, 100, 108, 101], 2, false⟩) [32]) := by (show (if fitsS ⟨11, x1, x2, x3, x4⟩ _ then _ else _) = _; rw [hq]; rfl)
        have HL := Lib.hid hl
        have HN := Lib.hid (words_len hx (f := ⟨[105, 100, 108, 101], 2, false⟩) (by decide))
        have HW := Lib.hid (fun W (h : Tab W) => tale_words ⟨11, x1, x2, x3, x4⟩ hx ⟨[105, 100, 108, 101], 2, false⟩ (by decide) W h)
        simp only [entCells, formCells] at HW
        have U6 := U3.drew'
        have t6 := HSX.out _ U6
        have HU6 := Lib.hid U6
        have HT6 := Lib.hid (tab_upd ht U6)
        clear hl hq U6 HU U3 t3 tZ u3 ht hx
        go_wp2_with fail
        go_region_held3 (fun w' => w'.cell? ⟨w.heap.size, 0, none⟩ = some (.int .i64 11) ∧ w'.cell? ⟨w.heap.size, 1, none⟩ = some (.int .i64 x1) ∧ w'.cell? ⟨w.heap.size, 2, none⟩ = some (.int .i64 x2) ∧ w'.cell? ⟨w.heap.size, 3, none⟩ = some (.int .i64 x3) ∧ w'.cell? ⟨w.heap.size, 4, none⟩ = some (.int .u64 x4) ∧ w'.cell? ⟨b, 30, none⟩ = some (.string ⟨#[105, 100, 108, 101]⟩) ∧ w'.cell? ⟨b, 31, none⟩ = some (.int .i64 2) ∧ w'.cell? ⟨b, 32, none⟩ = some (.bool false))
          (first | (with_reducible exact t6) | (with_reducible exact t4) | (with_reducible exact t5))
          (first | (go_at_call 16; refine Calls.mono (HW.out _ HT6.out) ?_; rintro e w4 ⟨v, h, rfl, sl, u4⟩; have U4 := HU6.out.more u4; have t4 := HSX.out _ (U4.forget (List.sublist_append_right _ _)); have SL := Lib.hid sl; clear sl) | (go_at_call 15; refine Calls.mono (join_call SL.out rfl (by simp [wordsOf]) (by have := HN.out.1; omega) U4.inn.left (by have := HN.out.2; omega)) ?_; rintro e w5 ⟨rfl, u5⟩; have U5 := U4.under0 u5; have t5 := HSX.out _ (U5.forget (List.sublist_append_right _ _))))
        go_wp2_with fail
        go_ret2
        exact ⟨by rw [lineV_some HL.out]; rfl, U5.forget (List.nil_sublist _)⟩
    · simp only [entCells] at *
      go_wp2_with (go_at_call 13; refine Calls.mono (HF.out _) ?_; rintro e w2 ⟨b, rfl, u2⟩; have U2 := U1.more u2)
      have hsx : ∀ W, Upd [] ([(b, .cells formsCells.toArray 45 (0, 0))] ++ [(w.heap.size, .cells (entCells ⟨12, x1, x2, x3, x4⟩) 24 (0, 0))]) w W → (fun w' => w'.cell? ⟨w.heap.size, 0, none⟩ = some (.int .i64 12) ∧ w'.cell? ⟨w.heap.size, 1, none⟩ = some (.int .i64 x1) ∧ w'.cell? ⟨w.heap.size, 2, none⟩ = some (.int .i64 x2) ∧ w'.cell? ⟨w.heap.size, 3, none⟩ = some (.int .i64 x3) ∧ w'.cell? ⟨w.heap.size, 4, none⟩ = some (.int .u64 x4) ∧ w'.cell? ⟨b, 33, none⟩ = some (.string ⟨#[102, 111, 114, 99, 101]⟩) ∧ w'.cell? ⟨b, 34, none⟩ = some (.int .i64 1) ∧ w'.cell? ⟨b, 35, none⟩ = some (.bool false)) W := fun W U => ⟨cell_of U.inn.right.head 0, cell_of U.inn.right.head 1, cell_of U.inn.right.head 2, cell_of U.inn.right.head 3, cell_of U.inn.right.head 4, cell_of U.inn.left.head 33, cell_of U.inn.left.head 34, cell_of U.inn.left.head 35⟩
      have HSX := Lib.hid hsx
      have UZ := U2.drew'
      have tZ := hsx _ UZ
      have HU := Lib.hid UZ
      obtain ⟨q, hq⟩ : ∃ q, fitsS ⟨12, x1, x2, x3, x4⟩ ⟨[102, 111, 114, 99, 101], 1, false⟩ = q := ⟨_, rfl⟩
      have HFT := Lib.hid (fun W => tale_fits ⟨12, x1, x2, x3, x4⟩ ⟨[102, 111, 114, 99, 101], 1, false⟩ (by decide) W)
      rw [hq] at HFT
      simp only [entCells, formCells] at HFT
      clear hsx UZ U2 U1 u2
      have hwk : IntKind.i64.wrap 11 = 11 := by rfl
      go_region_held3 (fun w' => w'.cell? ⟨w.heap.size, 0, none⟩ = some (.int .i64 12) ∧ w'.cell? ⟨w.heap.size, 1, none⟩ = some (.int .i64 x1) ∧ w'.cell? ⟨w.heap.size, 2, none⟩ = some (.int .i64 x2) ∧ w'.cell? ⟨w.heap.size, 3, none⟩ = some (.int .i64 x3) ∧ w'.cell? ⟨w.heap.size, 4, none⟩ = some (.int .u64 x4) ∧ w'.cell? ⟨b, 33, none⟩ = some (.string ⟨#[102, 111, 114, 99, 101]⟩) ∧ w'.cell? ⟨b, 34, none⟩ = some (.int .i64 1) ∧ w'.cell? ⟨b, 35, none⟩ = some (.bool false))
        (first | (with_reducible exact tZ) | (with_reducible exact t3))
        (first | (go_at_call 14; refine Calls.mono (HFT.out _) ?_; rintro e w3 ⟨rfl, u3⟩; have U3 := HU.out.under0 u3; have t3 := HSX.out _ U3))
      cases q
      · have hl : lineOf ⟨12, x1, x2, x3, x4⟩ = none := by (show (if fitsS ⟨12, x1, x2, x3, x4⟩ _ then _ else _) = none; rw [hq]; rfl)
        have HL := Lib.hid hl
        clear hl hq
        go_wp2
        go_ret2
        exact ⟨by rw [lineV_none HL.out]; rfl, U3.forget (List.nil_sublist _)⟩
      · have hl : lineOf ⟨12, x1, x2, x3, x4⟩ = some (Lib.join (wordsOf ⟨12, x1, x2, x3, x4⟩ ⟨[102, 111, 114, 99, 101], 1, false⟩) [32]) := by (show (if fitsS ⟨12, x1, x2, x3, x4⟩ _ then _ else _) = _; rw [hq]; rfl)
        have HL := Lib.hid hl
        have HN := Lib.hid (words_len hx (f := ⟨[102, 111, 114, 99, 101], 1, false⟩) (by decide))
        have HW := Lib.hid (fun W (h : Tab W) => tale_words ⟨12, x1, x2, x3, x4⟩ hx ⟨[102, 111, 114, 99, 101], 1, false⟩ (by decide) W h)
        simp only [entCells, formCells] at HW
        have U6 := U3.drew'
        have t6 := HSX.out _ U6
        have HU6 := Lib.hid U6
        have HT6 := Lib.hid (tab_upd ht U6)
        clear hl hq U6 HU U3 t3 tZ u3 ht hx
        go_wp2_with fail
        go_region_held3 (fun w' => w'.cell? ⟨w.heap.size, 0, none⟩ = some (.int .i64 12) ∧ w'.cell? ⟨w.heap.size, 1, none⟩ = some (.int .i64 x1) ∧ w'.cell? ⟨w.heap.size, 2, none⟩ = some (.int .i64 x2) ∧ w'.cell? ⟨w.heap.size, 3, none⟩ = some (.int .i64 x3) ∧ w'.cell? ⟨w.heap.size, 4, none⟩ = some (.int .u64 x4) ∧ w'.cell? ⟨b, 33, none⟩ = some (.string ⟨#[102, 111, 114, 99, 101]⟩) ∧ w'.cell? ⟨b, 34, none⟩ = some (.int .i64 1) ∧ w'.cell? ⟨b, 35, none⟩ = some (.bool false))
          (first | (with_reducible exact t6) | (with_reducible exact t4) | (with_reducible exact t5))
          (first | (go_at_call 16; refine Calls.mono (HW.out _ HT6.out) ?_; rintro e w4 ⟨v, h, rfl, sl, u4⟩; have U4 := HU6.out.more u4; have t4 := HSX.out _ (U4.forget (List.sublist_append_right _ _)); have SL := Lib.hid sl; clear sl) | (go_at_call 15; refine Calls.mono (join_call SL.out rfl (by simp [wordsOf]) (by have := HN.out.1; omega) U4.inn.left (by have := HN.out.2; omega)) ?_; rintro e w5 ⟨rfl, u5⟩; have U5 := U4.under0 u5; have t5 := HSX.out _ (U5.forget (List.sublist_append_right _ _))))
        go_wp2_with fail
        go_ret2
        exact ⟨by rw [lineV_some HL.out]; rfl, U5.forget (List.nil_sublist _)⟩
  · have hl : lineOf x = none := by unfold lineOf formOf; rw [if_neg hk]
    rw [lineV_none hl]
    obtain ⟨x0, x1, x2, x3, x4⟩ := x
    simp only [entCells] at *
    go_wp2_with (go_at_call 13; refine Calls.mono (HF.out _) ?_; rintro e w2 ⟨b, rfl, u2⟩; have U2 := U1.more u2)
    have UZ := U2.drew'
    have tZ : w2.drew.cell? ⟨w.heap.size, 0, none⟩ = some (.int .i64 x0) := cell_of UZ.inn.right.head 0
    have HU := Lib.hid UZ
    clear UZ U2 U1 u2
    by_cases h1 : x0 < 1
    · refine wp_region_held_drew (S := fun w' => w'.cell? ⟨w.heap.size, 0, none⟩ = some (.int .i64 x0)) (by kernel_rfl) (tZ) (fun hHeld => ?_)
      refine wpAnyH_take (i := 0) (v := ?_) rfl (by kernel_rfl) (by kernel_rfl) (by kernel_rfl) (fun _ _ _ h => h) (Or.inl ⟨by kernel_rfl, ?_⟩) (by assumption) ?_
      rotate_left
      · (intro w' hSw; (try dsimp only at hSw); go_simp; (try with_reducible rfl))
      try simp only [Act.put, List.setIfInBounds_toArray, List.set_cons_zero, List.set_cons_succ]
      refine wpAnyH_take (i := 1) (v := ?_) rfl (by kernel_rfl) (by kernel_rfl) (by kernel_rfl) (fun _ _ _ h => h) (Or.inl ⟨by kernel_rfl, ?_⟩) (by assumption) ?_
      rotate_left
      · (intro w' hSw; (try dsimp only at hSw); go_simp; (try with_reducible rfl))
      try simp only [Act.put, List.setIfInBounds_toArray, List.set_cons_zero, List.set_cons_succ]
      refine wpAnyH_take (i := 2) (v := .bool true) rfl (by kernel_rfl) (by kernel_rfl) (by kernel_rfl) (fun _ _ _ h => h) (Or.inl ⟨by kernel_rfl, ?_⟩) (by assumption) ?_
      · (intro w' hSw; (try dsimp only at hSw); go_simp; (try with_reducible rfl))
      try simp only [Act.put, List.setIfInBounds_toArray, List.set_cons_zero, List.set_cons_succ]
      refine wpAnyH_take (i := 3) (v := ?_) rfl (by kernel_rfl) (by kernel_rfl) (by kernel_rfl) (fun _ _ _ h => h) (Or.inl ⟨by kernel_rfl, ?_⟩) (by assumption) ?_
      rotate_left
      · (intro w' hSw; (try dsimp only at hSw); go_simp; (try with_reducible rfl))
      try simp only [Act.put, List.setIfInBounds_toArray, List.set_cons_zero, List.set_cons_succ]
      refine wpAnyH_take (i := 4) (v := undef) rfl (by kernel_rfl) (by kernel_rfl) (by kernel_rfl) (fun _ _ _ h => h) (Or.inr ⟨by kernel_rfl, rfl⟩) (by assumption) ?_
      try simp only [Act.put, List.setIfInBounds_toArray, List.set_cons_zero, List.set_cons_succ]
      refine wpAnyH_take (i := 5) (v := undef) rfl (by kernel_rfl) (by kernel_rfl) (by kernel_rfl) (fun _ _ _ h => h) (Or.inr ⟨by kernel_rfl, rfl⟩) (by assumption) ?_
      try simp only [Act.put, List.setIfInBounds_toArray, List.set_cons_zero, List.set_cons_succ]
      refine wpAnyH_take (i := 6) (v := undef) rfl (by kernel_rfl) (by kernel_rfl) (by kernel_rfl) (fun _ _ _ h => h) (Or.inr ⟨by kernel_rfl, rfl⟩) (by assumption) ?_
      try simp only [Act.put, List.setIfInBounds_toArray, List.set_cons_zero, List.set_cons_succ]
      refine wpAnyH_take (i := 7) (v := undef) rfl (by kernel_rfl) (by kernel_rfl) (by kernel_rfl) (fun _ _ _ h => h) (Or.inr ⟨by kernel_rfl, rfl⟩) (by assumption) ?_
      try simp only [Act.put, List.setIfInBounds_toArray, List.set_cons_zero, List.set_cons_succ]
      refine wpAnyH_take (i := 8) (v := undef) rfl (by kernel_rfl) (by kernel_rfl) (by kernel_rfl) (fun _ _ _ h => h) (Or.inr ⟨by kernel_rfl, rfl⟩) (by assumption) ?_
      try simp only [Act.put, List.setIfInBounds_toArray, List.set_cons_zero, List.set_cons_succ]
      refine wpAnyH_take (i := 9) (v := ?_) rfl (by kernel_rfl) (by kernel_rfl) (by kernel_rfl) (fun _ _ _ h => h) (Or.inl ⟨by kernel_rfl, ?_⟩) (by assumption) ?_
      rotate_left
      · (intro w' hSw; (try dsimp only at hSw); go_simp; (try with_reducible rfl))
      try simp only [Act.put, List.setIfInBounds_toArray, List.set_cons_zero, List.set_cons_succ]
      refine wpAnyH_take (i := 10) (v := ?_) rfl (by kernel_rfl) (by kernel_rfl) (by kernel_rfl) (fun _ _ _ h => h) (Or.inl ⟨by kernel_rfl, ?_⟩) (by assumption) ?_
      rotate_left
      · (intro w' hSw; (try dsimp only at hSw); go_simp; (try with_reducible rfl))
      try simp only [Act.put, List.setIfInBounds_toArray, List.set_cons_zero, List.set_cons_succ]
      refine wpAnyH_take (i := 11) (v := undef) rfl (by kernel_rfl) (by kernel_rfl) (by kernel_rfl) (fun _ _ _ h => h) (Or.inr ⟨by kernel_rfl, rfl⟩) (by assumption) ?_
      try simp only [Act.put, List.setIfInBounds_toArray, List.set_cons_zero, List.set_cons_succ]
      refine wpAnyH_take (i := 12) (v := undef) rfl (by kernel_rfl) (by kernel_rfl) (by kernel_rfl) (fun _ _ _ h => h) (Or.inr ⟨by kernel_rfl, rfl⟩) (by assumption) ?_
      try simp only [Act.put, List.setIfInBounds_toArray, List.set_cons_zero, List.set_cons_succ]
      refine wpAnyH_take (i := 13) (v := undef) rfl (by kernel_rfl) (by kernel_rfl) (by kernel_rfl) (fun _ _ _ h => h) (Or.inr ⟨by kernel_rfl, rfl⟩) (by assumption) ?_
      try simp only [Act.put, List.setIfInBounds_toArray, List.set_cons_zero, List.set_cons_succ]
      refine wpAnyH_take (i := 14) (v := undef) rfl (by kernel_rfl) (by kernel_rfl) (by kernel_rfl) (fun _ _ _ h => h) (Or.inr ⟨by kernel_rfl, rfl⟩) (by assumption) ?_
      try simp only [Act.put, List.setIfInBounds_toArray, List.set_cons_zero, List.set_cons_succ]
      refine wpAnyH_take (i := 15) (v := undef) rfl (by kernel_rfl) (by kernel_rfl) (by kernel_rfl) (fun _ _ _ h => h) (Or.inr ⟨by kernel_rfl, rfl⟩) (by assumption) ?_
      try simp only [Act.put, List.setIfInBounds_toArray, List.set_cons_zero, List.set_cons_succ]
      refine wpAnyH_take (i := 16) (v := undef) rfl (by kernel_rfl) (by kernel_rfl) (by kernel_rfl) (fun _ _ _ h => h) (Or.inr ⟨by kernel_rfl, rfl⟩) (by assumption) ?_
      try simp only [Act.put, List.setIfInBounds_toArray, List.set_cons_zero, List.set_cons_succ]
      refine wpAnyH_take (i := 17) (v := undef) rfl (by kernel_rfl) (by kernel_rfl) (by kernel_rfl) (fun _ _ _ h => h) (Or.inr ⟨by kernel_rfl, rfl⟩) (by assumption) ?_
      try simp only [Act.put, List.setIfInBounds_toArray, List.set_cons_zero, List.set_cons_succ]
      refine wpAnyH_take (i := 18) (v := undef) rfl (by kernel_rfl) (by kernel_rfl) (by kernel_rfl) (fun _ _ _ h => h) (Or.inr ⟨by kernel_rfl, rfl⟩) (by assumption) ?_
      try simp only [Act.put, List.setIfInBounds_toArray, List.set_cons_zero, List.set_cons_succ]
      refine wpAnyH_take (i := 19) (v := undef) rfl (by kernel_rfl) (by kernel_rfl) (by kernel_rfl) (fun _ _ _ h => h) (Or.inr ⟨by kernel_rfl, rfl⟩) (by assumption) ?_
      try simp only [Act.put, List.setIfInBounds_toArray, List.set_cons_zero, List.set_cons_succ]
      refine wpAnyH_take (i := 20) (v := ?_) rfl (by kernel_rfl) (by kernel_rfl) (by kernel_rfl) (fun _ _ _ h => h) (Or.inl ⟨by kernel_rfl, ?_⟩) (by assumption) ?_
      rotate_left
      · (intro w' hSw; (try dsimp only at hSw); go_simp; (try with_reducible rfl))
      try simp only [Act.put, List.setIfInBounds_toArray, List.set_cons_zero, List.set_cons_succ]
      refine wpAnyH_done (by kernel_rfl) ?_ _
      go_simp
      go_wp2
      go_ret2
      exact ⟨rfl, HU.out.forget (List.nil_sublist _)⟩
    · have h2 : 12 < x0 := by omega
      refine wp_region_held_drew (S := fun w' => w'.cell? ⟨w.heap.size, 0, none⟩ = some (.int .i64 x0)) (by kernel_rfl) (tZ) (fun hHeld => ?_)
      refine wpAnyH_take (i := 0) (v := ?_) rfl (by kernel_rfl) (by kernel_rfl) (by kernel_rfl) (fun _ _ _ h => h) (Or.inl ⟨by kernel_rfl, ?_⟩) (by assumption) ?_
      rotate_left
      · (intro w' hSw; (try dsimp only at hSw); go_simp; (try with_reducible rfl))
      try simp only [Act.put, List.setIfInBounds_toArray, List.set_cons_zero, List.set_cons_succ]
      refine wpAnyH_take (i := 1) (v := ?_) rfl (by kernel_rfl) (by kernel_rfl) (by kernel_rfl) (fun _ _ _ h => h) (Or.inl ⟨by kernel_rfl, ?_⟩) (by assumption) ?_
      rotate_left
      · (intro w' hSw; (try dsimp only at hSw); go_simp; (try with_reducible rfl))
      try simp only [Act.put, List.setIfInBounds_toArray, List.set_cons_zero, List.set_cons_succ]
      refine wpAnyH_take (i := 2) (v := .bool false) rfl (by kernel_rfl) (by kernel_rfl) (by kernel_rfl) (fun _ _ _ h => h) (Or.inl ⟨by kernel_rfl, ?_⟩) (by assumption) ?_
      · (intro w' hSw; (try dsimp only at hSw); go_simp; (try with_reducible rfl))
      try simp only [Act.put, List.setIfInBounds_toArray, List.set_cons_zero, List.set_cons_succ]
      refine wpAnyH_take (i := 3) (v := ?_) rfl (by kernel_rfl) (by kernel_rfl) (by kernel_rfl) (fun _ _ _ h => h) (Or.inl ⟨by kernel_rfl, ?_⟩) (by assumption) ?_
      rotate_left
      · (intro w' hSw; (try dsimp only at hSw); go_simp; (try with_reducible rfl))
      try simp only [Act.put, List.setIfInBounds_toArray, List.set_cons_zero, List.set_cons_succ]
      refine wpAnyH_take (i := 4) (v := ?_) rfl (by kernel_rfl) (by kernel_rfl) (by kernel_rfl) (fun _ _ _ h => h) (Or.inl ⟨by kernel_rfl, ?_⟩) (by assumption) ?_
      rotate_left
      · (intro w' hSw; (try dsimp only at hSw); go_simp; (try with_reducible rfl))
      try simp only [Act.put, List.setIfInBounds_toArray, List.set_cons_zero, List.set_cons_succ]
      refine wpAnyH_take (i := 5) (v := ?_) rfl (by kernel_rfl) (by kernel_rfl) (by kernel_rfl) (fun _ _ _ h => h) (Or.inl ⟨by kernel_rfl, ?_⟩) (by assumption) ?_
      rotate_left
      · (intro w' hSw; (try dsimp only at hSw); go_simp; (try with_reducible rfl))
      try simp only [Act.put, List.setIfInBounds_toArray, List.set_cons_zero, List.set_cons_succ]
      refine wpAnyH_take (i := 6) (v := ?_) rfl (by kernel_rfl) (by kernel_rfl) (by kernel_rfl) (fun _ _ _ h => h) (Or.inl ⟨by kernel_rfl, ?_⟩) (by assumption) ?_
      rotate_left
      · (intro w' hSw; (try dsimp only at hSw); go_simp; (try with_reducible rfl))
      try simp only [Act.put, List.setIfInBounds_toArray, List.set_cons_zero, List.set_cons_succ]
      refine wpAnyH_take (i := 7) (v := ?_) rfl (by kernel_rfl) (by kernel_rfl) (by kernel_rfl) (fun _ _ _ h => h) (Or.inl ⟨by kernel_rfl, ?_⟩) (by assumption) ?_
      rotate_left
      · (intro w' hSw; (try dsimp only at hSw); go_simp; (try with_reducible rfl))
      try simp only [Act.put, List.setIfInBounds_toArray, List.set_cons_zero, List.set_cons_succ]
      refine wpAnyH_take (i := 8) (v := .bool true) rfl (by kernel_rfl) (by kernel_rfl) (by kernel_rfl) (fun _ _ _ h => h) (Or.inl ⟨by kernel_rfl, ?_⟩) (by assumption) ?_
      · (intro w' hSw; (try dsimp only at hSw); go_simp; (try with_reducible rfl))
      try simp only [Act.put, List.setIfInBounds_toArray, List.set_cons_zero, List.set_cons_succ]
      refine wpAnyH_take (i := 9) (v := ?_) rfl (by kernel_rfl) (by kernel_rfl) (by kernel_rfl) (fun _ _ _ h => h) (Or.inl ⟨by kernel_rfl, ?_⟩) (by assumption) ?_
      rotate_left
      · (intro w' hSw; (try dsimp only at hSw); go_simp; (try with_reducible rfl))
      try simp only [Act.put, List.setIfInBounds_toArray, List.set_cons_zero, List.set_cons_succ]
      refine wpAnyH_take (i := 10) (v := ?_) rfl (by kernel_rfl) (by kernel_rfl) (by kernel_rfl) (fun _ _ _ h => h) (Or.inl ⟨by kernel_rfl, ?_⟩) (by assumption) ?_
      rotate_left
      · (intro w' hSw; (try dsimp only at hSw); go_simp; (try with_reducible rfl))
      try simp only [Act.put, List.setIfInBounds_toArray, List.set_cons_zero, List.set_cons_succ]
      refine wpAnyH_take (i := 11) (v := undef) rfl (by kernel_rfl) (by kernel_rfl) (by kernel_rfl) (fun _ _ _ h => h) (Or.inr ⟨by kernel_rfl, rfl⟩) (by assumption) ?_
      try simp only [Act.put, List.setIfInBounds_toArray, List.set_cons_zero, List.set_cons_succ]
      refine wpAnyH_take (i := 12) (v := undef) rfl (by kernel_rfl) (by kernel_rfl) (by kernel_rfl) (fun _ _ _ h => h) (Or.inr ⟨by kernel_rfl, rfl⟩) (by assumption) ?_
      try simp only [Act.put, List.setIfInBounds_toArray, List.set_cons_zero, List.set_cons_succ]
      refine wpAnyH_take (i := 13) (v := undef) rfl (by kernel_rfl) (by kernel_rfl) (by kernel_rfl) (fun _ _ _ h => h) (Or.inr ⟨by kernel_rfl, rfl⟩) (by assumption) ?_
      try simp only [Act.put, List.setIfInBounds_toArray, List.set_cons_zero, List.set_cons_succ]
      refine wpAnyH_take (i := 14) (v := undef) rfl (by kernel_rfl) (by kernel_rfl) (by kernel_rfl) (fun _ _ _ h => h) (Or.inr ⟨by kernel_rfl, rfl⟩) (by assumption) ?_
      try simp only [Act.put, List.setIfInBounds_toArray, List.set_cons_zero, List.set_cons_succ]
      refine wpAnyH_take (i := 15) (v := undef) rfl (by kernel_rfl) (by kernel_rfl) (by kernel_rfl) (fun _ _ _ h => h) (Or.inr ⟨by kernel_rfl, rfl⟩) (by assumption) ?_
      try simp only [Act.put, List.setIfInBounds_toArray, List.set_cons_zero, List.set_cons_succ]
      refine wpAnyH_take (i := 16) (v := undef) rfl (by kernel_rfl) (by kernel_rfl) (by kernel_rfl) (fun _ _ _ h => h) (Or.inr ⟨by kernel_rfl, rfl⟩) (by assumption) ?_
      try simp only [Act.put, List.setIfInBounds_toArray, List.set_cons_zero, List.set_cons_succ]
      refine wpAnyH_take (i := 17) (v := undef) rfl (by kernel_rfl) (by kernel_rfl) (by kernel_rfl) (fun _ _ _ h => h) (Or.inr ⟨by kernel_rfl, rfl⟩) (by assumption) ?_
      try simp only [Act.put, List.setIfInBounds_toArray, List.set_cons_zero, List.set_cons_succ]
      refine wpAnyH_take (i := 18) (v := undef) rfl (by kernel_rfl) (by kernel_rfl) (by kernel_rfl) (fun _ _ _ h => h) (Or.inr ⟨by kernel_rfl, rfl⟩) (by assumption) ?_
      try simp only [Act.put, List.setIfInBounds_toArray, List.set_cons_zero, List.set_cons_succ]
      refine wpAnyH_take (i := 19) (v := undef) rfl (by kernel_rfl) (by kernel_rfl) (by kernel_rfl) (fun _ _ _ h => h) (Or.inr ⟨by kernel_rfl, rfl⟩) (by assumption) ?_
      try simp only [Act.put, List.setIfInBounds_toArray, List.set_cons_zero, List.set_cons_succ]
      refine wpAnyH_take (i := 20) (v := ?_) rfl (by kernel_rfl) (by kernel_rfl) (by kernel_rfl) (fun _ _ _ h => h) (Or.inl ⟨by kernel_rfl, ?_⟩) (by assumption) ?_
      rotate_left
      · (intro w' hSw; (try dsimp only at hSw); go_simp; (try with_reducible rfl))
      try simp only [Act.put, List.setIfInBounds_toArray, List.set_cons_zero, List.set_cons_succ]
      refine wpAnyH_done (by kernel_rfl) ?_ _
      go_simp
      go_wp2
      go_ret2
      exact ⟨rfl, HU.out.forget (List.nil_sublist _)⟩

end Go.Proofs.YtnmbehogiioonaaDoor
