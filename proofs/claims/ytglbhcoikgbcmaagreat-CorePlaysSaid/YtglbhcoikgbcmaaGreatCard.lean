/- What each call of packages buf and card comes to, as far as core needs them. Conditions: things as New makes them. -/
import Derived.Test.YtglbhcoikgbcmaaGreatRows
import Derived.Test.YtglbhcoikgbcmaaGreatLib
import Derived.Test.YtglbhcoikgbcmaaGreatSlice
import Derived.Test.YtglbhcoikgbcmaaGreatTable
import Derived.Deep.QuietTactic
import Derived.BigQuiet
set_option linter.unusedVariables false
set_option linter.unusedSimpArgs false
namespace Go.Proofs.YtglbhcoikgbcmaaGreat
open Go.RowKit

structure BufS where
  most : Int
  list : List Int
def BufS.WF (s : BufS) : Prop := 0 ≤ s.most ∧ s.most ≤ 1048576 ∧ s.list.length ≤ s.most ∧ ∀ x ∈ s.list, I64 x
def bufObj (s : BufS) (v : Value) : Obj := .cells #[.int .i64 s.most, v] 128 (0, 0)
def BufH (p : Nat) (s : BufS) (h : Hp) : Prop :=
  ∃ v hs, h = (p, bufObj s v) :: hs ∧ SliceH 3 1 v s.list.length (ints s.list) hs ∧ s.WF
def BufS.full (s : BufS) : Bool := decide (s.most ≤ s.list.length)
def BufS.put (s : BufS) (x : Int) : BufS := if s.full then s else { s with list := s.list ++ [x] }

set_option maxRecDepth 100000 in
set_option maxHeartbeats 1000000 in
theorem buf_put (p : Nat) (s : BufS) (x : Int) (w : World) (h : Hp) (hi : In w h) (hg : BufH p s h) (hx : I64 x) :
    Calls Tryz.prog 83 #[.pointer (some ⟨p, 0, none⟩), .int .i64 x] w fun e w' => e = .returned (.bool (!s.full)) ∧ ∃ h', BufH p (s.put x) h' ∧ Upd h h' w w' := by
  obtain ⟨v, hs, rfl, hS, w1, w2, w3, w4⟩ := hg
  have hv := hS.shape
  obtain ⟨ao, cap, rfl, hcap⟩ := hv
  have e0 : w.cell? ⟨p, 0, none⟩ = some (.int .i64 s.most) := cell_of hi.head 0
  have e1 : w.cell? ⟨p, 1, none⟩ = some (.slice ao s.list.length cap) := cell_of hi.head 1
  have f1 : w.frozen? ⟨p, 1, none⟩ = false := frozen_of hi.head 1
  by_cases hf : s.most ≤ s.list.length
  · have hb : s.full = true := by simp [BufS.full, hf]
    have hp : s.put x = s := by simp [BufS.put, hb]
    rw [hb, hp]
    have hU := Upd.drew hi
    clear hb hp
    go_enter Tryz.func83, Tryz.ntmps83
    go_wp2
    refine wp_still (by kernel_rfl) (by kernel_rfl) fun w1 hw1 => ?_
    subst hw1
    repeat (refine wpStill_step (fun K hK => ?_); have HK := Lib.hid hK; clear hK; go_simp; refine HK.out _ ?_; clear HK K)
    refine wpStill_nil ?_
    go_wp2
    go_ret
    exact ⟨rfl, _, ⟨_, _, rfl, hS, w1, w2, w3, w4⟩, hU⟩
  · have hb : s.full = false := by simp [BufS.full]; omega
    have hp : s.put x = { s with list := s.list ++ [x] } := by simp [BufS.put, hb]
    rw [hb, hp]
    have U1 := ((Upd.refl hi).drew').skip' (.cells #[.int .i64 x] 3 (0, 0))
    have hnews := news_of (news := [.int .i64 x]) (w := w.drew.alloc (.cells #[.int .i64 x] 3 (0, 0))) (b := w.heap.size) (T := 3) (fr := (0, 0)) (heap_alloc_at (by simp))
    have hl : ((s.list.length : Nat) : Int) < s.most := by omega
    have hmax : s.list.length + 1 ≤ maxLen := by unfold maxLen; omega
    have hmem : ∀ y ∈ s.list ++ [x], I64 y := by
      intro y hy
      rcases List.mem_append.1 hy with h1 | h1
      · exact w4 y h1
      · simp at h1; exact h1 ▸ hx
    have H1 := Lib.hid hnews
    clear hb hp hnews
    go_enter Tryz.func83, Tryz.ntmps83
    go_wp2
    refine wp_still (by kernel_rfl) (by kernel_rfl) fun w1 hw1 => ?_
    subst hw1
    repeat (refine wpStill_step (fun K hK => ?_); have HK := Lib.hid hK; clear hK; go_simp; refine HK.out _ ?_; clear HK K)
    refine wpStill_nil ?_
    go_wp2_with (at_builtin; refine wpList_append_mine rfl (.tmp 25) (.tmp 27) 59 rfl 3 1 8 (.int .i64 0) Tryz.underlying59 Tryz.infoInt rfl (by decide) (.slice ao s.list.length cap) s.list.length (ints s.list) hs rfl hS U1.inn.tail ⟨w.heap.size, 0, none⟩ 1 1 [.int .i64 x] rfl H1.out rfl (by intro u hu; simp at hu; subst hu; rfl) (Or.inl (by decide)) hmax (by omega) ?_; intro v' w3 hX' hS' hU'; obtain ⟨ao', cap', rfl, _⟩ := hS'.shape; have U2 := U1.under hU'; have g1 : w3.cell? ⟨p, 1, none⟩ = some (.slice ao s.list.length cap) := cell_of U2.inn.head 1; have k1 : w3.frozen? ⟨p, 1, none⟩ = false := frozen_of U2.inn.head 1)
    go_ret
    refine ⟨rfl, _, ⟨.slice ao' (s.list.length + 1) cap', hX', rfl, ?_, w1, w2, ?_, hmem⟩, U2.store1 1 (.slice ao' (s.list.length + 1) cap')⟩
    · simpa [ints] using hS'
    · simp; omega

set_option maxRecDepth 100000 in
set_option maxHeartbeats 1000000 in
theorem buf_new (n : Nat) (w : World) (h1 : n ≤ 1048576) :
    Calls Tryz.prog 41 #[.int .i64 n] w fun e w' => ∃ p h', e = .returned (.pointer (some ⟨p, 0, none⟩)) ∧ BufH p ⟨n, []⟩ h' ∧ Upd [] h' w w' := by
  have hU := Upd.alloc (In.nil w) (bufObj ⟨n, []⟩ (.slice none 0 0))
  have hH : BufH w.heap.size ⟨n, []⟩ [(w.heap.size, bufObj ⟨n, []⟩ (.slice none 0 0))] :=
    ⟨_, [], rfl, SliceH.nil _ _, by simp only; omega, by simp only; omega, by simp only [List.length_nil]; omega, by simp⟩
  have h1' : (n : Int) ≤ 1048576 := by omega
  rcases Nat.eq_zero_or_pos n with rfl | h0
  · go_enter Tryz.func41, Tryz.ntmps41
    go_wp2
    go_ret
    exact ⟨_, _, rfl, hH, hU⟩
  · have h0' : (0 : Int) < n := by omega
    go_enter Tryz.func41, Tryz.ntmps41
    go_wp2
    go_ret
    exact ⟨_, _, rfl, hH, hU⟩

structure CardS where
  base : Int
  words : Int
  card : Int
  marks : List Bool
def CardS.many (words card : Int) : Int := words / card + min (words % card) 1
def CardS.WF (s : CardS) : Prop := 0 ≤ s.base ∧ s.base ≤ 1048576 ∧ 0 ≤ s.words ∧ s.words ≤ 1048576 ∧ 1 ≤ s.card ∧ s.card ≤ 1048576 ∧ (s.marks.length : Int) = CardS.many s.words s.card
abbrev bools (l : List Bool) : List Value := l.map Value.bool
def CardH (p : Nat) (s : CardS) (h : Hp) : Prop :=
  ∃ b : Nat, h = [(p, .cells #[.int .i64 s.base, .int .i64 s.words, .int .i64 s.card, .slice (some ⟨b, 0, none⟩) s.marks.length s.marks.length] 130 (0, 0)), (b, .cells (bools s.marks).toArray 4 (0, 0))] ∧ s.WF
def CardS.has (s : CardS) (i : Int) : Bool := decide (s.base ≤ i ∧ i - s.base < s.words)
def CardS.of (s : CardS) (i : Int) : Int := if s.has i then (i - s.base) / s.card else -1
def CardS.mark (s : CardS) (i : Int) : CardS := if s.has i then { s with marks := s.marks.set ((i - s.base) / s.card).toNat true } else s

theorem div_lt_many {x words card : Int} (h0 : 0 ≤ x) (h1 : x < words) (h2 : 1 ≤ card) : 0 ≤ x / card ∧ x / card < CardS.many words card := by
  have hx : 0 ≤ x / card := Int.ediv_nonneg h0 (by omega)
  refine ⟨hx, ?_⟩
  unfold CardS.many
  have e1 : card * (x / card) + x % card = x := Int.mul_ediv_add_emod x card
  have e2 : card * (words / card) + words % card = words := Int.mul_ediv_add_emod words card
  have m1 : 0 ≤ x % card := Int.emod_nonneg x (by omega)
  have m2 : words % card < card := Int.emod_lt_of_pos words (by omega)
  have m3 : 0 ≤ words % card := Int.emod_nonneg words (by omega)
  by_cases hz : words % card = 0
  · rw [hz]
    have : card * (x / card) < card * (words / card) := by omega
    have := Int.lt_of_mul_lt_mul_left this (by omega)
    omega
  · have : card * (x / card) < card * (words / card + 1) := by rw [Int.mul_add]; omega
    have := Int.lt_of_mul_lt_mul_left this (by omega)
    omega

set_option maxRecDepth 100000 in
set_option maxHeartbeats 1000000 in
theorem card_of (p : Nat) (s : CardS) (i : Int) (w : World) (h : Hp) (hi : In w h) (hg : CardH p s h) (hx : I64 i) :
    Calls Tryz.prog 91 #[.pointer (some ⟨p, 0, none⟩), .int .i64 i] w fun e w' => e = .returned (.int .i64 (s.of i)) ∧ Upd h h w w' := by
  obtain ⟨b, rfl, w1, w2, w3, w4, w5, w6, w7⟩ := hg
  have e0 : w.cell? ⟨p, 0, none⟩ = some (.int .i64 s.base) := cell_of hi.head 0
  have e1 : w.cell? ⟨p, 1, none⟩ = some (.int .i64 s.words) := cell_of hi.head 1
  have e2 : w.cell? ⟨p, 2, none⟩ = some (.int .i64 s.card) := cell_of hi.head 2
  obtain ⟨x1, x2⟩ := hx
  clear w7
  by_cases h1 : s.base ≤ i
  · have g3 : IntKind.i64.wrap (i - s.base) = i - s.base := IntWalk.i64_in _ (by omega)
    have d1 : decide (i < s.base) = false := decide_eq_false (by omega)
    by_cases h2 : i - s.base < s.words
    · have d2 : decide (s.words ≤ i - s.base) = false := decide_eq_false (by omega)
      have ho : s.of i = (i - s.base) / s.card := by simp [CardS.of, CardS.has, h1, h2]
      rw [ho]
      have hz : s.card ≠ 0 := by omega
      have hd : (i - s.base).tdiv s.card = (i - s.base) / s.card := Int.tdiv_eq_ediv_of_nonneg (by omega)
      have hd0 : 0 ≤ (i - s.base) / s.card := Int.ediv_nonneg (by omega) (by omega)
      have hd1 : (i - s.base) / s.card ≤ i - s.base := Int.ediv_le_self _ (by omega)
      have g4 : IntKind.i64.wrap ((i - s.base) / s.card) = (i - s.base) / s.card := IntWalk.i64_in _ (by omega)
      have p0 : 0 ≤ i - s.base := by omega
      clear ho
      go_enter Tryz.func91, Tryz.ntmps91
      go_wp2
      go_quiet (fail)
      go_wp2
      refine wp_still (by kernel_rfl) (by kernel_rfl) fun w1 hw1 => ?_
      subst hw1
      repeat (refine wpStill_step (fun K hK => ?_); have HK := Lib.hid hK; clear hK; go_simp; refine HK.out _ ?_; clear HK K)
      refine wpStill_nil ?_
      go_wp2
      go_ret
      exact ⟨rfl, (Upd.drewN hi nq).drew'⟩
    · have d2 : decide (s.words ≤ i - s.base) = true := decide_eq_true (by omega)
      have ho : s.of i = -1 := by simp [CardS.of, CardS.has, h2]
      rw [ho]
      clear ho
      go_enter Tryz.func91, Tryz.ntmps91
      go_wp2
      go_quiet (fail)
      go_wp2
      go_ret
      exact ⟨rfl, Upd.drewN hi nq⟩
  · have d1 : decide (i < s.base) = true := decide_eq_true (by omega)
    have ho : s.of i = -1 := by simp [CardS.of, CardS.has, h1]
    rw [ho]
    clear ho
    go_enter Tryz.func91, Tryz.ntmps91
    go_wp2
    go_quiet (fail)
    go_wp2
    go_ret
    exact ⟨rfl, Upd.drewN hi nq⟩

set_option maxRecDepth 100000 in
set_option maxHeartbeats 1000000 in
theorem card_mark (p : Nat) (s : CardS) (i : Int) (w : World) (h : Hp) (hi : In w h) (hg : CardH p s h) (hx : I64 i) :
    Calls Tryz.prog 84 #[.pointer (some ⟨p, 0, none⟩), .int .i64 i] w fun e w' => e = .returned (.bool (s.has i)) ∧ ∃ h', CardH p (s.mark i) h' ∧ Upd h h' w w' := by
  have hof := card_of p s i w h hi hg hx
  have hg0 := hg
  obtain ⟨b, rfl, w1, w2, w3, w4, w5, w6, w7⟩ := hg
  by_cases h1 : s.has i = true
  · have h1' := h1
    simp only [CardS.has, decide_eq_true_eq] at h1'
    obtain ⟨k1, k2⟩ := h1'
    have hd := div_lt_many (x := i - s.base) (words := s.words) (card := s.card) (by omega) k2 w5
    have ho : s.of i = (i - s.base) / s.card := by rw [CardS.of, if_pos h1]
    have hm : s.mark i = { s with marks := s.marks.set ((i - s.base) / s.card).toNat true } := by rw [CardS.mark, if_pos h1]
    rw [h1, hm]
    rw [ho] at hof
    obtain ⟨k, hk⟩ : ∃ k : Nat, (i - s.base) / s.card = k := ⟨((i - s.base) / s.card).toNat, by omega⟩
    rw [hk] at hof hd ⊢
    rw [Int.toNat_natCast]
    have hkl : k < s.marks.length := by omega
    clear ho hm hk h1 k1 k2
    obtain ⟨d1, d2⟩ := hd
    go_enter Tryz.func84, Tryz.ntmps84
    go_wp2_with (go_at_call 91; refine Calls.mono hof ?_; rintro e wx ⟨rfl, u2⟩; have e3 : wx.cell? ⟨p, 3, none⟩ = some (.slice (some ⟨b, 0, none⟩) s.marks.length s.marks.length) := cell_of u2.inn.head 3; have e4 : wx.cell? ⟨b, k, none⟩ = some (.bool (s.marks.getD k false)) := ((cell_of u2.inn.tail.head k).trans (by simp [List.getD, hkl])); have f4 : wx.frozen? ⟨b, k, none⟩ = false := frozen_of u2.inn.tail.head k)
    go_ret
    have hs : (bools s.marks).toArray.setIfInBounds k (.bool true) = (bools (s.marks.set k true)).toArray := by simp [bools, List.map_set]
    refine ⟨rfl, _, ⟨b, ?_, w1, w2, w3, w4, w5, w6, ?_⟩, Upd.store' (l := [(p, _)]) (r := []) u2 k (.bool true)⟩
    · simp only [hs]; simp
    · simpa using w7
  · have h1' : s.has i = false := by simpa using h1
    have ho : s.of i = -1 := by rw [CardS.of, if_neg h1]
    have hm : s.mark i = s := by rw [CardS.mark, if_neg h1]
    rw [h1', hm]
    rw [ho] at hof
    clear ho hm h1 h1'
    go_enter Tryz.func84, Tryz.ntmps84
    go_wp2_with (go_at_call 91; refine Calls.mono hof ?_; rintro e wx ⟨rfl, u2⟩)
    go_ret
    exact ⟨rfl, _, hg0, u2⟩

theorem Tryz.infoBool : (Tryz.prog.info? 4).map (fun i => (i.zero, i.size, i.bytes)) = some (some (.bool false), 1, 1) := by kernel_rfl

def cardNew (b n c : Int) : CardS := ⟨b, n, c, List.replicate (CardS.many n c).toNat false⟩

theorem many_bounds {words card : Int} (h0 : 0 ≤ words) (h1 : words ≤ 1048576) (h2 : 1 ≤ card) : 0 ≤ CardS.many words card ∧ CardS.many words card ≤ 1048576 := by
  rcases Int.lt_or_eq_of_le h0 with h | h
  · have := div_lt_many (x := words - 1) (words := words) (card := card) (by omega) (by omega) h2
    refine ⟨by omega, ?_⟩
    unfold CardS.many
    have e2 : card * (words / card) + words % card = words := Int.mul_ediv_add_emod words card
    have m3 : 0 ≤ words % card := Int.emod_nonneg words (by omega)
    have hd : 0 ≤ words / card := Int.ediv_nonneg h0 (by omega)
    have : words / card ≤ card * (words / card) := by
      have := Int.mul_le_mul_of_nonneg_right h2 hd
      omega
    omega
  · subst h
    simp [CardS.many] <;> omega

set_option maxRecDepth 100000 in
set_option maxHeartbeats 1000000 in
theorem card_new (b n c : Int) (w : World) (h1 : 0 < b) (h2 : b ≤ 1048576) (h3 : 0 ≤ n) (h4 : n ≤ 1048576) (h5 : 1 ≤ c) (h6 : c ≤ 1048576) :
    Calls Tryz.prog 42 #[.int .i64 b, .int .i64 n, .int .i64 c] w fun e w' => ∃ p h', e = .returned (.pointer (some ⟨p, 0, none⟩)) ∧ CardH p (cardNew b n c) h' ∧ Upd [] h' w w' := by
  obtain ⟨mb1, mb2⟩ := many_bounds h3 h4 h5
  obtain ⟨m, hm⟩ : ∃ m : Nat, CardS.many n c = m := ⟨(CardS.many n c).toNat, by omega⟩
  have hmk := fun W => run_make1 (P := Tryz.prog) W 124 4 (.bool false) 1 Tryz.underlying124 Tryz.infoBool rfl m (by omega) (by decide)
  have hU := fun W => (Upd.alloc (In.nil W) (.cells (List.replicate m (Value.bool false)).toArray 4 (0, 0))).alloc' (.cells #[.int .i64 b, .int .i64 n, .int .i64 c, .slice (some ⟨W.heap.size, 0, none⟩) m m] 130 (0, 0))
  have hH : ∀ k, CardH (k + 1) (cardNew b n c) [(k + 1, .cells #[.int .i64 b, .int .i64 n, .int .i64 c, .slice (some ⟨k, 0, none⟩) m m] 130 (0, 0)), (k, .cells (List.replicate m (Value.bool false)).toArray 4 (0, 0))] :=
    fun k => ⟨k, by simp [cardNew, bools, hm], Int.le_of_lt h1, h2, h3, h4, h5, h6, by simp [cardNew, hm]⟩
  generalize hR : List.replicate m (Value.bool false) = R at *
  clear hR
  have hz : c ≠ 0 := by omega
  have hd : n.tdiv c = n / c := Int.tdiv_eq_ediv_of_nonneg h3
  have hd2 : n.tmod c = n % c := Int.tmod_eq_emod_of_nonneg h3
  have d0 : 0 ≤ n / c := Int.ediv_nonneg h3 (by omega)
  have d1 : n / c ≤ n := Int.ediv_le_self _ h3
  have r0 : 0 ≤ n % c := Int.emod_nonneg n hz
  have r1 : n % c < c := Int.emod_lt_of_pos n (by omega)
  have key : ∀ (hw : n = 0 ∨ 0 < n), Calls Tryz.prog 42 #[.int .i64 b, .int .i64 n, .int .i64 c] w fun e w' => ∃ p h', e = .returned (.pointer (some ⟨p, 0, none⟩)) ∧ CardH p (cardNew b n c) h' ∧ Upd [] h' w w' := by
    intro hw
    rcases hw with rfl | hn
    · have hm0 : m = 0 := by simp [CardS.many] at hm; omega
      subst hm0
      clear hd hd2 d0 d1 r0 r1 hm mb1 mb2
      have k0 : IntKind.i64.wrap 0 = 0 := by kernel_rfl
      have hc01 : c = 1 ∨ 1 < c := by omega
      rcases hc01 with rfl | hc
      all_goals
        go_enter Tryz.func42, Tryz.ntmps42
        go_wp2
        have hmk1 := hmk w.drew
        have hU1 := (Upd.drew (In.nil w)).trans (hU w.drew)
        rw [World.size_alloc] at hU1
        have hH1 := hH w.heap.size
        try rw [show ((0 : Nat) : Int) = 0 from rfl] at hmk1
        clear hmk hU hH
        go_region
        all_goals
          go_wp2
          go_ret
          exact ⟨_, _, rfl, hH1, hU1⟩
    · have hc01 : c = 1 ∨ 1 < c := by omega
      rcases hc01 with rfl | hc
      · have hm0 : (m : Int) = n := by rw [← hm]; simp [CardS.many] <;> omega
        obtain rfl : n = m := hm0.symm
        clear hd hd2 d0 d1 r0 r1 hm mb1 mb2
        have hwn : IntKind.i64.wrap (m : Int) = m := IntWalk.i64_in _ (by omega)
        go_enter Tryz.func42, Tryz.ntmps42
        go_wp2
        have hmk1 := hmk w.drew
        have hU1 := (Upd.drew (In.nil w)).trans (hU w.drew)
        rw [World.size_alloc] at hU1
        have hH1 := hH w.heap.size
        try rw [show ((0 : Nat) : Int) = 0 from rfl] at hmk1
        clear hmk hU hH
        go_region
        all_goals
          go_wp2
          go_ret
          exact ⟨_, _, rfl, hH1, hU1⟩
      · unfold CardS.many at hm
        obtain ⟨q, hq⟩ : ∃ q, q = n / c := ⟨_, rfl⟩
        obtain ⟨r, hr⟩ : ∃ r, r = n % c := ⟨_, rfl⟩
        rw [← hq, ← hr] at hm
        rw [← hq] at hd d0 d1
        rw [← hr] at hd2 r0 r1
        clear hq hr
        have hwq : IntKind.i64.wrap q = q := IntWalk.i64_in _ (by omega)
        have hwr : IntKind.i64.wrap r = r := IntWalk.i64_in _ (by omega)
        have hr01 : r = 0 ∨ 1 ≤ r := by omega
        rcases hr01 with rfl | hr
        · obtain rfl : q = m := by omega
          clear hm mb1 mb2
          go_enter Tryz.func42, Tryz.ntmps42
          go_wp2
          have hmk1 := hmk w.drew
          have hU1 := (Upd.drew (In.nil w)).trans (hU w.drew)
          rw [World.size_alloc] at hU1
          have hH1 := hH w.heap.size
          try rw [show ((0 : Nat) : Int) = 0 from rfl] at hmk1
          clear hmk hU hH
          go_region
          all_goals
            go_wp2
            go_ret
            exact ⟨_, _, rfl, hH1, hU1⟩
        · have hr1 : r = 1 ∨ 1 < r := by omega
          have hs1 : IntKind.i64.wrap (q + 1) = m := by rw [IntWalk.i64_in _ (by omega)]; omega
          clear hr
          rcases hr1 with rfl | hr
          all_goals
            clear hm mb1 mb2
            go_enter Tryz.func42, Tryz.ntmps42
            go_wp2
            have hmk1 := hmk w.drew
            have hU1 := (Upd.drew (In.nil w)).trans (hU w.drew)
            rw [World.size_alloc] at hU1
            have hH1 := hH w.heap.size
            try rw [show ((0 : Nat) : Int) = 0 from rfl] at hmk1
            clear hmk hU hH
            go_region
            all_goals
              go_wp2
              go_ret
              exact ⟨_, _, rfl, hH1, hU1⟩
  exact key (by omega)

end Go.Proofs.YtglbhcoikgbcmaaGreat
