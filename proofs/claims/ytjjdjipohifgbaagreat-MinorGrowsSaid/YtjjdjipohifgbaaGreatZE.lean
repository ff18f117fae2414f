/- A new object keeps what is true of objects. No program in sight. Conditions: a core whose parts fit its configuration. -/
import Derived.Test.YtjjdjipohifgbaaGreatRows
import Derived.Test.YtjjdjipohifgbaaGreatZC
import Derived.Test.YtjjdjipohifgbaaGreatZA
import Derived.Test.YtjjdjipohifgbaaGreatZD
import Derived.Test.YtjjdjipohifgbaaGreatZB
set_option linter.unusedVariables false
set_option linter.unusedSimpArgs false
/- Plain facts on pages and cells: where things begin, that they lie apart, and what Take turns. No program in sight. Conditions: pages as New and the calls make them. -/
namespace Go.Proofs.YtjjdjipohifgbaaGreat
open Go.RowKit

/-- pages as the calls make them -/
structure MatS.V (s : MatS) : Prop where
  w16 : 16 ≤ s.words
  w256 : s.words ≤ 256
  b0 : 1 ≤ s.base
  blk : ∀ (n : Nat) (g : PageS), s.pages[n]? = some g → g.kind = 1 → 4 ≤ g.size ∧ g.size ≤ 96 ∧ g.size ≤ s.words ∧ (g.used.length : Int) = s.words / g.size
  big : ∀ (n : Nat) (g : PageS), s.pages[n]? = some g → g.kind = 2 → 1 ≤ g.size ∧ g.size ≤ 66 ∧ ((n : Int) + pagesN s.words g.size ≤ s.pages.length) ∧ ∀ k : Nat, 1 ≤ k → (k : Int) < pagesN s.words g.size → ∃ g', s.pages[n + k]? = some g' ∧ g'.kind = 3
  oth : ∀ (n : Nat) (g : PageS), s.pages[n]? = some g → g.kind ≠ 1 → g.used = []

theorem MatS.V.ok {s : MatS} (v : s.V) : s.Ok := by
  refine ⟨v.w16, fun n g hg => ⟨fun h => ?_, fun h => ?_, ?_, v.oth n g hg⟩⟩
  · have := v.blk n g hg h
    exact ⟨this.1, this.2.1⟩
  · exact ⟨(v.big n g hg h).1, (v.big n g hg h).2.1⟩
  · by_cases h : g.kind = 1
    · have h1 := v.blk n g hg h
      have h2 := v.w256
      have : s.words / g.size ≤ s.words := Int.ediv_le_self _ (by have := v.w16; omega)
      omega
    · rw [v.oth n g hg h]
      simp

/-- a cell lies within its page -/
theorem cell_in {w z : Int} (hz : 0 < z) (hw : 0 ≤ w) {k : Nat} (hk : (k : Int) < w / z) : 0 ≤ (k : Int) * z ∧ (k : Int) * z + z ≤ w := by
  refine ⟨Int.mul_nonneg (by omega) (by omega), ?_⟩
  have h1 : (k : Int) + 1 ≤ w / z := by omega
  have h2 : ((k : Int) + 1) * z ≤ (w / z) * z := Int.mul_le_mul_of_nonneg_right h1 (by omega)
  have h3 := Int.ediv_mul_le w (b := z) (by omega)
  rw [Int.add_mul] at h2
  omega

theorem div_at {w : Int} (hw : 0 < w) (n : Nat) {off : Int} (h0 : 0 ≤ off) (h1 : off < w) : ((n : Int) * w + off) / w = n ∧ ((n : Int) * w + off) % w = off := by
  have e1 : (n : Int) * w + off = off + n * w := by omega
  rw [e1]
  refine ⟨?_, ?_⟩
  · rw [Int.add_mul_ediv_right _ _ (by omega), Int.ediv_eq_zero_of_lt h0 h1]
    omega
  · rw [Int.add_mul_emod_self_right, Int.emod_eq_of_lt h0 h1]

theorem at_iff {s : MatS} (v : s.V) {a : Int} {n k : Nat} :
    s.at a = some (n, k) ↔ ∃ g, s.pages[n]? = some g ∧ ((g.kind = 2 ∧ k = 0 ∧ a = s.begin n) ∨ (g.kind = 1 ∧ g.used[k]? = some true ∧ a = s.begin n + (k : Int) * g.size)) := by
  have w16 := v.w16
  constructor
  · intro h
    unfold MatS.at at h
    split at h
    · cases h
    · rename_i hlt
      split at h
      · cases h
      · rename_i g hg
        obtain ⟨j, hj, hjk⟩ := Option.map_eq_some_iff.1 h
        simp only [Prod.mk.injEq] at hjk
        obtain ⟨hn, rfl⟩ := hjk
        have hd0 : 0 ≤ a - s.base := by omega
        have e1 : s.words * ((a - s.base) / s.words) + (a - s.base) % s.words = a - s.base := Int.mul_ediv_add_emod _ _
        have e2 : 0 ≤ (a - s.base) / s.words := Int.ediv_nonneg hd0 (by omega)
        have e3 : ((n : Nat) : Int) = (a - s.base) / s.words := by omega
        have eb : s.begin n = s.base + s.words * ((a - s.base) / s.words) := by
          unfold MatS.begin
          rw [e3, Int.mul_comm]
        have m0 : 0 ≤ (a - s.base) % s.words := Int.emod_nonneg _ (by omega)
        rw [hn] at hg
        refine ⟨g, hg, ?_⟩
        unfold atCell at hj
        split at hj
        · rename_i h2
          cases hj
          exact .inl ⟨h2.1, rfl, by omega⟩
        · split at hj
          · rename_i h2
            split at hj
            · rename_i h3
              split at hj
              · rename_i h4
                cases hj
                refine .inr ⟨h2.1, ?_, ?_⟩
                · simpa [List.getD, h3] using h4
                · obtain ⟨z1, z2, z3, z4⟩ := v.blk n g hg h2.1
                  have q0 : 0 ≤ ((a - s.base) % s.words) / g.size := Int.ediv_nonneg m0 (by omega)
                  have q1 : g.size * (((a - s.base) % s.words) / g.size) + ((a - s.base) % s.words) % g.size = (a - s.base) % s.words := Int.mul_ediv_add_emod _ _
                  have q2 : (((((a - s.base) % s.words) / g.size).toNat : Nat) : Int) = ((a - s.base) % s.words) / g.size := by omega
                  rw [q2, Int.mul_comm]
                  omega
              · cases hj
            · cases hj
          · cases hj
  · rintro ⟨g, hg, h⟩
    have key : ∀ off : Int, 0 ≤ off → off < s.words → a = s.begin n + off → ¬ a < s.base ∧ ((a - s.base) / s.words).toNat = n ∧ (a - s.base) % s.words = off := by
      intro off h0 h1 ha
      have e : a - s.base = (n : Int) * s.words + off := by rw [ha]; unfold MatS.begin; omega
      obtain ⟨d1, d2⟩ := div_at (by omega : 0 < s.words) n h0 h1
      refine ⟨?_, by rw [e, d1]; simp, by rw [e, d2]⟩
      have : 0 ≤ (n : Int) * s.words := Int.mul_nonneg (by omega) (by omega)
      omega
    rcases h with ⟨h1, rfl, ha⟩ | ⟨h1, h2, ha⟩
    · obtain ⟨k1, k2, k3⟩ := key 0 (by omega) (by omega) (by omega)
      unfold MatS.at
      rw [if_neg k1, k2, k3, hg]
      simp [atCell, h1]
    · obtain ⟨z1, z2, z3, z4⟩ := v.blk n g hg h1
      have hkl : k < g.used.length := (List.getElem?_eq_some_iff.1 h2).1
      obtain ⟨c1, c2⟩ := cell_in (z := g.size) (w := s.words) (k := k) (by omega) (by omega) (by omega)
      obtain ⟨k1, k2, k3⟩ := key _ c1 (by omega) ha
      have e1 : ((k : Int) * g.size) % g.size = 0 := Int.mul_emod_left _ _
      have e2 : ((k : Int) * g.size) / g.size = k := Int.mul_ediv_cancel _ (by omega)
      unfold MatS.at
      rw [if_neg k1, k2, k3, hg]
      have hgd : g.used.getD k false = true := by simp [List.getD, h2]
      simp [atCell, h1, e1, e2, hkl]
      exact (List.getElem?_eq_some_iff.1 h2).2

theorem sizeAt_iff {s : MatS} (v : s.V) {a z : Int} :
    s.sizeAt a = some z ↔ ∃ (n : Nat) (g : PageS), s.pages[n]? = some g ∧ ((g.kind = 2 ∧ a = s.begin n ∧ z = pagesN s.words g.size * s.words) ∨ (g.kind = 1 ∧ z = g.size ∧ ∃ k : Nat, g.used[k]? = some true ∧ a = s.begin n + (k : Int) * g.size)) := by
  unfold MatS.sizeAt
  constructor
  · intro h
    obtain ⟨⟨n, k⟩, h1, h2⟩ := Option.map_eq_some_iff.1 h
    obtain ⟨g, hg, hh⟩ := (at_iff v).1 h1
    refine ⟨n, g, hg, ?_⟩
    simp only [hg] at h2
    rcases hh with ⟨a1, rfl, a2⟩ | ⟨a1, a2, a3⟩
    · refine .inl ⟨a1, a2, ?_⟩
      rw [← h2, MatS.cellSize, if_pos a1]
    · refine .inr ⟨a1, ?_, k, a2, a3⟩
      rw [← h2, MatS.cellSize, if_neg (by omega)]
  · rintro ⟨n, g, hg, hh⟩
    rcases hh with ⟨a1, a2, rfl⟩ | ⟨a1, rfl, k, a2, a3⟩
    · rw [(at_iff v (n := n) (k := 0)).2 ⟨g, hg, .inl ⟨a1, rfl, a2⟩⟩]
      simp [hg, MatS.cellSize, a1]
    · rw [(at_iff v (n := n) (k := k)).2 ⟨g, hg, .inr ⟨a1, a2, a3⟩⟩]
      simp [hg, MatS.cellSize, a1]

theorem begin_le {s : MatS} (v : s.V) {n m : Nat} (h : n < m) : s.begin n + s.words ≤ s.begin m := by
  have w16 := v.w16
  unfold MatS.begin
  have h1 : ((n : Int) + 1) * s.words ≤ (m : Int) * s.words := Int.mul_le_mul_of_nonneg_right (by omega) (by omega)
  rw [Int.add_mul] at h1
  omega
theorem begin_add (s : MatS) (n : Nat) (c : Int) (hc : 0 ≤ c) : s.begin n + c * s.words = s.begin (n + c.toNat) := by
  unfold MatS.begin
  have : ((n + c.toNat : Nat) : Int) = n + c := by omega
  rw [this, Int.add_mul]
  omega
theorem begin_mono {s : MatS} (v : s.V) {n m : Nat} (h : n ≤ m) : s.begin n ≤ s.begin m := by
  have w16 := v.w16
  unfold MatS.begin
  have h1 : (n : Int) * s.words ≤ (m : Int) * s.words := Int.mul_le_mul_of_nonneg_right (by omega) (by omega)
  omega

/-- what begins lies within the space -/
theorem sizeAt_in {s : MatS} (v : s.V) {a z : Int} (h : s.sizeAt a = some z) : s.base ≤ a ∧ 1 ≤ z ∧ a + z ≤ s.base + s.pages.length * s.words := by
  have w16 := v.w16
  obtain ⟨n, g, hg, hh⟩ := (sizeAt_iff v).1 h
  have hn : n < s.pages.length := (List.getElem?_eq_some_iff.1 hg).1
  have hb : s.base ≤ s.begin n := by
    unfold MatS.begin
    have : 0 ≤ (n : Int) * s.words := Int.mul_nonneg (by omega) (by omega)
    omega
  have hend : ∀ m : Nat, m ≤ s.pages.length → s.begin m ≤ s.base + s.pages.length * s.words := by
    intro m hm
    have := begin_mono v hm
    unfold MatS.begin at this ⊢
    omega
  rcases hh with ⟨a1, rfl, rfl⟩ | ⟨a1, rfl, k, a2, rfl⟩
  · obtain ⟨b1, b2, b3, _⟩ := v.big n g hg a1
    obtain ⟨y1, y2, y3⟩ := pagesN_bounds b1 b2 w16
    refine ⟨hb, by omega, ?_⟩
    rw [begin_add _ _ _ (by omega)]
    exact hend _ (by omega)
  · obtain ⟨z1, z2, z3, z4⟩ := v.blk n g hg a1
    have hkl : k < g.used.length := (List.getElem?_eq_some_iff.1 a2).1
    obtain ⟨c1, c2⟩ := cell_in (z := g.size) (w := s.words) (k := k) (by omega) (by omega) (by omega)
    have := hend (n + 1) (by omega)
    have := begin_le v (n := n) (m := n + 1) (by omega)
    exact ⟨by omega, by omega, by omega⟩

/-- two things lie apart -/
theorem sizeAt_apart {s : MatS} (v : s.V) {a b y z : Int} (ha : s.sizeAt a = some y) (hb : s.sizeAt b = some z) (hne : a ≠ b) : a + y ≤ b ∨ b + z ≤ a := by
  have w16 := v.w16
  have key : ∀ {a b y z : Int} {n m : Nat} {g g' : PageS}, s.pages[n]? = some g → s.pages[m]? = some g' → n < m →
      ((g.kind = 2 ∧ a = s.begin n ∧ y = pagesN s.words g.size * s.words) ∨ (g.kind = 1 ∧ y = g.size ∧ ∃ k : Nat, g.used[k]? = some true ∧ a = s.begin n + (k : Int) * g.size)) →
      ((g'.kind = 2 ∧ b = s.begin m ∧ z = pagesN s.words g'.size * s.words) ∨ (g'.kind = 1 ∧ z = g'.size ∧ ∃ k : Nat, g'.used[k]? = some true ∧ b = s.begin m + (k : Int) * g'.size)) → a + y ≤ b := by
    intro a b y z n m g g' hg hg' hlt h1 h2
    have hbm : s.begin m ≤ b ∧ g'.kind ≠ 3 := by
      rcases h2 with ⟨a1, rfl, _⟩ | ⟨a1, _, k, a2, rfl⟩
      · exact ⟨Int.le_refl _, by omega⟩
      · obtain ⟨z1, z2, z3, z4⟩ := v.blk m g' hg' a1
        have : 0 ≤ (k : Int) * g'.size := Int.mul_nonneg (by omega) (by omega)
        exact ⟨by omega, by omega⟩
    rcases h1 with ⟨a1, rfl, rfl⟩ | ⟨a1, rfl, k, a2, rfl⟩
    · obtain ⟨b1, b2, b3, b4⟩ := v.big n g hg a1
      obtain ⟨y1, y2, y3⟩ := pagesN_bounds b1 b2 w16
      rw [begin_add _ _ _ (by omega)]
      by_cases hc : n + (pagesN s.words g.size).toNat ≤ m
      · have := begin_mono v hc
        omega
      · obtain ⟨g'', q1, q2⟩ := b4 (m - n) (by omega) (by omega)
        rw [show n + (m - n) = m by omega, hg'] at q1
        cases q1
        exact absurd q2 hbm.2
    · obtain ⟨z1, z2, z3, z4⟩ := v.blk n g hg a1
      have hkl : k < g.used.length := (List.getElem?_eq_some_iff.1 a2).1
      obtain ⟨c1, c2⟩ := cell_in (z := g.size) (w := s.words) (k := k) (by omega) (by omega) (by omega)
      have := begin_le v hlt
      omega
  obtain ⟨n, g, hg, h1⟩ := (sizeAt_iff v).1 ha
  obtain ⟨m, g', hg', h2⟩ := (sizeAt_iff v).1 hb
  rcases Nat.lt_trichotomy n m with hlt | rfl | hlt
  · exact .inl (key hg hg' hlt h1 h2)
  · rw [hg] at hg'
    cases hg'
    rcases h1 with ⟨a1, rfl, rfl⟩ | ⟨a1, rfl, k, a2, rfl⟩
    · rcases h2 with ⟨_, rfl, _⟩ | ⟨c1, _⟩
      · exact absurd rfl hne
      · omega
    · rcases h2 with ⟨c1, _⟩ | ⟨_, rfl, j, c2, rfl⟩
      · omega
      · obtain ⟨z1, z2, z3, z4⟩ := v.blk n g hg a1
        rcases Nat.lt_trichotomy k j with hlt | rfl | hlt
        · left
          have : ((k : Int) + 1) * g.size ≤ (j : Int) * g.size := Int.mul_le_mul_of_nonneg_right (by omega) (by omega)
          rw [Int.add_mul] at this
          omega
        · exact absurd rfl hne
        · right
          have : ((j : Int) + 1) * g.size ≤ (k : Int) * g.size := Int.mul_le_mul_of_nonneg_right (by omega) (by omega)
          rw [Int.add_mul] at this
          omega
  · exact .inr (key hg' hg hlt h2 h1)

end Go.Proofs.YtjjdjipohifgbaaGreat

/- Plain facts on pages and cells: what Take turns, and what Starts tells. No program in sight. Conditions: pages as New and the calls make them. -/
namespace Go.Proofs.YtjjdjipohifgbaaGreat
open Go.RowKit

theorem rowF_free {c : Nat} : ∀ (l : List PageS) (pre : List PageS) (run n : Nat), run ≤ pre.length → run < c → (∀ j, j < run → ∃ g, pre[pre.length - 1 - j]? = some g ∧ g.kind = 0) → rowF c l pre.length run = some n →
    ∀ k, k < c → ∃ g, (pre ++ l)[n + k]? = some g ∧ g.kind = 0
  | [], pre, run, n, _, _, _, h => by cases h
  | g :: l, pre, run, n, hr, hc, hp, h => by
    unfold rowF at h
    have hlen : (pre ++ [g]).length = pre.length + 1 := by simp
    have happ : pre ++ g :: l = (pre ++ [g]) ++ l := by simp
    split at h
    · rename_i hk
      split at h
      · rename_i hq
        cases h
        intro k hk2
        by_cases he : k = c - 1
        · refine ⟨g, ?_, hk⟩
          rw [show pre.length + 1 - c + k = pre.length by omega]
          simp
        · obtain ⟨g', h1, h2⟩ := hp (run - 1 - k) (by omega)
          refine ⟨g', ?_, h2⟩
          rw [show pre.length - 1 - (run - 1 - k) = pre.length + 1 - c + k by omega] at h1
          have hlt : pre.length + 1 - c + k < pre.length := (List.getElem?_eq_some_iff.1 h1).1
          rw [List.getElem?_append_left hlt]
          exact h1
      · rw [happ]
        refine rowF_free l (pre ++ [g]) (run + 1) n (by omega) (by omega) ?_ (by rw [hlen]; exact h)
        intro j hj
        cases j with
        | zero => exact ⟨g, by simp, hk⟩
        | succ j =>
          obtain ⟨g', h1, h2⟩ := hp j (by omega)
          refine ⟨g', ?_, h2⟩
          have hlt : pre.length - 1 - j < pre.length := (List.getElem?_eq_some_iff.1 h1).1
          rw [hlen, show pre.length + 1 - 1 - (j + 1) = pre.length - 1 - j by omega, List.getElem?_append_left hlt]
          exact h1
    · rw [happ]
      exact rowF_free l (pre ++ [g]) 0 n (by omega) (by omega) (fun j hj => by omega) (by rw [hlen]; exact h)
theorem rowF_spec {c : Nat} (hc : 1 ≤ c) {l : List PageS} {n : Nat} (h : rowF c l 0 0 = some n) : n + c ≤ l.length ∧ ∀ k, k < c → ∃ g, l[n + k]? = some g ∧ g.kind = 0 :=
  ⟨rowF_fit hc h, by simpa using rowF_free l [] 0 n (by simp) (by omega) (fun j hj => by omega) h⟩

theorem fitIn_spec {size : Int} : ∀ {l : List PageS} {o n k : Nat}, fitIn size l o = some (n, k) → o ≤ n ∧ ∃ g, l[n - o]? = some g ∧ g.kind = 1 ∧ g.size = size ∧ g.pending = false ∧ firstF g.used = some k
  | [], _, _, _, h => by cases h
  | g :: l, o, n, k, h => by
    have key : fitIn size l (o + 1) = some (n, k) → o ≤ n ∧ ∃ g', (g :: l)[n - o]? = some g' ∧ g'.kind = 1 ∧ g'.size = size ∧ g'.pending = false ∧ firstF g'.used = some k := fun h => by
      obtain ⟨h1, g', h2, h3⟩ := fitIn_spec h
      refine ⟨by omega, g', ?_, h3⟩
      rw [show n - o = (n - (o + 1)) + 1 by omega]
      simpa using h2
    unfold fitIn at h
    split at h
    · rename_i hh
      split at h
      · rename_i j hj
        simp only [Option.some.injEq, Prod.mk.injEq] at h
        obtain ⟨rfl, rfl⟩ := h
        exact ⟨Nat.le_refl _, g, by simp, hh.1.1, hh.1.2, hh.2, hj⟩
      · exact key h
    · exact key h

theorem layMore_get (l : List PageS) (n : Nat) : ∀ (c m : Nat), n + c ≤ l.length → (layMore l n c)[m]? = if n ≤ m ∧ m < n + c then some morePg else l[m]?
  | 0, m, _ => by rw [if_neg (by omega)]; rfl
  | c + 1, m, h => by
    have ih := layMore_get l n c m (by omega)
    have hlen := layMore_len l n c
    simp only [layMore, List.getElem?_set]
    by_cases e : n + c = m
    · rw [if_pos e, if_pos (by omega), if_pos (by omega)]
    · rw [if_neg e, ih]
      by_cases h1 : n ≤ m ∧ m < n + c
      · rw [if_pos h1, if_pos (by omega)]
      · rw [if_neg h1, if_neg (by omega)]

/-- how many words something takes in the old space -/
def cellOf (page words : Int) : Int := if largeB page words then pagesN page words * page else rnd words

/-- what Take turned -/
structure Taken (s s' : MatS) (words t : Int) : Prop where
  v : s'.V
  base : s'.base = s.base
  ws : s'.words = s.words
  len : s'.pages.length = s.pages.length
  new : s.sizeAt t = none
  size : s'.sizeAt t = some (cellOf s.words words)
  rest : ∀ a, a ≠ t → s'.sizeAt a = s.sizeAt a

theorem take_spec {s : MatS} (v : s.V) {words : Int} (h1 : 1 ≤ words) (h2 : words ≤ 66) {t : Int} {s' : MatS} (h : s.take words = some (t, s')) : Taken s s' words t := by
  have w16 := v.w16
  have w256 := v.w256
  have ext : ∀ {s' : MatS} (v' : s'.V) {t : Int}, (∀ a, a ≠ t → ∀ z, s'.sizeAt a = some z ↔ s.sizeAt a = some z) → ∀ a, a ≠ t → s'.sizeAt a = s.sizeAt a := fun {_} _ {_} h a ha => Option.ext (fun z => h a ha z)
  unfold MatS.take at h
  split at h
  · rename_i hL
    obtain ⟨y1, y2, y3⟩ := pagesN_bounds h1 h2 w16
    obtain ⟨c, hc⟩ : ∃ c : Nat, pagesN s.words words = c := ⟨(pagesN s.words words).toNat, by omega⟩
    rw [hc, Int.toNat_natCast] at h
    have hcell : cellOf s.words words = c * s.words := by rw [cellOf, if_pos hL, hc]
    cases hq : rowF c s.pages 0 0 with
    | none => rw [hq] at h; cases h
    | some n =>
      rw [hq] at h
      simp only [MatS.takeL, hc, Int.toNat_natCast, Option.some.injEq, Prod.mk.injEq] at h
      obtain ⟨rfl, rfl⟩ := h
      obtain ⟨q1, q2⟩ := rowF_spec (by omega) hq
      have hget : ∀ m, ((layMore s.pages n c).set n (largePg words))[m]? = if m = n then some (largePg words) else if n ≤ m ∧ m < n + c then some morePg else s.pages[m]? := by
        intro m
        rw [List.getElem?_set, layMore_get _ _ _ _ q1, layMore_len]
        by_cases e : n = m
        · subst e
          rw [if_pos rfl, if_pos (by omega), if_pos rfl]
        · rw [if_neg e, if_neg (show ¬ m = n from fun h => e h.symm)]
      have hold : ∀ m g, n ≤ m → m < n + c → s.pages[m]? = some g → g.kind = 0 := by
        intro m g h1 h2 hg
        obtain ⟨g', e1, e2⟩ := q2 (m - n) (by omega)
        rw [show n + (m - n) = m by omega, hg] at e1
        cases e1
        exact e2
      have v' : MatS.V { s with pages := (layMore s.pages n c).set n (largePg words) } := by
        refine ⟨w16, w256, v.b0, ?_, ?_, ?_⟩
        · intro m g hg hk
          rw [hget] at hg
          split at hg
          · cases hg; simp [largePg] at hk
          · split at hg
            · cases hg; simp [morePg] at hk
            · exact v.blk m g hg hk
        · intro m g hg hk
          have hlen : ((layMore s.pages n c).set n (largePg words)).length = s.pages.length := by simp [layMore_len]
          simp only [hlen]
          rw [hget] at hg
          split at hg
          · rename_i e
            cases hg
            subst e
            refine ⟨h1, h2, ?_, ?_⟩
            · show (m : Int) + pagesN s.words words ≤ _
              omega
            · intro k k1 k2
              have k2' : (k : Int) < pagesN s.words words := k2
              exact ⟨morePg, by rw [hget, if_neg (by omega), if_pos (by omega)], rfl⟩
          · split at hg
            · cases hg; simp [morePg] at hk
            · rename_i e1 e2
              obtain ⟨b1, b2, b3, b4⟩ := v.big m g hg hk
              refine ⟨b1, b2, b3, ?_⟩
              intro k k1 k2
              obtain ⟨g', g1, g2⟩ := b4 k k1 k2
              refine ⟨g', ?_, g2⟩
              rw [hget]
              have hno : ¬ (n ≤ m + k ∧ m + k < n + c) := by
                intro hh
                have := hold _ _ hh.1 hh.2 g1
                omega
              rw [if_neg (by omega), if_neg hno]
              exact g1
        · intro m g hg hk
          rw [hget] at hg
          split at hg
          · cases hg; rfl
          · split at hg
            · cases hg; rfl
            · exact v.oth m g hg hk
      have hnew : s.sizeAt (s.begin n) = none := by
        cases hz : s.sizeAt (s.begin n) with
        | none => rfl
        | some z =>
          exfalso
          obtain ⟨m, g, hg, hh⟩ := (sizeAt_iff v).1 hz
          have hmn : m = n := by
            rcases hh with ⟨_, e, _⟩ | ⟨a1, _, k, a2, e⟩
            · rcases Nat.lt_trichotomy n m with h | h | h
              · have := begin_le v h; omega
              · exact h.symm
              · have := begin_le v h; omega
            · obtain ⟨z1, z2, z3, z4⟩ := v.blk m g hg a1
              have hkl : k < g.used.length := (List.getElem?_eq_some_iff.1 a2).1
              obtain ⟨c1, c2⟩ := cell_in (z := g.size) (w := s.words) (k := k) (by omega) (by omega) (by omega)
              rcases Nat.lt_trichotomy n m with h | h | h
              · have := begin_le v h; omega
              · exact h.symm
              · have := begin_le v h; omega
          subst hmn
          have := hold m g (by omega) (by omega) hg
          rcases hh with ⟨a1, _⟩ | ⟨a1, _⟩ <;> omega
      refine ⟨v', rfl, rfl, by simp [layMore_len], hnew, ?_, ext v' ?_⟩
      · rw [sizeAt_iff v']
        exact ⟨n, largePg words, by rw [hget, if_pos rfl], .inl ⟨rfl, rfl, hcell.trans (by show (c : Int) * s.words = pagesN s.words words * s.words; rw [hc])⟩⟩
      · intro a ha z
        rw [sizeAt_iff v', sizeAt_iff v]
        constructor
        · rintro ⟨m, g, hg, hh⟩
          simp only at hg
          rw [hget] at hg
          split at hg
          · rename_i e
            cases hg
            subst e
            rcases hh with ⟨_, e, _⟩ | ⟨a1, _⟩
            · exact absurd e ha
            · simp [largePg] at a1
          · split at hg
            · cases hg
              rcases hh with ⟨a1, _⟩ | ⟨a1, _⟩ <;> simp [morePg] at a1
            · exact ⟨m, g, hg, hh⟩
        · rintro ⟨m, g, hg, hh⟩
          have hno : ¬ (n ≤ m ∧ m < n + c) := by
            intro hq
            have := hold m g hq.1 hq.2 hg
            rcases hh with ⟨a1, _⟩ | ⟨a1, _⟩ <;> omega
          exact ⟨m, g, by simp only; rw [hget, if_neg (by omega), if_neg hno]; exact hg, hh⟩
  · rename_i hL
    have hcell : cellOf s.words words = rnd words := by rw [cellOf, if_neg hL]
    obtain ⟨r1, r2⟩ := rnd_bounds words
    have hrw : rnd words ≤ s.words := by
      simp only [largeB, decide_eq_true_eq] at hL
      omega
    generalize rnd words = R at *
    unfold MatS.inB MatS.fitted at h
    cases hf : fitIn R s.pages 0 with
    | some x =>
      obtain ⟨n, k⟩ := x
      rw [hf] at h
      simp only [Option.some.injEq, Prod.mk.injEq] at h
      obtain ⟨_, g, hg, g1, g2, g3, g4⟩ := fitIn_spec hf
      rw [Nat.sub_zero] at hg
      obtain ⟨k1, k2⟩ := firstF_get g4
      have hs' : s' = s.setPage n (g.use k true) := by rw [← h.2]; simp [MatS.useAt, hg]
      have ht := h.1
      clear h
      subst hs'
      have hn : n < s.pages.length := (List.getElem?_eq_some_iff.1 hg).1
      have hget : ∀ m, (s.setPage n (g.use k true)).pages[m]? = if m = n then some (g.use k true) else s.pages[m]? := by
        intro m
        show (s.pages.set n _)[m]? = _
        rw [List.getElem?_set]
        by_cases e : n = m
        · subst e
          rw [if_pos rfl, if_pos hn, if_pos rfl]
        · rw [if_neg e, if_neg (show ¬ m = n from fun h => e h.symm)]
      have hlen : (s.setPage n (g.use k true)).pages.length = s.pages.length := by simp [MatS.setPage]
      have v' : (s.setPage n (g.use k true)).V := by
        refine ⟨w16, w256, v.b0, ?_, ?_, ?_⟩
        · intro m g' hg' hk
          rw [hget] at hg'
          split at hg'
          · cases hg'
            have := v.blk n g hg g1
            simpa [PageS.use, MatS.setPage] using this
          · exact v.blk m g' hg' hk
        · intro m g' hg' hk
          rw [hlen]
          rw [hget] at hg'
          split at hg'
          · cases hg'
            have : g.kind = 2 := hk
            omega
          · obtain ⟨b1, b2, b3, b4⟩ := v.big m g' hg' hk
            refine ⟨b1, b2, b3, ?_⟩
            intro j j1 j2
            obtain ⟨g'', e1, e2⟩ := b4 j j1 j2
            refine ⟨g'', ?_, e2⟩
            rw [hget, if_neg]
            · exact e1
            · intro e
              rw [e, hg] at e1
              cases e1
              omega
        · intro m g' hg' hk
          rw [hget] at hg'
          split at hg'
          · cases hg'
            exact absurd g1 hk
          · exact v.oth m g' hg' hk
      have hused : ∀ j, (g.use k true).used[j]? = some true ↔ j = k ∨ g.used[j]? = some true := by
        intro j
        show (g.used.set k true)[j]? = some true ↔ _
        rw [List.getElem?_set]
        by_cases e : k = j
        · subst e
          rw [if_pos rfl, if_pos k1]
          simp
        · rw [if_neg e]
          constructor
          · exact .inr
          · rintro (h | h)
            · exact absurd h.symm e
            · exact h
      have hnew : s.sizeAt t = none := by
        cases hz : s.sizeAt t with
        | none => rfl
        | some z =>
          exfalso
          have := (sizeAt_iff v).1 hz
          obtain ⟨m, g', hg', hh⟩ := this
          obtain ⟨z1, z2, z3, z4⟩ := v.blk n g hg g1
          obtain ⟨c1, c2⟩ := cell_in (z := g.size) (w := s.words) (k := k) (by omega) (by omega) (by omega)
          rw [← g2] at ht
          have hmn : m = n := by
            rcases hh with ⟨_, e, _⟩ | ⟨a1, _, j, a2, e⟩
            · rcases Nat.lt_trichotomy n m with h | h | h
              · have := begin_le v h; omega
              · exact h.symm
              · have := begin_le v h; omega
            · obtain ⟨w1, w2, w3, w4⟩ := v.blk m g' hg' a1
              have hkl : j < g'.used.length := (List.getElem?_eq_some_iff.1 a2).1
              obtain ⟨d1, d2⟩ := cell_in (z := g'.size) (w := s.words) (k := j) (by omega) (by omega) (by omega)
              rcases Nat.lt_trichotomy n m with h | h | h
              · have := begin_le v h; omega
              · exact h.symm
              · have := begin_le v h; omega
          subst hmn
          rw [hg] at hg'
          cases hg'
          rcases hh with ⟨a1, _⟩ | ⟨a1, _, j, a2, e⟩
          · omega
          · have hjk : (j : Int) * g.size = (k : Int) * g.size := by omega
            have hjk2 : (j : Int) = k := Int.eq_of_mul_eq_mul_right (by omega) hjk
            have : j = k := by omega
            subst this
            rw [k2] at a2
            cases a2
      refine ⟨v', rfl, rfl, hlen, hnew, ?_, ext v' ?_⟩
      · rw [sizeAt_iff v', hcell]
        exact ⟨n, g.use k true, by rw [hget, if_pos rfl], .inr ⟨g1, g2.symm, k, (hused k).2 (.inl rfl), by rw [← ht]; show _ = s.begin n + (k : Int) * g.size; rw [g2]⟩⟩
      · intro a ha z
        rw [sizeAt_iff v', sizeAt_iff v]
        constructor
        · rintro ⟨m, g', hg', hh⟩
          rw [hget] at hg'
          split at hg'
          · rename_i e
            cases hg'
            subst e
            rcases hh with ⟨a1, _⟩ | ⟨_, hz, j, a2, e⟩
            · have : g.kind = 2 := a1
              omega
            · rcases (hused j).1 a2 with rfl | a2
              · exfalso
                apply ha
                rw [e, ← ht, ← g2]
                rfl
              · exact ⟨m, g, hg, .inr ⟨g1, hz, j, a2, e⟩⟩
          · exact ⟨m, g', hg', hh⟩
        · rintro ⟨m, g', hg', hh⟩
          by_cases e : m = n
          · subst e
            rw [hg] at hg'
            cases hg'
            rcases hh with ⟨a1, _⟩ | ⟨_, hz, j, a2, e⟩
            · omega
            · exact ⟨m, g.use k true, by rw [hget, if_pos rfl], .inr ⟨g1, hz, j, (hused j).2 (.inr a2), e⟩⟩
          · exact ⟨m, g', by rw [hget, if_neg e]; exact hg', hh⟩
    | none =>
      rw [hf] at h
      simp only [MatS.fresh] at h
      cases hq : rowF 1 s.pages 0 0 with
      | none => rw [hq] at h; cases h
      | some n =>
        rw [hq] at h
        simp only [Option.some.injEq, Prod.mk.injEq] at h
        obtain ⟨rfl, rfl⟩ := h
        obtain ⟨q1, q2⟩ := rowF_spec (by omega) hq
        obtain ⟨g0, hg0, hk0⟩ := q2 0 (by omega)
        rw [Nat.add_zero] at hg0
        have hn : n < s.pages.length := by omega
        have hget : ∀ m, (s.setPage n (newBlk R s.words)).pages[m]? = if m = n then some (newBlk R s.words) else s.pages[m]? := by
          intro m
          show (s.pages.set n _)[m]? = _
          rw [List.getElem?_set]
          by_cases e : n = m
          · subst e
            rw [if_pos rfl, if_pos hn, if_pos rfl]
          · rw [if_neg e, if_neg (show ¬ m = n from fun h => e h.symm)]
        have hlen : (s.setPage n (newBlk R s.words)).pages.length = s.pages.length := by simp [MatS.setPage]
        have hdiv : 1 ≤ s.words / R := (Int.le_ediv_iff_mul_le (by omega)).2 (by omega)
        have hused : ∀ j, (newBlk R s.words).used[j]? = some true ↔ j = 0 := by
          intro j
          show ((List.replicate (s.words / R).toNat false).set 0 true)[j]? = some true ↔ _
          rw [List.getElem?_set]
          by_cases e : 0 = j
          · subst e
            simp
            omega
          · rw [if_neg e, List.getElem?_replicate]
            constructor
            · intro h
              split at h <;> cases h
            · intro h
              exact absurd h.symm e
        have v' : (s.setPage n (newBlk R s.words)).V := by
          refine ⟨w16, w256, v.b0, ?_, ?_, ?_⟩
          · intro m g' hg' hk
            rw [hget] at hg'
            split at hg'
            · cases hg'
              refine ⟨r1, r2, hrw, ?_⟩
              show (((List.replicate (s.words / R).toNat false).set 0 true).length : Int) = s.words / R
              simp
              omega
            · exact v.blk m g' hg' hk
          · intro m g' hg' hk
            rw [hlen]
            rw [hget] at hg'
            split at hg'
            · cases hg'
              simp [newBlk] at hk
            · obtain ⟨b1, b2, b3, b4⟩ := v.big m g' hg' hk
              refine ⟨b1, b2, b3, ?_⟩
              intro j j1 j2
              obtain ⟨g'', e1, e2⟩ := b4 j j1 j2
              refine ⟨g'', ?_, e2⟩
              rw [hget, if_neg]
              · exact e1
              · intro e
                rw [e, hg0] at e1
                cases e1
                omega
          · intro m g' hg' hk
            rw [hget] at hg'
            split at hg'
            · cases hg'
              simp [newBlk] at hk
            · exact v.oth m g' hg' hk
        have hnew : s.sizeAt (s.begin n) = none := by
          cases hz : s.sizeAt (s.begin n) with
          | none => rfl
          | some z =>
            exfalso
            obtain ⟨m, g, hg, hh⟩ := (sizeAt_iff v).1 hz
            have hmn : m = n := by
              rcases hh with ⟨_, e, _⟩ | ⟨a1, _, k, a2, e⟩
              · rcases Nat.lt_trichotomy n m with h | h | h
                · have := begin_le v h; omega
                · exact h.symm
                · have := begin_le v h; omega
              · obtain ⟨z1, z2, z3, z4⟩ := v.blk m g hg a1
                have hkl : k < g.used.length := (List.getElem?_eq_some_iff.1 a2).1
                obtain ⟨c1, c2⟩ := cell_in (z := g.size) (w := s.words) (k := k) (by omega) (by omega) (by omega)
                rcases Nat.lt_trichotomy n m with h | h | h
                · have := begin_le v h; omega
                · exact h.symm
                · have := begin_le v h; omega
            subst hmn
            rw [hg0] at hg
            cases hg
            rcases hh with ⟨a1, _⟩ | ⟨a1, _⟩ <;> omega
        refine ⟨v', rfl, rfl, hlen, hnew, ?_, ext v' ?_⟩
        · rw [sizeAt_iff v', hcell]
          exact ⟨n, newBlk R s.words, by rw [hget, if_pos rfl], .inr ⟨rfl, rfl, 0, (hused 0).2 rfl, by show s.begin n = s.begin n + ((0 : Nat) : Int) * R; simp⟩⟩
        · intro a ha z
          rw [sizeAt_iff v', sizeAt_iff v]
          constructor
          · rintro ⟨m, g', hg', hh⟩
            rw [hget] at hg'
            split at hg'
            · rename_i e
              cases hg'
              subst e
              rcases hh with ⟨a1, _⟩ | ⟨_, hz, j, a2, e⟩
              · simp [newBlk] at a1
              · have := (hused j).1 a2
                subst this
                exfalso
                apply ha
                rw [e]
                show s.begin m + ((0 : Nat) : Int) * R = s.begin m
                simp
            · exact ⟨m, g', hg', hh⟩
          · rintro ⟨m, g', hg', hh⟩
            by_cases e : m = n
            · subst e
              rw [hg0] at hg'
              cases hg'
              rcases hh with ⟨a1, _⟩ | ⟨a1, _⟩ <;> omega
            · exact ⟨m, g', by rw [hget, if_neg e]; exact hg', hh⟩

end Go.Proofs.YtjjdjipohifgbaaGreat

/- Plain facts on pages and cells: what Starts tells; a new space is empty. No program in sight. Conditions: pages as New and the calls make them. -/
namespace Go.Proofs.YtjjdjipohifgbaaGreat
open Go.RowKit

theorem startsF_get {b size : Int} : ∀ {l : List Bool} {j : Nat} {a : Int}, a ∈ startsF b size l j ↔ ∃ k : Nat, l[k]? = some true ∧ a = b + ((j + k : Nat) : Int) * size
  | [], j, a => by simp [startsF]
  | u :: l, j, a => by
    have ih := startsF_get (b := b) (size := size) (l := l) (j := j + 1) (a := a)
    simp only [startsF]
    constructor
    · intro h
      have key : a ∈ startsF b size l (j + 1) → ∃ k : Nat, (u :: l)[k]? = some true ∧ a = b + ((j + k : Nat) : Int) * size := fun h => by
        obtain ⟨k, h1, h2⟩ := ih.1 h
        exact ⟨k + 1, by simpa using h1, by rw [h2, show j + (k + 1) = j + 1 + k by omega]⟩
      split at h
      · rename_i hu
        rcases List.mem_cons.1 h with rfl | h
        · exact ⟨0, by simp [hu], by simp⟩
        · exact key h
      · exact key h
    · rintro ⟨k, h1, h2⟩
      cases k with
      | zero =>
        have hu : u = true := by simpa using h1
        rw [if_pos hu]
        simp at h2
        rw [h2]
        exact List.mem_cons_self ..
      | succ k =>
        have : a ∈ startsF b size l (j + 1) := ih.2 ⟨k, by simpa using h1, by rw [h2, show j + (k + 1) = j + 1 + k by omega]⟩
        split
        · exact List.mem_cons_of_mem _ this
        · exact this

/-- what begins in a page -/
theorem startsOf_iff {s : MatS} (v : s.V) {n : Nat} {g : PageS} (hg : s.pages[n]? = some g) {a : Int} :
    a ∈ s.startsOf n g ↔ (g.kind = 2 ∧ a = s.begin n) ∨ (g.kind = 1 ∧ ∃ k : Nat, g.used[k]? = some true ∧ a = s.begin n + (k : Int) * g.size) := by
  unfold MatS.startsOf
  by_cases h2 : g.kind = 2
  · rw [if_pos h2]
    simp only [List.mem_singleton]
    constructor
    · exact fun h => .inl ⟨h2, h⟩
    · rintro (⟨_, h⟩ | ⟨h, _⟩)
      · exact h
      · omega
  · rw [if_neg h2, startsF_get]
    simp only [Nat.zero_add]
    by_cases h1 : g.kind = 1
    · constructor
      · exact fun h => .inr ⟨h1, h⟩
      · rintro (⟨h, _⟩ | ⟨_, h⟩)
        · exact absurd h h2
        · exact h
    · rw [v.oth n g hg h1]
      constructor
      · rintro ⟨k, h, _⟩
        simp at h
      · rintro (⟨h, _⟩ | ⟨h, _⟩)
        · exact absurd h h2
        · exact absurd h h1

theorem startsL_iff {s : MatS} (v : s.V) {lo hi a : Int} : ∀ k : Nat, a ∈ s.startsL lo hi k ↔ ∃ n, n < k ∧ a ∈ s.pageStarts lo hi n
  | 0 => by simp [MatS.startsL]
  | k + 1 => by
    rw [MatS.startsL, List.mem_append, startsL_iff v k]
    constructor
    · rintro (⟨n, h1, h2⟩ | h)
      · exact ⟨n, by omega, h2⟩
      · exact ⟨k, by omega, h⟩
    · rintro ⟨n, h1, h2⟩
      by_cases e : n = k
      · exact .inr (e ▸ h2)
      · exact .inl ⟨n, by omega, h2⟩

/-- what Starts tells: just what begins there -/
theorem starts_iff {s : MatS} (v : s.V) {lo hi a : Int} : a ∈ s.starts lo hi ↔ lo ≤ a ∧ a < hi ∧ (s.sizeAt a).isSome = true := by
  have w16 := v.w16
  have hsome : (s.sizeAt a).isSome = true ↔ ∃ (n : Nat) (g : PageS), s.pages[n]? = some g ∧ a ∈ s.startsOf n g := by
    rw [Option.isSome_iff_exists]
    constructor
    · rintro ⟨z, h⟩
      obtain ⟨n, g, hg, hh⟩ := (sizeAt_iff v).1 h
      refine ⟨n, g, hg, (startsOf_iff v hg).2 ?_⟩
      rcases hh with ⟨a1, a2, _⟩ | ⟨a1, _, a2⟩
      · exact .inl ⟨a1, a2⟩
      · exact .inr ⟨a1, a2⟩
    · rintro ⟨n, g, hg, h⟩
      rcases (startsOf_iff v hg).1 h with ⟨a1, a2⟩ | ⟨a1, a2⟩
      · exact ⟨_, (sizeAt_iff v).2 ⟨n, g, hg, .inl ⟨a1, a2, rfl⟩⟩⟩
      · exact ⟨_, (sizeAt_iff v).2 ⟨n, g, hg, .inr ⟨a1, rfl, a2⟩⟩⟩
  unfold MatS.starts
  rw [startsL_iff v, hsome]
  constructor
  · rintro ⟨n, hn, h⟩
    unfold MatS.pageStarts at h
    split at h
    · rename_i g hg
      unfold MatS.startsIn at h
      split at h
      · simp at h
      · obtain ⟨h1, h2⟩ := List.mem_filter.1 h
        simp only [inPart, Bool.and_eq_true, decide_eq_true_eq] at h2
        exact ⟨h2.1, h2.2, n, g, hg, h1⟩
    · simp at h
  · rintro ⟨h1, h2, n, g, hg, h⟩
    refine ⟨n, (List.getElem?_eq_some_iff.1 hg).1, ?_⟩
    unfold MatS.pageStarts
    rw [hg]
    simp only
    unfold MatS.startsIn
    have hin : s.begin n ≤ a ∧ a < s.begin n + s.words := by
      rcases (startsOf_iff v hg).1 h with ⟨_, rfl⟩ | ⟨a1, k, a2, rfl⟩
      · omega
      · obtain ⟨z1, z2, z3, z4⟩ := v.blk n g hg a1
        have hkl : k < g.used.length := (List.getElem?_eq_some_iff.1 a2).1
        obtain ⟨c1, c2⟩ := cell_in (z := g.size) (w := s.words) (k := k) (by omega) (by omega) (by omega)
        omega
    rw [if_neg (by omega)]
    exact List.mem_filter.2 ⟨h, by simp [inPart, h1, h2]⟩

/-- a new space -/
theorem newMat_V {b k : Int} (hb : 1 ≤ b) (h1 : 16 ≤ k) (h2 : k ≤ 256) (n : Nat) : (⟨b, k, List.replicate n pg0⟩ : MatS).V := by
  have key : ∀ (m : Nat) (g : PageS), (List.replicate n pg0)[m]? = some g → g = pg0 := by
    intro m g hg
    rw [List.getElem?_replicate] at hg
    split at hg
    · cases hg; rfl
    · cases hg
  refine ⟨h1, h2, hb, ?_, ?_, ?_⟩
  · intro m g hg hk
    rw [key m g hg] at hk
    cases hk
  · intro m g hg hk
    rw [key m g hg] at hk
    cases hk
  · intro m g hg _
    rw [key m g hg]
    rfl
theorem newMat_none {b k : Int} (hb : 1 ≤ b) (h1 : 16 ≤ k) (h2 : k ≤ 256) (n : Nat) (a : Int) : (⟨b, k, List.replicate n pg0⟩ : MatS).sizeAt a = none := by
  cases hz : (⟨b, k, List.replicate n pg0⟩ : MatS).sizeAt a with
  | none => rfl
  | some z =>
    exfalso
    obtain ⟨m, g, hg, hh⟩ := (sizeAt_iff (newMat_V hb h1 h2 n)).1 hz
    have : g = pg0 := by
      simp only at hg
      rw [List.getElem?_replicate] at hg
      split at hg
      · cases hg; rfl
      · cases hg
    subst this
    rcases hh with ⟨a1, _⟩ | ⟨a1, _⟩ <;> cases a1

end Go.Proofs.YtjjdjipohifgbaaGreat

/- Plain facts on words, handles and new objects: what is read behind what was written. No program in sight. Conditions: places within the words. -/
namespace Go.Proofs.YtjjdjipohifgbaaGreat
open Go.RowKit

theorem rd_out {ws : List Int} {i : Int} (h : i < 0 ∨ (ws.length : Int) ≤ i) : rd ws i = 0 := by
  unfold rd
  split
  · have : ws.length ≤ i.toNat := by omega
    simp [List.getD, List.getElem?_eq_none this]
  · rfl
theorem hasW_iff {n : Nat} {i k : Int} : hasW n i k = true ↔ 0 ≤ i ∧ 0 ≤ k ∧ i ≤ n ∧ k ≤ n - i := by simp [hasW]
theorem ldW_eq (ws : List Int) (i : Int) : ldW ws i = rd ws i := by
  unfold ldW
  split
  · rfl
  · rename_i h
    rw [rd_out]
    simp only [hasW_iff] at h
    omega
theorem rd_st {ws : List Int} {i : Int} (h : 0 ≤ i) (h2 : i < ws.length) (v j : Int) : rd (stW ws i v) j = if j = i then v else rd ws j := by
  have hh : hasW ws.length i 1 = true := by rw [hasW_iff]; omega
  unfold stW wr
  rw [if_pos hh, if_pos h]
  unfold rd
  by_cases hj : 0 ≤ j
  · rw [if_pos hj, if_pos hj]
    simp only [List.getD, List.getElem?_set]
    by_cases e : j = i
    · subst e
      have : j.toNat < ws.length := by omega
      simp [this]
    · have : i.toNat ≠ j.toNat := by omega
      simp [this, e]
  · rw [if_neg hj, if_neg hj, if_neg (by omega)]
theorem len_st (ws : List Int) (i v : Int) : (stW ws i v).length = ws.length := by
  unfold stW wr
  split
  · split <;> simp
  · rfl
theorem rd_lay {ws xs : List Int} {i : Nat} (h : i + xs.length ≤ ws.length) (j : Int) : rd (lay ws i xs) j = if (i : Int) ≤ j ∧ j < i + xs.length then xs.getD (j.toNat - i) 0 else rd ws j := by
  unfold rd
  by_cases hj : 0 ≤ j
  · simp only [if_pos hj]
    obtain ⟨n, rfl⟩ : ∃ n : Nat, j = n := ⟨j.toNat, by omega⟩
    simp only [Int.toNat_natCast, lay, List.getD, List.getElem?_append, List.length_append, List.length_take]
    have hm : min i ws.length = i := by omega
    rw [hm]
    by_cases h1 : n < i
    · rw [if_pos (by omega), if_pos h1, if_neg (by omega)]
      simp [List.getElem?_take, h1]
    · by_cases h2 : n < i + xs.length
      · rw [if_pos (by omega), if_neg h1, if_pos (by omega)]
      · rw [if_neg (by omega), if_neg (by omega), List.getElem?_drop]
        congr 2
        omega
  · rw [if_neg hj, if_neg hj, if_neg (by omega)]
theorem rd_zero {ws : List Int} {i : Int} {n : Nat} (h : 0 ≤ i) (h2 : i + n ≤ ws.length) (j : Int) : rd (zeroW ws i n) j = if i ≤ j ∧ j < i + n then 0 else rd ws j := by
  have hh : hasW ws.length i n = true := by rw [hasW_iff]; omega
  unfold zeroW
  rw [if_pos hh, rd_lay (by simp; omega)]
  simp only [List.length_replicate]
  have : ((i.toNat : Nat) : Int) = i := by omega
  rw [this]
  split
  · simp [List.getD, List.getElem?_replicate]
    split <;> rfl
  · rfl
theorem len_zero {ws : List Int} {i : Int} {n : Nat} : (zeroW ws i n).length = ws.length := by
  unfold zeroW
  split
  · rename_i h
    rw [hasW_iff] at h
    exact length_lay _ _ _ (by simp; omega)
  · rfl
theorem u64_of {x : Int} (h : 0 ≤ x) (h2 : x < 18446744073709551616) : u64 x = x := by unfold u64; omega
theorem rd_way {ws : List Int} {i : Int} (h : 0 ≤ i) (h2 : i + 1 < ws.length) (hL : ws.length ≤ 1048576) (to j : Int) : rd (setWayW ws i to) j = if j = i + 1 then u64 to else rd ws j := by
  unfold setWayW
  rw [if_pos (by omega), rd_st (by omega) (by omega)]
theorem len_way (ws : List Int) (i to : Int) : (setWayW ws i to).length = ws.length := by
  unfold setWayW
  split
  · exact len_st ..
  · rfl

/-- what is read of an object just made, and beside it -/
theorem rd_make {ws : List Int} {i : Int} {x : Hd} (hg : x.Good) (h : 0 ≤ i) (h2 : i + x.words ≤ ws.length) (hL : ws.length ≤ 1048576) (j : Int) :
    rd (objMakeW ws i x) j = if j = i then x.enc else if j = i + 1 then i else if i ≤ j ∧ j < i + x.words then 0 else rd ws j := by
  obtain ⟨hn, hn0⟩ := Hd.words_nat hg
  have hw : 2 ≤ x.words := by have := hg.1; unfold Hd.words; omega
  have hh : hasW ws.length i x.words = true := by rw [hasW_iff]; omega
  unfold objMakeW
  rw [if_pos hh, rd_way h (by rw [len_st, len_zero]; omega) (by rw [len_st, len_zero]; exact hL), rd_st h (by rw [len_zero]; omega), rd_zero h (by omega), u64_of h (by omega)]
  have e : i + ((x.words.toNat : Nat) : Int) = i + x.words := by omega
  rw [e]
  by_cases e1 : j = i
  · rw [if_neg (by omega), if_pos e1, if_pos e1]
  · rw [if_neg e1, if_neg e1]
theorem len_make (ws : List Int) (i : Int) (x : Hd) : (objMakeW ws i x).length = ws.length := by
  unfold objMakeW
  split
  · rw [len_way, len_st, len_zero]
  · rfl

theorem place_of {i n : Int} (h : 0 ≤ i) (h2 : i ≤ 1048576) (h3 : 0 ≤ n) (h4 : n < 64) : place i n = i + 2 + n := by
  unfold place
  rw [if_pos ⟨h, h2, h3, h4⟩]

/-! handles -/
theorem tblOk_iff {l : List Int} {i : Int} : tblOk l i = true ↔ 0 ≤ i ∧ i < l.length := by simp [tblOk]
theorem len_tblSet (l : List Int) (i v : Int) : (tblSet l i v).length = l.length := by
  unfold tblSet
  split
  · simp
  · rfl
theorem tblGet_out {l : List Int} {i : Int} (h : tblOk l i = false) : tblGet l i = 0 := by simp [tblGet, h]
theorem tblOk_set (l : List Int) (i v j : Int) : tblOk (tblSet l i v) j = tblOk l j := by simp [tblOk, len_tblSet]
theorem tblErr_set (l : List Int) (i v j : Int) : tblErr (tblSet l i v) j = tblErr l j := by simp [tblErr, tblOk_set]
theorem tblGet_set {l : List Int} {i : Int} (h : tblOk l i = true) (v j : Int) : tblGet (tblSet l i v) j = if j = i then v else tblGet l j := by
  by_cases hj : tblOk l j = true
  · have hi' := tblOk_iff.1 h
    have hj' := tblOk_iff.1 hj
    unfold tblGet
    rw [tblOk_set, if_pos hj, if_pos hj]
    unfold tblSet
    rw [if_pos h]
    simp only [List.getD, List.getElem?_set]
    by_cases e : j = i
    · subst e
      have : j.toNat < l.length := by omega
      simp [this]
    · have : i.toNat ≠ j.toNat := by omega
      simp [this, e]
  · have hj2 : tblOk l j = false := by simpa using hj
    rw [tblGet_out (by rw [tblOk_set]; exact hj2), tblGet_out hj2]
    split
    · rename_i e
      rw [e] at hj2
      rw [h] at hj2
      cases hj2
    · rfl

theorem tblErr_ok {l : List Int} {i : Int} (h : tblOk l i = true) : tblErr l i = 0 := by simp [tblErr, h]


end Go.Proofs.YtjjdjipohifgbaaGreat

/- Plain facts on objects in words: what stays where something else is written, rows of objects, and what is read behind a move. No program in sight. Conditions: places within the words. -/
namespace Go.Proofs.YtjjdjipohifgbaaGreat
open Go.RowKit

theorem headS_eq (ws : List Int) (a : Int) : headS ws a = unH (rd ws a) := by rw [headS, ldW_eq]
theorem refS_eq {ws : List Int} {a : Int} (h : 0 ≤ a) (h2 : a ≤ 1048576) {k : Int} (h3 : 0 ≤ k) (h4 : k < 64) : refS ws a k = wrap64 (rd ws (a + 2 + k)) := by rw [refS, ldW_eq, place_of h h2 h3 h4]
theorem wayW_eq {ws : List Int} {a : Int} (h : 0 ≤ a) (h2 : a ≤ 1048576) : wayW ws a = wrap64 (rd ws (a + 1)) := by rw [wayW, if_pos ⟨h, h2⟩, ldW_eq]

theorem words_bounds (ws : List Int) (a : Int) : 2 ≤ (headS ws a).words ∧ (headS ws a).words ≤ 66 ∧ (headS ws a).words = (headS ws a).size + 2 ∧ 0 ≤ (headS ws a).ptrs ∧ (headS ws a).ptrs ≤ (headS ws a).size := by
  obtain ⟨g1, g2, g3, g4, _⟩ := unH_good (ldW ws a)
  have e : (headS ws a).words = (headS ws a).size + 2 := rfl
  have e2 : (headS ws a) = unH (ldW ws a) := rfl
  rw [e2] at e ⊢
  omega

/-- the words of an object are as they were -/
def Same (ws ws' : List Int) (a n : Int) : Prop := ∀ p, a ≤ p → p < a + n → rd ws' p = rd ws p
theorem Same.head {ws ws' : List Int} {a n : Int} (h : Same ws ws' a n) (hn : 1 ≤ n) : headS ws' a = headS ws a := by
  rw [headS_eq, headS_eq, h a (by omega) (by omega)]
theorem Same.way {ws ws' : List Int} {a n : Int} (h : Same ws ws' a n) (hn : 2 ≤ n) (h0 : 0 ≤ a) (h1 : a ≤ 1048576) : wayW ws' a = wayW ws a := by
  rw [wayW_eq h0 h1, wayW_eq h0 h1, h (a + 1) (by omega) (by omega)]
theorem Same.ref {ws ws' : List Int} {a n : Int} (h : Same ws ws' a n) (h0 : 0 ≤ a) (h1 : a ≤ 1048576) {k : Int} (hk : 0 ≤ k) (hk2 : k < 64) (hn : k + 2 < n) : refS ws' a k = refS ws a k := by
  rw [refS_eq h0 h1 hk hk2, refS_eq h0 h1 hk hk2, h (a + 2 + k) (by omega) (by omega)]

/-- objects, one behind the other -/
def ORow (ws : List Int) : Int → Int → List Int → Prop
  | f, t, [] => f = t
  | f, t, a :: l => a = f ∧ ORow ws (f + (headS ws f).words) t l

theorem ORow.le {ws : List Int} : ∀ {l : List Int} {f t : Int}, ORow ws f t l → f ≤ t
  | [], f, t, h => by simp only [ORow] at h; omega
  | a :: l, f, t, h => by
    have := ORow.le h.2
    have := (words_bounds ws f).1
    omega
theorem ORow.mem {ws : List Int} : ∀ {l : List Int} {f t a : Int}, ORow ws f t l → a ∈ l → f ≤ a ∧ a + (headS ws a).words ≤ t
  | [], f, t, a, _, h => by cases h
  | b :: l, f, t, a, h, hm => by
    obtain ⟨rfl, h2⟩ := h
    have := (words_bounds ws b).1
    rcases List.mem_cons.1 hm with rfl | hm
    · exact ⟨Int.le_refl _, h2.le⟩
    · have := ORow.mem h2 hm
      omega
theorem ORow.apart {ws : List Int} : ∀ {l : List Int} {f t a b : Int}, ORow ws f t l → a ∈ l → b ∈ l → a ≠ b → a + (headS ws a).words ≤ b ∨ b + (headS ws b).words ≤ a
  | [], _, _, _, _, _, h, _, _ => by cases h
  | c :: l, f, t, a, b, h, ha, hb, hne => by
    obtain ⟨rfl, h2⟩ := h
    rcases List.mem_cons.1 ha with e1 | ha2
    · rcases List.mem_cons.1 hb with e2 | hb2
      · exact absurd (e1.trans e2.symm) hne
      · rw [e1]
        exact .inl (ORow.mem h2 hb2).1
    · rcases List.mem_cons.1 hb with e2 | hb2
      · rw [e2]
        exact .inr (ORow.mem h2 ha2).1
      · exact ORow.apart h2 ha2 hb2 hne
theorem ORow.frame {ws ws' : List Int} : ∀ {l : List Int} {f t : Int}, ORow ws f t l → (∀ a ∈ l, (headS ws' a).words = (headS ws a).words) → ORow ws' f t l
  | [], _, _, h, _ => h
  | a :: l, f, t, h, hs => by
    obtain ⟨rfl, h2⟩ := h
    refine ⟨rfl, ?_⟩
    rw [hs a (List.mem_cons_self ..)]
    exact ORow.frame h2 (fun b hb => hs b (List.mem_cons_of_mem _ hb))
theorem ORow.snoc {ws : List Int} : ∀ {l : List Int} {f t : Int}, ORow ws f t l → ORow ws f (t + (headS ws t).words) (l ++ [t])
  | [], f, t, h => by
    simp only [ORow] at h
    subst h
    exact ⟨rfl, rfl⟩
  | a :: l, f, t, h => by
    obtain ⟨rfl, h2⟩ := h
    exact ⟨rfl, ORow.snoc h2⟩
theorem ORow.next {ws : List Int} : ∀ {l : List Int} {f t a : Int}, ORow ws f t l → a ∈ l → a + (headS ws a).words = t ∨ a + (headS ws a).words ∈ l
  | [], _, _, _, _, h => by cases h
  | b :: l, f, t, a, h, hm => by
    obtain ⟨rfl, h2⟩ := h
    rcases List.mem_cons.1 hm with rfl | hm
    · cases l with
      | nil => exact .inl h2
      | cons c l => exact .inr (by rw [h2.1]; simp)
    · rcases ORow.next h2 hm with h | h
      · exact .inl h
      · exact .inr (List.mem_cons_of_mem _ h)
theorem ORow.first {ws : List Int} {l : List Int} {f t : Int} (h : ORow ws f t l) : f = t ∨ f ∈ l := by
  cases l with
  | nil => exact .inl h
  | cons a l => exact .inr (by rw [h.1]; simp)
theorem ORow.nodup {ws : List Int} : ∀ {l : List Int} {f t : Int}, ORow ws f t l → l.Nodup
  | [], _, _, _ => List.nodup_nil
  | a :: l, f, t, h => by
    obtain ⟨rfl, h2⟩ := h
    refine List.nodup_cons.2 ⟨fun hm => ?_, ORow.nodup h2⟩
    have := (ORow.mem h2 hm).1
    have := (words_bounds ws a).1
    omega

theorem getD_seg {ws : List Int} {i n j : Nat} (h : i + n ≤ ws.length) (hj : j < n) : (seg ws i n).getD j 0 = rd ws ((i + j : Nat) : Int) := by
  unfold seg rd
  rw [if_pos (by omega)]
  simp only [List.getD, List.getElem?_take, List.getElem?_drop, Int.toNat_natCast]
  rw [if_pos hj]

/-- what is read behind a move of an object -/
theorem rd_move {ws : List Int} {i j : Int} {x : Hd} (hg : x.Good) (hi : 0 ≤ i) (hi2 : i + x.words ≤ ws.length) (hj : 0 ≤ j) (hj2 : j + x.words ≤ ws.length) (hL : ws.length ≤ 1048576) (hne : i + x.words ≤ j ∨ j + x.words ≤ i) (p : Int) :
    rd (objMoveW ws i j x) p = if p = i + 1 then j else if p = j then x.enc else if p = j + 1 then j else if j ≤ p ∧ p < j + x.words then rd ws (p - j + i) else rd ws p := by
  obtain ⟨hn, hn0⟩ := Hd.words_nat hg
  have hw : 2 ≤ x.words := by have := hg.1; unfold Hd.words; omega
  obtain ⟨n, hnn⟩ : ∃ n, n = x.words.toNat := ⟨_, rfl⟩
  rw [← hnn] at hn hn0
  have hok : copyOk ws i j n = true := by
    unfold copyOk
    rw [Bool.and_eq_true, hasW_iff, hasW_iff]
    omega
  have hlen : (copyW ws i j n).length = ws.length := by
    unfold copyW
    rw [if_pos hok]
    exact length_lay _ _ _ (by rw [length_seg _ _ _ (by omega)]; omega)
  unfold objMoveW
  rw [← hnn, if_pos hok]
  rw [rd_way hi (by rw [len_way, len_st, hlen]; omega) (by rw [len_way, len_st, hlen]; exact hL)]
  rw [rd_way hj (by rw [len_st, hlen]; omega) (by rw [len_st, hlen]; exact hL)]
  rw [rd_st hj (by rw [hlen]; omega), u64_of hj (by omega)]
  have hc : rd (copyW ws i j n) p = if j ≤ p ∧ p < j + x.words then rd ws (p - j + i) else rd ws p := by
    unfold copyW
    rw [if_pos hok, rd_lay (by rw [length_seg _ _ _ (by omega)]; omega), length_seg _ _ _ (by omega)]
    have e : ((j.toNat : Nat) : Int) = j := by omega
    rw [e, hn]
    by_cases hp : j ≤ p ∧ p < j + (n : Int)
    · rw [if_pos hp, if_pos hp, getD_seg (by omega) (by omega)]
      congr 1
      omega
    · rw [if_neg hp, if_neg hp]
  rw [hc]
  by_cases e1 : p = i + 1
  · rw [if_pos e1, if_pos e1]
  · rw [if_neg e1, if_neg e1]
    by_cases e2 : p = j + 1
    · rw [if_pos e2, if_neg (by omega), if_pos e2]
    · rw [if_neg e2]
      by_cases e3 : p = j
      · rw [if_pos e3, if_pos e3]
      · rw [if_neg e3, if_neg e3, if_neg e2]
theorem len_move {ws : List Int} {i j : Int} {x : Hd} : (objMoveW ws i j x).length = ws.length := by
  unfold objMoveW
  split
  · rename_i h
    rw [len_way, len_way, len_st]
    unfold copyW
    rw [if_pos h]
    unfold copyOk at h
    rw [Bool.and_eq_true, hasW_iff, hasW_iff] at h
    refine length_lay _ _ _ ?_
    rw [length_seg _ _ _ (by omega)]
    omega
  · rfl

end Go.Proofs.YtjjdjipohifgbaaGreat

/- Where objects lie, and what a move turns. No program in sight. Conditions: a core whose parts fit its configuration. -/
namespace Go.Proofs.YtjjdjipohifgbaaGreat
open Go.RowKit

/-- where objects lie: those of the half that is filled, those of the other one, and the old ones -/
structure Lay (s : CoreS) (cur oth : List Int) : Prop where
  cf : s.C.Fits
  ov : s.o.V
  ob : s.o.base = 1 + 2 * s.C.nursery
  ow : s.o.words = s.C.page
  ol : (s.o.pages.length : Int) = s.C.pages
  f0 : s.y.f0 = 1
  f1 : s.y.f1 = 1 + s.C.nursery
  yw : s.y.words = s.C.nursery
  u0 : 0 ≤ s.y.u0 ∧ s.y.u0 ≤ s.C.nursery
  u1 : 0 ≤ s.y.u1 ∧ s.y.u1 ≤ s.C.nursery
  wl : (s.ws.length : Int) = s.C.words
  rc : ORow s.ws s.y.cf (s.y.cf + s.y.cu) cur
  ro : ORow s.ws s.y.of (s.y.of + s.y.ou) oth
  fit : ∀ a z, s.o.sizeAt a = some z → z = cellOf s.o.words (headS s.ws a).words

def IsO (s : CoreS) (cur oth : List Int) (a : Int) : Prop := a ∈ cur ∨ a ∈ oth ∨ (s.o.sizeAt a).isSome = true

theorem cellOf_le {page words : Int} (h : 16 ≤ page) (h1 : 1 ≤ words) (h2 : words ≤ 66) : words ≤ cellOf page words := by
  unfold cellOf
  split
  · exact (pagesN_bounds h1 h2 h).2.2
  · exact rnd_le (by omega)

section
variable {s : CoreS} {cur oth : List Int}

theorem Lay.nums (l : Lay s cur oth) : 8 ≤ s.C.nursery ∧ s.C.nursery ≤ 4096 ∧ 0 ≤ s.C.pages * s.C.page ∧ s.C.pages * s.C.page ≤ 16384 ∧ (s.ws.length : Int) = 1 + 2 * s.C.nursery + s.C.pages * s.C.page ∧ 0 ≤ s.y.cu ∧ s.y.cu ≤ s.C.nursery ∧ 0 ≤ s.y.ou ∧ s.y.ou ≤ s.C.nursery ∧
    ((s.y.cf = 1 ∧ s.y.of = 1 + s.C.nursery) ∨ (s.y.cf = 1 + s.C.nursery ∧ s.y.of = 1)) := by
  have hp := Cfg.prod_small l.cf.small
  have h1 := l.wl
  have h2 := l.cf.n1
  have h3 := l.cf.n2
  have h4 := l.u0
  have h5 := l.u1
  have h6 := l.f0
  have h7 := l.f1
  unfold Cfg.words Cfg.mature at h1
  unfold YoungS.cu YoungS.ou YoungS.cf YoungS.of
  split <;> omega

/-- an old one lies in the old part -/
theorem Lay.oldIn (l : Lay s cur oth) {a : Int} (h : (s.o.sizeAt a).isSome = true) : 1 + 2 * s.C.nursery ≤ a ∧ a + (headS s.ws a).words ≤ s.ws.length := by
  obtain ⟨z, hz⟩ := Option.isSome_iff_exists.1 h
  obtain ⟨h1, h2, h3⟩ := sizeAt_in l.ov hz
  have hf := l.fit a z hz
  obtain ⟨b1, b2, _⟩ := words_bounds s.ws a
  have hc := cellOf_le (page := s.o.words) l.ov.w16 (show 1 ≤ (headS s.ws a).words by omega) b2
  obtain ⟨n1, n2, n3, n4, n5, _⟩ := l.nums
  rw [l.ob] at h1
  rw [l.ob, l.ol, l.ow] at h3
  omega
theorem Lay.curIn (l : Lay s cur oth) {a : Int} (h : a ∈ cur) : s.y.cf ≤ a ∧ a + (headS s.ws a).words ≤ s.y.cf + s.y.cu := l.rc.mem h
theorem Lay.othIn (l : Lay s cur oth) {a : Int} (h : a ∈ oth) : s.y.of ≤ a ∧ a + (headS s.ws a).words ≤ s.y.of + s.y.ou := l.ro.mem h
theorem Lay.pos (l : Lay s cur oth) {a : Int} (h : IsO s cur oth a) : 1 ≤ a ∧ a + (headS s.ws a).words ≤ s.ws.length ∧ a ≤ 1048576 ∧ s.ws.length ≤ 1048576 := by
  obtain ⟨n1, n2, n3, n4, n5, n6, n7, n8, n9, n10⟩ := l.nums
  have hb := (words_bounds s.ws a).1
  rcases h with h | h | h
  · have := l.curIn h
    omega
  · have := l.othIn h
    omega
  · have := l.oldIn h
    omega
/-- two objects lie apart -/
theorem Lay.apart (l : Lay s cur oth) {a b : Int} (ha : IsO s cur oth a) (hb : IsO s cur oth b) (hne : a ≠ b) : a + (headS s.ws a).words ≤ b ∨ b + (headS s.ws b).words ≤ a := by
  obtain ⟨n1, n2, n3, n4, n5, n6, n7, n8, n9, n10⟩ := l.nums
  have ba := (words_bounds s.ws a).1
  have bb := (words_bounds s.ws b).1
  rcases ha with ha | ha | ha <;> rcases hb with hb | hb | hb
  · exact l.rc.apart ha hb hne
  · have := l.curIn ha; have := l.othIn hb; omega
  · have := l.curIn ha; have := l.oldIn hb; omega
  · have := l.othIn ha; have := l.curIn hb; omega
  · exact l.ro.apart ha hb hne
  · have := l.othIn ha; have := l.oldIn hb; omega
  · have := l.oldIn ha; have := l.curIn hb; omega
  · have := l.oldIn ha; have := l.othIn hb; omega
  · obtain ⟨y, hy⟩ := Option.isSome_iff_exists.1 ha
    obtain ⟨z, hz⟩ := Option.isSome_iff_exists.1 hb
    have h1 := sizeAt_apart l.ov hy hz hne
    have f1 := l.fit a y hy
    have f2 := l.fit b z hz
    obtain ⟨_, b2, _⟩ := words_bounds s.ws a
    obtain ⟨_, b4, _⟩ := words_bounds s.ws b
    have c1 := cellOf_le (page := s.o.words) l.ov.w16 (show 1 ≤ (headS s.ws a).words by omega) b2
    have c2 := cellOf_le (page := s.o.words) l.ov.w16 (show 1 ≤ (headS s.ws b).words by omega) b4
    omega
theorem Lay.from_oth (l : Lay s cur oth) {a : Int} (h : a ∈ oth) : s.y.isFrom a = true := by
  have := l.othIn h
  have := (words_bounds s.ws a).1
  simp only [YoungS.isFrom, decide_eq_true_eq]
  omega
theorem Lay.from_not (l : Lay s cur oth) {a : Int} (h : a ∈ cur ∨ (s.o.sizeAt a).isSome = true) : s.y.isFrom a = false := by
  obtain ⟨n1, n2, n3, n4, n5, n6, n7, n8, n9, n10⟩ := l.nums
  have := (words_bounds s.ws a).1
  simp only [YoungS.isFrom, decide_eq_false_iff_not]
  rcases h with h | h
  · have := l.curIn h
    omega
  · have := l.oldIn h
    omega
theorem Lay.in_cur (l : Lay s cur oth) {a : Int} (h : a ∈ cur) : s.y.isIn a = true := by
  have := l.curIn h
  have := (words_bounds s.ws a).1
  simp only [YoungS.isIn, decide_eq_true_eq]
  omega
/-- places of the old part -/
def InOld (s : CoreS) (a : Int) : Prop := 1 + 2 * s.C.nursery ≤ a ∧ a < s.ws.length
theorem Lay.old_range (l : Lay s cur oth) {a : Int} (h : (s.o.sizeAt a).isSome = true) : InOld s a := by
  have := l.oldIn h
  have := (words_bounds s.ws a).1
  exact ⟨by omega, by omega⟩
theorem Lay.in_not (l : Lay s cur oth) {a : Int} (h : a ∈ oth ∨ InOld s a ∨ a = 0) : s.y.isIn a = false := by
  obtain ⟨n1, n2, n3, n4, n5, n6, n7, n8, n9, n10⟩ := l.nums
  have := (words_bounds s.ws a).1
  simp only [YoungS.isIn, decide_eq_false_iff_not]
  rcases h with h | h | h
  · have := l.othIn h
    omega
  · have := h.1
    omega
  · omega
theorem Lay.from_old (l : Lay s cur oth) {a : Int} (h : InOld s a ∨ a = 0) : s.y.isFrom a = false := by
  obtain ⟨n1, n2, n3, n4, n5, n6, n7, n8, n9, n10⟩ := l.nums
  simp only [YoungS.isFrom, decide_eq_false_iff_not]
  rcases h with h | h
  · have := h.1
    omega
  · omega
end

/-- what the move of an object out of the half that is emptied turned -/
structure MovedTo (s : CoreS) (cur oth : List Int) (a : Int) (s' : CoreS) (cur' : List Int) (t : Int) : Prop where
  lay : Lay s' cur' oth
  curE : cur' = if s.mvOld a then cur else cur ++ [t]
  old : s.mvOld a = true → (s'.o.sizeAt t).isSome = true ∧ InOld s t
  size : ∀ b, b ≠ t ∨ s.mvOld a = false → s'.o.sizeAt b = s.o.sizeAt b
  new : ¬ IsO s cur oth t
  okT : isHd (rd s'.ws t) = true
  rdA : rd s'.ws a = rd s.ws a
  yT : s.mvOld a = false → t = s.y.cf + s.y.cu
  hdT : headS s'.ws t = s.mvHd a
  wayT : wayW s'.ws t = t
  fldT : ∀ k, 0 ≤ k → k + 2 < (headS s.ws a).words → rd s'.ws (t + 2 + k) = rd s.ws (a + 2 + k)
  hdA : headS s'.ws a = headS s.ws a
  wayA : wayW s'.ws a = t
  fldA : ∀ k, 0 ≤ k → k + 2 < (headS s.ws a).words → rd s'.ws (a + 2 + k) = rd s.ws (a + 2 + k)
  rest : ∀ b, IsO s cur oth b → b ≠ a → Same s.ws s'.ws b (headS s.ws b).words
  pos : 1 ≤ t ∧ t ≤ 1048576
  wl : s'.ws.length = s.ws.length
  y : s'.y = { s.y with u0 := s'.y.u0, u1 := s'.y.u1 } ∧ s'.y.ou = s.y.ou ∧ s'.y.cu = if s.mvOld a then s.y.cu else s.y.cu + (headS s.ws a).words

theorem mvHd_good {s : CoreS} (hp : s.parity = 0 ∨ s.parity = 1) (a : Int) : (s.mvHd a).Good ∧ (s.mvHd a).words = (headS s.ws a).words ∧ (s.mvHd a).size = (headS s.ws a).size ∧ (s.mvHd a).ptrs = (headS s.ws a).ptrs ∧ (s.mvHd a).old = s.mvOld a ∧ (s.mvHd a).noted = (headS s.ws a).noted := by
  obtain ⟨g1, g2, g3, g4, g5, g6, g7⟩ := unH_good (ldW s.ws a)
  have e2 : (headS s.ws a) = unH (ldW s.ws a) := rfl
  rw [← e2] at g1 g2 g3 g4 g5 g6 g7
  have hA : 0 ≤ s.mvAge a ∧ s.mvAge a ≤ 7 := by unfold CoreS.mvAge; omega
  unfold CoreS.mvHd
  split
  · exact ⟨⟨g1, g2, g3, g4, hA.1, hA.2, g7⟩, rfl, rfl, rfl, rfl, rfl⟩
  · exact ⟨⟨g1, g2, g3, g4, hA.1, hA.2, hp⟩, rfl, rfl, rfl, rfl, rfl⟩

theorem moved_to {s : CoreS} {cur oth : List Int} (l : Lay s cur oth) (hp : s.parity = 0 ∨ s.parity = 1) {a : Int} (ha : a ∈ oth) (hroom : (headS s.ws a).words ≤ s.y.room) :
    ∃ cur', MovedTo s cur oth a (s.moved a) cur' (s.mvTo a) := by
  obtain ⟨n1, n2, n3, n4, n5, n6, n7, n8, n9, n10⟩ := l.nums
  have hIa : IsO s cur oth a := .inr (.inl ha)
  obtain ⟨pa1, pa2, pa3, pa4⟩ := l.pos hIa
  obtain ⟨hg, hwx, _, _, hox, _⟩ := mvHd_good hp a
  obtain ⟨b1, b2, b3, _⟩ := words_bounds s.ws a
  have haR := l.othIn ha
  -- what is common: the words behind the move, once t is known to be free
  have key : ∀ (t : Int) (o' : MatS) (y' : YoungS) (cur' : List Int), s.mvTo a = t → (s.moved a).o = o' → (s.moved a).y = y' → 1 ≤ t → t + (headS s.ws a).words ≤ s.ws.length →
      (∀ b, IsO s cur oth b → t + (headS s.ws a).words ≤ b ∨ b + (headS s.ws b).words ≤ t) →
      (rd (s.moved a).ws t = (s.mvHd a).enc ∧ headS (s.moved a).ws t = s.mvHd a ∧ wayW (s.moved a).ws t = t ∧ headS (s.moved a).ws a = headS s.ws a ∧ rd (s.moved a).ws a = rd s.ws a ∧ wayW (s.moved a).ws a = t ∧
        (∀ k, 0 ≤ k → k + 2 < (headS s.ws a).words → rd (s.moved a).ws (t + 2 + k) = rd s.ws (a + 2 + k)) ∧
        (∀ k, 0 ≤ k → k + 2 < (headS s.ws a).words → rd (s.moved a).ws (a + 2 + k) = rd s.ws (a + 2 + k)) ∧
        (∀ b, IsO s cur oth b → b ≠ a → Same s.ws (s.moved a).ws b (headS s.ws b).words) ∧ (s.moved a).ws.length = s.ws.length) := by
    intro t o' y' cur' ht _ _ t1 t2 hfree
    have hws : (s.moved a).ws = objMoveW s.ws a t (s.mvHd a) := by rw [← ht]; rfl
    have hne := hfree a hIa
    have hrd := fun p => rd_move (p := p) hg (by omega : 0 ≤ a) (by rw [hwx]; exact pa2) (by omega : 0 ≤ t) (by rw [hwx]; exact t2) (by omega) (by rw [hwx]; omega)
    rw [hwx] at hrd
    have hlen : (s.moved a).ws.length = s.ws.length := by rw [hws, len_move]
    have w1 : rd (s.moved a).ws t = (s.mvHd a).enc := by rw [hws, hrd, if_neg (by omega), if_pos rfl]
    have w2 : rd (s.moved a).ws a = rd s.ws a := by rw [hws, hrd, if_neg (by omega), if_neg (by omega), if_neg (by omega), if_neg (by omega)]
    refine ⟨w1, ?_, ?_, ?_, w2, ?_, ?_, ?_, ?_, hlen⟩
    · rw [headS_eq, w1, unH_enc hg]
    · rw [wayW_eq (by omega) (by omega), hws, hrd, if_neg (by omega), if_neg (by omega), if_pos rfl]
      exact wrap_of ⟨by omega, by omega⟩
    · rw [headS_eq, w2, headS_eq]
    · rw [wayW_eq (by omega) (by omega), hws, hrd, if_pos rfl]
      exact wrap_of ⟨by omega, by omega⟩
    · intro k k0 k1
      rw [hws, hrd, if_neg (by omega), if_neg (by omega), if_neg (by omega), if_pos (by omega)]
      congr 1
      omega
    · intro k k0 k1
      rw [hws, hrd, if_neg (by omega), if_neg (by omega), if_neg (by omega), if_neg (by omega)]
    · intro b hb hba p p1 p2
      have h1 := hfree b hb
      have h2 := l.apart hb hIa hba
      rw [hws, hrd, if_neg (by omega), if_neg (by omega), if_neg (by omega), if_neg (by omega)]
  have hmT : s.mvTo a = s.placeTo (headS s.ws a).words (s.mvAge a) := rfl
  have hmO : s.mvOld a = (s.takeOld (headS s.ws a).words (s.mvAge a)).isSome := rfl
  have hmo : (s.moved a).o = (s.placed (headS s.ws a).words (s.mvAge a)).o := rfl
  have hmy : (s.moved a).y = (s.placed (headS s.ws a).words (s.mvAge a)).y := rfl
  have hmC : (s.moved a).C = s.C := by
    show (s.placed (headS s.ws a).words (s.mvAge a)).C = s.C
    unfold CoreS.placed
    split <;> rfl
  have frow : ∀ {ws' : List Int} {f t : Int} {lst : List Int}, ORow s.ws f t lst → (∀ b ∈ lst, IsO s cur oth b) → (∀ b, IsO s cur oth b → b ≠ a → Same s.ws ws' b (headS s.ws b).words) → headS ws' a = headS s.ws a → ORow ws' f t lst := by
    intro ws' f t lst hr hi hs hA
    refine hr.frame fun b hb => ?_
    by_cases e : b = a
    · rw [e, hA]
    · have := (words_bounds s.ws b).1
      rw [(hs b (hi b hb) e).head (by omega)]
  have hna : (s.o.sizeAt a).isSome = false := by
    cases hq : (s.o.sizeAt a).isSome
    · rfl
    · have := l.oldIn hq
      omega
  cases hT : s.takeOld (headS s.ws a).words (s.mvAge a) with
  | some x =>
    obtain ⟨t, o'⟩ := x
    have hten : s.o.take (headS s.ws a).words = some (t, o') := by
      unfold CoreS.takeOld at hT
      split at hT
      · exact hT
      · cases hT
    have T := take_spec l.ov (by omega) b2 hten
    have e1 : s.mvTo a = t := by rw [hmT, CoreS.placeTo, hT]
    have e2 : s.mvOld a = true := by rw [hmO, hT]; rfl
    have e3 : (s.moved a).o = o' := by rw [hmo, CoreS.placed, hT]
    have e4 : (s.moved a).y = s.y := by rw [hmy, CoreS.placed, hT]
    obtain ⟨i1, i2, i3⟩ := sizeAt_in T.v T.size
    rw [T.base, l.ob] at i1
    rw [T.base, T.len, T.ws, l.ob, l.ol, l.ow] at i3
    have hcl := cellOf_le (page := s.o.words) l.ov.w16 (show 1 ≤ (headS s.ws a).words by omega) b2
    rw [l.ow] at hcl
    have t2 : t + (headS s.ws a).words ≤ s.ws.length := by omega
    have hold : ∀ b, (s.o.sizeAt b).isSome = true → b ≠ t := by
      intro b hb e
      rw [e, T.new] at hb
      cases hb
    have hfree : ∀ b, IsO s cur oth b → t + (headS s.ws a).words ≤ b ∨ b + (headS s.ws b).words ≤ t := by
      intro b hb
      rcases hb with hb | hb | hb
      · have := l.curIn hb; omega
      · have := l.othIn hb; omega
      · obtain ⟨z, hz⟩ := Option.isSome_iff_exists.1 hb
        have h1 := T.rest b (hold b hb)
        rw [hz] at h1
        have h2 := sizeAt_apart T.v T.size h1 (fun e => hold b hb e.symm)
        have f2 := l.fit b z hz
        obtain ⟨c1, c2, _⟩ := words_bounds s.ws b
        have c4 := cellOf_le (page := s.o.words) l.ov.w16 (show 1 ≤ (headS s.ws b).words by omega) c2
        rw [l.ow] at h2 c4 f2
        omega
    obtain ⟨k0, k1, k2, k3, kA, k4, k5, k6, k7, k8⟩ := key t o' s.y cur e1 e3 e4 (by omega) t2 hfree
    have hlay : Lay (s.moved a) cur oth := by
      refine ⟨by rw [hmC]; exact l.cf, by rw [e3]; exact T.v, by rw [e3, hmC, T.base]; exact l.ob, by rw [e3, hmC, T.ws]; exact l.ow, by rw [e3, hmC, T.len]; exact l.ol, by rw [e4]; exact l.f0, by rw [e4, hmC]; exact l.f1, by rw [e4, hmC]; exact l.yw, by rw [e4, hmC]; exact l.u0, by rw [e4, hmC]; exact l.u1, by rw [k8, hmC]; exact l.wl, ?_, ?_, ?_⟩
      · rw [e4]; exact frow l.rc (fun b hb => .inl hb) k7 k3
      · rw [e4]; exact frow l.ro (fun b hb => .inr (.inl hb)) k7 k3
      · intro b z hz
        rw [e3] at hz ⊢
        rw [T.ws]
        by_cases e : b = t
        · subst e
          rw [T.size] at hz
          cases hz
          rw [k1, hwx]
        · rw [T.rest b e] at hz
          have hb : IsO s cur oth b := .inr (.inr (by rw [hz]; rfl))
          have hba : b ≠ a := by
            intro e
            rw [← e, hz] at hna
            cases hna
          have := (words_bounds s.ws b).1
          rw [(k7 b hb hba).head (by omega)]
          exact l.fit b z hz
    refine ⟨cur, ?_⟩
    rw [e1]
    refine ⟨hlay, by rw [e2]; rfl, fun _ => ⟨by rw [e3, T.size]; rfl, by omega, by omega⟩, ?_, ?_, by rw [k0, isHd_enc hg], kA, (fun h => by rw [e2] at h; cases h), k1, k2, k5, k3, k4, k6, k7, ⟨by omega, by omega⟩, k8, by rw [e4], by rw [e4], by rw [e4, e2]; rfl⟩
    · intro b hb
      rw [e3]
      rcases hb with hb | hb
      · exact T.rest b hb
      · rw [e2] at hb; cases hb
    · intro hI
      have := (words_bounds s.ws t).1
      rcases hI with h | h | h
      · have := l.curIn h; omega
      · have := l.othIn h; omega
      · rw [T.new] at h; cases h
  | none =>
    have hok : s.y.takeOk (headS s.ws a).words = true := by
      simp only [YoungS.takeOk, decide_eq_true_eq]
      omega
    have e1 : s.mvTo a = s.y.cf + s.y.cu := by rw [hmT, CoreS.placeTo, hT]; show s.y.takeAt _ = _; rw [YoungS.takeAt, if_pos hok]
    have e2 : s.mvOld a = false := by rw [hmO, hT]; rfl
    have e3 : (s.moved a).o = s.o := by rw [hmo, CoreS.placed, hT]
    have e4 : (s.moved a).y = s.y.take (headS s.ws a).words := by rw [hmy, CoreS.placed, hT]
    have hroom2 : s.y.cu + (headS s.ws a).words ≤ s.C.nursery := by
      have := l.yw
      unfold YoungS.room at hroom
      omega
    have y1 : (s.y.take (headS s.ws a).words).cf = s.y.cf ∧ (s.y.take (headS s.ws a).words).cu = s.y.cu + (headS s.ws a).words ∧ (s.y.take (headS s.ws a).words).of = s.y.of ∧ (s.y.take (headS s.ws a).words).ou = s.y.ou ∧ (s.y.take (headS s.ws a).words).f0 = s.y.f0 ∧ (s.y.take (headS s.ws a).words).f1 = s.y.f1 ∧ (s.y.take (headS s.ws a).words).words = s.y.words ∧
        (0 ≤ (s.y.take (headS s.ws a).words).u0 ∧ (s.y.take (headS s.ws a).words).u0 ≤ s.C.nursery) ∧ (0 ≤ (s.y.take (headS s.ws a).words).u1 ∧ (s.y.take (headS s.ws a).words).u1 ≤ s.C.nursery) ∧ s.y.take (headS s.ws a).words = { s.y with u0 := (s.y.take (headS s.ws a).words).u0, u1 := (s.y.take (headS s.ws a).words).u1 } := by
      have h4 := l.u0
      have h5 := l.u1
      unfold YoungS.take
      rw [if_pos hok]
      unfold YoungS.cu at hroom2 ⊢
      unfold YoungS.cf YoungS.of YoungS.ou
      cases hnow : s.y.now <;> simp [hnow] at hroom2 ⊢ <;> omega
    obtain ⟨y1, y2, y3, y4, y5, y6, y7, y8, y9, y10⟩ := y1
    have hfree : ∀ b, IsO s cur oth b → s.y.cf + s.y.cu + (headS s.ws a).words ≤ b ∨ b + (headS s.ws b).words ≤ s.y.cf + s.y.cu := by
      intro b hb
      have := (words_bounds s.ws b).1
      rcases hb with hb | hb | hb
      · have := l.curIn hb; omega
      · have := l.othIn hb; omega
      · have := l.oldIn hb; omega
    obtain ⟨k0, k1, k2, k3, kA, k4, k5, k6, k7, k8⟩ := key _ s.o _ cur e1 e3 e4 (by omega) (by omega) hfree
    have hlay : Lay (s.moved a) (cur ++ [s.y.cf + s.y.cu]) oth := by
      refine ⟨by rw [hmC]; exact l.cf, by rw [e3]; exact l.ov, by rw [e3, hmC]; exact l.ob, by rw [e3, hmC]; exact l.ow, by rw [e3, hmC]; exact l.ol, by rw [e4, y5]; exact l.f0, by rw [e4, y6, hmC]; exact l.f1, by rw [e4, y7, hmC]; exact l.yw, by rw [e4, hmC]; exact y8, by rw [e4, hmC]; exact y9, by rw [k8, hmC]; exact l.wl, ?_, ?_, ?_⟩
      · rw [e4, y1, y2]
        have h1 := (frow l.rc (fun b hb => .inl hb) k7 k3).snoc
        rw [k1, hwx] at h1
        rw [← Int.add_assoc]
        exact h1
      · rw [e4, y3, y4]; exact frow l.ro (fun b hb => .inr (.inl hb)) k7 k3
      · intro b z hz
        rw [e3] at hz ⊢
        have hb : IsO s cur oth b := .inr (.inr (by rw [hz]; rfl))
        have hba : b ≠ a := by
          intro e
          rw [← e, hz] at hna
          cases hna
        have := (words_bounds s.ws b).1
        rw [(k7 b hb hba).head (by omega)]
        exact l.fit b z hz
    refine ⟨cur ++ [s.y.cf + s.y.cu], ?_⟩
    rw [e1]
    refine ⟨hlay, by rw [e2]; simp, (fun h => by rw [e2] at h; cases h), (fun b _ => by rw [e3]), ?_, by rw [k0, isHd_enc hg], kA, (fun _ => rfl), k1, k2, k5, k3, k4, k6, k7, ⟨by omega, by omega⟩, k8, by rw [e4]; exact y10, by rw [e4, y4], by rw [e4, y2, e2]; simp⟩
    intro hI
    have := hfree _ hI
    have := (words_bounds s.ws (s.y.cf + s.y.cu)).1
    omega

end Go.Proofs.YtjjdjipohifgbaaGreat

/- What stays true of objects, bit by bit, and that a move keeps it. No program in sight. Conditions: a core whose parts fit its configuration. -/
namespace Go.Proofs.YtjjdjipohifgbaaGreat
open Go.RowKit

/-- words of those of the half that is emptied that have gone -/
def goneW (ws : List Int) (l : List Int) : Int := sumI (l.map fun a => if wayW ws a = a then 0 else (headS ws a).words)
theorem goneW_cons (ws : List Int) (a : Int) (l : List Int) : goneW ws (a :: l) = (if wayW ws a = a then 0 else (headS ws a).words) + goneW ws l := rfl
theorem goneW_le {ws : List Int} : ∀ {l : List Int} {f t : Int}, ORow ws f t l → 0 ≤ goneW ws l ∧ goneW ws l ≤ t - f
  | [], f, t, h => by simp only [ORow] at h; simp [goneW, sumI]; omega
  | a :: l, f, t, h => by
    obtain ⟨rfl, h2⟩ := h
    have ih := goneW_le h2
    have := (words_bounds ws a).1
    rw [goneW_cons]
    split <;> omega
/-- one that has not gone is not among them -/
theorem goneW_room {ws : List Int} : ∀ {l : List Int} {f t a : Int}, ORow ws f t l → a ∈ l → wayW ws a = a → goneW ws l + (headS ws a).words ≤ t - f
  | [], _, _, _, _, h, _ => by cases h
  | b :: l, f, t, a, h, hm, hw => by
    obtain ⟨rfl, h2⟩ := h
    have := (words_bounds ws b).1
    rw [goneW_cons]
    rcases List.mem_cons.1 hm with e | hm2
    · have := (goneW_le h2).2
      subst e
      rw [if_pos hw]
      omega
    · have := goneW_room h2 hm2 hw
      split <;> omega
theorem goneW_same {ws ws' : List Int} : ∀ {l : List Int}, (∀ a ∈ l, wayW ws' a = wayW ws a ∧ (headS ws' a).words = (headS ws a).words) → goneW ws' l = goneW ws l
  | [], _ => rfl
  | a :: l, h => by
    obtain ⟨h1, h2⟩ := h a (List.mem_cons_self ..)
    rw [goneW_cons, goneW_cons, h1, h2, goneW_same (fun b hb => h b (List.mem_cons_of_mem _ hb))]
/-- one more has gone -/
theorem goneW_one {ws ws' : List Int} {a t : Int} (ht : t ≠ a) (hA : wayW ws' a = t) (hA2 : (headS ws' a).words = (headS ws a).words) (hA3 : wayW ws a = a) : ∀ {l : List Int}, l.Nodup → a ∈ l → (∀ b ∈ l, b ≠ a → wayW ws' b = wayW ws b ∧ (headS ws' b).words = (headS ws b).words) → goneW ws' l = goneW ws l + (headS ws a).words
  | [], _, h, _ => by cases h
  | b :: l, hn, hm, hs => by
    obtain ⟨hn1, hn2⟩ := List.nodup_cons.1 hn
    rw [goneW_cons, goneW_cons]
    by_cases e : b = a
    · subst e
      rw [hA, if_neg ht, hA3, if_pos rfl, hA2, goneW_same (fun c hc => hs c (List.mem_cons_of_mem _ hc) (fun e => hn1 (e ▸ hc)))]
      omega
    · have hm2 : a ∈ l := by
        rcases List.mem_cons.1 hm with h | h
        · exact absurd h.symm e
        · exact h
      obtain ⟨h1, h2⟩ := hs b (List.mem_cons_self ..) e
      rw [h1, h2, goneW_one ht hA hA2 hA3 hn2 hm2 (fun c hc => hs c (List.mem_cons_of_mem _ hc))]
      omega

/-- heads, ways and sums -/
structure Hds (s : CoreS) (cur oth : List Int) : Prop where
  par : s.parity = 0 ∨ s.parity = 1
  hdC : ∀ a ∈ cur, isHd (rd s.ws a) = true ∧ (headS s.ws a).old = false ∧ (headS s.ws a).noted = false ∧ wayW s.ws a = a
  hdO : ∀ a ∈ oth, isHd (rd s.ws a) = true ∧ (headS s.ws a).old = false ∧ (headS s.ws a).noted = false ∧ (wayW s.ws a = a ∨ wayW s.ws a ∈ cur ∨ (s.o.sizeAt (wayW s.ws a)).isSome = true)
  hdM : ∀ a, (s.o.sizeAt a).isSome = true → isHd (rd s.ws a) = true ∧ (headS s.ws a).old = true ∧ wayW s.ws a = a
  cp : s.copied = goneW s.ws oth
  rm : s.moving = true → s.y.ou - s.copied ≤ s.y.words - s.y.cu
  nm : s.moving = false → oth = []
  sc : s.moving = true → s.y.cf ≤ s.scan ∧ (s.scan = s.y.cf + s.y.cu ∨ s.scan ∈ cur)
  rl : 2 * (s.row.length : Int) ≤ s.copied
  ri : ∀ b ∈ s.row, 1 ≤ b ∧ b ≤ 1048576

def CardS.marked (c : CardS) (a : Int) : Bool := c.has a && c.marks.getD ((a - c.base) / c.card).toNat false
def CoreS.inNow (s : CoreS) (a : Int) : Prop := a ∈ s.r.nb.list ∨ s.r.nc.marked a = true
def CoreS.inThen (s : CoreS) (a : Int) : Prop := a ∈ s.r.tb.list ∨ s.r.tc.marked a = true
/-- what an object of the half that is filled may refer to -/
def RefC (s : CoreS) (cur oth : List Int) (a r : Int) : Prop := r = 0 ∨ InOld s r ∨ r ∈ cur ∨ (s.moving = true ∧ r ∈ oth ∧ s.scan ≤ a)
def RefO (s : CoreS) (oth : List Int) (r : Int) : Prop := r = 0 ∨ InOld s r ∨ r ∈ oth
/-- what an old one may; one of E is looked through just now -/
def RefM (s : CoreS) (cur oth : List Int) (E : Int → Prop) (a r : Int) : Prop := r = 0 ∨ InOld s r ∨ (r ∈ cur ∧ (E a ∨ (headS s.ws a).noted = true ∨ a ∈ s.row)) ∨ (s.moving = true ∧ r ∈ oth ∧ (E a ∨ a ∈ s.row ∨ ((headS s.ws a).noted = true ∧ s.inThen a)))
structure Refs (s : CoreS) (cur oth : List Int) (E F : Int → Prop) : Prop where
  rC : ∀ a ∈ cur, ∀ k : Int, 0 ≤ k → k < (headS s.ws a).ptrs → RefC s cur oth a (refS s.ws a k)
  rO : ∀ a ∈ oth, ∀ k : Int, 0 ≤ k → k < (headS s.ws a).ptrs → RefO s oth (refS s.ws a k)
  rM : ∀ a, (s.o.sizeAt a).isSome = true → ∀ k : Int, 0 ≤ k → k < (headS s.ws a).ptrs → RefM s cur oth E a (refS s.ws a k)
  nt : ∀ a, (s.o.sizeAt a).isSome = true → (headS s.ws a).noted = true → s.inNow a ∨ s.inThen a ∨ F a
  tn : s.moving = false → s.r.left = 0

/-- the buffers and cards are the old space's -/
structure RemOk (s : CoreS) : Prop where
  base : s.r.base = 1 + 2 * s.C.nursery
  ws : s.r.words = s.C.pages * s.C.page
  size : s.r.size = s.C.card
  most : s.r.most = s.C.buffer
  nc : s.r.nc.base = 1 + 2 * s.C.nursery ∧ s.r.nc.words = s.C.pages * s.C.page ∧ s.r.nc.card = s.C.card ∧ (s.r.nc.marks.length : Int) = CardS.many (s.C.pages * s.C.page) s.C.card
  tc : s.r.tc.base = 1 + 2 * s.C.nursery ∧ s.r.tc.words = s.C.pages * s.C.page ∧ s.r.tc.card = s.C.card ∧ (s.r.tc.marks.length : Int) = CardS.many (s.C.pages * s.C.page) s.C.card
  bi : ∀ x, x ∈ s.r.nb.list ∨ x ∈ s.r.tb.list → I64 x
  bm : s.r.nb.most = s.C.buffer ∧ s.r.tb.most = s.C.buffer ∧ (s.r.nb.list.length : Int) ≤ s.C.buffer ∧ (s.r.tb.list.length : Int) ≤ s.C.buffer
theorem RemOk.same {s s' : CoreS} (h : RemOk s) (hr : s'.r = s.r) (hC : s'.C = s.C) : RemOk s' := ⟨by rw [hr, hC]; exact h.base, by rw [hr, hC]; exact h.ws, by rw [hr, hC]; exact h.size, by rw [hr, hC]; exact h.most, by rw [hr, hC]; exact h.nc, by rw [hr, hC]; exact h.tc, by rw [hr]; exact h.bi, by rw [hr, hC]; exact h.bm⟩

/-- all of it -/
structure Inv (s : CoreS) (cur oth : List Int) (E F : Int → Prop) : Prop where
  lay : Lay s cur oth
  hds : Hds s cur oth
  refs : Refs s cur oth E F
  rem : RemOk s

theorem placed_other (s : CoreS) (n g : Int) : (s.placed n g).C = s.C ∧ (s.placed n g).r = s.r ∧ (s.placed n g).g = s.g ∧ (s.placed n g).t = s.t ∧ (s.placed n g).parity = s.parity ∧ (s.placed n g).phase = s.phase ∧ (s.placed n g).moving = s.moving ∧ (s.placed n g).scan = s.scan ∧ (s.placed n g).look = s.look := by
  unfold CoreS.placed
  split <;> exact ⟨rfl, rfl, rfl, rfl, rfl, rfl, rfl, rfl, rfl⟩
theorem moved_other (s : CoreS) (a : Int) : (s.moved a).C = s.C ∧ (s.moved a).r = s.r ∧ (s.moved a).g = s.g ∧ (s.moved a).t = s.t ∧ (s.moved a).parity = s.parity ∧ (s.moved a).phase = s.phase ∧ (s.moved a).moving = s.moving ∧ (s.moved a).scan = s.scan ∧ (s.moved a).look = s.look ∧
    (s.moved a).copied = wrap64 (s.copied + (headS s.ws a).words) ∧ (s.moved a).row = (if s.mvOld a then s.row ++ [s.mvTo a] else s.row) := by
  obtain ⟨h1, h2, h3, h4, h5, h6, h7, h8, h9⟩ := placed_other s (headS s.ws a).words (s.mvAge a)
  exact ⟨h1, h2, h3, h4, h5, h6, h7, h8, h9, rfl, rfl⟩

/-- a move of one that has not gone yet keeps all of it -/
theorem moved_inv {s : CoreS} {cur oth : List Int} {E F : Int → Prop} (I : Inv s cur oth E F) (hmv : s.moving = true) {a : Int} (ha : a ∈ oth) (hw : wayW s.ws a = a) :
    ∃ cur', MovedTo s cur oth a (s.moved a) cur' (s.mvTo a) ∧ Inv (s.moved a) cur' oth E F ∧ (∀ b ∈ cur, b ∈ cur') ∧ (s.mvTo a ∈ cur' ∨ ((s.moved a).o.sizeAt (s.mvTo a)).isSome = true) := by
  obtain ⟨l, H, R, RO⟩ := I
  obtain ⟨n1, n2, n3, n4, n5, n6, n7, n8, n9, n10⟩ := l.nums
  have hroomA := goneW_room l.ro ha hw
  have hcp := H.cp
  have hrm := H.rm hmv
  have hyw := l.yw
  have hgl := goneW_le l.ro
  obtain ⟨cur', M⟩ := moved_to l H.par ha (by unfold YoungS.room; omega)
  obtain ⟨o1, o2, o3, o4, o5, o6, o7, o8, o9, o10, o11⟩ := moved_other s a
  have hIa : IsO s cur oth a := .inr (.inl ha)
  have hta : s.mvTo a ≠ a := fun e => M.new (by rw [e]; exact hIa)
  have hC : ∀ b, InOld (s.moved a) b ↔ InOld s b := fun b => by unfold InOld; rw [o1, M.wl]
  have hcf : (s.moved a).y.cf = s.y.cf := by rw [M.y.1]; rfl
  have hof : (s.moved a).y.of = s.y.of := by rw [M.y.1]; rfl
  have hcur : ∀ b, b ∈ cur' ↔ b ∈ cur ∨ (s.mvOld a = false ∧ b = s.mvTo a) := by
    intro b
    rw [M.curE]
    cases hO : s.mvOld a <;> simp
  have hsz : ∀ b, (s.o.sizeAt b).isSome = true → (s.moved a).o.sizeAt b = s.o.sizeAt b := by
    intro b hb
    refine M.size b (.inl ?_)
    intro e
    exact M.new (.inr (.inr (e ▸ hb)))
  have hsz2 : ∀ b, ((s.moved a).o.sizeAt b).isSome = true → (s.o.sizeAt b).isSome = true ∨ (s.mvOld a = true ∧ b = s.mvTo a) := by
    intro b hb
    by_cases e : b = s.mvTo a
    · cases hO : s.mvOld a
      · rw [M.size b (.inr hO)] at hb
        exact .inl hb
      · exact .inr ⟨rfl, e⟩
    · rw [M.size b (.inl e)] at hb
      exact .inl hb
  have hno : ∀ b, (s.o.sizeAt b).isSome = true → b ≠ a := by
    intro b hb e
    have h1 := l.oldIn hb
    have h2 := l.othIn ha
    have := (words_bounds s.ws a).1
    omega
  have hnc : ∀ b, b ∈ cur → b ≠ a := by
    intro b hb e
    have h1 := l.curIn hb
    have h2 := l.othIn ha
    have := (words_bounds s.ws a).1
    rw [e] at h1
    omega
  have sm : ∀ b, IsO s cur oth b → b ≠ a → rd (s.moved a).ws b = rd s.ws b ∧ headS (s.moved a).ws b = headS s.ws b ∧ wayW (s.moved a).ws b = wayW s.ws b ∧ ∀ k : Int, 0 ≤ k → k < (headS s.ws b).ptrs → refS (s.moved a).ws b k = refS s.ws b k := by
    intro b hb hba
    have S := M.rest b hb hba
    obtain ⟨p1, p2, p3, p4⟩ := l.pos hb
    obtain ⟨b1, b2, b3, b4, b5⟩ := words_bounds s.ws b
    exact ⟨S b (by omega) (by omega), S.head (by omega), S.way (by omega) (by omega) p3, fun k k0 k1 => S.ref (by omega) p3 k0 (by omega) (by omega)⟩
  obtain ⟨pa1, pa2, pa3, pa4⟩ := l.pos hIa
  obtain ⟨b1, b2, b3, b4, b5⟩ := words_bounds s.ws a
  have refA : ∀ k : Int, 0 ≤ k → k < (headS s.ws a).ptrs → refS (s.moved a).ws a k = refS s.ws a k := by
    intro k k0 k1
    rw [refS_eq (by omega) pa3 k0 (by omega), refS_eq (by omega) pa3 k0 (by omega), M.fldA k k0 (by omega)]
  have refT : ∀ k : Int, 0 ≤ k → k < (headS s.ws a).ptrs → refS (s.moved a).ws (s.mvTo a) k = refS s.ws a k := by
    intro k k0 k1
    have := M.pos
    rw [refS_eq (by omega) M.pos.2 k0 (by omega), refS_eq (by omega) pa3 k0 (by omega), M.fldT k k0 (by omega)]
  obtain ⟨hg, hwx, hsx, hpx, hox, hnx⟩ := mvHd_good H.par a
  obtain ⟨hOa, hOa2, hOa3, _⟩ := H.hdO a ha
  have hgl0 : 0 ≤ s.copied := by rw [hcp]; exact hgl.1
  have hcop : (s.moved a).copied = s.copied + (headS s.ws a).words := by
    rw [o10]
    exact wrap_of ⟨by omega, by omega⟩
  have hcu : s.y.cu ≤ (s.moved a).y.cu := by
    rw [M.y.2.2]
    split <;> omega
  refine ⟨cur', M, ⟨M.lay, ?_, ?_, RO.same o2 o1⟩, ?_, ?_⟩
  · refine ⟨by rw [o5]; exact H.par, ?_, ?_, ?_, ?_, ?_, ?_, ?_, ?_, ?_⟩
    · intro b hb
      rcases (hcur b).1 hb with hb | ⟨hO, rfl⟩
      · obtain ⟨q1, q2, q3, _⟩ := sm b (.inl hb) (hnc b hb)
        rw [q1, q2, q3]
        exact H.hdC b hb
      · rw [M.hdT, hox, hnx, hO]
        exact ⟨M.okT, rfl, hOa3, M.wayT⟩
    · intro b hb
      by_cases e : b = a
      · subst e
        rw [M.rdA, M.hdA, M.wayA]
        refine ⟨hOa, hOa2, hOa3, .inr ?_⟩
        cases hO : s.mvOld b
        · exact .inl ((hcur _).2 (.inr ⟨hO, rfl⟩))
        · exact .inr (M.old hO).1
      · obtain ⟨q1, q2, q3, _⟩ := sm b (.inr (.inl hb)) e
        obtain ⟨r1, r2, r3, r4⟩ := H.hdO b hb
        rw [q1, q2, q3]
        refine ⟨r1, r2, r3, ?_⟩
        rcases r4 with r4 | r4 | r4
        · exact .inl r4
        · exact .inr (.inl ((hcur _).2 (.inl r4)))
        · exact .inr (.inr (by rw [hsz _ r4]; exact r4))
    · intro b hb
      rcases hsz2 b hb with hb | ⟨hO, rfl⟩
      · obtain ⟨q1, q2, q3, _⟩ := sm b (.inr (.inr hb)) (hno b hb)
        rw [q1, q2, q3]
        exact H.hdM b hb
      · rw [M.hdT, hox, hO]
        exact ⟨M.okT, rfl, M.wayT⟩
    · rw [hcop, hcp]
      refine (goneW_one hta M.wayA (by rw [M.hdA]) hw l.ro.nodup ha ?_).symm
      intro b hb hba
      obtain ⟨q1, q2, q3, _⟩ := sm b (.inr (.inl hb)) hba
      exact ⟨q3, by rw [q2]⟩
    · intro _
      have hr := hrm
      rw [M.y.2.1, hcop, M.y.2.2]
      have e1 : (s.moved a).y.words = s.y.words := by rw [M.y.1]
      rw [e1]
      split <;> omega
    · intro h
      rw [o7, hmv] at h
      cases h
    · intro _
      obtain ⟨c1, c2⟩ := H.sc hmv
      rw [o8, hcf]
      refine ⟨c1, ?_⟩
      rcases c2 with c2 | c2
      · cases hO : s.mvOld a
        · right
          rw [c2]
          exact (hcur _).2 (.inr ⟨hO, (M.yT hO).symm⟩)
        · left
          rw [M.y.2.2, hO]
          simpa using c2
      · exact .inr ((hcur _).2 (.inl c2))
    · rw [hcop, o11]
      have := H.rl
      split
      · simp only [List.length_append, List.length_cons, List.length_nil]
        omega
      · omega
    · intro b hb
      rw [o11] at hb
      split at hb
      · rcases List.mem_append.1 hb with hb | hb
        · exact H.ri b hb
        · rw [List.mem_singleton.1 hb]
          exact M.pos
      · exact H.ri b hb
  · have hrC : ∀ b r, RefC s cur oth b r → RefC (s.moved a) cur' oth b r := by
      intro b r h
      rcases h with h | h | h | ⟨h1, h2, h3⟩
      · exact .inl h
      · exact .inr (.inl ((hC r).2 h))
      · exact .inr (.inr (.inl ((hcur r).2 (.inl h))))
      · exact .inr (.inr (.inr ⟨by rw [o7]; exact h1, h2, by rw [o8]; exact h3⟩))
    have hrO : ∀ r, RefO s oth r → RefO (s.moved a) oth r := by
      intro r h
      rcases h with h | h | h
      · exact .inl h
      · exact .inr (.inl ((hC r).2 h))
      · exact .inr (.inr h)
    have hrow : ∀ b, b ∈ s.row → b ∈ (s.moved a).row := by
      intro b hb
      rw [o11]
      split
      · exact List.mem_append_left _ hb
      · exact hb
    have hThen : ∀ b, (s.moved a).inThen b ↔ s.inThen b := fun b => by unfold CoreS.inThen; rw [o2]
    have hNow : ∀ b, (s.moved a).inNow b ↔ s.inNow b := fun b => by unfold CoreS.inNow; rw [o2]
    refine ⟨?_, ?_, ?_, ?_, ?_⟩
    · intro b hb k k0 k1
      rcases (hcur b).1 hb with hb | ⟨hO, rfl⟩
      · obtain ⟨q1, q2, q3, q4⟩ := sm b (.inl hb) (hnc b hb)
        rw [q2] at k1
        rw [q4 k k0 k1]
        exact hrC b _ (R.rC b hb k k0 k1)
      · rw [M.hdT, hpx] at k1
        rw [refT k k0 k1]
        rcases R.rO a ha k k0 k1 with h | h | h
        · exact .inl h
        · exact .inr (.inl ((hC _).2 h))
        · refine .inr (.inr (.inr ⟨by rw [o7]; exact hmv, h, ?_⟩))
          rw [o8, M.yT hO]
          obtain ⟨c1, c2⟩ := H.sc hmv
          rcases c2 with c2 | c2
          · omega
          · have := l.curIn c2
            have := (words_bounds s.ws s.scan).1
            omega
    · intro b hb k k0 k1
      by_cases e : b = a
      · subst e
        rw [M.hdA] at k1
        rw [refA k k0 k1]
        exact hrO _ (R.rO b hb k k0 k1)
      · obtain ⟨q1, q2, q3, q4⟩ := sm b (.inr (.inl hb)) e
        rw [q2] at k1
        rw [q4 k k0 k1]
        exact hrO _ (R.rO b hb k k0 k1)
    · intro b hb k k0 k1
      rcases hsz2 b hb with hb | ⟨hO, rfl⟩
      · obtain ⟨q1, q2, q3, q4⟩ := sm b (.inr (.inr hb)) (hno b hb)
        rw [q2] at k1
        rw [q4 k k0 k1]
        unfold RefM
        rw [q2]
        rcases R.rM b hb k k0 k1 with h | h | ⟨h1, h2⟩ | ⟨h1, h2, h3⟩
        · exact .inl h
        · exact .inr (.inl ((hC _).2 h))
        · refine .inr (.inr (.inl ⟨(hcur _).2 (.inl h1), ?_⟩))
          rcases h2 with h2 | h2 | h2
          · exact .inl h2
          · exact .inr (.inl h2)
          · exact .inr (.inr (hrow _ h2))
        · refine .inr (.inr (.inr ⟨by rw [o7]; exact h1, h2, ?_⟩))
          rcases h3 with h3 | h3 | ⟨h3, h4⟩
          · exact .inl h3
          · exact .inr (.inl (hrow _ h3))
          · exact .inr (.inr ⟨h3, (hThen b).2 h4⟩)
      · rw [M.hdT, hpx] at k1
        rw [refT k k0 k1]
        rcases R.rO a ha k k0 k1 with h | h | h
        · exact .inl h
        · exact .inr (.inl ((hC _).2 h))
        · refine .inr (.inr (.inr ⟨by rw [o7]; exact hmv, h, .inr (.inl ?_)⟩))
          rw [o11, if_pos hO]
          simp
    · intro b hb hnb
      rcases hsz2 b hb with hb | ⟨hO, rfl⟩
      · obtain ⟨q1, q2, q3, q4⟩ := sm b (.inr (.inr hb)) (hno b hb)
        rw [q2] at hnb
        rcases R.nt b hb hnb with h | h
        · exact .inl ((hNow b).2 h)
        · exact .inr (h.elim (fun h => .inl ((hThen b).2 h)) .inr)
      · rw [M.hdT, hnx, hOa3] at hnb
        cases hnb
    · intro h
      rw [o7, hmv] at h
      cases h
  · intro b hb
    rw [M.curE]
    split
    · exact hb
    · exact List.mem_append_left _ hb
  · cases hO : s.mvOld a
    · left
      rw [M.curE, hO]
      simp
    · exact .inr (M.old hO).1

end Go.Proofs.YtjjdjipohifgbaaGreat

/- A move, whatever it is of, and a reference that is stored keep what is true of objects. No program in sight. Conditions: a core whose parts fit its configuration. -/
namespace Go.Proofs.YtjjdjipohifgbaaGreat
open Go.RowKit

/-- a place that may be moved -/
def OkRef (s : CoreS) (cur oth : List Int) (r : Int) : Prop := r = 0 ∨ InOld s r ∨ r ∈ cur ∨ r ∈ oth
/-- one that has left the half that is emptied -/
def NewRef (s : CoreS) (cur : List Int) (r : Int) : Prop := r = 0 ∨ InOld s r ∨ r ∈ cur

/-- what a move, whatever it is of, turned beside all that stays -/
structure MvRes (s : CoreS) (cur oth : List Int) (r : Int) (s' : CoreS) (cur' : List Int) (T : Int) : Prop where
  mono : ∀ b ∈ cur, b ∈ cur'
  res : NewRef s' cur' T
  same : ∀ b, b ∈ cur ∨ (s.o.sizeAt b).isSome = true → Same s.ws s'.ws b (headS s.ws b).words
  C : s'.C = s.C
  r : s'.r = s.r
  t : s'.t = s.t
  parity : s'.parity = s.parity
  phase : s'.phase = s.phase
  moving : s'.moving = s.moving
  scan : s'.scan = s.scan
  wl : s'.ws.length = s.ws.length
  old : ∀ b, (s.o.sizeAt b).isSome = true → s'.o.sizeAt b = s.o.sizeAt b
  row : ∀ b ∈ s.row, b ∈ s'.row

theorem Inv.mv {s : CoreS} {cur oth : List Int} {E F : Int → Prop} (I : Inv s cur oth E F) : s.Mv := by
  obtain ⟨l, H, R, _⟩ := I
  obtain ⟨n1, n2, n3, n4, n5, n6, n7, n8, n9, n10⟩ := l.nums
  have hgl := goneW_le l.ro
  have := H.cp
  have := H.rl
  exact ⟨l.ov.w16, H.par, by omega⟩
theorem Lay.not_zero {s : CoreS} {cur oth : List Int} (l : Lay s cur oth) {b : Int} (h : IsO s cur oth b) : b ≠ 0 := by
  have := (l.pos h).1
  omega
theorem Lay.now_oth {s : CoreS} {cur oth : List Int} (l : Lay s cur oth) {r : Int} (h : r ∈ oth) : s.now r = wayW s.ws r := by
  rw [CoreS.now, if_pos ⟨l.not_zero (.inr (.inl h)), l.from_oth h⟩]

theorem Inv.mvAt {s : CoreS} {cur oth : List Int} {E F : Int → Prop} (I : Inv s cur oth E F) (hmv : s.moving = true) {r : Int} (hr : OkRef s cur oth r) : s.MvAt r := by
  refine ⟨I.mv, fun hf hn => ?_⟩
  have hro : r ∈ oth := by
    rcases hr with h | h | h | h
    · rw [I.lay.from_old (.inr h)] at hf; cases hf
    · rw [I.lay.from_old (.inl h)] at hf; cases hf
    · rw [I.lay.from_not (.inl h)] at hf; cases hf
    · exact h
  rw [I.lay.now_oth hro] at hn
  obtain ⟨cur', M, _⟩ := moved_inv I hmv hro hn
  have := M.pos
  exact ⟨by omega, by omega⟩

theorem move_inv {s : CoreS} {cur oth : List Int} {E F : Int → Prop} (I : Inv s cur oth E F) (hmv : s.moving = true) {r : Int} (hr : OkRef s cur oth r) :
    ∃ cur', Inv (s.move r) cur' oth E F ∧ MvRes s cur oth r (s.move r) cur' (s.moveV r) := by
  have stay : r = 0 ∨ s.y.isFrom r = false → NewRef s cur r → ∃ cur', Inv (s.move r) cur' oth E F ∧ MvRes s cur oth r (s.move r) cur' (s.moveV r) := by
    intro h hn
    rw [CoreS.move, CoreS.moveV, if_pos h, if_pos h]
    exact ⟨cur, I, fun _ hb => hb, hn, fun _ _ _ _ _ => rfl, rfl, rfl, rfl, rfl, rfl, rfl, rfl, rfl, fun _ _ => rfl, fun _ hb => hb⟩
  rcases hr with h | h | h | h
  · exact stay (.inl h) (.inl h)
  · exact stay (.inr (I.lay.from_old (.inl h))) (.inr (.inl h))
  · exact stay (.inr (I.lay.from_not (.inl h))) (.inr (.inr h))
  · have h0 : ¬ (r = 0 ∨ s.y.isFrom r = false) := by
      rintro (h1 | h1)
      · exact I.lay.not_zero (.inr (.inl h)) h1
      · rw [I.lay.from_oth h] at h1; cases h1
    rw [CoreS.move, CoreS.moveV, if_neg h0, if_neg h0, I.lay.now_oth h]
    by_cases hw : wayW s.ws r = r
    · rw [if_pos hw, if_pos hw]
      obtain ⟨cur', M, I', hm, hT⟩ := moved_inv I hmv h hw
      obtain ⟨o1, o2, o3, o4, o5, o6, o7, o8, o9, o10, o11⟩ := moved_other s r
      refine ⟨cur', I', hm, ?_, ?_, o1, o2, o4, o5, o6, o7, o8, M.wl, ?_, ?_⟩
      · rcases hT with hT | hT
        · exact .inr (.inr hT)
        · exact .inr (.inl (I'.lay.old_range hT))
      · intro b hb
        have hbr : b ≠ r := by
          intro e
          have h1 := I.lay.othIn h
          have h3 := (words_bounds s.ws r).1
          obtain ⟨n1, n2, n3, n4, n5, n6, n7, n8, n9, n10⟩ := I.lay.nums
          rcases hb with hb | hb
          · have := I.lay.curIn hb
            rw [e] at this
            omega
          · have := I.lay.oldIn hb
            omega
        exact M.rest b (hb.elim .inl (fun h => .inr (.inr h))) hbr
      · intro b hb
        refine M.size b (.inl ?_)
        intro e
        exact M.new (.inr (.inr (e ▸ hb)))
      · intro b hb
        rw [o11]
        split
        · exact List.mem_append_left _ hb
        · exact hb
    · rw [if_neg hw, if_neg hw]
      refine ⟨cur, I, fun _ hb => hb, ?_, fun _ _ _ _ _ => rfl, rfl, rfl, rfl, rfl, rfl, rfl, rfl, rfl, fun _ _ => rfl, fun _ hb => hb⟩
      rcases (I.hds.hdO r h).2.2.2 with h1 | h1 | h1
      · exact absurd h1 hw
      · exact .inr (.inr h1)
      · exact .inr (.inl (I.lay.old_range h1))

theorem newRef_range {s : CoreS} {cur oth : List Int} (l : Lay s cur oth) {r : Int} (h : NewRef s cur r) : 0 ≤ r ∧ r ≤ 1048576 := by
  rcases h with h | h | h
  · omega
  · obtain ⟨n1, n2, n3, n4, n5, n6, n7, n8, n9, n10⟩ := l.nums
    have h1 := h.1
    have h2 := h.2
    omega
  · have := l.pos (.inl h)
    omega

/-- a reference that is stored into an object -/
theorem setRef_inv {s : CoreS} {cur oth : List Int} {E F : Int → Prop} (I : Inv s cur oth E F) {a k T : Int} (ha : a ∈ cur ∨ ((s.o.sizeAt a).isSome = true ∧ E a)) (k0 : 0 ≤ k) (k1 : k < (headS s.ws a).ptrs) (hT : NewRef s cur T) :
    Inv { s with ws := stW s.ws (place a k) (u64 T) } cur oth E F ∧ refS (stW s.ws (place a k) (u64 T)) a k = T ∧
    (∀ b, IsO s cur oth b → b ≠ a → Same s.ws (stW s.ws (place a k) (u64 T)) b (headS s.ws b).words) ∧ headS (stW s.ws (place a k) (u64 T)) a = headS s.ws a ∧ wayW (stW s.ws (place a k) (u64 T)) a = wayW s.ws a ∧
    (∀ j, 0 ≤ j → j < 64 → j ≠ k → rd (stW s.ws (place a k) (u64 T)) (a + 2 + j) = rd s.ws (a + 2 + j)) := by
  obtain ⟨l, H, R, RO⟩ := I
  have hI : IsO s cur oth a := ha.elim .inl (fun h => .inr (.inr h.1))
  obtain ⟨p1, p2, p3, p4⟩ := l.pos hI
  obtain ⟨b1, b2, b3, b4, b5⟩ := words_bounds s.ws a
  obtain ⟨t1, t2⟩ := newRef_range l hT
  have hpl : place a k = a + 2 + k := place_of (by omega) p3 k0 (by omega)
  rw [hpl, u64_of t1 (by omega)]
  have hrd := fun j => rd_st (ws := s.ws) (i := a + 2 + k) (by omega) (by omega) T j
  generalize hws : stW s.ws (a + 2 + k) T = ws' at *
  have hlen : ws'.length = s.ws.length := by rw [← hws, len_st]
  have rdA : rd ws' a = rd s.ws a := by rw [hrd, if_neg (by omega)]
  have hdA : headS ws' a = headS s.ws a := by rw [headS_eq, headS_eq, rdA]
  have wyA : wayW ws' a = wayW s.ws a := by rw [wayW_eq (by omega) p3, wayW_eq (by omega) p3, hrd, if_neg (by omega)]
  have rfA : refS ws' a k = T := by
    rw [refS_eq (by omega) p3 k0 (by omega), hrd, if_pos rfl]
    exact wrap_of ⟨by omega, by omega⟩
  have rfA2 : ∀ j, 0 ≤ j → j < 64 → j ≠ k → rd ws' (a + 2 + j) = rd s.ws (a + 2 + j) := by
    intro j _ _ hj
    rw [hrd, if_neg (by omega)]
  have rest : ∀ b, IsO s cur oth b → b ≠ a → Same s.ws ws' b (headS s.ws b).words := by
    intro b hb hba p q1 q2
    have := l.apart hb hI hba
    rw [hrd, if_neg (by omega)]
  have sm : ∀ b, IsO s cur oth b → rd ws' b = rd s.ws b ∧ headS ws' b = headS s.ws b ∧ wayW ws' b = wayW s.ws b ∧ ∀ j : Int, 0 ≤ j → j < (headS s.ws b).ptrs → (b ≠ a ∨ j ≠ k) → refS ws' b j = refS s.ws b j := by
    intro b hb
    by_cases e : b = a
    · subst e
      refine ⟨rdA, hdA, wyA, fun j j0 j1 hj => ?_⟩
      rcases hj with hj | hj
      · exact absurd rfl hj
      · rw [refS_eq (by omega) p3 j0 (by omega), refS_eq (by omega) p3 j0 (by omega), rfA2 j j0 (by omega) hj]
    · have S := rest b hb e
      obtain ⟨q1, q2, q3, q4⟩ := l.pos hb
      obtain ⟨c1, c2, c3, c4, c5⟩ := words_bounds s.ws b
      exact ⟨S b (by omega) (by omega), S.head (by omega), S.way (by omega) (by omega) q3, fun j j0 j1 _ => S.ref (by omega) q3 j0 (by omega) (by omega)⟩
  have hC : ∀ b, InOld { s with ws := ws' } b ↔ InOld s b := fun b => by unfold InOld; simp only [hlen]
  refine ⟨⟨⟨l.cf, l.ov, l.ob, l.ow, l.ol, l.f0, l.f1, l.yw, l.u0, l.u1, by rw [hlen]; exact l.wl, ?_, ?_, ?_⟩, ?_, ?_, RO.same rfl rfl⟩, rfA, rest, hdA, wyA, rfA2⟩
  · exact l.rc.frame fun b hb => by rw [(sm b (.inl hb)).2.1]
  · exact l.ro.frame fun b hb => by rw [(sm b (.inr (.inl hb))).2.1]
  · intro b z hz
    show z = cellOf s.o.words (headS ws' b).words
    rw [(sm b (.inr (.inr (by rw [hz]; rfl)))).2.1]
    exact l.fit b z hz
  · refine ⟨H.par, ?_, ?_, ?_, ?_, H.rm, H.nm, H.sc, H.rl, H.ri⟩
    · intro b hb
      obtain ⟨q1, q2, q3, _⟩ := sm b (.inl hb)
      show isHd (rd ws' b) = true ∧ (headS ws' b).old = false ∧ (headS ws' b).noted = false ∧ wayW ws' b = b
      rw [q1, q2, q3]
      exact H.hdC b hb
    · intro b hb
      obtain ⟨q1, q2, q3, _⟩ := sm b (.inr (.inl hb))
      show isHd (rd ws' b) = true ∧ (headS ws' b).old = false ∧ (headS ws' b).noted = false ∧ (wayW ws' b = b ∨ wayW ws' b ∈ cur ∨ (s.o.sizeAt (wayW ws' b)).isSome = true)
      rw [q1, q2, q3]
      exact H.hdO b hb
    · intro b hb
      obtain ⟨q1, q2, q3, _⟩ := sm b (.inr (.inr hb))
      show isHd (rd ws' b) = true ∧ (headS ws' b).old = true ∧ wayW ws' b = b
      rw [q1, q2, q3]
      exact H.hdM b hb
    · show s.copied = goneW ws' oth
      rw [H.cp]
      exact (goneW_same fun b hb => by obtain ⟨q1, q2, q3, _⟩ := sm b (.inr (.inl hb)); exact ⟨q3, by rw [q2]⟩).symm
  · have hno : ∀ b, b ∈ oth → b ≠ a := by
      intro b hb e
      have h1 := l.othIn hb
      have h2 := (words_bounds s.ws b).1
      obtain ⟨n1, n2, n3, n4, n5, n6, n7, n8, n9, n10⟩ := l.nums
      rcases ha with ha | ⟨ha, _⟩
      · have := l.curIn ha
        rw [e] at h1 h2
        omega
      · have := l.oldIn ha
        omega
    refine ⟨?_, ?_, ?_, ?_, R.tn⟩
    · intro b hb j j0 j1
      obtain ⟨q1, q2, q3, q4⟩ := sm b (.inl hb)
      have j1' : j < (headS ws' b).ptrs := j1
      rw [q2] at j1'
      show RefC { s with ws := ws' } cur oth b (refS ws' b j)
      by_cases hbk : b = a ∧ j = k
      · obtain ⟨rfl, rfl⟩ := hbk
        rw [rfA]
        rcases hT with h | h | h
        · exact .inl h
        · exact .inr (.inl ((hC _).2 h))
        · exact .inr (.inr (.inl h))
      · rw [q4 j j0 j1' (by
          by_cases e : b = a
          · exact .inr (fun h => hbk ⟨e, h⟩)
          · exact .inl e)]
        rcases R.rC b hb j j0 j1' with h | h | h | h
        · exact .inl h
        · exact .inr (.inl ((hC _).2 h))
        · exact .inr (.inr (.inl h))
        · exact .inr (.inr (.inr h))
    · intro b hb j j0 j1
      obtain ⟨q1, q2, q3, q4⟩ := sm b (.inr (.inl hb))
      have j1' : j < (headS ws' b).ptrs := j1
      rw [q2] at j1'
      show RefO { s with ws := ws' } oth (refS ws' b j)
      rw [q4 j j0 j1' (.inl (hno b hb))]
      rcases R.rO b hb j j0 j1' with h | h | h
      · exact .inl h
      · exact .inr (.inl ((hC _).2 h))
      · exact .inr (.inr h)
    · intro b hb j j0 j1
      obtain ⟨q1, q2, q3, q4⟩ := sm b (.inr (.inr hb))
      have j1' : j < (headS ws' b).ptrs := j1
      rw [q2] at j1'
      show RefM { s with ws := ws' } cur oth E b (refS ws' b j)
      unfold RefM
      show refS ws' b j = 0 ∨ InOld { s with ws := ws' } (refS ws' b j) ∨ (refS ws' b j ∈ cur ∧ (E b ∨ (headS ws' b).noted = true ∨ b ∈ s.row)) ∨ (s.moving = true ∧ refS ws' b j ∈ oth ∧ (E b ∨ b ∈ s.row ∨ ((headS ws' b).noted = true ∧ s.inThen b)))
      rw [hC, q2]
      by_cases hbk : b = a ∧ j = k
      · obtain ⟨rfl, rfl⟩ := hbk
        rw [rfA]
        have hbe : E b := by
          rcases ha with ha | ha
          · exfalso
            have h1 := l.curIn ha
            have h2 := l.oldIn hb
            obtain ⟨n1, n2, n3, n4, n5, n6, n7, n8, n9, n10⟩ := l.nums
            omega
          · exact ha.2
        rcases hT with h | h | h
        · exact .inl h
        · exact .inr (.inl h)
        · exact .inr (.inr (.inl ⟨h, .inl hbe⟩))
      · rw [q4 j j0 j1' (by
          by_cases e : b = a
          · exact .inr (fun h => hbk ⟨e, h⟩)
          · exact .inl e)]
        exact R.rM b hb j j0 j1'
    · intro b hb hnb
      obtain ⟨q1, q2, q3, q4⟩ := sm b (.inr (.inr hb))
      have hnb' : (headS ws' b).noted = true := hnb
      rw [q2] at hnb'
      exact R.nt b hb hnb'

end Go.Proofs.YtjjdjipohifgbaaGreat

/- Every reference of an object leaves the half that is emptied; what stays true. No program in sight. Conditions: a core whose parts fit its configuration. -/
namespace Go.Proofs.YtjjdjipohifgbaaGreat
open Go.RowKit

section
variable {s : CoreS} {cur oth : List Int} {E F : Int → Prop}
/-- an object that lies in the half that is filled is not one of the old part's places -/
theorem Lay.cur_old (l : Lay s cur oth) {r : Int} (h : r ∈ cur) : ¬ (r = 0 ∨ InOld s r) := by
  rintro (h0 | h0)
  · exact l.not_zero (.inl h) h0
  · have h1 := l.curIn h
    have h2 := (words_bounds s.ws r).1
    have h3 := h0.1
    obtain ⟨n1, n2, n3, n4, n5, n6, n7, n8, n9, n10⟩ := l.nums
    omega
theorem NewRef.okRef {r : Int} (h : NewRef s cur r) : OkRef s cur oth r := by
  rcases h with h | h | h
  · exact .inl h
  · exact .inr (.inl h)
  · exact .inr (.inr (.inl h))
theorem NewRef.isIn (l : Lay s cur oth) {r : Int} (h : NewRef s cur r) : s.y.isIn r = true ↔ r ∈ cur := by
  constructor
  · intro hi
    rcases h with h | h | h
    · rw [l.in_not (.inr (.inr h))] at hi; cases hi
    · rw [l.in_not (.inr (.inl h))] at hi; cases hi
    · exact h
  · exact l.in_cur
theorem NewRef.mono {s' : CoreS} {cur' : List Int} (h1 : s'.C = s.C) (h2 : s'.ws.length = s.ws.length) (hm : ∀ b ∈ cur, b ∈ cur') {r : Int} (h : NewRef s cur r) : NewRef s' cur' r := by
  rcases h with h | h | h
  · exact .inl h
  · exact .inr (.inl (by unfold InOld at h ⊢; rw [h1, h2]; exact h))
  · exact .inr (.inr (hm r h))
/-- one that may be looked through -/
def Looked (s : CoreS) (cur : List Int) (E : Int → Prop) (a : Int) : Prop := a ∈ cur ∨ ((s.o.sizeAt a).isSome = true ∧ E a)
theorem Looked.isO {a : Int} (h : Looked s cur E a) : a ∈ cur ∨ (s.o.sizeAt a).isSome = true := h.elim .inl (fun h => .inr h.1)
theorem Inv.okRef (I : Inv s cur oth E F) {a : Int} (ha : Looked s cur E a) {k : Int} (k0 : 0 ≤ k) (k1 : k < (headS s.ws a).ptrs) : OkRef s cur oth (refS s.ws a k) := by
  rcases ha with ha | ⟨ha, _⟩
  · rcases I.refs.rC a ha k k0 k1 with h | h | h | ⟨_, h, _⟩
    · exact .inl h
    · exact .inr (.inl h)
    · exact .inr (.inr (.inl h))
    · exact .inr (.inr (.inr h))
  · rcases I.refs.rM a ha k k0 k1 with h | h | ⟨h, _⟩ | ⟨_, h, _⟩
    · exact .inl h
    · exact .inr (.inl h)
    · exact .inr (.inr (.inl h))
    · exact .inr (.inr (.inr h))
end

/-- what the first j references of an object come to -/
structure ThrRes (s : CoreS) (cur oth : List Int) (E F : Int → Prop) (a : Int) (j : Nat) (s' : CoreS) (cur' : List Int) (y : Bool) : Prop where
  inv : Inv s' cur' oth E F
  mono : ∀ b ∈ cur, b ∈ cur'
  C : s'.C = s.C
  r : s'.r = s.r
  t : s'.t = s.t
  parity : s'.parity = s.parity
  phase : s'.phase = s.phase
  moving : s'.moving = s.moving
  scan : s'.scan = s.scan
  wl : s'.ws.length = s.ws.length
  old : ∀ b, (s.o.sizeAt b).isSome = true → s'.o.sizeAt b = s.o.sizeAt b
  row : ∀ b ∈ s.row, b ∈ s'.row
  hd : rd s'.ws a = rd s.ws a
  same : ∀ b, b ∈ cur ∨ (s.o.sizeAt b).isSome = true → b ≠ a → Same s.ws s'.ws b (headS s.ws b).words
  done : ∀ k : Nat, k < j → NewRef s' cur' (refS s'.ws a k)
  left : ∀ k : Int, j ≤ k → k < (headS s.ws a).ptrs → refS s'.ws a k = refS s.ws a k
  scal : ∀ k : Int, (headS s.ws a).ptrs ≤ k → k < (headS s.ws a).size → rd s'.ws (a + 2 + k) = rd s.ws (a + 2 + k)
  yes : y = true ↔ ∃ k : Nat, k < j ∧ refS s'.ws a k ∈ cur'

theorem ThrRes.head {s : CoreS} {cur oth : List Int} {E F : Int → Prop} {a : Int} {j : Nat} {s' : CoreS} {cur' : List Int} {y : Bool} (h : ThrRes s cur oth E F a j s' cur' y) : headS s'.ws a = headS s.ws a := by
  rw [headS_eq, headS_eq, h.hd]

theorem thrOne_res {s : CoreS} {cur oth : List Int} {E F : Int → Prop} (I : Inv s cur oth E F) (hmv : s.moving = true) {a : Int} (ha : Looked s cur E a) {k : Nat} (hk : (k : Int) < (headS s.ws a).ptrs) :
    ∃ cur', Inv (s.thrOne a k) cur' oth E F ∧ MvRes s cur oth (refS s.ws a k) (s.move (refS s.ws a k)) cur' (s.moveV (refS s.ws a k)) ∧
    (s.thrOne a k).C = s.C ∧ (s.thrOne a k).r = s.r ∧ (s.thrOne a k).t = s.t ∧ (s.thrOne a k).parity = s.parity ∧ (s.thrOne a k).phase = s.phase ∧ (s.thrOne a k).moving = s.moving ∧ (s.thrOne a k).scan = s.scan ∧ (s.thrOne a k).ws.length = s.ws.length ∧
    (∀ b, (s.o.sizeAt b).isSome = true → (s.thrOne a k).o.sizeAt b = s.o.sizeAt b) ∧ (∀ b ∈ s.row, b ∈ (s.thrOne a k).row) ∧ rd (s.thrOne a k).ws a = rd s.ws a ∧
    (∀ b, b ∈ cur ∨ (s.o.sizeAt b).isSome = true → b ≠ a → Same s.ws (s.thrOne a k).ws b (headS s.ws b).words) ∧
    refS (s.thrOne a k).ws a k = s.moveV (refS s.ws a k) ∧ (∀ j : Int, 0 ≤ j → j < (headS s.ws a).size → j ≠ k → rd (s.thrOne a k).ws (a + 2 + j) = rd s.ws (a + 2 + j)) ∧
    (s.thrOne a k).y = (s.move (refS s.ws a k)).y := by
  obtain ⟨cur', I1, M⟩ := move_inv I hmv (I.okRef ha (by omega) hk)
  have hI : IsO s cur oth a := ha.elim .inl (fun h => .inr (.inr h.1))
  obtain ⟨p1, p2, p3, p4⟩ := I.lay.pos hI
  obtain ⟨b1, b2, b3, b4, b5⟩ := words_bounds s.ws a
  have SA := M.same a ha.isO
  have hdA : headS (s.move (refS s.ws a k)).ws a = headS s.ws a := SA.head (by omega)
  have rdA : rd (s.move (refS s.ws a k)).ws a = rd s.ws a := SA a (by omega) (by omega)
  have fld : ∀ j : Int, 0 ≤ j → j < (headS s.ws a).size → rd (s.move (refS s.ws a k)).ws (a + 2 + j) = rd s.ws (a + 2 + j) := fun j j0 j1 => SA _ (by omega) (by omega)
  unfold CoreS.thrOne
  by_cases hq : s.moveV (refS s.ws a k) = refS s.ws a k
  · rw [if_pos hq]
    exact ⟨cur', I1, M, M.C, M.r, M.t, M.parity, M.phase, M.moving, M.scan, M.wl, M.old, M.row, rdA, fun b hb _ => M.same b hb, (SA.ref (by omega) p3 (by omega) (by omega) (by omega)).trans hq.symm, fun j j0 j1 _ => fld j j0 j1, rfl⟩
  · rw [if_neg hq]
    have ha1 : Looked (s.move (refS s.ws a k)) cur' E a := by
      rcases ha with h | ⟨h, h2⟩
      · exact .inl (M.mono a h)
      · exact .inr ⟨by rw [M.old a h]; exact h, h2⟩
    obtain ⟨I2, r1, r2, r3, r4, r5⟩ := setRef_inv (k := (k : Int)) I1 ha1 (by omega) (by rw [hdA]; exact hk) M.res
    have hI1 : ∀ b, b ∈ cur ∨ (s.o.sizeAt b).isSome = true → IsO (s.move (refS s.ws a k)) cur' oth b := by
      intro b hb
      rcases hb with h | h
      · exact .inl (M.mono b h)
      · exact .inr (.inr (by rw [M.old b h]; exact h))
    refine ⟨cur', I2, M, M.C, M.r, M.t, M.parity, M.phase, M.moving, M.scan, ?_, M.old, M.row, ?_, ?_, r1, ?_, rfl⟩
    · show (stW _ _ _).length = _
      rw [len_st]
      exact M.wl
    · have e1 : place a (k : Int) = a + 2 + k := place_of (by omega) p3 (by omega) (by omega)
      have hl := M.wl
      show rd (stW _ (place a k) _) a = _
      obtain ⟨t1, t2⟩ := newRef_range I1.lay M.res
      rw [e1, u64_of t1 (by omega), rd_st (by omega) (by omega), if_neg (by omega)]
      exact rdA
    · intro b hb hba p q1 q2
      have h1 := r2 b (hI1 b hb) hba p q1 (by rw [(M.same b hb).head (by have := (words_bounds s.ws b).1; omega)]; exact q2)
      exact h1.trans (M.same b hb p q1 q2)
    · intro j j0 j1 jk
      exact (r5 j j0 (by omega) jk).trans (fld j j0 j1)

theorem thr_inv {s : CoreS} {cur oth : List Int} {E F : Int → Prop} (I : Inv s cur oth E F) (hmv : s.moving = true) {a : Int} (ha : Looked s cur E a) : ∀ j : Nat, (j : Int) ≤ (headS s.ws a).ptrs →
    ∃ cur', ThrRes s cur oth E F a j (s.thr a j) cur' (s.thrYoung a j)
  | 0, _ => ⟨cur, I, fun _ h => h, rfl, rfl, rfl, rfl, rfl, rfl, rfl, rfl, fun _ _ => rfl, fun _ h => h, rfl, fun _ _ _ _ _ _ => rfl, fun _ h => absurd h (by omega), fun _ _ _ => rfl, fun _ _ _ => rfl, ⟨fun h => (by cases h), fun ⟨k, h, _⟩ => absurd h (by omega)⟩⟩
  | j + 1, hj => by
    obtain ⟨c1, R⟩ := thr_inv I hmv ha j (by omega)
    have ha1 : Looked (s.thr a j) c1 E a := by
      rcases ha with h | ⟨h, h2⟩
      · exact .inl (R.mono a h)
      · exact .inr ⟨by rw [R.old a h]; exact h, h2⟩
    have hd := R.head
    have hI : IsO s cur oth a := ha.elim .inl (fun h => .inr (.inr h.1))
    obtain ⟨p1, p2, p3, p4⟩ := I.lay.pos hI
    obtain ⟨b1, b2, b3, b4, b5⟩ := words_bounds s.ws a
    obtain ⟨c2, I2, M, o1, o2, o3, o4, o5, o6, o7, o8, o9, o10, o11, o12, o13, o14, o15⟩ := thrOne_res R.inv (R.moving.trans hmv) ha1 (k := j) (by rw [hd]; omega)
    rw [hd] at o14
    have hsame : ∀ k : Int, 0 ≤ k → k < (headS s.ws a).ptrs → k ≠ j → refS ((s.thr a j).thrOne a j).ws a k = refS (s.thr a j).ws a k := by
      intro k k0 k1 kj
      rw [refS_eq (by omega) p3 k0 (by omega), refS_eq (by omega) p3 k0 (by omega), o14 k k0 (by omega) kj]
    have hres : NewRef ((s.thr a j).thrOne a j) c2 ((s.thr a j).moveV (refS (s.thr a j).ws a j)) := by
      refine NewRef.mono ?_ ?_ (fun _ h => h) M.res
      · rw [o1, M.C]
      · rw [o8, M.wl]
    have hdone : ∀ k : Nat, k < j + 1 → NewRef ((s.thr a j).thrOne a j) c2 (refS ((s.thr a j).thrOne a j).ws a k) := by
      intro k hk
      by_cases e1 : k = j
      · subst e1
        rw [o13]
        exact hres
      · rw [hsame k (by omega) (by omega) (by omega)]
        exact NewRef.mono o1 o8 M.mono (R.done k (by omega))
    refine ⟨c2, I2, fun b h => M.mono b (R.mono b h), o1.trans R.C, o2.trans R.r, o3.trans R.t, o4.trans R.parity, o5.trans R.phase, o6.trans R.moving, o7.trans R.scan, o8.trans R.wl, ?_, fun b h => o10 b (R.row b h), o11.trans R.hd, ?_, hdone, ?_, ?_, ?_⟩
    · intro b hb
      exact (o9 b (by rw [R.old b hb]; exact hb)).trans (R.old b hb)
    · intro b hb hba p q1 q2
      have S := R.same b hb hba
      refine (o12 b (hb.elim (fun h => .inl (R.mono b h)) (fun h => .inr (by rw [R.old b h]; exact h))) hba p q1 ?_).trans (S p q1 q2)
      rw [S.head (by have := (words_bounds s.ws b).1; omega)]
      exact q2
    · intro k k0 k1
      rw [show s.thr a (j + 1) = (s.thr a j).thrOne a j from rfl, hsame k (by omega) k1 (by omega)]
      exact R.left k (by omega) k1
    · intro k k0 k1
      exact (o14 k (by omega) k1 (by omega)).trans (R.scal k k0 k1)
    · show (s.thrYoung a j || (s.thr a j).thrIn a j) = true ↔ ∃ k : Nat, k < j + 1 ∧ refS ((s.thr a j).thrOne a j).ws a k ∈ c2
      rw [Bool.or_eq_true, R.yes]
      have hin : (s.thr a j).thrIn a j = true ↔ (s.thr a j).moveV (refS (s.thr a j).ws a j) ∈ c2 := hres.isIn I2.lay
      rw [hin]
      constructor
      · rintro (⟨k, k1, k2⟩ | h)
        · refine ⟨k, by omega, ?_⟩
          rw [hsame k (by omega) (by omega) (by omega)]
          exact M.mono _ k2
        · exact ⟨j, by omega, by rw [o13]; exact h⟩
      · rintro ⟨k, k1, k2⟩
        by_cases e1 : k = j
        · subst e1
          rw [o13] at k2
          exact .inr k2
        · refine .inl ⟨k, by omega, ?_⟩
          rw [hsame k (by omega) (by omega) (by omega)] at k2
          rcases R.done k (by omega) with h | h | h
          · exact absurd (.inl h) (I2.lay.cur_old k2)
          · refine absurd (.inr ?_) (I2.lay.cur_old k2)
            unfold InOld at h ⊢
            rw [o1, o8]
            exact h
          · exact h

theorem thr_ok {s : CoreS} {cur oth : List Int} {E F : Int → Prop} (I : Inv s cur oth E F) (hmv : s.moving = true) {a : Int} (ha : Looked s cur E a) : s.ThrOk a := by
  intro k hk
  unfold CoreS.ptrsOf at hk
  obtain ⟨c1, R⟩ := thr_inv I hmv ha k (by omega)
  refine R.inv.mvAt (R.moving.trans hmv) (cur := c1) (oth := oth) ?_
  refine R.inv.okRef ?_ (by omega) (by rw [R.head]; omega)
  rcases ha with h | ⟨h, h2⟩
  · exact .inl (R.mono a h)
  · exact .inr ⟨by rw [R.old a h]; exact h, h2⟩

end Go.Proofs.YtjjdjipohifgbaaGreat

/- A head that is stored into an old object, a note, and the look through an object keep what is true of objects. No program in sight. Conditions: a core whose parts fit its configuration. -/
namespace Go.Proofs.YtjjdjipohifgbaaGreat
open Go.RowKit

/-- a head is stored into an old object -/
structure SetHd (s : CoreS) (cur oth : List Int) (a : Int) (x : Hd) (ws' : List Int) : Prop where
  len : ws'.length = s.ws.length
  hd : ∀ b, IsO s cur oth b → headS ws' b = if b = a then x else headS s.ws b
  ok : ∀ b, IsO s cur oth b → isHd (rd s.ws b) = true → isHd (rd ws' b) = true
  way : ∀ b, IsO s cur oth b → wayW ws' b = wayW s.ws b
  fld : ∀ b, IsO s cur oth b → ∀ k : Int, 0 ≤ k → k < (headS s.ws b).size → rd ws' (b + 2 + k) = rd s.ws (b + 2 + k)
  ref : ∀ b, IsO s cur oth b → ∀ k : Int, 0 ≤ k → k < (headS s.ws b).ptrs → refS ws' b k = refS s.ws b k

theorem setHd {s : CoreS} {cur oth : List Int} (l : Lay s cur oth) (H : Hds s cur oth) {a : Int} (ha : (s.o.sizeAt a).isSome = true) {x : Hd} (hg : x.Good) (hs : x.size = (headS s.ws a).size) (ho : x.old = true) :
    SetHd s cur oth a x (stW s.ws a x.enc) ∧ (∀ r', Lay { s with ws := stW s.ws a x.enc, r := r' } cur oth ∧ Hds { s with ws := stW s.ws a x.enc, r := r' } cur oth) := by
  have hI : IsO s cur oth a := .inr (.inr ha)
  obtain ⟨p1, p2, p3, p4⟩ := l.pos hI
  obtain ⟨b1, b2, b3, b4, b5⟩ := words_bounds s.ws a
  have hrd := fun j => rd_st (ws := s.ws) (i := a) (by omega) (by omega) x.enc j
  generalize hws : stW s.ws a x.enc = ws' at *
  have hlen : ws'.length = s.ws.length := by rw [← hws, len_st]
  have hno : ∀ b, b ∈ cur ∨ b ∈ oth → b ≠ a := by
    intro b hb e
    have h1 := l.old_range ha
    have h2 := (words_bounds s.ws b).1
    have h3 := h1.1
    obtain ⟨n1, n2, n3, n4, n5, n6, n7, n8, n9, n10⟩ := l.nums
    rcases hb with hb | hb
    · have := l.curIn hb; omega
    · have := l.othIn hb; omega
  have K : SetHd s cur oth a x ws' := by
    refine ⟨hlen, ?_, ?_, ?_, ?_, ?_⟩
    · intro b hb
      by_cases e : b = a
      · rw [if_pos e, e, headS_eq, hrd, if_pos rfl, unH_enc hg]
      · rw [if_neg e, headS_eq, headS_eq, hrd, if_neg e]
    · intro b hb hh
      by_cases e : b = a
      · rw [e, hrd, if_pos rfl]
        exact isHd_enc hg
      · rw [hrd, if_neg e]
        exact hh
    · intro b hb
      obtain ⟨q1, q2, q3, q4⟩ := l.pos hb
      obtain ⟨c1, c2, c3, c4, c5⟩ := words_bounds s.ws b
      rw [wayW_eq (by omega) q3, wayW_eq (by omega) q3, hrd, if_neg ?_]
      by_cases e : b = a
      · omega
      · have := l.apart hb hI e
        omega
    · intro b hb k k0 k1
      obtain ⟨q1, q2, q3, q4⟩ := l.pos hb
      obtain ⟨c1, c2, c3, c4, c5⟩ := words_bounds s.ws b
      rw [hrd, if_neg ?_]
      by_cases e : b = a
      · omega
      · have := l.apart hb hI e
        omega
    · intro b hb k k0 k1
      obtain ⟨q1, q2, q3, q4⟩ := l.pos hb
      obtain ⟨c1, c2, c3, c4, c5⟩ := words_bounds s.ws b
      rw [refS_eq (by omega) q3 k0 (by omega), refS_eq (by omega) q3 k0 (by omega), hrd, if_neg ?_]
      by_cases e : b = a
      · omega
      · have := l.apart hb hI e
        omega
  have hw : ∀ b, IsO s cur oth b → (headS ws' b).words = (headS s.ws b).words := by
    intro b hb
    rw [K.hd b hb]
    split
    · rename_i e
      rw [e]
      show x.size + 2 = (headS s.ws a).size + 2
      rw [hs]
    · rfl
  refine ⟨K, fun r' => ⟨⟨l.cf, l.ov, l.ob, l.ow, l.ol, l.f0, l.f1, l.yw, l.u0, l.u1, by rw [hlen]; exact l.wl, ?_, ?_, ?_⟩, ⟨H.par, ?_, ?_, ?_, ?_, H.rm, H.nm, H.sc, H.rl, H.ri⟩⟩⟩
  · exact l.rc.frame fun b hb => hw b (.inl hb)
  · exact l.ro.frame fun b hb => hw b (.inr (.inl hb))
  · intro b z hz
    show z = cellOf s.o.words (headS ws' b).words
    rw [hw b (.inr (.inr (by rw [hz]; rfl)))]
    exact l.fit b z hz
  · intro b hb
    show isHd (rd ws' b) = true ∧ (headS ws' b).old = false ∧ (headS ws' b).noted = false ∧ wayW ws' b = b
    have hb2 : IsO s cur oth b := .inl hb
    obtain ⟨h1, h2, h3, h4⟩ := H.hdC b hb
    rw [K.hd b hb2, if_neg (hno b (.inl hb)), K.way b hb2]
    exact ⟨K.ok b hb2 h1, h2, h3, h4⟩
  · intro b hb
    show isHd (rd ws' b) = true ∧ (headS ws' b).old = false ∧ (headS ws' b).noted = false ∧ (wayW ws' b = b ∨ wayW ws' b ∈ cur ∨ (s.o.sizeAt (wayW ws' b)).isSome = true)
    have hb2 : IsO s cur oth b := .inr (.inl hb)
    obtain ⟨h1, h2, h3, h4⟩ := H.hdO b hb
    rw [K.hd b hb2, if_neg (hno b (.inr hb)), K.way b hb2]
    exact ⟨K.ok b hb2 h1, h2, h3, h4⟩
  · intro b hb
    show isHd (rd ws' b) = true ∧ (headS ws' b).old = true ∧ wayW ws' b = b
    have hb2 : IsO s cur oth b := .inr (.inr hb)
    obtain ⟨h1, h2, h3⟩ := H.hdM b hb
    rw [K.hd b hb2, K.way b hb2]
    refine ⟨K.ok b hb2 h1, ?_, h3⟩
    split
    · exact ho
    · exact h2
  · show s.copied = goneW ws' oth
    rw [H.cp]
    exact (goneW_same fun b hb => ⟨K.way b (.inr (.inl hb)), hw b (.inr (.inl hb))⟩).symm

theorem getD_set_true {l : List Bool} {i j : Nat} (h : l.getD i false = true) : (l.set j true).getD i false = true := by
  simp only [List.getD_eq_getElem?_getD] at h ⊢
  rw [List.getElem?_set]
  split
  · rename_i e
    subst e
    split
    · rfl
    · rename_i hh
      rw [List.getElem?_eq_none (by omega)] at h
      exact h
  · exact h
theorem getD_set_here {l : List Bool} {j : Nat} (h : j < l.length) : (l.set j true).getD j false = true := by
  simp [List.getD_eq_getElem?_getD, List.getElem?_set, h]

theorem CardS.mark_marked (c : CardS) (i b : Int) (h : c.marked b = true) : (c.mark i).marked b = true := by
  unfold CardS.mark
  split
  · unfold CardS.marked at h ⊢
    rw [Bool.and_eq_true] at h ⊢
    exact ⟨h.1, getD_set_true h.2⟩
  · exact h
theorem CardS.mark_same (c : CardS) (i : Int) : (c.mark i).base = c.base ∧ (c.mark i).words = c.words ∧ (c.mark i).card = c.card ∧ (c.mark i).marks.length = c.marks.length := by
  unfold CardS.mark
  split <;> simp
theorem CardS.mark_here (c : CardS) (i : Int) (h : c.has i = true) (h1 : 1 ≤ c.card) (hl : (c.marks.length : Int) = CardS.many c.words c.card) : (c.mark i).marked i = true := by
  have hh := h
  unfold CardS.has at hh
  rw [decide_eq_true_eq] at hh
  obtain ⟨d0, d1⟩ := div_lt_many (x := i - c.base) (by omega) hh.2 h1
  unfold CardS.mark
  rw [if_pos h]
  unfold CardS.marked
  rw [Bool.and_eq_true]
  exact ⟨h, getD_set_here (by omega)⟩

theorem add_same (r : RemS) (i : Int) : (r.add i).base = r.base ∧ (r.add i).words = r.words ∧ (r.add i).size = r.size ∧ (r.add i).most = r.most ∧ (r.add i).tb = r.tb ∧ (r.add i).tc = r.tc ∧
    (r.add i).nc.base = r.nc.base ∧ (r.add i).nc.words = r.nc.words ∧ (r.add i).nc.card = r.nc.card ∧ (r.add i).nc.marks.length = r.nc.marks.length := by
  unfold RemS.add
  split
  · split
    · obtain ⟨h1, h2, h3, h4⟩ := CardS.mark_same r.nc i
      exact ⟨rfl, rfl, rfl, rfl, rfl, rfl, h1, h2, h3, h4⟩
    · exact ⟨rfl, rfl, rfl, rfl, rfl, rfl, rfl, rfl, rfl, rfl⟩
  · exact ⟨rfl, rfl, rfl, rfl, rfl, rfl, rfl, rfl, rfl, rfl⟩

theorem RemOk.add {s : CoreS} (h : RemOk s) (i : Int) (hi : I64 i) (ws' : List Int) : RemOk { s with ws := ws', r := s.r.add i } := by
  obtain ⟨a1, a2, a3, a4, a5, a6, a7, a8, a9, a10⟩ := add_same s.r i
  obtain ⟨c1, c2, c3, c4⟩ := h.nc
  refine ⟨a1.trans h.base, a2.trans h.ws, a3.trans h.size, a4.trans h.most, ⟨a7.trans c1, a8.trans c2, a9.trans c3, ?_⟩, ?_, ?_, ?_⟩
  · show ((s.r.add i).nc.marks.length : Int) = _
    rw [a10]
    exact c4
  · show (s.r.add i).tc.base = _ ∧ (s.r.add i).tc.words = _ ∧ (s.r.add i).tc.card = _ ∧ ((s.r.add i).tc.marks.length : Int) = _
    rw [a6]
    exact h.tc
  · intro x hx
    have hx' : x ∈ (s.r.add i).nb.list ∨ x ∈ (s.r.add i).tb.list := hx
    rw [a5] at hx'
    rcases hx' with hx | hx
    · unfold RemS.add at hx
      split at hx
      · split at hx
        · exact h.bi x (.inl hx)
        · have hx2 : x ∈ (s.r.nb.put i).list := hx
          unfold BufS.put at hx2
          split at hx2
          · exact h.bi x (.inl hx2)
          · rcases List.mem_append.1 hx2 with hx | hx
            · exact h.bi x (.inl hx)
            · rw [List.mem_singleton.1 hx]
              exact hi
      · exact h.bi x (.inl hx)
    · exact h.bi x (.inr hx)
  · show (s.r.add i).nb.most = s.C.buffer ∧ (s.r.add i).tb.most = s.C.buffer ∧ ((s.r.add i).nb.list.length : Int) ≤ s.C.buffer ∧ ((s.r.add i).tb.list.length : Int) ≤ s.C.buffer
    obtain ⟨m1, m2, m3, m4⟩ := h.bm
    rw [a5]
    unfold RemS.add
    split
    · split
      · exact ⟨m1, m2, m3, m4⟩
      · show (s.r.nb.put i).most = s.C.buffer ∧ s.r.tb.most = s.C.buffer ∧ ((s.r.nb.put i).list.length : Int) ≤ s.C.buffer ∧ (s.r.tb.list.length : Int) ≤ s.C.buffer
        unfold BufS.put
        split
        · exact ⟨m1, m2, m3, m4⟩
        · rename_i hf
          refine ⟨m1, m2, ?_, m4⟩
          unfold BufS.full at hf
          simp only [decide_eq_true_eq] at hf
          show ((s.r.nb.list ++ [i]).length : Int) ≤ s.C.buffer
          rw [List.length_append]
          simp only [List.length_cons, List.length_nil]
          omega
    · exact ⟨m1, m2, m3, m4⟩
theorem inNow_add {s s' : CoreS} {i b : Int} (e : s'.r = s.r.add i) (h : s.inNow b) : s'.inNow b := by
  unfold CoreS.inNow at h ⊢
  rw [e]
  unfold RemS.add
  split
  · split
    · rcases h with h | h
      · exact .inl h
      · exact .inr (CardS.mark_marked _ _ _ h)
    · rcases h with h | h
      · refine .inl ?_
        show b ∈ (s.r.nb.put i).list
        unfold BufS.put
        split
        · exact h
        · exact List.mem_append_left _ h
      · exact .inr h
  · exact h
theorem inThen_add {s s' : CoreS} {i b : Int} (e : s'.r = s.r.add i) : s'.inThen b ↔ s.inThen b := by
  obtain ⟨a1, a2, a3, a4, a5, a6, _⟩ := add_same s.r i
  unfold CoreS.inThen
  rw [e, a5, a6]
theorem inNow_here {s s' : CoreS} {cur oth : List Int} (l : Lay s cur oth) (R : RemOk s) {a : Int} (ha : InOld s a) (e : s'.r = s.r.add a) : s'.inNow a := by
  obtain ⟨n1, n2, n3, n4, n5, n6, n7, n8, n9, n10⟩ := l.nums
  have h1 := ha.1
  have h2 := ha.2
  obtain ⟨c1, c2, c3, c4⟩ := R.nc
  have hh : s.r.has a = true := by
    unfold RemS.has
    rw [decide_eq_true_eq, R.base, R.ws]
    omega
  unfold CoreS.inNow
  rw [e]
  unfold RemS.add
  rw [if_pos hh]
  split
  · refine .inr (CardS.mark_here _ _ ?_ (by rw [c3]; exact l.cf.c1) (by rw [c2, c3]; exact c4))
    unfold CardS.has
    rw [decide_eq_true_eq, c1, c2]
    omega
  · rename_i hf
    refine .inl ?_
    show a ∈ (s.r.nb.put a).list
    unfold BufS.put
    rw [if_neg hf]
    simp

/-- a note keeps all of it -/
theorem note_inv {s : CoreS} {cur oth : List Int} {E F : Int → Prop} (I : Inv s cur oth E F) {a : Int} (ha : (s.o.sizeAt a).isSome = true) :
    Inv (s.note a) cur oth E F ∧ (headS (s.note a).ws a).noted = true ∧ (s.note a).ws.length = s.ws.length ∧ (∀ b, IsO s cur oth b → ∀ k : Int, 0 ≤ k → k < (headS s.ws b).ptrs → refS (s.note a).ws b k = refS s.ws b k) ∧
    (∀ b, IsO s cur oth b → (headS (s.note a).ws b).size = (headS s.ws b).size ∧ (headS (s.note a).ws b).ptrs = (headS s.ws b).ptrs ∧ (headS (s.note a).ws b).old = (headS s.ws b).old ∧ ((headS s.ws b).noted = true → (headS (s.note a).ws b).noted = true) ∧ wayW (s.note a).ws b = wayW s.ws b) ∧
    (∀ b, IsO s cur oth b → ∀ k : Int, 0 ≤ k → k < (headS s.ws b).size → rd (s.note a).ws (b + 2 + k) = rd s.ws (b + 2 + k)) ∧
    (∀ b, s.inNow b → (s.note a).inNow b) ∧ (∀ b, (s.note a).inThen b ↔ s.inThen b) := by
  obtain ⟨l, H, R, RO⟩ := I
  have hO := (H.hdM a ha).2.1
  have h0 : a ≠ 0 := l.not_zero (.inr (.inr ha))
  by_cases hn : (headS s.ws a).noted = true
  · have e1 : s.note a = s := by simp [CoreS.note, CoreS.noteOk, hn]
    rw [e1]
    exact ⟨⟨l, H, R, RO⟩, hn, rfl, fun _ _ _ _ _ => rfl, fun _ _ => ⟨rfl, rfl, rfl, fun h => h, rfl⟩, fun _ _ _ _ _ => rfl, fun _ h => h, fun _ => Iff.rfl⟩
  · have e1 : s.note a = { s with ws := stW s.ws a { headS s.ws a with noted := true }.enc, r := s.r.add a } := by simp [CoreS.note, CoreS.noteOk, hn, hO, h0]
    rw [e1]
    have hg : ({ headS s.ws a with noted := true } : Hd).Good := unH_good (ldW s.ws a)
    obtain ⟨K, LH⟩ := setHd l H ha (x := { headS s.ws a with noted := true }) hg rfl hO
    obtain ⟨l', H'⟩ := LH (s.r.add a)
    generalize hws : stW s.ws a ({ headS s.ws a with noted := true } : Hd).enc = ws' at *
    have hI : IsO s cur oth a := .inr (.inr ha)
    have haI : I64 a := by
      have := l.pos hI
      have := (words_bounds s.ws a).1
      exact ⟨by omega, by omega⟩
    have hNow : ∀ b, s.inNow b → CoreS.inNow { s with ws := ws', r := s.r.add a } b := fun b h => inNow_add (s := s) rfl h
    have hThen : ∀ b, CoreS.inThen { s with ws := ws', r := s.r.add a } b ↔ s.inThen b := fun b => inThen_add (s := s) rfl
    have hp : ∀ b, IsO s cur oth b → (headS ws' b).size = (headS s.ws b).size ∧ (headS ws' b).ptrs = (headS s.ws b).ptrs ∧ (headS ws' b).old = (headS s.ws b).old ∧ ((headS s.ws b).noted = true → (headS ws' b).noted = true) ∧ wayW ws' b = wayW s.ws b := by
      intro b hb
      rw [K.way b hb, K.hd b hb]
      split
      · rename_i e2
        subst e2
        exact ⟨rfl, rfl, rfl, fun _ => rfl, rfl⟩
      · exact ⟨rfl, rfl, rfl, fun h => h, rfl⟩
    have hC : ∀ b, InOld { s with ws := ws', r := s.r.add a } b ↔ InOld s b := fun b => by unfold InOld; simp only [K.len]
    refine ⟨⟨l', H', ⟨?_, ?_, ?_, ?_, ?_⟩, RO.add a haI ws'⟩, ?_, K.len, K.ref, hp, K.fld, hNow, hThen⟩
    · intro b hb k k0 k1
      have k1' : k < (headS ws' b).ptrs := k1
      rw [(hp b (.inl hb)).2.1] at k1'
      show RefC _ cur oth b (refS ws' b k)
      rw [K.ref b (.inl hb) k k0 k1']
      rcases R.rC b hb k k0 k1' with h | h | h | h
      · exact .inl h
      · exact .inr (.inl ((hC _).2 h))
      · exact .inr (.inr (.inl h))
      · exact .inr (.inr (.inr h))
    · intro b hb k k0 k1
      have k1' : k < (headS ws' b).ptrs := k1
      rw [(hp b (.inr (.inl hb))).2.1] at k1'
      show RefO _ oth (refS ws' b k)
      rw [K.ref b (.inr (.inl hb)) k k0 k1']
      rcases R.rO b hb k k0 k1' with h | h | h
      · exact .inl h
      · exact .inr (.inl ((hC _).2 h))
      · exact .inr (.inr h)
    · intro b hb k k0 k1
      have hbO : IsO s cur oth b := .inr (.inr hb)
      have k1' : k < (headS ws' b).ptrs := k1
      obtain ⟨_, q2, _, q4, _⟩ := hp b hbO
      rw [q2] at k1'
      show refS ws' b k = 0 ∨ InOld { s with ws := ws', r := s.r.add a } (refS ws' b k) ∨ (refS ws' b k ∈ cur ∧ (E b ∨ (headS ws' b).noted = true ∨ b ∈ s.row)) ∨ (s.moving = true ∧ refS ws' b k ∈ oth ∧ (E b ∨ b ∈ s.row ∨ ((headS ws' b).noted = true ∧ CoreS.inThen { s with ws := ws', r := s.r.add a } b)))
      rw [hC, hThen, K.ref b hbO k k0 k1']
      rcases R.rM b hb k k0 k1' with h | h | ⟨h1, h2⟩ | ⟨h1, h2, h3⟩
      · exact .inl h
      · exact .inr (.inl h)
      · refine .inr (.inr (.inl ⟨h1, ?_⟩))
        rcases h2 with h2 | h2 | h2
        · exact .inl h2
        · exact .inr (.inl (q4 h2))
        · exact .inr (.inr h2)
      · refine .inr (.inr (.inr ⟨h1, h2, ?_⟩))
        rcases h3 with h3 | h3 | ⟨h3, h4⟩
        · exact .inl h3
        · exact .inr (.inl h3)
        · exact .inr (.inr ⟨q4 h3, h4⟩)
    · intro b hb hnb
      have hnb' : (headS ws' b).noted = true := hnb
      by_cases e2 : b = a
      · subst e2
        exact .inl (inNow_here l RO (l.old_range ha) rfl)
      · rw [K.hd b (.inr (.inr hb)), if_neg e2] at hnb'
        rcases R.nt b hb hnb' with h | h
        · exact .inl (hNow b h)
        · exact .inr (h.elim (fun h => .inl ((hThen b).2 h)) .inr)
    · intro h
      have := R.tn h
      obtain ⟨a1, a2, a3, a4, a5, a6, _⟩ := add_same s.r a
      show RemS.left (s.r.add a) = 0
      unfold RemS.left at this ⊢
      rw [a5, a6]
      exact this
    · show (headS ws' a).noted = true
      rw [K.hd a hI, if_pos rfl]
theorem note_young {s : CoreS} {cur oth : List Int} {E F : Int → Prop} (I : Inv s cur oth E F) {a : Int} (ha : a ∈ cur) : s.note a = s := by
  have := (I.hds.hdC a ha).2.1
  simp [CoreS.note, CoreS.noteOk, this]

end Go.Proofs.YtjjdjipohifgbaaGreat

/- The look through an object keeps what is true of objects. No program in sight. Conditions: a core whose parts fit its configuration. -/
namespace Go.Proofs.YtjjdjipohifgbaaGreat
open Go.RowKit

theorem Refs.weak {s : CoreS} {cur oth : List Int} {E F E' F' : Int → Prop} (R : Refs s cur oth E F) (he : ∀ b, E b → E' b) (hf : ∀ b, F b → F' b) : Refs s cur oth E' F' := by
  refine ⟨R.rC, R.rO, ?_, ?_, R.tn⟩
  · intro b hb k k0 k1
    rcases R.rM b hb k k0 k1 with h | h | ⟨h1, h2⟩ | ⟨h1, h2, h3⟩
    · exact .inl h
    · exact .inr (.inl h)
    · exact .inr (.inr (.inl ⟨h1, h2.elim (fun h => .inl (he b h)) .inr⟩))
    · exact .inr (.inr (.inr ⟨h1, h2, h3.elim (fun h => .inl (he b h)) .inr⟩))
  · intro b hb hn
    rcases R.nt b hb hn with h | h | h
    · exact .inl h
    · exact .inr (.inl h)
    · exact .inr (.inr (hf b h))
theorem Inv.weak {s : CoreS} {cur oth : List Int} {E F E' F' : Int → Prop} (I : Inv s cur oth E F) (he : ∀ b, E b → E' b) (hf : ∀ b, F b → F' b) : Inv s cur oth E' F' := ⟨I.lay, I.hds, I.refs.weak he hf, I.rem⟩

/-- one that was looked through is no exception any more -/
theorem Inv.drop {s : CoreS} {cur oth : List Int} {E F E' F' : Int → Prop} (I : Inv s cur oth E F) {a : Int} (he : ∀ b, b ≠ a → E b → E' b) (hf : ∀ b, b ≠ a → F b → F' b)
    (hr : (s.o.sizeAt a).isSome = true → ∀ k : Int, 0 ≤ k → k < (headS s.ws a).ptrs → NewRef s cur (refS s.ws a k) ∧ (refS s.ws a k ∈ cur → (headS s.ws a).noted = true)) (hn : (s.o.sizeAt a).isSome = true → (headS s.ws a).noted = true → s.inNow a ∨ s.inThen a ∨ F' a) : Inv s cur oth E' F' := by
  refine ⟨I.lay, I.hds, ⟨I.refs.rC, I.refs.rO, ?_, ?_, I.refs.tn⟩, I.rem⟩
  · intro b hb k k0 k1
    by_cases e : b = a
    · subst e
      obtain ⟨h1, h2⟩ := hr hb k k0 k1
      rcases h1 with h | h | h
      · exact .inl h
      · exact .inr (.inl h)
      · exact .inr (.inr (.inl ⟨h, .inr (.inl (h2 h))⟩))
    · rcases I.refs.rM b hb k k0 k1 with h | h | ⟨h1, h2⟩ | ⟨h1, h2, h3⟩
      · exact .inl h
      · exact .inr (.inl h)
      · exact .inr (.inr (.inl ⟨h1, h2.elim (fun h => .inl (he b e h)) .inr⟩))
      · exact .inr (.inr (.inr ⟨h1, h2, h3.elim (fun h => .inl (he b e h)) .inr⟩))
  · intro b hb hnb
    by_cases e : b = a
    · subst e
      exact hn hb hnb
    · rcases I.refs.nt b hb hnb with h | h | h
      · exact .inl h
      · exact .inr (.inl h)
      · exact .inr (.inr (hf b e h))

/-- what the look through an object turned -/
structure LookRes (s : CoreS) (cur oth : List Int) (E F : Int → Prop) (a : Int) (s' : CoreS) (cur' : List Int) : Prop where
  inv : Inv s' cur' oth E F
  mono : ∀ b ∈ cur, b ∈ cur'
  C : s'.C = s.C
  t : s'.t = s.t
  parity : s'.parity = s.parity
  phase : s'.phase = s.phase
  moving : s'.moving = s.moving
  scan : s'.scan = s.scan
  wl : s'.ws.length = s.ws.length
  old : ∀ b, (s.o.sizeAt b).isSome = true → s'.o.sizeAt b = s.o.sizeAt b
  row : ∀ b ∈ s.row, b ∈ s'.row
  size : (headS s'.ws a).size = (headS s.ws a).size
  ptrs : (headS s'.ws a).ptrs = (headS s.ws a).ptrs
  refs : ∀ k : Int, 0 ≤ k → k < (headS s.ws a).ptrs → NewRef s' cur' (refS s'.ws a k)
  note : (s.o.sizeAt a).isSome = true → ∀ k : Int, 0 ≤ k → k < (headS s.ws a).ptrs → refS s'.ws a k ∈ cur' → (headS s'.ws a).noted = true
  only : (s.o.sizeAt a).isSome = true → (headS s'.ws a).noted = true → (headS s.ws a).noted = true ∨ s'.inNow a
  others : ∀ b, b ≠ a → (b ∈ cur ∨ (s.o.sizeAt b).isSome = true) → headS s'.ws b = headS s.ws b
  now : ∀ b, s.inNow b → s'.inNow b
  thn : ∀ b, s'.inThen b ↔ s.inThen b

theorem note_others (s : CoreS) (a : Int) : (s.note a).C = s.C ∧ (s.note a).t = s.t ∧ (s.note a).parity = s.parity ∧ (s.note a).phase = s.phase ∧ (s.note a).moving = s.moving ∧ (s.note a).scan = s.scan ∧ (s.note a).o = s.o ∧ (s.note a).row = s.row ∧ (s.note a).y = s.y ∧ (s.note a).g = s.g ∧ (s.note a).copied = s.copied ∧ (s.note a).look = s.look ∧ (s.note a).done = s.done := by
  unfold CoreS.note
  split <;> exact ⟨rfl, rfl, rfl, rfl, rfl, rfl, rfl, rfl, rfl, rfl, rfl, rfl, rfl⟩

theorem look_inv {s : CoreS} {cur oth : List Int} {E F : Int → Prop} (I : Inv s cur oth E F) (hmv : s.moving = true) {a : Int} (ha : Looked s cur E a) : ∃ cur', LookRes s cur oth E F a (s.through a) cur' := by
  have hp : ((s.ptrsOf a : Nat) : Int) = (headS s.ws a).ptrs := by
    have := (words_bounds s.ws a).2.2.2.1
    unfold CoreS.ptrsOf
    omega
  obtain ⟨c1, R⟩ := thr_inv I hmv ha (s.ptrsOf a) (by omega)
  have hd := R.head
  have hrefs : ∀ k : Int, 0 ≤ k → k < (headS s.ws a).ptrs → NewRef (s.thr a (s.ptrsOf a)) c1 (refS (s.thr a (s.ptrsOf a)).ws a k) := by
    intro k k0 k1
    have := R.done k.toNat (by omega)
    rwa [show ((k.toNat : Nat) : Int) = k by omega] at this
  have hyes : ∀ k : Int, 0 ≤ k → k < (headS s.ws a).ptrs → refS (s.thr a (s.ptrsOf a)).ws a k ∈ c1 → s.thrYoung a (s.ptrsOf a) = true := by
    intro k k0 k1 h
    exact R.yes.2 ⟨k.toNat, by omega, by rwa [show ((k.toNat : Nat) : Int) = k by omega]⟩
  have hold : (s.o.sizeAt a).isSome = true → ((s.thr a (s.ptrsOf a)).o.sizeAt a).isSome = true := fun h => by rw [R.old a h]; exact h
  have hothers : ∀ b, b ≠ a → (b ∈ cur ∨ (s.o.sizeAt b).isSome = true) → headS (s.thr a (s.ptrsOf a)).ws b = headS s.ws b := by
    intro b hba hb
    exact (R.same b hb hba).head (by have := (words_bounds s.ws b).1; omega)
  have hnowR : ∀ b, s.inNow b ↔ (s.thr a (s.ptrsOf a)).inNow b := fun b => by unfold CoreS.inNow; rw [R.r]
  have hthnR : ∀ b, (s.thr a (s.ptrsOf a)).inThen b ↔ s.inThen b := fun b => by unfold CoreS.inThen; rw [R.r]
  have plain : s.through a = s.thr a (s.ptrsOf a) → (s.thrYoung a (s.ptrsOf a) = true → ¬ (s.o.sizeAt a).isSome = true) → ∃ cur', LookRes s cur oth E F a (s.through a) cur' := by
    intro e hny
    rw [e]
    refine ⟨c1, R.inv, R.mono, R.C, R.t, R.parity, R.phase, R.moving, R.scan, R.wl, R.old, R.row, by rw [hd], by rw [hd], hrefs, ?_, ?_, hothers, fun b h => (hnowR b).1 h, hthnR⟩
    · intro ho k k0 k1 h
      exact absurd ho (hny (hyes k k0 k1 h))
    · intro _ h
      rw [hd] at h
      exact .inl h
  by_cases hy : s.thrYoung a (s.ptrsOf a) = true
  · rcases ha with hc | ⟨ho, hE⟩
    · have hno : ¬ (s.o.sizeAt a).isSome = true := by
        intro h
        exact I.lay.cur_old hc (.inr (I.lay.old_range h))
      refine plain ?_ (fun _ => hno)
      unfold CoreS.through
      rw [if_pos hy]
      exact note_young R.inv (R.mono a hc)
    · have e : s.through a = (s.thr a (s.ptrsOf a)).note a := by
        unfold CoreS.through
        rw [if_pos hy]
      rw [e]
      obtain ⟨I2, n1, n2, n3, n4, n5, n6, n7⟩ := note_inv R.inv (hold ho)
      obtain ⟨m1, m2, m3, m4, m5, m6, m7, m8, m9, m10, m11, m12, m13⟩ := note_others (s.thr a (s.ptrsOf a)) a
      have hIa : IsO (s.thr a (s.ptrsOf a)) c1 oth a := .inr (.inr (hold ho))
      obtain ⟨h1, h2, h3, h4, h5⟩ := n4 a hIa
      rw [hd] at h1 h2
      have hre : ∀ k : Int, 0 ≤ k → k < (headS s.ws a).ptrs → refS ((s.thr a (s.ptrsOf a)).note a).ws a k = refS (s.thr a (s.ptrsOf a)).ws a k := fun k k0 k1 => n3 a hIa k k0 (by rw [hd]; exact k1)
      refine ⟨c1, I2, R.mono, m1.trans R.C, m2.trans R.t, m3.trans R.parity, m4.trans R.phase, m5.trans R.moving, m6.trans R.scan, n2.trans R.wl, fun b hb => by rw [m7]; exact R.old b hb, fun b hb => by rw [m8]; exact R.row b hb, h1, h2, ?_, fun _ _ _ _ _ => n1, ?_, ?_, fun b h => n6 b ((hnowR b).1 h), fun b => (n7 b).trans (hthnR b)⟩
      · intro k k0 k1
        rw [hre k k0 k1]
        exact NewRef.mono m1 n2 (fun _ h => h) (hrefs k k0 k1)
      · intro _ _
        by_cases hn : (headS s.ws a).noted = true
        · exact .inl hn
        · right
          have hO := (R.inv.hds.hdM a (hold ho)).2.1
          have h0 : a ≠ 0 := R.inv.lay.not_zero hIa
          have e1 : (s.thr a (s.ptrsOf a)).note a = { s.thr a (s.ptrsOf a) with ws := stW (s.thr a (s.ptrsOf a)).ws a { headS (s.thr a (s.ptrsOf a)).ws a with noted := true }.enc, r := (s.thr a (s.ptrsOf a)).r.add a } := by
            have hn' : ¬ (headS (s.thr a (s.ptrsOf a)).ws a).noted = true := by rw [hd]; exact hn
            simp [CoreS.note, CoreS.noteOk, hn', hO, h0]
          refine inNow_here R.inv.lay R.inv.rem (R.inv.lay.old_range (hold ho)) ?_
          rw [e1]
      · intro b hba hb
        have hbO : b ∈ c1 ∨ ((s.thr a (s.ptrsOf a)).o.sizeAt b).isSome = true := hb.elim (fun h => .inl (R.mono b h)) (fun h => .inr (by rw [R.old b h]; exact h))
        rw [← hothers b hba hb]
        have hIb : IsO (s.thr a (s.ptrsOf a)) c1 oth b := hbO.elim .inl (fun h => .inr (.inr h))
        unfold CoreS.note
        split
        · have hg : ({ headS (s.thr a (s.ptrsOf a)).ws a with noted := true } : Hd).Good := unH_good (ldW (s.thr a (s.ptrsOf a)).ws a)
          obtain ⟨K, _⟩ := setHd R.inv.lay R.inv.hds (hold ho) (x := { headS (s.thr a (s.ptrsOf a)).ws a with noted := true }) hg rfl (R.inv.hds.hdM a (hold ho)).2.1
          have := K.hd b hIb
          rw [if_neg hba] at this
          exact this
        · rfl
  · refine plain ?_ (fun h => absurd h hy)
    unfold CoreS.through
    rw [if_neg hy]

/-- one of the half that is filled: the next to scan is the one behind it -/
theorem scan_inv {s : CoreS} {cur oth : List Int} {E F : Int → Prop} (I : Inv s cur oth E F) (hmv : s.moving = true) (hok : s.scanOk = true) :
    s.scan ∈ cur ∧ ∃ cur', LookRes s cur oth E F s.scan (s.through s.scan) cur' ∧ Inv s.scanS cur' oth E F ∧ s.scanS.scan = s.scan + (headS s.ws s.scan).words := by
  have hs : s.scan ∈ cur := by
    unfold CoreS.scanOk at hok
    rw [decide_eq_true_eq] at hok
    rcases (I.hds.sc hmv).2 with h | h
    · omega
    · exact h
  obtain ⟨cur', R⟩ := look_inv I hmv (E := E) (.inl hs)
  refine ⟨hs, cur', R, ?_⟩
  obtain ⟨l, H, Rf, RO⟩ := R.inv
  obtain ⟨n1, n2, n3, n4, n5, n6, n7, n8, n9, n10⟩ := l.nums
  have hsc := R.mono _ hs
  have hw : (headS (s.through s.scan).ws s.scan).words = (headS s.ws s.scan).words := by
    show (headS (s.through s.scan).ws s.scan).size + 2 = (headS s.ws s.scan).size + 2
    rw [R.size]
  have hin := l.curIn hsc
  rw [hw] at hin
  obtain ⟨b1, b2, b3, b4, b5⟩ := words_bounds s.ws s.scan
  have e1 : wrap64 (s.scan + s.scanN) = s.scan + (headS s.ws s.scan).words := wrap_of ⟨by unfold CoreS.scanN; omega, by unfold CoreS.scanN; omega⟩
  have e2 : s.scanS = { s.through s.scan with scan := s.scan + (headS s.ws s.scan).words } := by
    unfold CoreS.scanS
    rw [e1]
  have hmv2 : (s.through s.scan).moving = true := R.moving.trans hmv
  refine ⟨?_, by rw [e2]⟩
  rw [e2]
  refine ⟨⟨l.cf, l.ov, l.ob, l.ow, l.ol, l.f0, l.f1, l.yw, l.u0, l.u1, l.wl, l.rc, l.ro, l.fit⟩, ⟨H.par, H.hdC, H.hdO, H.hdM, H.cp, H.rm, H.nm, ?_, H.rl, H.ri⟩, ⟨?_, Rf.rO, Rf.rM, Rf.nt, Rf.tn⟩, RO.same rfl rfl⟩
  · intro _
    refine ⟨?_, ?_⟩
    · show (s.through s.scan).y.cf ≤ s.scan + _
      omega
    · have := l.rc.next hsc
      rw [hw] at this
      exact this
  · intro b hb k k0 k1
    show refS (s.through s.scan).ws b k = 0 ∨ InOld (s.through s.scan) (refS (s.through s.scan).ws b k) ∨ refS (s.through s.scan).ws b k ∈ cur' ∨ ((s.through s.scan).moving = true ∧ refS (s.through s.scan).ws b k ∈ oth ∧ s.scan + (headS s.ws s.scan).words ≤ b)
    by_cases e : b = s.scan
    · have k1' : k < (headS (s.through s.scan).ws b).ptrs := k1
      rw [e, R.ptrs] at k1'
      rw [e]
      rcases R.refs k k0 k1' with h | h | h
      · exact .inl h
      · exact .inr (.inl h)
      · exact .inr (.inr (.inl h))
    · rcases Rf.rC b hb k k0 k1 with h | h | h | ⟨h1, h2, h3⟩
      · exact .inl h
      · exact .inr (.inl h)
      · exact .inr (.inr (.inl h))
      · refine .inr (.inr (.inr ⟨h1, h2, ?_⟩))
        rw [R.scan] at h3
        have := l.rc.apart hb hsc e
        have := (words_bounds (s.through s.scan).ws b).1
        omega

end Go.Proofs.YtjjdjipohifgbaaGreat

/- What one noted object, one object of Row, an entry of the buffer and a card come to keeps what is true of objects. No program in sight. Conditions: a core whose parts fit its configuration. -/
namespace Go.Proofs.YtjjdjipohifgbaaGreat
open Go.RowKit

def NoI (_ : Int) : Prop := False

theorem unnote_inv {s : CoreS} {cur oth : List Int} {E F E' F' : Int → Prop} (I : Inv s cur oth E F) {a : Int} (ha : (s.o.sizeAt a).isSome = true) (he : ∀ b, E b → E' b) (hea : E' a) (hf : ∀ b, b ≠ a → F b → F' b) :
    Inv (s.unnote a) cur oth E' F' ∧ headS (s.unnote a).ws a = { headS s.ws a with noted := false } ∧ (∀ b, IsO s cur oth b → b ≠ a → headS (s.unnote a).ws b = headS s.ws b) ∧ (s.unnote a).ws.length = s.ws.length ∧
    (∀ b, IsO s cur oth b → ∀ k : Int, 0 ≤ k → k < (headS s.ws b).ptrs → refS (s.unnote a).ws b k = refS s.ws b k) ∧ (∀ b, IsO s cur oth b → wayW (s.unnote a).ws b = wayW s.ws b) ∧ (∀ b, IsO s cur oth b → ∀ k : Int, 0 ≤ k → k < (headS s.ws b).size → rd (s.unnote a).ws (b + 2 + k) = rd s.ws (b + 2 + k)) := by
  obtain ⟨l, H, R, RO⟩ := I
  have hO := (H.hdM a ha).2.1
  have hg : ({ headS s.ws a with noted := false } : Hd).Good := unH_good (ldW s.ws a)
  obtain ⟨K, LH⟩ := setHd l H ha (x := { headS s.ws a with noted := false }) hg rfl hO
  obtain ⟨l', H'⟩ := LH s.r
  have e1 : s.unnote a = { s with ws := stW s.ws a { headS s.ws a with noted := false }.enc, r := s.r } := rfl
  rw [e1]
  generalize hws : stW s.ws a ({ headS s.ws a with noted := false } : Hd).enc = ws' at *
  have hI : IsO s cur oth a := .inr (.inr ha)
  have hp : ∀ b, IsO s cur oth b → (headS ws' b).ptrs = (headS s.ws b).ptrs := by
    intro b hb
    rw [K.hd b hb]
    split
    · rename_i e2
      subst e2
      rfl
    · rfl
  have hC : ∀ b, InOld { s with ws := ws', r := s.r } b ↔ InOld s b := fun b => by unfold InOld; simp only [K.len]
  refine ⟨⟨l', H', ⟨?_, ?_, ?_, ?_, R.tn⟩, RO.same rfl rfl⟩, ?_, ?_, K.len, K.ref, K.way, K.fld⟩
  · intro b hb k k0 k1
    have k1' : k < (headS ws' b).ptrs := k1
    rw [hp b (.inl hb)] at k1'
    show RefC _ cur oth b (refS ws' b k)
    rw [K.ref b (.inl hb) k k0 k1']
    rcases R.rC b hb k k0 k1' with h | h | h | h
    · exact .inl h
    · exact .inr (.inl ((hC _).2 h))
    · exact .inr (.inr (.inl h))
    · exact .inr (.inr (.inr h))
  · intro b hb k k0 k1
    have k1' : k < (headS ws' b).ptrs := k1
    rw [hp b (.inr (.inl hb))] at k1'
    show RefO _ oth (refS ws' b k)
    rw [K.ref b (.inr (.inl hb)) k k0 k1']
    rcases R.rO b hb k k0 k1' with h | h | h
    · exact .inl h
    · exact .inr (.inl ((hC _).2 h))
    · exact .inr (.inr h)
  · intro b hb k k0 k1
    have hbO : IsO s cur oth b := .inr (.inr hb)
    have k1' : k < (headS ws' b).ptrs := k1
    rw [hp b hbO] at k1'
    show refS ws' b k = 0 ∨ InOld { s with ws := ws', r := s.r } (refS ws' b k) ∨ (refS ws' b k ∈ cur ∧ (E' b ∨ (headS ws' b).noted = true ∨ b ∈ s.row)) ∨ (s.moving = true ∧ refS ws' b k ∈ oth ∧ (E' b ∨ b ∈ s.row ∨ ((headS ws' b).noted = true ∧ s.inThen b)))
    rw [hC, K.ref b hbO k k0 k1', K.hd b hbO]
    by_cases e : b = a
    · subst e
      rcases R.rM b hb k k0 k1' with h | h | ⟨h1, h2⟩ | ⟨h1, h2, h3⟩
      · exact .inl h
      · exact .inr (.inl h)
      · exact .inr (.inr (.inl ⟨h1, .inl hea⟩))
      · exact .inr (.inr (.inr ⟨h1, h2, .inl hea⟩))
    · rw [if_neg e]
      rcases R.rM b hb k k0 k1' with h | h | ⟨h1, h2⟩ | ⟨h1, h2, h3⟩
      · exact .inl h
      · exact .inr (.inl h)
      · exact .inr (.inr (.inl ⟨h1, h2.elim (fun h => .inl (he b h)) .inr⟩))
      · exact .inr (.inr (.inr ⟨h1, h2, h3.elim (fun h => .inl (he b h)) .inr⟩))
  · intro b hb hnb
    have hnb' : (headS ws' b).noted = true := hnb
    by_cases e2 : b = a
    · subst e2
      rw [K.hd b hI, if_pos rfl] at hnb'
      cases hnb'
    · rw [K.hd b (.inr (.inr hb)), if_neg e2] at hnb'
      rcases R.nt b hb hnb' with h | h | h
      · exact .inl h
      · exact .inr (.inl h)
      · exact .inr (.inr (hf b e2 h))
  · show headS ws' a = _
    rw [K.hd a hI, if_pos rfl]
  · intro b hb e
    show headS ws' b = _
    rw [K.hd b hb, if_neg e]

/-- what a noted object came to -/
structure NotedRes (s : CoreS) (cur : List Int) (a : Int) (s' : CoreS) (cur' : List Int) : Prop where
  mono : ∀ b ∈ cur, b ∈ cur'
  C : s'.C = s.C
  t : s'.t = s.t
  parity : s'.parity = s.parity
  phase : s'.phase = s.phase
  moving : s'.moving = s.moving
  scan : s'.scan = s.scan
  wl : s'.ws.length = s.ws.length
  old : ∀ b, (s.o.sizeAt b).isSome = true → s'.o.sizeAt b = s.o.sizeAt b
  others : ∀ b, b ≠ a → (b ∈ cur ∨ (s.o.sizeAt b).isSome = true) → headS s'.ws b = headS s.ws b
  thn : ∀ b, s'.inThen b ↔ s.inThen b

theorem noted_inv {s : CoreS} {cur oth : List Int} {E F E' F' : Int → Prop} (I : Inv s cur oth E F) (hmv : s.moving = true) {a : Int} (hEn : (s.o.sizeAt a).isSome = true → E a → (headS s.ws a).noted = true) (he : ∀ b, b ≠ a → E b → E' b) (hf : ∀ b, b ≠ a → F b → F' b) :
    (s.isNoted a = true → (s.unnote a).ThrOk a) ∧ ∃ cur', Inv (s.notedS a) cur' oth E' F' ∧ NotedRes s cur a (s.notedS a) cur' := by
  by_cases hq : s.isNoted a = true
  · have hq2 := hq
    unfold CoreS.isNoted at hq2
    rw [Bool.and_eq_true] at hq2
    obtain ⟨ha, hn⟩ := hq2
    obtain ⟨I1, u1, u2, u3, u4, u5, u6⟩ := unnote_inv (E' := fun b => E b ∨ b = a) (F' := F') I ha (fun b h => .inl h) (.inr rfl) hf
    have hL : Looked (s.unnote a) cur (fun b => E b ∨ b = a) a := .inr ⟨ha, .inr rfl⟩
    have hmv1 : (s.unnote a).moving = true := hmv
    refine ⟨fun _ => thr_ok I1 hmv1 hL, ?_⟩
    obtain ⟨c1, L⟩ := look_inv I1 hmv1 hL
    have e1 : s.notedS a = (s.unnote a).through a := by
      unfold CoreS.notedS
      rw [if_pos hq]
    rw [e1]
    have ha1 : (((s.unnote a).through a).o.sizeAt a) = s.o.sizeAt a := L.old a ha
    refine ⟨c1, L.inv.drop (a := a) ?_ (fun b _ h => h) ?_ ?_, L.mono, L.C, L.t, L.parity, L.phase, L.moving, L.scan, L.wl.trans u3, L.old, ?_, fun b => L.thn b⟩
    · intro b hb h
      rcases h with h | h
      · exact he b hb h
      · exact absurd h hb
    · intro _ k k0 k1
      rw [L.ptrs] at k1
      exact ⟨L.refs k k0 k1, L.note ha k k0 k1⟩
    · intro _ h
      rcases L.only ha h with h | h
      · rw [u1] at h
        cases h
      · exact .inl h
    · intro b hba hb
      rw [L.others b hba hb]
      exact u2 b (hb.elim .inl (fun h => .inr (.inr h))) hba
  · refine ⟨fun h => absurd h hq, cur, ?_, ?_⟩
    · have e1 : s.notedS a = s := by
        unfold CoreS.notedS
        rw [if_neg hq]
      rw [e1]
      by_cases ha : (s.o.sizeAt a).isSome = true
      · have hn : ¬ (headS s.ws a).noted = true := by
          intro h
          apply hq
          unfold CoreS.isNoted
          rw [ha, h]
          rfl
        have hEa : ¬ E a := fun h => hn (hEn ha h)
        refine ⟨I.lay, I.hds, ⟨I.refs.rC, I.refs.rO, ?_, ?_, I.refs.tn⟩, I.rem⟩
        · intro b hb k k0 k1
          have he2 : E b → E' b := fun h => by
            by_cases e : b = a
            · rw [e] at h
              exact absurd h hEa
            · exact he b e h
          rcases I.refs.rM b hb k k0 k1 with h | h | ⟨h1, h2⟩ | ⟨h1, h2, h3⟩
          · exact .inl h
          · exact .inr (.inl h)
          · exact .inr (.inr (.inl ⟨h1, h2.elim (fun h => .inl (he2 h)) .inr⟩))
          · exact .inr (.inr (.inr ⟨h1, h2, h3.elim (fun h => .inl (he2 h)) .inr⟩))
        · intro b hb hnb
          rcases I.refs.nt b hb hnb with h | h | h
          · exact .inl h
          · exact .inr (.inl h)
          · refine .inr (.inr (hf b ?_ h))
            intro e
            rw [e] at hnb
            exact hn hnb
      · exact I.drop he hf (fun h => absurd h ha) (fun h => absurd h ha)
    · have e1 : s.notedS a = s := by
        unfold CoreS.notedS
        rw [if_neg hq]
      rw [e1]
      exact ⟨fun _ h => h, rfl, rfl, rfl, rfl, rfl, rfl, rfl, fun _ _ => rfl, fun _ _ _ => rfl, fun _ => Iff.rfl⟩

/-- all that start in a part, one after the other -/
theorem part_inv {oth : List Int} : ∀ (l : List Int) {s : CoreS} {cur : List Int}, Inv s cur oth (fun b => b ∈ l ∧ (headS s.ws b).noted = true) (fun b => b ∈ l) → s.moving = true → (∀ b ∈ l, (s.o.sizeAt b).isSome = true) → (∀ b ∈ l, I64 b) →
    s.PartOk l ∧ ∃ cur', Inv (s.partS l) cur' oth NoI NoI ∧ (∀ b ∈ cur, b ∈ cur') ∧ (s.partS l).C = s.C ∧ (s.partS l).t = s.t ∧ (s.partS l).parity = s.parity ∧ (s.partS l).phase = s.phase ∧ (s.partS l).moving = s.moving ∧ (s.partS l).scan = s.scan
  | [], s, cur, I, _, _, _ => ⟨fun j a h => by simp at h, cur, I.weak (fun b h => by cases h.1) (fun b h => by cases h), fun _ h => h, rfl, rfl, rfl, rfl, rfl, rfl⟩
  | a :: l, s, cur, I, hmv, ho, hi => by
    obtain ⟨hok, c1, I1, N⟩ := noted_inv (a := a) (E' := fun b => b ≠ a ∧ b ∈ l ∧ (headS s.ws b).noted = true) (F' := fun b => b ∈ l) I hmv (fun _ h => h.2)
      (fun b hb h => ⟨hb, (List.mem_cons.1 h.1).resolve_left hb, h.2⟩) (fun b hb h => (List.mem_cons.1 h).resolve_left hb)
    have hds : ∀ b ∈ l, b ≠ a → headS (s.notedS a).ws b = headS s.ws b := fun b hb hba => N.others b hba (.inr (ho b (List.mem_cons_of_mem _ hb)))
    obtain ⟨hP, c2, I2, m2, q1, q2, q3, q4, q5, q6⟩ := part_inv l (s := s.notedS a) (cur := c1) (I1.weak (fun b h => ⟨h.2.1, by rw [hds b h.2.1 h.1]; exact h.2.2⟩) (fun _ h => h)) (N.moving.trans hmv)
      (fun b hb => by rw [N.old b (ho b (List.mem_cons_of_mem _ hb))]; exact ho b (List.mem_cons_of_mem _ hb)) (fun b hb => hi b (List.mem_cons_of_mem _ hb))
    refine ⟨?_, c2, I2, fun b h => m2 b (N.mono b h), q1.trans N.C, q2.trans N.t, q3.trans N.parity, q4.trans N.phase, q5.trans N.moving, q6.trans N.scan⟩
    intro j b hb
    cases j with
    | zero =>
      simp only [List.getElem?_cons_zero, Option.some.injEq] at hb
      subst hb
      exact ⟨I.lay.ov.ok, hi a (List.mem_cons_self ..), hok⟩
    | succ j =>
      simp only [List.getElem?_cons_succ] at hb
      exact hP j b hb

theorem unrow_inv {s : CoreS} {cur oth : List Int} {E F E' : Int → Prop} (I : Inv s cur oth E F) (he : ∀ b, E b → E' b) (hh : 0 < s.row.length → E' s.rowHd) : Inv s.unrow cur oth E' F := by
  obtain ⟨l, H, R, RO⟩ := I
  have hrow : ∀ b, b ∈ s.row → E' b ∨ b ∈ s.row.tail := by
    intro b hb
    unfold CoreS.rowHd at hh
    cases hr : s.row with
    | nil => rw [hr] at hb; cases hb
    | cons x l =>
      rw [hr] at hb hh
      rcases List.mem_cons.1 hb with e | h
      · left
        rw [e]
        exact hh (by simp)
      · exact .inr h
  refine ⟨⟨l.cf, l.ov, l.ob, l.ow, l.ol, l.f0, l.f1, l.yw, l.u0, l.u1, l.wl, l.rc, l.ro, l.fit⟩, ⟨H.par, H.hdC, H.hdO, H.hdM, H.cp, H.rm, H.nm, H.sc, ?_, fun b hb => H.ri b (List.mem_of_mem_tail hb)⟩, ⟨R.rC, R.rO, ?_, R.nt, R.tn⟩, RO.same rfl rfl⟩
  · have := H.rl
    show 2 * (s.row.tail.length : Int) ≤ s.copied
    rw [List.length_tail]
    omega
  · intro b hb k k0 k1
    show refS s.ws b k = 0 ∨ InOld s (refS s.ws b k) ∨ (refS s.ws b k ∈ cur ∧ (E' b ∨ (headS s.ws b).noted = true ∨ b ∈ s.row.tail)) ∨ (s.moving = true ∧ refS s.ws b k ∈ oth ∧ (E' b ∨ b ∈ s.row.tail ∨ ((headS s.ws b).noted = true ∧ s.inThen b)))
    rcases R.rM b hb k k0 k1 with h | h | ⟨h1, h2⟩ | ⟨h1, h2, h3⟩
    · exact .inl h
    · exact .inr (.inl h)
    · refine .inr (.inr (.inl ⟨h1, ?_⟩))
      rcases h2 with h2 | h2 | h2
      · exact .inl (he b h2)
      · exact .inr (.inl h2)
      · exact (hrow b h2).elim .inl (fun h => .inr (.inr h))
    · refine .inr (.inr (.inr ⟨h1, h2, ?_⟩))
      rcases h3 with h3 | h3 | h3
      · exact .inl (he b h3)
      · exact (hrow b h3).elim .inl (fun h => .inr (.inl h))
      · exact .inr (.inr h3)

/-- the first of Row -/
theorem row_inv {s : CoreS} {cur oth : List Int} (I : Inv s cur oth NoI NoI) (hmv : s.moving = true) :
    ((s.o.sizeAt s.rowHd).isSome = true → s.unrow.ThrOk s.rowHd) ∧ ∃ cur', Inv s.rowS cur' oth NoI NoI ∧ (∀ b ∈ cur, b ∈ cur') ∧ s.rowS.C = s.C ∧ s.rowS.t = s.t ∧ s.rowS.parity = s.parity ∧ s.rowS.phase = s.phase ∧ s.rowS.moving = s.moving ∧ s.rowS.scan = s.scan := by
  have I1 : Inv s.unrow cur oth (fun b => b = s.rowHd) NoI := unrow_inv I (fun b h => h.elim) (fun _ => rfl)
  by_cases ha : (s.o.sizeAt s.rowHd).isSome = true
  · have hL : Looked s.unrow cur (fun b => b = s.rowHd) s.rowHd := .inr ⟨ha, rfl⟩
    have hmv1 : s.unrow.moving = true := hmv
    refine ⟨fun _ => thr_ok I1 hmv1 hL, ?_⟩
    obtain ⟨c1, L⟩ := look_inv I1 hmv1 hL
    have e1 : s.rowS = s.unrow.through s.rowHd := by
      unfold CoreS.rowS
      rw [if_pos ha]
    rw [e1]
    refine ⟨c1, L.inv.drop (a := s.rowHd) (fun b hb h => absurd h hb) (fun b _ h => h) ?_ ?_, L.mono, L.C, L.t, L.parity, L.phase, L.moving, L.scan⟩
    · intro _ k k0 k1
      rw [L.ptrs] at k1
      exact ⟨L.refs k k0 k1, L.note ha k k0 k1⟩
    · intro h hn
      rcases L.inv.refs.nt _ h hn with h | h | h
      · exact .inl h
      · exact .inr (.inl h)
      · exact h.elim
  · refine ⟨fun h => absurd h ha, cur, ?_⟩
    have e1 : s.rowS = s.unrow := by
      unfold CoreS.rowS
      rw [if_neg ha]
    rw [e1]
    exact ⟨I1.drop (a := s.rowHd) (fun b hb h => absurd h hb) (fun b _ h => h) (fun h => absurd h ha) (fun h => absurd h ha), fun _ h => h, rfl, rfl, rfl, rfl, rfl, rfl⟩

/-- what is remembered is changed -/
theorem tail_le {l : List Int} {n : Int} (h : (l.length : Int) ≤ n) : (l.tail.length : Int) ≤ n := by
  rw [List.length_tail]
  omega
theorem swapR_inv {s : CoreS} {cur oth : List Int} {E F : Int → Prop} (I : Inv s cur oth NoI NoI) (hmv : s.moving = true) (r' : RemS) (RO : RemOk { s with r := r' }) (hnow : ∀ b, s.inNow b → CoreS.inNow { s with r := r' } b)
    (hthn : ∀ b, (s.o.sizeAt b).isSome = true → (headS s.ws b).noted = true → s.inThen b → CoreS.inThen { s with r := r' } b ∨ (E b ∧ F b)) : Inv { s with r := r' } cur oth E F := by
  obtain ⟨l, H, R, _⟩ := I
  refine ⟨⟨l.cf, l.ov, l.ob, l.ow, l.ol, l.f0, l.f1, l.yw, l.u0, l.u1, l.wl, l.rc, l.ro, l.fit⟩, ⟨H.par, H.hdC, H.hdO, H.hdM, H.cp, H.rm, H.nm, H.sc, H.rl, H.ri⟩, ⟨R.rC, R.rO, ?_, ?_, ?_⟩, RO⟩
  · intro b hb k k0 k1
    show refS s.ws b k = 0 ∨ InOld s (refS s.ws b k) ∨ (refS s.ws b k ∈ cur ∧ (E b ∨ (headS s.ws b).noted = true ∨ b ∈ s.row)) ∨ (s.moving = true ∧ refS s.ws b k ∈ oth ∧ (E b ∨ b ∈ s.row ∨ ((headS s.ws b).noted = true ∧ CoreS.inThen { s with r := r' } b)))
    rcases R.rM b hb k k0 k1 with h | h | ⟨h1, h2⟩ | ⟨h1, h2, h3⟩
    · exact .inl h
    · exact .inr (.inl h)
    · exact .inr (.inr (.inl ⟨h1, h2.elim (fun h => h.elim) .inr⟩))
    · refine .inr (.inr (.inr ⟨h1, h2, ?_⟩))
      rcases h3 with h3 | h3 | ⟨h3, h4⟩
      · exact h3.elim
      · exact .inr (.inl h3)
      · rcases hthn b hb h3 h4 with h | h
        · exact .inr (.inr ⟨h3, h⟩)
        · exact .inl h.1
  · intro b hb hn
    rcases R.nt b hb hn with h | h | h
    · exact .inl (hnow b h)
    · rcases hthn b hb hn h with h | h
      · exact .inr (.inl h)
      · exact .inr (.inr h.2)
    · exact h.elim
  · intro h
    have h' : s.moving = false := h
    rw [hmv] at h'
    cases h'

end Go.Proofs.YtjjdjipohifgbaaGreat

/- An entry of the buffer, a card, the end of a cycle: each bit of a cycle keeps what is true of objects, and asks nothing that is not so. No program in sight. Conditions: a core whose parts fit its configuration. -/
namespace Go.Proofs.YtjjdjipohifgbaaGreat
open Go.RowKit

/-- what a bit leaves -/
structure Kept (s : CoreS) (s' : CoreS) : Prop where
  C : s'.C = s.C
  t : s'.t = s.t
  parity : s'.parity = s.parity
  phase : s'.phase = s.phase

theorem buf_inv {s : CoreS} {cur oth : List Int} (I : Inv s cur oth NoI NoI) (hmv : s.moving = true) {x : Int} {l : List Int} (hx : s.r.tb.list = x :: l) :
    (s.popBuf.isNoted x = true → (s.popBuf.unnote x).ThrOk x) ∧ ∃ cur', Inv (s.popBuf.notedS x) cur' oth NoI NoI ∧ (∀ b ∈ cur, b ∈ cur') ∧ Kept s (s.popBuf.notedS x) ∧ (s.popBuf.notedS x).moving = true ∧ (s.popBuf.notedS x).scan = s.scan := by
  have RO := I.rem
  have I1 : Inv s.popBuf cur oth (fun b => b = x ∧ (headS s.ws b).noted = true) (fun b => b = x) := by
    refine swapR_inv I hmv { s.r with tb := s.r.tb.rest } ⟨RO.base, RO.ws, RO.size, RO.most, RO.nc, RO.tc, fun y hy => RO.bi y (hy.elim .inl (fun h => .inr (List.mem_of_mem_tail h))), RO.bm.1, RO.bm.2.1, RO.bm.2.2.1, tail_le RO.bm.2.2.2⟩ (fun _ h => h) ?_
    intro b _ hn h
    rcases h with h | h
    · rw [hx] at h
      rcases List.mem_cons.1 h with h | h
      · exact .inr ⟨⟨h, hn⟩, h⟩
      · refine .inl (.inl ?_)
        show b ∈ s.r.tb.list.tail
        rw [hx]
        exact h
    · exact .inl (.inr h)
  obtain ⟨h1, c1, I2, N⟩ := noted_inv (a := x) (E' := NoI) (F' := NoI) I1 hmv (fun _ h => h.2) (fun b hb h => absurd h.1 hb) (fun b hb h => absurd h hb)
  exact ⟨h1, c1, I2, N.mono, ⟨N.C, N.t, N.parity, N.phase⟩, N.moving.trans hmv, N.scan⟩

theorem CardS.part_of {c : CardS} {b : Int} (h1 : 1 ≤ c.card) (hb : c.has b = true) : c.partLo ((b - c.base) / c.card).toNat ≤ b ∧ b < c.partHi ((b - c.base) / c.card).toNat := by
  unfold CardS.has at hb
  rw [decide_eq_true_eq] at hb
  have e : c.card * ((b - c.base) / c.card) + (b - c.base) % c.card = b - c.base := Int.mul_ediv_add_emod ..
  have m1 : 0 ≤ (b - c.base) % c.card := Int.emod_nonneg _ (by omega)
  have m2 : (b - c.base) % c.card < c.card := Int.emod_lt_of_pos _ (by omega)
  have q0 : 0 ≤ (b - c.base) / c.card := Int.ediv_nonneg (by omega) (by omega)
  generalize (b - c.base) / c.card = q at *
  have hq : ((q.toNat : Nat) : Int) = q := by omega
  unfold CardS.partLo CardS.partHi
  rw [hq]
  have c1 : q * c.card = c.card * q := Int.mul_comm ..
  have c2 : (q + 1) * c.card = c.card * q + c.card := by rw [Int.add_mul, Int.one_mul, Int.mul_comm]
  rw [c1, c2]
  generalize c.card * q = m at *
  omega

theorem CardS.clr_marked {c : CardS} {n : Nat} {b : Int} (h : c.marked b = true) (hn : ((b - c.base) / c.card).toNat ≠ n) : (c.clr n).marked b = true := by
  unfold CardS.marked at h ⊢
  rw [Bool.and_eq_true] at h ⊢
  refine ⟨h.1, ?_⟩
  show (c.marks.set n false).getD ((b - c.base) / c.card).toNat false = true
  have := h.2
  simp only [List.getD_eq_getElem?_getD] at this ⊢
  rw [List.getElem?_set, if_neg (fun e => hn e.symm)]
  exact this

theorem card_inv {s : CoreS} {cur oth : List Int} (I : Inv s cur oth NoI NoI) (hmv : s.moving = true) (hx : s.r.tb.list = []) (n : Nat) :
    (s.popCard n).PartOk (s.cardStarts n) ∧ ∃ cur', Inv ((s.popCard n).partS (s.cardStarts n)) cur' oth NoI NoI ∧ (∀ b ∈ cur, b ∈ cur') ∧ Kept s ((s.popCard n).partS (s.cardStarts n)) ∧ ((s.popCard n).partS (s.cardStarts n)).moving = true ∧ ((s.popCard n).partS (s.cardStarts n)).scan = s.scan := by
  have RO := I.rem
  obtain ⟨t1, t2, t3, t4⟩ := RO.tc
  have hst : ∀ b, b ∈ s.cardStarts n ↔ s.r.tc.partLo n ≤ b ∧ b < s.r.tc.partHi n ∧ (s.o.sizeAt b).isSome = true := fun b => starts_iff I.lay.ov
  have I1 : Inv (s.popCard n) cur oth (fun b => b ∈ s.cardStarts n ∧ (headS (s.popCard n).ws b).noted = true) (fun b => b ∈ s.cardStarts n) := by
    refine swapR_inv I hmv { s.r with tb := s.r.tb.rest, tc := s.r.tc.clr n } ⟨RO.base, RO.ws, RO.size, RO.most, RO.nc, ⟨t1, t2, t3, ?_⟩, fun y hy => RO.bi y (hy.elim .inl (fun h => .inr (List.mem_of_mem_tail h))), RO.bm.1, RO.bm.2.1, RO.bm.2.2.1, tail_le RO.bm.2.2.2⟩ (fun _ h => h) ?_
    · show ((s.r.tc.marks.set n false).length : Int) = _
      rw [List.length_set]
      exact t4
    · intro b ho hn h
      rcases h with h | h
      · rw [hx] at h
        cases h
      · by_cases e : ((b - s.r.tc.base) / s.r.tc.card).toNat = n
        · right
          have hh := h
          unfold CardS.marked at hh
          rw [Bool.and_eq_true] at hh
          have := CardS.part_of (c := s.r.tc) (by rw [t3]; exact I.lay.cf.c1) hh.1
          rw [e] at this
          have hb : b ∈ s.cardStarts n := (hst b).2 ⟨this.1, this.2, ho⟩
          exact ⟨⟨hb, hn⟩, hb⟩
        · exact .inl (.inr (CardS.clr_marked h e))
  have hold : ∀ b ∈ s.cardStarts n, ((s.popCard n).o.sizeAt b).isSome = true := fun b hb => ((hst b).1 hb).2.2
  obtain ⟨h1, c1, I2, m, q1, q2, q3, q4, q5, q6⟩ := part_inv (s.cardStarts n) I1 hmv hold (by
    intro b hb
    have := I.lay.pos (.inr (.inr (hold b hb)))
    have := (words_bounds s.ws b).1
    exact ⟨by omega, by omega⟩)
  exact ⟨h1, c1, I2, m, ⟨q1, q2, q3, q4⟩, q5.trans hmv, q6⟩

theorem firstT_none : ∀ {l : List Bool} {k : Nat}, firstT l k = none → (∀ i, l.getD i false = false) ∧ countT l = 0
  | [], _, _ => ⟨fun _ => rfl, rfl⟩
  | b :: l, k, h => by
    unfold firstT at h
    split at h
    · cases h
    · rename_i hb
      have hb' : b = false := by simpa using hb
      obtain ⟨h1, h2⟩ := firstT_none h
      subst hb'
      refine ⟨fun i => ?_, ?_⟩
      · cases i with
        | zero => rfl
        | succ i => exact h1 i
      · unfold countT at h2 ⊢
        simpa using h2

theorem finish_inv {s : CoreS} {cur oth : List Int} (I : Inv s cur oth NoI NoI) (hmv : s.moving = true) (hr : s.row.length = 0) (hx : s.r.tb.list = []) (hc : s.r.tc.first = none) (hs : ¬ s.scanOk = true) : Inv s.finishS cur [] NoI NoI := by
  obtain ⟨l, H, R, RO⟩ := I
  obtain ⟨n1, n2, n3, n4, n5, n6, n7, n8, n9, n10⟩ := l.nums
  have hrow : s.row = [] := List.length_eq_zero_iff.1 hr
  obtain ⟨f1, f2⟩ := firstT_none hc
  have hthn : ∀ b, ¬ s.inThen b := by
    rintro b (h | h)
    · rw [hx] at h; cases h
    · unfold CardS.marked at h
      rw [Bool.and_eq_true] at h
      rw [f1] at h
      cases h.2
  have hscan : s.y.cf + s.y.cu ≤ s.scan := by
    unfold CoreS.scanOk at hs
    rw [decide_eq_true_eq] at hs
    omega
  have ycf : s.y.drop.cf = s.y.cf ∧ s.y.drop.cu = s.y.cu ∧ s.y.drop.of = s.y.of ∧ s.y.drop.ou = 0 ∧ s.y.drop.f0 = s.y.f0 ∧ s.y.drop.f1 = s.y.f1 ∧ s.y.drop.words = s.y.words ∧ (s.y.drop.u0 = 0 ∨ s.y.drop.u0 = s.y.u0) ∧ (s.y.drop.u1 = 0 ∨ s.y.drop.u1 = s.y.u1) := by
    obtain ⟨a1, a2, a3, a4, a5, a6⟩ := s.y
    cases a6 <;> simp [YoungS.drop, YoungS.cf, YoungS.cu, YoungS.of, YoungS.ou]
  obtain ⟨y1, y2, y3, y4, y5, y6, y7, y8, y9⟩ := ycf
  have hu0 := l.u0
  have hu1 := l.u1
  refine ⟨⟨l.cf, l.ov, l.ob, l.ow, l.ol, y5.trans l.f0, y6.trans l.f1, y7.trans l.yw, ?_, ?_, l.wl, ?_, ?_, l.fit⟩, ⟨H.par, H.hdC, ?_, H.hdM, ?_, ?_, fun _ => rfl, ?_, ?_, H.ri⟩, ⟨?_, ?_, ?_, ?_, ?_⟩, RO.same rfl rfl⟩
  · show 0 ≤ s.y.drop.u0 ∧ s.y.drop.u0 ≤ s.C.nursery
    omega
  · show 0 ≤ s.y.drop.u1 ∧ s.y.drop.u1 ≤ s.C.nursery
    omega
  · show ORow s.ws s.y.drop.cf (s.y.drop.cf + s.y.drop.cu) cur
    rw [y1, y2]
    exact l.rc
  · show s.y.drop.of = s.y.drop.of + s.y.drop.ou
    omega
  · intro b hb; cases hb
  · rfl
  · intro h; cases h
  · intro h; cases h
  · show 2 * (s.row.length : Int) ≤ 0
    omega
  · intro b hb k k0 k1
    show refS s.ws b k = 0 ∨ InOld s (refS s.ws b k) ∨ refS s.ws b k ∈ cur ∨ _
    rcases R.rC b hb k k0 k1 with h | h | h | ⟨h1, h2, h3⟩
    · exact .inl h
    · exact .inr (.inl h)
    · exact .inr (.inr (.inl h))
    · have h4 := l.curIn hb
      have := (words_bounds s.ws b).1
      omega
  · intro b hb; cases hb
  · intro b hb k k0 k1
    show refS s.ws b k = 0 ∨ InOld s (refS s.ws b k) ∨ (refS s.ws b k ∈ cur ∧ (NoI b ∨ (headS s.ws b).noted = true ∨ b ∈ s.row)) ∨ _
    rcases R.rM b hb k k0 k1 with h | h | h | ⟨h1, h2, h3⟩
    · exact .inl h
    · exact .inr (.inl h)
    · exact .inr (.inr (.inl h))
    · rcases h3 with h3 | h3 | ⟨h3, h4⟩
      · exact h3.elim
      · rw [hrow] at h3; cases h3
      · exact absurd h4 (hthn b)
  · exact R.nt
  · intro _
    show s.r.left = 0
    unfold RemS.left
    rw [hx, f2]
    rfl

/-- each bit of a cycle -/
theorem step_inv {s : CoreS} {cur oth : List Int} (I : Inv s cur oth NoI NoI) : s.StepOk ∧ ∃ cur' oth', Inv s.minStep cur' oth' NoI NoI ∧ Kept s s.minStep ∧ (s.minB = true → oth' = oth ∧ (∀ b ∈ cur, b ∈ cur') ∧ s.minStep.moving = true) := by
  have hok : s.o.Ok := I.lay.ov.ok
  have hrl : s.row.length ≤ 1000000 := I.mv.row
  have key : (match s.which with
    | .none => True
    | .row => I64 s.rowHd ∧ ((s.o.sizeAt s.rowHd).isSome = true → s.unrow.ThrOk s.rowHd)
    | .buf x => I64 x ∧ (s.popBuf.isNoted x = true → (s.popBuf.unnote x).ThrOk x)
    | .card n => (s.popCard n).PartOk (s.cardStarts n)
    | .scan => I64 s.scan ∧ s.ThrOk s.scan
    | .finish => True) ∧ ∃ cur' oth', Inv (s.stepOf s.which) cur' oth' NoI NoI ∧ Kept s (s.stepOf s.which) ∧ (stepBOf s.which = true → oth' = oth ∧ (∀ b ∈ cur, b ∈ cur') ∧ (s.stepOf s.which).moving = true) := by
    unfold CoreS.which
    by_cases hmv : s.moving = false
    · rw [if_pos hmv]
      exact ⟨trivial, cur, oth, I, ⟨rfl, rfl, rfl, rfl⟩, fun h => by cases h⟩
    · rw [if_neg hmv]
      have hmv' : s.moving = true := by simpa using hmv
      by_cases hr : 0 < s.row.length
      · rw [if_pos hr]
        obtain ⟨h1, c1, I2, m, q1, q2, q3, q4, q5, q6⟩ := row_inv I hmv'
        refine ⟨⟨?_, h1⟩, c1, oth, I2, ⟨q1, q2, q3, q4⟩, fun _ => ⟨rfl, m, q5.trans hmv'⟩⟩
        have hm : s.rowHd ∈ s.row := by
          unfold CoreS.rowHd
          cases hq : s.row with
          | nil => rw [hq] at hr; simp at hr
          | cons x l => simp
        have := I.hds.ri _ hm
        exact ⟨by omega, by omega⟩
      · rw [if_neg hr]
        cases hx : s.r.tb.list with
        | cons x l =>
          obtain ⟨h1, c1, I2, m, K, q5, q6⟩ := buf_inv I hmv' hx
          refine ⟨⟨?_, h1⟩, c1, oth, I2, K, fun _ => ⟨rfl, m, q5⟩⟩
          exact I.rem.bi x (.inr (by rw [hx]; simp))
        | nil =>
          cases hf : s.r.tc.first with
          | some n =>
            obtain ⟨h1, c1, I2, m, K, q5, q6⟩ := card_inv I hmv' hx n
            exact ⟨h1, c1, oth, I2, K, fun _ => ⟨rfl, m, q5⟩⟩
          | none =>
            by_cases hs : s.scanOk = true
            · simp only [hs, if_true]
              obtain ⟨hsc, c1, L, I2, _⟩ := scan_inv I hmv' hs
              refine ⟨⟨?_, thr_ok I hmv' (.inl hsc)⟩, c1, oth, I2, ⟨L.C, L.t, L.parity, L.phase⟩, fun _ => ⟨rfl, L.mono, L.moving.trans hmv'⟩⟩
              have := I.lay.pos (.inl hsc)
              exact ⟨by omega, by omega⟩
            · simp only [hs]
              exact ⟨trivial, cur, [], finish_inv I hmv' (by omega) hx hf hs, ⟨rfl, rfl, rfl, rfl⟩, fun h => by cases h⟩
  exact ⟨⟨hok, hrl, key.1⟩, key.2⟩

end Go.Proofs.YtjjdjipohifgbaaGreat

/- The start of a cycle keeps what is true of objects, and asks nothing that is not so. No program in sight. Conditions: a core whose parts fit its configuration. -/
namespace Go.Proofs.YtjjdjipohifgbaaGreat
open Go.RowKit

theorem goneW_zero {ws : List Int} : ∀ {l : List Int}, (∀ a ∈ l, wayW ws a = a) → goneW ws l = 0
  | [], _ => rfl
  | a :: l, h => by
    rw [goneW_cons, if_pos (h a (List.mem_cons_self ..)), goneW_zero (fun b hb => h b (List.mem_cons_of_mem _ hb))]
    rfl
theorem countT_zero : ∀ {l : List Bool}, countT l = 0 → ∀ i, l.getD i false = false
  | [], _, _ => rfl
  | b :: l, h, i => by
    unfold countT at h
    cases b
    · cases i with
      | zero => rfl
      | succ i =>
        refine countT_zero (l := l) ?_ i
        unfold countT
        simpa using h
    · simp at h

theorem no_then {s : CoreS} (h : s.r.left = 0) (b : Int) : ¬ s.inThen b := by
  unfold RemS.left at h
  have h1 : s.r.tb.list.length = 0 := by omega
  have h2 : countT s.r.tc.marks = 0 := by omega
  rintro (h | h)
  · rw [List.length_eq_zero_iff.1 h1] at h
    cases h
  · unfold CardS.marked at h
    rw [Bool.and_eq_true, countT_zero h2] at h
    cases h.2

theorem rest_facts {s : CoreS} {cur oth : List Int} {E F : Int → Prop} (I : Inv s cur oth E F) (hmv : s.moving = false) : oth = [] ∧ s.y.ou = 0 ∧ s.row = [] ∧ s.r.left = 0 ∧ s.y.flipOk = true := by
  have h1 := I.hds.nm hmv
  subst h1
  have h2 := I.lay.ro
  simp only [ORow] at h2
  have h3 := I.hds.cp
  have h4 : goneW s.ws [] = 0 := rfl
  have h5 := I.hds.rl
  refine ⟨rfl, by omega, List.length_eq_zero_iff.1 (by omega), I.refs.tn hmv, ?_⟩
  unfold YoungS.flipOk
  rw [decide_eq_true_eq]
  omega

theorem begun_inv {s : CoreS} {cur oth : List Int} (I : Inv s cur oth NoI NoI) (hmv : s.moving = false) : Inv s.begun [] cur NoI NoI := by
  obtain ⟨r1, r2, r3, r4, r5⟩ := rest_facts I hmv
  subst r1
  obtain ⟨l, H, R, RO⟩ := I
  obtain ⟨n1, n2, n3, n4, n5, n6, n7, n8, n9, n10⟩ := l.nums
  have eR : s.begun.r = s.r.flip := by
    show (if s.r.left = 0 then s.r.flip else s.r) = _
    rw [if_pos r4]
  have ey : s.y.flip = { s.y with now := !s.y.now } := by unfold YoungS.flip; rw [if_pos r5]
  have yf : s.y.flip.cf = s.y.of ∧ s.y.flip.cu = s.y.ou ∧ s.y.flip.of = s.y.cf ∧ s.y.flip.ou = s.y.cu ∧ s.y.flip.f0 = s.y.f0 ∧ s.y.flip.f1 = s.y.f1 ∧ s.y.flip.u0 = s.y.u0 ∧ s.y.flip.u1 = s.y.u1 ∧ s.y.flip.words = s.y.words := by
    rw [ey]
    obtain ⟨a1, a2, a3, a4, a5, a6⟩ := s.y
    cases a6 <;> simp [YoungS.cf, YoungS.cu, YoungS.of, YoungS.ou]
  obtain ⟨y1, y2, y3, y4, y5, y6, y7, y8, y9⟩ := yf
  have hthn : ∀ b, s.inNow b → s.begun.inThen b := by
    intro b h
    unfold CoreS.inThen
    rw [eR]
    exact h
  have hnt : ∀ b, (s.o.sizeAt b).isSome = true → (headS s.ws b).noted = true → s.begun.inThen b := by
    intro b hb hn
    rcases R.nt b hb hn with h | h | h
    · exact hthn b h
    · exact absurd h (no_then r4 b)
    · exact h.elim
  obtain ⟨c1, c2, c3, c4⟩ := RO.nc
  refine ⟨⟨l.cf, l.ov, l.ob, l.ow, l.ol, y5.trans l.f0, y6.trans l.f1, y9.trans l.yw, by rw [show s.begun.y.u0 = s.y.u0 from y7]; exact l.u0, by rw [show s.begun.y.u1 = s.y.u1 from y8]; exact l.u1, l.wl, ?_, ?_, l.fit⟩, ⟨H.par, ?_, ?_, H.hdM, ?_, ?_, ?_, ?_, ?_, ?_⟩, ⟨?_, ?_, ?_, ?_, ?_⟩, ?_⟩
  · show s.y.flip.cf = s.y.flip.cf + s.y.flip.cu
    omega
  · show ORow s.ws s.y.flip.of (s.y.flip.of + s.y.flip.ou) cur
    rw [y3, y4]
    exact l.rc
  · intro b hb; cases hb
  · intro b hb
    obtain ⟨h1, h2, h3, h4⟩ := H.hdC b hb
    exact ⟨h1, h2, h3, .inl h4⟩
  · exact (goneW_zero fun b hb => (H.hdC b hb).2.2.2).symm
  · intro _
    show s.y.flip.ou - 0 ≤ s.y.flip.words - s.y.flip.cu
    have := l.yw
    omega
  · intro h; cases h
  · intro _
    refine ⟨Int.le_refl _, .inl ?_⟩
    show s.y.flip.cf = s.y.flip.cf + s.y.flip.cu
    omega
  · exact Int.le_refl _
  · intro b hb; cases hb
  · intro b hb; cases hb
  · intro b hb k k0 k1
    rcases R.rC b hb k k0 k1 with h | h | h | ⟨h1, _⟩
    · exact .inl h
    · exact .inr (.inl h)
    · exact .inr (.inr h)
    · rw [hmv] at h1; cases h1
  · intro b hb k k0 k1
    rcases R.rM b hb k k0 k1 with h | h | ⟨h1, h2⟩ | ⟨h1, _⟩
    · exact .inl h
    · exact .inr (.inl h)
    · refine .inr (.inr (.inr ⟨rfl, h1, .inr (.inr ?_)⟩))
      rcases h2 with h2 | h2 | h2
      · exact h2.elim
      · exact ⟨h2, hnt b hb h2⟩
      · rw [r3] at h2; cases h2
    · rw [hmv] at h1; cases h1
  · intro b hb hn
    exact .inr (.inl (hnt b hb hn))
  · intro h; cases h
  · have hp := Cfg.prod_small l.cf.small
    have hmb := many_bounds (words := s.C.pages * s.C.page) (card := s.C.card) (by omega) (by omega) l.cf.c1
    refine ⟨by rw [eR]; exact RO.base, by rw [eR]; exact RO.ws, by rw [eR]; exact RO.size, by rw [eR]; exact RO.most, ?_, by rw [eR]; exact RO.nc, ?_, ?_⟩
    · rw [eR]
      show s.r.base = _ ∧ s.r.words = _ ∧ s.r.size = _ ∧ ((List.replicate (CardS.many s.r.words s.r.size).toNat false).length : Int) = _
      rw [List.length_replicate, RO.ws, RO.size]
      exact ⟨RO.base, rfl, rfl, by show _ = CardS.many (s.C.pages * s.C.page) s.C.card; omega⟩
    · intro x hx
      rw [eR] at hx
      rcases hx with hx | hx
      · cases hx
      · exact RO.bi x (.inl hx)
    · rw [eR]
      have := l.cf.b1
      exact ⟨RO.most, RO.bm.1, this, RO.bm.2.2.1⟩

theorem Inv.setT {s : CoreS} {cur oth : List Int} {E F : Int → Prop} (I : Inv s cur oth E F) (t : List Int) : Inv { s with t := t } cur oth E F := by
  obtain ⟨l, H, R, RO⟩ := I
  exact ⟨⟨l.cf, l.ov, l.ob, l.ow, l.ol, l.f0, l.f1, l.yw, l.u0, l.u1, l.wl, l.rc, l.ro, l.fit⟩, ⟨H.par, H.hdC, H.hdO, H.hdM, H.cp, H.rm, H.nm, H.sc, H.rl, H.ri⟩, ⟨R.rC, R.rO, R.rM, R.nt, R.tn⟩, RO.same rfl rfl⟩

theorem tblSet_mem {l : List Int} {i v x : Int} (h : x ∈ tblSet l i v) : x ∈ l ∨ x = v := by
  unfold tblSet at h
  split at h
  · exact List.mem_or_eq_of_mem_set h
  · exact .inl h
theorem tblSet_len (l : List Int) (i v : Int) : (tblSet l i v).length = l.length := by
  unfold tblSet
  split <;> simp
theorem tblSet_get {l : List Int} {i : Nat} {v : Int} (hi : i < l.length) (j : Nat) : (tblSet l i v).getD j 0 = if j = i then v else l.getD j 0 := by
  have e : tblSet l (i : Int) v = l.set i v := by
    unfold tblSet tblOk
    rw [if_pos (by simp; omega)]
    simp
  rw [e]
  simp only [List.getD_eq_getElem?_getD]
  rw [List.getElem?_set]
  by_cases h : i = j
  · subst h
    simp [hi]
  · rw [if_neg h, if_neg (fun e => h e.symm)]

/-- the handles, one after the other -/
theorem handles_inv {s : CoreS} {oth cur : List Int} (I : Inv s cur oth NoI NoI) (hmv : s.moving = true) (ht : ∀ x ∈ s.t, OkRef s cur oth x) : ∀ k : Nat, k ≤ s.t.length →
    ∃ cur', Inv (s.handles s.t k) cur' oth NoI NoI ∧ (∀ b ∈ cur, b ∈ cur') ∧ (s.handles s.t k).C = s.C ∧ (s.handles s.t k).parity = s.parity ∧ (s.handles s.t k).phase = s.phase ∧ (s.handles s.t k).moving = true ∧ (s.handles s.t k).ws.length = s.ws.length ∧ (s.handles s.t k).t.length = s.t.length ∧
    (∀ j, j < k → NewRef (s.handles s.t k) cur' ((s.handles s.t k).t.getD j 0)) ∧ (∀ j, k ≤ j → (s.handles s.t k).t.getD j 0 = s.t.getD j 0) ∧ (k < s.t.length → (s.handles s.t k).MvAt (s.t.getD k 0))
  | 0, _ => by
    refine ⟨cur, I, fun _ h => h, rfl, rfl, rfl, hmv, rfl, rfl, fun j h => absurd h (by omega), fun _ _ => rfl, fun h => ?_⟩
    refine I.mvAt hmv (ht _ ?_)
    rw [List.getD_eq_getElem?_getD, List.getElem?_eq_getElem h]
    exact List.getElem_mem h
  | k + 1, hk => by
    obtain ⟨c1, I1, m1, a1, a2, a3, a4, a5, a6, a7, a8, a9⟩ := handles_inv I hmv ht k (by omega)
    have lift : ∀ {s' : CoreS} {cur' : List Int} {x : Int}, s'.C = s.C → s'.ws.length = s.ws.length → (∀ b ∈ cur, b ∈ cur') → OkRef s cur oth x → OkRef s' cur' oth x := by
      intro s' cur' x h1 h2 h3 h
      rcases h with h | h | h | h
      · exact .inl h
      · exact .inr (.inl (by unfold InOld at h ⊢; rw [h1, h2]; exact h))
      · exact .inr (.inr (.inl (h3 x h)))
      · exact .inr (.inr (.inr h))
    have hmem : ∀ j, j < s.t.length → s.t.getD j 0 ∈ s.t := by
      intro j hj
      rw [List.getD_eq_getElem?_getD, List.getElem?_eq_getElem hj]
      exact List.getElem_mem hj
    obtain ⟨c2, I2, M⟩ := move_inv I1 a4 (lift a1 a5 m1 (ht _ (hmem k (by omega))))
    have e1 : s.handles s.t (k + 1) = { (s.handles s.t k).move (s.t.getD k 0) with t := tblSet ((s.handles s.t k).move (s.t.getD k 0)).t k ((s.handles s.t k).moveV (s.t.getD k 0)) } := rfl
    have I3 := I2.setT (tblSet ((s.handles s.t k).move (s.t.getD k 0)).t k ((s.handles s.t k).moveV (s.t.getD k 0)))
    rw [← e1] at I3
    have eC : (s.handles s.t (k + 1)).C = s.C := M.C.trans a1
    have eW : (s.handles s.t (k + 1)).ws.length = s.ws.length := M.wl.trans a5
    have eM : (s.handles s.t (k + 1)).moving = true := M.moving.trans a4
    have eT : (s.handles s.t (k + 1)).t = tblSet ((s.handles s.t k).t) k ((s.handles s.t k).moveV (s.t.getD k 0)) := by
      rw [e1]
      show tblSet ((s.handles s.t k).move (s.t.getD k 0)).t k _ = _
      rw [M.t]
    have hg := fun j => tblSet_get (l := (s.handles s.t k).t) (i := k) (v := (s.handles s.t k).moveV (s.t.getD k 0)) (by omega) j
    refine ⟨c2, I3, fun b h => M.mono b (m1 b h), eC, M.parity.trans a2, M.phase.trans a3, eM, eW, by rw [eT, tblSet_len]; exact a6, ?_, ?_, ?_⟩
    · intro j hj
      rw [eT, hg]
      by_cases e : j = k
      · rw [if_pos e]
        exact NewRef.mono (by rw [eC, M.C, a1]) (by rw [eW, M.wl, a5]) (fun _ h => h) M.res
      · rw [if_neg e]
        exact NewRef.mono (by rw [eC, a1]) (by rw [eW, a5]) M.mono (a7 j (by omega))
    · intro j hj
      rw [eT, hg, if_neg (by omega)]
      exact a8 j (by omega)
    · intro h
      exact I3.mvAt eM (lift eC eW (fun b h => M.mono b (m1 b h)) (ht _ (hmem _ h)))

/-- handles hold what may be moved, and never one of the half that is emptied -/
def HdlIn (s : CoreS) (cur : List Int) : Prop := ∀ x ∈ s.t, NewRef s cur x

theorem start_inv {s : CoreS} {cur oth : List Int} (I : Inv s cur oth NoI NoI) (ht : HdlIn s cur) : s.HdlOk ∧ ∃ cur' oth', Inv s.startS cur' oth' NoI NoI ∧ HdlIn s.startS cur' ∧ s.startS.C = s.C ∧ s.startS.parity = s.parity ∧ s.startS.phase = s.phase ∧ s.startS.t.length = s.t.length ∧ s.startS.moving = true := by
  cases hmv : s.moving with
  | true =>
    have e0 : s.startOk = false := by simp [CoreS.startOk, hmv]
    have e1 : s.startS = s := by unfold CoreS.startS; rw [if_neg (by rw [e0]; decide)]
    rw [e1]
    exact ⟨fun h => (by rw [e0] at h; cases h), cur, oth, I, ht, rfl, rfl, rfl, rfl, hmv⟩
  | false =>
    obtain ⟨r1, r2, r3, r4, r5⟩ := rest_facts I hmv
    have e0 : s.startOk = true := by simp [CoreS.startOk, hmv, r5]
    have e1 : s.startS = s.begun.handles s.t s.t.length := by unfold CoreS.startS; rw [if_pos e0]
    have B := begun_inv I hmv
    have ht2 : ∀ x ∈ s.begun.t, OkRef s.begun [] cur x := by
      intro x hx
      rcases ht x hx with h | h | h
      · exact .inl h
      · exact .inr (.inl h)
      · exact .inr (.inr (.inr h))
    refine ⟨fun _ k hk => ?_, ?_⟩
    · obtain ⟨_, _, _, _, _, _, _, _, _, _, _, a9⟩ := handles_inv B rfl ht2 k (Nat.le_of_lt hk)
      exact a9 hk
    · obtain ⟨c1, I1, m1, a1, a2, a3, a4, a5, a6, a7, a8, a9⟩ := handles_inv B rfl ht2 s.t.length (Nat.le_refl _)
      rw [e1]
      refine ⟨c1, cur, I1, ?_, a1, a2, a3, a6, a4⟩
      intro x hx
      obtain ⟨j, hj, rfl⟩ := List.getElem_of_mem hx
      have h6 : (s.begun.handles s.t s.t.length).t.length = s.t.length := a6
      have : NewRef (s.begun.handles s.t s.t.length) c1 ((s.begun.handles s.t s.t.length).t.getD j 0) := a7 j (by omega)
      rw [List.getD_eq_getElem?_getD, List.getElem?_eq_getElem hj] at this
      exact this

end Go.Proofs.YtjjdjipohifgbaaGreat

/- What a heap's entries do keeps what is true of objects. No program in sight. Conditions: a core whose parts fit its configuration. -/
namespace Go.Proofs.YtjjdjipohifgbaaGreat
open Go.RowKit

/-- words that are changed, but no head, way or reference -/
theorem Inv.words {s : CoreS} {cur oth : List Int} {E F : Int → Prop} (I : Inv s cur oth E F) (ws' : List Int) (hl : ws'.length = s.ws.length)
    (h : ∀ b, IsO s cur oth b → rd ws' b = rd s.ws b ∧ wayW ws' b = wayW s.ws b ∧ ∀ k : Int, 0 ≤ k → k < (headS s.ws b).ptrs → refS ws' b k = refS s.ws b k) : Inv { s with ws := ws' } cur oth E F := by
  obtain ⟨l, H, R, RO⟩ := I
  have hd : ∀ b, IsO s cur oth b → headS ws' b = headS s.ws b := fun b hb => by rw [headS_eq, headS_eq, (h b hb).1]
  have hC : ∀ b, InOld { s with ws := ws' } b ↔ InOld s b := fun b => by unfold InOld; simp only [hl]
  refine ⟨⟨l.cf, l.ov, l.ob, l.ow, l.ol, l.f0, l.f1, l.yw, l.u0, l.u1, by rw [hl]; exact l.wl, ?_, ?_, ?_⟩, ⟨H.par, ?_, ?_, ?_, ?_, H.rm, H.nm, H.sc, H.rl, H.ri⟩, ⟨?_, ?_, ?_, ?_, R.tn⟩, RO.same rfl rfl⟩
  · exact l.rc.frame fun b hb => by rw [hd b (.inl hb)]
  · exact l.ro.frame fun b hb => by rw [hd b (.inr (.inl hb))]
  · intro b z hz
    show z = cellOf s.o.words (headS ws' b).words
    rw [hd b (.inr (.inr (by rw [hz]; rfl)))]
    exact l.fit b z hz
  · intro b hb
    show isHd (rd ws' b) = true ∧ (headS ws' b).old = false ∧ (headS ws' b).noted = false ∧ wayW ws' b = b
    have hb2 : IsO s cur oth b := .inl hb
    rw [(h b hb2).1, (h b hb2).2.1, hd b hb2]
    exact H.hdC b hb
  · intro b hb
    show isHd (rd ws' b) = true ∧ (headS ws' b).old = false ∧ (headS ws' b).noted = false ∧ (wayW ws' b = b ∨ wayW ws' b ∈ cur ∨ (s.o.sizeAt (wayW ws' b)).isSome = true)
    have hb2 : IsO s cur oth b := .inr (.inl hb)
    rw [(h b hb2).1, (h b hb2).2.1, hd b hb2]
    exact H.hdO b hb
  · intro b hb
    show isHd (rd ws' b) = true ∧ (headS ws' b).old = true ∧ wayW ws' b = b
    have hb2 : IsO s cur oth b := .inr (.inr hb)
    rw [(h b hb2).1, (h b hb2).2.1, hd b hb2]
    exact H.hdM b hb
  · show s.copied = goneW ws' oth
    rw [H.cp]
    exact (goneW_same fun b hb => ⟨(h b (.inr (.inl hb))).2.1, by rw [hd b (.inr (.inl hb))]⟩).symm
  · intro b hb k k0 k1
    have hb2 : IsO s cur oth b := .inl hb
    have k1' : k < (headS ws' b).ptrs := k1
    rw [hd b hb2] at k1'
    show RefC _ cur oth b (refS ws' b k)
    rw [(h b hb2).2.2 k k0 k1']
    rcases R.rC b hb k k0 k1' with h | h | h | h
    · exact .inl h
    · exact .inr (.inl ((hC _).2 h))
    · exact .inr (.inr (.inl h))
    · exact .inr (.inr (.inr h))
  · intro b hb k k0 k1
    have hb2 : IsO s cur oth b := .inr (.inl hb)
    have k1' : k < (headS ws' b).ptrs := k1
    rw [hd b hb2] at k1'
    show RefO _ oth (refS ws' b k)
    rw [(h b hb2).2.2 k k0 k1']
    rcases R.rO b hb k k0 k1' with h | h | h
    · exact .inl h
    · exact .inr (.inl ((hC _).2 h))
    · exact .inr (.inr h)
  · intro b hb k k0 k1
    have hb2 : IsO s cur oth b := .inr (.inr hb)
    have k1' : k < (headS ws' b).ptrs := k1
    rw [hd b hb2] at k1'
    show refS ws' b k = 0 ∨ InOld { s with ws := ws' } (refS ws' b k) ∨ (refS ws' b k ∈ cur ∧ (E b ∨ (headS ws' b).noted = true ∨ b ∈ s.row)) ∨ (s.moving = true ∧ refS ws' b k ∈ oth ∧ (E b ∨ b ∈ s.row ∨ ((headS ws' b).noted = true ∧ s.inThen b)))
    rw [hC, hd b hb2, (h b hb2).2.2 k k0 k1']
    exact R.rM b hb k k0 k1'
  · intro b hb hn
    have hn' : (headS ws' b).noted = true := hn
    rw [hd b (.inr (.inr hb))] at hn'
    exact R.nt b hb hn'

/-- one is no exception any more -/
theorem Inv.dropM {s : CoreS} {cur oth : List Int} {E F E' F' : Int → Prop} (I : Inv s cur oth E F) {a : Int} (he : ∀ b, b ≠ a → E b → E' b) (hf : ∀ b, F b → F' b)
    (hr : (s.o.sizeAt a).isSome = true → ∀ k : Int, 0 ≤ k → k < (headS s.ws a).ptrs → RefM s cur oth E' a (refS s.ws a k)) : Inv s cur oth E' F' := by
  refine ⟨I.lay, I.hds, ⟨I.refs.rC, I.refs.rO, ?_, ?_, I.refs.tn⟩, I.rem⟩
  · intro b hb k k0 k1
    by_cases e : b = a
    · subst e
      exact hr hb k k0 k1
    · rcases I.refs.rM b hb k k0 k1 with h | h | ⟨h1, h2⟩ | ⟨h1, h2, h3⟩
      · exact .inl h
      · exact .inr (.inl h)
      · exact .inr (.inr (.inl ⟨h1, h2.elim (fun h => .inl (he b e h)) .inr⟩))
      · exact .inr (.inr (.inr ⟨h1, h2, h3.elim (fun h => .inl (he b e h)) .inr⟩))
  · intro b hb hnb
    rcases I.refs.nt b hb hnb with h | h | h
    · exact .inl h
    · exact .inr (.inl h)
    · exact .inr (.inr (hf b h))

/-- a reference is set, as an entry does it -/
theorem put_inv {s : CoreS} {cur oth : List Int} (I : Inv s cur oth NoI NoI) {a k T : Int} (ha : a ∈ cur ∨ (s.o.sizeAt a).isSome = true) (k0 : 0 ≤ k) (k1 : k < (headS s.ws a).ptrs) (hT : NewRef s cur T) :
    Inv (if s.y.isIn T then ({ s with ws := stW s.ws (place a k) (u64 T) } : CoreS).note a else { s with ws := stW s.ws (place a k) (u64 T) }) cur oth NoI NoI := by
  have I1 : Inv s cur oth (fun b => b = a) NoI := I.weak (fun b h => h.elim) (fun b h => h)
  obtain ⟨I2, r1, r2, r3, r4, r5⟩ := setRef_inv I1 (a := a) (ha.elim .inl (fun h => .inr ⟨h, rfl⟩)) k0 k1 hT
  have hIa : IsO s cur oth a := ha.elim .inl (fun h => .inr (.inr h))
  obtain ⟨p1, p2, p3, p4⟩ := I.lay.pos hIa
  obtain ⟨b1, b2, b3, b4, b5⟩ := words_bounds s.ws a
  generalize hws : stW s.ws (place a k) (u64 T) = ws' at *
  have hlen : ws'.length = s.ws.length := by rw [← hws, len_st]
  have hC : ∀ b, InOld { s with ws := ws' } b ↔ InOld s b := fun b => by unfold InOld; simp only [hlen]
  have hother : ∀ j : Int, 0 ≤ j → j < (headS s.ws a).ptrs → j ≠ k → refS ws' a j = refS s.ws a j := by
    intro j j0 j1 jk
    rw [refS_eq (by omega) p3 j0 (by omega), refS_eq (by omega) p3 j0 (by omega), r5 j j0 (by omega) jk]
  by_cases hin : s.y.isIn T = true
  · rw [if_pos hin]
    have hTc : T ∈ cur := (hT.isIn I.lay).1 hin
    rcases ha with hc | ho
    · rw [note_young I2 hc]
      refine I2.dropM (a := a) (fun b hb h => absurd h hb) (fun b h => h) (fun h => ?_)
      exact absurd (.inr (I.lay.old_range h)) (I.lay.cur_old hc)
    · obtain ⟨I3, n1, n2, n3, n4, n5, n6, n7⟩ := note_inv I2 (a := a) ho
      obtain ⟨m1, m2, m3, m4, m5, m6, m7, m8, m9, m10, m11, m12, m13⟩ := note_others ({ s with ws := ws' } : CoreS) a
      have hIa2 : IsO ({ s with ws := ws' } : CoreS) cur oth a := .inr (.inr ho)
      have hp : (headS (({ s with ws := ws' } : CoreS).note a).ws a).ptrs = (headS s.ws a).ptrs := by
        rw [(n4 a hIa2).2.1]
        show (headS ws' a).ptrs = _
        rw [r3]
      have hI3 : ∀ b, InOld (({ s with ws := ws' } : CoreS).note a) b ↔ InOld s b := fun b => by
        rw [← hC b]
        unfold InOld
        rw [n2, m1]
      refine I3.dropM (a := a) (fun b hb h => absurd h hb) (fun b h => h) (fun _ j j0 j1 => ?_)
      rw [hp] at j1
      have hre : refS (({ s with ws := ws' } : CoreS).note a).ws a j = refS ws' a j := n3 a hIa2 j j0 (by show j < (headS ws' a).ptrs; rw [r3]; exact j1)
      rw [hre]
      by_cases e : j = k
      · subst e
        rw [r1]
        exact .inr (.inr (.inl ⟨hTc, .inr (.inl n1)⟩))
      · rw [hother j j0 j1 e]
        rcases I.refs.rM a ho j j0 j1 with h | h | ⟨h1, h2⟩ | ⟨h1, h2, h3⟩
        · exact .inl h
        · exact .inr (.inl ((hI3 _).2 h))
        · exact .inr (.inr (.inl ⟨h1, .inr (.inl n1)⟩))
        · refine .inr (.inr (.inr ⟨by rw [m5]; exact h1, h2, ?_⟩))
          rcases h3 with h3 | h3 | ⟨h3, h4⟩
          · exact h3.elim
          · exact .inr (.inl (by rw [m8]; exact h3))
          · exact .inr (.inr ⟨n1, (n7 a).2 h4⟩)
  · rw [if_neg hin]
    have hTc : T ∉ cur := fun h => hin ((hT.isIn I.lay).2 h)
    refine I2.dropM (a := a) (fun b hb h => absurd h hb) (fun b h => h) (fun ho j j0 j1 => ?_)
    have j1' : j < (headS ws' a).ptrs := j1
    rw [r3] at j1'
    show refS ws' a j = 0 ∨ InOld { s with ws := ws' } (refS ws' a j) ∨ (refS ws' a j ∈ cur ∧ (NoI a ∨ (headS ws' a).noted = true ∨ a ∈ s.row)) ∨ (s.moving = true ∧ refS ws' a j ∈ oth ∧ (NoI a ∨ a ∈ s.row ∨ ((headS ws' a).noted = true ∧ s.inThen a)))
    rw [hC, r3]
    by_cases e : j = k
    · subst e
      rw [r1]
      rcases hT with h | h | h
      · exact .inl h
      · exact .inr (.inl h)
      · exact absurd h hTc
    · rw [hother j j0 j1' e]
      exact I.refs.rM a ho j j0 j1'

/-- a scalar is written -/
theorem scal_inv {s : CoreS} {cur oth : List Int} {E F : Int → Prop} (I : Inv s cur oth E F) {a k v : Int} (ha : IsO s cur oth a) (k0 : (headS s.ws a).ptrs ≤ k) (k1 : k < (headS s.ws a).size) : Inv { s with ws := stW s.ws (place a k) v } cur oth E F := by
  obtain ⟨p1, p2, p3, p4⟩ := I.lay.pos ha
  obtain ⟨b1, b2, b3, b4, b5⟩ := words_bounds s.ws a
  rw [place_of (by omega) p3 (by omega) (by omega)]
  have hrd := fun j => rd_st (ws := s.ws) (i := a + 2 + k) (by omega) (by omega) v j
  refine I.words _ (len_st ..) ?_
  intro b hb
  obtain ⟨q1, q2, q3, q4⟩ := I.lay.pos hb
  obtain ⟨c1, c2, c3, c4, c5⟩ := words_bounds s.ws b
  by_cases e : b = a
  · subst e
    refine ⟨by rw [hrd, if_neg (by omega)], by rw [wayW_eq (by omega) q3, wayW_eq (by omega) q3, hrd, if_neg (by omega)], fun j j0 j1 => ?_⟩
    rw [refS_eq (by omega) q3 j0 (by omega), refS_eq (by omega) q3 j0 (by omega), hrd, if_neg (by omega)]
  · have := I.lay.apart hb ha e
    refine ⟨by rw [hrd, if_neg (by omega)], by rw [wayW_eq (by omega) q3, wayW_eq (by omega) q3, hrd, if_neg (by omega)], fun j j0 j1 => ?_⟩
    rw [refS_eq (by omega) q3 j0 (by omega), refS_eq (by omega) q3 j0 (by omega), hrd, if_neg (by omega)]

end Go.Proofs.YtjjdjipohifgbaaGreat

/- A new object keeps what is true of objects. No program in sight. Conditions: a core whose parts fit its configuration. -/
namespace Go.Proofs.YtjjdjipohifgbaaGreat
open Go.RowKit

/-- what a new object turned -/
structure MadeRes (s : CoreS) (cur oth : List Int) (p c : Int) (s' : CoreS) (t : Int) : Prop where
  inv : Inv s' (cur ++ [t]) oth NoI NoI
  at' : t = s.y.cf + s.y.cu
  new : ¬ IsO s cur oth t
  hd : headS s'.ws t = s.newHd p c
  ref : ∀ k : Int, 0 ≤ k → k < p + c → rd s'.ws (t + 2 + k) = 0
  rest : ∀ b, IsO s cur oth b → Same s.ws s'.ws b (headS s.ws b).words
  C : s'.C = s.C
  parity : s'.parity = s.parity
  phase : s'.phase = s.phase
  moving : s'.moving = s.moving
  o : s'.o = s.o
  wl : s'.ws.length = s.ws.length

theorem take_room {y : YoungS} {n : Int} (h1 : 1 ≤ n) (h2 : n ≤ y.room) : y.takeAt n = y.cf + y.cu ∧ (y.take n).cf = y.cf ∧ (y.take n).cu = y.cu + n ∧ (y.take n).of = y.of ∧ (y.take n).ou = y.ou ∧ (y.take n).f0 = y.f0 ∧ (y.take n).f1 = y.f1 ∧ (y.take n).words = y.words ∧ ((y.take n).u0 = y.u0 ∨ (y.take n).u0 = y.cu + n) ∧ ((y.take n).u1 = y.u1 ∨ (y.take n).u1 = y.cu + n) := by
  have hok : y.takeOk n = true := by simp [YoungS.takeOk, h1, h2]
  obtain ⟨a1, a2, a3, a4, a5, a6⟩ := y
  cases a6 <;> simp [YoungS.takeAt, YoungS.take, hok, YoungS.cf, YoungS.cu, YoungS.of, YoungS.ou]

theorem made_inv {s : CoreS} {cur oth : List Int} (I : Inv s cur oth NoI NoI) {p c : Int} (hp0 : 0 ≤ p) (hc0 : 0 ≤ c) (hpc : p + c ≤ 64) (hr : s.roomOk (p + c + 2) = true) (t' : List Int) (d' : StatS) :
    MadeRes s cur oth p c { s with ws := objMakeW s.ws (s.y.takeAt (p + c + 2)) (s.newHd p c), y := s.y.take (p + c + 2), t := t', done := d' } (s.y.takeAt (p + c + 2)) := by
  obtain ⟨l, H, R, RO⟩ := I
  obtain ⟨n1, n2, n3, n4, n5, n6, n7, n8, n9, n10⟩ := l.nums
  have hk : 0 ≤ s.kept ∧ (s.moving = true → s.kept = s.y.ou - s.copied) := by
    unfold CoreS.kept
    have := goneW_le l.ro
    have := H.cp
    split
    · exact ⟨by omega, fun _ => rfl⟩
    · rename_i h
      exact ⟨Int.le_refl _, fun h' => absurd h' h⟩
  have hroom : s.kept ≤ s.y.room - (p + c + 2) := by
    unfold CoreS.roomOk at hr
    rwa [decide_eq_true_eq] at hr
  obtain ⟨t1, t2, t3, t4, t5, t6, t7, t8, t9, t10⟩ := take_room (y := s.y) (n := p + c + 2) (by omega) (by omega)
  have hyw := l.yw
  have hrm : s.y.room = s.C.nursery - s.y.cu := by unfold YoungS.room; omega
  have hu0 := l.u0
  have hu1 := l.u1
  obtain ⟨t, ht⟩ : ∃ t, t = s.y.takeAt (p + c + 2) := ⟨_, rfl⟩
  have hg : (s.newHd p c).Good := by
    have := H.par
    unfold CoreS.newHd Hd.Good
    simp only
    omega
  have hw : (s.newHd p c).words = p + c + 2 := rfl
  rw [← ht] at t1 ⊢
  have hrd := fun j => rd_make (ws := s.ws) (i := t) hg (by omega) (by rw [hw]; omega) (by omega) j
  rw [hw] at hrd
  have hlen : (objMakeW s.ws t (s.newHd p c)).length = s.ws.length := by
    unfold objMakeW
    split
    · rename_i h
      rw [hasW_iff] at h
      have := Hd.words_nat hg
      rw [len_way, len_st, len_zero]
    · rfl
  generalize hws : objMakeW s.ws t (s.newHd p c) = ws' at *
  have hIO : ∀ b, IsO s cur oth b → b + (headS s.ws b).words ≤ t ∨ t + (p + c + 2) ≤ b := by
    intro b hb
    rcases hb with h | h | h
    · have := l.curIn h; omega
    · have := l.othIn h; omega
    · have := l.oldIn h; omega
  have hSame : ∀ b, IsO s cur oth b → Same s.ws ws' b (headS s.ws b).words := by
    intro b hb q q0 q1
    have := hIO b hb
    have := (words_bounds s.ws b).1
    rw [hrd, if_neg (by omega), if_neg (by omega), if_neg (by omega)]
  have sm : ∀ b, IsO s cur oth b → rd ws' b = rd s.ws b ∧ headS ws' b = headS s.ws b ∧ wayW ws' b = wayW s.ws b ∧ ∀ k : Int, 0 ≤ k → k < (headS s.ws b).ptrs → refS ws' b k = refS s.ws b k := by
    intro b hb
    have S := hSame b hb
    obtain ⟨p1, p2, p3, p4⟩ := l.pos hb
    obtain ⟨b1, b2, b3, b4, b5⟩ := words_bounds s.ws b
    exact ⟨S b (by omega) (by omega), S.head (by omega), S.way (by omega) (by omega) p3, fun k k0 k1 => S.ref (by omega) p3 k0 (by omega) (by omega)⟩
  have rdT : rd ws' t = (s.newHd p c).enc := by rw [hrd, if_pos rfl]
  have hdT : headS ws' t = s.newHd p c := by rw [headS_eq, rdT, unH_enc hg]
  have wyT : wayW ws' t = t := by
    rw [wayW_eq (by omega) (by omega), hrd, if_neg (by omega), if_pos rfl]
    exact wrap_of ⟨by omega, by omega⟩
  have fldT : ∀ k : Int, 0 ≤ k → k < p + c → rd ws' (t + 2 + k) = 0 := by
    intro k k0 k1
    rw [hrd, if_neg (by omega), if_neg (by omega), if_pos (by omega)]
  have hnew : ¬ IsO s cur oth t := by
    intro h
    have := hIO t h
    have := (words_bounds s.ws t).1
    omega
  have hcur : ∀ b, b ∈ cur ++ [t] ↔ b ∈ cur ∨ b = t := fun b => by simp
  have hC : ∀ b, InOld { s with ws := ws', y := s.y.take (p + c + 2), t := t', done := d' } b ↔ InOld s b := fun b => by unfold InOld; simp only [hlen]
  have hsT : (s.newHd p c).ptrs = p := rfl
  refine ⟨⟨⟨l.cf, l.ov, l.ob, l.ow, l.ol, t6.trans l.f0, t7.trans l.f1, t8.trans l.yw, ?_, ?_, by rw [hlen]; exact l.wl, ?_, ?_, ?_⟩, ⟨H.par, ?_, ?_, ?_, ?_, ?_, H.nm, ?_, H.rl, H.ri⟩, ⟨?_, ?_, ?_, ?_, R.tn⟩, RO.same rfl rfl⟩, t1, hnew, hdT, fldT, hSame, rfl, rfl, rfl, rfl, rfl, hlen⟩
  · show 0 ≤ (s.y.take (p + c + 2)).u0 ∧ (s.y.take (p + c + 2)).u0 ≤ s.C.nursery
    omega
  · show 0 ≤ (s.y.take (p + c + 2)).u1 ∧ (s.y.take (p + c + 2)).u1 ≤ s.C.nursery
    omega
  · show ORow ws' (s.y.take (p + c + 2)).cf ((s.y.take (p + c + 2)).cf + (s.y.take (p + c + 2)).cu) (cur ++ [t])
    have h1 : ORow ws' s.y.cf t cur := by
      rw [t1]
      exact l.rc.frame fun b hb => by rw [(sm b (.inl hb)).2.1]
    have h2 := h1.snoc
    rw [hdT, hw] at h2
    rw [t2, t3, show s.y.cf + (s.y.cu + (p + c + 2)) = t + (p + c + 2) by omega]
    exact h2
  · show ORow ws' (s.y.take (p + c + 2)).of ((s.y.take (p + c + 2)).of + (s.y.take (p + c + 2)).ou) oth
    rw [t4, t5]
    exact l.ro.frame fun b hb => by rw [(sm b (.inr (.inl hb))).2.1]
  · intro b z hz
    show z = cellOf s.o.words (headS ws' b).words
    rw [(sm b (.inr (.inr (by rw [hz]; rfl)))).2.1]
    exact l.fit b z hz
  · intro b hb
    show isHd (rd ws' b) = true ∧ (headS ws' b).old = false ∧ (headS ws' b).noted = false ∧ wayW ws' b = b
    rcases (hcur b).1 hb with hb | rfl
    · obtain ⟨q1, q2, q3, _⟩ := sm b (.inl hb)
      rw [q1, q2, q3]
      exact H.hdC b hb
    · rw [rdT, hdT]
      exact ⟨isHd_enc hg, rfl, rfl, wyT⟩
  · intro b hb
    show isHd (rd ws' b) = true ∧ (headS ws' b).old = false ∧ (headS ws' b).noted = false ∧ (wayW ws' b = b ∨ wayW ws' b ∈ cur ++ [t] ∨ (s.o.sizeAt (wayW ws' b)).isSome = true)
    obtain ⟨q1, q2, q3, _⟩ := sm b (.inr (.inl hb))
    obtain ⟨h1, h2, h3, h4⟩ := H.hdO b hb
    rw [q1, q2, q3]
    exact ⟨h1, h2, h3, h4.elim .inl (fun h => h.elim (fun h => .inr (.inl ((hcur _).2 (.inl h)))) (fun h => .inr (.inr h)))⟩
  · intro b hb
    show isHd (rd ws' b) = true ∧ (headS ws' b).old = true ∧ wayW ws' b = b
    obtain ⟨q1, q2, q3, _⟩ := sm b (.inr (.inr hb))
    rw [q1, q2, q3]
    exact H.hdM b hb
  · show s.copied = goneW ws' oth
    rw [H.cp]
    exact (goneW_same fun b hb => by obtain ⟨q1, q2, q3, _⟩ := sm b (.inr (.inl hb)); exact ⟨q3, by rw [q2]⟩).symm
  · intro hm
    have hm' : s.moving = true := hm
    have := hk.2 hm'
    show (s.y.take (p + c + 2)).ou - s.copied ≤ (s.y.take (p + c + 2)).words - (s.y.take (p + c + 2)).cu
    omega
  · intro hm
    obtain ⟨c1, c2⟩ := H.sc hm
    show (s.y.take (p + c + 2)).cf ≤ s.scan ∧ (s.scan = (s.y.take (p + c + 2)).cf + (s.y.take (p + c + 2)).cu ∨ s.scan ∈ cur ++ [t])
    refine ⟨by omega, .inr ?_⟩
    rcases c2 with h | h
    · exact (hcur _).2 (.inr (by omega))
    · exact (hcur _).2 (.inl h)
  · intro b hb k k0 k1
    have k1' : k < (headS ws' b).ptrs := k1
    show RefC _ (cur ++ [t]) oth b (refS ws' b k)
    rcases (hcur b).1 hb with hb | rfl
    · obtain ⟨q1, q2, q3, q4⟩ := sm b (.inl hb)
      rw [q2] at k1'
      rw [q4 k k0 k1']
      rcases R.rC b hb k k0 k1' with h | h | h | h
      · exact .inl h
      · exact .inr (.inl ((hC _).2 h))
      · exact .inr (.inr (.inl ((hcur _).2 (.inl h))))
      · exact .inr (.inr (.inr h))
    · left
      rw [hdT, hsT] at k1'
      rw [refS_eq (by omega) (by omega) k0 (by omega), fldT k k0 (by omega)]
      exact wrap_of ⟨by omega, by omega⟩
  · intro b hb k k0 k1
    have k1' : k < (headS ws' b).ptrs := k1
    show RefO _ oth (refS ws' b k)
    obtain ⟨q1, q2, q3, q4⟩ := sm b (.inr (.inl hb))
    rw [q2] at k1'
    rw [q4 k k0 k1']
    rcases R.rO b hb k k0 k1' with h | h | h
    · exact .inl h
    · exact .inr (.inl ((hC _).2 h))
    · exact .inr (.inr h)
  · intro b hb k k0 k1
    have k1' : k < (headS ws' b).ptrs := k1
    obtain ⟨q1, q2, q3, q4⟩ := sm b (.inr (.inr hb))
    rw [q2] at k1'
    show refS ws' b k = 0 ∨ InOld { s with ws := ws', y := s.y.take (p + c + 2), t := t', done := d' } (refS ws' b k) ∨ (refS ws' b k ∈ cur ++ [t] ∧ (NoI b ∨ (headS ws' b).noted = true ∨ b ∈ s.row)) ∨ (s.moving = true ∧ refS ws' b k ∈ oth ∧ (NoI b ∨ b ∈ s.row ∨ ((headS ws' b).noted = true ∧ s.inThen b)))
    rw [hC, q2, q4 k k0 k1']
    rcases R.rM b hb k k0 k1' with h | h | ⟨h1, h2⟩ | h
    · exact .inl h
    · exact .inr (.inl h)
    · exact .inr (.inr (.inl ⟨(hcur _).2 (.inl h1), h2⟩))
    · exact .inr (.inr (.inr h))
  · intro b hb hn
    have hn' : (headS ws' b).noted = true := hn
    rw [(sm b (.inr (.inr hb))).2.1] at hn'
    exact R.nt b hb hn'

theorem count_none (n : Nat) : countT (List.replicate n false) = 0 := by
  unfold countT
  induction n with
  | zero => rfl
  | succ n ih => simp [List.replicate_succ]

/-- a new heap -/
theorem new_inv {c : Cfg} (h : c.Fits) : Inv (coreNew c) [] [] NoI NoI := by
  have hp := Cfg.prod_small h.small
  have hn1 := h.n1
  have hn2 := h.n2
  have hm : c.mature = 1 + 2 * c.nursery := rfl
  have hmb := many_bounds (words := c.pages * c.page) (card := c.card) (by omega) (by omega) h.c1
  have hno : ∀ a, (coreNew c).o.sizeAt a = none := fun a => newMat_none (by omega) h.g1 h.g2 _ a
  have hno2 : ∀ a, ((coreNew c).o.sizeAt a).isSome = true → False := fun a ha => by rw [hno] at ha; cases ha
  have hcard : ((cardNew c.mature (c.pages * c.page) c.card).marks.length : Int) = CardS.many (c.pages * c.page) c.card := by
    unfold cardNew
    simp only [List.length_replicate]
    omega
  refine ⟨⟨h, newMat_V (by omega) h.g1 h.g2 _, rfl, rfl, ?_, rfl, rfl, rfl, ⟨Int.le_refl _, by show (0 : Int) ≤ c.nursery; omega⟩, ⟨Int.le_refl _, by show (0 : Int) ≤ c.nursery; omega⟩, ?_, ?_, ?_, ?_⟩, ⟨.inl rfl, ?_, ?_, ?_, rfl, ?_, fun _ => rfl, ?_, Int.le_refl _, ?_⟩, ⟨?_, ?_, ?_, ?_, ?_⟩, ⟨rfl, rfl, rfl, rfl, ⟨rfl, rfl, rfl, hcard⟩, ⟨rfl, rfl, rfl, hcard⟩, ?_, ⟨rfl, rfl, h.b1, h.b1⟩⟩⟩
  · show ((List.replicate c.pages.toNat pg0).length : Int) = c.pages
    rw [List.length_replicate]
    have := h.p1
    omega
  · show ((List.replicate c.words.toNat 0).length : Int) = c.words
    rw [List.length_replicate]
    have : c.words = c.mature + c.pages * c.page := rfl
    omega
  · show (1 : Int) = 1 + 0
    omega
  · show (1 + c.nursery : Int) = 1 + c.nursery + 0
    omega
  · intro a z hz
    rw [hno] at hz
    cases hz
  · intro a ha; cases ha
  · intro a ha; cases ha
  · intro a ha; exact (hno2 a ha).elim
  · intro hh; cases hh
  · intro hh; cases hh
  · intro a ha; cases ha
  · intro a ha; cases ha
  · intro a ha; cases ha
  · intro a ha; exact (hno2 a ha).elim
  · intro a ha; exact (hno2 a ha).elim
  · intro _
    show RemS.left _ = 0
    have := count_none (CardS.many (c.pages * c.page) c.card).toNat
    show ((([] : List Int).length : Nat) : Int) + ((countT (List.replicate (CardS.many (c.pages * c.page) c.card).toNat false) : Nat) : Int) = 0
    rw [this]
    rfl
  · intro x hx
    rcases hx with hx | hx <;> cases hx

end Go.Proofs.YtjjdjipohifgbaaGreat
