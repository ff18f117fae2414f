/- Numbers' texts: what Atoi and ParseUint make of them. Condition: the library's variables are as its text lays them. -/
import Derived.Test.YtnmbehogiioonaaDoorT23Plain
import Derived.Shelf.Strconv.AtoiAll
import Derived.Shelf.Pu.ParseUintPublic10
set_option linter.unusedVariables false
set_option linter.unusedSimpArgs false
namespace Go.Proofs.YtnmbehogiioonaaDoor
open Go.RowKit Go.Shelf Go.Lib

theorem parseUint10_append : ∀ (l m : List UInt8) (a b : Nat), parseUint10 a l = .ok b → parseUint10 a (l ++ m) = parseUint10 b m
  | [], m, a, b, h => by simp only [parseUint10] at h; injection h with h; subst h; rfl
  | c :: r, m, a, b, h => by
    simp only [parseUint10, List.cons_append] at h ⊢
    split at h
    · rename_i h1
      rw [if_pos h1]
      split at h
      · cases h
      · rename_i h2
        rw [if_neg h2]
        split at h
        · cases h
        · rename_i h3
          rw [if_neg h3]
          exact parseUint10_append r m _ b h
    · cases h
theorem digit_nat (k : Nat) (h : k < 10) : (UInt8.ofNat (48 + k)).toNat = 48 + k := by
  rcases (by omega : k = 0 ∨ k = 1 ∨ k = 2 ∨ k = 3 ∨ k = 4 ∨ k = 5 ∨ k = 6 ∨ k = 7 ∨ k = 8 ∨ k = 9) with rfl | rfl | rfl | rfl | rfl | rfl | rfl | rfl | rfl | rfl <;> rfl
theorem parse_dec (u : Nat) (hu : u < 18446744073709551616) : parseUint10 0 (decDigits u) = .ok u := by
  induction u using Nat.strongRecOn with
  | _ u ih =>
    rw [decDigits]
    split
    · rename_i h
      have := digit_nat u h
      simp only [parseUint10, this]
      rw [if_pos (by omega), if_neg (by omega), if_neg (by omega)]
      congr 1; omega
    · rename_i h
      rw [parseUint10_append _ _ _ _ (ih (u / 10) (by omega) (by omega))]
      have := digit_nat (u % 10) (by omega)
      simp only [parseUint10, this]
      rw [if_pos (by omega), if_neg (by omega), if_neg (by omega)]
      congr 1; omega
theorem parseM_eq : ∀ (l : List UInt8) (a : Nat), parseUintM (2 ^ 64 - 1) a l = parseUint10 a l
  | [], a => rfl
  | c :: r, a => by
    simp only [parseUint10, parseUintM]
    split
    · split
      · rfl
      · by_cases h : 18446744073709551616 ≤ a * 10 + (c.toNat - 48)
        · rw [if_pos h, if_pos (by omega)]
        · rw [if_neg h, if_neg (by omega), parseM_eq r]
    · rfl
theorem dec_ne (u : Nat) : decDigits u ≠ [] := by
  rw [decDigits]
  split <;> simp
theorem dec_dig (u : Nat) : ∀ c ∈ decDigits u, isDig c.toNat = true := by
  induction u using Nat.strongRecOn with
  | _ u ih =>
    intro c hc
    rw [decDigits] at hc
    split at hc
    · rename_i h
      simp at hc
      subst hc
      have := digit_nat u h
      simp only [isDig, this]
      simp; omega
    · simp at hc
      rcases hc with hc | rfl
      · exact ih (u / 10) (by omega) c hc
      · have := digit_nat (u % 10) (by omega)
        simp only [isDig, this]
        simp; omega
theorem isDig_iff {c : Nat} : isDig c = true ↔ 48 ≤ c ∧ c ≤ 57 := by simp [isDig]
theorem pu_dec (u : Nat) (hu : u < 18446744073709551616) : parseUintB 64 (decDigits u) = .ok u := by
  unfold parseUintB
  rw [if_neg (dec_ne u), parseM_eq, parse_dec u hu]
theorem atoi_itoa (n : Int) (hn : I64 n) : atoiAll (itoa n) = .ok n := by
  obtain ⟨h0, h1⟩ := hn
  by_cases h : n < 0
  · have e : itoa n = 45 :: decDigits n.natAbs := by unfold itoa; rw [if_pos h]
    rw [e]
    have hp : parseMag (decDigits n.natAbs) = .ok n.natAbs := by unfold parseMag; rw [if_neg (dec_ne _), parse_dec _ (by omega)]
    simp only [atoiAll]
    rw [if_pos (Or.inr (by decide))]
    simp only [hp]
    rw [if_neg (by simp), if_neg (by omega)]
    simp
    omega
  · have e : itoa n = decDigits n.toNat := by unfold itoa; rw [if_neg h]
    rw [e]
    have hp : parseMag (decDigits n.toNat) = .ok n.toNat := by unfold parseMag; rw [if_neg (dec_ne _), parse_dec _ (by omega)]
    cases hd : decDigits n.toNat with
    | nil => exact absurd hd (dec_ne _)
    | cons c r =>
      have hc := dec_dig n.toNat c (by rw [hd]; simp)
      rw [isDig_iff] at hc
      rw [hd] at hp
      simp only [atoiAll]
      rw [if_neg (by omega)]
      simp only [hp]
      rw [if_neg (by omega), if_neg (by omega), if_neg (by omega)]
      congr 1; omega
theorem itoa_inj {n m : Int} (hn : I64 n) (hm : I64 m) (h : itoa n = itoa m) : n = m := by
  have h1 := atoi_itoa n hn
  rw [h, atoi_itoa m hm] at h1
  injection h1 with h1
  exact h1.symm
theorem dec_inj {n m : Nat} (hn : n < 18446744073709551616) (hm : m < 18446744073709551616) (h : decDigits n = decDigits m) : n = m := by
  have h1 := parse_dec n hn
  rw [h, parse_dec m hm] at h1
  injection h1 with h1
  exact h1.symm
theorem plain_digits : ∀ (l : List UInt8) (n : Nat), (∀ c ∈ l, isDig c.toNat = true) → plainGo false l n = decide (0 < n + l.length)
  | [], n, _ => rfl
  | c :: r, n, h => by
    simp only [plainGo]
    rw [if_neg (by simp), if_pos (h c (by simp)), plain_digits r (n + 1) (fun d hd => h d (by simp [hd]))]
    congr 1
    simp only [List.length_cons]
    apply propext; omega
theorem plain_itoa (n : Int) : plainL (itoa n) = true := by
  by_cases h : n < 0
  · have e : itoa n = 45 :: decDigits n.natAbs := by unfold itoa; rw [if_pos h]
    have hl := List.length_pos_iff.2 (dec_ne n.natAbs)
    rw [e]
    unfold plainL
    simp only [plainGo]
    rw [if_pos ⟨trivial, by decide⟩, plain_digits _ _ (dec_dig _)]
    simp; omega
  · have e : itoa n = decDigits n.toNat := by unfold itoa; rw [if_neg h]
    rw [e]
    cases hd : decDigits n.toNat with
    | nil => exact absurd hd (dec_ne _)
    | cons c r =>
      have hc := dec_dig n.toNat c (by rw [hd]; simp)
      have hr : ∀ d ∈ r, isDig d.toNat = true := fun d hd' => dec_dig n.toNat d (by rw [hd]; simp [hd'])
      unfold plainL
      simp only [plainGo]
      have hc2 := isDig_iff.1 hc
      rw [if_neg (by omega), if_pos hc, plain_digits _ _ hr]
      simp; omega
/-- a number's text has no blank, no end of line -/
theorem itoa_no (n : Int) : ∀ c ∈ itoa n, 45 ≤ c.toNat ∧ c.toNat ≤ 57 := by
  intro c hc
  unfold itoa at hc
  split at hc
  · simp only [List.mem_cons] at hc
    rcases hc with rfl | hc
    · decide
    · have := isDig_iff.1 (dec_dig _ c hc); omega
  · have := isDig_iff.1 (dec_dig _ c hc); omega

def atoiV (l : List UInt8) : Int := match atoiAll l with | .ok v => v | .syntax => 0 | .range => atoiSat l
def puV (l : List UInt8) : Nat := match parseUintB 64 l with | .ok v => v | .syntax => 0 | .range => 18446744073709551615
theorem atoiV_itoa (n : Int) (hn : I64 n) : atoiV (itoa n) = n := by unfold atoiV; rw [atoi_itoa n hn]
theorem puV_dec (n : Nat) (hn : n < 18446744073709551616) : puV (decDigits n) = n := by unfold puV; rw [pu_dec n hn]
theorem atoiV_I64 (l : List UInt8) : I64 (atoiV l) := by
  unfold atoiV
  cases h : atoiAll l with
  | «syntax» => show I64 0; exact ⟨by decide, by decide⟩
  | range => show I64 (atoiSat l); unfold atoiSat; split <;> exact ⟨by decide, by decide⟩
  | ok v =>
    show I64 v
    cases l with
    | nil => cases h
    | cons c r =>
      simp only [atoiAll] at h
      split at h
      · cases h
      · cases h
      · split at h
        · cases h
        · split at h
          · cases h
          · injection h with h
            subst h
            unfold I64
            split <;> omega
theorem puV_lt (l : List UInt8) : puV l < 18446744073709551616 := by
  unfold puV
  cases h : parseUintB 64 l with
  | «syntax» => decide
  | range => decide
  | ok v =>
    show v < _
    unfold parseUintB at h
    split at h
    · cases h
    · rw [parseM_eq] at h; exact parseUint10_lt _ _ _ (by decide) h

abbrev ErrIs (w : World) (s : String) : Prop := ∃ tp p, w.var? Tryd.prog s = some #[.iface tp p]
abbrev MaxIs (w : World) : Prop := ∃ m, w.cell? ⟨0, 0, none⟩ = some (.int .i64 m)
structure Laid (w : World) : Prop where
  mx : MaxIs w
  tab : Tab w
  syn : ErrIs w "strconv.ErrSyntax"
  rng : ErrIs w "strconv.ErrRange"
theorem err_upd {w w' : World} {s : String} (h : ErrIs w s) {k : Hp} (u : Upd [] k w w') : ErrIs w' s := by
  obtain ⟨tp, p, h⟩ := h
  refine ⟨tp, p, ?_⟩
  unfold World.var? at *
  cases hg : (Tryd.prog).globalNamed s with
  | none => simp [hg] at h
  | some g =>
    simp only [hg, Option.bind_some] at h ⊢
    have hlt : g < w.heap.size := by
      rcases Nat.lt_or_ge g w.heap.size with h' | h'
      · exact h'
      · rw [Array.getElem?_eq_none h'] at h; simp at h
    rw [u.frame g hlt (by simp)]
    exact h
theorem max_upd {w w' : World} (h : MaxIs w) {k : Hp} (u : Upd [] k w w') : MaxIs w' := by
  obtain ⟨m, h⟩ := h
  have hlt : 0 < w.heap.size := World.block_lt_of_cell? w _ h
  exact ⟨m, by rw [← h]; simp [World.cell?, u.frame _ hlt (by simp)]⟩
theorem Laid.upd {w w' : World} (h : Laid w) {k : Hp} (u : Upd [] k w w') : Laid w' := ⟨max_upd h.mx u, tab_upd h.tab u, err_upd h.syn u, err_upd h.rng u⟩

theorem upd_bytes (w : World) (t : TypeId) (s : ByteArray) : Upd [] [] w (Lib.bytesWorld w t s) := upd_of_below (bytesWorld_below w t s)
theorem atoi_call (l : List UInt8) (hl : l.length ≤ 1000000000000) (w : World) (hL : Laid w) : Calls Tryd.prog 30 #[.string ⟨l.toArray⟩] w fun e w' => ∃ ev, e = .returned (.tuple #[.int .i64 (atoiV l), ev]) ∧ Upd [] [] w w' := by
  obtain ⟨tp, p, hs⟩ := hL.syn
  obtain ⟨tq, q, hr⟩ := hL.rng
  have hsz : (⟨l.toArray⟩ : ByteArray).size = l.length := rfl
  have hd : (⟨l.toArray⟩ : ByteArray).data.toList = l := by simp
  cases h : atoiAll l with
  | ok v =>
    refine Calls.mono (Any.strconv_Atoi_ok Tryd.laysAtoi ⟨l.toArray⟩ (by omega) v (by rw [hd]; exact h) w) ?_
    rintro e w' ⟨rfl, hw⟩
    refine ⟨_, by unfold atoiV; rw [h], ?_⟩
    rcases hw with rfl | ⟨t, rfl⟩
    · exact Upd.refl (In.nil _)
    · exact upd_bytes _ _ _
  | «syntax» =>
    refine Calls.mono (Any.strconv_Atoi_syntax_var Tryd.laysAtoi ⟨l.toArray⟩ (by omega) (by rw [hd]; exact h) tp p w hs) ?_
    rintro e w' ⟨N, rfl, _, _, b⟩
    exact ⟨_, by unfold atoiV; rw [h], upd_of_below b⟩
  | range =>
    refine Calls.mono (Any.strconv_Atoi_range_var Tryd.laysAtoi ⟨l.toArray⟩ (by omega) (by rw [hd]; exact h) tq q w hr) ?_
    rintro e w' ⟨N, rfl, _, _, b⟩
    exact ⟨_, by unfold atoiV; rw [h, hd], upd_of_below b⟩
theorem pu_call (l : List UInt8) (hl : l.length ≤ 1000000000000) (w : World) (hL : Laid w) : Calls Tryd.prog 31 #[.string ⟨l.toArray⟩, .int .i64 10, .int .i64 64] w fun e w' => ∃ ev, e = .returned (.tuple #[.int .u64 (puV l), ev]) ∧ Upd [] [] w w' := by
  obtain ⟨tp, p, hs⟩ := hL.syn
  obtain ⟨tq, q, hr⟩ := hL.rng
  have hsz : (⟨l.toArray⟩ : ByteArray).size = l.length := rfl
  have hd : (⟨l.toArray⟩ : ByteArray).data.toList = l := by simp
  cases h : parseUintB 64 l with
  | ok v =>
    refine Calls.mono (Any.strconv_ParseUint_10_at64_ok Tryd.laysParseUint ⟨l.toArray⟩ (by omega) v (by rw [hd]; exact h) w) ?_
    rintro e w' ⟨rfl, hw⟩
    refine ⟨_, by unfold puV; rw [h], ?_⟩
    rcases hw with rfl | rfl
    · exact Upd.refl (In.nil _)
    · exact upd_bytes _ _ _
  | «syntax» =>
    refine Calls.mono (Any.strconv_ParseUint_10_at64_syntax_var Tryd.laysParseUint ⟨l.toArray⟩ (by omega) (by rw [hd]; exact h) tp p w hs) ?_
    rintro e w' ⟨N, rfl, _, _, b⟩
    exact ⟨_, by unfold puV; rw [h]; rfl, upd_of_below b⟩
  | range =>
    refine Calls.mono (Any.strconv_ParseUint_10_at64_range_var Tryd.laysParseUint ⟨l.toArray⟩ (by omega) (by rw [hd]; exact h) tq q w hr) ?_
    rintro e w' ⟨N, rfl, _, _, b⟩
    exact ⟨_, by unfold puV; rw [h]; rfl, upd_of_below b⟩

end Go.Proofs.YtnmbehogiioonaaDoor
