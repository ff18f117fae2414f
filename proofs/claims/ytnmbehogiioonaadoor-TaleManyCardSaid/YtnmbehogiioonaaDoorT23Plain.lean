/- Whether a text is digits, perhaps behind a sign. Condition: the text is no longer than 2^40 bytes. -/
import Derived.Test.YtnmbehogiioonaaDoorT23Words
import Derived.Laws.RangeAny
set_option linter.unusedVariables false
set_option linter.unusedSimpArgs false
namespace Go.Proofs.YtnmbehogiioonaaDoor
open Go.RowKit Go.Shelf Go.Lib

def isDig (c : Nat) : Bool := decide (48 ≤ c) && decide (c ≤ 57)
def plainGo : Bool → List UInt8 → Nat → Bool
  | _, [], n => decide (0 < n)
  | f, c :: r, n => if f = true ∧ c.toNat = 45 then plainGo false r n else if isDig c.toNat then plainGo false r (n + 1) else false
def plainL (s : List UInt8) : Bool := plainGo true s 0

set_option maxRecDepth 100000 in
theorem tale_digit (c : Int) (w : World) : Calls Tryd.prog 42 #[.int .i32 c] w fun e w' => e = .returned (.bool (decide (48 ≤ c) && decide (c ≤ 57))) ∧ w' = w := by
  go_enter Tryd.func42, Tryd.ntmps42
  by_cases h1 : 48 ≤ c
  · by_cases h2 : c ≤ 57
    · go_wp2
      go_ret
      simp [h1, h2]
    · go_wp2
      go_ret
      simp [h1, h2]
  · go_wp2
    go_ret
    simp [h1]
    omega

theorem tale_digit_no (c : Int) (h : ¬ (48 ≤ c ∧ c ≤ 57)) (w : World) : Calls Tryd.prog 42 #[.int .i32 c] w fun e w' => e = .returned (.bool false) ∧ w' = w := by
  have := tale_digit c w
  rwa [show (decide (48 ≤ c) && decide (c ≤ 57)) = false by simp; omega] at this

theorem iter_upd (w : World) (s : ByteArray) (p : Nat) : Upd [] [] w (w.iter s p) := Upd.skip (In.nil w) _

set_option maxRecDepth 100000 in
set_option maxHeartbeats 1000000 in
theorem tale_plain (l : List UInt8) (hl : l.length ≤ 1000000000000) (w : World) :
    Calls Tryd.prog 29 #[.string ⟨l.toArray⟩] w fun e w' => e = .returned (.bool (plainL l)) ∧ Upd [] [] w w' := by
  obtain ⟨s, hs⟩ : ∃ s : ByteArray, (⟨l.toArray⟩ : ByteArray) = s := ⟨_, rfl⟩
  have hsz : s.size = l.length := by rw [← hs]; rfl
  have hget : ∀ p (h : p < s.size), s[p]'h = l[p]'(by omega) := by intro p h; subst hs; rfl
  rw [hs]
  go_enter Tryd.func29, Tryd.ntmps29
  go_wp2
  go_loopw [3] (fun q w' => ∃ (pos n : Nat), w' = w.iter s pos ∧ q = .int .i64 n ∧ pos ≤ s.size ∧ n ≤ pos ∧ plainGo (decide (pos = 0)) (l.drop pos) n = plainL l) (fun _ w' => s.size - w'.iterPos w.heap.size)
  case atStart => exact ⟨0, 0, rfl, rfl, by omega, by omega, rfl⟩
  case round =>
    obtain ⟨pos, n, rfl, rfl, hp1, hn, hg⟩ := hrel
    by_cases hp : pos < s.size
    · have hnx : ∀ ty, (Instr.next (.pointer (some ⟨w.heap.size, 0, none⟩)) true ty).run Tryd.prog (w.iter s pos) = _ := fun ty => run_next_any w s pos ty hp
      rw [List.drop_eq_getElem_cons (by omega)] at hg
      have hb := hget pos hp
      obtain ⟨d, hd⟩ : ∃ d, d = (Utf8.decode s pos).1 := ⟨_, rfl⟩
      obtain ⟨k, hk⟩ : ∃ k, k = (Utf8.decode s pos).2 := ⟨_, rfl⟩
      by_cases ha : (s[pos]'hp).toNat < 128
      · have hda := decode_ascii s pos hp ha
        rw [hda] at hnx
        simp only [plainGo] at hg
        rw [← hb] at hg
        obtain ⟨c, hc⟩ : ∃ c, c = (s[pos]'hp).toNat := ⟨_, rfl⟩
        rw [← hc] at hg hnx
        clear hd hk ha hda hb hc
        by_cases c1 : pos = 0 ∧ c = 45
        · obtain ⟨rfl, rfl⟩ := c1
          simp only [decide_true, true_and, if_true] at hg
          go_wp2_with (go_at_call 42; refine Calls.mono (tale_digit _ _) ?_; rintro e w5 ⟨rfl, rfl⟩)
          go_roundw
          case rel => exact ⟨1, n, rfl, rfl, by omega, by omega, hg⟩
          case measure => simp; omega
        · rw [if_neg (by simpa using c1)] at hg
          by_cases c2 : 48 ≤ c ∧ c ≤ 57
          · have e1 : decide (48 ≤ (c : Int)) = true := by simp; omega
            have e2 : decide ((c : Int) ≤ 57) = true := by simp; omega
            have e3 : ¬ (c : Int) = 45 := by omega
            rw [if_pos (by simpa [isDig] using c2)] at hg
            go_wp2_with (go_at_call 42; refine Calls.mono (tale_digit _ _) ?_; rw [e1, e2]; rintro e w5 ⟨rfl, rfl⟩)
            go_roundw
            case rel => exact ⟨pos + 1, n + 1, rfl, by go_num, by omega, by omega, by rw [← hg]; simp⟩
            case measure => simp; omega
          · have e1 : ¬ (48 ≤ (c : Int) ∧ (c : Int) ≤ 57) := by omega
            rw [if_neg (by simpa [isDig] using c2)] at hg
            have hf := hg.symm
            clear hg
            have e3 : ¬ ((c : Int) = 45 ∧ pos = 0) := by omega
            have hu := iter_upd w s (pos + 1)
            by_cases c3 : c = 45
            · have e4 : ¬ (pos : Int) = 0 := by omega
              have c5 : (c : Int) = 45 := by omega
              have e5 : ((pos : Int) == 0) = false := by simp; omega
              clear c3 e1 e3 e4 c2 c1
              go_wp2_with (go_at_call 42; refine Calls.mono (tale_digit_no 45 (by decide) _) ?_; rintro e w5 ⟨rfl, rfl⟩)
              go_ret
              exact ⟨by rw [hf]; rfl, hu⟩
            · have e5 : ((c : Int) == 45) = false := by simp; omega
              clear e3 c1 c2 c3
              go_wp2_with (go_at_call 42; refine Calls.mono (tale_digit_no _ e1 _) ?_; rintro e w5 ⟨rfl, rfl⟩)
              go_ret
              exact ⟨by rw [hf]; rfl, hu⟩
      · have hda := decode_high s pos hp (by omega)
        rw [← hd, ← hk] at hnx hda
        have hf : plainL l = false := by
          rw [← hg]
          rw [hb] at ha
          have z1 : ¬ ((decide (pos = 0)) = true ∧ (l[pos]'(by omega)).toNat = 45) := by omega
          have z2 : isDig (l[pos]'(by omega)).toNat = false := by unfold isDig; simp; omega
          simp only [plainGo]
          rw [if_neg z1, z2]
          rfl
        have e4 : ¬ (d : Int) = 45 := by omega
        have e1 : ¬ (48 ≤ (d : Int) ∧ (d : Int) ≤ 57) := by omega
        have hu := iter_upd w s (pos + k)
        clear hd hk hda ha hb hg hget hs
        go_wp2_with (go_at_call 42; refine Calls.mono (tale_digit_no _ e1 _) ?_; rintro e w5 ⟨rfl, rfl⟩)
        go_ret
        exact ⟨by rw [hf]; rfl, hu⟩
    · have hnx : ∀ ty, (Instr.next (.pointer (some ⟨w.heap.size, 0, none⟩)) true ty).run Tryd.prog (w.iter s pos) = _ := fun ty => run_next_end w s pos ty hp
      rw [List.drop_eq_nil_of_le (by omega)] at hg
      simp only [plainGo] at hg
      have hu := iter_upd w s pos
      have e5 : decide ((n : Int) > 0) = plainL l := by rw [← hg]; simp
      go_wp2
      go_ret
      exact ⟨by rw [← hg]; simp, hu⟩

end Go.Proofs.YtnmbehogiioonaaDoor
