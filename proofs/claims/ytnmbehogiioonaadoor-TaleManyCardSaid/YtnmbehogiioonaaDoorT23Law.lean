/- The law's own words: a number, a line. No condition. -/
import Derived.Test.YtnmbehogiioonaaDoorT23P
import Derived.Laws.BytesString
import Derived.Laws.Concat
set_option linter.unusedVariables false
set_option linter.unusedSimpArgs false
namespace Go.Proofs.YtnmbehogiioonaaDoor
open Go.RowKit Go.Shelf Go.Lib

def bytesV (l : List UInt8) : List Value := l.map fun c => .int .u8 (c.toNat : Int)
theorem push_list : ∀ (l : List UInt8) (b : ByteArray), (l.map fun c : UInt8 => (c.toNat : Int)).foldl (fun r n => r.push (UInt8.ofNat n.toNat)) b = ⟨b.data ++ l.toArray⟩
  | [], b => by simp
  | c :: r, b => by
    simp only [List.map_cons, List.foldl_cons]
    rw [push_list r]
    apply ByteArray.ext
    simp [ByteArray.push]
theorem conv_str (W : World) (a : Addr) (cap : Nat) (l : List UInt8) (h : ∀ j v, (bytesV l)[j]? = some v → W.cell? (a.add j) = some v) (n : Nat) (hn : n = l.length) :
    (convert 39 9 (.slice (some a) n cap)).run Tryd.prog W = .ok (.string ⟨l.toArray⟩) W := by
  rw [run_convert_bytes_string W 39 9 5 (some a) n cap Tryd.underlying39 Tryd.underlying5 Tryd.underlying9]
  have h2 := run_loadCells_list (P := Tryd.prog) W a (bytesV l) h
  have e : (bytesV l).length = n := by rw [hn]; simp [bytesV]
  rw [e] at h2
  rw [run_bytesToString W a n cap (l.map fun c : UInt8 => (c.toNat : Int)) (by rw [h2]; simp [bytesV]), push_list]
  simp

theorem dec_step (u : Nat) (h : ¬ u < 10) : decDigits u = decDigits (u / 10) ++ [UInt8.ofNat (48 + u % 10)] := by
  rw [decDigits, dif_neg h]
theorem dec_small (u : Nat) (h : u < 10) : decDigits u = [UInt8.ofNat (48 + u)] := by rw [decDigits, dif_pos h]

set_option maxRecDepth 100000 in
set_option maxHeartbeats 1000000 in
theorem law_plain (u : Nat) (hu : u < 18446744073709551616) (w : World) :
    Calls Tryd.prog 18 #[.int .u64 u] w fun e w' => e = .returned (.string ⟨(decDigits u).toArray⟩) ∧ Upd [] [] w w' := by
  have HU := Lib.hid (Upd.refl (In.nil w))
  go_enter Tryd.func18, Tryd.ntmps18
  go_wp2
  go_loopw [0, 3] (fun q o wr => ∃ (n : Nat) (s : ByteArray), q = .int .u64 n ∧ o = .string s ∧ n ≤ u ∧ decDigits u = decDigits n ++ s.data.toList ∧ s.size + nDigits n = nDigits u ∧ Hid (Upd [] [] w wr)) (fun q _ _ => (RowKit.intOf q).toNat)
  case atStart => exact ⟨u, ByteArray.empty, rfl, rfl, Nat.le_refl _, by simp, by simp, HU⟩
  case round =>
    obtain ⟨n, s, rfl, rfl, hn, hd, hs, HV⟩ := hrel
    have hn64 : (n : Int) < 18446744073709551616 := by omega
    have hm : (n : Int) % 10 < 10 := by omega
    obtain ⟨c, hc⟩ : ∃ c : UInt8, UInt8.ofNat (48 + n % 10) = c := ⟨_, rfl⟩
    have hcn : (c.toNat : Int) = 48 + (n : Int) % 10 := by rw [← hc, digit_nat _ (by omega)]; omega
    have hcv : (convert 39 9 (.slice (some ⟨wr.heap.size, 0, none⟩) 1 1)).run Tryd.prog (wr.alloc (.cells #[.int .u8 (48 + (n : Int) % 10)] 5 (0, 0))) = _ :=
      conv_str _ ⟨wr.heap.size, 0, none⟩ 1 [c] (news_of (by rw [← hcn]; exact heap_alloc_new)) 1 rfl
    have hsz : s.size + 1 ≤ 1000 := by have := nDigits_le20 u hu; omega
    have hszI : (s.size : Int) ≤ 8388608 := by omega
    have HU2 := Lib.hid (HV.out.skip' (.cells #[.int .u8 (48 + (n : Int) % 10)] 5 (0, 0)))
    have hdn : (⟨#[c]⟩ ++ s : ByteArray).data.toList = c :: s.data.toList := by simp
    by_cases h10 : n < 10
    · have hq : (n : Int) / 10 = 0 := by omega
      have hfin : (⟨#[c]⟩ ++ s : ByteArray) = ⟨(decDigits u).toArray⟩ := by
        rw [hd, dec_small n h10, show 48 + n = 48 + n % 10 by omega, hc]
        apply ByteArray.ext
        simp
      have HF := Lib.hid hfin
      clear hfin hd hdn hc hcn
      go_wp2
      go_ret
      exact ⟨by rw [← HF.out]; rfl, HU2.out⟩
    · have hq : ¬ (n : Int) / 10 = 0 := by omega
      have hnext : decDigits u = decDigits (n / 10) ++ (⟨#[c]⟩ ++ s : ByteArray).data.toList := by
        rw [hd, dec_step n h10, hc, hdn]; simp
      have hsz2 : (⟨#[c]⟩ ++ s : ByteArray).size + nDigits (n / 10) = nDigits u := by
        rw [← hs, nDigits_big h10, ByteArray.size_append]
        show 1 + s.size + _ = _
        omega
      have HN := Lib.hid hnext
      have HZ := Lib.hid hsz2
      have hqb : ((n : Int) / 10 == 0) = false := by simpa using hq
      have H10 := Lib.hid h10
      clear hnext hsz2 hd hdn hc hcn hs hq h10
      go_wp2
      go_roundw
      case rel => exact ⟨n / 10, _, by simp, rfl, by omega, HN.out, HZ.out, HU2⟩
      case measure => have := H10.out; simp [RowKit.intOf]; omega

set_option maxRecDepth 100000 in
set_option maxHeartbeats 1000000 in
theorem law_digits (n : Int) (hn : I64 n) (w : World) :
    Calls Tryd.prog 17 #[.int .i64 n] w fun e w' => e = .returned (.string ⟨(itoa n).toArray⟩) ∧ Upd [] [] w w' := by
  obtain ⟨h0, h1⟩ := hn
  go_enter Tryd.func17, Tryd.ntmps17
  by_cases hneg : n < 0
  · obtain ⟨m, hm⟩ : ∃ m : Nat, n.natAbs = m := ⟨_, rfl⟩
    have hnm : n = -(m : Int) := by omega
    have e : itoa n = 45 :: decDigits m := by unfold itoa; rw [if_pos hneg, hm]
    rw [e]
    have HP := Lib.hid (fun W => law_plain m (by omega) W)
    have hw1 : IntKind.u64.wrap n = n + 18446744073709551616 := by rw [IntKind.wrap_u64]; omega
    have hw2 : IntKind.u64.wrap (-(n + 18446744073709551616)) = (m : Int) := by rw [IntKind.wrap_u64]; omega
    have hlen : (decDigits m).length ≤ 20 := by rw [decDigits_length]; exact nDigits_le20 m (by omega)
    have hlI : ((⟨(decDigits m).toArray⟩ : ByteArray).size : Int) ≤ 8388608 := by show ((decDigits m).length : Int) ≤ _; omega
    obtain ⟨s, hs⟩ : ∃ s : ByteArray, (⟨(decDigits m).toArray⟩ : ByteArray) = s := ⟨_, rfl⟩
    have hfin : (⟨(45 :: decDigits m).toArray⟩ : ByteArray) = ⟨#[45]⟩ ++ s := by rw [← hs]; apply ByteArray.ext; simp
    rw [hfin]
    rw [hs] at HP hlI
    clear hfin hs hlen e hm
    clear hnm
    go_wp2_with (go_at_call 18; refine Calls.mono (HP.out _) ?_; rintro e w2 ⟨rfl, u2⟩)
    go_ret
    exact ⟨rfl, u2⟩
  · obtain ⟨m, hm⟩ : ∃ m : Nat, n = (m : Int) := ⟨n.toNat, by omega⟩
    subst hm
    have e : itoa (m : Int) = decDigits m := itoa_nonneg m
    rw [e]
    have HP := Lib.hid (fun W => law_plain m (by omega) W)
    have hw1 : IntKind.u64.wrap (m : Int) = (m : Int) := by rw [IntKind.wrap_u64]; omega
    clear e
    go_wp2_with (go_at_call 18; refine Calls.mono (HP.out _) ?_; rintro e w2 ⟨rfl, u2⟩)
    go_ret
    exact ⟨rfl, u2⟩

end Go.Proofs.YtnmbehogiioonaaDoor
