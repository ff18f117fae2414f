/- What New of the document's graph comes to. Conditions: so many handles and fields as a heap may have. -/
import Derived.Test.YtglbhcoikgbcmaaGreatRows
import Derived.Test.YtglbhcoikgbcmaaGreatRefB
import Derived.StillTailTactics
set_option linter.unusedVariables false
set_option linter.unusedSimpArgs false
namespace Go.Proofs.YtglbhcoikgbcmaaGreat
open Go.RowKit

theorem Tryz.infoNode0 : (Tryz.prog.info? 79).map (fun i => (i.zero, i.size, i.bytes)) = some (some (.agg #[.slice none 0 0, .slice none 0 0]), 2, 48) := by kernel_rfl

/-- make, of elements of two cells, one of them -/
theorem run_make_node {P : Program} (w : World) (t e : TypeId) (hu : P.underlying t = some (.slice e)) (hinfo : (P.info? e).map (fun i => (i.zero, i.size, i.bytes)) = some (some (.agg #[.slice none 0 0, .slice none 0 0]), 2, 48)) :
    (Instr.makeSlice t (.int .i64 1) (.int .i64 1)).run P w = .ok (.slice (some ⟨w.heap.size, 0, none⟩) 1 1) (w.alloc (.cells #[.slice none 0 0, .slice none 0 0] e (0, 0))) := by
  obtain ⟨i, hi, hz0, hz1, hz2⟩ := info_parts hinfo
  have h := run_make (P := P) w t e i (.agg #[.slice none 0 0, .slice none 0 0]) hu hi hz0 .i64 .i64 1 1 (by omega) (by omega) (by rw [hz2]; decide) (by omega)
  rw [hz1] at h
  have e : madeCells (Value.agg #[.slice none 0 0, .slice none 0 0]).cells ((1 : Int).toNat * 2) = #[.slice none 0 0, .slice none 0 0] := by
    apply Array.ext
    · simp [madeCells, Value.cells]
    · intro i h1 h2
      have : i = 0 ∨ i = 1 := by simp at h2; omega
      rcases this with rfl | rfl <;> simp [madeCells, Value.cells]
  rw [e] at h
  exact h

/-- a graph of so many handles, each 0 -/
def gHs (n : Nat) (largest : Int) : GraphS := ⟨[nd0], List.replicate n 0, largest⟩

set_option maxRecDepth 100000 in
set_option maxHeartbeats 4000000 in
theorem ref_new (n : Nat) (l : Int) (w : World) (hn : n ≤ 64) (l0 : 0 ≤ l) (l1 : l ≤ 64) :
    Calls Tryz.prog 7 #[.int .i64 n, .int .i64 l] w fun e w' => ∃ p h', e = .returned (.pointer (some ⟨p, 0, none⟩)) ∧ GraphH p (gHs n l) h' ∧ Upd [] h' w w' := by
  have hmk := run_make_node (P := Tryz.prog) w 71 79 Tryz.underlying71 Tryz.infoNode0
  have U0 := ((Upd.alloc (In.nil w) (.cells #[.slice none 0 0, .slice none 0 0] 79 (0, 0))).alloc' (.cells #[.slice (some ⟨w.heap.size, 0, none⟩) 1 1, .slice none 0 0, .int .i64 l] 73 (0, 0)))
  rw [show (w.alloc (.cells #[.slice none 0 0, .slice none 0 0] 79 (0, 0))).heap.size = w.heap.size + 1 by simp] at U0
  have H0 : GraphH (w.heap.size + 1) (gHs 0 l) [(w.heap.size + 1, .cells #[.slice (some ⟨w.heap.size, 0, none⟩) 1 1, .slice none 0 0, .int .i64 l] 73 (0, 0)), (w.heap.size, .cells #[.slice none 0 0, .slice none 0 0] 79 (0, 0))] := by
    refine ⟨.slice (some ⟨w.heap.size, 0, none⟩) 1 1, .slice none 0 0, [(w.heap.size, .cells #[.slice none 0 0, .slice none 0 0] 79 (0, 0))], [], [⟨nd0, .slice none 0 0, .slice none 0 0, [], []⟩], rfl, ?_, SliceH.nil _ _, ?_, rfl⟩
    · exact ⟨rfl, .inr ⟨w.heap.size, [], [], 1, rfl, rfl, Nat.le_refl _, by decide, by decide⟩⟩
    · intro r hr
      simp at hr
      subst hr
      exact ⟨SliceH.nil _ _, SliceH.nil _ _⟩
  have HS0 : Hid (∃ h, GraphH (w.heap.size + 1) (gHs 0 l) h ∧ Upd [] h w ((w.alloc (.cells #[.slice none 0 0, .slice none 0 0] 79 (0, 0))).alloc (.cells #[.slice (some ⟨w.heap.size, 0, none⟩) 1 1, .slice none 0 0, .int .i64 l] 73 (0, 0)))) := ⟨_, H0, U0⟩
  clear H0 U0
  go_enter Tryz.func7, Tryz.ntmps7
  go_wp2
  go_loopw [6] (fun q wr => ∃ (k : Nat), k ≤ n ∧ q = .int .i64 k ∧ Hid (∃ h, GraphH (w.heap.size + 1) (gHs k l) h ∧ Upd [] h w wr)) (fun q _ => n - (intOf q).toNat)
  case atStart => exact ⟨0, by omega, rfl, HS0⟩
  case round =>
    obtain ⟨k, hk, rfl, HW⟩ := hrel
    obtain ⟨h, gh, U⟩ := HW.out
    by_cases hlt : k < n
    · obtain ⟨vn, vh, hnn, hh, rows, rfl, sn, sh, hr, hg⟩ := gh
      obtain ⟨ah, caph, hvh, _⟩ := sh.shape
      have hkl : (gHs k l).hs.length = k := by simp [gHs]
      rw [hkl] at hvh sh
      subst hvh
      have p1 : wr.cell? ⟨w.heap.size + 1, 1, none⟩ = some (.slice ah k caph) := cell_of (U.inn.part (i := 0) rfl).head 1
      have UA := U.skip' (.cells #[.int .i64 0] 3 (0, 0))
      have H1 := Lib.hid (news_of (news := [.int .i64 0]) (w := wr.alloc (.cells #[.int .i64 0] 3 (0, 0))) (b := wr.heap.size) (T := 3) (fr := (0, 0)) heap_alloc_new)
      have SH := Lib.hid sh
      have UH := Lib.hid UA
      have HG := Lib.hid (And.intro sn (And.intro hr hg))
      have hmax : k + 1 ≤ maxLen := by unfold maxLen; omega
      clear sh UA sn hr hg U HW HS0 hkl
      go_wp2_with (at_builtin; go_loud ((refine wpList_append_mine rfl (.tmp 40) (.tmp 41) 59 rfl 3 1 8 (.int .i64 0) Tryz.underlying59 Tryz.infoInt rfl (by decide) (.slice ah k caph) k (ints (gHs k l).hs) hh rfl SH.out (UH.out.inn.part (i := 2) rfl) ⟨wr.heap.size, 0, none⟩ 1 1 [.int .i64 0] rfl H1.out rfl (by intro u hu; simp at hu; subst hu; rfl) (Or.inl (by decide)) hmax (by omega) ?_); intro v' w3 hX' hS' hU'; obtain ⟨ah', caph', rfl, _⟩ := hS'.shape; have U4 := flatten_part (x := []) (l := graphParts (w.heap.size + 1) (graphObj (gHs k l) vn (.slice ah k caph)) hnn hh rows) UH.out (i := 2) rfl hU'; have g1 : w3.cell? ⟨w.heap.size + 1, 1, none⟩ = some (.slice ah k caph) := cell_of (U4.inn.part (i := 0) rfl).head 1; have k1 : w3.frozen? ⟨w.heap.size + 1, 1, none⟩ = false := frozen_of (U4.inn.part (i := 0) rfl).head 1))
      have hin := U4.inn.part (i := 0) (x := [(w.heap.size + 1, graphObj (gHs k l) vn (.slice ah k caph))]) rfl
      have u := Upd.store (l := []) (r := []) (b := w.heap.size + 1) (off := 1) (v := .slice ah' (k + 1) caph') (arr := #[vn, .slice ah k caph, .int .i64 l]) (T := 73) (fr := (0, 0)) hin
      have U5 := flatten_part (x := []) (l := graphParts (w.heap.size + 1) (graphObj (gHs k l) vn (.slice ah k caph)) hnn hX' rows) U4 (i := 0) rfl u
      have hrep : ints (gHs (k + 1) l).hs = ints (gHs k l).hs ++ [.int .i64 0] := by
        show (List.replicate (k + 1) (0 : Int)).map _ = (List.replicate k (0 : Int)).map _ ++ _
        rw [List.replicate_succ', List.map_append]
        rfl
      have hlen : (gHs (k + 1) l).hs.length = k + 1 := by simp [gHs]
      have HN : Hid (∃ h, GraphH (w.heap.size + 1) (gHs (k + 1) l) h ∧ Upd [] h w (w3.setCell ⟨w.heap.size + 1, 1, none⟩ (.slice ah' (k + 1) caph'))) :=
        ⟨_, ⟨vn, .slice ah' (k + 1) caph', hnn, hX', rows, rfl, HG.out.1, by rw [hlen, hrep]; exact hS', HG.out.2.1, HG.out.2.2⟩, U5⟩
      clear U4 U5 u hin hS' hU' hrep hlen
      go_roundw
      case rel => exact ⟨k + 1, by omega, by go_num, HN.out⟩
      case measure => simp [intOf]; omega
    · obtain rfl : k = n := by omega
      go_wp2
      go_ret
      exact ⟨_, h, rfl, gh, U⟩

end Go.Proofs.YtglbhcoikgbcmaaGreat
