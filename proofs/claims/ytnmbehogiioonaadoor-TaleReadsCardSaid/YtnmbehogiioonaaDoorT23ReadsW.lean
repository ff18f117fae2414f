/- The law TaleReads answers true. Condition: the library's variables are as its text lays them. -/
import Derived.Test.YtnmbehogiioonaaDoorT23Asm
import Derived.Test.YtnmbehogiioonaaDoorT23ReadsP
import Derived.Laws.StructEq
import Derived.Laws.Strings3
import Derived.Deep.DeepCutAuto
import Derived.Deep.CutBlock
set_option linter.unusedVariables false
set_option linter.unusedSimpArgs false
namespace Go.Proofs.YtnmbehogiioonaaDoor
open Go.RowKit Go.Shelf Go.Lib

set_option maxRecDepth 100000 in
set_option maxHeartbeats 4000000 in
theorem taleReads_any (s : ByteArray) (hs : s.size ≤ maxLen) (w : World) (hL : Laid w) : Calls Tryd.prog 5 #[.string s] w fun e w' => e = .returned (.bool true) ∧ Upd [] [] w w' := by
  have H3 := Lib.hid (fun W (h : Laid W) => law_awake W h)
  have HL := Lib.hid hL
  have HU := Lib.hid (Upd.refl (In.nil w))
  go_enter Tryd.func5, Tryd.ntmps5
  go_upto_if 13 with (fail)
  go_cut [0] (fun q wx => ∃ S : ByteArray, q = .string S ∧ S.size ≤ 20000 ∧ wx = w)
  case first =>
    by_cases hbig : (s.size : Int) > 20000
    · have hsl : (20000 : Int) ≤ (s.size : Int) := by omega
      go_wp2
      go_meet
      exact ⟨s.extract 0 20000, rfl, by rw [ByteArray.size_extract]; omega, rfl⟩
    · go_wp2
      go_meet
      exact ⟨s, rfl, by omega, rfl⟩
  case rest =>
    obtain ⟨S, rfl, hS, hwx⟩ := hcut
    obtain rfl := hwx.symm
    obtain ⟨t, ht⟩ : ∃ t : List UInt8, (⟨t.toArray⟩ : ByteArray) = S := ⟨S.data.toList, by simp⟩
    have hsz : S.size = t.length := by rw [← ht]; rfl
    have hget : ∀ i (h : i < t.length), S.data.toList[i]? = some t[i] := by intro i h; rw [← ht]; simp [h]
    have H2 := Lib.hid (fun W (h : Laid W) => tale_readAll t (by omega) W h)
    rw [ht] at H2
    have HT := Lib.hid ht
    obtain ⟨rd, hrd⟩ : ∃ r, readOf t = r := ⟨_, rfl⟩
    rw [hrd] at H2
    have HRD := Lib.hid hrd
    clear ht hrd hs
    go_wp2_with (go_at_call 12; refine Calls.mono (H2.out _ HL.out) ?_; rintro e w3 ⟨v, h, rfl, sl, u3⟩; obtain ⟨ao, cap, rfl, hcp⟩ := sl.shape; have SL := Lib.hid sl; have U3 := Lib.hid u3; clear sl u3)
    go_loopw [6, 7] (fun a f wr => ∃ (fr : Nat) (out : List EntS), a = .int .i64 out.length ∧ f = .int .i64 fr ∧ fr ≤ t.length + 1 ∧ out.length ≤ fr ∧ Hid (readOf t = rdGo (linesL (t.drop fr)) out) ∧ Hid (Upd [] h w wr)) (fun _ f _ => t.length + 1 - (RowKit.intOf f).toNat)
    case atStart => exact ⟨0, [], rfl, rfl, by omega, by simp, Lib.hid rfl, U3⟩
    case round =>
      obtain ⟨fr, out, rfl, rfl, hfr, hout, HG, HV⟩ := hrel
      by_cases hf : fr < t.length
      · have hfI : (fr : Int) < (S.size : Int) := by omega
        go_upto_block 2 with (fail)
        go_cut [8] (fun q wx => ∃ j : Nat, q = .int .i64 j ∧ fr ≤ j ∧ j ≤ t.length ∧ (∀ i (h : i < t.length), fr ≤ i → i < j → t[i] ≠ 10) ∧ (j = t.length ∨ t[j]? = some 10) ∧ wx = wr)
        case first =>
          go_wp2
          go_loopw [8] (fun q wx => ∃ j : Nat, q = .int .i64 j ∧ fr ≤ j ∧ j ≤ t.length ∧ (∀ i (h : i < t.length), fr ≤ i → i < j → t[i] ≠ 10) ∧ wx = wr) (fun q _ => t.length - (RowKit.intOf q).toNat)
          case atStart => exact ⟨fr, rfl, by omega, by omega, fun i h h1 h2 => by omega, rfl⟩
          case round =>
            obtain ⟨j, rfl, hj1, hj2, hno, rfl⟩ := hrel
            by_cases hjl : j < t.length
            · have hjI : (j : Int) < (S.size : Int) := by omega
              obtain ⟨c, hc⟩ : ∃ c : Nat, (S[j]'(by omega)).toNat = c := ⟨_, rfl⟩
              have hct : t[j].toNat = c := by
                have h1 := hget j hjl
                rw [← hc]
                congr 1
                have h2 : S.data.toList[j]? = some (S[j]'(by omega)) := by rw [List.getElem?_eq_getElem (by simpa using (by omega : j < S.size))]; rfl
                rw [h1] at h2
                injection h2
              have HCT := Lib.hid hct
              by_cases h10 : c = 10
              · have hb : ((c : Int) != 10) = false := by simp [h10]
                have H10 := Lib.hid h10
                clear h10 hct
                go_wp2
                go_meet
                refine ⟨j, rfl, hj1, hj2, hno, .inr ?_, rfl⟩
                rw [List.getElem?_eq_getElem hjl]
                congr 1
                apply UInt8.toNat_inj.1
                rw [HCT.out, H10.out]; rfl
              · have hb : ((c : Int) != 10) = true := by simp; omega
                have H10 := Lib.hid h10
                have hjw : IntKind.i64.wrap ((j : Int) + 1) = (j : Int) + 1 := IntWalk.i64_in _ (by omega)
                clear h10 hct
                go_wp2
                go_roundw
                case rel =>
                  refine ⟨j + 1, by go_num, by omega, by omega, fun i h h1 h2 => ?_, by trivial⟩
                  rcases (by omega : i < j ∨ i = j) with h3 | rfl
                  · exact hno i h h1 h3
                  · intro e
                    have := HCT.out
                    rw [e] at this
                    exact H10.out this.symm
                case measure => simp [RowKit.intOf]; omega
            · have hjI : ¬ (j : Int) < (S.size : Int) := by omega
              go_wp2
              go_meet
              exact ⟨j, rfl, hj1, hj2, hno, .inl (by omega), rfl⟩
        case rest =>
          obtain ⟨j, rfl, hj1, hj2, hno, hend, hwy⟩ := hcut
          obtain rfl := hwy.symm
          have hsegS : S.extract fr j = ⟨((t.drop fr).take (j - fr)).toArray⟩ := by
            rw [← HT.out]
            apply ByteArray.ext
            simp [ByteArray.data_extract]
          obtain ⟨x, hx1, hx2⟩ := lines_seg (r := t.drop fr) (by intro e; have := congrArg List.length e; simp at this; omega) (e := j - fr) (by simp; omega)
            (fun i h hi => by rw [List.getElem_drop]; exact hno _ (by simp at h; omega) (by omega) (by omega))
            (by
              rcases hend with h | h
              · left; simp; omega
              · right; rw [List.getElem?_drop, show fr + (j - fr) = j by omega]; exact h)
          rw [List.drop_drop, show fr + (j - fr + 1) = j + 1 by omega] at hx1
          obtain ⟨seg, hseg⟩ : ∃ seg, (t.drop fr).take (j - fr) = seg := ⟨_, rfl⟩
          rw [hseg] at hx2 hsegS
          have hseglen : seg.length ≤ 1000000000 := by rw [← hseg]; simp; omega
          have hG := HG.out
          rw [hx1] at hG
          simp only [rdGo] at hG
          rw [if_neg (by omega), hx2] at hG
          have HST := Lib.hid (fun W (h : Laid W) => tale_step seg hseglen W h)
          have hs1 : (fr : Int) ≤ (j : Int) := by omega
          have hs2 : (j : Int) ≤ (S.size : Int) := by omega
          have hs3 : (0 : Int) ≤ (fr : Int) := by omega
          have hw1 : IntKind.i64.wrap ((out.length : Int) + 1) = (out.length : Int) + 1 := IntWalk.i64_in _ (by omega)
          have hw2 : IntKind.i64.wrap ((j : Int) + 1) = (j : Int) + 1 := IntWalk.i64_in _ (by omega)
          have HLW := Lib.hid (HL.out.upd HV.out)
          cases hst : stepOf seg with
          | none =>
            rw [hst] at hG
            simp only at hG
            rw [HRD.out] at hG
            have hn : rd.n = (out.length : Int) + 1 := by rw [hG, bad_n]
            have he : rd.e = 9 := by rw [hG]; rfl
            have hl0 : rd.l.length = 0 := by rw [hG]; rfl
            rw [stepV_none hst] at HST
            simp only [entCells, entZ] at HST
            clear hG hst hx1 hx2 hseg hno hend hget
            go_wp2_with (first
              | (go_at_call 11; refine Calls.mono (HST.out _ HLW.out) ?_; rintro e w5 ⟨rfl, u5⟩; have U5 := (HV.out.under0 u5).alloc' (.cells #[.int .i64 0, .int .i64 0, .int .i64 0, .int .i64 0, .int .u64 0] 24 (0, 0)); have HL5 := Lib.hid (HL.out.upd U5); have HU5 := Lib.hid U5; clear U5 u5)
              | (go_at_call 10; refine Calls.mono (H3.out _ HL5.out) ?_; rintro e w7 ⟨rfl, u7⟩; have HU7 := Lib.hid (HU5.out.under0 u7)))
            go_ret
            exact ⟨rfl, HU7.out.forget (List.nil_sublist _)⟩
          | some y =>
            rw [hst] at hG
            simp only at hG
            rw [HRD.out] at hG
            rw [stepV_some hst] at HST
            obtain ⟨y0, y1, y2, y3, y4⟩ := y
            simp only [entCells] at HST
            have HG2 : Hid (readOf t = rdGo (linesL (t.drop (j + 1))) (out ++ [⟨y0, y1, y2, y3, y4⟩])) := Lib.hid (by rw [HRD.out]; exact hG)
            by_cases he : rd.e = 0
            · have hok : rd = .ok rd.l := by
                cases rd with
                | ok L => rfl
                | bad n => simp [RdRes.e] at he
                | over => simp [RdRes.e] at he
              obtain ⟨L, hLL⟩ : ∃ L, rd.l = L := ⟨_, rfl⟩
              obtain ⟨L2, hL2⟩ := rdGo_ok _ _ rd.l (by rw [← hG]; exact hok)
              have hLl : out.length < rd.l.length := by rw [← hL2]; simp
              have hLy : rd.l[out.length] = ⟨y0, y1, y2, y3, y4⟩ := by
                simp only [← hL2]
                rw [List.getElem_append_left (by simp)]
                simp
              have heb : (rd.e == 0) = true := by simp [he]
              clear hok hLL
              obtain ⟨g, off, cap', hv, _⟩ := SL.out.addr (by omega)
              injection hv with hv1 hv2 hv3
              subst hv1
              clear hv2 hv3
              have hLI : (out.length : Int) < (rd.l.length : Int) := by omega
              have hcell : ∀ W, Upd [] h w W → ∀ i, i < 5 → W.cell? ⟨g, off + (out.length * 5 + i), none⟩ = (entCells ⟨y0, y1, y2, y3, y4⟩).toList[i]? := by
                intro W u i hi
                have h1 := entsCells_at rd.l out.length hLl i hi
                rw [hLy] at h1
                have h2 : (entCells ⟨y0, y1, y2, y3, y4⟩).toList[i]? = some ((entCells ⟨y0, y1, y2, y3, y4⟩).toList[i]'(by simp [entCells]; omega)) := List.getElem?_eq_getElem _
                rw [h2] at h1
                rw [SL.out.cell u.inn rfl (List.getElem?_eq_some_iff.1 h1).1, (List.getElem?_eq_some_iff.1 h1).2, h2]
              have HCL := Lib.hid hcell
              have hw3 : IntKind.i64.wrap ((out.length : Int) + 1 - 1) = (out.length : Int) := by rw [show (out.length : Int) + 1 - 1 = (out.length : Int) by omega]; exact IntWalk.i64_in _ (by omega)
              have hw4 : IntKind.i64.wrap (out.length : Int) = (out.length : Int) := IntWalk.i64_in _ (by omega)
              have hLI2 : ¬ (rd.l.length : Int) < (out.length : Int) + 1 := by omega
              have hLI3 : ¬ (out.length : Int) + 1 > (rd.l.length : Int) := by omega
              have hLI4 : (0 : Int) ≤ (out.length : Int) := by omega
              clear hcell hG hst hx1 hx2 hseg hno hend hget hLy hL2 he
              go_wp2_with (first | (go_at_call 11; refine Calls.mono (HST.out _ HLW.out) ?_; rintro e w5 ⟨rfl, u5⟩; have U5 := (HV.out.under0 u5).alloc' (.cells #[.int .i64 y0, .int .i64 y1, .int .i64 y2, .int .i64 y3, .int .u64 (y4 : Int)] 24 (0, 0)); have p0 : ∀ nq, (World.drewN (w5.alloc (.cells #[.int .i64 y0, .int .i64 y1, .int .i64 y2, .int .i64 y3, .int .u64 (y4 : Int)] 24 (0, 0))) nq).cell? ⟨g, off + out.length * 5, none⟩ = some (.int .i64 y0) := fun nq => HCL.out _ ((U5.forget (List.sublist_cons_self _ _)).drewN' nq) 0 (by decide); have p1 : ∀ nq, (World.drewN (w5.alloc (.cells #[.int .i64 y0, .int .i64 y1, .int .i64 y2, .int .i64 y3, .int .u64 (y4 : Int)] 24 (0, 0))) nq).cell? ⟨g, off + out.length * 5 + 1, none⟩ = some (.int .i64 y1) := fun nq => HCL.out _ ((U5.forget (List.sublist_cons_self _ _)).drewN' nq) 1 (by decide); have p2 : ∀ nq, (World.drewN (w5.alloc (.cells #[.int .i64 y0, .int .i64 y1, .int .i64 y2, .int .i64 y3, .int .u64 (y4 : Int)] 24 (0, 0))) nq).cell? ⟨g, off + out.length * 5 + 2, none⟩ = some (.int .i64 y2) := fun nq => HCL.out _ ((U5.forget (List.sublist_cons_self _ _)).drewN' nq) 2 (by decide); have p3 : ∀ nq, (World.drewN (w5.alloc (.cells #[.int .i64 y0, .int .i64 y1, .int .i64 y2, .int .i64 y3, .int .u64 (y4 : Int)] 24 (0, 0))) nq).cell? ⟨g, off + out.length * 5 + 3, none⟩ = some (.int .i64 y3) := fun nq => HCL.out _ ((U5.forget (List.sublist_cons_self _ _)).drewN' nq) 3 (by decide); have p4 : ∀ nq, (World.drewN (w5.alloc (.cells #[.int .i64 y0, .int .i64 y1, .int .i64 y2, .int .i64 y3, .int .u64 (y4 : Int)] 24 (0, 0))) nq).cell? ⟨g, off + out.length * 5 + 4, none⟩ = some (.int .u64 (y4 : Int)) := fun nq => HCL.out _ ((U5.forget (List.sublist_cons_self _ _)).drewN' nq) 4 (by decide); have q0 : ∀ nq, (World.drewN (w5.alloc (.cells #[.int .i64 y0, .int .i64 y1, .int .i64 y2, .int .i64 y3, .int .u64 (y4 : Int)] 24 (0, 0))) nq).cell? ⟨w5.heap.size, 0, none⟩ = some (.int .i64 y0) := fun nq => cell_of (U5.drewN' nq).inn.head 0; have q1 : ∀ nq, (World.drewN (w5.alloc (.cells #[.int .i64 y0, .int .i64 y1, .int .i64 y2, .int .i64 y3, .int .u64 (y4 : Int)] 24 (0, 0))) nq).cell? ⟨w5.heap.size, 1, none⟩ = some (.int .i64 y1) := fun nq => cell_of (U5.drewN' nq).inn.head 1; have q2 : ∀ nq, (World.drewN (w5.alloc (.cells #[.int .i64 y0, .int .i64 y1, .int .i64 y2, .int .i64 y3, .int .u64 (y4 : Int)] 24 (0, 0))) nq).cell? ⟨w5.heap.size, 2, none⟩ = some (.int .i64 y2) := fun nq => cell_of (U5.drewN' nq).inn.head 2; have q3 : ∀ nq, (World.drewN (w5.alloc (.cells #[.int .i64 y0, .int .i64 y1, .int .i64 y2, .int .i64 y3, .int .u64 (y4 : Int)] 24 (0, 0))) nq).cell? ⟨w5.heap.size, 3, none⟩ = some (.int .i64 y3) := fun nq => cell_of (U5.drewN' nq).inn.head 3; have q4 : ∀ nq, (World.drewN (w5.alloc (.cells #[.int .i64 y0, .int .i64 y1, .int .i64 y2, .int .i64 y3, .int .u64 (y4 : Int)] 24 (0, 0))) nq).cell? ⟨w5.heap.size, 4, none⟩ = some (.int .u64 (y4 : Int)) := fun nq => cell_of (U5.drewN' nq).inn.head 4; have HU5 := Lib.hid (U5.forget (List.sublist_cons_self _ _)); clear U5 u5))
              go_quiet (fail)
              go_wp2
              go_roundw
              case rel => exact ⟨j + 1, out ++ [⟨y0, y1, y2, y3, y4⟩], by simp, by go_num, by omega, by (simp; omega), HG2, Lib.hid (HU5.out.drewN' nq)⟩
              case measure => simp [RowKit.intOf]; omega
            · have heb : (rd.e == 0) = false := by simpa using he
              have HE := Lib.hid he
              clear hG hst hx1 hx2 hseg hno hend hget he
              go_wp2_with (first | (go_at_call 11; refine Calls.mono (HST.out _ HLW.out) ?_; rintro e w5 ⟨rfl, u5⟩; have U5 := (HV.out.under0 u5).alloc' (.cells #[.int .i64 y0, .int .i64 y1, .int .i64 y2, .int .i64 y3, .int .u64 (y4 : Int)] 24 (0, 0)); have HU5 := Lib.hid (U5.forget (List.sublist_cons_self _ _)); clear U5 u5))
              go_quiet (fail)
              go_wp2
              go_roundw
              case rel => exact ⟨j + 1, out ++ [⟨y0, y1, y2, y3, y4⟩], by simp, by go_num, by omega, by (simp; omega), HG2, Lib.hid (HU5.out.drewN' nq)⟩
              case measure => simp [RowKit.intOf]; omega
      · have hfI : ¬ (fr : Int) < (S.size : Int) := by omega
        have hG := HG.out
        rw [List.drop_eq_nil_of_le (by omega)] at hG
        simp only [linesL, rdGo] at hG
        rw [HRD.out] at hG
        have hn : rd.n = 0 := by rw [hG]; rfl
        have he : rd.e = 0 := by rw [hG]; rfl
        have hl0 : (rd.l.length : Int) = (out.length : Int) := by rw [hG]; rfl
        have HLW := Lib.hid (HL.out.upd HV.out)
        clear hG
        go_wp2_with (go_at_call 10; refine Calls.mono (H3.out _ HLW.out) ?_; rintro e w7 ⟨rfl, u7⟩; have HU7 := Lib.hid (HV.out.under0 u7))
        go_ret
        exact ⟨rfl, HU7.out.forget (List.nil_sublist _)⟩

end Go.Proofs.YtnmbehogiioonaaDoor
