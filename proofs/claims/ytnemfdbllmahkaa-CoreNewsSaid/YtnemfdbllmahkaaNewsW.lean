/- CoreNews of the statements' package answers true. Conditions: none. -/
import Derived.Test.YtnemfdbllmahkaaRows
import Derived.Test.YtnemfdbllmahkaaWords
import Derived.Deep.RegionHeld3
set_option linter.unusedVariables false
set_option linter.unusedSimpArgs false
namespace Go.Proofs.Ytnemfdbllmahkaa
open Go.RowKit

set_option maxRecDepth 100000 in
set_option maxHeartbeats 4000000 in
theorem coreNews_all (C : Cfg) (w : World) :
    Calls Try.prog 7 #[.agg (cfgCells C)] w fun e w' => e = .returned (.bool true) ∧ Upd [] [] w w' := by
  have U0 := Upd.alloc (In.nil w) (.cells (cfgCells C) 24 (0, 0))
  have hchk := conf_check C
  cases hok : C.ok
  · have he : C.err = 1 := by simp [Cfg.err, hok]
    rw [he] at hchk
    have HOK := Lib.hid hok
    clear he hok
    simp only [cfgCells] at *
    go_enter Try.func7, Try.ntmps7
    go_wp2_with (first
      | (go_at_call 27; refine Calls.mono (hchk _) ?_; rintro e w1 ⟨rfl, u1⟩; have U1 := U0.under0 u1; obtain ⟨c0, c1, c2, c3, c4, c5, c6, c7, c8, c9, c10, c11, c12⟩ := cfg_cells (c := C) U1.inn.head)
      | (go_at_call 9; refine Calls.mono (core_new_bad C HOK.out _) ?_; rintro e w2 ⟨rfl, u2⟩; have U2 := U1.under0 u2)
      | (go_at_call 10; refine Calls.mono (law_awake _) ?_; rintro e w3 ⟨rfl, u3⟩; have U3 := U2.under0 u3))
    go_ret
    exact ⟨rfl, U3.drop1⟩
  · have he : C.err = 0 := by simp [Cfg.err, hok]
    rw [he] at hchk
    have hfit := Cfg.fits hok
    have HFit := Lib.hid hfit
    have HOK := Lib.hid hok
    clear he hok hfit
    by_cases h300 : 300 < C.nursery
    · simp only [cfgCells] at *
      go_enter Try.func7, Try.ntmps7
      go_wp2_with (first
        | (go_at_call 27; refine Calls.mono (hchk _) ?_; rintro e w1 ⟨rfl, u1⟩; have U1 := U0.under0 u1; obtain ⟨c0, c1, c2, c3, c4, c5, c6, c7, c8, c9, c10, c11, c12⟩ := cfg_cells (c := C) U1.inn.head)
        | (go_at_call 10; refine Calls.mono (law_awake _) ?_; rintro e w3 ⟨rfl, u3⟩; have U3 := U1.under0 u3))
      go_ret
      exact ⟨rfl, U3.drop1⟩
    · have hf0 := coreNew_fine HFit.out
      have hp := Cfg.prod_small HFit.out.small
      have hst := fun pc L W h (hi : In W h) hc => core_stats0 pc L (coreNew C) W h hi hc hf0.q.em
      have hT : (coreNew C).stats 0 = ⟨0, 0, 0, 0, 0, 0, 0, C.pages * C.page⟩ := by
        show (⟨0, 0, 0, 0, 0, wrap64 (0 + 0), 0, wrap64 (wrap64 (C.pages * C.page) - 0)⟩ : StatS) = _
        rw [wrap_of (x := C.pages * C.page) (I64.small (by omega) (by omega)), wrap_of (I64.small (by decide) (by decide)), wrap_of (I64.small (by omega) (by omega))]
        simp
      rw [hT] at hst
      have hw : IntKind.i64.wrap (C.pages * C.page) = C.pages * C.page := IntWalk.i64_in _ (by omega)
      obtain ⟨n, hn⟩ : ∃ n : Nat, n = C.handles.toNat := ⟨_, rfl⟩
      have htl : (coreNew C).t = List.replicate n 0 := by rw [hn]; rfl
      have hnh : (((n : Nat) : Int) == C.handles) = true := by have := HFit.out.h1; simp; omega
      have hwl := hf0.wl
      have hC0 : (coreNew C).C = C := rfl
      rw [hC0] at hwl
      have hlen := fun pa ba W => arena_len pa ba (coreNew C).ws.length W
      rw [show (((coreNew C).ws.length : Nat) : Int) = C.words from hwl] at hlen
      have hwd := fun W => conf_words C W HFit.out.small
      have hAll := fun p W h (hi : In W h) ht => table_all p (coreNew C).t W h hi ht
      rw [htl] at hAll
      have hphase : (coreNew C).phase = 0 := rfl
      have hmov : (coreNew C).moving = false := rfl
      have hnew := fun W => core_new C HOK.out W
      generalize coreNew C = s at *
      have HNEW := Lib.hid hnew
      have HST := Lib.hid hst
      have HLEN := Lib.hid hlen
      have HWD := Lib.hid hwd
      have HALL := Lib.hid hAll
      have HPH := Lib.hid (And.intro hphase hmov)
      have HTL := Lib.hid htl
      clear hnew hst hlen hwd hAll hphase hmov hwl hC0 htl hT hf0 hn
      simp only [cfgCells, statCells, ptr] at *
      go_enter Try.func7, Try.ntmps7
      go_wp2_with (first
        | (go_at_call 27; refine Calls.mono (hchk _) ?_; rintro e w1 ⟨rfl, u1⟩; have U1 := U0.under0 u1; obtain ⟨c0, c1, c2, c3, c4, c5, c6, c7, c8, c9, c10, c11, c12⟩ := cfg_cells (c := C) U1.inn.head)
        | (go_at_call 9; refine Calls.mono (HNEW.out _) ?_; rintro e w2 ⟨pc, L, h, rfl, hc, u2⟩; have U2 : Upd [] ([(w.heap.size, .cells (cfgCells C) 24 (0, 0))] ++ h) w w2 := (U1.more u2).perm (List.Perm.refl _) List.perm_append_comm; simp only [ptr])
        | (go_at_call 22; refine Calls.mono (HST.out _ _ _ _ (Upd.inn U2).right hc) ?_; rintro e w3 ⟨rfl, u3⟩; have U3 := (U2.underL u3).alloc' (.cells (statCells ⟨0, 0, 0, 0, 0, 0, 0, C.pages * C.page⟩) 46 (0, 0)); simp only [statCells]))
      obtain ⟨v, ha, hy, ho, hr, hg, ht, hv, rfl, ca, cy, co, cr, cg, ct, cw⟩ := hc
      obtain ⟨ba, na, rfl, ca1, ca2⟩ := ca
      have UZ := U3.drew'
      have hB : w.heap.size = w.heap.size := rfl
      have hS : ∀ W, Upd [] ((w3.heap.size, .cells (statCells ⟨0, 0, 0, 0, 0, 0, 0, C.pages * C.page⟩) 46 (0, 0)) :: ([(w.heap.size, .cells (cfgCells C) 24 (0, 0))] ++ (coreParts pc (coreObj L s v) [(L.pa, .cells #[.slice (some ⟨ba, 0, none⟩) s.ws.length s.ws.length, .int .i64 na] 105 (0, 0)), (ba, .cells (cellsU s.ws) 22 (0, 0))] hy ho hr hg ht hv).flatten)) w W → W.cell? ⟨w.heap.size, 0, none⟩ = some (.int .i64 C.handles) ∧ W.cell? ⟨w.heap.size, 1, none⟩ = some (.int .i64 C.nursery) ∧ W.cell? ⟨w.heap.size, 2, none⟩ = some (.int .i64 C.pages) ∧ W.cell? ⟨w.heap.size, 3, none⟩ = some (.int .i64 C.page) ∧ W.cell? ⟨w.heap.size, 4, none⟩ = some (.int .i64 C.card) ∧ W.cell? ⟨w.heap.size, 5, none⟩ = some (.int .i64 C.buffer) ∧ W.cell? ⟨w.heap.size, 6, none⟩ = some (.int .i64 C.stack) ∧ W.cell? ⟨w.heap.size, 7, none⟩ = some (.int .i64 C.tenure) ∧ W.cell? ⟨w.heap.size, 8, none⟩ = some (.int .i64 C.largest) ∧ W.cell? ⟨w.heap.size, 9, none⟩ = some (.int .i64 C.minor) ∧ W.cell? ⟨w.heap.size, 10, none⟩ = some (.int .i64 C.major) ∧ W.cell? ⟨w.heap.size, 11, none⟩ = some (.int .i64 C.minorAt) ∧ W.cell? ⟨w.heap.size, 12, none⟩ = some (.int .i64 C.majorAt) ∧ W.cell? ⟨w3.heap.size, 0, none⟩ = some (.int .i64 0) ∧ W.cell? ⟨w3.heap.size, 1, none⟩ = some (.int .i64 0) ∧ W.cell? ⟨w3.heap.size, 2, none⟩ = some (.int .i64 0) ∧ W.cell? ⟨w3.heap.size, 3, none⟩ = some (.int .i64 0) ∧ W.cell? ⟨w3.heap.size, 4, none⟩ = some (.int .i64 0) ∧ W.cell? ⟨w3.heap.size, 5, none⟩ = some (.int .i64 0) ∧ W.cell? ⟨w3.heap.size, 6, none⟩ = some (.int .i64 0) ∧ W.cell? ⟨w3.heap.size, 7, none⟩ = some (.int .i64 (C.pages * C.page)) ∧ W.cell? ⟨pc, 13, none⟩ = some (.pointer (some ⟨L.pa, 0, none⟩)) ∧ W.cell? ⟨pc, 18, none⟩ = some (.pointer (some ⟨L.pt, 0, none⟩)) ∧ W.cell? ⟨pc, 20, none⟩ = some (.int .i64 0) ∧ W.cell? ⟨pc, 21, none⟩ = some (.bool false) := by
        intro W U
        obtain ⟨a0, a1, a2, a3, a4, a5, a6, a7, a8, a9, a10, a11, a12⟩ := cfg_cells (c := C) U.inn.tail.head
        obtain ⟨b0, b1, b2, b3, b4, b5, b6, b7⟩ := stat_cells (d := ⟨0, 0, 0, 0, 0, 0, 0, C.pages * C.page⟩) U.inn.head
        have hcore := In.core (x := [_, _]) U.inn
        have k20 : W.cell? ⟨pc, 20, none⟩ = some (.int .i64 s.phase) := cell_of hcore 20
        have k21 : W.cell? ⟨pc, 21, none⟩ = some (.bool s.moving) := cell_of hcore 21
        rw [HPH.out.1] at k20
        rw [HPH.out.2] at k21
        exact ⟨a0, a1, a2, a3, a4, a5, a6, a7, a8, a9, a10, a11, a12, b0, b1, b2, b3, b4, b5, b6, b7, cell_of hcore 13, cell_of hcore 18, k20, k21⟩
      simp only [List.length_replicate] at HALL
      have HS := Lib.hid hS
      rw [HTL.out] at ct
      have HT := Lib.hid (And.intro ct (And.intro ca1 ca2))
      clear hS hB ca1 ca2 ct cy co cr cg cw c0 c1 c2 c3 c4 c5 c6 c7 c8 c9 c10 c11 c12 u1 u2 u3 U1 U2 U3 hchk
      have hS0 := HS.out _ UZ
      go_region_held3 (fun w' => w'.cell? ⟨w.heap.size, 0, none⟩ = some (.int .i64 C.handles) ∧ w'.cell? ⟨w.heap.size, 1, none⟩ = some (.int .i64 C.nursery) ∧ w'.cell? ⟨w.heap.size, 2, none⟩ = some (.int .i64 C.pages) ∧ w'.cell? ⟨w.heap.size, 3, none⟩ = some (.int .i64 C.page) ∧ w'.cell? ⟨w.heap.size, 4, none⟩ = some (.int .i64 C.card) ∧ w'.cell? ⟨w.heap.size, 5, none⟩ = some (.int .i64 C.buffer) ∧ w'.cell? ⟨w.heap.size, 6, none⟩ = some (.int .i64 C.stack) ∧ w'.cell? ⟨w.heap.size, 7, none⟩ = some (.int .i64 C.tenure) ∧ w'.cell? ⟨w.heap.size, 8, none⟩ = some (.int .i64 C.largest) ∧ w'.cell? ⟨w.heap.size, 9, none⟩ = some (.int .i64 C.minor) ∧ w'.cell? ⟨w.heap.size, 10, none⟩ = some (.int .i64 C.major) ∧ w'.cell? ⟨w.heap.size, 11, none⟩ = some (.int .i64 C.minorAt) ∧ w'.cell? ⟨w.heap.size, 12, none⟩ = some (.int .i64 C.majorAt) ∧ w'.cell? ⟨w3.heap.size, 0, none⟩ = some (.int .i64 0) ∧ w'.cell? ⟨w3.heap.size, 1, none⟩ = some (.int .i64 0) ∧ w'.cell? ⟨w3.heap.size, 2, none⟩ = some (.int .i64 0) ∧ w'.cell? ⟨w3.heap.size, 3, none⟩ = some (.int .i64 0) ∧ w'.cell? ⟨w3.heap.size, 4, none⟩ = some (.int .i64 0) ∧ w'.cell? ⟨w3.heap.size, 5, none⟩ = some (.int .i64 0) ∧ w'.cell? ⟨w3.heap.size, 6, none⟩ = some (.int .i64 0) ∧ w'.cell? ⟨w3.heap.size, 7, none⟩ = some (.int .i64 (C.pages * C.page)) ∧ w'.cell? ⟨pc, 13, none⟩ = some (.pointer (some ⟨L.pa, 0, none⟩)) ∧ w'.cell? ⟨pc, 18, none⟩ = some (.pointer (some ⟨L.pt, 0, none⟩)) ∧ w'.cell? ⟨pc, 20, none⟩ = some (.int .i64 0) ∧ w'.cell? ⟨pc, 21, none⟩ = some (.bool false))
        (first | exact HS.out _ UZ | go_keep)
        (first
          | (go_at_call 10; refine Calls.mono (law_awake _) ?_; rintro e wz ⟨rfl, uz⟩; replace UZ := UZ.under0 uz)
          | (go_at_call 28; refine Calls.mono (HALL.out L.pt _ _ (In.table (x := [_, _]) (Upd.inn UZ)) HT.out.1) ?_; rintro e wz ⟨vv, hh, rfl, sl, uz⟩; obtain ⟨ao, cap, rfl, _⟩ := sl.shape; replace UZ := (UZ.more uz).forget (List.sublist_append_right _ _))
          | (go_at_call 29; refine Calls.mono (HLEN.out L.pa ba _ (cell_of (In.arena (x := [_, _]) (Upd.inn UZ)).head 0)) ?_; rintro e wz ⟨rfl, rfl⟩)
          | (go_at_call 30; refine Calls.mono (HWD.out _) ?_; rintro e wz ⟨rfl, uz⟩; replace UZ := UZ.under0 uz))
      go_wp2
      go_ret
      exact ⟨rfl, UZ.forget (List.nil_sublist _)⟩

end Go.Proofs.Ytnemfdbllmahkaa
