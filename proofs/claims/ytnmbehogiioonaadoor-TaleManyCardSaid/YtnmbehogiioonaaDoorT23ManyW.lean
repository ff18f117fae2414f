/- The law TaleMany answers true. Condition: the library's variables are as its text lays them. -/
import Derived.Test.YtnmbehogiioonaaDoorT23ManyAsm
import Derived.Test.YtnmbehogiioonaaDoorT23ManyP
import Derived.Laws.StructEq
set_option linter.unusedVariables false
set_option linter.unusedSimpArgs false
namespace Go.Proofs.YtnmbehogiioonaaDoor
open Go.RowKit Go.Shelf Go.Lib

theorem wpList_append_row {P : Program} {w W : World} {ops : Array Oper} {rest : List Oper} {o : Oper} {a : Act} {Q : Exit → Act → World → Prop}
    (hg : o.guard = none) (s x : Operand) (t : TypeId) (hop : o.op = Op.call { callee := Callee.builtin Builtin.append, args := #[s, x], argTypes := #[t, t] })
    (e : TypeId) (size bytes : Nat) (z : Value) (h1 : P.underlying t = some (.slice e)) (hinfo : (P.info? e).map (fun i => (i.zero, i.size, i.bytes)) = some (some z, size, bytes)) (h6 : z.cells.size = size) (h7 : 0 < size)
    (v : Value) (n : Nat) (xs : List Value) (B hS : Hp) (hs : a.eval s = v) (HS : SliceH e size v n xs hS) (U : Upd [] (hS ++ B) w W)
    (ad : Addr) (m c : Nat) (news : List Value) (hx : a.eval x = .slice (some ad) m c) (hc : ∀ j u, news[j]? = some u → W.cell? (ad.add j) = some u) (hn : news.length = m * size) (h1c : ∀ u ∈ news, u.oneCell' = true) (hm : 0 < m)
    (b1 : n + m ≤ maxLen) (b2 : (n + m) * bytes ≤ 140737488355328)
    (hK : ∀ v' w' hS', SliceH e size v' (n + m) (xs ++ news) hS' → Upd [] (hS' ++ B) w w' → wpList P ops Q rest (a.put o.dst v') w') : wpList P ops Q (o :: rest) a W := by
  refine wpList_append_mine hg s x t hop e size bytes z h1 hinfo h6 h7 v n xs hS hs HS U.inn.left ad m c news hx hc hn h1c (Or.inl hm) b1 b2 ?_
  intro v' w' hX' hS' hU'
  exact hK v' w' hX' hS' (U.overA hU')

set_option maxRecDepth 100000 in
set_option maxHeartbeats 4000000 in
theorem taleMany_walk (v : Value) (l : List EntS) (a b : EntS) (w : World) (hl : IsEnts w v l) (ha : a.Ok) (hb : b.Ok) (hL : Laid w) : Calls Tryd.prog 6 #[v, .agg (entCells a), .agg (entCells b)] w fun e w' => e = .returned (.bool true) ∧ Upd [] [] w w' := by
  obtain ⟨hok, hlen, ao, cap, rfl, hcells⟩ := hl
  have HCE := Lib.hid hcells
  have H3 := Lib.hid (fun W (h : Laid W) => law_awake W h)
  have HL := Lib.hid hL
  have U1 := ((Upd.refl (In.nil w)).alloc' (.cells (entCells a) 24 (0, 0))).alloc' (.cells (entCells b) 24 (0, 0))
  simp only [World.size_alloc] at U1
  have HU1 := Lib.hid U1
  clear hcells U1
  go_enter Tryd.func6, Tryd.ntmps6
  go_upto_block 0 with (fail)
  obtain ⟨Ba, hBa⟩ : ∃ b, b = w.heap.size := ⟨_, rfl⟩
  obtain ⟨Bb, hBb⟩ : ∃ b, b = w.heap.size + 1 := ⟨_, rfl⟩
  have U2 := HU1.out.alloc' (.cells #[] 24 (0, 0))
  simp only [World.size_alloc] at U2
  have hs0 : SliceH 24 5 (.slice (some ⟨w.heap.size + 1 + 1, 0, none⟩) 0 0) 0 (entsCells []) [(w.heap.size + 1 + 1, .cells #[] 24 (0, 0))] := ⟨rfl, .inr ⟨_, [], [], 0, rfl, rfl, Nat.le_refl _, by simp [entsCells], by decide⟩⟩
  have HS0 : Hid (∃ h, SliceH 24 5 (.slice (some ⟨w.heap.size + 1 + 1, 0, none⟩) 0 0) 0 (entsCells []) h ∧ Upd [] (h ++ [(w.heap.size + 1, .cells (entCells b) 24 (0, 0)), (w.heap.size, .cells (entCells a) 24 (0, 0))]) w (((w.alloc (.cells (entCells a) 24 (0, 0))).alloc (.cells (entCells b) 24 (0, 0))).alloc (.cells #[] 24 (0, 0)))) := Lib.hid ⟨_, hs0, U2⟩
  clear U2 hs0
  rw [← hBb] at HS0 ⊢
  simp only [← hBa] at HS0 ⊢
  clear hBb HU1 hBa
  go_cut [7, 8, 9] (fun tx g i wr => ∃ (j : Nat), j ≤ l.length ∧ j ≤ 50 ∧ i = .int .i64 j ∧ (∃ s, tx = .string s ∧ s.size ≤ 201 * j ∧ Hid (s = ⟨(textOf (l.take j)).toArray⟩)) ∧ (∃ ao cp, g = .slice ao (goodOf (l.take j)).length cp) ∧
    Hid (∃ h, SliceH 24 5 g (goodOf (l.take j)).length (entsCells (goodOf (l.take j))) h ∧ Upd [] (h ++ [(Bb, .cells (entCells b) 24 (0, 0)), (Ba, .cells (entCells a) 24 (0, 0))]) w wr))
  case first =>
    go_wp2
    go_loopw [7, 8, 9] (fun tx g i wr => ∃ (j : Nat), j ≤ l.length ∧ j ≤ 50 ∧ i = .int .i64 j ∧ (∃ s, tx = .string s ∧ s.size ≤ 201 * j ∧ Hid (s = ⟨(textOf (l.take j)).toArray⟩)) ∧ (∃ ao cp, g = .slice ao (goodOf (l.take j)).length cp) ∧
      Hid (∃ h, SliceH 24 5 g (goodOf (l.take j)).length (entsCells (goodOf (l.take j))) h ∧ Upd [] (h ++ [(Bb, .cells (entCells b) 24 (0, 0)), (Ba, .cells (entCells a) 24 (0, 0))]) w wr)) (fun _ _ q _ => 50 - (RowKit.intOf q).toNat)
    case atStart => exact ⟨0, by omega, by omega, rfl, ⟨_, rfl, by decide, Lib.hid rfl⟩, ⟨_, _, rfl⟩, HS0⟩
    case round =>
      obtain ⟨j, hj1, hj2, rfl, ⟨s, rfl, hsz, HTX⟩, ⟨ag, cg, rfl⟩, HV⟩ := hrel
      obtain ⟨h, hsl, hU⟩ := HV.out
      have SL := Lib.hid hsl
      have U := Lib.hid hU
      clear hsl hU HV
      by_cases hjl : j < l.length ∧ j < 50
      · obtain ⟨hjl, hj50⟩ := hjl
        have hjI : (j : Int) < (l.length : Int) := by omega
        have hj5 : (j : Int) < 50 := by omega
        have hjw : IntKind.i64.wrap ((j : Int) + 1) = (j : Int) + 1 := IntWalk.i64_in _ (by omega)
        obtain ⟨gb, goff, rfl, hgb, hce⟩ := HCE.out j hjl
        have hxo := hok _ (List.getElem_mem hjl)
        have htk : l.take (j + 1) = l.take j ++ [l[j]] := by rw [List.take_add_one, List.getElem?_eq_getElem hjl]; rfl
        obtain ⟨x, hx⟩ : ∃ x, l[j] = x := ⟨_, rfl⟩
        rw [hx] at hce hxo htk
        have HLN := Lib.hid (fun W (h : Tab W) => tale_line x hxo W h)
        have HTK := Lib.hid htk
        clear hx htk
        have hkeep : ∀ W k, Upd [] k w W → ∀ i u, (entCells x)[i]? = some u → W.cell? ⟨gb, goff + j * 5 + i, none⟩ = some u := fun W k u i v hv => (cell_keep u hgb).trans (hce i v hv)
        have HKP := Lib.hid hkeep
        have HTW := Lib.hid (tab_upd hL.tab U.out)
        cases hlo : lineOf x with
        | none =>
          rw [lineV_none hlo] at HLN
          have hg2 : goodOf (l.take (j + 1)) = goodOf (l.take j) := by rw [HTK.out]; exact goodOf_none hlo
          have ht2 : textOf (l.take (j + 1)) = textOf (l.take j) := by rw [HTK.out, textOf_snoc]; unfold lineNl; rw [hlo]; simp
          have HG2 := Lib.hid hg2
          have HT2 := Lib.hid ht2
          obtain ⟨x0, x1, x2, x3, x4⟩ := x
          simp only [entCells] at HLN
          have c0 : wr.cell? ⟨gb, goff + j * 5, none⟩ = some (.int .i64 x0) := HKP.out _ _ U.out 0 _ rfl
          have c1 : wr.cell? ⟨gb, goff + j * 5 + 1, none⟩ = some (.int .i64 x1) := HKP.out _ _ U.out 1 _ rfl
          have c2 : wr.cell? ⟨gb, goff + j * 5 + 2, none⟩ = some (.int .i64 x2) := HKP.out _ _ U.out 2 _ rfl
          have c3 : wr.cell? ⟨gb, goff + j * 5 + 3, none⟩ = some (.int .i64 x3) := HKP.out _ _ U.out 3 _ rfl
          have c4 : wr.cell? ⟨gb, goff + j * 5 + 4, none⟩ = some (.int .u64 (x4 : Int)) := HKP.out _ _ U.out 4 _ rfl
          clear hce hkeep hg2 ht2 hlo hxo
          go_wp2_with (go_at_call 8; refine Calls.mono (HLN.out _ HTW.out) ?_; rintro e w2 ⟨rfl, u2⟩; have U2 := Lib.hid (U.out.under0 u2))
          go_roundw
          case rel => exact ⟨j + 1, by omega, by omega, by go_num, ⟨s, rfl, by omega, by rw [HT2.out]; exact HTX⟩, ⟨ag, cg, by rw [HG2.out]⟩, Lib.hid ⟨h, by rw [HG2.out]; exact SL.out, U2.out⟩⟩
          case measure => simp [RowKit.intOf]; omega
        | some q =>
          rw [lineV_some hlo] at HLN
          have hg2 : goodOf (l.take (j + 1)) = goodOf (l.take j) ++ [x] := by rw [HTK.out]; exact goodOf_some hlo
          have ht2 : textOf (l.take (j + 1)) = textOf (l.take j) ++ (q ++ [10]) := by rw [HTK.out, textOf_snoc]; unfold lineNl; rw [hlo]
          have hql := lineOf_len hxo hlo
          obtain ⟨sq, hsq⟩ : ∃ s : ByteArray, (⟨q.toArray⟩ : ByteArray) = s := ⟨_, rfl⟩
          rw [hsq] at HLN
          have hqs : sq.size ≤ 200 := by rw [← hsq]; exact hql
          have HSQ := Lib.hid hsq
          have HG2 := Lib.hid hg2
          have HT2 := Lib.hid ht2
          have hgl : (goodOf (l.take j)).length ≤ 50 := Nat.le_trans (List.length_filter_le _ _) (by simp; omega)
          have hmx : (goodOf (l.take j)).length + 1 ≤ maxLen := by unfold maxLen; omega
          obtain ⟨x0, x1, x2, x3, x4⟩ := x
          simp only [entCells] at HLN
          have c0 : wr.cell? ⟨gb, goff + j * 5, none⟩ = some (.int .i64 x0) := HKP.out _ _ U.out 0 _ rfl
          have c1 : wr.cell? ⟨gb, goff + j * 5 + 1, none⟩ = some (.int .i64 x1) := HKP.out _ _ U.out 1 _ rfl
          have c2 : wr.cell? ⟨gb, goff + j * 5 + 2, none⟩ = some (.int .i64 x2) := HKP.out _ _ U.out 2 _ rfl
          have c3 : wr.cell? ⟨gb, goff + j * 5 + 3, none⟩ = some (.int .i64 x3) := HKP.out _ _ U.out 3 _ rfl
          have c4 : wr.cell? ⟨gb, goff + j * 5 + 4, none⟩ = some (.int .u64 (x4 : Int)) := HKP.out _ _ U.out 4 _ rfl
          clear hce hkeep hg2 ht2 hlo hxo hsq hql
          go_wp2_with (first | (go_at_call 8; refine Calls.mono (HLN.out _ HTW.out) ?_; rintro e w2 ⟨rfl, u2⟩; have U2 := U.out.under0 u2; have d0 : w2.cell? ⟨gb, goff + j * 5, none⟩ = some (.int .i64 x0) := HKP.out _ _ U2 0 _ rfl; have d1 : w2.cell? ⟨gb, goff + j * 5 + 1, none⟩ = some (.int .i64 x1) := HKP.out _ _ U2 1 _ rfl; have d2 : w2.cell? ⟨gb, goff + j * 5 + 2, none⟩ = some (.int .i64 x2) := HKP.out _ _ U2 2 _ rfl; have d3 : w2.cell? ⟨gb, goff + j * 5 + 3, none⟩ = some (.int .i64 x3) := HKP.out _ _ U2 3 _ rfl; have d4 : w2.cell? ⟨gb, goff + j * 5 + 4, none⟩ = some (.int .u64 (x4 : Int)) := HKP.out _ _ U2 4 _ rfl; have U3 := Lib.hid (U2.skip' (.cells #[.int .i64 x0, .int .i64 x1, .int .i64 x2, .int .i64 x3, .int .u64 (x4 : Int)] 24 (0, 0))); have HNEW := Lib.hid (news_of (news := [.int .i64 x0, .int .i64 x1, .int .i64 x2, .int .i64 x3, .int .u64 (x4 : Int)]) (w := w2.alloc (.cells #[.int .i64 x0, .int .i64 x1, .int .i64 x2, .int .i64 x3, .int .u64 (x4 : Int)] 24 (0, 0))) (b := w2.heap.size) (T := 24) (fr := (0, 0)) heap_alloc_new); clear U2 u2) | (at_builtin; refine wpList_append_row rfl (.tmp 45) (.tmp 50) 35 rfl 24 5 40 (.agg (entCells entZ)) Tryd.underlying35 (by kernel_rfl) rfl (by decide) (.slice ag (goodOf (l.take j)).length cg) _ _ _ h rfl SL.out U3.out ⟨w2.heap.size, 0, none⟩ 1 1 [.int .i64 x0, .int .i64 x1, .int .i64 x2, .int .i64 x3, .int .u64 (x4 : Int)] rfl HNEW.out rfl (by intro u hu; simp at hu; rcases hu with rfl | rfl | rfl | rfl | rfl <;> rfl) (by decide) hmx (by omega) ?_; intro v' w9 hS' hR' U8; obtain ⟨ao', cap', rfl, _⟩ := hR'.shape; have U9 := Lib.hid U8; have HR9 := Lib.hid hR'; clear U8 hR'))
          go_roundw
          case rel => exact ⟨j + 1, by omega, by omega, by go_num, ⟨_, rfl, by (rw [ByteArray.size_append, ByteArray.size_append]; show s.size + (sq.size + 1) ≤ _; omega), Lib.hid (by rw [HT2.out, HTX.out, ← HSQ.out]; apply ByteArray.ext; simp)⟩, ⟨ao', cap', by (rw [HG2.out, List.length_append]; rfl)⟩, Lib.hid ⟨hS', by (rw [HG2.out, List.length_append, ents_snoc]; exact HR9.out), U9.out⟩⟩
          case measure => simp [RowKit.intOf]; omega
      · by_cases hjI : (j : Int) < (l.length : Int)
        · have hj5 : ¬ (j : Int) < 50 := by omega
          go_wp2
          go_meet
          exact ⟨j, hj1, hj2, rfl, ⟨s, rfl, hsz, HTX⟩, ⟨ag, cg, rfl⟩, Lib.hid ⟨h, SL.out, U.out⟩⟩
        · go_wp2
          go_meet
          exact ⟨j, hj1, hj2, rfl, ⟨s, rfl, hsz, HTX⟩, ⟨ag, cg, rfl⟩, Lib.hid ⟨h, SL.out, U.out⟩⟩
  case rest =>
    obtain ⟨j, hj1, hj2, rfl, ⟨s, rfl, hsz, HTX⟩, ⟨ag, cg, rfl⟩, HV⟩ := hcut
    obtain ⟨h, hsl, hU⟩ := HV.out
    have SL := Lib.hid hsl
    have U := Lib.hid hU
    obtain ⟨G, hG⟩ : ∃ G, goodOf (l.take j) = G := ⟨_, rfl⟩
    have hTl : (textOf (l.take j)).length ≤ 1000000000 := by have := textOf_len (l.take j) (fun x hx => hok x (List.mem_of_mem_take hx)); simp at this; omega
    have hRd := read_text (l.take j) (fun x hx => hok x (List.mem_of_mem_take hx)) (by simp; omega)
    have HR := Lib.hid (fun W (h : Laid W) => tale_readAll (textOf (l.take j)) hTl W h)
    rw [hRd, hG, ← HTX.out] at HR
    rw [hG] at SL ⊢
    have hGl : G.length ≤ 50 := by rw [← hG]; exact Nat.le_trans (List.length_filter_le _ _) (by simp; omega)
    have HLW := Lib.hid (HL.out.upd U.out)
    simp only [RdRes.n, RdRes.e, RdRes.l] at HR
    clear hsl hU HV hRd hTl hG HCE
    go_wp2_with (go_at_call 12; refine Calls.mono (HR.out _ HLW.out) ?_; rintro e w3 ⟨v2, h2, rfl, sl2, u3⟩; obtain ⟨ao2, cap2, rfl, _⟩ := sl2.shape; have SL2 := Lib.hid sl2; have U3 := Lib.hid (U.out.more u3); clear sl2 u3)
    clear HR HLW
    go_loopw [15] (fun q wr => ∃ (i : Nat), i ≤ G.length ∧ q = .int .i64 i ∧ Hid (Upd [] (h2 ++ (h ++ [(Bb, .cells (entCells b) 24 (0, 0)), (Ba, .cells (entCells a) 24 (0, 0))])) w wr)) (fun q _ => G.length - (RowKit.intOf q).toNat)
    case atStart => exact ⟨0, by omega, rfl, U3⟩
    case round =>
      obtain ⟨i, hi, rfl, HV⟩ := hrel
      by_cases hil : i < G.length
      · obtain ⟨g1, o1, c1, hv, _⟩ := SL.out.addr (by omega)
        injection hv with hv1 hv2 hv3
        subst hv1
        clear hv2 hv3
        obtain ⟨g2, o2, c2, hv, _⟩ := SL2.out.addr (by omega)
        injection hv with hv1 hv2 hv3
        subst hv1
        clear hv2 hv3
        have hiI : (i : Int) < (G.length : Int) := by omega
        have hi0 : (0 : Int) ≤ (i : Int) := by omega
        have hiw : IntKind.i64.wrap ((i : Int) + 1) = (i : Int) + 1 := IntWalk.i64_in _ (by omega)
        obtain ⟨y, hy⟩ : ∃ y, G[i] = y := ⟨_, rfl⟩
        have hcell : ∀ (hh : Hp) (g o c : Nat), SliceH 24 5 (.slice (some ⟨g, o, none⟩) G.length c) G.length (entsCells G) hh → ∀ W, In W hh → ∀ k, k < 5 → W.cell? ⟨g, o + (i * 5 + k), none⟩ = (entCells y).toList[k]? := by
          intro hh g o c hs W hiW k hk
          have h1 := entsCells_at G i hil k hk
          rw [hy] at h1
          have h2 : (entCells y).toList[k]? = some ((entCells y).toList[k]'(by simp [entCells]; omega)) := List.getElem?_eq_getElem _
          rw [h2] at h1
          rw [hs.cell hiW rfl (List.getElem?_eq_some_iff.1 h1).1, (List.getElem?_eq_some_iff.1 h1).2, h2]
        obtain ⟨y0, y1, y2, y3, y4⟩ := y
        have p0 : ∀ nq, (World.drewN wr nq).cell? ⟨g1, o1 + i * 5, none⟩ = some (.int .i64 y0) := fun nq => hcell h g1 o1 _ SL.out _ (HV.out.drewN' nq).inn.right.left 0 (by decide)
        have q0 : ∀ nq, (World.drewN wr nq).cell? ⟨g2, o2 + i * 5, none⟩ = some (.int .i64 y0) := fun nq => hcell h2 g2 o2 _ SL2.out _ (HV.out.drewN' nq).inn.left 0 (by decide)
        have p1 : ∀ nq, (World.drewN wr nq).cell? ⟨g1, o1 + i * 5 + 1, none⟩ = some (.int .i64 y1) := fun nq => hcell h g1 o1 _ SL.out _ (HV.out.drewN' nq).inn.right.left 1 (by decide)
        have q1 : ∀ nq, (World.drewN wr nq).cell? ⟨g2, o2 + i * 5 + 1, none⟩ = some (.int .i64 y1) := fun nq => hcell h2 g2 o2 _ SL2.out _ (HV.out.drewN' nq).inn.left 1 (by decide)
        have p2 : ∀ nq, (World.drewN wr nq).cell? ⟨g1, o1 + i * 5 + 2, none⟩ = some (.int .i64 y2) := fun nq => hcell h g1 o1 _ SL.out _ (HV.out.drewN' nq).inn.right.left 2 (by decide)
        have q2 : ∀ nq, (World.drewN wr nq).cell? ⟨g2, o2 + i * 5 + 2, none⟩ = some (.int .i64 y2) := fun nq => hcell h2 g2 o2 _ SL2.out _ (HV.out.drewN' nq).inn.left 2 (by decide)
        have p3 : ∀ nq, (World.drewN wr nq).cell? ⟨g1, o1 + i * 5 + 3, none⟩ = some (.int .i64 y3) := fun nq => hcell h g1 o1 _ SL.out _ (HV.out.drewN' nq).inn.right.left 3 (by decide)
        have q3 : ∀ nq, (World.drewN wr nq).cell? ⟨g2, o2 + i * 5 + 3, none⟩ = some (.int .i64 y3) := fun nq => hcell h2 g2 o2 _ SL2.out _ (HV.out.drewN' nq).inn.left 3 (by decide)
        have p4 : ∀ nq, (World.drewN wr nq).cell? ⟨g1, o1 + i * 5 + 4, none⟩ = some (.int .u64 (y4 : Int)) := fun nq => hcell h g1 o1 _ SL.out _ (HV.out.drewN' nq).inn.right.left 4 (by decide)
        have q4 : ∀ nq, (World.drewN wr nq).cell? ⟨g2, o2 + i * 5 + 4, none⟩ = some (.int .u64 (y4 : Int)) := fun nq => hcell h2 g2 o2 _ SL2.out _ (HV.out.drewN' nq).inn.left 4 (by decide)
        clear hcell hy
        go_wp2_with fail
        go_quiet (fail)
        go_wp2
        go_roundw
        case rel => exact ⟨i + 1, by omega, by go_num, Lib.hid (HV.out.drewN' nq)⟩
        case measure => simp [RowKit.intOf]; omega
      · have hiI : ¬ (i : Int) < (G.length : Int) := by omega
        have H1 := Lib.hid (fun W (h : Laid W) => tale_line a ha W h.tab)
        have H2 := Lib.hid (fun W (h : Laid W) => tale_line b hb W h.tab)
        have U4 := Lib.hid (HV.out.forget ((List.sublist_append_right h _).trans (List.sublist_append_right h2 _)))
        have HL4 := Lib.hid (HL.out.upd U4.out)
        have hinj := fun q (h1 : lineOf a = some q) (h2 : lineOf b = some q) => line_inj ha hb h1 h2
        have hstr : ∀ q q', lineOf a = some q → lineOf b = some q' → a ≠ b → ((⟨q.toArray⟩ : ByteArray).toList == (⟨q'.toArray⟩ : ByteArray).toList) = false := by
          intro q q' h1 h2 hne
          refine (bytes_beq_false_iff _ _).2 (fun e => hne ?_)
          injection e with e
          have e' : q = q' := by simpa using e
          subst e'
          exact hinj q h1 h2
        have HSTR := Lib.hid hstr
        clear HV U3 U SL SL2 hstr hinj ha hb HTX hok
        obtain ⟨a0, a1, a2, a3, a4⟩ := a
        obtain ⟨b0, b1, b2, b3, b4⟩ := b
        have xa0 : wr.cell? ⟨Ba, 0, none⟩ = some (.int .i64 a0) := cell_of U4.out.inn.tail.head 0
        have xa1 : wr.cell? ⟨Ba, 1, none⟩ = some (.int .i64 a1) := cell_of U4.out.inn.tail.head 1
        have xa2 : wr.cell? ⟨Ba, 2, none⟩ = some (.int .i64 a2) := cell_of U4.out.inn.tail.head 2
        have xa3 : wr.cell? ⟨Ba, 3, none⟩ = some (.int .i64 a3) := cell_of U4.out.inn.tail.head 3
        have xa4 : wr.cell? ⟨Ba, 4, none⟩ = some (.int .u64 (a4 : Int)) := cell_of U4.out.inn.tail.head 4
        have xb0 : wr.cell? ⟨Bb, 0, none⟩ = some (.int .i64 b0) := cell_of U4.out.inn.head 0
        have xb1 : wr.cell? ⟨Bb, 1, none⟩ = some (.int .i64 b1) := cell_of U4.out.inn.head 1
        have xb2 : wr.cell? ⟨Bb, 2, none⟩ = some (.int .i64 b2) := cell_of U4.out.inn.head 2
        have xb3 : wr.cell? ⟨Bb, 3, none⟩ = some (.int .i64 b3) := cell_of U4.out.inn.head 3
        have xb4 : wr.cell? ⟨Bb, 4, none⟩ = some (.int .u64 (b4 : Int)) := cell_of U4.out.inn.head 4
        simp only [entCells] at H1 H2
        cases hla : lineOf (⟨a0, a1, a2, a3, a4⟩ : EntS) with
        | none =>
          rw [lineV_none hla] at H1
          cases hlb : lineOf (⟨b0, b1, b2, b3, b4⟩ : EntS) with
          | none =>
            rw [lineV_none hlb] at H2
            clear hla hlb HSTR
            go_wp2_with (first | (have hq := HU5; go_at_call 8; (with_reducible refine Calls.mono (H2.out _ HL5.out) ?_); rintro e w6 ⟨rfl, u6⟩; have U6 := HU5.out.under0 u6; have HL6 := Lib.hid (HL.out.upd U6); have HU6 := Lib.hid U6; clear U6 u6 hq) | (have hq := U4; go_at_call 8; (with_reducible refine Calls.mono (H1.out _ HL4.out) ?_); rintro e w5 ⟨rfl, u5⟩; have U5 := U4.out.under0 u5; have ya0 : w5.cell? ⟨Ba, 0, none⟩ = some (.int .i64 a0) := cell_of U5.inn.tail.head 0; have ya1 : w5.cell? ⟨Ba, 1, none⟩ = some (.int .i64 a1) := cell_of U5.inn.tail.head 1; have ya2 : w5.cell? ⟨Ba, 2, none⟩ = some (.int .i64 a2) := cell_of U5.inn.tail.head 2; have ya3 : w5.cell? ⟨Ba, 3, none⟩ = some (.int .i64 a3) := cell_of U5.inn.tail.head 3; have ya4 : w5.cell? ⟨Ba, 4, none⟩ = some (.int .u64 (a4 : Int)) := cell_of U5.inn.tail.head 4; have yb0 : w5.cell? ⟨Bb, 0, none⟩ = some (.int .i64 b0) := cell_of U5.inn.head 0; have yb1 : w5.cell? ⟨Bb, 1, none⟩ = some (.int .i64 b1) := cell_of U5.inn.head 1; have yb2 : w5.cell? ⟨Bb, 2, none⟩ = some (.int .i64 b2) := cell_of U5.inn.head 2; have yb3 : w5.cell? ⟨Bb, 3, none⟩ = some (.int .i64 b3) := cell_of U5.inn.head 3; have yb4 : w5.cell? ⟨Bb, 4, none⟩ = some (.int .u64 (b4 : Int)) := cell_of U5.inn.head 4; have HL5 := Lib.hid (HL.out.upd U5); have HU5 := Lib.hid U5; clear U5 u5 hq) | (go_at_call 10; refine Calls.mono (H3.out _ HL6.out) ?_; rintro e w7 ⟨rfl, u7⟩; have U7 := HU6.out.under0 u7; have za0 : w7.cell? ⟨Ba, 0, none⟩ = some (.int .i64 a0) := cell_of U7.inn.tail.head 0; have za1 : w7.cell? ⟨Ba, 1, none⟩ = some (.int .i64 a1) := cell_of U7.inn.tail.head 1; have za2 : w7.cell? ⟨Ba, 2, none⟩ = some (.int .i64 a2) := cell_of U7.inn.tail.head 2; have za3 : w7.cell? ⟨Ba, 3, none⟩ = some (.int .i64 a3) := cell_of U7.inn.tail.head 3; have za4 : w7.cell? ⟨Ba, 4, none⟩ = some (.int .u64 (a4 : Int)) := cell_of U7.inn.tail.head 4; have zb0 : w7.cell? ⟨Bb, 0, none⟩ = some (.int .i64 b0) := cell_of U7.inn.head 0; have zb1 : w7.cell? ⟨Bb, 1, none⟩ = some (.int .i64 b1) := cell_of U7.inn.head 1; have zb2 : w7.cell? ⟨Bb, 2, none⟩ = some (.int .i64 b2) := cell_of U7.inn.head 2; have zb3 : w7.cell? ⟨Bb, 3, none⟩ = some (.int .i64 b3) := cell_of U7.inn.head 3; have zb4 : w7.cell? ⟨Bb, 4, none⟩ = some (.int .u64 (b4 : Int)) := cell_of U7.inn.head 4; have HU7 := Lib.hid U7; clear U7))
            go_ret
            exact ⟨rfl, HU7.out.forget (List.nil_sublist _)⟩
          | some qb =>
            rw [lineV_some hlb] at H2
            clear hla hlb HSTR
            go_wp2_with (first | (have hq := HU5; go_at_call 8; (with_reducible refine Calls.mono (H2.out _ HL5.out) ?_); rintro e w6 ⟨rfl, u6⟩; have U6 := HU5.out.under0 u6; have HL6 := Lib.hid (HL.out.upd U6); have HU6 := Lib.hid U6; clear U6 u6 hq) | (have hq := U4; go_at_call 8; (with_reducible refine Calls.mono (H1.out _ HL4.out) ?_); rintro e w5 ⟨rfl, u5⟩; have U5 := U4.out.under0 u5; have ya0 : w5.cell? ⟨Ba, 0, none⟩ = some (.int .i64 a0) := cell_of U5.inn.tail.head 0; have ya1 : w5.cell? ⟨Ba, 1, none⟩ = some (.int .i64 a1) := cell_of U5.inn.tail.head 1; have ya2 : w5.cell? ⟨Ba, 2, none⟩ = some (.int .i64 a2) := cell_of U5.inn.tail.head 2; have ya3 : w5.cell? ⟨Ba, 3, none⟩ = some (.int .i64 a3) := cell_of U5.inn.tail.head 3; have ya4 : w5.cell? ⟨Ba, 4, none⟩ = some (.int .u64 (a4 : Int)) := cell_of U5.inn.tail.head 4; have yb0 : w5.cell? ⟨Bb, 0, none⟩ = some (.int .i64 b0) := cell_of U5.inn.head 0; have yb1 : w5.cell? ⟨Bb, 1, none⟩ = some (.int .i64 b1) := cell_of U5.inn.head 1; have yb2 : w5.cell? ⟨Bb, 2, none⟩ = some (.int .i64 b2) := cell_of U5.inn.head 2; have yb3 : w5.cell? ⟨Bb, 3, none⟩ = some (.int .i64 b3) := cell_of U5.inn.head 3; have yb4 : w5.cell? ⟨Bb, 4, none⟩ = some (.int .u64 (b4 : Int)) := cell_of U5.inn.head 4; have HL5 := Lib.hid (HL.out.upd U5); have HU5 := Lib.hid U5; clear U5 u5 hq) | (go_at_call 10; refine Calls.mono (H3.out _ HL6.out) ?_; rintro e w7 ⟨rfl, u7⟩; have U7 := HU6.out.under0 u7; have za0 : w7.cell? ⟨Ba, 0, none⟩ = some (.int .i64 a0) := cell_of U7.inn.tail.head 0; have za1 : w7.cell? ⟨Ba, 1, none⟩ = some (.int .i64 a1) := cell_of U7.inn.tail.head 1; have za2 : w7.cell? ⟨Ba, 2, none⟩ = some (.int .i64 a2) := cell_of U7.inn.tail.head 2; have za3 : w7.cell? ⟨Ba, 3, none⟩ = some (.int .i64 a3) := cell_of U7.inn.tail.head 3; have za4 : w7.cell? ⟨Ba, 4, none⟩ = some (.int .u64 (a4 : Int)) := cell_of U7.inn.tail.head 4; have zb0 : w7.cell? ⟨Bb, 0, none⟩ = some (.int .i64 b0) := cell_of U7.inn.head 0; have zb1 : w7.cell? ⟨Bb, 1, none⟩ = some (.int .i64 b1) := cell_of U7.inn.head 1; have zb2 : w7.cell? ⟨Bb, 2, none⟩ = some (.int .i64 b2) := cell_of U7.inn.head 2; have zb3 : w7.cell? ⟨Bb, 3, none⟩ = some (.int .i64 b3) := cell_of U7.inn.head 3; have zb4 : w7.cell? ⟨Bb, 4, none⟩ = some (.int .u64 (b4 : Int)) := cell_of U7.inn.head 4; have HU7 := Lib.hid U7; clear U7))
            go_ret
            exact ⟨rfl, HU7.out.forget (List.nil_sublist _)⟩
        | some qa =>
          rw [lineV_some hla] at H1
          cases hlb : lineOf (⟨b0, b1, b2, b3, b4⟩ : EntS) with
          | none =>
            rw [lineV_none hlb] at H2
            clear hla hlb HSTR
            go_wp2_with (first | (have hq := HU5; go_at_call 8; (with_reducible refine Calls.mono (H2.out _ HL5.out) ?_); rintro e w6 ⟨rfl, u6⟩; have U6 := HU5.out.under0 u6; have HL6 := Lib.hid (HL.out.upd U6); have HU6 := Lib.hid U6; clear U6 u6 hq) | (have hq := U4; go_at_call 8; (with_reducible refine Calls.mono (H1.out _ HL4.out) ?_); rintro e w5 ⟨rfl, u5⟩; have U5 := U4.out.under0 u5; have ya0 : w5.cell? ⟨Ba, 0, none⟩ = some (.int .i64 a0) := cell_of U5.inn.tail.head 0; have ya1 : w5.cell? ⟨Ba, 1, none⟩ = some (.int .i64 a1) := cell_of U5.inn.tail.head 1; have ya2 : w5.cell? ⟨Ba, 2, none⟩ = some (.int .i64 a2) := cell_of U5.inn.tail.head 2; have ya3 : w5.cell? ⟨Ba, 3, none⟩ = some (.int .i64 a3) := cell_of U5.inn.tail.head 3; have ya4 : w5.cell? ⟨Ba, 4, none⟩ = some (.int .u64 (a4 : Int)) := cell_of U5.inn.tail.head 4; have yb0 : w5.cell? ⟨Bb, 0, none⟩ = some (.int .i64 b0) := cell_of U5.inn.head 0; have yb1 : w5.cell? ⟨Bb, 1, none⟩ = some (.int .i64 b1) := cell_of U5.inn.head 1; have yb2 : w5.cell? ⟨Bb, 2, none⟩ = some (.int .i64 b2) := cell_of U5.inn.head 2; have yb3 : w5.cell? ⟨Bb, 3, none⟩ = some (.int .i64 b3) := cell_of U5.inn.head 3; have yb4 : w5.cell? ⟨Bb, 4, none⟩ = some (.int .u64 (b4 : Int)) := cell_of U5.inn.head 4; have HL5 := Lib.hid (HL.out.upd U5); have HU5 := Lib.hid U5; clear U5 u5 hq) | (go_at_call 10; refine Calls.mono (H3.out _ HL6.out) ?_; rintro e w7 ⟨rfl, u7⟩; have U7 := HU6.out.under0 u7; have za0 : w7.cell? ⟨Ba, 0, none⟩ = some (.int .i64 a0) := cell_of U7.inn.tail.head 0; have za1 : w7.cell? ⟨Ba, 1, none⟩ = some (.int .i64 a1) := cell_of U7.inn.tail.head 1; have za2 : w7.cell? ⟨Ba, 2, none⟩ = some (.int .i64 a2) := cell_of U7.inn.tail.head 2; have za3 : w7.cell? ⟨Ba, 3, none⟩ = some (.int .i64 a3) := cell_of U7.inn.tail.head 3; have za4 : w7.cell? ⟨Ba, 4, none⟩ = some (.int .u64 (a4 : Int)) := cell_of U7.inn.tail.head 4; have zb0 : w7.cell? ⟨Bb, 0, none⟩ = some (.int .i64 b0) := cell_of U7.inn.head 0; have zb1 : w7.cell? ⟨Bb, 1, none⟩ = some (.int .i64 b1) := cell_of U7.inn.head 1; have zb2 : w7.cell? ⟨Bb, 2, none⟩ = some (.int .i64 b2) := cell_of U7.inn.head 2; have zb3 : w7.cell? ⟨Bb, 3, none⟩ = some (.int .i64 b3) := cell_of U7.inn.head 3; have zb4 : w7.cell? ⟨Bb, 4, none⟩ = some (.int .u64 (b4 : Int)) := cell_of U7.inn.head 4; have HU7 := Lib.hid U7; clear U7))
            go_ret
            exact ⟨rfl, HU7.out.forget (List.nil_sublist _)⟩
          | some qb =>
            rw [lineV_some hlb] at H2
            by_cases hab : (⟨a0, a1, a2, a3, a4⟩ : EntS) = (⟨b0, b1, b2, b3, b4⟩ : EntS)
            · injection hab with e0 e1 e2 e3 e4
              subst e0 e1 e2 e3 e4
              rw [hla] at hlb
              injection hlb with hlb
              subst hlb
              obtain ⟨Sa, hSa⟩ : ∃ s : ByteArray, (⟨qa.toArray⟩ : ByteArray) = s := ⟨_, rfl⟩
              rw [hSa] at H1 H2
              have hs : (Sa.toList == Sa.toList) = true := (bytes_beq_iff _ _).2 rfl
              clear hla HSTR hSa
              go_wp2_with (first | (have hq := HU5; go_at_call 8; (with_reducible refine Calls.mono (H2.out _ HL5.out) ?_); rintro e w6 ⟨rfl, u6⟩; have U6 := HU5.out.under0 u6; have HL6 := Lib.hid (HL.out.upd U6); have HU6 := Lib.hid U6; clear U6 u6 hq) | (have hq := U4; go_at_call 8; (with_reducible refine Calls.mono (H1.out _ HL4.out) ?_); rintro e w5 ⟨rfl, u5⟩; have U5 := U4.out.under0 u5; have ya0 : w5.cell? ⟨Ba, 0, none⟩ = some (.int .i64 a0) := cell_of U5.inn.tail.head 0; have ya1 : w5.cell? ⟨Ba, 1, none⟩ = some (.int .i64 a1) := cell_of U5.inn.tail.head 1; have ya2 : w5.cell? ⟨Ba, 2, none⟩ = some (.int .i64 a2) := cell_of U5.inn.tail.head 2; have ya3 : w5.cell? ⟨Ba, 3, none⟩ = some (.int .i64 a3) := cell_of U5.inn.tail.head 3; have ya4 : w5.cell? ⟨Ba, 4, none⟩ = some (.int .u64 (a4 : Int)) := cell_of U5.inn.tail.head 4; have yb0 : w5.cell? ⟨Bb, 0, none⟩ = some (.int .i64 a0) := cell_of U5.inn.head 0; have yb1 : w5.cell? ⟨Bb, 1, none⟩ = some (.int .i64 a1) := cell_of U5.inn.head 1; have yb2 : w5.cell? ⟨Bb, 2, none⟩ = some (.int .i64 a2) := cell_of U5.inn.head 2; have yb3 : w5.cell? ⟨Bb, 3, none⟩ = some (.int .i64 a3) := cell_of U5.inn.head 3; have yb4 : w5.cell? ⟨Bb, 4, none⟩ = some (.int .u64 (a4 : Int)) := cell_of U5.inn.head 4; have HL5 := Lib.hid (HL.out.upd U5); have HU5 := Lib.hid U5; clear U5 u5 hq) | (go_at_call 10; refine Calls.mono (H3.out _ HL6.out) ?_; rintro e w7 ⟨rfl, u7⟩; have U7 := HU6.out.under0 u7; have za0 : w7.cell? ⟨Ba, 0, none⟩ = some (.int .i64 a0) := cell_of U7.inn.tail.head 0; have za1 : w7.cell? ⟨Ba, 1, none⟩ = some (.int .i64 a1) := cell_of U7.inn.tail.head 1; have za2 : w7.cell? ⟨Ba, 2, none⟩ = some (.int .i64 a2) := cell_of U7.inn.tail.head 2; have za3 : w7.cell? ⟨Ba, 3, none⟩ = some (.int .i64 a3) := cell_of U7.inn.tail.head 3; have za4 : w7.cell? ⟨Ba, 4, none⟩ = some (.int .u64 (a4 : Int)) := cell_of U7.inn.tail.head 4; have zb0 : w7.cell? ⟨Bb, 0, none⟩ = some (.int .i64 a0) := cell_of U7.inn.head 0; have zb1 : w7.cell? ⟨Bb, 1, none⟩ = some (.int .i64 a1) := cell_of U7.inn.head 1; have zb2 : w7.cell? ⟨Bb, 2, none⟩ = some (.int .i64 a2) := cell_of U7.inn.head 2; have zb3 : w7.cell? ⟨Bb, 3, none⟩ = some (.int .i64 a3) := cell_of U7.inn.head 3; have zb4 : w7.cell? ⟨Bb, 4, none⟩ = some (.int .u64 (a4 : Int)) := cell_of U7.inn.head 4; have HU7 := Lib.hid U7; clear U7))
              go_ret
              exact ⟨rfl, HU7.out.forget (List.nil_sublist _)⟩
            · have hs := HSTR.out qa qb hla hlb hab
              obtain ⟨Sa, hSa⟩ : ∃ s : ByteArray, (⟨qa.toArray⟩ : ByteArray) = s := ⟨_, rfl⟩
              obtain ⟨Sb, hSb⟩ : ∃ s : ByteArray, (⟨qb.toArray⟩ : ByteArray) = s := ⟨_, rfl⟩
              rw [hSa, hSb] at hs
              rw [hSa] at H1
              rw [hSb] at H2
              have HAB := Lib.hid hab
              clear hla hlb HSTR hab hSa hSb
              go_wp2_with (first | (have hq := HU5; go_at_call 8; (with_reducible refine Calls.mono (H2.out _ HL5.out) ?_); rintro e w6 ⟨rfl, u6⟩; have U6 := HU5.out.under0 u6; have HL6 := Lib.hid (HL.out.upd U6); have HU6 := Lib.hid U6; clear U6 u6 hq) | (have hq := U4; go_at_call 8; (with_reducible refine Calls.mono (H1.out _ HL4.out) ?_); rintro e w5 ⟨rfl, u5⟩; have U5 := U4.out.under0 u5; have ya0 : w5.cell? ⟨Ba, 0, none⟩ = some (.int .i64 a0) := cell_of U5.inn.tail.head 0; have ya1 : w5.cell? ⟨Ba, 1, none⟩ = some (.int .i64 a1) := cell_of U5.inn.tail.head 1; have ya2 : w5.cell? ⟨Ba, 2, none⟩ = some (.int .i64 a2) := cell_of U5.inn.tail.head 2; have ya3 : w5.cell? ⟨Ba, 3, none⟩ = some (.int .i64 a3) := cell_of U5.inn.tail.head 3; have ya4 : w5.cell? ⟨Ba, 4, none⟩ = some (.int .u64 (a4 : Int)) := cell_of U5.inn.tail.head 4; have yb0 : w5.cell? ⟨Bb, 0, none⟩ = some (.int .i64 b0) := cell_of U5.inn.head 0; have yb1 : w5.cell? ⟨Bb, 1, none⟩ = some (.int .i64 b1) := cell_of U5.inn.head 1; have yb2 : w5.cell? ⟨Bb, 2, none⟩ = some (.int .i64 b2) := cell_of U5.inn.head 2; have yb3 : w5.cell? ⟨Bb, 3, none⟩ = some (.int .i64 b3) := cell_of U5.inn.head 3; have yb4 : w5.cell? ⟨Bb, 4, none⟩ = some (.int .u64 (b4 : Int)) := cell_of U5.inn.head 4; have HL5 := Lib.hid (HL.out.upd U5); have HU5 := Lib.hid U5; clear U5 u5 hq) | (go_at_call 10; refine Calls.mono (H3.out _ HL6.out) ?_; rintro e w7 ⟨rfl, u7⟩; have U7 := HU6.out.under0 u7; have za0 : w7.cell? ⟨Ba, 0, none⟩ = some (.int .i64 a0) := cell_of U7.inn.tail.head 0; have za1 : w7.cell? ⟨Ba, 1, none⟩ = some (.int .i64 a1) := cell_of U7.inn.tail.head 1; have za2 : w7.cell? ⟨Ba, 2, none⟩ = some (.int .i64 a2) := cell_of U7.inn.tail.head 2; have za3 : w7.cell? ⟨Ba, 3, none⟩ = some (.int .i64 a3) := cell_of U7.inn.tail.head 3; have za4 : w7.cell? ⟨Ba, 4, none⟩ = some (.int .u64 (a4 : Int)) := cell_of U7.inn.tail.head 4; have zb0 : w7.cell? ⟨Bb, 0, none⟩ = some (.int .i64 b0) := cell_of U7.inn.head 0; have zb1 : w7.cell? ⟨Bb, 1, none⟩ = some (.int .i64 b1) := cell_of U7.inn.head 1; have zb2 : w7.cell? ⟨Bb, 2, none⟩ = some (.int .i64 b2) := cell_of U7.inn.head 2; have zb3 : w7.cell? ⟨Bb, 3, none⟩ = some (.int .i64 b3) := cell_of U7.inn.head 3; have zb4 : w7.cell? ⟨Bb, 4, none⟩ = some (.int .u64 (b4 : Int)) := cell_of U7.inn.head 4; have HU7 := Lib.hid U7; clear U7))
              all_goals go_ret
              all_goals first | exact ⟨rfl, HU7.out.forget (List.nil_sublist _)⟩ | exact absurd rfl HAB.out | (exfalso; apply HAB.out; simp only [EntS.mk.injEq]; refine ⟨?_, ?_, ?_, ?_, ?_⟩ <;> omega)

theorem taleMany_any (v : Value) (l : List EntS) (a b : EntS) {w : World} (hl : IsEnts w v l) (ha : a.Ok) (hb : b.Ok) (_ : World) (hL : Laid w) : Calls Tryd.prog 6 #[v, .agg (entCells a), .agg (entCells b)] w fun e w' => e = .returned (.bool true) ∧ Upd [] [] w w' :=
  taleMany_walk v l a b w hl ha hb hL

end Go.Proofs.YtnmbehogiioonaaDoor
