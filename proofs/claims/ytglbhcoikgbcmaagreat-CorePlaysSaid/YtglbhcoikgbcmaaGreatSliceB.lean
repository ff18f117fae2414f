/- append, as one step of a region that draws its order: one law for all ways. No condition. -/
import Derived.Test.YtglbhcoikgbcmaaGreatRows
import Derived.Test.YtglbhcoikgbcmaaGreatSlice
import Derived.Deep.RegionLaw
import Derived.Deep.RegionLawGrows
set_option linter.unusedVariables false
set_option linter.unusedSimpArgs false
namespace Go.Proofs.YtglbhcoikgbcmaaGreat
open Go.RowKit

theorem step_append_mine {P : Program} {w : World} {ops : Array Oper} {o : Oper} {a : Act} {K : Act → World → Prop} {Q : Exit → Act → World → Prop} {E : Prop}
    (hg : o.guard = none) (s x : Operand) (t : TypeId) (hop : o.op = Op.call { callee := Callee.builtin Builtin.append, args := #[s, x], argTypes := #[t, t] })
    (e : TypeId) (size bytes : Nat) (z : Value) (h1 : P.underlying t = some (.slice e)) (hinfo : (P.info? e).map (fun i => (i.zero, i.size, i.bytes)) = some (some z, size, bytes)) (h6 : z.cells.size = size) (h7 : 0 < size)
    (v : Value) (n : Nat) (xs : List Value) (hX : Hp) (hs : a.eval s = v) (HS : SliceH e size v n xs hX) (hin : In w hX)
    (ad : Addr) (m c : Nat) (news : List Value) (hx : a.eval x = .slice (some ad) m c) (hc : ∀ j u, news[j]? = some u → w.cell? (ad.add j) = some u) (hn : news.length = m * size) (h1c : ∀ u ∈ news, u.oneCell' = true) (hm : 0 < m ∨ v ≠ .slice none 0 0)
    (b1 : n + m ≤ maxLen) (b2 : (n + m) * bytes ≤ 140737488355328)
    (hK : ∀ v' w' hX', SliceH e size v' (n + m) (xs ++ news) hX' → Upd hX hX' w w' → K (a.put o.dst v') w') :
    if Region.wanted o (yielded ops a.tmps) = true then Oper.wp P o a w K Q else E := by
  obtain ⟨i, hi, hz0, hz1, hz2⟩ := info_parts hinfo
  obtain ⟨hlen, HS⟩ := HS
  have hlen2 : (xs ++ news).length = (n + m) * size := by rw [List.length_append, hlen, hn, Nat.add_mul]
  rcases HS with ⟨rfl, rfl, rfl⟩ | ⟨g, pre, post, cap, rfl, rfl, hnc, hcap, hcm⟩
  · obtain rfl : xs = [] := List.eq_nil_of_length_eq_zero (by simpa using hlen)
    have hm : 0 < m := hm.resolve_right (by simp)
    refine step_append_grows hg s x t hop e i z size bytes h1 hi hz0 hz1 hz2 h6 h7 none 0 0 [] hs (fun _ => ⟨rfl, rfl⟩) (by simp) (by intro _ h; cases h) ad m c news hx hn hc h1c (by omega) b1 b2 ?_
    intro v' w' hown hgrow
    obtain ⟨hl, hown⟩ := hown
    rcases hown with ⟨rfl, h0⟩ | ⟨g, cap, cur, rfl, hge, hgb, hnc, hcm, hsz, htk⟩
    · omega
    · refine hK _ _ [(g, .cells ([] ++ ([] ++ news) ++ (cur.toList.drop ((0 + m) * size))).toArray e (0, 0))] ⟨hlen2, .inr ⟨g, [], cur.toList.drop ((0 + m) * size), cap, rfl, rfl, hnc, ?_, hcm⟩⟩ ?_
      · rw [hlen2]
        simp [hsz]
        have : m * size ≤ cap * size := Nat.mul_le_mul_right _ (by omega)
        omega
      · have hcur : ([] ++ ([] ++ news) ++ (cur.toList.drop ((0 + m) * size))).toArray = cur := by
          have : cur.toList = news ++ cur.toList.drop ((0 + m) * size) := by
            rw [List.nil_append] at htk
            conv => lhs; rw [← List.take_append_drop ((0 + m) * size) cur.toList, htk]
          apply Array.toList_inj.1
          simpa using this.symm
        rw [hcur]
        exact { inn := ⟨by simp, by intro x hx; simp at hx; subst hx; exact hgb⟩, os := hgrow.os, tape := hgrow.tape, output := hgrow.output, size := hgrow.size, frame := fun k hk _ => hgrow.block k hk (by simp), fresh := fun k hk => by simp at hk; subst hk; exact .inr hge }
  · have hgb := hin.head
    have hcells : ∀ j u, xs[j]? = some u → w.cell? ((⟨g, pre.length, none⟩ : Addr).add j) = some u := by
      intro j u hj
      rw [Addr.add_lit]
      rw [cell_of hgb]
      have hj' : j < xs.length := (List.getElem?_eq_some_iff.1 hj).1
      have e := (List.getElem?_eq_some_iff.1 hj).2
      simp [List.getElem?_append, hj', e]
    by_cases hr : n + m ≤ cap
    · have hspare : ∀ j, j < news.length → (w.cell? ⟨g, pre.length + n * size + j, none⟩).isSome = true ∧ w.frozen? ⟨g, pre.length + n * size + j, none⟩ = false := by
        intro j hj
        have : j < post.length := by
          have : (n + m) * size ≤ cap * size := Nat.mul_le_mul_right _ hr
          rw [Nat.add_mul] at this
          omega
        refine ⟨?_, frozen_of hgb _⟩
        rw [cell_of hgb, ← hlen]
        have e : pre.length + xs.length + j < (pre ++ xs ++ post).length := by simp; omega
        simp only [List.getElem?_toArray]
        rw [List.getElem?_eq_getElem e]
        rfl
      refine step_append_room hg s x t hop e i size h1 hi hz1 g pre.length n cap hs ad m c news hx hn hc h1c hr hspare ?_
      have hle : (n + m) * size ≤ cap * size := Nat.mul_le_mul_right _ hr
      rw [Nat.add_mul] at hle
      have hpl : news.length ≤ post.length := by omega
      obtain ⟨old, post', rfl, hol⟩ : ∃ old post', post = old ++ post' ∧ old.length = news.length := ⟨post.take news.length, post.drop news.length, (List.take_append_drop _ _).symm, by simp; omega⟩
      have hrow := setCells_row g e (0, 0) news (pre.length + n * size) _ w hgb (by simp; omega)
      rw [hrow]
      have es : ((pre ++ xs ++ (old ++ post')).toArray.toList.take (pre.length + n * size) ++ news ++ (pre ++ xs ++ (old ++ post')).toArray.toList.drop (pre.length + n * size + news.length)) = pre ++ (xs ++ news) ++ post' := by
        rw [← hlen]
        simpa using splice_mid pre xs old post' news hol
      rw [es]
      refine hK _ _ [(g, .cells (pre ++ (xs ++ news) ++ post').toArray e (0, 0))] ⟨hlen2, .inr ⟨g, pre, post', cap, rfl, rfl, hr, ?_, hcm⟩⟩ ?_
      · simp at hcap ⊢; omega
      · have hbk := setRow_heap w g _ (pre ++ (xs ++ news) ++ post').toArray e (0, 0) hgb
        exact { inn := ⟨by simp, by intro x hx; simp only [List.mem_singleton] at hx; subst hx; exact hbk⟩, os := rfl, tape := rfl, output := rfl, size := by simp [World.setRow], frame := fun k hk hne => setRow_other w g k _ (by simpa using hne), fresh := fun k hk => .inl (by simpa using hk) }
    · refine step_append_grows hg s x t hop e i z size bytes h1 hi hz0 hz1 hz2 h6 h7 (some ⟨g, pre.length, none⟩) n cap xs hs (by intro h; cases h) hlen (by intro b hb; cases hb; exact hcells) ad m c news hx hn hc h1c (by omega) b1 b2 ?_
      intro v' w' hown hgrow
      obtain ⟨hl, hown⟩ := hown
      rcases hown with ⟨rfl, h0⟩ | ⟨g2, cap2, cur, rfl, hge, hgb2, hnc2, hcm2, hsz, htk⟩
      · have : n ≤ cap := hnc
        omega
      · refine hK _ _ [(g2, .cells ([] ++ (xs ++ news) ++ (cur.toList.drop ((n + m) * size))).toArray e (0, 0))] ⟨hlen2, .inr ⟨g2, [], cur.toList.drop ((n + m) * size), cap2, rfl, rfl, hnc2, ?_, hcm2⟩⟩ ?_
        · rw [hlen2]
          simp [hsz]
          have : (n + m) * size ≤ cap2 * size := Nat.mul_le_mul_right _ hnc2
          omega
        · have hcur : ([] ++ (xs ++ news) ++ (cur.toList.drop ((n + m) * size))).toArray = cur := by
            have : cur.toList = xs ++ news ++ cur.toList.drop ((n + m) * size) := by
              conv => lhs; rw [← List.take_append_drop ((n + m) * size) cur.toList, htk]
            apply Array.toList_inj.1
            simpa using this.symm
          rw [hcur]
          exact { inn := ⟨by simp, by intro x hx; simp at hx; subst hx; exact hgb2⟩, os := hgrow.os, tape := hgrow.tape, output := hgrow.output, size := hgrow.size, frame := fun k hk _ => hgrow.block k hk (by simp), fresh := fun k hk => by simp at hk; subst hk; exact .inr hge }


end Go.Proofs.YtglbhcoikgbcmaaGreat
