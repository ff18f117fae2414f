/- Slices that a program owns: what they hold, and append onto them. Conditions: sizes that fit. -/
import Derived.Test.YtnmbehogiioonaaDoorLib
import Derived.ArgAppend
import Derived.Laws.CopyRow
import Derived.Laws.MakeOwn
set_option linter.unusedVariables false
set_option linter.unusedSimpArgs false
namespace Go.Proofs.YtnmbehogiioonaaDoor
open Go.RowKit

/-- the slice v of n elements of size cells each, of type T, holds the cells xs; its block, if it has one, is h -/
def SliceH (T : TypeId) (size : Nat) (v : Value) (n : Nat) (xs : List Value) (h : Hp) : Prop :=
  xs.length = n * size ∧ ((v = .slice none 0 0 ∧ n = 0 ∧ h = []) ∨
    ∃ (g : Nat) (pre post : List Value) (cap : Nat), v = .slice (some ⟨g, pre.length, none⟩) n cap ∧ h = [(g, .cells (pre ++ xs ++ post).toArray T (0, 0))] ∧ n ≤ cap ∧ cap * size ≤ xs.length + post.length ∧ cap ≤ maxLen)

theorem setCells_row (b : Nat) (T : TypeId) (fr : Nat × Nat) : ∀ (vs : List Value) (o : Nat) (cur : Array Value) (w : World), w.heap[b]? = some (.cells cur T fr) → o + vs.length ≤ cur.size →
    w.setCells b o vs = w.setRow b (cur.toList.take o ++ vs ++ cur.toList.drop (o + vs.length)).toArray
  | [], o, cur, w, hb, _ => by
    simp only [World.setCells, List.append_nil, List.length_nil, Nat.add_zero, List.take_append_drop, Array.toArray_toList]
    exact (setRow_self w b cur T fr hb).symm
  | v :: vs, o, cur, w, hb, hl => by
    simp only [World.setCells]
    have hl' : o + (vs.length + 1) ≤ cur.size := by simpa using hl
    rw [setCell_eq_setRow w b o cur T fr v hb]
    have ih := setCells_row b T fr vs (o + 1) (cur.setIfInBounds o v) (w.setRow b (cur.setIfInBounds o v)) (setRow_heap w b cur _ T fr hb) (by simp; omega)
    rw [ih, setRow_setRow]
    congr 2
    have e := list_seg_step cur.toList o v vs (by simpa using hl')
    simpa [Array.toList_setIfInBounds, Nat.add_assoc] using e

theorem splice_mid (pre xs old post news : List Value) (h : old.length = news.length) :
    ((pre ++ xs ++ (old ++ post)).take (pre.length + xs.length) ++ news ++ (pre ++ xs ++ (old ++ post)).drop (pre.length + xs.length + news.length)) = pre ++ (xs ++ news) ++ post := by
  have e1 : (pre ++ xs ++ (old ++ post)).take (pre.length + xs.length) = pre ++ xs := by
    rw [show pre.length + xs.length = (pre ++ xs).length by simp]
    exact List.take_left
  have e2 : (pre ++ xs ++ (old ++ post)).drop (pre.length + xs.length + news.length) = post := by
    rw [← h, show pre.length + xs.length + old.length = (pre ++ xs ++ old).length by simp; omega, ← List.append_assoc (pre ++ xs)]
    exact List.drop_left
  rw [e1, e2]
  simp

/-- append: one law for all ways -/
theorem wpList_append_mine {P : Program} {w : World} {ops : Array Oper} {rest : List Oper} {o : Oper} {a : Act} {Q : Exit → Act → World → Prop}
    (hg : o.guard = none) (s x : Operand) (t : TypeId) (hop : o.op = Op.call { callee := Callee.builtin Builtin.append, args := #[s, x], argTypes := #[t, t] })
    (e : TypeId) (size bytes : Nat) (z : Value) (h1 : P.underlying t = some (.slice e)) (hinfo : (P.info? e).map (fun i => (i.zero, i.size, i.bytes)) = some (some z, size, bytes)) (h6 : z.cells.size = size) (h7 : 0 < size)
    (v : Value) (n : Nat) (xs : List Value) (hX : Hp) (hs : a.eval s = v) (HS : SliceH e size v n xs hX) (hin : In w hX)
    (ad : Addr) (m c : Nat) (news : List Value) (hx : a.eval x = .slice (some ad) m c) (hc : ∀ j u, news[j]? = some u → w.cell? (ad.add j) = some u) (hn : news.length = m * size) (h1c : ∀ u ∈ news, u.oneCell' = true) (hm : 0 < m ∨ v ≠ .slice none 0 0)
    (b1 : n + m ≤ maxLen) (b2 : (n + m) * bytes ≤ 140737488355328)
    (hK : ∀ v' w' hX', SliceH e size v' (n + m) (xs ++ news) hX' → Upd hX hX' w w' → wpList P ops Q rest (a.put o.dst v') w') : wpList P ops Q (o :: rest) a w := by
  obtain ⟨i, hi, hz0, hz1, hz2⟩ := info_parts hinfo
  obtain ⟨hlen, HS⟩ := HS
  have hlen2 : (xs ++ news).length = (n + m) * size := by rw [List.length_append, hlen, hn, Nat.add_mul]
  rcases HS with ⟨rfl, rfl, rfl⟩ | ⟨g, pre, post, cap, rfl, rfl, hnc, hcap, hcm⟩
  · obtain rfl : xs = [] := List.eq_nil_of_length_eq_zero (by simpa using hlen)
    have hm : 0 < m := hm.resolve_right (by simp)
    refine wpList_append_grows w hg s x t hop e i z size bytes h1 hi hz0 hz1 hz2 h6 h7 none 0 0 [] hs (fun _ => ⟨rfl, rfl⟩) (by simp) (by intro _ h; cases h) ad m c news hx hn hc h1c (by omega) b1 b2 ?_
    intro v' w' hown hgrow
    obtain ⟨hl, hown⟩ := hown
    rcases hown with ⟨rfl, h0⟩ | ⟨g, cap, cur, rfl, hge, hgb, hnc, hcm, hsz, htk⟩
    · omega
    · refine hK _ _ [(g, .cells ([] ++ ([] ++ news) ++ (cur.toList.drop ((0 + m) * size))).toArray e (0, 0))] ⟨hlen2, .inr ⟨g, [], cur.toList.drop ((0 + m) * size), cap, rfl, rfl, hnc, ?_, hcm⟩⟩ ?_
      · rw [hlen2]
        simp [hsz]
        have : m * size ≤ cap * size := Nat.mul_le_mul_right _ (by omega)
        omega
      · have hcur : ([] ++ ([] ++ news) ++ (cur.toList.drop ((0 + m) * size))).toArray = cur := by
          have : cur.toList = news ++ cur.toList.drop ((0 + m) * size) := by
            rw [List.nil_append] at htk
            conv => lhs; rw [← List.take_append_drop ((0 + m) * size) cur.toList, htk]
          apply Array.toList_inj.1
          simpa using this.symm
        rw [hcur]
        exact { inn := ⟨by simp, by intro x hx; simp at hx; subst hx; exact hgb⟩, os := hgrow.os, tape := hgrow.tape, output := hgrow.output, size := hgrow.size, frame := fun k hk _ => hgrow.block k hk (by simp), fresh := fun k hk => by simp at hk; subst hk; exact .inr hge }
  · have hgb := hin.head
    refine wpList_append_arg w hg s x t hop e i z size bytes h1 hi hz0 hz1 hz2 h6 h7 g pre.length n cap xs hs hlen ?_ ad m c news hx hn hc h1c ?_ b1 b2 ?_ ?_
    · intro j u hj
      rw [cell_of hgb]
      have hj' : j < xs.length := (List.getElem?_eq_some_iff.1 hj).1
      have e := (List.getElem?_eq_some_iff.1 hj).2
      simp [List.getElem?_append, hj', e]
    · intro hr j hj
      have : j < post.length := by
        have : (n + m) * size ≤ cap * size := Nat.mul_le_mul_right _ hr
        rw [Nat.add_mul] at this
        omega
      refine ⟨?_, frozen_of hgb _⟩
      rw [cell_of hgb, ← hlen]
      have e : pre.length + xs.length + j < (pre ++ xs ++ post).length := by simp; omega
      simp only [List.getElem?_toArray]
      rw [List.getElem?_eq_getElem e]
      rfl
    · intro hr
      have hle : (n + m) * size ≤ cap * size := Nat.mul_le_mul_right _ hr
      rw [Nat.add_mul] at hle
      have hpl : news.length ≤ post.length := by omega
      obtain ⟨old, post', rfl, hol⟩ : ∃ old post', post = old ++ post' ∧ old.length = news.length := ⟨post.take news.length, post.drop news.length, (List.take_append_drop _ _).symm, by simp; omega⟩
      have hrow := setCells_row g e (0, 0) news (pre.length + n * size) _ w hgb (by simp; omega)
      rw [hrow]
      have es : ((pre ++ xs ++ (old ++ post')).toArray.toList.take (pre.length + n * size) ++ news ++ (pre ++ xs ++ (old ++ post')).toArray.toList.drop (pre.length + n * size + news.length)) = pre ++ (xs ++ news) ++ post' := by
        rw [← hlen]
        simpa using splice_mid pre xs old post' news hol
      rw [es]
      refine hK _ _ [(g, .cells (pre ++ (xs ++ news) ++ post').toArray e (0, 0))] ⟨hlen2, .inr ⟨g, pre, post', cap, rfl, rfl, hr, ?_, hcm⟩⟩ ?_
      · simp at hcap ⊢; omega
      · have hbk := setRow_heap w g _ (pre ++ (xs ++ news) ++ post').toArray e (0, 0) hgb
        exact { inn := ⟨by simp, by intro x hx; simp only [List.mem_singleton] at hx; subst hx; exact hbk⟩, os := rfl, tape := rfl, output := rfl, size := by simp [World.setRow], frame := fun k hk hne => setRow_other w g k _ (by simpa using hne), fresh := fun k hk => .inl (by simpa using hk) }
    · intro hfull v' w' hown hgrow
      obtain ⟨hl, hown⟩ := hown
      rcases hown with ⟨rfl, h0⟩ | ⟨g2, cap2, cur, rfl, hge, hgb2, hnc2, hcm2, hsz, htk⟩
      · have : n ≤ cap := hnc
        omega
      · refine hK _ _ [(g2, .cells ([] ++ (xs ++ news) ++ (cur.toList.drop ((n + m) * size))).toArray e (0, 0))] ⟨hlen2, .inr ⟨g2, [], cur.toList.drop ((n + m) * size), cap2, rfl, rfl, hnc2, ?_, hcm2⟩⟩ ?_
        · rw [hlen2]
          simp [hsz]
          have : (n + m) * size ≤ cap2 * size := Nat.mul_le_mul_right _ hnc2
          omega
        · have hcur : ([] ++ (xs ++ news) ++ (cur.toList.drop ((n + m) * size))).toArray = cur := by
            have : cur.toList = xs ++ news ++ cur.toList.drop ((n + m) * size) := by
              conv => lhs; rw [← List.take_append_drop ((n + m) * size) cur.toList, htk]
            apply Array.toList_inj.1
            simpa using this.symm
          rw [hcur]
          exact { inn := ⟨by simp, by intro x hx; simp at hx; subst hx; exact hgb2⟩, os := hgrow.os, tape := hgrow.tape, output := hgrow.output, size := hgrow.size, frame := fun k hk _ => hgrow.block k hk (by simp), fresh := fun k hk => by simp at hk; subst hk; exact .inr hge }

/-- what a block's cells are to an append -/
theorem news_of {w : World} {b : Nat} {news : List Value} {T : TypeId} {fr : Nat × Nat} (hb : w.heap[b]? = some (.cells news.toArray T fr)) :
    ∀ j u, news[j]? = some u → w.cell? ((⟨b, 0, none⟩ : Addr).add j) = some u := by
  intro j u hj
  rw [Addr.add_lit, Nat.zero_add, cell_of hb]
  simpa using hj

/-- a cell of a slice -/
theorem SliceH.cell {T : TypeId} {size : Nat} {v : Value} {n : Nat} {xs : List Value} {h : Hp} {w : World} (hs : SliceH T size v n xs h) (hi : In w h) {g off cap : Nat} (hv : v = .slice (some ⟨g, off, none⟩) n cap) {j : Nat} (hj : j < xs.length) :
    w.cell? ⟨g, off + j, none⟩ = some xs[j] := by
  rcases hs.2 with ⟨rfl, _, _⟩ | ⟨g', pre, post, cap', rfl, rfl, _, _, _⟩
  · cases hv
  · cases hv
    rw [cell_of hi.head]
    simp [List.getElem?_append, hj]
theorem SliceH.news {T : TypeId} {size : Nat} {v : Value} {n : Nat} {xs : List Value} {h : Hp} {w : World} (hs : SliceH T size v n xs h) (hi : In w h) {g off cap : Nat} (hv : v = .slice (some ⟨g, off, none⟩) n cap) :
    ∀ j u, xs[j]? = some u → w.cell? ((⟨g, off, none⟩ : Addr).add j) = some u := by
  intro j u hj
  obtain ⟨hj', rfl⟩ := List.getElem?_eq_some_iff.1 hj
  rw [Addr.add_lit]
  exact hs.cell hi hv hj'
theorem SliceH.frozen {T : TypeId} {size : Nat} {v : Value} {n : Nat} {xs : List Value} {h : Hp} {w : World} (hs : SliceH T size v n xs h) (hi : In w h) {g off cap : Nat} (hv : v = .slice (some ⟨g, off, none⟩) n cap) (j : Nat) :
    w.frozen? ⟨g, j, none⟩ = false := by
  rcases hs.2 with ⟨rfl, _, _⟩ | ⟨g', pre, post, cap', rfl, rfl, _, _, _⟩
  · cases hv
  · cases hv
    exact frozen_of hi.head _
theorem SliceH.addr {T : TypeId} {size : Nat} {v : Value} {n : Nat} {xs : List Value} {h : Hp} (hs : SliceH T size v n xs h) (hn : 0 < n) : ∃ g off cap, v = .slice (some ⟨g, off, none⟩) n cap ∧ n ≤ cap := by
  rcases hs.2 with ⟨_, h0, _⟩ | ⟨g', pre, post, cap', rfl, rfl, hc, _, _⟩
  · omega
  · exact ⟨_, _, _, rfl, hc⟩
theorem SliceH.shape {T : TypeId} {size : Nat} {v : Value} {n : Nat} {xs : List Value} {h : Hp} (hs : SliceH T size v n xs h) : ∃ ao cap, v = .slice ao n cap ∧ n ≤ cap := by
  rcases hs.2 with ⟨rfl, rfl, _⟩ | ⟨g', pre, post, cap', rfl, rfl, hc, _, _⟩
  · exact ⟨_, _, rfl, Nat.le_refl _⟩
  · exact ⟨_, _, rfl, hc⟩
theorem SliceH.nil (T : TypeId) (size : Nat) : SliceH T size (.slice none 0 0) 0 [] [] := ⟨by simp, .inl ⟨rfl, rfl, rfl⟩⟩
/-- a block made whole -/
theorem SliceH.made {T : TypeId} {g n : Nat} {xs : List Value} (hl : xs.length = n) (hm : n ≤ maxLen) : SliceH T 1 (.slice (some ⟨g, 0, none⟩) n n) n xs [(g, .cells xs.toArray T (0, 0))] :=
  ⟨by omega, .inr ⟨g, [], [], n, rfl, by simp, Nat.le_refl _, by simp [hl], hm⟩⟩

/-- numbers as cells -/
abbrev ints (l : List Int) : List Value := l.map (Value.int .i64)

theorem store_mid (pre xs post : List Value) (j : Nat) (v : Value) (hj : j < xs.length) : (pre ++ xs ++ post).toArray.setIfInBounds (pre.length + j) v = (pre ++ xs.set j v ++ post).toArray := by
  simp [List.set_append, hj]

/-- a store into a slice -/
theorem SliceH.store {T : TypeId} {v : Value} {n : Nat} {xs : List Value} {h : Hp} {w : World} (hs : SliceH T 1 v n xs h) (hi : In w h) {g off cap : Nat} (hv : v = .slice (some ⟨g, off, none⟩) n cap) {j : Nat} (hj : j < xs.length) (u : Value) :
    ∃ h', SliceH T 1 v n (xs.set j u) h' ∧ Upd h h' w (w.setCell ⟨g, off + j, none⟩ u) := by
  obtain ⟨hl, hs⟩ := hs
  rcases hs with ⟨rfl, _, _⟩ | ⟨g', pre, post, cap', rfl, rfl, h1, h2, h3⟩
  · cases hv
  · cases hv
    refine ⟨_, ⟨by simpa using hl, .inr ⟨g, pre, post, cap, rfl, rfl, h1, by simpa using h2, h3⟩⟩, ?_⟩
    have := Upd.store (l := []) (r := []) (off := pre.length + j) (v := u) hi
    rw [store_mid pre xs post j u hj] at this
    exact this

/-- the same slice, its capacity cut off -/
theorem SliceH.clip {T : TypeId} {g off n cap : Nat} {xs : List Value} {h : Hp} (hs : SliceH T 1 (.slice (some ⟨g, off, none⟩) n cap) n xs h) : SliceH T 1 (.slice (some ⟨g, off, none⟩) n n) n xs h := by
  obtain ⟨hl, hs⟩ := hs
  rcases hs with ⟨h1, _, _⟩ | ⟨g', pre, post, cap', h1, h2, h3, h4, h5⟩
  · cases h1
  · cases h1
    exact ⟨hl, .inr ⟨g, pre, post, n, rfl, h2, Nat.le_refl _, by omega, by omega⟩⟩

theorem madeCells_one (z : Value) (n : Nat) : madeCells #[z] n = (List.replicate n z).toArray := by
  apply Array.ext
  · simp [madeCells]
  · intro i h1 h2
    have : i % 1 = 0 := by omega
    simp [madeCells, this]

/-- make, of elements of one cell -/
theorem run_make1 {P : Program} (w : World) (t e : TypeId) (z : Value) (bytes : Nat) (hu : P.underlying t = some (.slice e)) (hinfo : (P.info? e).map (fun i => (i.zero, i.size, i.bytes)) = some (some z, 1, bytes)) (hz : z.cells = #[z])
    (n : Nat) (hn : n ≤ 1048576) (hb : bytes ≤ 64) :
    (Instr.makeSlice t (.int .i64 n) (.int .i64 n)).run P w = .ok (.slice (some ⟨w.heap.size, 0, none⟩) n n) (w.alloc (.cells (List.replicate n z).toArray e (0, 0))) := by
  obtain ⟨i, hi, hz0, hz1, hz2⟩ := info_parts hinfo
  have hmul : (i.bytes : Int) * (n : Int) ≤ 281474976710656 := by
    rw [hz2]
    have : (bytes : Int) * (n : Int) ≤ 64 * 1048576 := Int.mul_le_mul (by omega) (by omega) (by omega) (by omega)
    omega
  have h := run_make (P := P) w t e i z hu hi hz0 .i64 .i64 n n (by omega) (by omega) hmul (by omega)
  rw [hz1, hz, Nat.mul_one, Int.toNat_natCast, madeCells_one] at h
  exact h

end Go.Proofs.YtnmbehogiioonaaDoor
