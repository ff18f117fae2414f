/- The entries of a text. Condition: the library's variables are as its text lays them. -/
import Derived.Test.YtnmbehogiioonaaDoorT23Loop
import Derived.Test.YtnmbehogiioonaaDoorT23Step
set_option linter.unusedVariables false
set_option linter.unusedSimpArgs false
namespace Go.Proofs.YtnmbehogiioonaaDoor
open Go.RowKit Go.Shelf Go.Lib
attribute [local go_sem] Oper.semAt_some

def trimNl (s : List UInt8) : List UInt8 := Lib.trimSuffix s [10]
inductive RdRes where
  | ok (l : List EntS)
  | bad (n : Nat)
  | over
def rdGo : List (List UInt8) → List EntS → RdRes
  | [], out => .ok out
  | x :: xs, out => if 65536 ≤ out.length then .over else match stepOf (trimNl x) with
    | none => .bad (out.length + 1)
    | some e => rdGo xs (out ++ [e])
def readOf (text : List UInt8) : RdRes := rdGo (linesL text) []
def entsCells (l : List EntS) : List Value := (l.map fun x => (entCells x).toList).flatten
def RdRes.n : RdRes → Int
  | .ok _ => 0
  | .bad n => n
  | .over => 0
def RdRes.e : RdRes → Int
  | .ok _ => 0
  | .bad _ => 9
  | .over => 10
def RdRes.l : RdRes → List EntS
  | .ok l => l
  | .bad _ => []
  | .over => []

/-- a row of its own grew -/
theorem Upd.grownOwn {w W W1 : World} {H : Hp} {e : TypeId} {size : Nat} {v : Value} {k : Nat} {xs : List Value} (u : Upd [] H w W) (ho : W.ownsRow w.heap.size e size v k xs)
    (hg : W.grownBy W1 v.ownBlock) (hd : ∀ x ∈ H, ∀ cur fr, x.2 ≠ .cells cur e fr) : Upd [] H w W1 := by
  have key : ∀ b, v.ownBlock = some b → w.heap.size ≤ b ∧ b ∉ H.map Prod.fst := by
    intro b hb
    rcases ho.2 with ⟨rfl, _⟩ | ⟨g, cap, cur, rfl, hge, hgb, _⟩
    · cases hb
    · have : g = b := by simpa [Value.ownBlock] using hb
      subst this
      refine ⟨hge, fun hm => ?_⟩
      obtain ⟨x, hx, hxb⟩ := List.mem_map.1 hm
      have := u.inn.2 x hx
      rw [hxb, hgb] at this
      injection this with this
      exact hd x hx _ _ this.symm
  refine { inn := ⟨u.inn.1, fun x hx => ?_⟩, os := hg.os.trans u.os, tape := hg.tape.trans u.tape, output := hg.output.trans u.output, size := Nat.le_trans u.size hg.size, frame := fun b hb hn => ?_, fresh := u.fresh }
  · have h1 := u.inn.2 x hx
    rw [hg.block x.1 (Array.getElem?_eq_some_iff.1 h1).1 (fun e => (key _ e.symm).2 (List.mem_map_of_mem hx))]
    exact h1
  · rw [hg.block b (Nat.lt_of_lt_of_le hb u.size) (fun e => by have := (key _ e.symm).1; omega)]
    exact u.frame b hb hn
theorem slice_of_row {w W : World} {e : TypeId} {size : Nat} {v : Value} {k : Nat} {xs : List Value} {H : Hp} (u : Upd [] H w W) (ho : W.ownsRow w.heap.size e size v k xs) : ∃ h, SliceH e size v k xs h ∧ Upd [] h w W := by
  obtain ⟨hl, ho⟩ := ho
  rcases ho with ⟨rfl, h0⟩ | ⟨g, cap, cur, rfl, hge, hgb, hnc, hcm, hsz, htk⟩
  · subst h0
    obtain rfl : xs = [] := List.eq_nil_of_length_eq_zero (by simpa using hl)
    exact ⟨[], SliceH.nil _ _, u.forget (List.nil_sublist _)⟩
  · have hcur : ([] ++ xs ++ (cur.toList.drop (k * size))).toArray = cur := by
      have : cur.toList = xs ++ cur.toList.drop (k * size) := by
        conv => lhs; rw [← List.take_append_drop (k * size) cur.toList, htk]
      apply Array.toList_inj.1
      simpa using this.symm
    refine ⟨[(g, .cells ([] ++ xs ++ (cur.toList.drop (k * size))).toArray e (0, 0))], ⟨hl, .inr ⟨g, [], cur.toList.drop (k * size), cap, rfl, rfl, hnc, ?_, hcm⟩⟩, ?_⟩
    · rw [hl]; simp [hsz]
      have : k * size ≤ cap * size := Nat.mul_le_mul_right _ hnc
      omega
    · rw [hcur]
      exact { inn := ⟨by simp, by intro x hx; simp at hx; subst hx; exact hgb⟩, os := u.os, tape := u.tape, output := u.output, size := u.size, frame := u.frame, fresh := fun b hb => by simp at hb; subst hb; exact .inr hge }

/-- a row of its own, in one block or none -/
def RowH (e : TypeId) (size : Nat) (v : Value) (n : Nat) (xs : List Value) (h : Hp) : Prop :=
  (v = .slice none 0 0 ∧ n = 0 ∧ xs = [] ∧ h = []) ∨ ∃ g cap cur, v = .slice (some ⟨g, 0, none⟩) n cap ∧ h = [(g, .cells cur e (0, 0))] ∧ n ≤ cap ∧ cap ≤ maxLen ∧ cur.size = cap * size ∧ cur.toList.take (n * size) = xs ∧ xs.length = n * size
theorem RowH.shape {e : TypeId} {size : Nat} {v : Value} {n : Nat} {xs : List Value} {h : Hp} (hr : RowH e size v n xs h) : ∃ ao cap, v = .slice ao n cap := by
  rcases hr with ⟨rfl, rfl, _, _⟩ | ⟨g, cap, cur, rfl, _⟩
  · exact ⟨_, _, rfl⟩
  · exact ⟨_, _, rfl⟩
theorem RowH.own {e : TypeId} {size : Nat} {v : Value} {n : Nat} {xs : List Value} {h B : Hp} {w W : World} (hr : RowH e size v n xs h) (u : Upd [] (B ++ h) w W) : W.ownsRow w.heap.size e size v n xs := by
  rcases hr with ⟨rfl, rfl, rfl, rfl⟩ | ⟨g, cap, cur, rfl, rfl, h1, h2, h3, h4, h5⟩
  · exact ⟨by simp, .inl ⟨rfl, rfl⟩⟩
  · have hg := u.inn.right.head
    have hf := u.fresh g (by simp)
    refine ⟨h5, .inr ⟨g, cap, cur, rfl, ?_, hg, h1, h2, h3, h4⟩⟩
    rcases hf with hf | hf
    · simp at hf
    · exact hf
theorem row_of_own {w W : World} {e : TypeId} {size : Nat} {v : Value} {k : Nat} {xs : List Value} {B : Hp} (u : Upd [] B w W) (ho : W.ownsRow w.heap.size e size v k xs) (hd : ∀ x ∈ B, ∀ cur fr, x.2 ≠ .cells cur e fr) :
    ∃ h, RowH e size v k xs h ∧ Upd [] (B ++ h) w W := by
  obtain ⟨hl, ho⟩ := ho
  rcases ho with ⟨rfl, h0⟩ | ⟨g, cap, cur, rfl, hge, hgb, hnc, hcm, hsz, htk⟩
  · subst h0
    obtain rfl : xs = [] := List.eq_nil_of_length_eq_zero (by simpa using hl)
    exact ⟨[], .inl ⟨rfl, rfl, rfl, rfl⟩, by simpa using u⟩
  · refine ⟨[(g, .cells cur e (0, 0))], .inr ⟨g, cap, cur, rfl, rfl, hnc, hcm, hsz, htk, hl⟩, ?_⟩
    refine { inn := ⟨?_, ?_⟩, os := u.os, tape := u.tape, output := u.output, size := u.size, frame := u.frame, fresh := ?_ }
    · rw [List.map_append, List.nodup_append]
      refine ⟨u.inn.1, by simp, ?_⟩
      intro b hb b' hb' e'
      simp at hb'
      subst hb' e'
      obtain ⟨x, hx, rfl⟩ := List.mem_map.1 hb
      have := u.inn.2 x hx
      rw [hgb] at this
      injection this with this
      exact hd x hx _ _ this.symm
    · intro x hx
      rcases List.mem_append.1 hx with hx | hx
      · exact u.inn.2 x hx
      · simp at hx; subst hx; exact hgb
    · intro b hb
      rw [List.map_append] at hb
      rcases List.mem_append.1 hb with hb | hb
      · exact u.fresh b hb
      · simp at hb; subst hb; exact .inr hge
theorem wpListIn_append_row {F : Fence} {nF : Nat} {P : Program} {w W : World} {ops : Array Oper} {rest : List Oper} {o : Oper} {a : Act} {Q : Exit → Act → World → Prop}
    (hg : o.guard = none) (s x : Operand) (t : TypeId) (hop : o.op = Op.call { callee := Callee.builtin Builtin.append, args := #[s, x], argTypes := #[t, t] })
    (e : TypeId) (size bytes : Nat) (z : Value) (h1 : P.underlying t = some (.slice e)) (hinfo : (P.info? e).map (fun i => (i.zero, i.size, i.bytes)) = some (some z, size, bytes)) (h6 : z.cells.size = size) (h7 : 0 < size)
    (v : Value) (n : Nat) (xs : List Value) (B hS : Hp) (hs : a.eval s = v) (HR : RowH e size v n xs hS) (U : Upd [] (B ++ hS) w W) (hd : ∀ x ∈ B, ∀ cur fr, x.2 ≠ .cells cur e fr)
    (ad : Addr) (m c : Nat) (news : List Value) (hx : a.eval x = .slice (some ad) m c) (hc : ∀ j u, news[j]? = some u → W.cell? (ad.add j) = some u) (hn : news.length = m * size) (h1c : ∀ u ∈ news, u.oneCell' = true)
    (b1 : n + m ≤ maxLen) (b2 : (n + m) * bytes ≤ 140737488355328)
    (hK : ∀ v' w' hS', RowH e size v' (n + m) (xs ++ news) hS' → Upd [] (B ++ hS') w w' → wpListIn F nF P ops Q rest (a.put o.dst v') w') : wpListIn F nF P ops Q (o :: rest) a W := by
  obtain ⟨i, hi, hz0, hz1, hz2⟩ := info_parts hinfo
  have ho := HR.own U
  refine wpListIn_append_own W hg s x t hop w.heap.size e i z size bytes h1 hi hz0 hz1 hz2 h6 h7 v n xs hs ho ad m c news hx hn hc h1c b1 b2 U.size ?_
  intro v' w' hown hgrow _
  have U2 := (U.forget (List.sublist_append_left _ _)).grownOwn ho hgrow hd
  obtain ⟨h, hr, u⟩ := row_of_own U2 hown hd
  exact hK v' w' h hr u

theorem Upd.storeK {w W : World} {k l r : Hp} {b : Nat} {arr : Array Value} {T : TypeId} {fr : Nat × Nat} (U : Upd [] (k ++ (l ++ (b, .cells arr T fr) :: r)) w W) (off : Nat) (v : Value) :
    Upd [] (k ++ (l ++ (b, .cells (arr.setIfInBounds off v) T fr) :: r)) w (W.setCell ⟨b, off, none⟩ v) := by
  rw [← List.append_assoc] at U ⊢
  exact U.store' off v
theorem trim_len (x : List UInt8) : (trimNl x).length ≤ x.length := by
  unfold trimNl Lib.trimSuffix
  split
  · simp
  · exact Nat.le_refl _
theorem trim_call (x : List UInt8) (w : World) (h : x.length ≤ 1000000000000 := by omega) : Calls Tryd.prog 22 #[.string ⟨x.toArray⟩, .string ⟨#[10]⟩] w fun e w' => e = .returned (.string ⟨(trimNl x).toArray⟩) ∧ w' = w := by
  have h1 := Any.strings_TrimSuffix Tryd.laysTrimSuffix ⟨x.toArray⟩ ⟨#[10]⟩ w (by show x.length ≤ _; omega)
  have hd : (⟨x.toArray⟩ : ByteArray).data.toList = x := by simp
  rw [hd] at h1
  exact h1

theorem bad_n (n : Nat) : (RdRes.bad (n + 1)).n = (n : Int) + 1 := by simp [RdRes.n]
theorem ents_snoc (l : List EntS) (y : EntS) : entsCells (l ++ [y]) = entsCells l ++ (entCells y).toList := by simp [entsCells]
theorem RowH.slice {e : TypeId} {size : Nat} {v : Value} {n : Nat} {xs : List Value} {h : Hp} (hr : RowH e size v n xs h) : SliceH e size v n xs h := by
  rcases hr with ⟨rfl, rfl, rfl, rfl⟩ | ⟨g, cap, cur, rfl, rfl, h1, h2, h3, h4, h5⟩
  · exact SliceH.nil _ _
  · have hcur : ([] ++ xs ++ (cur.toList.drop (n * size))).toArray = cur := by
      have : cur.toList = xs ++ cur.toList.drop (n * size) := by
        conv => lhs; rw [← List.take_append_drop (n * size) cur.toList, h4]
      apply Array.toList_inj.1
      simpa using this.symm
    refine ⟨h5, .inr ⟨g, [], cur.toList.drop (n * size), cap, rfl, by rw [hcur], h1, ?_, h2⟩⟩
    rw [h5]; simp [h3]
    have : n * size ≤ cap * size := Nat.mul_le_mul_right _ h1
    omega
theorem results_cells3 {fn : Func} {p q u : Tmp} {tp tq tu : TypeId} (h : fn.results = #[.cell p tp, .cell q tq, .cell u tu]) (tmps : Array Value) (P : Program) (w : World) :
    (results fn tmps).run P w = ((asAddr (tmps.getD p undef)).run P w).andThen fun a w₁ => ((loadVar tp a).run P w₁).andThen fun v w₂ => ((asAddr (tmps.getD q undef)).run P w₂).andThen fun b w₃ => ((loadVar tq b).run P w₃).andThen fun v2 w₄ =>
      ((asAddr (tmps.getD u undef)).run P w₄).andThen fun c w₅ => ((loadVar tu c).run P w₅).andThen fun v3 w₆ => .ok (.tuple #[v, v2, v3]) w₆ := by
  simp only [results, h]
  simp [Sem.run_bind, Result.andThen]
/-- what is known between two lines; where reading ended early -/
def RdP (Bo R1 R2 R3 : Nat) (pre : List (List UInt8)) (H : Hp) : Prop := ∃ out v hS, (∀ xs, rdGo (pre ++ xs) [] = rdGo xs out) ∧ RowH 24 5 v out.length (entsCells out) hS ∧ out.length ≤ 65536 ∧
      H = [(Bo, .cells #[v] 35 (0, 0)), (R3, .cells #[.int .i64 0] 25 (0, 0)), (R2, .cells #[.int .i64 0] 3 (0, 0)), (R1, .cells #[.slice none 0 0] 35 (0, 0))] ++ hS
def RdPx (R1 R2 R3 : Nat) (pre : List (List UInt8)) (H : Hp) : Prop := ∃ r, (∀ xs, rdGo (pre ++ xs) [] = r) ∧ r.l = [] ∧ H = [(R3, .cells #[.int .i64 r.e] 25 (0, 0)), (R2, .cells #[.int .i64 r.n] 3 (0, 0)), (R1, .cells #[.slice none 0 0] 35 (0, 0))]

theorem lines_call (text : ByteArray) (w : World) : Calls Tryd.prog 21 #[.string text] w fun e w' => e = .returned (.func (.func 32) #[] #[.pointer (some ⟨w.heap.size, 0, none⟩)]) ∧ w' = w.alloc (.cells #[.string text] 9 (0, 0)) := by
  go_enter Tryd.func21, Tryd.ntmps21
  go_wp2
  go_ret
  exact ⟨rfl, rfl⟩

set_option maxRecDepth 100000 in
set_option maxHeartbeats 4000000 in
theorem tale_readAll (text : List UInt8) (hl : text.length ≤ 1000000000) (w : World) (hL : Laid w) :
    Calls Tryd.prog 12 #[.string ⟨text.toArray⟩] w fun e w' => ∃ v h, e = .returned (.tuple #[v, .int .i64 (readOf text).n, .int .i64 (readOf text).e]) ∧ SliceH 24 5 v (readOf text).l.length (entsCells (readOf text).l) h ∧ Upd [] h w w' := by
  refine (callsIn_wide (n := 5)).1 ?_
  refine callsIn_of_wp_marks Tryd.func12 rfl trivial ?_ rfl
  simp only [Tryd.ntmps12, List.size_toArray, List.length_cons, List.length_nil, Nat.reduceAdd, Nat.reduceSub, Array.replicate_succ, Array.replicate_zero, List.push_toArray, List.append_toArray, List.nil_append, List.cons_append]
  gi_wp2_with (refine ⟨trivial, ?_⟩; gi_at_call 21; refine (callsIn_wide.2 (lines_call _ _)).mono ?_; rintro e w' ⟨rfl, rfl⟩)
  have U0 := (((((Upd.refl (In.nil w)).alloc' (.cells #[.slice none 0 0] 35 (0, 0))).alloc' (.cells #[.int .i64 0] 3 (0, 0))).alloc' (.cells #[.int .i64 0] 25 (0, 0))).alloc' (.cells #[.slice none 0 0] 35 (0, 0))).alloc' (.cells #[.string ⟨text.toArray⟩] 9 (0, 0))
  simp only [World.size_alloc] at U0
  generalize (((((w.alloc (.cells #[.slice none 0 0] 35 (0, 0))).alloc (.cells #[.int .i64 0] 3 (0, 0))).alloc (.cells #[.int .i64 0] 25 (0, 0))).alloc (.cells #[.slice none 0 0] 35 (0, 0))).alloc (.cells #[.string ⟨text.toArray⟩] 9 (0, 0))) = W0 at *
  obtain ⟨R1, hR1⟩ : ∃ b, b = w.heap.size := ⟨_, rfl⟩
  obtain ⟨R2, hR2⟩ : ∃ b, b = w.heap.size + 1 := ⟨_, rfl⟩
  obtain ⟨R3, hR3⟩ : ∃ b, b = w.heap.size + 1 + 1 := ⟨_, rfl⟩
  obtain ⟨Bo, hBo⟩ : ∃ b, b = w.heap.size + 1 + 1 + 1 := ⟨_, rfl⟩
  obtain ⟨Bs, hBs⟩ : ∃ b, b = w.heap.size + 1 + 1 + 1 + 1 := ⟨_, rfl⟩
  rw [← hBs, ← hBo, ← hR3, ← hR2] at U0 ⊢
  simp only [← hR1] at U0 ⊢
  clear hBs hBo hR3 hR2 hR1
  have hz : (⟨text.toArray⟩ : ByteArray) = ⟨text.toArray⟩ := rfl
  refine wpIn_lines (by decide) Bs text hl rfl (P := RdP Bo R1 R2 R3) (Px := RdPx R1 R2 R3)
    ⟨[], .slice none 0 0, [], fun _ => rfl, .inl ⟨rfl, rfl, rfl, rfl⟩, by decide, rfl⟩ U0
    (fun x => { tmps := #[.string ⟨text.toArray⟩, undef, .pointer (some ⟨R1, 0, none⟩), .pointer (some ⟨R2, 0, none⟩), .pointer (some ⟨R3, 0, none⟩), .pointer (some ⟨Bo, 0, none⟩), .string ⟨x.toArray⟩, undef, undef, .string ⟨text.toArray⟩, .func (.func 32) #[] #[.pointer (some ⟨Bs, 0, none⟩)], .string ⟨x.toArray⟩, undef, undef, undef, undef, undef, undef, undef, undef, undef, undef, undef, undef, undef, undef, undef, undef, undef, undef, undef, undef], defers := [] }) ?assign ?body ?done ?stop
  case assign =>
    intro l x W K hK
    gi_wp2
    exact hK
  case body =>
    rintro l pre x H k W ⟨out, v, hS, hrd, hrow, hout, rfl⟩ hk hx hpre U
    obtain ⟨ao, cap, rfl⟩ := hrow.shape
    have cBo : W.cell? ⟨Bo, 0, none⟩ = some (.slice ao out.length cap) := cell_of U.inn.right.head 0
    have cfBo : W.frozen? ⟨Bo, 0, none⟩ = false := frozen_of U.inn.right.head 0
    have cR3 : W.cell? ⟨R3, 0, none⟩ = some (.int .i64 0) := cell_of U.inn.right.tail.head 0
    have cfR3 : W.frozen? ⟨R3, 0, none⟩ = false := frozen_of U.inn.right.tail.head 0
    have cR2 : W.cell? ⟨R2, 0, none⟩ = some (.int .i64 0) := cell_of U.inn.right.tail.tail.head 0
    have cfR2 : W.frozen? ⟨R2, 0, none⟩ = false := frozen_of U.inn.right.tail.tail.head 0
    have cR1 : W.cell? ⟨R1, 0, none⟩ = some (.slice none 0 0) := cell_of U.inn.right.tail.tail.tail.head 0
    have cfR1 : W.frozen? ⟨R1, 0, none⟩ = false := frozen_of U.inn.right.tail.tail.tail.head 0
    have hnd := U.inn.right.left.1
    simp only [List.map_cons, List.map_nil, List.nodup_cons, List.mem_cons, List.not_mem_nil, or_false, not_or] at hnd
    obtain ⟨⟨n1, n2, n3⟩, ⟨n4, n5⟩, n6, _⟩ := hnd
    have m1 : R3 ≠ Bo := Ne.symm n1
    have m2 : R2 ≠ Bo := Ne.symm n2
    have m3 : R1 ≠ Bo := Ne.symm n3
    have m4 : R2 ≠ R3 := Ne.symm n4
    have m5 : R1 ≠ R3 := Ne.symm n5
    have m6 : R1 ≠ R2 := Ne.symm n6
    have HU := Lib.hid U
    have U3 := Lib.hid (U.forget (List.Sublist.append_left (List.Sublist.cons _ (List.sublist_append_left [_, _, _] hS)) k))
    clear U
    by_cases hov : 65536 ≤ out.length
    · have hI : (65536 : Int) ≤ (out.length : Int) := by omega
      have HRD : Hid (∀ xs, rdGo (pre ++ [x] ++ xs) [] = .over) := Lib.hid (fun xs => by have := hrd (x :: xs); rw [show pre ++ [x] ++ xs = pre ++ x :: xs by simp, this]; simp [rdGo, hov])
      gi_wp2
      exact ⟨_, ⟨.over, fun xs => HRD.out xs, rfl, rfl⟩, ((U3.out.storeK (l := [_, _]) 0 (.slice none 0 0)).storeK (l := [_]) 0 (.int .i64 0)).storeK (l := []) 0 (.int .i64 10)⟩
    · have hI : ¬ (65536 : Int) ≤ (out.length : Int) := by omega
      have hlen : (trimNl x).length ≤ 1000000000 := Nat.le_trans (trim_len x) (by omega)
      have HST := Lib.hid (fun W (h : Laid W) => tale_step (trimNl x) hlen W h)
      have HLW := Lib.hid (hL.upd HU.out)
      cases hst : stepOf (trimNl x) with
      | none =>
        rw [stepV_none hst] at HST
        simp only [entCells, entZ] at HST
        have hwr : IntKind.i64.wrap ((out.length : Int) + 1) = (out.length : Int) + 1 := IntWalk.i64_in _ (by omega)
        gi_wp2_with (first | (refine ⟨trivial, ?_⟩; gi_at_call 22; refine (CallsIn.inRound l (callsIn_wide.2 (trim_call x _))).mono ?_; rintro e w' ⟨rfl, rfl⟩) | (refine ⟨trivial, ?_⟩; gi_at_call 11; refine (CallsIn.inRound l (callsIn_wide.2 (HST.out _ HLW.out))).mono ?_; rintro e w5 ⟨rfl, u5⟩; have U5 := (HU.out.under0 u5).skip' (.cells #[.int .i64 0, .int .i64 0, .int .i64 0, .int .i64 0, .int .u64 0] 24 (0, 0)); have dBo : (w5.alloc (.cells #[.int .i64 0, .int .i64 0, .int .i64 0, .int .i64 0, .int .u64 0] 24 (0, 0))).cell? ⟨Bo, 0, none⟩ = some (.slice ao out.length cap) := cell_of U5.inn.right.head 0; have dfBo : (w5.alloc (.cells #[.int .i64 0, .int .i64 0, .int .i64 0, .int .i64 0, .int .u64 0] 24 (0, 0))).frozen? ⟨Bo, 0, none⟩ = false := frozen_of U5.inn.right.head 0; have dR3 : (w5.alloc (.cells #[.int .i64 0, .int .i64 0, .int .i64 0, .int .i64 0, .int .u64 0] 24 (0, 0))).cell? ⟨R3, 0, none⟩ = some (.int .i64 0) := cell_of U5.inn.right.tail.head 0; have dfR3 : (w5.alloc (.cells #[.int .i64 0, .int .i64 0, .int .i64 0, .int .i64 0, .int .u64 0] 24 (0, 0))).frozen? ⟨R3, 0, none⟩ = false := frozen_of U5.inn.right.tail.head 0; have dR2 : (w5.alloc (.cells #[.int .i64 0, .int .i64 0, .int .i64 0, .int .i64 0, .int .u64 0] 24 (0, 0))).cell? ⟨R2, 0, none⟩ = some (.int .i64 0) := cell_of U5.inn.right.tail.tail.head 0; have dfR2 : (w5.alloc (.cells #[.int .i64 0, .int .i64 0, .int .i64 0, .int .i64 0, .int .u64 0] 24 (0, 0))).frozen? ⟨R2, 0, none⟩ = false := frozen_of U5.inn.right.tail.tail.head 0; have dR1 : (w5.alloc (.cells #[.int .i64 0, .int .i64 0, .int .i64 0, .int .i64 0, .int .u64 0] 24 (0, 0))).cell? ⟨R1, 0, none⟩ = some (.slice none 0 0) := cell_of U5.inn.right.tail.tail.tail.head 0; have dfR1 : (w5.alloc (.cells #[.int .i64 0, .int .i64 0, .int .i64 0, .int .i64 0, .int .u64 0] 24 (0, 0))).frozen? ⟨R1, 0, none⟩ = false := frozen_of U5.inn.right.tail.tail.tail.head 0; have U6 := Lib.hid (U5.forget (List.Sublist.append_left (List.Sublist.cons _ (List.sublist_append_left [_, _, _] hS)) k)); clear U5 u5))
        generalize (w5.alloc (.cells #[.int .i64 0, .int .i64 0, .int .i64 0, .int .i64 0, .int .u64 0] 24 (0, 0))) = W6 at *
        have HRD : Hid (∀ xs, rdGo (pre ++ [x] ++ xs) [] = .bad (out.length + 1)) := Lib.hid (fun xs => by have := hrd (x :: xs); rw [show pre ++ [x] ++ xs = pre ++ x :: xs by simp, this]; simp [rdGo, hov, hst])
        gi_region
        all_goals gi_wp2
        all_goals exact ⟨_, ⟨.bad (out.length + 1), fun xs => HRD.out xs, rfl, by rw [bad_n]; rfl⟩, (((U6.out.storeK (l := [_, _]) 0 (.slice none 0 0)).storeK (l := [_]) 0 (.int .i64 ((out.length : Int) + 1))).storeK (l := []) 0 (.int .i64 9)).drew'⟩
      | some y =>
        rw [stepV_some hst] at HST
        obtain ⟨y0, y1, y2, y3, y4⟩ := y
        simp only [entCells] at HST
        have HRD : Hid (∀ xs, rdGo (pre ++ [x] ++ xs) [] = rdGo xs (out ++ [⟨y0, y1, y2, y3, y4⟩])) := Lib.hid (fun xs => by have := hrd (x :: xs); rw [show pre ++ [x] ++ xs = pre ++ x :: xs by simp, this]; simp [rdGo, hov, hst])
        have HROW := Lib.hid hrow
        have hN : ¬ (65536 ≤ out.length) := hov
        have hmx : out.length + 1 ≤ maxLen := by unfold maxLen; omega
        have HKT := Lib.hid hk
        clear hrow hk hrd hst
        gi_wp2_with (first | (refine ⟨trivial, ?_⟩; gi_at_call 22; refine (CallsIn.inRound l (callsIn_wide.2 (trim_call x _))).mono ?_; rintro e w' ⟨rfl, rfl⟩) | (refine ⟨trivial, ?_⟩; gi_at_call 11; refine (CallsIn.inRound l (callsIn_wide.2 (HST.out _ HLW.out))).mono ?_; rintro e w5 ⟨rfl, u5⟩; have U5 := (HU.out.under0 u5).skip' (.cells #[.int .i64 y0, .int .i64 y1, .int .i64 y2, .int .i64 y3, .int .u64 y4] 24 (0, 0)); have dBo : (w5.alloc (.cells #[.int .i64 y0, .int .i64 y1, .int .i64 y2, .int .i64 y3, .int .u64 y4] 24 (0, 0))).cell? ⟨Bo, 0, none⟩ = some (.slice ao out.length cap) := cell_of U5.inn.right.head 0; have dfBo : (w5.alloc (.cells #[.int .i64 y0, .int .i64 y1, .int .i64 y2, .int .i64 y3, .int .u64 y4] 24 (0, 0))).frozen? ⟨Bo, 0, none⟩ = false := frozen_of U5.inn.right.head 0; have dR3 : (w5.alloc (.cells #[.int .i64 y0, .int .i64 y1, .int .i64 y2, .int .i64 y3, .int .u64 y4] 24 (0, 0))).cell? ⟨R3, 0, none⟩ = some (.int .i64 0) := cell_of U5.inn.right.tail.head 0; have dfR3 : (w5.alloc (.cells #[.int .i64 y0, .int .i64 y1, .int .i64 y2, .int .i64 y3, .int .u64 y4] 24 (0, 0))).frozen? ⟨R3, 0, none⟩ = false := frozen_of U5.inn.right.tail.head 0; have dR2 : (w5.alloc (.cells #[.int .i64 y0, .int .i64 y1, .int .i64 y2, .int .i64 y3, .int .u64 y4] 24 (0, 0))).cell? ⟨R2, 0, none⟩ = some (.int .i64 0) := cell_of U5.inn.right.tail.tail.head 0; have dfR2 : (w5.alloc (.cells #[.int .i64 y0, .int .i64 y1, .int .i64 y2, .int .i64 y3, .int .u64 y4] 24 (0, 0))).frozen? ⟨R2, 0, none⟩ = false := frozen_of U5.inn.right.tail.tail.head 0; have dR1 : (w5.alloc (.cells #[.int .i64 y0, .int .i64 y1, .int .i64 y2, .int .i64 y3, .int .u64 y4] 24 (0, 0))).cell? ⟨R1, 0, none⟩ = some (.slice none 0 0) := cell_of U5.inn.right.tail.tail.tail.head 0; have dfR1 : (w5.alloc (.cells #[.int .i64 y0, .int .i64 y1, .int .i64 y2, .int .i64 y3, .int .u64 y4] 24 (0, 0))).frozen? ⟨R1, 0, none⟩ = false := frozen_of U5.inn.right.tail.tail.tail.head 0; have U7 := Lib.hid ((by rw [List.append_assoc]; exact U5.skip' (.cells #[.int .i64 y0, .int .i64 y1, .int .i64 y2, .int .i64 y3, .int .u64 y4] 24 (0, 0))) : Upd [] ((k ++ _) ++ hS) w _); have HNEW := Lib.hid (heap_alloc_at (w := w5.alloc (.cells #[.int .i64 y0, .int .i64 y1, .int .i64 y2, .int .i64 y3, .int .u64 y4] 24 (0, 0))) (o := .cells #[.int .i64 y0, .int .i64 y1, .int .i64 y2, .int .i64 y3, .int .u64 y4] 24 (0, 0)) (k := w5.heap.size + 1) (by simp)); clear U5 u5) | (gi_at_builtin; refine wpListIn_append_row rfl (.tmp 27) (.tmp 29) 35 rfl 24 5 40 (.agg (entCells entZ)) Tryd.underlying35 (by kernel_rfl) rfl (by decide) (.slice ao out.length cap) out.length (entsCells out) (k ++ [(Bo, .cells #[.slice ao out.length cap] 35 (0, 0)), (R3, .cells #[.int .i64 0] 25 (0, 0)), (R2, .cells #[.int .i64 0] 3 (0, 0)), (R1, .cells #[.slice none 0 0] 35 (0, 0))]) hS rfl HROW.out U7.out ?_ ⟨w5.heap.size + 1, 0, none⟩ 1 1 #[.int .i64 y0, .int .i64 y1, .int .i64 y2, .int .i64 y3, .int .u64 y4].toList rfl ?_ rfl (by intro u hu; simp at hu; rcases hu with rfl | rfl | rfl | rfl | rfl <;> rfl) hmx (by omega) ?_))
        · intro y hy cur fr e
          rcases List.mem_append.1 hy with hy | hy
          · exact absurd (HKT.out y hy cur _ fr e) (by decide)
          · simp at hy; rcases hy with rfl | rfl | rfl | rfl <;> simp at e
        · intro v' w9 hS' hR' U8
          obtain ⟨ao', cap', rfl⟩ := hR'.shape
          have b1 : w9.cell? ⟨Bo, 0, none⟩ = some (.slice ao out.length cap) := cell_of U8.inn.right.head 0
          have b2 : w9.frozen? ⟨Bo, 0, none⟩ = false := frozen_of U8.inn.right.head 0
          have U9 := Lib.hid U8
          have HR9 := Lib.hid hR'
          clear U8 hR'
          gi_wp2
          exact ⟨_, ⟨out ++ [⟨y0, y1, y2, y3, y4⟩], _, hS', HRD.out, by (rw [List.length_append, ents_snoc]; exact HR9.out), by (simp; omega), rfl⟩, U9.out.storeK (l := []) 0 _⟩
  case done =>
    rintro D H W ⟨out, v, hS, hrd, hrow, hout, rfl⟩ U
    have hre : readOf text = .ok out := by have := hrd []; simpa [readOf, rdGo] using this
    obtain ⟨ao, cap, rfl⟩ := hrow.shape
    have hnd := U.inn.tail.left.1
    simp only [List.map_cons, List.map_nil, List.nodup_cons, List.mem_cons, List.not_mem_nil, or_false, not_or] at hnd
    obtain ⟨⟨n1, n2, n3⟩, ⟨n4, n5⟩, n6, _⟩ := hnd
    have m1 : R3 ≠ Bo := Ne.symm n1
    have m2 : R2 ≠ Bo := Ne.symm n2
    have m3 : R1 ≠ Bo := Ne.symm n3
    have m4 : R2 ≠ R3 := Ne.symm n4
    have m5 : R1 ≠ R3 := Ne.symm n5
    have m6 : R1 ≠ R2 := Ne.symm n6
    have cBo : W.cell? ⟨Bo, 0, none⟩ = some (.slice ao out.length cap) := cell_of U.inn.tail.head 0
    have fBo : W.frozen? ⟨Bo, 0, none⟩ = false := frozen_of U.inn.tail.head 0
    have cR3 : W.cell? ⟨R3, 0, none⟩ = some (.int .i64 0) := cell_of U.inn.tail.tail.head 0
    have fR3 : W.frozen? ⟨R3, 0, none⟩ = false := frozen_of U.inn.tail.tail.head 0
    have cR2 : W.cell? ⟨R2, 0, none⟩ = some (.int .i64 0) := cell_of U.inn.tail.tail.tail.head 0
    have fR2 : W.frozen? ⟨R2, 0, none⟩ = false := frozen_of U.inn.tail.tail.tail.head 0
    have cR1 : W.cell? ⟨R1, 0, none⟩ = some (.slice none 0 0) := cell_of U.inn.tail.tail.tail.tail.head 0
    have fR1 : W.frozen? ⟨R1, 0, none⟩ = false := frozen_of U.inn.tail.tail.tail.tail.head 0
    have HU := Lib.hid U
    clear U
    gi_wp2
    have U9 := ((HU.out.store' (l := [_, _, _, _]) (r := hS) 0 (.slice ao out.length cap)).store' (l := [_, _, _]) 0 (.int .i64 0)).store' (l := [_, _]) 0 (.int .i64 0)
    have U10 := U9.put' (l := []) (.deferred none)
    refine ⟨by simp, .inl ⟨_, _, rfl, run_takeDeferred U9.inn.head, ?_⟩⟩
    have d1 := cell_of U10.inn.tail.tail.tail.tail.head 0
    have d2 := cell_of U10.inn.tail.tail.tail.head 0
    have d3 := cell_of U10.inn.tail.tail.head 0
    obtain ⟨v, hv, hvU⟩ : ∃ h, SliceH 24 5 (.slice ao out.length cap) out.length (entsCells out) h ∧ Upd [] h w _ := ⟨_, hrow.slice, U10.forget (List.sublist_append_right [_, _, _, _, _] hS)⟩
    simp at d1 d2 d3
    exact ⟨.tuple #[.slice ao out.length cap, .int .i64 0, .int .i64 0], by (rw [results_cells3 rfl]; go_simp), _, rfl, _, hv, hvU⟩
  case stop =>
    rintro D pre H W ⟨r, hr, hrl, rfl⟩ hpre U
    have hre : readOf text = r := by obtain ⟨xs, hxs⟩ := hpre; unfold readOf; rw [← hxs]; exact hr xs
    have cR3 : W.cell? ⟨R3, 0, none⟩ = some (.int .i64 r.e) := cell_of U.inn.tail.head 0
    have cR2 : W.cell? ⟨R2, 0, none⟩ = some (.int .i64 r.n) := cell_of U.inn.tail.tail.head 0
    have cR1 : W.cell? ⟨R1, 0, none⟩ = some (.slice none 0 0) := cell_of U.inn.tail.tail.tail.head 0
    have HU := Lib.hid U
    clear U
    gi_wp2
    have U10 := HU.out.put' (l := []) (.deferred none)
    refine ⟨by simp, .inl ⟨_, _, rfl, run_takeDeferred HU.out.inn.head, ?_⟩⟩
    have d1 := cell_of U10.inn.tail.tail.tail.head 0
    have d2 := cell_of U10.inn.tail.tail.head 0
    have d3 := cell_of U10.inn.tail.head 0
    have hvU := U10.forget (List.nil_sublist _)
    simp at d1 d2 d3
    exact ⟨.tuple #[.slice none 0 0, .int .i64 r.n, .int .i64 r.e], by (rw [results_cells3 rfl]; go_simp), _, rfl, _, by simpa [hrl, entsCells] using SliceH.nil 24 5, hvU⟩

end Go.Proofs.YtnmbehogiioonaaDoor
