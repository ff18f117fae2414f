/- What config of the statements' package comes to. Conditions: none. -/
import Derived.Test.YtglbhcoikgbcmaaGreatRows
import Derived.Test.YtglbhcoikgbcmaaGreatLib
import Derived.Test.YtglbhcoikgbcmaaGreatCoreN
set_option linter.unusedVariables false
set_option linter.unusedSimpArgs false
namespace Go.Proofs.YtglbhcoikgbcmaaGreat
open Go.RowKit

/-- the configuration that four small numbers are -/
def cfgOf (a b c d : Int) : Cfg where
  handles := a % 5 + 2
  nursery := 24 + b % 60
  pages := b / 16 % 12 + 1
  page := 16 + 16 * (a / 64)
  card := if c % 3 = 0 then 16 + 16 * (a / 64) else if c % 3 = 1 then (16 + 16 * (a / 64)) / 2 else (16 + 16 * (a / 64)) / 4
  buffer := c / 4 % 4
  stack := c / 16 % 4 + 1
  tenure := c / 64 % 3 + 1
  largest := d % 8 + 1
  minor := d / 8 % 8
  major := d / 64 * 2
  minorAt := 12 + a % 8
  majorAt := b % 3 % 2

def U8 (x : Int) : Prop := 0 ≤ x ∧ x < 256

theorem quo_u8 {x k : Int} (hx : U8 x) (hk : 0 < k) : IntKind.u8.wrap (x.tdiv k) = x / k := by
  obtain ⟨h0, h1⟩ := hx
  rw [Int.tdiv_eq_ediv_of_nonneg h0]
  have h2 : 0 ≤ x / k := Int.ediv_nonneg h0 (by omega)
  have h3 : x / k ≤ x := Int.ediv_le_self _ h0
  exact IntWalk.u8_in _ (by omega)

set_option maxRecDepth 100000 in
set_option maxHeartbeats 2000000 in
theorem law_config (a b c d : Int) (ha : U8 a) (hb : U8 b) (hc : U8 c) (hd : U8 d) (w : World) :
    Calls Tryz.prog 4 #[.int .u8 a, .int .u8 b, .int .u8 c, .int .u8 d] w fun e w' => e = .returned (.agg (cfgCells (cfgOf a b c d))) ∧ Upd [] [] w w' := by
  obtain ⟨a1, a2⟩ := ha
  obtain ⟨b1, b2⟩ := hb
  obtain ⟨c1, c2⟩ := hc
  obtain ⟨d1, d2⟩ := hd
  have p0 : 0 ≤ 16 + 16 * (a / 64) := by omega
  have q1 : (16 + 16 * (a / 64)).tdiv 1 = 16 + 16 * (a / 64) := Int.tdiv_one ..
  have q2 : (16 + 16 * (a / 64)).tdiv 2 = (16 + 16 * (a / 64)) / 2 := Int.tdiv_eq_ediv_of_nonneg p0
  have q4 : (16 + 16 * (a / 64)).tdiv 4 = (16 + 16 * (a / 64)) / 4 := Int.tdiv_eq_ediv_of_nonneg p0
  have key : ∀ k : Int, (k = 0 ∨ k = 1 ∨ k = 2) → c % 3 = k → Calls Tryz.prog 4 #[.int .u8 a, .int .u8 b, .int .u8 c, .int .u8 d] w fun e w' => e = .returned (.agg (cfgCells (cfgOf a b c d))) ∧ Upd [] [] w w' := by
    intro k hk hm
    rcases hk with rfl | rfl | rfl
    · have hR : cfgOf a b c d = ⟨a % 5 + 2, 24 + b % 60, b / 16 % 12 + 1, 16 + 16 * (a / 64), 16 + 16 * (a / 64), c / 4 % 4, c / 16 % 4 + 1, c / 64 % 3 + 1, d % 8 + 1, d / 8 % 8, d / 64 * 2, 12 + a % 8, b % 3 % 2⟩ := by simp [cfgOf, hm]
      rw [hR]
      clear hR
      have hw : IntKind.i64.wrap (16 + 16 * (a / 64)) = 16 + 16 * (a / 64) := IntWalk.i64_in _ (by omega)
      go_enter Tryz.func4, Tryz.ntmps4
      go_wp2
      have UF := Upd.alloc (In.nil w) (.cells (cfgCells ⟨a % 5 + 2, 24 + b % 60, b / 16 % 12 + 1, 16 + 16 * (a / 64), 16 + 16 * (a / 64), c / 4 % 4, c / 16 % 4 + 1, c / 64 % 3 + 1, d % 8 + 1, d / 8 % 8, d / 64 * 2, 12 + a % 8, b % 3 % 2⟩) 24 (0, 0))
      obtain ⟨g0, g1, g2, g3, g4, g5, g6, g7, g8, g9, g10, g11, g12⟩ := cfg_cells UF.inn.head
      simp only [cfgCells] at g0 g1 g2 g3 g4 g5 g6 g7 g8 g9 g10 g11 g12
      refine bodyPost_ret (v := .agg (cfgCells ⟨a % 5 + 2, 24 + b % 60, b / 16 % 12 + 1, 16 + 16 * (a / 64), 16 + 16 * (a / 64), c / 4 % 4, c / 16 % 4 + 1, c / 64 % 3 + 1, d % 8 + 1, d / 8 % 8, d / 64 * 2, 12 + a % 8, b % 3 % 2⟩)) ?_ rfl ⟨rfl, UF.drop1⟩
      simp only [results, Tryz.results4]
      simp [go_sem, cfgCells, g0, g1, g2, g3, g4, g5, g6, g7, g8, g9, g10, g11, g12]
    · have hR : cfgOf a b c d = ⟨a % 5 + 2, 24 + b % 60, b / 16 % 12 + 1, 16 + 16 * (a / 64), (16 + 16 * (a / 64)) / 2, c / 4 % 4, c / 16 % 4 + 1, c / 64 % 3 + 1, d % 8 + 1, d / 8 % 8, d / 64 * 2, 12 + a % 8, b % 3 % 2⟩ := by simp [cfgOf, hm]
      rw [hR]
      clear hR
      have hw : IntKind.i64.wrap ((16 + 16 * (a / 64)) / 2) = (16 + 16 * (a / 64)) / 2 := IntWalk.i64_in _ (by omega)
      go_enter Tryz.func4, Tryz.ntmps4
      go_wp2
      have UF := Upd.alloc (In.nil w) (.cells (cfgCells ⟨a % 5 + 2, 24 + b % 60, b / 16 % 12 + 1, 16 + 16 * (a / 64), (16 + 16 * (a / 64)) / 2, c / 4 % 4, c / 16 % 4 + 1, c / 64 % 3 + 1, d % 8 + 1, d / 8 % 8, d / 64 * 2, 12 + a % 8, b % 3 % 2⟩) 24 (0, 0))
      obtain ⟨g0, g1, g2, g3, g4, g5, g6, g7, g8, g9, g10, g11, g12⟩ := cfg_cells UF.inn.head
      simp only [cfgCells] at g0 g1 g2 g3 g4 g5 g6 g7 g8 g9 g10 g11 g12
      refine bodyPost_ret (v := .agg (cfgCells ⟨a % 5 + 2, 24 + b % 60, b / 16 % 12 + 1, 16 + 16 * (a / 64), (16 + 16 * (a / 64)) / 2, c / 4 % 4, c / 16 % 4 + 1, c / 64 % 3 + 1, d % 8 + 1, d / 8 % 8, d / 64 * 2, 12 + a % 8, b % 3 % 2⟩)) ?_ rfl ⟨rfl, UF.drop1⟩
      simp only [results, Tryz.results4]
      simp [go_sem, cfgCells, g0, g1, g2, g3, g4, g5, g6, g7, g8, g9, g10, g11, g12]
    · have hR : cfgOf a b c d = ⟨a % 5 + 2, 24 + b % 60, b / 16 % 12 + 1, 16 + 16 * (a / 64), (16 + 16 * (a / 64)) / 4, c / 4 % 4, c / 16 % 4 + 1, c / 64 % 3 + 1, d % 8 + 1, d / 8 % 8, d / 64 * 2, 12 + a % 8, b % 3 % 2⟩ := by simp [cfgOf, hm]
      rw [hR]
      clear hR
      have hw : IntKind.i64.wrap ((16 + 16 * (a / 64)) / 4) = (16 + 16 * (a / 64)) / 4 := IntWalk.i64_in _ (by omega)
      go_enter Tryz.func4, Tryz.ntmps4
      go_wp2
      have UF := Upd.alloc (In.nil w) (.cells (cfgCells ⟨a % 5 + 2, 24 + b % 60, b / 16 % 12 + 1, 16 + 16 * (a / 64), (16 + 16 * (a / 64)) / 4, c / 4 % 4, c / 16 % 4 + 1, c / 64 % 3 + 1, d % 8 + 1, d / 8 % 8, d / 64 * 2, 12 + a % 8, b % 3 % 2⟩) 24 (0, 0))
      obtain ⟨g0, g1, g2, g3, g4, g5, g6, g7, g8, g9, g10, g11, g12⟩ := cfg_cells UF.inn.head
      simp only [cfgCells] at g0 g1 g2 g3 g4 g5 g6 g7 g8 g9 g10 g11 g12
      refine bodyPost_ret (v := .agg (cfgCells ⟨a % 5 + 2, 24 + b % 60, b / 16 % 12 + 1, 16 + 16 * (a / 64), (16 + 16 * (a / 64)) / 4, c / 4 % 4, c / 16 % 4 + 1, c / 64 % 3 + 1, d % 8 + 1, d / 8 % 8, d / 64 * 2, 12 + a % 8, b % 3 % 2⟩)) ?_ rfl ⟨rfl, UF.drop1⟩
      simp only [results, Tryz.results4]
      simp [go_sem, cfgCells, g0, g1, g2, g3, g4, g5, g6, g7, g8, g9, g10, g11, g12]
  exact key (c % 3) (by omega) rfl

end Go.Proofs.YtglbhcoikgbcmaaGreat
