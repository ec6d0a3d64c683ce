/-
  FROM A ROW's LIST OF VARIABLES TO 'Sent': the fourteen sentinels hold pairwise different pointers. Conditions: the given rows' own list.
-/
import Derived.Test.YtiegcfgedhgpnaaDoorRows
import Derived.Test.YtiegcfgedhgpnaaDoorSent
import Derived.Test.YtiegcfgedhgpnaaDoorFrame
namespace Go.Proofs.YtiegcfgedhgpnaaDoor
open Go.ChangeShapes Go.WideShapes Go.ChangeAt Go.WideMaps Go.WideElems Go.RowKit

theorem star : "*errors.errorString" = "*" ++ "errors.errorString" := by decide
theorem rowStr (u : TypeId) (h : Tryd.prog.typeName? 3 u = some "*errors.errorString") : u = 84 :=
  typeName_ptr_named (nm := "errors.errorString") (by rw [← star]; kernel_rfl) (by kernel_rfl) (by decide) u (by rw [← star]; exact h)
theorem cellsStr : Tryd.prog.cellsOf 102 = 1 := by kernel_rfl
theorem cellsText : Tryd.prog.cellsOf 9 = 1 := by kernel_rfl

/-- THE HEAD OF A LIST: the variable's cell, the text behind it, the block of that. -/
theorem laid_head {n : String} {text : List UInt8} {r : List (String × DataW Unit)} {W : World} {g : Nat}
    (h : laidMet Tryd.prog ((n, .iface "*errors.errorString" (.ptr (.agg [.lit (.string text)]))) :: r) W)
    (hg : Tryd.prog.globalNamed n = some g) (ht : (Tryd.prog.globals[g]?).map (·.type) = some 37) :
    (∃ (a : Addr) (s : ByteArray), W.cell? ⟨g, 0, none⟩ = some (.iface 84 (.pointer (some a))) ∧ W.cell? a = some (.string s) ∧ s.data.toList = text ∧ ∃ ca ta, W.heap[a.block]? = some (.cells ca ta (0, 0))) ∧ laidMet Tryd.prog r W := by
  refine ⟨?_, h.tail⟩
  obtain ⟨ps, ⟨g0, t0, cs0, f0, p0, q0, hg0, ht0, hv0, hd0, _, e0⟩, _, hrows⟩ := h
  obtain rfl := Option.some.inj (hg.symm.trans hg0)
  obtain rfl := Option.some.inj (ht.symm.trans ht0)
  subst e0
  obtain ⟨l0⟩ := cs0
  have ok0 : ∀ u v, l0 = [.iface u v] → Value.okWide Tryd.prog W .any 0 u v := fun u v e => by
    subst e
    exact (hrows g 0 (by simp [MemPlace.row])).2 u v (by simpa using World.var?_cell hg0 hv0 0)
  obtain ⟨a0, s0, rfl, hc0, hs0, hz0, hp0⟩ := errorString_of_trod Tryd.underlying37 rowStr Tryd.underlying84 Tryd.underlying102 rfl rfl Tryd.underlying9 cellsStr cellsText hd0 ok0
  refine ⟨a0, s0, by simpa using World.var?_cell hg0 hv0 0, hc0, hs0, ?_⟩
  exact (hrows a0.block a0.off (by rw [hp0]; simp [MemPlace.row])).1

/-- The fourteen texts. -/
def textOf : Nat → List UInt8
  | 0 => [105, 116, 32, 101, 110, 100, 115, 32, 116, 111, 111, 32, 101, 97, 114, 108, 121]
  | 1 => [110, 111, 116, 32, 97, 115, 32, 105, 116, 32, 104, 97, 115, 32, 116, 111, 32, 98, 101]
  | 2 => [97, 32, 110, 117, 109, 98, 101, 114, 32, 111, 117, 116, 32, 111, 102, 32, 105, 116, 115, 32, 114, 97, 110, 103, 101]
  | 3 => [116, 111, 111, 32, 109, 97, 110, 121]
  | 4 => [97, 32, 102, 114, 97, 109, 101, 32, 111, 102, 32, 97, 110, 111, 116, 104, 101, 114, 32, 107, 105, 110, 100]
  | 5 => [97, 32, 115, 117, 109, 32, 116, 104, 97, 116, 32, 100, 111, 101, 115, 32, 110, 111, 116, 32, 102, 105, 116]
  | 6 => [116, 104, 101, 114, 101, 32, 105, 115, 32, 110, 111, 110, 101]
  | 7 => [116, 104, 101, 114, 101, 32, 105, 115, 32, 111, 110, 101]
  | 8 => [116, 104, 101, 114, 101, 32, 105, 115, 32, 110, 111, 32, 114, 111, 111, 109]
  | 9 => [110, 111, 116, 32, 97, 115, 32, 105, 116, 32, 105, 115, 32, 110, 111, 119]
  | 10 => [111, 117, 116, 115, 105, 100, 101, 32, 111, 102, 32, 116, 104, 101, 32, 119, 105, 110, 100, 111, 119]
  | 11 => [105, 116, 32, 119, 111, 117, 108, 100, 32, 116, 97, 107, 101, 32, 116, 111, 111, 32, 108, 111, 110, 103]
  | 12 => [110, 111, 32, 115, 117, 99, 104, 32, 119, 111, 114, 100]
  | 13 => [110, 111, 116, 32, 97, 32, 110, 117, 109, 98, 101, 114]
  | _ => []
theorem textOf_ne : ∀ i, i < 14 → ∀ j, j < 14 → i ≠ j → textOf i ≠ textOf j := by decide

/-- What the rows list. -/
def laid14 : List (String × DataW Unit) := [("muezzin/api.ErrEnd", Rows.laid_muezzin_api_ErrEnd), ("muezzin/api.ErrShape", Rows.laid_muezzin_api_ErrShape), ("muezzin/api.ErrRange", Rows.laid_muezzin_api_ErrRange), ("muezzin/api.ErrMany", Rows.laid_muezzin_api_ErrMany), ("muezzin/api.ErrKind", Rows.laid_muezzin_api_ErrKind), ("muezzin/api.ErrSum", Rows.laid_muezzin_api_ErrSum), ("muezzin/api.ErrNone", Rows.laid_muezzin_api_ErrNone), ("muezzin/api.ErrTwice", Rows.laid_muezzin_api_ErrTwice), ("muezzin/api.ErrFull", Rows.laid_muezzin_api_ErrFull), ("muezzin/api.ErrState", Rows.laid_muezzin_api_ErrState), ("muezzin/api.ErrSeq", Rows.laid_muezzin_api_ErrSeq), ("muezzin/api.ErrLong", Rows.laid_muezzin_api_ErrLong), ("muezzin/api.ErrWord", Rows.laid_muezzin_api_ErrWord), ("muezzin/api.ErrNumber", Rows.laid_muezzin_api_ErrNumber)]

/-- Fourteen addresses by number. -/
def pick14 (a0 a1 a2 a3 a4 a5 a6 a7 a8 a9 a10 a11 a12 a13 : Addr) : Nat → Addr
  | 0 => a0
  | 1 => a1
  | 2 => a2
  | 3 => a3
  | 4 => a4
  | 5 => a5
  | 6 => a6
  | 7 => a7
  | 8 => a8
  | 9 => a9
  | 10 => a10
  | 11 => a11
  | 12 => a12
  | _ => a13

theorem sent_of_laid {W : World} (h0 : laidMetH Tryd.prog laid14 W) : ∃ A, Sent W.heap.size W A := by
  rw [MakeChecks.laidMetH_plain _ _ _ (by kernel_rfl)] at h0
  obtain ⟨⟨a0, s0, c0, x0, t0, b0⟩, h1⟩ := laid_head h0 (show Tryd.prog.globalNamed "muezzin/api.ErrEnd" = some 4 by kernel_rfl) (by kernel_rfl)
  obtain ⟨⟨a1, s1, c1, x1, t1, b1⟩, h2⟩ := laid_head h1 (show Tryd.prog.globalNamed "muezzin/api.ErrShape" = some 5 by kernel_rfl) (by kernel_rfl)
  obtain ⟨⟨a2, s2, c2, x2, t2, b2⟩, h3⟩ := laid_head h2 (show Tryd.prog.globalNamed "muezzin/api.ErrRange" = some 1 by kernel_rfl) (by kernel_rfl)
  obtain ⟨⟨a3, s3, c3, x3, t3, b3⟩, h4⟩ := laid_head h3 (show Tryd.prog.globalNamed "muezzin/api.ErrMany" = some 6 by kernel_rfl) (by kernel_rfl)
  obtain ⟨⟨a4, s4, c4, x4, t4, b4⟩, h5⟩ := laid_head h4 (show Tryd.prog.globalNamed "muezzin/api.ErrKind" = some 7 by kernel_rfl) (by kernel_rfl)
  obtain ⟨⟨a5, s5, c5, x5, t5, b5⟩, h6⟩ := laid_head h5 (show Tryd.prog.globalNamed "muezzin/api.ErrSum" = some 8 by kernel_rfl) (by kernel_rfl)
  obtain ⟨⟨a6, s6, c6, x6, t6, b6⟩, h7⟩ := laid_head h6 (show Tryd.prog.globalNamed "muezzin/api.ErrNone" = some 0 by kernel_rfl) (by kernel_rfl)
  obtain ⟨⟨a7, s7, c7, x7, t7, b7⟩, h8⟩ := laid_head h7 (show Tryd.prog.globalNamed "muezzin/api.ErrTwice" = some 2 by kernel_rfl) (by kernel_rfl)
  obtain ⟨⟨a8, s8, c8, x8, t8, b8⟩, h9⟩ := laid_head h8 (show Tryd.prog.globalNamed "muezzin/api.ErrFull" = some 3 by kernel_rfl) (by kernel_rfl)
  obtain ⟨⟨a9, s9, c9, x9, t9, b9⟩, h10⟩ := laid_head h9 (show Tryd.prog.globalNamed "muezzin/api.ErrState" = some 9 by kernel_rfl) (by kernel_rfl)
  obtain ⟨⟨a10, s10, c10, x10, t10, b10⟩, h11⟩ := laid_head h10 (show Tryd.prog.globalNamed "muezzin/api.ErrSeq" = some 10 by kernel_rfl) (by kernel_rfl)
  obtain ⟨⟨a11, s11, c11, x11, t11, b11⟩, h12⟩ := laid_head h11 (show Tryd.prog.globalNamed "muezzin/api.ErrLong" = some 11 by kernel_rfl) (by kernel_rfl)
  obtain ⟨⟨a12, s12, c12, x12, t12, b12⟩, h13⟩ := laid_head h12 (show Tryd.prog.globalNamed "muezzin/api.ErrWord" = some 12 by kernel_rfl) (by kernel_rfl)
  obtain ⟨⟨a13, s13, c13, x13, t13, b13⟩, h14⟩ := laid_head h13 (show Tryd.prog.globalNamed "muezzin/api.ErrNumber" = some 13 by kernel_rfl) (by kernel_rfl)
  refine ⟨pick14 a0 a1 a2 a3 a4 a5 a6 a7 a8 a9 a10 a11 a12 a13, c0, c1, c2, c3, c4, c5, c6, c7, c8, c9, c10, c11, c12, c13, ?_, ?_, ?_, ?_⟩
  · have hx : ∀ i, i < 14 → ∃ s, W.cell? (pick14 a0 a1 a2 a3 a4 a5 a6 a7 a8 a9 a10 a11 a12 a13 i) = some (.string s) ∧ s.data.toList = textOf i := by
      intro i hi
      match i, hi with
      | 0, _ => exact ⟨s0, x0, t0⟩
      | 1, _ => exact ⟨s1, x1, t1⟩
      | 2, _ => exact ⟨s2, x2, t2⟩
      | 3, _ => exact ⟨s3, x3, t3⟩
      | 4, _ => exact ⟨s4, x4, t4⟩
      | 5, _ => exact ⟨s5, x5, t5⟩
      | 6, _ => exact ⟨s6, x6, t6⟩
      | 7, _ => exact ⟨s7, x7, t7⟩
      | 8, _ => exact ⟨s8, x8, t8⟩
      | 9, _ => exact ⟨s9, x9, t9⟩
      | 10, _ => exact ⟨s10, x10, t10⟩
      | 11, _ => exact ⟨s11, x11, t11⟩
      | 12, _ => exact ⟨s12, x12, t12⟩
      | 13, _ => exact ⟨s13, x13, t13⟩
    intro i j hi hj hne e
    obtain ⟨s, h1, h2⟩ := hx i hi
    obtain ⟨s', h3, h4⟩ := hx j hj
    rw [e, h3] at h1
    obtain rfl : s' = s := by simpa using h1
    exact textOf_ne i hi j hj hne (h2.symm.trans h4)
  · intro i hi
    match i, hi with
    | 0, _ => exact b0
    | 1, _ => exact b1
    | 2, _ => exact b2
    | 3, _ => exact b3
    | 4, _ => exact b4
    | 5, _ => exact b5
    | 6, _ => exact b6
    | 7, _ => exact b7
    | 8, _ => exact b8
    | 9, _ => exact b9
    | 10, _ => exact b10
    | 11, _ => exact b11
    | 12, _ => exact b12
    | 13, _ => exact b13
  · intro i hi
    match i, hi with
    | 0, _ => exact block_lt_of_cell x0
    | 1, _ => exact block_lt_of_cell x1
    | 2, _ => exact block_lt_of_cell x2
    | 3, _ => exact block_lt_of_cell x3
    | 4, _ => exact block_lt_of_cell x4
    | 5, _ => exact block_lt_of_cell x5
    | 6, _ => exact block_lt_of_cell x6
    | 7, _ => exact block_lt_of_cell x7
    | 8, _ => exact block_lt_of_cell x8
    | 9, _ => exact block_lt_of_cell x9
    | 10, _ => exact block_lt_of_cell x10
    | 11, _ => exact block_lt_of_cell x11
    | 12, _ => exact block_lt_of_cell x12
    | 13, _ => exact block_lt_of_cell x13
  · have : 13 < W.heap.size := block_lt_of_cell (show W.cell? ⟨13, 0, none⟩ = _ by first | exact c0 | exact c1 | exact c2 | exact c3 | exact c4 | exact c5 | exact c6 | exact c7 | exact c8 | exact c9 | exact c10 | exact c11 | exact c12 | exact c13)
    have : 13 < W.heap.size := block_lt_of_cell c13
    omega
end Go.Proofs.YtiegcfgedhgpnaaDoor
