/-
  THE WALKS OF package sta: what each call gives, and what it leaves. Conditions: the block is whole ('Tab').
-/
import Derived.Test.YtiegcfgedhgpnaaDoorSta
import Derived.ChangeKeysEq
namespace Go.Proofs.YtiegcfgedhgpnaaDoor
open Go.RowKit

theorem info5 : ∃ i, Tryd.prog.info? 5 = some i ∧ i.size = 1 :=
  Option.map_eq_some_iff.1 (show (Tryd.prog.info? 5).map (·.size) = some 1 by kernel_rfl)
theorem eqIn_addr (w : World) (x y : Ad) : (Op.equalIn 10000 25 (adV x) (adV y)).run Tryd.prog w = .ok (eqA x y) w := by
  obtain ⟨x0, x1, x2, x3, x4, x5⟩ := x
  obtain ⟨y0, y1, y2, y3, y4, y5⟩ := y
  obtain ⟨i, hi, _⟩ := info5
  have hc : Tryd.prog.cellsOf 5 = 1 := by kernel_rfl
  unfold adV eqA
  rw [run_equalIn_array w 9999 _ _ Tryd.underlying25 hi, hc]
  have hp : ∀ (zs : Array Value) (k : Nat) (v : Value), zs[k]? = some v → ∀ w, (part 5 zs k).run Tryd.prog w = .ok v w := by
    intro zs k v hz w
    simp [part, isAgg, run_underlying Tryd.underlying5, hz]
  have he : ∀ (a b : Int) (w : World), (Op.equalIn 9999 5 (.int .u8 a) (.int .u8 b)).run Tryd.prog w = .ok (a == b) w := fun a b w => run_equalIn_int w 9998 5 .u8 .u8 a b Tryd.underlying5
  simp only [List.range_succ, List.range_zero, List.nil_append, List.cons_append, Op.eqItems, Sem.run_bind]
  rw [hp _ (0*1) (.int .u8 x0) rfl]
  simp only [Result.andThen_ok]
  rw [hp _ (0*1) (.int .u8 y0) rfl]
  simp only [Result.andThen_ok]
  rw [he]
  simp only [Result.andThen_ok]
  cases h0 : (x0 == y0)
  · exact rfl
  rw [if_neg (show ¬ ((!true) = true) by decide), Sem.run_bind]
  simp only [Sem.run_bind]
  rw [hp _ (1*1) (.int .u8 x1) rfl]
  simp only [Result.andThen_ok]
  rw [hp _ (1*1) (.int .u8 y1) rfl]
  simp only [Result.andThen_ok]
  rw [he]
  simp only [Result.andThen_ok]
  cases h1 : (x1 == y1)
  · exact rfl
  rw [if_neg (show ¬ ((!true) = true) by decide), Sem.run_bind]
  simp only [Sem.run_bind]
  rw [hp _ (2*1) (.int .u8 x2) rfl]
  simp only [Result.andThen_ok]
  rw [hp _ (2*1) (.int .u8 y2) rfl]
  simp only [Result.andThen_ok]
  rw [he]
  simp only [Result.andThen_ok]
  cases h2 : (x2 == y2)
  · exact rfl
  rw [if_neg (show ¬ ((!true) = true) by decide), Sem.run_bind]
  simp only [Sem.run_bind]
  rw [hp _ (3*1) (.int .u8 x3) rfl]
  simp only [Result.andThen_ok]
  rw [hp _ (3*1) (.int .u8 y3) rfl]
  simp only [Result.andThen_ok]
  rw [he]
  simp only [Result.andThen_ok]
  cases h3 : (x3 == y3)
  · exact rfl
  rw [if_neg (show ¬ ((!true) = true) by decide), Sem.run_bind]
  simp only [Sem.run_bind]
  rw [hp _ (4*1) (.int .u8 x4) rfl]
  simp only [Result.andThen_ok]
  rw [hp _ (4*1) (.int .u8 y4) rfl]
  simp only [Result.andThen_ok]
  rw [he]
  simp only [Result.andThen_ok]
  cases h4 : (x4 == y4)
  · exact rfl
  rw [if_neg (show ¬ ((!true) = true) by decide), Sem.run_bind]
  simp only [Sem.run_bind]
  rw [hp _ (5*1) (.int .u8 x5) rfl]
  simp only [Result.andThen_ok]
  rw [hp _ (5*1) (.int .u8 y5) rfl]
  simp only [Result.andThen_ok]
  rw [he]
  simp only [Result.andThen_ok]
  cases h5 : (x5 == y5)
  · exact rfl
  exact rfl
theorem eql_addr (w : World) (x y : Ad) : (binOp .eql 25 (adV x) (adV y)).run Tryd.prog w = .ok (.bool (eqA x y)) w := by
  have h := eqIn_addr w x y
  unfold adV at h ⊢
  rw [run_eql_struct, h]; rfl
theorem neq_addr (w : World) (x y : Ad) : (binOp .neq 25 (adV x) (adV y)).run Tryd.prog w = .ok (.bool (!eqA x y)) w := by
  have h := eqIn_addr w x y
  unfold adV at h ⊢
  rw [run_neq_struct, h]; rfl
theorem and1 : ∀ n : Fin 256, bits BinOp.and IntKind.u8 (n.val : Int) 1 = (n.val : Int) % 2 := by decide +kernel
theorem and1_of (b : Int) (h0 : 0 ≤ b) (h1 : b < 256) : bits BinOp.and IntKind.u8 b 1 = b % 2 := by
  have h := and1 ⟨b.toNat, by omega⟩
  simpa [Int.toNat_of_nonneg h0] using h
/-- A station's address. -/
def fairA (x : Ad) : Bool := (x.b0 % 2 == 0) && !eqA x adZ
@[go_sem high] theorem eql_six (w : World) (a0 a1 a2 a3 a4 a5 b0 b1 b2 b3 b4 b5 : Int) :
    (binOp .eql 25 (.agg #[.int .u8 a0, .int .u8 a1, .int .u8 a2, .int .u8 a3, .int .u8 a4, .int .u8 a5]) (.agg #[.int .u8 b0, .int .u8 b1, .int .u8 b2, .int .u8 b3, .int .u8 b4, .int .u8 b5])).run Tryd.prog w = .ok (.bool (eqA ⟨a0, a1, a2, a3, a4, a5⟩ ⟨b0, b1, b2, b3, b4, b5⟩)) w :=
  eql_addr w ⟨a0, a1, a2, a3, a4, a5⟩ ⟨b0, b1, b2, b3, b4, b5⟩
@[go_sem high] theorem neq_six (w : World) (a0 a1 a2 a3 a4 a5 b0 b1 b2 b3 b4 b5 : Int) :
    (binOp .neq 25 (.agg #[.int .u8 a0, .int .u8 a1, .int .u8 a2, .int .u8 a3, .int .u8 a4, .int .u8 a5]) (.agg #[.int .u8 b0, .int .u8 b1, .int .u8 b2, .int .u8 b3, .int .u8 b4, .int .u8 b5])).run Tryd.prog w = .ok (.bool (!eqA ⟨a0, a1, a2, a3, a4, a5⟩ ⟨b0, b1, b2, b3, b4, b5⟩)) w :=
  neq_addr w ⟨a0, a1, a2, a3, a4, a5⟩ ⟨b0, b1, b2, b3, b4, b5⟩
theorem fair_any (x : Ad) (w : World) (h0 : 0 ≤ x.b0) (h1 : x.b0 < 256) :
    Calls Tryd.prog 23 #[adV x] w fun e w' => e = .returned (.bool (fairA x)) ∧ Gro none w w' := by
  obtain ⟨x0, x1, x2, x3, x4, x5⟩ := x
  have ha := and1_of x0 h0 h1
  unfold fairA
  unfold adV adZ
  simp only
  cases he : (x0 % 2 == 0)
  all_goals
    go_enter Tryd.func23, Tryd.ntmps23
    go_wp2_with fail
    go_ret
    exact ⟨rfl, (Gro.refl _ _).alloc _⟩
theorem of_there (b : Nat) (a : Int) (j : Nat) (w : World) (T : Nat → Sone) (h : Tab b w T) (hj : j < 16) (ha : a = j + 1) (ht : (T j).th = true) :
    Calls Tryd.prog 22 #[.pointer (some ⟨b, 0, none⟩), .int .i64 a] w fun e w' => e = .returned (.pointer (some ⟨b, 8 * j, none⟩)) ∧ w = w' := by
  have h1 : 1 ≤ a := by omega
  have h2 : a ≤ 16 := by omega
  have hc : w.cell? ⟨b, (a.toNat - 1) * 8, none⟩ = some (.bool true) := by
    have := h.cell j hj 0 (by decide)
    simp only [scell, ht, Nat.add_zero] at this
    rw [← this]; congr 2; omega
  have he : Hid ((a.toNat - 1) * 8 = 8 * j) := by unfold Hid; omega
  clear h ha ht hj
  go_enter Tryd.func22, Tryd.ntmps22
  go_wp2
  go_ret
  exact ⟨by rw [← he.out]; rfl, rfl⟩
theorem of_gone (b : Nat) (a : Int) (j : Nat) (w : World) (T : Nat → Sone) (h : Tab b w T) (hj : j < 16) (ha : a = j + 1) (ht : (T j).th = false) :
    Calls Tryd.prog 22 #[.pointer (some ⟨b, 0, none⟩), .int .i64 a] w fun e w' => e = .returned (.pointer none) ∧ w = w' := by
  have h1 : 1 ≤ a := by omega
  have h2 : a ≤ 16 := by omega
  have hc : w.cell? ⟨b, (a.toNat - 1) * 8, none⟩ = some (.bool false) := by
    have := h.cell j hj 0 (by decide)
    simp only [scell, ht, Nat.add_zero] at this
    rw [← this]; congr 2; omega
  clear h ha ht hj
  go_enter Tryd.func22, Tryd.ntmps22
  go_wp2
  go_ret
  exact ⟨rfl, rfl⟩
theorem of_out (p : Value) (a : Int) (w : World) (h : a < 1 ∨ 16 < a) :
    Calls Tryd.prog 22 #[p, .int .i64 a] w fun e w' => e = .returned (.pointer none) ∧ w = w' := by
  rcases h with h | h
  · go_enter Tryd.func22, Tryd.ntmps22
    go_wp2
    go_ret
    exact ⟨rfl, rfl⟩
  · have h' : 1 ≤ a := by omega
    go_enter Tryd.func22, Tryd.ntmps22
    go_wp2
    go_ret
    exact ⟨rfl, rfl⟩
end Go.Proofs.YtiegcfgedhgpnaaDoor
