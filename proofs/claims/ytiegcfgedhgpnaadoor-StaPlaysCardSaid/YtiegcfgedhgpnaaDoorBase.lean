/-
  THE COMMON GROUND OF ALL CLAIMS OF THIS SEAT: what a call may do to memory ('Gro'), and the contract of muezzinworld.Number. No condition beyond what each theorem states.
-/
import Derived.Test.YtiegcfgedhgpnaaDoorProg
import Derived.WalkKit
import Derived.WalkSpells
import Derived.WalkLawsBesides
import Derived.Lib.Hide
import Derived.CellFam
import Derived.LaidEql
import Derived.Handy
namespace Go.Proofs.YtiegcfgedhgpnaaDoor
open Go.RowKit

/-- w' is w with new blocks, and with writes to block 'row' alone. (The tape is left out: a region that draws tells nothing of it.) -/
structure Gro (row : Option Nat) (w w' : World) : Prop where
  os : w'.os = w.os
  output : w'.output = w.output
  size : w.heap.size ≤ w'.heap.size
  block : ∀ k, k < w.heap.size → some k ≠ row → w'.heap[k]? = w.heap[k]?

theorem Gro.refl (row : Option Nat) (w : World) : Gro row w w := ⟨rfl, rfl, Nat.le_refl _, fun _ _ _ => rfl⟩
theorem Gro.trans {row : Option Nat} {a b c : World} (h : Gro row a b) (k : Gro row b c) : Gro row a c :=
  ⟨k.os.trans h.os, k.output.trans h.output, Nat.le_trans h.size k.size, fun i hi hr => (k.block i (Nat.lt_of_lt_of_le hi h.size) hr).trans (h.block i hi hr)⟩
theorem Gro.weak {row : Option Nat} {a b : World} (h : Gro none a b) : Gro row a b :=
  ⟨h.os, h.output, h.size, fun i hi _ => h.block i hi (by simp)⟩
theorem Gro.drew {row : Option Nat} {a w : World} (h : Gro row a w) : Gro row a w.drew := ⟨h.os, h.output, h.size, h.block⟩
theorem Gro.drewN {row : Option Nat} {a w : World} (h : Gro row a w) (n : Nat) : Gro row a (w.drewN n) := by
  cases n with
  | zero => exact h
  | succ n => exact ⟨h.os, h.output, h.size, h.block⟩
theorem Gro.alloc {row : Option Nat} {a w : World} (h : Gro row a w) (o : Obj) : Gro row a (w.alloc o) :=
  h.trans ⟨rfl, rfl, by simp, fun k hk _ => Below.heap_alloc _ _ _ hk⟩
theorem Gro.setCell {a w : World} {b : Nat} (h : Gro (some b) a w) (off : Nat) (u : Value) : Gro (some b) a (w.setCell ⟨b, off, none⟩ u) :=
  h.trans ⟨rfl, rfl, by simp [World.setCell], fun k _ hr => Below.heap_setCell _ _ _ _ (by intro e; exact hr (by rw [e]))⟩
/-- A store into a block that was not there. -/
theorem Gro.setNew {row : Option Nat} {a w : World} (h : Gro row a w) {p : Addr} (hp : a.heap.size ≤ p.block) (u : Value) : Gro row a (w.setCell p u) :=
  ⟨h.os, h.output, by simpa [World.setCell] using h.size, fun k hk hr => (Below.heap_setCell _ _ _ _ (by omega)).trans (h.block k hk hr)⟩
theorem Gro.alike {row : Option Nat} {a w w' : World} (h : Gro row a w) (k : w'.Alike w) : Gro row a w' :=
  ⟨k.2.1.trans h.os, k.2.2.trans h.output, by rw [k.1]; exact h.size, fun i hi hr => by rw [k.1]; exact h.block i hi hr⟩
theorem Gro.cell {row : Option Nat} {w w' : World} (h : Gro row w w') {p : Addr} (hp : p.block < w.heap.size) (hr : some p.block ≠ row) : w'.cell? p = w.cell? p :=
  World.cell?_of_block (w := w) (h.block p.block hp hr)

/-- Below block number B nothing has turned. -/
structure Far (B : Nat) (w w' : World) : Prop where
  os : w'.os = w.os
  output : w'.output = w.output
  size : w.heap.size ≤ w'.heap.size
  block : ∀ k, k < B → w'.heap[k]? = w.heap[k]?
theorem Far.refl (B : Nat) (w : World) : Far B w w := ⟨rfl, rfl, Nat.le_refl _, fun _ _ => rfl⟩
theorem Far.gro {B : Nat} {row : Option Nat} {a b c : World} (h : Far B a b) (k : Gro row b c) (hB : B ≤ b.heap.size) (hr : ∀ g, row = some g → B ≤ g) : Far B a c :=
  ⟨k.os.trans h.os, k.output.trans h.output, Nat.le_trans h.size k.size, fun i hi => (k.block i (by omega) (fun e => by have := hr i e.symm; omega)).trans (h.block i hi)⟩
theorem Far.alike {B : Nat} {a b c : World} (h : Far B a b) (k : c.Alike b) : Far B a c :=
  ⟨k.2.1.trans h.os, k.2.2.trans h.output, by rw [k.1]; exact h.size, fun i hi => by rw [k.1]; exact h.block i hi⟩
theorem Far.cell {B : Nat} {w w' : World} (h : Far B w w') {p : Addr} (hp : p.block < B) : w'.cell? p = w.cell? p := World.cell?_of_block (w := w) (h.block p.block hp)
theorem Far.frozen {B : Nat} {w w' : World} (h : Far B w w') {p : Addr} (hp : p.block < B) : w'.frozen? p = w.frozen? p := World.frozen?_of_block (w := w) (h.block p.block hp)
theorem Far.frame {W w' : World} (h : Far W.heap.size W w') (may : MemPlace → Prop) : W.keptBut w' may := by
  refine ⟨h.os, h.output, fun i hi => ?_⟩
  rw [h.block i hi]
  split <;> simp_all

theorem all16 {P : Nat → Prop} (h0 : P 0) (h1 : P 1) (h2 : P 2) (h3 : P 3) (h4 : P 4) (h5 : P 5) (h6 : P 6) (h7 : P 7) (h8 : P 8) (h9 : P 9) (h10 : P 10) (h11 : P 11) (h12 : P 12) (h13 : P 13) (h14 : P 14) (h15 : P 15) (j : Nat) (h : j < 16) : P j := by
  rcases (show j = 0 ∨ j = 1 ∨ j = 2 ∨ j = 3 ∨ j = 4 ∨ j = 5 ∨ j = 6 ∨ j = 7 ∨ j = 8 ∨ j = 9 ∨ j = 10 ∨ j = 11 ∨ j = 12 ∨ j = 13 ∨ j = 14 ∨ j = 15 from by omega) with rfl | rfl | rfl | rfl | rfl | rfl | rfl | rfl | rfl | rfl | rfl | rfl | rfl | rfl | rfl | rfl
  · exact h0
  · exact h1
  · exact h2
  · exact h3
  · exact h4
  · exact h5
  · exact h6
  · exact h7
  · exact h8
  · exact h9
  · exact h10
  · exact h11
  · exact h12
  · exact h13
  · exact h14
  · exact h15
theorem or4 {p q r s g : Prop} (h : p ∨ q ∨ r ∨ s) (a : p → g) (b : q → g) (c : r → g) (d : s → g) : g := by
  rcases h with h | h | h | h
  · exact a h
  · exact b h
  · exact c h
  · exact d h
theorem ret_int {k : IntKind} {a b : Int} (h : a = b) : Ending.returned (.int k a) = .returned (.int k b) := by rw [h]
theorem ret_bool {a b : Bool} (h : a = b) : Ending.returned (.bool a) = .returned (.bool b) := by rw [h]

/-- A whole aggregate read out of the middle of a block. -/
theorem run_loadVar_list {P : Program} (w : World) (a : Addr) (ty : TypeId) (cs : List Value) (d : TypeDesc) (hc : ∀ (j : Nat) (v : Value), cs[j]? = some v → w.cell? (a.add j) = some v)
    (hu : P.underlying ty = some d) (hd : (match d with | .struct _ | .array _ _ => true | _ => false) = true) (hi : (P.info? ty).map (·.size) = some cs.length) :
    (loadVar ty a).run P w = .ok (.agg cs.toArray) w := by
  have hl : (loadCells a cs.length).run P w = .ok cs.toArray w := run_loadCells_list (P := P) w a cs hc
  cases hq : P.info? ty with
  | none => simp [hq] at hi
  | some i =>
    have hs : i.size = cs.length := by simpa [hq] using hi
    have hagg : (isAgg ty).run P w = .ok true w := by
      unfold isAgg
      rw [Sem.run_bind, run_underlying hu w]
      cases d <;> simp_all
    simp [loadVar, Sem.run_bind, hagg, sizeOf, typeInfo, hq, hs, hl]
theorem wpList_load_list {P : Program} {ops : Array Oper} {rest : List Oper} {o : Oper} {a : Act} {w : World} {Q : Exit → Act → World → Prop} (hgd : o.guard = none) (ty : TypeId) (x : Operand) (ho : o.op = .load ty x)
    (p : Addr) (hx : a.eval x = .pointer (some p)) (cs : List Value) (d : TypeDesc) (hc : ∀ (j : Nat) (v : Value), cs[j]? = some v → w.cell? (p.add j) = some v)
    (hu : P.underlying ty = some d) (hd : (match d with | .struct _ | .array _ _ => true | _ => false) = true) (hi : (P.info? ty).map (·.size) = some cs.length)
    (h : wpList P ops Q rest (a.put o.dst (.agg cs.toArray)) w) : wpList P ops Q (o :: rest) a w :=
  wpList_plain hgd fun _ hK => by
    unfold Oper.wp execOp
    simp only [ho, hx, Instr.loadAt, Instr.sureAddr, Sem.run_bind, Sem.run_pure, Result.andThen_ok, run_loadVar_list w p ty cs d hc hu hd hi]
    exact hK _ _ h

/-- A new variable, whose block is told by name. -/
theorem wpList_alloc_as {P : Program} {ops : Array Oper} {rest : List Oper} {o : Oper} {a : Act} {w : World} {Q : Exit → Act → World → Prop} (hgd : o.guard = none) (ty : TypeId) (ho : o.op = .alloc ty) (O : Obj)
    (hrun : (Instr.alloc ty true (.tuple #[])).run P w = .ok (.pointer (some ⟨w.heap.size, 0, none⟩)) (w.alloc O))
    (h : wpList P ops Q rest (a.put o.dst (.pointer (some ⟨w.heap.size, 0, none⟩))) (w.alloc O)) : wpList P ops Q (o :: rest) a w :=
  wpList_plain hgd fun _ hK => by
    unfold Oper.wp execOp
    simp only [ho, Sem.run_bind, Sem.run_pure, Result.andThen_ok, hrun]
    exact hK _ _ h

/-- muezzinworld.Number: n modulo below, from 0 on. -/
theorem number_any (n b : Int) (w : World) (hb1 : 1 ≤ b) (hb2 : b ≤ 4294967296) :
    Calls Tryd.prog 7 #[.int .i64 n, .int .i64 b] w fun e w' => e = .returned (.int .i64 (n % b)) ∧ w = w' := by
  have hd := Int.tmod_eq_emod (a := n) (b := b)
  have h1 : 0 ≤ n % b := Int.emod_nonneg _ (by omega)
  have h3 : n % b < b := Int.emod_lt_of_pos _ (by omega)
  have hbn : (b.natAbs : Int) = b := by omega
  by_cases hdv : 0 ≤ n ∨ b ∣ n
  · rw [if_pos hdv] at hd
    have h4 : 0 ≤ n.tmod b := by omega
    have h5 : n.tmod b < b := by omega
    have h6 : ¬ n.tmod b < 0 := by omega
    have HD := Lib.hid hd
    clear hd hdv hbn
    go_enter Tryd.func7, Tryd.ntmps7
    go_wp2
    go_ret
    exact ⟨ret_int (by have := HD.out; omega), rfl⟩
  · rw [if_neg hdv] at hd
    have h4 : -b ≤ n.tmod b := by omega
    have h5 : n.tmod b < b := by omega
    have h6 : n.tmod b < 0 := by omega
    have HD := Lib.hid hd
    clear hd hdv hbn
    go_enter Tryd.func7, Tryd.ntmps7
    go_wp2
    go_ret
    exact ⟨ret_int (by have := HD.out; omega), rfl⟩
theorem number_at (n b : Int) (r : Nat) (w : World) (hr : n % b = r) (hb1 : 1 ≤ b) (hb2 : b ≤ 4294967296) :
    Calls Tryd.prog 7 #[.int .i64 n, .int .i64 b] w fun e w' => e = .returned (.int .i64 r) ∧ w = w' := by
  have := number_any n b w hb1 hb2
  rwa [hr] at this
theorem number_val (n b v : Int) (w : World) (hv : n % b = v) (hb1 : 1 ≤ b) (hb2 : b ≤ 4294967296) :
    Calls Tryd.prog 7 #[.int .i64 n, .int .i64 b] w fun e w' => e = .returned (.int .i64 v) ∧ w = w' := by
  have := number_any n b w hb1 hb2
  rwa [hv] at this

end Go.Proofs.YtiegcfgedhgpnaaDoor
