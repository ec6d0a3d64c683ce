/-
  THE SENTINELS OF package api, AND THE CONTRACT OF muezzinsee.Is: it answers whether an error is the one of that number. Conditions: the fourteen variables hold pairwise different pointers ('Sent').
-/
import Derived.Test.YtiegcfgedhgpnaaDoorBase
import Derived.Deep.QuietTactic
import Derived.BigQuiet
import Derived.Deep.RegionHeld3
namespace Go.Proofs.YtiegcfgedhgpnaaDoor
open Go.RowKit

/-- The fourteen variables hold pointers A 0 .. A 13, pairwise different, below block number B. -/
structure Sent (B : Nat) (w : World) (A : Nat → Addr) : Prop where
  c0 : w.cell? ⟨4, 0, none⟩ = some (.iface 84 (.pointer (some (A 0))))
  c1 : w.cell? ⟨5, 0, none⟩ = some (.iface 84 (.pointer (some (A 1))))
  c2 : w.cell? ⟨1, 0, none⟩ = some (.iface 84 (.pointer (some (A 2))))
  c3 : w.cell? ⟨6, 0, none⟩ = some (.iface 84 (.pointer (some (A 3))))
  c4 : w.cell? ⟨7, 0, none⟩ = some (.iface 84 (.pointer (some (A 4))))
  c5 : w.cell? ⟨8, 0, none⟩ = some (.iface 84 (.pointer (some (A 5))))
  c6 : w.cell? ⟨0, 0, none⟩ = some (.iface 84 (.pointer (some (A 6))))
  c7 : w.cell? ⟨2, 0, none⟩ = some (.iface 84 (.pointer (some (A 7))))
  c8 : w.cell? ⟨3, 0, none⟩ = some (.iface 84 (.pointer (some (A 8))))
  c9 : w.cell? ⟨9, 0, none⟩ = some (.iface 84 (.pointer (some (A 9))))
  c10 : w.cell? ⟨10, 0, none⟩ = some (.iface 84 (.pointer (some (A 10))))
  c11 : w.cell? ⟨11, 0, none⟩ = some (.iface 84 (.pointer (some (A 11))))
  c12 : w.cell? ⟨12, 0, none⟩ = some (.iface 84 (.pointer (some (A 12))))
  c13 : w.cell? ⟨13, 0, none⟩ = some (.iface 84 (.pointer (some (A 13))))
  ne : ∀ i j, i < 14 → j < 14 → i ≠ j → A i ≠ A j
  blk : ∀ i, i < 14 → ∃ ca ta, w.heap[(A i).block]? = some (.cells ca ta (0, 0))
  lt : ∀ i, i < 14 → (A i).block < B
  big : 14 + (13 - 13) ≤ B

theorem Sent.far {B : Nat} {w w' : World} {A : Nat → Addr} (h : Sent B w A) (k : ∀ i, i < B → w'.heap[i]? = w.heap[i]?) : Sent B w' A := by
  have hc : ∀ p : Addr, p.block < 14 + (13 - 13) → w'.cell? p = w.cell? p := fun p hp => World.cell?_of_block (w := w) (k p.block (Nat.lt_of_lt_of_le hp h.big))
  exact ⟨(hc _ (by decide)).trans h.c0, (hc _ (by decide)).trans h.c1, (hc _ (by decide)).trans h.c2, (hc _ (by decide)).trans h.c3, (hc _ (by decide)).trans h.c4, (hc _ (by decide)).trans h.c5, (hc _ (by decide)).trans h.c6, (hc _ (by decide)).trans h.c7, (hc _ (by decide)).trans h.c8, (hc _ (by decide)).trans h.c9, (hc _ (by decide)).trans h.c10, (hc _ (by decide)).trans h.c11, (hc _ (by decide)).trans h.c12, (hc _ (by decide)).trans h.c13, h.ne, fun i hi => by rw [k _ (h.lt i hi)]; exact h.blk i hi, h.lt, h.big⟩

theorem info_ptr : ∃ i, Tryd.prog.info? 84 = some i ∧ i.comparable = true :=
  Option.map_eq_some_iff.1 (show (Tryd.prog.info? 84).map (·.comparable) = some true by kernel_rfl)
theorem info_str : ∃ i, Tryd.prog.info? 102 = some i ∧ i.size = 1 :=
  Option.map_eq_some_iff.1 (show (Tryd.prog.info? 102).map (·.size) = some 1 by kernel_rfl)

theorem eql_same (w : World) (a : Addr) : (binOp .eql 37 (.iface 84 (.pointer (some a))) (.iface 84 (.pointer (some a)))).run Tryd.prog w = .ok (.bool true) w := by
  obtain ⟨i, hi, hc⟩ := info_ptr
  obtain ⟨j, hj, _⟩ := info_str
  exact run_eql_iface_ptr_same w a Tryd.underlying37 Tryd.underlying84 hi hc hj
theorem eql_other (w : World) (a b : Addr) (hne : a ≠ b) (ha : ∃ ca ta, w.heap[a.block]? = some (.cells ca ta (0, 0))) (hb : ∃ ca ta, w.heap[b.block]? = some (.cells ca ta (0, 0))) :
    (binOp .eql 37 (.iface 84 (.pointer (some a))) (.iface 84 (.pointer (some b)))).run Tryd.prog w = .ok (.bool false) w := by
  obtain ⟨i, hi, hc⟩ := info_ptr
  obtain ⟨j, hj, hs⟩ := info_str
  obtain ⟨ca, ta, ha⟩ := ha
  obtain ⟨cb, tb, hb⟩ := hb
  exact run_eql_iface_ptr_other w Tryd.underlying37 Tryd.underlying84 hi hc hj (by omega) hne ha hb

theorem alike_same (w : World) (a : Addr) : Calls Tryd.prog 34 #[.iface 84 (.pointer (some a)), .iface 84 (.pointer (some a))] w fun e w' => e = .returned (.bool true) ∧ w = w' := by
  have he := eql_same w a
  go_enter Tryd.func34, Tryd.ntmps34
  go_wp2
  go_ret
  exact ⟨rfl, rfl⟩
theorem alike_other (w : World) (a b : Addr) (hne : a ≠ b) (ha : ∃ ca ta, w.heap[a.block]? = some (.cells ca ta (0, 0))) (hb : ∃ ca ta, w.heap[b.block]? = some (.cells ca ta (0, 0))) :
    Calls Tryd.prog 34 #[.iface 84 (.pointer (some a)), .iface 84 (.pointer (some b))] w fun e w' => e = .returned (.bool false) ∧ w = w' := by
  have he := eql_other w a b hne ha hb
  clear hne ha hb
  go_enter Tryd.func34, Tryd.ntmps34
  go_wp2
  go_ret
  exact ⟨rfl, rfl⟩

/-- The block that muezzinsee.sentinels makes. -/
def sentBlock (A : Nat → Addr) : Obj := .cells #[.iface 84 (.pointer (some (A 0))), .iface 84 (.pointer (some (A 1))), .iface 84 (.pointer (some (A 2))), .iface 84 (.pointer (some (A 3))), .iface 84 (.pointer (some (A 4))), .iface 84 (.pointer (some (A 5))), .iface 84 (.pointer (some (A 6))), .iface 84 (.pointer (some (A 7))), .iface 84 (.pointer (some (A 8))), .iface 84 (.pointer (some (A 9))), .iface 84 (.pointer (some (A 10))), .iface 84 (.pointer (some (A 11))), .iface 84 (.pointer (some (A 12))), .iface 84 (.pointer (some (A 13)))] 37
theorem sentinels_any (B : Nat) (w : World) (A : Nat → Addr) (hs : Sent B w A) :
    Calls Tryd.prog 33 #[] w fun e w' => e = .returned (.slice (some ⟨w.heap.size, 0, none⟩) 14 14) ∧ w.alloc (sentBlock A) = w' := by
  obtain ⟨c0, c1, c2, c3, c4, c5, c6, c7, c8, c9, c10, c11, c12, c13, _, _, _, _⟩ := hs
  go_enter Tryd.func33, Tryd.ntmps33
  go_wp2
  go_ret
  exact ⟨rfl, rfl⟩

theorem sentBlock_cell (A : Nat → Addr) (w : World) (i : Nat) (hi : i < 14) : (w.alloc (sentBlock A)).cell? ⟨w.heap.size, i, none⟩ = some (.iface 84 (.pointer (some (A i)))) := by
  rw [sentBlock, World.cell?_alloc_at _ _ _ _ rfl]
  match i, hi with
  | 0, _ => rfl
  | 1, _ => rfl
  | 2, _ => rfl
  | 3, _ => rfl
  | 4, _ => rfl
  | 5, _ => rfl
  | 6, _ => rfl
  | 7, _ => rfl
  | 8, _ => rfl
  | 9, _ => rfl
  | 10, _ => rfl
  | 11, _ => rfl
  | 12, _ => rfl
  | 13, _ => rfl

set_option maxRecDepth 100000 in
theorem sentinel_any (B : Nat) (w : World) (A : Nat → Addr) (hs : Sent B w A) (hB : B ≤ w.heap.size) (n : Nat) (hn : n < 14) :
    Calls Tryd.prog 31 #[.iface 84 (.pointer (some (A n)))] w fun e w' => e = .returned (.int .i64 (101 + n)) ∧ Gro none w w' := by
  have hcell := sentBlock_cell A w
  have hother : Hid (∀ i, i < 14 → n ≠ i → Calls Tryd.prog 34 #[.iface 84 (.pointer (some (A n))), .iface 84 (.pointer (some (A i)))] (w.alloc (sentBlock A)) fun e w' => e = .returned (.bool false) ∧ w.alloc (sentBlock A) = w') := by
    intro i hi hne
    have hk : ∀ j, j < 14 → ∃ ca ta, (w.alloc (sentBlock A)).heap[(A j).block]? = some (.cells ca ta (0, 0)) := fun j hj => by
      rw [Below.heap_alloc _ _ _ (Nat.lt_of_lt_of_le (hs.lt j hj) hB)]; exact hs.blk j hj
    exact alike_other _ _ _ (hs.ne n i hn hi hne) (hk n hn) (hk i hi)
  go_enter Tryd.func31, Tryd.ntmps31
  go_wp2_with fail
  refine (sentinels_any B w A hs).mono ?_
  rintro e w' ⟨rfl, rfl⟩
  clear hs
  go_wp2_with fail
  go_loop [4] (fun i => ∃ k : Nat, k ≤ n ∧ i = .int .i64 k) (fun i => 14 - (intOf i).toNat)
  case atStart => exact ⟨0, Nat.zero_le _, rfl⟩
  case round =>
    obtain ⟨k, hk, rfl⟩ := hrel
    have hk14 : k < 14 := by omega
    have hck := hcell k hk14
    clear hcell
    by_cases hkn : n = k
    · subst hkn
      go_wp2_with fail
      refine (alike_same _ _).mono ?_
      rintro e w' ⟨rfl, rfl⟩
      go_wp2_with fail
      go_ret
      exact ⟨rfl, (Gro.refl _ _).alloc _⟩
    · have hlt : k < n := by omega
      go_wp2_with fail
      refine (hother.out k hk14 hkn).mono ?_
      rintro e w' ⟨rfl, rfl⟩
      go_wp2_with fail
      go_round
      case rel => exact ⟨k + 1, by omega, by go_num⟩
      case measure => simp [intOf]; omega

/-- What an error is: 0: nil; n + 1: the n-th sentinel. -/
def errV (A : Nat → Addr) : Nat → Value
  | 0 => .nilIface
  | n + 1 => .iface 84 (.pointer (some (A n)))
/-- The number by which a statement names it. -/
def codeOf : Nat → Int
  | 0 => 0
  | n + 1 => 101 + n

theorem fault_nil (w : World) : Calls Tryd.prog 29 #[.nilIface] w fun e w' => e = .returned (.agg #[.int .i64 0, .bool false, .int .i64 0]) ∧ Gro none w w' := by
  go_enter Tryd.func29, Tryd.ntmps29
  go_wp2
  go_returns
  exact ⟨rfl, ((Gro.refl _ _).alloc _).alloc _⟩
theorem assert_at (a : Addr) (w : World) : (Instr.typeAssert (.iface 84 (.pointer (some a))) 37 75 true).run Tryd.prog w = .ok (.tuple #[.pointer none, .bool false]) w := by kernel_rfl
theorem fault_some (B : Nat) (w : World) (A : Nat → Addr) (hs : Sent B w A) (hB : B ≤ w.heap.size) (n : Nat) (hn : n < 14) :
    Calls Tryd.prog 29 #[.iface 84 (.pointer (some (A n)))] w fun e w' => e = .returned (.agg #[.int .i64 (101 + n), .bool false, .int .i64 0]) ∧ Gro none w w' := by
  have hs1 : ∀ o, Hid (Sent B (w.alloc o) A) := fun o => hs.far (fun i hi => Below.heap_alloc _ _ _ (Nat.lt_of_lt_of_le hi hB))
  have hta := assert_at (A n)
  clear hs
  go_enter Tryd.func29, Tryd.ntmps29
  go_wp2_with fail
  refine (sentinel_any B _ A (hs1 _).out (by simp; omega) n hn).mono ?_
  rintro e w1 ⟨rfl, hg⟩
  have hlt : w.heap.size < w1.heap.size := by have := hg.size; simp at this; omega
  have hb : w1.heap[w.heap.size]? = some (.cells #[.int .i64 0, .bool false, .int .i64 0] 69 (0, 0)) := (hg.block _ (by simp) (by simp)).trans (heap_alloc_new _ _)
  have hc0 : w1.cell? ⟨w.heap.size, 0, none⟩ = some (.int .i64 0) := by rw [cell_of_row _ _ _ _ _ _ hb]; rfl
  have hc1 : w1.cell? ⟨w.heap.size, 1, none⟩ = some (.bool false) := by rw [cell_of_row _ _ _ _ _ _ hb]; rfl
  have hc2 : w1.cell? ⟨w.heap.size, 2, none⟩ = some (.int .i64 0) := by rw [cell_of_row _ _ _ _ _ _ hb]; rfl
  have hf : ∀ j, w1.frozen? ⟨w.heap.size, j, none⟩ = false := fun j => frozen_of_row _ _ _ _ _ hb
  have hg' : Gro none w w1 := ((Gro.refl _ _).alloc _).trans hg
  clear hg hb
  go_wp2
  refine bodyPost_ret (v := .agg #[.int .i64 (101 + n), .bool false, .int .i64 0]) (by simp [results, Tryd.results29, go_sem, hc0, hc1, hc2, hlt]) rfl ⟨rfl, ?_⟩
  exact (((hg'.setNew (Nat.le_refl _) _).setNew (Nat.le_refl _) _).setNew (Nat.le_refl _) _).alloc _

theorem sameFault_any (x y : Int) (w : World) :
    Calls Tryd.prog 28 #[.agg #[.int .i64 x, .bool false, .int .i64 0], .agg #[.int .i64 y, .bool false, .int .i64 0]] w fun e w' => e = .returned (.bool (decide (x = y))) ∧ Gro none w w' := by
  by_cases h : x = y
  · subst h
    go_enter Tryd.func28, Tryd.ntmps28
    go_wp2
    go_ret
    exact ⟨by simp, ((Gro.refl _ _).alloc _).alloc _⟩
  · have h' : (x == y) = false := by simpa using h
    have HD : Hid (decide (x = y) = false) := by simpa [Hid] using h
    clear h
    go_enter Tryd.func28, Tryd.ntmps28
    go_wp2
    go_ret
    exact ⟨ret_bool HD.out.symm, ((Gro.refl _ _).alloc _).alloc _⟩

/-- The pair of what an error is and its number, with 'Fault''s contract for both kinds. -/
theorem fault_any (B : Nat) (w : World) (A : Nat → Addr) (hs : Sent B w A) (hB : B ≤ w.heap.size) (k : Nat) (hk : k < 15) :
    Calls Tryd.prog 29 #[errV A k] w fun e w' => e = .returned (.agg #[.int .i64 (codeOf k), .bool false, .int .i64 0]) ∧ Gro none w w' := by
  cases k with
  | zero => exact fault_nil w
  | succ n => exact fault_some B w A hs hB n (by omega)

def Box3 (w : World) (c : Int) (w' : World) : Prop := Gro none (w.alloc (.cells #[.int .i64 c, .bool false, .int .i64 0] 69)) w'
theorem Box3.all {w w' : World} {c : Int} (h : Box3 w c w') : Box3 w c w' ∧ w'.cell? ⟨w.heap.size, 0, none⟩ = some (.int .i64 c) ∧ w'.cell? ⟨w.heap.size, 1, none⟩ = some (.bool false) ∧ w'.cell? ⟨w.heap.size, 2, none⟩ = some (.int .i64 0) := by
  have hb : w'.heap[w.heap.size]? = some (.cells #[.int .i64 c, .bool false, .int .i64 0] 69 (0, 0)) := (h.block _ (by simp) (by simp)).trans (heap_alloc_new _ _)
  exact ⟨h, by rw [cell_of_row _ _ _ _ _ _ hb]; rfl, by rw [cell_of_row _ _ _ _ _ _ hb]; rfl, by rw [cell_of_row _ _ _ _ _ _ hb]; rfl⟩
theorem same_any (B : Nat) (w : World) (A : Nat → Addr) (hs : Sent B w A) (hB : B ≤ w.heap.size) (k : Nat) (hk : k < 15) (c : Int) :
    Calls Tryd.prog 24 #[errV A k, .agg #[.int .i64 c, .bool false, .int .i64 0]] w fun e w' => e = .returned (.bool (decide (codeOf k = c))) ∧ Gro none w w' := by
  generalize hv : errV A k = v
  generalize hc : codeOf k = x
  have HF : ∀ W, Box3 w c W → Calls Tryd.prog 29 #[v] W fun e w' => e = .returned (.agg #[.int .i64 x, .bool false, .int .i64 0]) ∧ Box3 w c w' := by
    intro W hg
    have hsz := hg.size
    simp at hsz
    have hs1 : Sent B W A := hs.far fun i hi => (hg.block i (by simp; omega) (by simp)).trans (Below.heap_alloc _ _ _ (Nat.lt_of_lt_of_le hi hB))
    have := fault_any B W A hs1 (by omega) k hk
    rw [hv, hc] at this
    exact this.mono fun e w' ⟨he, hw⟩ => ⟨he, hg.trans hw⟩
  have HF := Lib.hid HF
  have HG : ∀ W, Box3 w c W → Calls Tryd.prog 28 #[.agg #[.int .i64 x, .bool false, .int .i64 0], .agg #[.int .i64 c, .bool false, .int .i64 0]] W fun e w' => e = .returned (.bool (decide (x = c))) ∧ Box3 w c w' := fun W hg =>
    (sameFault_any x c W).mono fun e w' ⟨he, hw⟩ => ⟨he, hg.trans hw⟩
  have HG := Lib.hid HG
  have HE : ∀ w', Box3 w c w' → Gro none w w' := fun w' h => ((Gro.refl _ _).alloc _).trans h
  have HE := Lib.hid HE
  clear hv hc hk hs
  go_enter Tryd.func24, Tryd.ntmps24
  go_wp2_with fail
  go_region_held3 (fun w' => Box3 w c w' ∧ w'.cell? ⟨w.heap.size, 0, none⟩ = some (.int .i64 c) ∧ w'.cell? ⟨w.heap.size, 1, none⟩ = some (.bool false) ∧ w'.cell? ⟨w.heap.size, 2, none⟩ = some (.int .i64 0)) ((first | exact Box3.all (Gro.drew (Gro.refl _ _)) | (exact Box3.all (by assumption)))) (first | (go_at_call 29; refine (HF.out _ (And.left (by assumption))).mono ?_; rintro e w' ⟨rfl, hg⟩) | (go_at_call 28; refine (HG.out _ (by assumption)).mono ?_; rintro e w' ⟨rfl, hg⟩))
  go_wp2
  go_ret
  exact ⟨rfl, HE.out _ hg⟩

theorem bare_any (c : Int) (w : World) : Calls Tryd.prog 25 #[.int .i64 c] w fun e w' => e = .returned (.agg #[.int .i64 c, .bool false, .int .i64 0]) ∧ Gro none w w' := by
  go_enter Tryd.func25, Tryd.ntmps25
  go_wp2
  go_returns
  exact ⟨rfl, (Gro.refl _ _).alloc _⟩

/-- IS AN ERROR THE ONE OF THAT NUMBER? -/
theorem is_any (B : Nat) (w : World) (A : Nat → Addr) (hs : Sent B w A) (hB : B ≤ w.heap.size) (k : Nat) (hk : k < 15) (c : Int) :
    Calls Tryd.prog 13 #[errV A k, .int .i64 c] w fun e w' => e = .returned (.bool (decide (codeOf k = c))) ∧ Gro none w w' := by
  have HS : ∀ W, Gro none w W → Calls Tryd.prog 24 #[errV A k, .agg #[.int .i64 c, .bool false, .int .i64 0]] W fun e w' => e = .returned (.bool (decide (codeOf k = c))) ∧ Gro none w w' := by
    intro W hg
    have hs1 : Sent B W A := hs.far fun i hi => hg.block i (by omega) (by simp)
    exact (same_any B W A hs1 (by have := hg.size; omega) k hk c).mono fun e w' ⟨he, hw⟩ => ⟨he, hg.trans hw⟩
  have HS := Lib.hid HS
  clear hs hk
  generalize errV A k = v at *
  generalize decide (codeOf k = c) = r at *
  go_enter Tryd.func13, Tryd.ntmps13
  go_wp2_with fail
  refine (bare_any c w).mono ?_
  rintro e w1 ⟨rfl, hg⟩
  go_wp2_with fail
  refine (HS.out w1 hg).mono ?_
  rintro e w2 ⟨rfl, hg2⟩
  go_wp2_with fail
  go_ret
  exact ⟨rfl, hg2⟩

end Go.Proofs.YtiegcfgedhgpnaaDoor
