/-
  THE WALK OF act.addrs: the three addresses of a frame. Conditions: the bytes lie where the slice says, and there are 22 of them at least.
-/
import Derived.Test.YtflckkeaakmojaaDoorActR
import Derived.Test.YtflckkeaakmojaaDoorCalm2
namespace Go.Proofs.YtflckkeaakmojaaDoor
open Go.RowKit

/-- The number that two bytes are; the address that six are. -/
def num2 (bs : List Int) (i : Nat) : Int := bs.getD i 0 + 256 * bs.getD (i + 1) 0
def ad6 (bs : List Int) (i : Nat) : Ad := ⟨bs.getD i 0, bs.getD (i + 1) 0, bs.getD (i + 2) 0, bs.getD (i + 3) 0, bs.getD (i + 4) 0, bs.getD (i + 5) 0⟩
theorem blk_lt {w : World} {b : Nat} {o : Obj} (h : w.heap[b]? = some o) : b < w.heap.size := (Array.getElem?_eq_some_iff.1 h).1
theorem wp_copy6 {o : Oper} {a : Act} {w : World} {K : Act → World → Prop} {Q : Exit → Act → World → Prop} (hgd : o.guard = none) (d s : Operand)
    (ho : o.op = .call { callee := .builtin .copy, args := #[d, s], argTypes := #[28, 28] })
    (g off dc : Nat) (ad : Addr) (m c : Nat) (hd : a.eval d = .slice (some ⟨g, off, none⟩) 6 dc) (hs : a.eval s = .slice (some ad) m c) (hm : 6 ≤ m)
    (cur : List Value) (t : TypeId) (hg : w.heap[g]? = some (.cells cur.toArray t (0, 0))) (x : Ad) (hx : LieA w ad (adL x)) (hfit : off + 6 ≤ cur.length)
    (h : ∀ w', w'.heap[g]? = some (.cells (splice cur off ((adL x).map (Value.int .u8))).toArray t (0, 0)) → Gro (some g) w w' → K (a.put o.dst (goInt 6)) w') : Oper.wp Tryd.prog o a w K Q := by
  have := step_copy6 (ops := #[]) (E := False) (Q := Q) hgd d s ho g off dc ad m c hd hs hm cur t hg x hx hfit h
  rwa [if_pos (by simp [Region.wanted, hgd])] at this
theorem Gro.new_row {a b c : World} {g : Nat} (h : Gro none a b) (k : Gro (some g) b c) (hg : a.heap.size ≤ g) : Gro none a c :=
  ⟨k.os.trans h.os, k.output.trans h.output, Nat.le_trans h.size k.size, fun i hi _ => (k.block i (Nat.lt_of_lt_of_le hi h.size) (by simp; omega)).trans (h.block i hi (by simp))⟩
/-- The first k addresses, the others zero. -/
def addrsRow (bs : List Int) : Nat → Array Value
  | 0 => #[.int .u8 0, .int .u8 0, .int .u8 0, .int .u8 0, .int .u8 0, .int .u8 0, .int .u8 0, .int .u8 0, .int .u8 0, .int .u8 0, .int .u8 0, .int .u8 0, .int .u8 0, .int .u8 0, .int .u8 0, .int .u8 0, .int .u8 0, .int .u8 0]
  | 1 => #[.int .u8 (ad6 bs 4).b0, .int .u8 (ad6 bs 4).b1, .int .u8 (ad6 bs 4).b2, .int .u8 (ad6 bs 4).b3, .int .u8 (ad6 bs 4).b4, .int .u8 (ad6 bs 4).b5, .int .u8 0, .int .u8 0, .int .u8 0, .int .u8 0, .int .u8 0, .int .u8 0, .int .u8 0, .int .u8 0, .int .u8 0, .int .u8 0, .int .u8 0, .int .u8 0]
  | 2 => #[.int .u8 (ad6 bs 4).b0, .int .u8 (ad6 bs 4).b1, .int .u8 (ad6 bs 4).b2, .int .u8 (ad6 bs 4).b3, .int .u8 (ad6 bs 4).b4, .int .u8 (ad6 bs 4).b5, .int .u8 (ad6 bs 10).b0, .int .u8 (ad6 bs 10).b1, .int .u8 (ad6 bs 10).b2, .int .u8 (ad6 bs 10).b3, .int .u8 (ad6 bs 10).b4, .int .u8 (ad6 bs 10).b5, .int .u8 0, .int .u8 0, .int .u8 0, .int .u8 0, .int .u8 0, .int .u8 0]
  | _ => #[.int .u8 (ad6 bs 4).b0, .int .u8 (ad6 bs 4).b1, .int .u8 (ad6 bs 4).b2, .int .u8 (ad6 bs 4).b3, .int .u8 (ad6 bs 4).b4, .int .u8 (ad6 bs 4).b5, .int .u8 (ad6 bs 10).b0, .int .u8 (ad6 bs 10).b1, .int .u8 (ad6 bs 10).b2, .int .u8 (ad6 bs 10).b3, .int .u8 (ad6 bs 10).b4, .int .u8 (ad6 bs 10).b5, .int .u8 (ad6 bs 16).b0, .int .u8 (ad6 bs 16).b1, .int .u8 (ad6 bs 16).b2, .int .u8 (ad6 bs 16).b3, .int .u8 (ad6 bs 16).b4, .int .u8 (ad6 bs 16).b5]

set_option maxHeartbeats 4000000 in
set_option maxRecDepth 100000 in
theorem addrs_any (b o cap : Nat) (bs : List Int) (w : World) (hl : 22 ≤ bs.length) (hc : bs.length ≤ cap) (h : Lie w (some ⟨b, o, none⟩) bs) :
    Calls Tryd.prog 27 #[.slice (some ⟨b, o, none⟩) bs.length cap] w fun e w' => e = .returned (.tuple #[adV (ad6 bs 4), adV (ad6 bs 10), adV (ad6 bs 16)]) ∧ Gro none w w' := by
  have HLI := Lib.hid (fun w' (k : Gro none w w') => (h.gro k (by simp) : Lie w' (some ⟨b, o, none⟩) bs))
  have hbw : b < w.heap.size := h.lt (by omega)
  generalize hL : bs.length = L at *
  have HL := Lib.hid hL
  have j4 : (4 : Int) ≤ (L : Int) := by omega
  have j10 : (10 : Int) ≤ (L : Int) := by omega
  have j16 : (16 : Int) ≤ (L : Int) := by omega
  have k4 : 4 ≤ L := by omega
  have k10 : 10 ≤ L := by omega
  have k16 : 16 ≤ L := by omega
  have i3 : (L : Int) ≤ (cap : Int) := by omega
  have i4 : (4 : Int) ≤ (cap : Int) := by omega
  have i10 : (10 : Int) ≤ (cap : Int) := by omega
  have i16 : (16 : Int) ≤ (cap : Int) := by omega
  have d4 : ¬ cap = 4 := by omega
  have d10 : ¬ cap = 10 := by omega
  have d16 : ¬ cap = 16 := by omega
  have wr0 : IntKind.i64.wrap 0 = 0 := by decide
  have wr4 : IntKind.i64.wrap 4 = 4 := by decide
  have wr6 : IntKind.i64.wrap 6 = 6 := by decide
  have wr10 : IntKind.i64.wrap 10 = 10 := by decide
  have wr12 : IntKind.i64.wrap 12 = 12 := by decide
  have wr16 : IntKind.i64.wrap 16 = 16 := by decide
  have HLL := Lib.hid (And.intro hl hc)
  clear hL h hl hc
  unfold adV
  go_enter Tryd.func27, Tryd.ntmps27
  go_wp2_with fail
  have hg1 : Gro none w ((((w.alloc (.cells #[.int .u8 0, .int .u8 0, .int .u8 0, .int .u8 0, .int .u8 0, .int .u8 0] 25)).alloc (.cells #[.int .u8 0, .int .u8 0, .int .u8 0, .int .u8 0, .int .u8 0, .int .u8 0] 25)).alloc (.cells #[.int .u8 0, .int .u8 0, .int .u8 0, .int .u8 0, .int .u8 0, .int .u8 0] 25)).alloc (.cells #[.int .u8 0, .int .u8 0, .int .u8 0, .int .u8 0, .int .u8 0, .int .u8 0, .int .u8 0, .int .u8 0, .int .u8 0, .int .u8 0, .int .u8 0, .int .u8 0, .int .u8 0, .int .u8 0, .int .u8 0, .int .u8 0, .int .u8 0, .int .u8 0] 77)) := (((((Gro.refl _ _).alloc _).alloc _).alloc _).alloc _)
  have hsz : ∀ (w : World) (o : Obj), (w.alloc o).heap.size = w.heap.size + 1 := fun w o => by simp
  have hr : ((((w.alloc (.cells #[.int .u8 0, .int .u8 0, .int .u8 0, .int .u8 0, .int .u8 0, .int .u8 0] 25)).alloc (.cells #[.int .u8 0, .int .u8 0, .int .u8 0, .int .u8 0, .int .u8 0, .int .u8 0] 25)).alloc (.cells #[.int .u8 0, .int .u8 0, .int .u8 0, .int .u8 0, .int .u8 0, .int .u8 0] 25)).alloc (.cells #[.int .u8 0, .int .u8 0, .int .u8 0, .int .u8 0, .int .u8 0, .int .u8 0, .int .u8 0, .int .u8 0, .int .u8 0, .int .u8 0, .int .u8 0, .int .u8 0, .int .u8 0, .int .u8 0, .int .u8 0, .int .u8 0, .int .u8 0, .int .u8 0] 77)).heap[w.heap.size + 1 + 1 + 1]? = some (.cells (addrsRow bs 0) 77 (0, 0)) := by
    have h := heap_alloc_new (((w.alloc (.cells #[.int .u8 0, .int .u8 0, .int .u8 0, .int .u8 0, .int .u8 0, .int .u8 0] 25)).alloc (.cells #[.int .u8 0, .int .u8 0, .int .u8 0, .int .u8 0, .int .u8 0, .int .u8 0] 25)).alloc (.cells #[.int .u8 0, .int .u8 0, .int .u8 0, .int .u8 0, .int .u8 0, .int .u8 0] 25)) (.cells #[.int .u8 0, .int .u8 0, .int .u8 0, .int .u8 0, .int .u8 0, .int .u8 0, .int .u8 0, .int .u8 0, .int .u8 0, .int .u8 0, .int .u8 0, .int .u8 0, .int .u8 0, .int .u8 0, .int .u8 0, .int .u8 0, .int .u8 0, .int .u8 0] 77)
    simp only [hsz] at h
    exact h
  have h2 : ((((w.alloc (.cells #[.int .u8 0, .int .u8 0, .int .u8 0, .int .u8 0, .int .u8 0, .int .u8 0] 25)).alloc (.cells #[.int .u8 0, .int .u8 0, .int .u8 0, .int .u8 0, .int .u8 0, .int .u8 0] 25)).alloc (.cells #[.int .u8 0, .int .u8 0, .int .u8 0, .int .u8 0, .int .u8 0, .int .u8 0] 25)).alloc (.cells #[.int .u8 0, .int .u8 0, .int .u8 0, .int .u8 0, .int .u8 0, .int .u8 0, .int .u8 0, .int .u8 0, .int .u8 0, .int .u8 0, .int .u8 0, .int .u8 0, .int .u8 0, .int .u8 0, .int .u8 0, .int .u8 0, .int .u8 0, .int .u8 0] 77)).heap[w.heap.size + 1 + 1]? = some (.cells #[.int .u8 0, .int .u8 0, .int .u8 0, .int .u8 0, .int .u8 0, .int .u8 0] 25 (0, 0)) := by
    have h := heap_alloc_new ((w.alloc (.cells #[.int .u8 0, .int .u8 0, .int .u8 0, .int .u8 0, .int .u8 0, .int .u8 0] 25)).alloc (.cells #[.int .u8 0, .int .u8 0, .int .u8 0, .int .u8 0, .int .u8 0, .int .u8 0] 25)) (.cells #[.int .u8 0, .int .u8 0, .int .u8 0, .int .u8 0, .int .u8 0, .int .u8 0] 25)
    simp only [hsz] at h
    exact (Below.heap_alloc _ _ _ (by simp only [hsz]; omega)).trans h
  have h1 : ((((w.alloc (.cells #[.int .u8 0, .int .u8 0, .int .u8 0, .int .u8 0, .int .u8 0, .int .u8 0] 25)).alloc (.cells #[.int .u8 0, .int .u8 0, .int .u8 0, .int .u8 0, .int .u8 0, .int .u8 0] 25)).alloc (.cells #[.int .u8 0, .int .u8 0, .int .u8 0, .int .u8 0, .int .u8 0, .int .u8 0] 25)).alloc (.cells #[.int .u8 0, .int .u8 0, .int .u8 0, .int .u8 0, .int .u8 0, .int .u8 0, .int .u8 0, .int .u8 0, .int .u8 0, .int .u8 0, .int .u8 0, .int .u8 0, .int .u8 0, .int .u8 0, .int .u8 0, .int .u8 0, .int .u8 0, .int .u8 0] 77)).heap[w.heap.size + 1]? = some (.cells #[.int .u8 0, .int .u8 0, .int .u8 0, .int .u8 0, .int .u8 0, .int .u8 0] 25 (0, 0)) := by
    have h := heap_alloc_new (w.alloc (.cells #[.int .u8 0, .int .u8 0, .int .u8 0, .int .u8 0, .int .u8 0, .int .u8 0] 25)) (.cells #[.int .u8 0, .int .u8 0, .int .u8 0, .int .u8 0, .int .u8 0, .int .u8 0] 25)
    simp only [hsz] at h
    exact (Below.heap_alloc _ _ _ (by simp only [hsz]; omega)).trans ((Below.heap_alloc _ _ _ (by simp only [hsz]; omega)).trans h)
  have h0 : ((((w.alloc (.cells #[.int .u8 0, .int .u8 0, .int .u8 0, .int .u8 0, .int .u8 0, .int .u8 0] 25)).alloc (.cells #[.int .u8 0, .int .u8 0, .int .u8 0, .int .u8 0, .int .u8 0, .int .u8 0] 25)).alloc (.cells #[.int .u8 0, .int .u8 0, .int .u8 0, .int .u8 0, .int .u8 0, .int .u8 0] 25)).alloc (.cells #[.int .u8 0, .int .u8 0, .int .u8 0, .int .u8 0, .int .u8 0, .int .u8 0, .int .u8 0, .int .u8 0, .int .u8 0, .int .u8 0, .int .u8 0, .int .u8 0, .int .u8 0, .int .u8 0, .int .u8 0, .int .u8 0, .int .u8 0, .int .u8 0] 77)).heap[w.heap.size]? = some (.cells #[.int .u8 0, .int .u8 0, .int .u8 0, .int .u8 0, .int .u8 0, .int .u8 0] 25 (0, 0)) := (Below.heap_alloc _ _ _ (by simp only [hsz]; omega)).trans ((Below.heap_alloc _ _ _ (by simp only [hsz]; omega)).trans ((Below.heap_alloc _ _ _ (by simp only [hsz]; omega)).trans (heap_alloc_new w _)))
  generalize ((((w.alloc (.cells #[.int .u8 0, .int .u8 0, .int .u8 0, .int .u8 0, .int .u8 0, .int .u8 0] 25)).alloc (.cells #[.int .u8 0, .int .u8 0, .int .u8 0, .int .u8 0, .int .u8 0, .int .u8 0] 25)).alloc (.cells #[.int .u8 0, .int .u8 0, .int .u8 0, .int .u8 0, .int .u8 0, .int .u8 0] 25)).alloc (.cells #[.int .u8 0, .int .u8 0, .int .u8 0, .int .u8 0, .int .u8 0, .int .u8 0, .int .u8 0, .int .u8 0, .int .u8 0, .int .u8 0, .int .u8 0, .int .u8 0, .int .u8 0, .int .u8 0, .int .u8 0, .int .u8 0, .int .u8 0, .int .u8 0] 77)) = wb at *
  have n01 : ¬ w.heap.size = w.heap.size + 1 := by omega
  generalize hB1 : w.heap.size + 1 = B1 at *
  generalize hB2 : B1 + 1 = B2 at *
  generalize hg : B2 + 1 = g at *
  have HB := Lib.hid (And.intro hB1 (And.intro hB2 hg))
  have HG1 := Lib.hid hg1
  have H0 := Lib.hid (And.intro h0 (And.intro h1 h2))
  have HR := Lib.hid hr
  have q0 : w.heap.size < g := by omega
  have q1 : B1 < g := by omega
  have q2 : B2 < g := by omega
  clear hsz hB1 hB2 hg hg1 h0 h1 h2 hr n01
  go_loopw [7] (fun i wr => ∃ k : Nat, k ≤ 3 ∧ i = .int .i64 k ∧ Gro (some g) wb wr ∧ wr.heap[g]? = some (.cells (addrsRow bs k) 77 (0, 0))) (fun i _ => 3 - (intOf i).toNat)
  case atStart => exact ⟨0, by decide, rfl, Gro.refl _ _, HR.out⟩
  case round =>
    obtain ⟨k, hk, rfl, hgr, hrow⟩ := hrel
    have HGR := Lib.hid hgr
    have hlr : Lie wr (some ⟨b, o, none⟩) bs := (HLI.out _ HG1.out).gro hgr (by intro a e; cases e; intro h; have h := Option.some.inj h; simp only at h; omega)
    have HLR := Lib.hid hlr
    clear hgr hlr
    by_cases h3 : k < 3
    · rcases (show k = 0 ∨ k = 1 ∨ k = 2 from by omega) with rfl | rfl | rfl
      · have HROW := Lib.hid (show wr.drew.heap[g]? = some (.cells #[.int .u8 0, .int .u8 0, .int .u8 0, .int .u8 0, .int .u8 0, .int .u8 0, .int .u8 0, .int .u8 0, .int .u8 0, .int .u8 0, .int .u8 0, .int .u8 0, .int .u8 0, .int .u8 0, .int .u8 0, .int .u8 0, .int .u8 0, .int .u8 0] 77 (0, 0)) from hrow)
        have HS := Lib.hid (show LieA wr.drew ⟨b, o + 4, none⟩ (adL (ad6 bs 4)) from HLR.out.six 4 (by have := HLL.out; have := HL.out; omega))
        clear hrow HLR
        go_wp2_with fail
        refine wp_region_R (fun l w' => (l.getD 8 false = false → w' = wr.drew) ∧ (l.getD 8 false = true → Gro (some g) wr w' ∧ w'.heap[g]? = some (.cells (addrsRow bs 1) 77 (0, 0)))) (by kernel_rfl) ⟨fun _ => rfl, fun h => absurd h (by decide)⟩ ?_
        refine takeR (i := 0) (x := 10) (v := .int .i64 0) rfl (by kernel_rfl) (by kernel_rfl) (by kernel_rfl) (fun _ _ _ h => h) (fun l w => by simp only [getD_ne (show 0 ≠ 8 by decide)]) (fun l w _ => by go_simp) ?_
        simp only [Act.put, List.setIfInBounds_toArray, List.set_cons_zero, List.set_cons_succ]
        refine takeR (i := 1) (x := 11) (v := .pointer (some ⟨g, 0, none⟩)) rfl (by kernel_rfl) (by kernel_rfl) (by kernel_rfl) (fun _ _ _ h => h) (fun l w => by simp only [getD_ne (show 1 ≠ 8 by decide)]) (fun l w _ => by go_simp) ?_
        simp only [Act.put, List.setIfInBounds_toArray, List.set_cons_zero, List.set_cons_succ]
        refine takeR (i := 2) (x := 12) (v := .slice (some ⟨g, 0, none⟩) 6 6) rfl (by kernel_rfl) (by kernel_rfl) (by kernel_rfl) (fun _ _ _ h => h) (fun l w => by simp only [getD_ne (show 2 ≠ 8 by decide)]) (fun l w _ => by go_simp) ?_
        simp only [Act.put, List.setIfInBounds_toArray, List.set_cons_zero, List.set_cons_succ]
        refine takeR (i := 3) (x := 13) (v := .slice (some ⟨b, o, none⟩) L cap) rfl (by kernel_rfl) (by kernel_rfl) (by kernel_rfl) (fun _ _ _ h => h) (fun l w => by simp only [getD_ne (show 3 ≠ 8 by decide)]) (fun l w _ => by go_simp) ?_
        simp only [Act.put, List.setIfInBounds_toArray, List.set_cons_zero, List.set_cons_succ]
        refine takeR (i := 4) (x := 14) (v := .int .i64 0) rfl (by kernel_rfl) (by kernel_rfl) (by kernel_rfl) (fun _ _ _ h => h) (fun l w => by simp only [getD_ne (show 4 ≠ 8 by decide)]) (fun l w _ => by go_simp) ?_
        simp only [Act.put, List.setIfInBounds_toArray, List.set_cons_zero, List.set_cons_succ]
        refine takeR (i := 5) (x := 15) (v := .int .i64 0) rfl (by kernel_rfl) (by kernel_rfl) (by kernel_rfl) (fun _ _ _ h => h) (fun l w => by simp only [getD_ne (show 5 ≠ 8 by decide)]) (fun l w _ => by go_simp) ?_
        simp only [Act.put, List.setIfInBounds_toArray, List.set_cons_zero, List.set_cons_succ]
        refine takeR (i := 6) (x := 16) (v := .int .i64 4) rfl (by kernel_rfl) (by kernel_rfl) (by kernel_rfl) (fun _ _ _ h => h) (fun l w => by simp only [getD_ne (show 6 ≠ 8 by decide)]) (fun l w _ => by go_simp) ?_
        simp only [Act.put, List.setIfInBounds_toArray, List.set_cons_zero, List.set_cons_succ]
        refine takeR (i := 7) (x := 17) (v := .slice (some ⟨b, o + 4, none⟩) (L - 4) (cap - 4)) rfl (by kernel_rfl) (by kernel_rfl) (by kernel_rfl) (fun _ _ _ h => h) (fun l w => by simp only [getD_ne (show 7 ≠ 8 by decide)]) (fun l w _ => by go_simp) ?_
        simp only [Act.put, List.setIfInBounds_toArray, List.set_cons_zero, List.set_cons_succ]
        refine takeO (i := 8) rfl (by kernel_rfl) rfl fun w2 K2 hw hK => ?_
        obtain rfl := hw.1 (by kernel_rfl)
        refine wp_copy6 rfl (.tmp 12) (.tmp 17) rfl g 0 6 ⟨b, o + 4, none⟩ (L - 4) (cap - 4) rfl rfl (by have := HLL.out; have := HL.out; omega) _ _ HROW.out (ad6 bs 4) HS.out (by simp) ?_
        intro w3 hb3 hg3
        refine hK _ _ ⟨⟨fun h => (by rw [getD_set_eq (by decide)] at h; cases h), fun _ => ⟨(Gro.refl (some g) wr).drew.trans hg3, hb3⟩⟩, wpAnyS_done (by kernel_rfl) fun w4 hw4 => ?_⟩
        simp only [Act.put, List.setIfInBounds_toArray, List.set_cons_zero, List.set_cons_succ]
        have HX := Lib.hid (hw4.2 (getD_set_eq (by decide)))
        clear hb3 hg3 hw hw4 hK
        go_wp2_with fail
        go_roundw
        case rel => exact ⟨1, by decide, by go_num, HGR.out.trans HX.out.1, HX.out.2⟩
        case measure => simp [intOf]
      · have HROW := Lib.hid (show wr.drew.heap[g]? = some (.cells #[.int .u8 (ad6 bs 4).b0, .int .u8 (ad6 bs 4).b1, .int .u8 (ad6 bs 4).b2, .int .u8 (ad6 bs 4).b3, .int .u8 (ad6 bs 4).b4, .int .u8 (ad6 bs 4).b5, .int .u8 0, .int .u8 0, .int .u8 0, .int .u8 0, .int .u8 0, .int .u8 0, .int .u8 0, .int .u8 0, .int .u8 0, .int .u8 0, .int .u8 0, .int .u8 0] 77 (0, 0)) from hrow)
        have HS := Lib.hid (show LieA wr.drew ⟨b, o + 10, none⟩ (adL (ad6 bs 10)) from HLR.out.six 10 (by have := HLL.out; have := HL.out; omega))
        clear hrow HLR
        go_wp2_with fail
        refine wp_region_R (fun l w' => (l.getD 8 false = false → w' = wr.drew) ∧ (l.getD 8 false = true → Gro (some g) wr w' ∧ w'.heap[g]? = some (.cells (addrsRow bs 2) 77 (0, 0)))) (by kernel_rfl) ⟨fun _ => rfl, fun h => absurd h (by decide)⟩ ?_
        refine takeR (i := 0) (x := 10) (v := .int .i64 1) rfl (by kernel_rfl) (by kernel_rfl) (by kernel_rfl) (fun _ _ _ h => h) (fun l w => by simp only [getD_ne (show 0 ≠ 8 by decide)]) (fun l w _ => by go_simp) ?_
        simp only [Act.put, List.setIfInBounds_toArray, List.set_cons_zero, List.set_cons_succ]
        refine takeR (i := 1) (x := 11) (v := .pointer (some ⟨g, 6, none⟩)) rfl (by kernel_rfl) (by kernel_rfl) (by kernel_rfl) (fun _ _ _ h => h) (fun l w => by simp only [getD_ne (show 1 ≠ 8 by decide)]) (fun l w _ => by go_simp) ?_
        simp only [Act.put, List.setIfInBounds_toArray, List.set_cons_zero, List.set_cons_succ]
        refine takeR (i := 2) (x := 12) (v := .slice (some ⟨g, 6, none⟩) 6 6) rfl (by kernel_rfl) (by kernel_rfl) (by kernel_rfl) (fun _ _ _ h => h) (fun l w => by simp only [getD_ne (show 2 ≠ 8 by decide)]) (fun l w _ => by go_simp) ?_
        simp only [Act.put, List.setIfInBounds_toArray, List.set_cons_zero, List.set_cons_succ]
        refine takeR (i := 3) (x := 13) (v := .slice (some ⟨b, o, none⟩) L cap) rfl (by kernel_rfl) (by kernel_rfl) (by kernel_rfl) (fun _ _ _ h => h) (fun l w => by simp only [getD_ne (show 3 ≠ 8 by decide)]) (fun l w _ => by go_simp) ?_
        simp only [Act.put, List.setIfInBounds_toArray, List.set_cons_zero, List.set_cons_succ]
        refine takeR (i := 4) (x := 14) (v := .int .i64 1) rfl (by kernel_rfl) (by kernel_rfl) (by kernel_rfl) (fun _ _ _ h => h) (fun l w => by simp only [getD_ne (show 4 ≠ 8 by decide)]) (fun l w _ => by go_simp) ?_
        simp only [Act.put, List.setIfInBounds_toArray, List.set_cons_zero, List.set_cons_succ]
        refine takeR (i := 5) (x := 15) (v := .int .i64 6) rfl (by kernel_rfl) (by kernel_rfl) (by kernel_rfl) (fun _ _ _ h => h) (fun l w => by simp only [getD_ne (show 5 ≠ 8 by decide)]) (fun l w _ => by go_simp) ?_
        simp only [Act.put, List.setIfInBounds_toArray, List.set_cons_zero, List.set_cons_succ]
        refine takeR (i := 6) (x := 16) (v := .int .i64 10) rfl (by kernel_rfl) (by kernel_rfl) (by kernel_rfl) (fun _ _ _ h => h) (fun l w => by simp only [getD_ne (show 6 ≠ 8 by decide)]) (fun l w _ => by go_simp) ?_
        simp only [Act.put, List.setIfInBounds_toArray, List.set_cons_zero, List.set_cons_succ]
        refine takeR (i := 7) (x := 17) (v := .slice (some ⟨b, o + 10, none⟩) (L - 10) (cap - 10)) rfl (by kernel_rfl) (by kernel_rfl) (by kernel_rfl) (fun _ _ _ h => h) (fun l w => by simp only [getD_ne (show 7 ≠ 8 by decide)]) (fun l w _ => by go_simp) ?_
        simp only [Act.put, List.setIfInBounds_toArray, List.set_cons_zero, List.set_cons_succ]
        refine takeO (i := 8) rfl (by kernel_rfl) rfl fun w2 K2 hw hK => ?_
        obtain rfl := hw.1 (by kernel_rfl)
        refine wp_copy6 rfl (.tmp 12) (.tmp 17) rfl g 6 6 ⟨b, o + 10, none⟩ (L - 10) (cap - 10) rfl rfl (by have := HLL.out; have := HL.out; omega) _ _ HROW.out (ad6 bs 10) HS.out (by simp) ?_
        intro w3 hb3 hg3
        refine hK _ _ ⟨⟨fun h => (by rw [getD_set_eq (by decide)] at h; cases h), fun _ => ⟨(Gro.refl (some g) wr).drew.trans hg3, hb3⟩⟩, wpAnyS_done (by kernel_rfl) fun w4 hw4 => ?_⟩
        simp only [Act.put, List.setIfInBounds_toArray, List.set_cons_zero, List.set_cons_succ]
        have HX := Lib.hid (hw4.2 (getD_set_eq (by decide)))
        clear hb3 hg3 hw hw4 hK
        go_wp2_with fail
        go_roundw
        case rel => exact ⟨2, by decide, by go_num, HGR.out.trans HX.out.1, HX.out.2⟩
        case measure => simp [intOf]
      · have HROW := Lib.hid (show wr.drew.heap[g]? = some (.cells #[.int .u8 (ad6 bs 4).b0, .int .u8 (ad6 bs 4).b1, .int .u8 (ad6 bs 4).b2, .int .u8 (ad6 bs 4).b3, .int .u8 (ad6 bs 4).b4, .int .u8 (ad6 bs 4).b5, .int .u8 (ad6 bs 10).b0, .int .u8 (ad6 bs 10).b1, .int .u8 (ad6 bs 10).b2, .int .u8 (ad6 bs 10).b3, .int .u8 (ad6 bs 10).b4, .int .u8 (ad6 bs 10).b5, .int .u8 0, .int .u8 0, .int .u8 0, .int .u8 0, .int .u8 0, .int .u8 0] 77 (0, 0)) from hrow)
        have HS := Lib.hid (show LieA wr.drew ⟨b, o + 16, none⟩ (adL (ad6 bs 16)) from HLR.out.six 16 (by have := HLL.out; have := HL.out; omega))
        clear hrow HLR
        go_wp2_with fail
        refine wp_region_R (fun l w' => (l.getD 8 false = false → w' = wr.drew) ∧ (l.getD 8 false = true → Gro (some g) wr w' ∧ w'.heap[g]? = some (.cells (addrsRow bs 3) 77 (0, 0)))) (by kernel_rfl) ⟨fun _ => rfl, fun h => absurd h (by decide)⟩ ?_
        refine takeR (i := 0) (x := 10) (v := .int .i64 2) rfl (by kernel_rfl) (by kernel_rfl) (by kernel_rfl) (fun _ _ _ h => h) (fun l w => by simp only [getD_ne (show 0 ≠ 8 by decide)]) (fun l w _ => by go_simp) ?_
        simp only [Act.put, List.setIfInBounds_toArray, List.set_cons_zero, List.set_cons_succ]
        refine takeR (i := 1) (x := 11) (v := .pointer (some ⟨g, 12, none⟩)) rfl (by kernel_rfl) (by kernel_rfl) (by kernel_rfl) (fun _ _ _ h => h) (fun l w => by simp only [getD_ne (show 1 ≠ 8 by decide)]) (fun l w _ => by go_simp) ?_
        simp only [Act.put, List.setIfInBounds_toArray, List.set_cons_zero, List.set_cons_succ]
        refine takeR (i := 2) (x := 12) (v := .slice (some ⟨g, 12, none⟩) 6 6) rfl (by kernel_rfl) (by kernel_rfl) (by kernel_rfl) (fun _ _ _ h => h) (fun l w => by simp only [getD_ne (show 2 ≠ 8 by decide)]) (fun l w _ => by go_simp) ?_
        simp only [Act.put, List.setIfInBounds_toArray, List.set_cons_zero, List.set_cons_succ]
        refine takeR (i := 3) (x := 13) (v := .slice (some ⟨b, o, none⟩) L cap) rfl (by kernel_rfl) (by kernel_rfl) (by kernel_rfl) (fun _ _ _ h => h) (fun l w => by simp only [getD_ne (show 3 ≠ 8 by decide)]) (fun l w _ => by go_simp) ?_
        simp only [Act.put, List.setIfInBounds_toArray, List.set_cons_zero, List.set_cons_succ]
        refine takeR (i := 4) (x := 14) (v := .int .i64 2) rfl (by kernel_rfl) (by kernel_rfl) (by kernel_rfl) (fun _ _ _ h => h) (fun l w => by simp only [getD_ne (show 4 ≠ 8 by decide)]) (fun l w _ => by go_simp) ?_
        simp only [Act.put, List.setIfInBounds_toArray, List.set_cons_zero, List.set_cons_succ]
        refine takeR (i := 5) (x := 15) (v := .int .i64 12) rfl (by kernel_rfl) (by kernel_rfl) (by kernel_rfl) (fun _ _ _ h => h) (fun l w => by simp only [getD_ne (show 5 ≠ 8 by decide)]) (fun l w _ => by go_simp) ?_
        simp only [Act.put, List.setIfInBounds_toArray, List.set_cons_zero, List.set_cons_succ]
        refine takeR (i := 6) (x := 16) (v := .int .i64 16) rfl (by kernel_rfl) (by kernel_rfl) (by kernel_rfl) (fun _ _ _ h => h) (fun l w => by simp only [getD_ne (show 6 ≠ 8 by decide)]) (fun l w _ => by go_simp) ?_
        simp only [Act.put, List.setIfInBounds_toArray, List.set_cons_zero, List.set_cons_succ]
        refine takeR (i := 7) (x := 17) (v := .slice (some ⟨b, o + 16, none⟩) (L - 16) (cap - 16)) rfl (by kernel_rfl) (by kernel_rfl) (by kernel_rfl) (fun _ _ _ h => h) (fun l w => by simp only [getD_ne (show 7 ≠ 8 by decide)]) (fun l w _ => by go_simp) ?_
        simp only [Act.put, List.setIfInBounds_toArray, List.set_cons_zero, List.set_cons_succ]
        refine takeO (i := 8) rfl (by kernel_rfl) rfl fun w2 K2 hw hK => ?_
        obtain rfl := hw.1 (by kernel_rfl)
        refine wp_copy6 rfl (.tmp 12) (.tmp 17) rfl g 12 6 ⟨b, o + 16, none⟩ (L - 16) (cap - 16) rfl rfl (by have := HLL.out; have := HL.out; omega) _ _ HROW.out (ad6 bs 16) HS.out (by simp) ?_
        intro w3 hb3 hg3
        refine hK _ _ ⟨⟨fun h => (by rw [getD_set_eq (by decide)] at h; cases h), fun _ => ⟨(Gro.refl (some g) wr).drew.trans hg3, hb3⟩⟩, wpAnyS_done (by kernel_rfl) fun w4 hw4 => ?_⟩
        simp only [Act.put, List.setIfInBounds_toArray, List.set_cons_zero, List.set_cons_succ]
        have HX := Lib.hid (hw4.2 (getD_set_eq (by decide)))
        clear hb3 hg3 hw hw4 hK
        go_wp2_with fail
        go_roundw
        case rel => exact ⟨3, by decide, by go_num, HGR.out.trans HX.out.1, HX.out.2⟩
        case measure => simp [intOf]
    · obtain rfl : k = 3 := by omega
      have hrow3 : wr.heap[g]? = some (.cells #[.int .u8 (ad6 bs 4).b0, .int .u8 (ad6 bs 4).b1, .int .u8 (ad6 bs 4).b2, .int .u8 (ad6 bs 4).b3, .int .u8 (ad6 bs 4).b4, .int .u8 (ad6 bs 4).b5, .int .u8 (ad6 bs 10).b0, .int .u8 (ad6 bs 10).b1, .int .u8 (ad6 bs 10).b2, .int .u8 (ad6 bs 10).b3, .int .u8 (ad6 bs 10).b4, .int .u8 (ad6 bs 10).b5, .int .u8 (ad6 bs 16).b0, .int .u8 (ad6 bs 16).b1, .int .u8 (ad6 bs 16).b2, .int .u8 (ad6 bs 16).b3, .int .u8 (ad6 bs 16).b4, .int .u8 (ad6 bs 16).b5] 77 (0, 0)) := hrow
      have hx0 := (HGR.out.block _ (blk_lt H0.out.1) (by simp; omega)).trans H0.out.1
      have hx1 := (HGR.out.block _ (blk_lt H0.out.2.1) (by simp; omega)).trans H0.out.2.1
      have hx2 := (HGR.out.block _ (blk_lt H0.out.2.2) (by simp; omega)).trans H0.out.2.2
      have hgw := HG1.out.new_row HGR.out (by omega)
      have HGW := Lib.hid hgw
      have n0 : w.heap.size ≠ g := by omega
      have n1 : B1 ≠ g := by omega
      have n2 : B2 ≠ g := by omega
      have m1 : w.heap.size < B1 := by have := HB.out; omega
      have m2 : B1 < B2 := by have := HB.out; omega
      have HN := Lib.hid (And.intro (And.intro n0 (And.intro n1 n2)) (And.intro m1 m2))
      clear hrow n0 n1 n2 m1 m2
      go_wp2_with fail
      refine wp_region_R (fun l w' => Gro none w w' ∧ w'.heap[g]? = some (.cells #[.int .u8 (ad6 bs 4).b0, .int .u8 (ad6 bs 4).b1, .int .u8 (ad6 bs 4).b2, .int .u8 (ad6 bs 4).b3, .int .u8 (ad6 bs 4).b4, .int .u8 (ad6 bs 4).b5, .int .u8 (ad6 bs 10).b0, .int .u8 (ad6 bs 10).b1, .int .u8 (ad6 bs 10).b2, .int .u8 (ad6 bs 10).b3, .int .u8 (ad6 bs 10).b4, .int .u8 (ad6 bs 10).b5, .int .u8 (ad6 bs 16).b0, .int .u8 (ad6 bs 16).b1, .int .u8 (ad6 bs 16).b2, .int .u8 (ad6 bs 16).b3, .int .u8 (ad6 bs 16).b4, .int .u8 (ad6 bs 16).b5] 77 (0, 0)) ∧ w'.heap[w.heap.size]? = some (.cells (if l.getD 6 false = true then #[.int .u8 (ad6 bs 4).b0, .int .u8 (ad6 bs 4).b1, .int .u8 (ad6 bs 4).b2, .int .u8 (ad6 bs 4).b3, .int .u8 (ad6 bs 4).b4, .int .u8 (ad6 bs 4).b5] else #[.int .u8 0, .int .u8 0, .int .u8 0, .int .u8 0, .int .u8 0, .int .u8 0]) 25 (0, 0)) ∧ w'.heap[B1]? = some (.cells (if l.getD 7 false = true then #[.int .u8 (ad6 bs 10).b0, .int .u8 (ad6 bs 10).b1, .int .u8 (ad6 bs 10).b2, .int .u8 (ad6 bs 10).b3, .int .u8 (ad6 bs 10).b4, .int .u8 (ad6 bs 10).b5] else #[.int .u8 0, .int .u8 0, .int .u8 0, .int .u8 0, .int .u8 0, .int .u8 0]) 25 (0, 0)) ∧ w'.heap[B2]? = some (.cells (if l.getD 8 false = true then #[.int .u8 (ad6 bs 16).b0, .int .u8 (ad6 bs 16).b1, .int .u8 (ad6 bs 16).b2, .int .u8 (ad6 bs 16).b3, .int .u8 (ad6 bs 16).b4, .int .u8 (ad6 bs 16).b5] else #[.int .u8 0, .int .u8 0, .int .u8 0, .int .u8 0, .int .u8 0, .int .u8 0]) 25 (0, 0))) (by kernel_rfl) ⟨hgw.drew, hrow3, hx0, hx1, hx2⟩ ?_
      clear hgw hrow3 hx0 hx1 hx2
      refine takeR (i := 0) (x := 20) (v := .pointer (some ⟨g, 0, none⟩)) rfl (by kernel_rfl) (by kernel_rfl) (by kernel_rfl) (fun _ _ _ h => h) (fun l w => by simp only [getD_ne (show 0 ≠ 6 by decide), getD_ne (show 0 ≠ 7 by decide), getD_ne (show 0 ≠ 8 by decide)]) (fun l w _ => by go_simp) ?_
      simp only [Act.put, List.setIfInBounds_toArray, List.set_cons_zero, List.set_cons_succ]
      refine takeR (i := 1) (x := 21) (v := .agg #[.int .u8 (ad6 bs 4).b0, .int .u8 (ad6 bs 4).b1, .int .u8 (ad6 bs 4).b2, .int .u8 (ad6 bs 4).b3, .int .u8 (ad6 bs 4).b4, .int .u8 (ad6 bs 4).b5]) rfl (by kernel_rfl) (by kernel_rfl) (by kernel_rfl) (fun _ _ _ h => h) (fun l w => by simp only [getD_ne (show 1 ≠ 6 by decide), getD_ne (show 1 ≠ 7 by decide), getD_ne (show 1 ≠ 8 by decide)]) (fun l w' hw => by have c0 := cell_of_row w' g 0 _ _ _ hw.2.1; have c1 := cell_of_row w' g 1 _ _ _ hw.2.1; have c2 := cell_of_row w' g 2 _ _ _ hw.2.1; have c3 := cell_of_row w' g 3 _ _ _ hw.2.1; have c4 := cell_of_row w' g 4 _ _ _ hw.2.1; have c5 := cell_of_row w' g 5 _ _ _ hw.2.1; simp only [List.getElem?_toArray, List.getElem?_cons_zero, List.getElem?_cons_succ] at c0 c1 c2 c3 c4 c5; clear hw; go_simp) ?_
      simp only [Act.put, List.setIfInBounds_toArray, List.set_cons_zero, List.set_cons_succ]
      refine takeR (i := 2) (x := 22) (v := .pointer (some ⟨g, 6, none⟩)) rfl (by kernel_rfl) (by kernel_rfl) (by kernel_rfl) (fun _ _ _ h => h) (fun l w => by simp only [getD_ne (show 2 ≠ 6 by decide), getD_ne (show 2 ≠ 7 by decide), getD_ne (show 2 ≠ 8 by decide)]) (fun l w _ => by go_simp) ?_
      simp only [Act.put, List.setIfInBounds_toArray, List.set_cons_zero, List.set_cons_succ]
      refine takeR (i := 3) (x := 23) (v := .agg #[.int .u8 (ad6 bs 10).b0, .int .u8 (ad6 bs 10).b1, .int .u8 (ad6 bs 10).b2, .int .u8 (ad6 bs 10).b3, .int .u8 (ad6 bs 10).b4, .int .u8 (ad6 bs 10).b5]) rfl (by kernel_rfl) (by kernel_rfl) (by kernel_rfl) (fun _ _ _ h => h) (fun l w => by simp only [getD_ne (show 3 ≠ 6 by decide), getD_ne (show 3 ≠ 7 by decide), getD_ne (show 3 ≠ 8 by decide)]) (fun l w' hw => by have c0 := cell_of_row w' g 6 _ _ _ hw.2.1; have c1 := cell_of_row w' g 7 _ _ _ hw.2.1; have c2 := cell_of_row w' g 8 _ _ _ hw.2.1; have c3 := cell_of_row w' g 9 _ _ _ hw.2.1; have c4 := cell_of_row w' g 10 _ _ _ hw.2.1; have c5 := cell_of_row w' g 11 _ _ _ hw.2.1; simp only [List.getElem?_toArray, List.getElem?_cons_zero, List.getElem?_cons_succ] at c0 c1 c2 c3 c4 c5; clear hw; go_simp) ?_
      simp only [Act.put, List.setIfInBounds_toArray, List.set_cons_zero, List.set_cons_succ]
      refine takeR (i := 4) (x := 24) (v := .pointer (some ⟨g, 12, none⟩)) rfl (by kernel_rfl) (by kernel_rfl) (by kernel_rfl) (fun _ _ _ h => h) (fun l w => by simp only [getD_ne (show 4 ≠ 6 by decide), getD_ne (show 4 ≠ 7 by decide), getD_ne (show 4 ≠ 8 by decide)]) (fun l w _ => by go_simp) ?_
      simp only [Act.put, List.setIfInBounds_toArray, List.set_cons_zero, List.set_cons_succ]
      refine takeR (i := 5) (x := 25) (v := .agg #[.int .u8 (ad6 bs 16).b0, .int .u8 (ad6 bs 16).b1, .int .u8 (ad6 bs 16).b2, .int .u8 (ad6 bs 16).b3, .int .u8 (ad6 bs 16).b4, .int .u8 (ad6 bs 16).b5]) rfl (by kernel_rfl) (by kernel_rfl) (by kernel_rfl) (fun _ _ _ h => h) (fun l w => by simp only [getD_ne (show 5 ≠ 6 by decide), getD_ne (show 5 ≠ 7 by decide), getD_ne (show 5 ≠ 8 by decide)]) (fun l w' hw => by have c0 := cell_of_row w' g 12 _ _ _ hw.2.1; have c1 := cell_of_row w' g 13 _ _ _ hw.2.1; have c2 := cell_of_row w' g 14 _ _ _ hw.2.1; have c3 := cell_of_row w' g 15 _ _ _ hw.2.1; have c4 := cell_of_row w' g 16 _ _ _ hw.2.1; have c5 := cell_of_row w' g 17 _ _ _ hw.2.1; simp only [List.getElem?_toArray, List.getElem?_cons_zero, List.getElem?_cons_succ] at c0 c1 c2 c3 c4 c5; clear hw; go_simp) ?_
      simp only [Act.put, List.setIfInBounds_toArray, List.set_cons_zero, List.set_cons_succ]
      refine takeSR (i := 6) w.heap.size #[.int .u8 0, .int .u8 0, .int .u8 0, .int .u8 0, .int .u8 0, .int .u8 0] #[.int .u8 (ad6 bs 4).b0, .int .u8 (ad6 bs 4).b1, .int .u8 (ad6 bs 4).b2, .int .u8 (ad6 bs 4).b3, .int .u8 (ad6 bs 4).b4, .int .u8 (ad6 bs 4).b5] 25 rfl (by kernel_rfl) rfl rfl (fun w' hw => hw.2.2.1) rfl (by kernel_rfl) (by simp [Value.oneCell']) (fun w' w'' hw hG hrow => ⟨hw.1.new_row hG (Nat.le_refl _), hG.block g (blk_lt hw.2.1) (by have := HN.out; simp; omega) |>.trans hw.2.1, hrow, (hG.block B1 (blk_lt (hw.2.2.2.1)) (by have := HN.out; simp; omega)).trans (hw.2.2.2.1), (hG.block B2 (blk_lt (hw.2.2.2.2)) (by have := HN.out; simp; omega)).trans (hw.2.2.2.2)⟩) ?_
      refine takeSR (i := 7) B1 #[.int .u8 0, .int .u8 0, .int .u8 0, .int .u8 0, .int .u8 0, .int .u8 0] #[.int .u8 (ad6 bs 10).b0, .int .u8 (ad6 bs 10).b1, .int .u8 (ad6 bs 10).b2, .int .u8 (ad6 bs 10).b3, .int .u8 (ad6 bs 10).b4, .int .u8 (ad6 bs 10).b5] 25 rfl (by kernel_rfl) rfl rfl (fun w' hw => hw.2.2.2.1) rfl (by kernel_rfl) (by simp [Value.oneCell']) (fun w' w'' hw hG hrow => ⟨hw.1.new_row hG ((by have := HN.out; omega)), hG.block g (blk_lt hw.2.1) (by have := HN.out; simp; omega) |>.trans hw.2.1, (hG.block w.heap.size (blk_lt (hw.2.2.1)) (by have := HN.out; simp; omega)).trans (hw.2.2.1), hrow, (hG.block B2 (blk_lt (hw.2.2.2.2)) (by have := HN.out; simp; omega)).trans (hw.2.2.2.2)⟩) ?_
      refine takeSR (i := 8) B2 #[.int .u8 0, .int .u8 0, .int .u8 0, .int .u8 0, .int .u8 0, .int .u8 0] #[.int .u8 (ad6 bs 16).b0, .int .u8 (ad6 bs 16).b1, .int .u8 (ad6 bs 16).b2, .int .u8 (ad6 bs 16).b3, .int .u8 (ad6 bs 16).b4, .int .u8 (ad6 bs 16).b5] 25 rfl (by kernel_rfl) rfl rfl (fun w' hw => hw.2.2.2.2) rfl (by kernel_rfl) (by simp [Value.oneCell']) (fun w' w'' hw hG hrow => ⟨hw.1.new_row hG ((by have := HN.out; omega)), hG.block g (blk_lt hw.2.1) (by have := HN.out; simp; omega) |>.trans hw.2.1, (hG.block w.heap.size (blk_lt (hw.2.2.1)) (by have := HN.out; simp; omega)).trans (hw.2.2.1), (hG.block B1 (blk_lt (hw.2.2.2.1)) (by have := HN.out; simp; omega)).trans (hw.2.2.2.1), hrow⟩) ?_
      refine wpAnyS_done (by kernel_rfl) fun w5 hw5 => ?_
      have hy0 : w5.heap[w.heap.size]? = some (.cells #[.int .u8 (ad6 bs 4).b0, .int .u8 (ad6 bs 4).b1, .int .u8 (ad6 bs 4).b2, .int .u8 (ad6 bs 4).b3, .int .u8 (ad6 bs 4).b4, .int .u8 (ad6 bs 4).b5] 25 (0, 0)) := hw5.2.2.1
      have hy1 : w5.heap[B1]? = some (.cells #[.int .u8 (ad6 bs 10).b0, .int .u8 (ad6 bs 10).b1, .int .u8 (ad6 bs 10).b2, .int .u8 (ad6 bs 10).b3, .int .u8 (ad6 bs 10).b4, .int .u8 (ad6 bs 10).b5] 25 (0, 0)) := hw5.2.2.2.1
      have hy2 : w5.heap[B2]? = some (.cells #[.int .u8 (ad6 bs 16).b0, .int .u8 (ad6 bs 16).b1, .int .u8 (ad6 bs 16).b2, .int .u8 (ad6 bs 16).b3, .int .u8 (ad6 bs 16).b4, .int .u8 (ad6 bs 16).b5] 25 (0, 0)) := hw5.2.2.2.2
      have HG5 := Lib.hid hw5.1
      have d0 := cell_of_row w5 w.heap.size 0 _ _ _ hy0
      have d1 := cell_of_row w5 w.heap.size 1 _ _ _ hy0
      have d2 := cell_of_row w5 w.heap.size 2 _ _ _ hy0
      have d3 := cell_of_row w5 w.heap.size 3 _ _ _ hy0
      have d4 := cell_of_row w5 w.heap.size 4 _ _ _ hy0
      have d5 := cell_of_row w5 w.heap.size 5 _ _ _ hy0
      have d6 := cell_of_row w5 B1 0 _ _ _ hy1
      have d7 := cell_of_row w5 B1 1 _ _ _ hy1
      have d8 := cell_of_row w5 B1 2 _ _ _ hy1
      have d9 := cell_of_row w5 B1 3 _ _ _ hy1
      have d10 := cell_of_row w5 B1 4 _ _ _ hy1
      have d11 := cell_of_row w5 B1 5 _ _ _ hy1
      have d12 := cell_of_row w5 B2 0 _ _ _ hy2
      have d13 := cell_of_row w5 B2 1 _ _ _ hy2
      have d14 := cell_of_row w5 B2 2 _ _ _ hy2
      have d15 := cell_of_row w5 B2 3 _ _ _ hy2
      have d16 := cell_of_row w5 B2 4 _ _ _ hy2
      have d17 := cell_of_row w5 B2 5 _ _ _ hy2
      simp only [List.getElem?_toArray, List.getElem?_cons_zero, List.getElem?_cons_succ] at d0 d1 d2 d3 d4 d5 d6 d7 d8 d9 d10 d11 d12 d13 d14 d15 d16 d17
      clear hw5 hy0 hy1 hy2
      (try go_wp2_with fail)
      (try simp only [Exit.inBlock, Exit.then])
      refine bodyPost_ret (by simp [results, Tryd.results27, go_sem, d0, d1, d2, d3, d4, d5, d6, d7, d8, d9, d10, d11, d12, d13, d14, d15, d16, d17]; try rfl) rfl ?_
      exact ⟨rfl, HG5.out⟩
end Go.Proofs.YtflckkeaakmojaaDoor
