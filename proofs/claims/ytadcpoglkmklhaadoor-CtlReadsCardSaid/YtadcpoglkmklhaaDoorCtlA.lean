/-
  THE WALKS OF package ctl, READING: number, asked. Conditions: the bytes lie where the slice says ('Lie').
-/
import Derived.Test.YtadcpoglkmklhaaDoorCtlR
import Derived.Test.YtadcpoglkmklhaaDoorEqual
import Derived.Deep.RegionLaw
namespace Go.Proofs.YtadcpoglkmklhaaDoor
open Go.RowKit

theorem blk_lt {w : World} {b : Nat} {o : Obj} (h : w.heap[b]? = some o) : b < w.heap.size := by
  rcases Nat.lt_or_ge b w.heap.size with h' | h'
  · exact h'
  · rw [Array.getElem?_eq_none h'] at h; cases h
theorem number_at2 (b o n cap : Nat) (x y : Int) (w : World) (hn : 2 ≤ n) (hx : w.cell? ⟨b, o, none⟩ = some (.int .u8 x)) (hy : w.cell? ⟨b, o + 1, none⟩ = some (.int .u8 y)) (hx0 : 0 ≤ x ∧ x < 256) (hy0 : 0 ≤ y ∧ y < 256) :
    Calls Tryd.prog 40 #[.slice (some ⟨b, o, none⟩) n cap] w fun e w' => e = .returned (.int .i64 (x + 256 * y)) ∧ ∃ m, w.drewN m = w' := by
  have h0 : 0 < n := by omega
  have h1 : 1 < n := by omega
  have HO := Lib.hid (or_two x y hx0 hy0)
  obtain ⟨hx0, hx1⟩ := hx0
  obtain ⟨hy0, hy1⟩ := hy0
  go_enter Tryd.func40, Tryd.ntmps40
  go_wp2_with fail
  go_quiet (fail)
  all_goals (try go_wp2)
  all_goals go_ret
  all_goals exact ⟨ret_int HO.out, _, rfl⟩

/-- The number that two bytes are. -/
def num2 (bs : List Int) (i : Nat) : Int := bs.getD i 0 + 256 * bs.getD (i + 1) 0
def ad6 (bs : List Int) (i : Nat) : Ad := ⟨bs.getD i 0, bs.getD (i + 1) 0, bs.getD (i + 2) 0, bs.getD (i + 3) 0, bs.getD (i + 4) 0, bs.getD (i + 5) 0⟩

set_option maxHeartbeats 4000000 in
set_option maxRecDepth 100000 in
theorem asked_any (b o cap : Nat) (bs : List Int) (w : World) (hl : 20 ≤ bs.length) (hc : bs.length ≤ cap) (h : Lie w (some ⟨b, o, none⟩) bs) (hb : Bytes bs) :
    Calls Tryd.prog 37 #[.slice (some ⟨b, o, none⟩) bs.length cap] w fun e w' => e = .returned (barV (ad6 bs 4) (ad6 bs 10) (num2 bs 16 / 4096) (num2 bs 18 / 16)) ∧ Gro none w w' := by
  have HN : Hid (∀ w', Gro none w w' → ∀ (n c i : Nat), i + 1 < bs.length → 2 ≤ n → Calls Tryd.prog 40 #[.slice (some ⟨b, o + i, none⟩) n c] w' fun e w'' => e = .returned (.int .i64 (num2 bs i)) ∧ ∃ m, w'.drewN m = w'') := fun w' k n c i hi hn => number_at2 b (o + i) n c (bs.getD i 0) (bs.getD (i + 1) 0) w' hn
    (by obtain ⟨b', o', e, hc⟩ := h.gro k (by simp) i (by omega); cases e; exact hc) (by obtain ⟨b', o', e, hc⟩ := h.gro k (by simp) (i + 1) (by omega); cases e; exact hc) (hb i) (hb (i + 1))
  obtain ⟨p0, p1⟩ : 0 ≤ num2 bs 16 ∧ num2 bs 16 < 65536 := by have := hb 16; have := hb (16 + 1); unfold num2; omega
  have e16 : (num2 bs 16).tdiv 4096 = num2 bs 16 / 4096 := Int.tdiv_eq_ediv_of_nonneg p0
  have f16 : 0 ≤ num2 bs 16 / 4096 := Int.ediv_nonneg p0 (by decide)
  have g16 : num2 bs 16 / 4096 < 16 := by omega
  obtain ⟨q0, q1⟩ : 0 ≤ num2 bs 18 ∧ num2 bs 18 < 65536 := by have := hb 18; have := hb (18 + 1); unfold num2; omega
  have e18 : (num2 bs 18).tdiv 16 = num2 bs 18 / 16 := Int.tdiv_eq_ediv_of_nonneg q0
  have f18 : 0 ≤ num2 bs 18 / 16 := Int.ediv_nonneg q0 (by decide)
  have g18 : num2 bs 18 / 16 < 4096 := by omega
  generalize hT : num2 bs 16 / 4096 = T at *
  generalize hS : num2 bs 18 / 16 = S at *
  clear hT hS
  have w16 : IntKind.i64.wrap T = T := by simp [IntKind.wrap, IntKind.bits, IntKind.signed]; omega
  have w18 : IntKind.i64.wrap S = S := by simp [IntKind.wrap, IntKind.bits, IntKind.signed]; omega
  have n1 : 16 ≤ bs.length := by omega
  have n2 : 18 ≤ bs.length := by omega
  have n3 : 4 ≤ bs.length := by omega
  have n4 : 10 ≤ bs.length := by omega
  generalize hL : bs.length = L at *
  have HLL := Lib.hid hL
  have i1 : (16 : Int) ≤ (L : Int) := by omega
  have i2 : (18 : Int) ≤ (L : Int) := by omega
  have i3 : (L : Int) ≤ (cap : Int) := by omega
  have i4 : (16 : Int) ≤ (cap : Int) := by omega
  have i5 : (18 : Int) ≤ (cap : Int) := by omega
  have i6 : (4 : Int) ≤ (L : Int) := by omega
  have i7 : (10 : Int) ≤ (L : Int) := by omega
  have i8 : (4 : Int) ≤ (cap : Int) := by omega
  have i9 : (10 : Int) ≤ (cap : Int) := by omega
  have d1 : ¬ cap = 16 := by omega
  have d2 : ¬ cap = 18 := by omega
  have d3 : ¬ cap = 4 := by omega
  have d4 : ¬ cap = 10 := by omega
  clear hL
  have HN16 : Hid (∀ w', Gro none w w' → Calls Tryd.prog 40 #[.slice (some ⟨b, o + 16, none⟩) (L - 16) (cap - 16)] w' fun e w'' => e = .returned (.int .i64 (num2 bs 16)) ∧ ∃ m, w'.drewN m = w'') := fun w' k => HN.out w' k _ _ 16 (by have := HLL.out; omega) (by omega)
  have HN18 : Hid (∀ w', Gro none w w' → Calls Tryd.prog 40 #[.slice (some ⟨b, o + 18, none⟩) (L - 18) (cap - 18)] w' fun e w'' => e = .returned (.int .i64 (num2 bs 18)) ∧ ∃ m, w'.drewN m = w'') := fun w' k => HN.out w' k _ _ 18 (by have := HLL.out; omega) (by omega)
  clear HN
  go_enter Tryd.func37, Tryd.ntmps37
  go_wp2_with fail
  have hg1 : Gro none w (w.alloc (.cells #[.int .u8 0, .int .u8 0, .int .u8 0, .int .u8 0, .int .u8 0, .int .u8 0, .int .u8 0, .int .u8 0, .int .u8 0, .int .u8 0, .int .u8 0, .int .u8 0, .int .i64 0, .int .i64 0] 25)) := (Gro.refl _ _).alloc _
  have hz1 := heap_alloc_new w (.cells #[.int .u8 0, .int .u8 0, .int .u8 0, .int .u8 0, .int .u8 0, .int .u8 0, .int .u8 0, .int .u8 0, .int .u8 0, .int .u8 0, .int .u8 0, .int .u8 0, .int .i64 0, .int .i64 0] 25)
  have hs1 : (w.alloc (.cells #[.int .u8 0, .int .u8 0, .int .u8 0, .int .u8 0, .int .u8 0, .int .u8 0, .int .u8 0, .int .u8 0, .int .u8 0, .int .u8 0, .int .u8 0, .int .u8 0, .int .i64 0, .int .i64 0] 25)).heap.size = w.heap.size + 1 := by simp
  have hnew : ∀ (W : World) (o : Obj), W.heap.size = w.heap.size + 1 → (W.alloc o).heap[w.heap.size + 1]? = some o := fun W o e => e ▸ heap_alloc_new W o
  generalize w.alloc (.cells #[.int .u8 0, .int .u8 0, .int .u8 0, .int .u8 0, .int .u8 0, .int .u8 0, .int .u8 0, .int .u8 0, .int .u8 0, .int .u8 0, .int .u8 0, .int .u8 0, .int .i64 0, .int .i64 0] 25) = w1 at *
  have HG1 := Lib.hid hg1
  have HZ1 := Lib.hid hz1
  clear hg1 hz1
  go_region_held3 (fun w' => Gro none w1 w') ((repeat (first | with_reducible assumption | with_reducible exact Gro.refl _ _ | with_reducible refine Gro.drewN ?_ _ | with_reducible refine Gro.drew ?_ | with_reducible refine Gro.alloc ?_ _ | with_reducible refine Gro.setNew ?_ (Nat.le_of_eq hs1) _))) (first | (go_at_call 40; with_reducible refine (HN16.out _ (HG1.out.trans (by assumption))).mono ?_; rintro e w' ⟨rfl, m, rfl⟩) | (go_at_call 40; with_reducible refine (HN18.out _ (HG1.out.trans (by assumption))).mono ?_; rintro e w' ⟨rfl, m, rfl⟩))
  all_goals
    refine gen_world (fun W' => Gro none w1 W' ∧ W'.heap[w.heap.size + 1]? = some (.cells [.int .u8 0, .int .u8 0, .int .u8 0, .int .u8 0, .int .u8 0, .int .u8 0, .int .u8 0, .int .u8 0, .int .u8 0, .int .u8 0, .int .u8 0, .int .u8 0, .int .i64 T, .int .i64 S].toArray 25 (0, 0))) ⟨?hA, ?hB⟩ ?hC
    case hA => repeat (first | with_reducible assumption | with_reducible exact Gro.refl _ _ | with_reducible refine Gro.drewN ?_ _ | with_reducible refine Gro.drew ?_ | with_reducible refine Gro.alloc ?_ _ | with_reducible refine Gro.setNew ?_ (Nat.le_of_eq hs1) _)
    case hB =>
      (try with_reducible refine store14 _ _ _ (.int .u8 0) (.int .u8 0) (.int .u8 0) (.int .u8 0) (.int .u8 0) (.int .u8 0) (.int .u8 0) (.int .u8 0) (.int .u8 0) (.int .u8 0) (.int .u8 0) (.int .u8 0) (.int .i64 0) (.int .i64 0)  _ _ _ _ _ _ _ _ _ _ _ _ _ _ ?_)
      (try rw [World.heap_drewN])
      with_reducible refine hnew _ _ ?_
      simp [hs1]
    case hC =>
      rintro W2 ⟨hg2, hb2⟩
      have hbw : b < w.heap.size := h.lt (by have := HLL.out; omega)
      have HX := Lib.hid (And.intro (h.gro (HG1.out.trans hg2) (by simp)) (And.intro hg2 hb2))
      have HZ2 := Lib.hid ((hg2.block w.heap.size (by omega) (by simp)).trans HZ1.out)
      clear hg2 hb2
      go_wp2_with fail
      go_region_law ((refine step_copy6 rfl (.tmp 14) (.tmp 16) (by rfl) (w.heap.size + 1) 0 6 ⟨b, o + 4, none⟩ (L - 4) (cap - 4) (by rfl) (by rfl) (by omega) _ _ HX.out.2.2 (ad6 bs 4) (HX.out.1.six 4 (by have := HLL.out; omega)) (by simp) ?_; intro w3 hb3 hg3))
      have HX3 := Lib.hid (And.intro (Lie.gro (w := W2.drew) (row := some (w.heap.size + 1)) HX.out.1 hg3 (by intro a e; cases e; intro h; have h := Option.some.inj h; simp only at h; omega)) (And.intro hg3 hb3))
      have HZ3 := Lib.hid ((hg3.block w.heap.size (blk_lt HZ2.out) (by simp)).trans HZ2.out)
      clear hg3 hb3
      go_wp2_with fail
      go_region_law ((refine step_copy6 rfl (.tmp 19) (.tmp 21) (by rfl) (w.heap.size + 1) 6 6 ⟨b, o + 10, none⟩ (L - 10) (cap - 10) (by rfl) (by rfl) (by omega) _ _ HX3.out.2.2 (ad6 bs 10) (HX3.out.1.six 10 (by have := HLL.out; omega)) (by simp [splice, adL]) ?_; intro w4 hb4 hg4))
      have hz4 := (hg4.block w.heap.size (blk_lt HZ3.out) (by simp)).trans HZ3.out
      have hb5 : w4.heap[w.heap.size + 1]? = some (.cells #[.int .u8 (ad6 bs 4).b0, .int .u8 (ad6 bs 4).b1, .int .u8 (ad6 bs 4).b2, .int .u8 (ad6 bs 4).b3, .int .u8 (ad6 bs 4).b4, .int .u8 (ad6 bs 4).b5, .int .u8 (ad6 bs 10).b0, .int .u8 (ad6 bs 10).b1, .int .u8 (ad6 bs 10).b2, .int .u8 (ad6 bs 10).b3, .int .u8 (ad6 bs 10).b4, .int .u8 (ad6 bs 10).b5, .int .i64 T, .int .i64 S] 25 (0, 0)) := hb4
      have hz5 := hz4
      have hf : ∀ j, w4.frozen? ⟨w.heap.size, j, none⟩ = false := fun j => frozen_of_row w4 w.heap.size j _ _ hz5
      have c0 := cell_of_row w4 (w.heap.size + 1) 0 _ _ _ hb5
      have c1 := cell_of_row w4 (w.heap.size + 1) 1 _ _ _ hb5
      have c2 := cell_of_row w4 (w.heap.size + 1) 2 _ _ _ hb5
      have c3 := cell_of_row w4 (w.heap.size + 1) 3 _ _ _ hb5
      have c4 := cell_of_row w4 (w.heap.size + 1) 4 _ _ _ hb5
      have c5 := cell_of_row w4 (w.heap.size + 1) 5 _ _ _ hb5
      have c6 := cell_of_row w4 (w.heap.size + 1) 6 _ _ _ hb5
      have c7 := cell_of_row w4 (w.heap.size + 1) 7 _ _ _ hb5
      have c8 := cell_of_row w4 (w.heap.size + 1) 8 _ _ _ hb5
      have c9 := cell_of_row w4 (w.heap.size + 1) 9 _ _ _ hb5
      have c10 := cell_of_row w4 (w.heap.size + 1) 10 _ _ _ hb5
      have c11 := cell_of_row w4 (w.heap.size + 1) 11 _ _ _ hb5
      have c12 := cell_of_row w4 (w.heap.size + 1) 12 _ _ _ hb5
      have c13 := cell_of_row w4 (w.heap.size + 1) 13 _ _ _ hb5
      have z0 := cell_of_row w4 w.heap.size 0 _ _ _ hz5
      have z1 := cell_of_row w4 w.heap.size 1 _ _ _ hz5
      have z2 := cell_of_row w4 w.heap.size 2 _ _ _ hz5
      have z3 := cell_of_row w4 w.heap.size 3 _ _ _ hz5
      have z4 := cell_of_row w4 w.heap.size 4 _ _ _ hz5
      have z5 := cell_of_row w4 w.heap.size 5 _ _ _ hz5
      have z6 := cell_of_row w4 w.heap.size 6 _ _ _ hz5
      have z7 := cell_of_row w4 w.heap.size 7 _ _ _ hz5
      have z8 := cell_of_row w4 w.heap.size 8 _ _ _ hz5
      have z9 := cell_of_row w4 w.heap.size 9 _ _ _ hz5
      have z10 := cell_of_row w4 w.heap.size 10 _ _ _ hz5
      have z11 := cell_of_row w4 w.heap.size 11 _ _ _ hz5
      have z12 := cell_of_row w4 w.heap.size 12 _ _ _ hz5
      have z13 := cell_of_row w4 w.heap.size 13 _ _ _ hz5
      simp only [List.getElem?_toArray, List.getElem?_cons_zero, List.getElem?_cons_succ] at c0 c1 c2 c3 c4 c5 c6 c7 c8 c9 c10 c11 c12 c13 z0 z1 z2 z3 z4 z5 z6 z7 z8 z9 z10 z11 z12 z13
      have HZ5 := Lib.hid hz5
      have HF := Lib.hid (And.intro (HG1.out.trans HX.out.2.1) (And.intro HX3.out.2.1 hg4))
      clear hg4 hz4 hz5 hb4 hb5
      go_wp2_with fail
      refine gen_world (fun W' => Gro (some w.heap.size) w4 W' ∧ W'.heap[w.heap.size]? = some (.cells #[.int .u8 (ad6 bs 4).b0, .int .u8 (ad6 bs 4).b1, .int .u8 (ad6 bs 4).b2, .int .u8 (ad6 bs 4).b3, .int .u8 (ad6 bs 4).b4, .int .u8 (ad6 bs 4).b5, .int .u8 (ad6 bs 10).b0, .int .u8 (ad6 bs 10).b1, .int .u8 (ad6 bs 10).b2, .int .u8 (ad6 bs 10).b3, .int .u8 (ad6 bs 10).b4, .int .u8 (ad6 bs 10).b5, .int .i64 T, .int .i64 S] 25 (0, 0))) ⟨?_, ?_⟩ ?_
      · repeat (first | with_reducible exact Gro.refl _ _ | with_reducible refine Gro.setCell ?_ _ _)
      · with_reducible refine store14 _ _ _ (.int .u8 0) (.int .u8 0) (.int .u8 0) (.int .u8 0) (.int .u8 0) (.int .u8 0) (.int .u8 0) (.int .u8 0) (.int .u8 0) (.int .u8 0) (.int .u8 0) (.int .u8 0) (.int .i64 0) (.int .i64 0)  _ _ _ _ _ _ _ _ _ _ _ _ _ _ HZ5.out
      clear c0 c1 c2 c3 c4 c5 c6 c7 c8 c9 c10 c11 c12 c13 z0 z1 z2 z3 z4 z5 z6 z7 z8 z9 z10 z11 z12 z13 hf
      rintro w6 ⟨hg6, hz6⟩
      have c0 := cell_of_row w6 w.heap.size 0 _ _ _ hz6
      have c1 := cell_of_row w6 w.heap.size 1 _ _ _ hz6
      have c2 := cell_of_row w6 w.heap.size 2 _ _ _ hz6
      have c3 := cell_of_row w6 w.heap.size 3 _ _ _ hz6
      have c4 := cell_of_row w6 w.heap.size 4 _ _ _ hz6
      have c5 := cell_of_row w6 w.heap.size 5 _ _ _ hz6
      have c6 := cell_of_row w6 w.heap.size 6 _ _ _ hz6
      have c7 := cell_of_row w6 w.heap.size 7 _ _ _ hz6
      have c8 := cell_of_row w6 w.heap.size 8 _ _ _ hz6
      have c9 := cell_of_row w6 w.heap.size 9 _ _ _ hz6
      have c10 := cell_of_row w6 w.heap.size 10 _ _ _ hz6
      have c11 := cell_of_row w6 w.heap.size 11 _ _ _ hz6
      have c12 := cell_of_row w6 w.heap.size 12 _ _ _ hz6
      have c13 := cell_of_row w6 w.heap.size 13 _ _ _ hz6
      simp only [List.getElem?_toArray, List.getElem?_cons_zero, List.getElem?_cons_succ] at c0 c1 c2 c3 c4 c5 c6 c7 c8 c9 c10 c11 c12 c13
      have HG6 := Lib.hid hg6
      clear hg6 hz6
      (try simp only [Exit.inBlock, Exit.then])
      refine bodyPost_ret (by simp [results, Tryd.results37, go_sem, c0, c1, c2, c3, c4, c5, c6, c7, c8, c9, c10, c11, c12, c13]; try rfl) rfl ?_
      refine ⟨rfl, ?_⟩
      have h1 := HF.out
      have h6 := HG6.out
      refine ⟨h6.os.trans (h1.2.2.os.trans (h1.2.1.os.trans h1.1.os)), h6.output.trans (h1.2.2.output.trans (h1.2.1.output.trans h1.1.output)), Nat.le_trans h1.1.size (Nat.le_trans h1.2.1.size (Nat.le_trans h1.2.2.size h6.size)), fun k hk _ => ?_⟩
      have k1 := h1.1.block k hk (by simp)
      have s1 := h1.1.size
      have s2 : W2.heap.size ≤ w3.heap.size := h1.2.1.size
      have s3 : w3.heap.size ≤ w4.heap.size := h1.2.2.size
      have k2 : w3.heap[k]? = W2.heap[k]? := h1.2.1.block k (Nat.lt_of_lt_of_le hk s1) (by simp; omega)
      have k3 : w4.heap[k]? = w3.heap[k]? := h1.2.2.block k (Nat.lt_of_lt_of_le hk (Nat.le_trans s1 s2)) (by simp; omega)
      exact (h6.block k (Nat.lt_of_lt_of_le hk (Nat.le_trans s1 (Nat.le_trans s2 s3))) (by simp; omega)).trans (k3.trans (k2.trans k1))
end Go.Proofs.YtadcpoglkmklhaaDoor
