/-
  THE WALK OF tim.Read, bytes that are an element at the first look. Conditions: the bytes lie where the slice says; four sentinels' own.
-/
import Derived.Test.YtchoeafkjgcmbaaDoorTimR
namespace Go.Proofs.YtchoeafkjgcmbaaDoor
open Go.RowKit

def OwnI (B : Nat) (w : World) (v : Value) (xs : List Int) : Prop := w.ownsRow B 3 1 v xs.length (xs.map (Value.int .i64))
theorem OwnI.weak {B B' : Nat} {w : World} {v : Value} {xs : List Int} (h : OwnI B w v xs) (hB : B' ≤ B) : OwnI B' w v xs := by
  obtain ⟨h1, h2⟩ := h
  refine ⟨h1, ?_⟩
  rcases h2 with h2 | ⟨g, cap, cur, h2, h3, h4⟩
  · exact .inl h2
  · exact .inr ⟨g, cap, cur, h2, by omega, h4⟩
theorem OwnI.gro {B : Nat} {row : Option Nat} {w w' : World} {v : Value} {xs : List Int} (h : OwnI B w v xs) (k : Gro row w w') (hr : ∀ g, row = some g → g < B) : OwnI B w' v xs := by
  obtain ⟨h1, h2⟩ := h
  refine ⟨h1, ?_⟩
  rcases h2 with h2 | ⟨g, cap, cur, h2, h3, h4, h5⟩
  · exact .inl h2
  · have hlt : g < w.heap.size := blk_in h4
    exact .inr ⟨g, cap, cur, h2, h3, (k.block g hlt (fun e => by have := hr g e.symm; omega)).trans h4, h5⟩
theorem OwnI.lie {B : Nat} {w : World} {v : Value} {xs : List Int} (h : OwnI B w v xs) : ∃ p cap, v = .slice p xs.length cap ∧ LieI w p xs := by
  obtain ⟨h1, h2⟩ := h
  rcases h2 with ⟨rfl, h0⟩ | ⟨g, cap, cur, rfl, h3, h4, h5, h6, h7, h8⟩
  · rw [h0]
    exact ⟨none, 0, rfl, fun k hk => by omega⟩
  · refine ⟨_, cap, rfl, fun k hk => ⟨g, 0, rfl, ?_⟩⟩
    rw [cell_of_row _ _ _ _ _ _ h4, Nat.zero_add]
    have : (cur.toList.take (xs.length * 1))[k]? = some (.int .i64 (xs.getD k 0)) := by
      rw [h8, List.getElem?_map, List.getElem?_eq_getElem hk]
      simp [List.getD_eq_getElem?_getD, List.getElem?_eq_getElem hk]
    rw [List.getElem?_take] at this
    split at this
    · simpa using this
    · cases this
theorem Gro.grownR {w wr w' : World} {row own : Option Nat} (h : Gro row w wr) (k : wr.grownBy w' own) (hr : ∀ g, own = some g → w.heap.size ≤ g) : Gro row w w' :=
  ⟨k.os.trans h.os, k.output.trans h.output, Nat.le_trans h.size k.size, fun i hi hne => (k.block i (Nat.lt_of_lt_of_le hi h.size) (fun e => by have := hr i e.symm; omega)).trans (h.block i hi hne)⟩
theorem info_int : ∃ i, Tryd.prog.info? 3 = some i ∧ i.zero = some (.int .i64 0) ∧ i.size = 1 ∧ i.bytes = 8 :=
  have h := Option.map_eq_some_iff.1 (show (Tryd.prog.info? 3).map (fun i => (i.zero, i.size, i.bytes)) = some (some (.int .i64 0), 1, 8) by kernel_rfl)
  by
    obtain ⟨i, h1, h2⟩ := h
    simp at h2
    exact ⟨i, h1, h2.1, h2.2.1, h2.2.2⟩
set_option maxRecDepth 100000 in
theorem and_u8 : ∀ n : Nat, n < 256 → bits .and .u8 (n : Int) 1 = ((n % 2 : Nat) : Int) := by decide
set_option maxRecDepth 100000 in
theorem even_u8 : ∀ n : Nat, n < 256 → bits .andNot .u8 (n : Int) 1 = ((n / 2 * 2 : Nat) : Int) := by decide

theorem bit_u8 (y j : Nat) (hy : y < 256) : bits .and .u8 ((y : Int) / 2 ^ j) 1 = if y.testBit j then 1 else 0 := by
  have e : (y : Int) / 2 ^ j = ((y / 2 ^ j : Nat) : Int) := by
    have h : ((2 ^ j : Nat) : Int) = (2 : Int) ^ j := Int.natCast_pow 2 _
    rw [← h]
    exact (Int.natCast_ediv y (2 ^ j)).symm
  rw [e, and_u8 _ (Nat.lt_of_le_of_lt (Nat.div_le_self _ _) hy), Nat.testBit_eq_decide_div_mod_eq]
  rcases Nat.mod_two_eq_zero_or_one (y / 2 ^ j) with h | h <;> rw [h] <;> simp
set_option maxHeartbeats 4000000 in
set_option maxRecDepth 100000 in
theorem read_main (b o cap : Nat) (bs : List Int) (B : Nat) (A : Nat → Addr) (w : World) (hs : Four B w A) (hB : B ≤ w.heap.size) (hcap : bs.length ≤ cap) (h : Lie w (some ⟨b, o, none⟩) bs) (hb : Bytes bs) (hk : timK bs = 0) :
    Calls Tryd.prog 11 #[.slice (some ⟨b, o, none⟩) bs.length cap] w fun e w' => Gro none w w' ∧ (readK bs ≠ 0 → e = .returned (.tuple #[timV 0 0 false (.slice none 0 0), errV A (readK bs)])) ∧
      (readK bs = 0 → ∃ s, e = .returned (.tuple #[timV (bs.getD 2 0) (bs.getD 3 0) (groupB bs) s, .nilIface]) ∧ OwnI w.heap.size w' s (aidsB bs)) := by
  have HCELL : Hid (∀ w', Gro none w w' → ∀ i, i < bs.length → w'.cell? ⟨b, o + i, none⟩ = some (.int .u8 (bs.getD i 0))) := fun w' k i hi => by
    obtain ⟨b', o', e, hc⟩ := h.gro k (by simp) i hi
    cases e; exact hc
  have hT := hk
  unfold timK at hT
  have hn2 : 2 ≤ bs.length := by
    rcases Nat.lt_or_ge bs.length 2 with h' | h'
    · rw [if_pos h'] at hT; cases hT
    · exact h'
  rw [if_neg (by omega)] at hT
  have h05 : bs.getD 0 0 = 5 := by
    rcases Decidable.em (bs.getD 0 0 = 5) with h' | h'
    · exact h'
    · rw [if_pos h'] at hT; cases hT
  rw [if_neg (not_not_intro h05)] at hT
  have h06 : ¬ (bs.length : Int) - 2 < bs.getD 1 0 := fun h' => by rw [if_pos h'] at hT; cases hT
  rw [if_neg h06] at hT
  have h07 : ¬ ((bs.length : Int) - 2 > bs.getD 1 0 ∨ bs.getD 1 0 < 4) := fun h' => by rw [if_pos h'] at hT; cases hT
  have b1 := hb 1
  have hn : ∃ n, bs.length = n ∧ 6 ≤ n ∧ n ≤ 257 ∧ bs.getD 1 0 = (n : Int) - 2 := ⟨_, rfl, by omega, by omega, by omega⟩
  obtain ⟨n, hn, n6, n257, hv1⟩ := hn
  rw [hn] at HCELL hcap ⊢
  have HS := Lib.hid (fun w' (k : Gro none w w') => (show Four B w' A from hs.far fun i hi => k.block i (by omega) (by simp)))
  have HEQ := Lib.hid (fun w' (k : Gro none w w') (q : Option Addr) (d : Nat) (ys : List Int) (hl : 0 < ys.length) (hy : Lie w' q ys) (by_ : Bytes ys) => equal_any q (some ⟨b, o, none⟩) d cap ys bs w' hy (h.gro k (by simp)) hl (by omega) by_ hb)
  have HBY := Lib.hid hb
  have HNE : Hid (0 < w.heap.size ∧ 3 < w.heap.size) := ⟨by have := hs.big; omega, by have := hs.big; omega⟩
  have HLN := Lib.hid hn
  have HREAD : Hid (readK bs = if ¬ okT (bs.getD 2 0) (bs.getD 3 0) (aidsB bs) then 3 else if timL (bs.getD 2 0) (bs.getD 3 0) (groupB bs) (aidsB bs) = bs then 0 else 2) := by
    unfold Hid readK
    rw [hk, if_neg (by simp)]
  have c0 := HCELL.out w (Gro.refl _ _) 0 (by omega)
  clear hT hn2 h06 h07 b1 hs hB h hb hk hn c0
  have hg0 : Gro none w (w.alloc (.cells #[.int .i64 0, .int .i64 0, .bool false, .slice none 0 0] 24)) := (Gro.refl _ _).alloc _
  have hz0 := heap_alloc_new w (.cells #[.int .i64 0, .int .i64 0, .bool false, .slice none 0 0] 24)
  have c0 := HCELL.out _ hg0 0 (by omega)
  have c1 := HCELL.out _ hg0 1 (by omega)
  have c2 := HCELL.out _ hg0 2 (by omega)
  have c3 := HCELL.out _ hg0 3 (by omega)
  have c4 := HCELL.out _ hg0 4 (by omega)
  rw [h05, Nat.add_zero] at c0
  rw [hv1] at c1
  have HC2 := Lib.hid (fun w' (k : Gro none w w') => HCELL.out w' k 2 (by omega))
  have HC3 := Lib.hid (fun w' (k : Gro none w w') => HCELL.out w' k 3 (by omega))
  have HC4 := Lib.hid (fun w' (k : Gro none w w') => HCELL.out w' k 4 (by omega))
  have d2 := HBY.out 2
  have d3 := HBY.out 3
  obtain ⟨v4, hv4⟩ := Int.eq_ofNat_of_zero_le (HBY.out 4).1
  have d4 : v4 < 256 := by have := (HBY.out 4).2; omega
  have HGR : Hid (groupB bs = decide (0 < (v4 : Int) % 2)) := by unfold Hid groupB; rw [hv4]
  have HF : Hid (firstB bs = v4 / 2 * 2) := by unfold Hid firstB; rw [hv4]; rfl
  rw [hv4] at c4 HC4
  generalize bs.getD 2 0 = v2 at *
  generalize bs.getD 3 0 = v3 at *
  have a4 := and_u8 v4 d4
  have n4 := even_u8 v4 d4
  have HG0 := Lib.hid hg0
  have HZ0 := Lib.hid hz0
  clear hg0 hz0 h05 hv1 hv4
  have i0 : (6 : Int) ≤ (n : Int) := by omega
  have i1 : (n : Int) ≤ 257 := by omega
  obtain ⟨d20, d21⟩ := d2
  obtain ⟨d30, d31⟩ := d3
  have wr2 : IntKind.i64.wrap v2 = v2 := by rw [IntKind.wrap_i64]; omega
  have wr3 : IntKind.i64.wrap v3 = v3 := by rw [IntKind.wrap_i64]; omega
  have j2 : (2 : Int) < (n : Int) := by omega
  have j3 : (3 : Int) < (n : Int) := by omega
  have j4 : (4 : Int) < (n : Int) := by omega
  go_enter Tryd.func11, Tryd.ntmps11
  go_upto_region 9 with fail
  generalize hW : w.alloc (.cells #[.int .i64 0, .int .i64 0, .bool false, .slice none 0 0] 24) = w1 at *
  clear hW c0 c1 c2 c3 c4
  refine wp_region_S (RS w1 4 14 15 24 #[.int .i64 0, .int .i64 0, .bool false, .slice none 0 0] #[.int .i64 v2, .int .i64 v3, .bool (decide (0 < bits .and .u8 (v4 : Int) 1)), .slice none 0 0]) (by kernel_rfl) ⟨Gro.drew (Gro.refl _ _), fun h => absurd h (by decide)⟩ ?_
  refine takeY (i := 0) (x := 52) (v := .slice (some ⟨b, o, none⟩) n cap) rfl (by decide) (by decide) (by decide) (by kernel_rfl) (by kernel_rfl) (by kernel_rfl) (fun _ _ _ h => h) (by intro w; go_simp) ?_
  simp only [Act.put, List.setIfInBounds_toArray, List.set_cons_zero, List.set_cons_succ]
  refine takeY (i := 1) (x := 53) (v := .pointer (some ⟨b, o + 2, none⟩)) rfl (by decide) (by decide) (by decide) (by kernel_rfl) (by kernel_rfl) (by kernel_rfl) (fun _ _ _ h => h) (by intro w; go_simp) ?_
  simp only [Act.put, List.setIfInBounds_toArray, List.set_cons_zero, List.set_cons_succ]
  refine takeL (i := 2) (x := 54) (v := .int .u8 v2) rfl (by decide) (by decide) (by decide) (by kernel_rfl) (by kernel_rfl) (by kernel_rfl) (fun _ _ _ h => h) (by intro w' k; have hq := HC2.out w' (HG0.out.trans k); clear k; go_simp) ?_
  simp only [Act.put, List.setIfInBounds_toArray, List.set_cons_zero, List.set_cons_succ]
  refine takeY (i := 3) (x := 55) (v := .int .i64 v2) rfl (by decide) (by decide) (by decide) (by kernel_rfl) (by kernel_rfl) (by kernel_rfl) (fun _ _ _ h => h) (by intro w; go_simp) ?_
  simp only [Act.put, List.setIfInBounds_toArray, List.set_cons_zero, List.set_cons_succ]
  refine takeY (i := 4) (x := 56) (v := .slice (some ⟨b, o, none⟩) n cap) rfl (by decide) (by decide) (by decide) (by kernel_rfl) (by kernel_rfl) (by kernel_rfl) (fun _ _ _ h => h) (by intro w; go_simp) ?_
  simp only [Act.put, List.setIfInBounds_toArray, List.set_cons_zero, List.set_cons_succ]
  refine takeY (i := 5) (x := 57) (v := .pointer (some ⟨b, o + 3, none⟩)) rfl (by decide) (by decide) (by decide) (by kernel_rfl) (by kernel_rfl) (by kernel_rfl) (fun _ _ _ h => h) (by intro w; go_simp) ?_
  simp only [Act.put, List.setIfInBounds_toArray, List.set_cons_zero, List.set_cons_succ]
  refine takeL (i := 6) (x := 58) (v := .int .u8 v3) rfl (by decide) (by decide) (by decide) (by kernel_rfl) (by kernel_rfl) (by kernel_rfl) (fun _ _ _ h => h) (by intro w' k; have hq := HC3.out w' (HG0.out.trans k); clear k; go_simp) ?_
  simp only [Act.put, List.setIfInBounds_toArray, List.set_cons_zero, List.set_cons_succ]
  refine takeY (i := 7) (x := 59) (v := .int .i64 v3) rfl (by decide) (by decide) (by decide) (by kernel_rfl) (by kernel_rfl) (by kernel_rfl) (fun _ _ _ h => h) (by intro w; go_simp) ?_
  simp only [Act.put, List.setIfInBounds_toArray, List.set_cons_zero, List.set_cons_succ]
  refine takeY (i := 8) (x := 60) (v := .slice (some ⟨b, o, none⟩) n cap) rfl (by decide) (by decide) (by decide) (by kernel_rfl) (by kernel_rfl) (by kernel_rfl) (fun _ _ _ h => h) (by intro w; go_simp) ?_
  simp only [Act.put, List.setIfInBounds_toArray, List.set_cons_zero, List.set_cons_succ]
  refine takeY (i := 9) (x := 61) (v := .pointer (some ⟨b, o + 4, none⟩)) rfl (by decide) (by decide) (by decide) (by kernel_rfl) (by kernel_rfl) (by kernel_rfl) (fun _ _ _ h => h) (by intro w; go_simp) ?_
  simp only [Act.put, List.setIfInBounds_toArray, List.set_cons_zero, List.set_cons_succ]
  refine takeL (i := 10) (x := 62) (v := .int .u8 v4) rfl (by decide) (by decide) (by decide) (by kernel_rfl) (by kernel_rfl) (by kernel_rfl) (fun _ _ _ h => h) (by intro w' k; have hq := HC4.out w' (HG0.out.trans k); clear k; go_simp) ?_
  simp only [Act.put, List.setIfInBounds_toArray, List.set_cons_zero, List.set_cons_succ]
  refine takeY (i := 11) (x := 63) (v := .int .u8 (bits .and .u8 (v4 : Int) 1)) rfl (by decide) (by decide) (by decide) (by kernel_rfl) (by kernel_rfl) (by kernel_rfl) (fun _ _ _ h => h) (by intro w; go_simp) ?_
  simp only [Act.put, List.setIfInBounds_toArray, List.set_cons_zero, List.set_cons_succ]
  refine takeY (i := 12) (x := 64) (v := .bool (decide (0 < bits .and .u8 (v4 : Int) 1))) rfl (by decide) (by decide) (by decide) (by kernel_rfl) (by kernel_rfl) (by kernel_rfl) (fun _ _ _ h => h) (by intro w; go_simp) ?_
  simp only [Act.put, List.setIfInBounds_toArray, List.set_cons_zero, List.set_cons_succ]
  refine takeY (i := 13) (x := 65) (v := .agg #[.int .i64 v2, .int .i64 v3, .bool (decide (0 < bits .and .u8 (v4 : Int) 1)), .slice none 0 0]) rfl (by decide) (by decide) (by decide) (by kernel_rfl) (by kernel_rfl) (by kernel_rfl) (fun _ _ _ h => h) (by intro w; go_simp) ?_
  simp only [Act.put, List.setIfInBounds_toArray, List.set_cons_zero, List.set_cons_succ]
  refine takeA rfl (by kernel_rfl) (by decide) (by kernel_rfl) (by simp) (by intro w; go_simp) ?_
  intro g hge
  simp only [Act.put, List.setIfInBounds_toArray, List.set_cons_zero, List.set_cons_succ]
  refine takeST (g := g) rfl (by kernel_rfl) (by decide) (by kernel_rfl) (by kernel_rfl) (by decide) rfl rfl rfl rfl (by kernel_rfl) (by simp [Value.oneCell']) (by kernel_rfl) ?_
  intro w3 hg3 _ hrow
  have hgb : (decide (0 < bits .and .u8 (v4 : Int) 1)) = groupB bs := by rw [HGR.out, a4]; exact decide_eq_decide.2 (by omega)
  rw [hgb] at hrow
  have hg1 := HG0.out.trans hg3
  have hz3 := (hg3.block w.heap.size (blk_in HZ0.out) (by simp)).trans HZ0.out
  have c4 := HC4.out w3 hg1
  have wr4 : IntKind.i64.wrap (bits .andNot .u8 (v4 : Int) 1) = ((v4 / 2 * 2 : Nat) : Int) := by rw [n4, IntKind.wrap_i64]; omega
  have hw1 : w.heap.size ≤ w1.heap.size := HG0.out.size
  have hlw : w.heap.size < w1.heap.size := blk_in HZ0.out
  have HG3 := Lib.hid hg1
  have hw13 : Hid (w1.heap.size ≤ w3.heap.size) := hg3.size
  have HZ3 := Lib.hid hz3
  have HROW := Lib.hid hrow
  have i5 : (5 : Int) ≤ (n : Int) := by omega
  have k5 : (n : Int) ≤ (cap : Int) := by omega
  have k6 : ¬ (cap : Int) = 5 := by omega
  have k7 : ¬ cap = 5 := by omega
  have k8 : 5 ≤ n := by omega
  clear hg3 hrow hg1 hz3 HG0 HZ0 HC2 HC3 HC4 hgb a4 n4
  go_upto_region 12 with fail
  obtain ⟨F, hF⟩ : ∃ F, F = v4 / 2 * 2 := ⟨_, rfl⟩
  have eF : (v4 : Int) / 2 * 2 = (F : Int) := by omega
  have F254 : F ≤ 254 := by omega
  rw [eF]
  rw [← hF] at HF
  have HM : Hid (∀ k, k < n - 5 → ∃ y : Nat, y < 256 ∧ ((bs.drop 5).getD k 0).toNat = y ∧ ∀ w', Gro none w w' → w'.cell? ⟨b, o + 5 + k, none⟩ = some (.int .u8 (y : Int))) := fun k hk => by
    obtain ⟨y, hy⟩ := Int.eq_ofNat_of_zero_le (HBY.out (5 + k)).1
    have hlt := (HBY.out (5 + k)).2
    have hd : (bs.drop 5).getD k 0 = bs.getD (5 + k) 0 := by rw [List.getD_eq_getElem?_getD, List.getD_eq_getElem?_getD, List.getElem?_drop]
    refine ⟨y, by omega, by rw [hd, hy]; rfl, fun w' kk => ?_⟩
    have hc := HCELL.out w' kk (5 + k) (by omega)
    rw [hy, show o + (5 + k) = o + 5 + k by omega] at hc
    exact hc
  generalize hbd : bs.drop 5 = ys at *
  have HAI : Hid (aidsB bs = aidsTo F ys (n - 5)) := by
    unfold Hid aidsB
    rw [HF.out, hbd, HLN.out]
  have HHF := Lib.hid hF
  clear hF eF hbd c4 HCELL HBY HF HGR wr4 wr2 wr3
  generalize hm : n - 5 = m at *
  have m252 : m ≤ 252 := by omega
  generalize hgbE : groupB bs = gb at *
  have HGBE := Lib.hid hgbE
  clear hgbE
  obtain ⟨ii, hi, hz0, hz1, hz2⟩ := info_int
  go_loopw [74] (fun i wr => ∃ k : Nat, k ≤ m ∧ i = .int .i64 k ∧ ∃ s, Gro (some g) w3 wr ∧ wr.heap[g]? = some (.cells #[.int .i64 v2, .int .i64 v3, .bool gb, s] 24 (0, 0)) ∧ OwnI w3.heap.size wr s (aidsTo F ys k)) (fun i _ => m - (intOf i).toNat)
  case atStart => exact ⟨0, Nat.zero_le _, rfl, _, Gro.refl _ _, HROW.out, World.ownsRow_nil _ _ _ _⟩
  case round =>
    obtain ⟨k, hk, rfl, s, hg, hrow, hown⟩ := hrel
    have HOW := Lib.hid hown
    have HRW := Lib.hid hrow
    have HGG := Lib.hid hg
    have hge' : w.heap.size ≤ g := by omega
    by_cases hkm : k < m
    · obtain ⟨y, hy, hyk, hcell⟩ := HM.out k hkm
      have c := hcell wr (HG3.out.new_row hg hge')
      have q0 : (0 : Int) ≤ (k : Int) := by omega
      have q1 : (k : Int) < (m : Int) := by omega
      have HYK : Hid (aidsTo F ys (k + 1) = aidsTo F ys k ++ bitsOf ((F + k) * 8) y 8) := by unfold Hid; rw [aidsTo, hyk]
      have HLE := Lib.hid (aidsTo_len F ys k)
      clear hcell hyk hown hrow hg
      go_upto_region 15 with fail
      clear c
      generalize aidsTo F ys k = L at *
      go_loopw [79] (fun i wr => ∃ j : Nat, j ≤ 8 ∧ i = .int .i64 j ∧ ∃ s, Gro (some g) w3 wr ∧ wr.heap[g]? = some (.cells #[.int .i64 v2, .int .i64 v3, .bool gb, s] 24 (0, 0)) ∧ OwnI w3.heap.size wr s (L ++ bitsOf ((F + k) * 8) y j)) (fun i _ => 8 - (intOf i).toNat)
      case atStart => exact ⟨0, Nat.zero_le _, rfl, s, HGG.out, HRW.out, by rw [bitsOf, List.append_nil]; exact HOW.out⟩
      case round =>
        obtain ⟨j, hj, rfl, s', hg, hrow, hown⟩ := hrel
        by_cases hj8 : j < 8
        · have HJ : Hid (bitsOf ((F + k) * 8) y (j + 1) = if y.testBit j then bitsOf ((F + k) * 8) y j ++ [(((F + k) * 8 + j : Nat) : Int)] else bitsOf ((F + k) * 8) y j) := by unfold Hid; rw [bitsOf]
          have hbit := bit_u8 y j hy
          have hgl : g < w3.heap.size := blk_in HROW.out
          have hll := bitsOf_len ((F + k) * 8) y j
          have hL := HLE.out
          cases htb : y.testBit j with
          | true =>
            rw [htb] at HJ hbit
            rw [if_pos rfl] at HJ hbit
            have c3 := cell_of_row wr g 3 _ _ _ hrow
            simp only [List.getElem?_toArray, List.getElem?_cons_zero, List.getElem?_cons_succ] at c3
            clear htb
            have eV : Hid (((F : Int) + (k : Int)) * 8 + (j : Int) = (((F + k) * 8 + j : Nat) : Int)) := by unfold Hid; omega
            go_wp2_with (at_builtin; refine wpList_append_own _ rfl _ _ 22 rfl w3.heap.size 3 ii (.int .i64 0) 1 8 Tryd.underlying22 hi hz0 hz1 hz2 rfl (by decide) _ _ _ rfl (hown.alloc _) ⟨wr.heap.size, 0, none⟩ 1 1 [.int .i64 (((F : Int) + (k : Int)) * 8 + (j : Int))] rfl rfl ?c1 ?c2 ?c3 ?c4 ?c5 ?_)
            case c1 =>
              intro j' u hj'
              match j', hj' with
              | 0, hj' => simp at hj'; subst hj'; simp [Addr.add]
            case c2 => intro u hu; simp at hu; subst hu; rfl
            case c3 => rw [List.length_append]; unfold maxLen; omega
            case c4 => rw [List.length_append]; omega
            case c5 => have := hg.size; simp; omega
            intro v' w5 hown' hgrow _
            have hg5 : Gro (some g) w3 w5 := (hg.alloc _).grownR hgrow (fun g0 e => ((hown.lt) g0 e).1)
            have hrow5 := (hgrow.block g (by have := blk_in hrow; simp; omega) (fun e => by have := ((hown.lt) g e.symm).1; omega)).trans ((Below.heap_alloc _ _ _ (blk_in hrow)).trans hrow)
            have c5 := cell_of_row w5 g 3 _ _ _ hrow5
            have f5 := frozen_of_row w5 g 3 _ _ hrow5
            simp only [List.getElem?_toArray, List.getElem?_cons_zero, List.getElem?_cons_succ] at c5
            have HROW5 := Lib.hid (fun v => heap_setCell_same w5 g 3 _ _ v hrow5)
            have HO5 : Hid (OwnI w3.heap.size w5 v' (L ++ bitsOf ((F + k) * 8) y (j + 1))) := by
              unfold Hid OwnI
              rw [HJ.out, ← eV.out]
              simpa [List.append_assoc, Nat.add_assoc] using hown'
            have HG5 := Lib.hid hg5
            have HGL := Lib.hid hgl
            obtain ⟨p5, cap5, rfl, -⟩ := HO5.out.lie
            generalize (L ++ bitsOf ((F + k) * 8) y (j + 1)).length = n5 at *
            clear hown hown' hgrow hg5 hrow5 hrow hg c3 hgl
            go_wp2_with fail
            have hr6 := HROW5.out (.slice p5 n5 cap5)
            simp only [List.setIfInBounds_toArray, List.set_cons_zero, List.set_cons_succ] at hr6
            have HR6 := Lib.hid hr6
            clear hr6
            go_roundw
            case rel => exact ⟨j + 1, by omega, by go_num, .slice p5 n5 cap5, HG5.out.setCell _ _, HR6.out, HO5.out.gro ((Gro.refl _ _).setCell _ _) (fun g0 e => by have := HGL.out; injection e with e; omega)⟩
            case measure => simp [intOf]; omega
          | false =>
            rw [htb] at HJ hbit
            rw [if_neg (by simp)] at HJ hbit
            have HO := Lib.hid hown
            have HRR := Lib.hid hrow
            have HG5 := Lib.hid hg
            clear htb hown hrow hg
            go_wp2_with fail
            go_roundw
            case rel => exact ⟨j + 1, by omega, by go_num, s', HG5.out, HRR.out, by rw [HJ.out]; exact HO.out⟩
            case measure => simp [intOf]; omega
        · obtain rfl : j = 8 := by omega
          have HO := Lib.hid hown
          have HRR := Lib.hid hrow
          have HG5 := Lib.hid hg
          clear hown hrow hg
          go_wp2_with fail
          go_roundw
          case rel => exact ⟨k + 1, by omega, by go_num, s', HG5.out, HRR.out, by rw [HYK.out]; exact HO.out⟩
          case measure => simp [intOf]; omega
    · obtain rfl : k = m := by omega
      clear hown hrow hg
      obtain ⟨p', cap', rfl, hli⟩ := HOW.out.lie
      have hgw := HG3.out.new_row HGG.out hge'
      have hzr := (HGG.out.block w.heap.size (blk_in HZ3.out) (by have := hlw; simp; omega)).trans HZ3.out
      have HGW := Lib.hid hgw
      have HZR := Lib.hid hzr
      have hle := aidsTo_len F ys k
      have HMAY := Lib.hid (fun w' (kk : Gro none wr w') => may_any v2 v3 gb p' cap' (aidsTo F ys k) w' (hli.gro kk (by simp)) (by omega))
      have HTB := Lib.hid (fun (hok : okT v2 v3 (aidsTo F ys k)) w' (kk : Gro none wr w') => (tim_any v2 v3 gb p' cap' (aidsTo F ys k) w' (hli.gro kk (by simp)) (by omega) hok))
      have hpos : Hid (okT v2 v3 (aidsTo F ys k) → 0 < (timL v2 v3 gb (aidsTo F ys k)).length ∧ Bytes (timL v2 v3 gb (aidsTo F ys k))) := fun hok => ⟨by rw [timL_len]; omega, fun i => by
        rcases Nat.lt_or_ge i (timL v2 v3 gb (aidsTo F ys k)).length with hi | hi
        · rw [List.getD_eq_getElem?_getD, List.getElem?_eq_getElem hi]
          exact tim_bytes hok _ (List.getElem_mem _)
        · rw [List.getD_eq_getElem?_getD, List.getElem?_eq_none hi]
          exact ⟨by decide, by decide⟩⟩
      have HSER := Lib.hid (fun w' (kk : Gro none wr w') => (HS.out w' (HGW.out.trans kk)).c2)
      have HSES := Lib.hid (fun w' (kk : Gro none wr w') => (HS.out w' (HGW.out.trans kk)).c1)
      have HEQ' := Lib.hid (fun w' (kk : Gro none wr w') => HEQ.out w' (HGW.out.trans kk))
      have HRE : Hid (readK bs = if ¬ okT v2 v3 (aidsTo F ys k) then 3 else if timL v2 v3 gb (aidsTo F ys k) = bs then 0 else 2) := by
        have h := HREAD.out
        rw [HAI.out] at h
        exact h
      have HOO := Lib.hid HOW.out
      clear hli hgw hzr HEQ HREAD HM hle
      unfold timV at *
      generalize aidsTo F ys k = XL at *
      generalize XL.length = nl at *
      generalize hY : timL v2 v3 gb XL = Y at *
      clear hY
      go_wp2_with (refine load_row rfl _ _ rfl _ rfl _ _ HRW.out _ Tryd.underlying24 rfl (by kernel_rfl) ?_)
      refine (HMAY.out wr (Gro.refl _ _)).mono ?_
      rintro e w5 ⟨rfl, hg⟩
      have HG5 := Lib.hid hg
      have HROW5 := Lib.hid ((hg.block g (blk_in HRW.out) (by simp)).trans HRW.out)
      have HZ5 := Lib.hid ((hg.block w.heap.size (blk_in HZR.out) (by simp)).trans HZR.out)
      clear hg HRW HZR HMAY
      by_cases hok : okT v2 v3 XL
      · rw [decide_eq_true hok]
        go_wp2_with (refine load_row rfl _ _ rfl _ rfl _ _ HROW5.out _ Tryd.underlying24 rfl (by kernel_rfl) ?_)
        refine (HTB.out hok w5 HG5.out).mono ?_
        rintro e w6 ⟨v, rfl, hg, ho⟩
        obtain ⟨q, d, rfl, -, hlY, -⟩ := ho.lie
        have hq := HEQ'.out w6 (HG5.out.trans hg) q d Y (hpos.out hok).1 hlY (hpos.out hok).2
        rw [HLN.out] at hq
        have HQ := Lib.hid hq
        have HG6 := Lib.hid (HG5.out.trans hg)
        have HROW6 := Lib.hid ((hg.block g (blk_in HROW5.out) (by simp)).trans HROW5.out)
        have HZ6 := Lib.hid ((hg.block w.heap.size (blk_in HZ5.out) (by simp)).trans HZ5.out)
        clear hg ho hlY hq HROW5 HZ5 HTB hpos HEQ' HG5
        generalize Y.length = ny at *
        go_wp2_with fail
        refine HQ.out.mono ?_
        rintro e w' ⟨rfl, rfl⟩
        by_cases heq : Y = bs
        · rw [decide_eq_true heq]
          have hk0 : readK bs = 0 := by rw [HRE.out, if_neg (not_not_intro hok), if_pos heq]
          have HK0 := Lib.hid hk0
          have hzX := HZ6.out
          clear hk0 heq HQ
          go_wp2_with (first | (refine load_row rfl _ _ rfl _ rfl _ _ HROW6.out _ Tryd.underlying24 rfl (by kernel_rfl) ?_) | (refine store_row rfl 24 _ _ rfl w.heap.size rfl #[.int .i64 v2, .int .i64 v3, .bool gb, .slice p' nl cap'] (by rfl) #[.int .i64 0, .int .i64 0, .bool false, .slice none 0 0] 24 hzX rfl (by kernel_rfl) (by simp [Value.oneCell']) ?_))
          intro w7 hg hr
          have HF := Lib.hid ((HGW.out.trans HG6.out).new_row hg (Nat.le_refl _))
          have HR := Lib.hid hr
          have HO7 := Lib.hid ((HOO.out.gro HG6.out (by simp)).gro hg (fun g0 e => by have := hlw; have := hw13.out; injection e with e; omega))
          clear hg hr hzX
          (try go_wp2_with fail)
          (try simp only [Exit.inBlock, Exit.then])
          refine bodyPost_ret (res_tim rfl rfl HR.out (by kernel_rfl)) rfl ?_
          refine ⟨HF.out, fun h => absurd HK0.out h, fun _ => ⟨.slice p' nl cap', by rw [HGBE.out]; rfl, ?_⟩⟩
          rw [HAI.out]
          exact HO7.out.weak (by have := hw13.out; omega)
        · rw [decide_eq_false heq]
          have hk0 : readK bs = 2 := by rw [HRE.out, if_neg (not_not_intro hok), if_neg heq]
          have HK0 := Lib.hid hk0
          clear hk0 heq HQ hok
          have hgX := HGW.out.trans HG6.out
          have hzX := HZ6.out
          have HSH := Lib.hid (HSES.out w6 HG6.out)
          go_wp2_with fail
          refine wp_region_R (fun _ w' => Gro none w w' ∧ w'.heap[w.heap.size]? = some (.cells #[.int .i64 0, .int .i64 0, .bool false, .slice none 0 0] 24 (0, 0)) ∧ w'.cell? ⟨3, 0, none⟩ = some (.iface 69 (.pointer (some (A 1))))) (by kernel_rfl) ⟨hgX.drew, hzX, HSH.out⟩ ?_
          clear hzX hgX
          refine takeR (i := 0) (x := 118) (v := .agg #[.int .i64 0, .int .i64 0, .bool false, .slice none 0 0]) rfl (by kernel_rfl) (by kernel_rfl) (by kernel_rfl) (fun _ _ _ h => h) (fun l w => Iff.rfl) (fun l w _ => by go_simp) ?_
          simp only [Act.put, List.setIfInBounds_toArray, List.set_cons_zero, List.set_cons_succ]
          refine takeR (i := 1) (x := 119) (v := .iface 69 (.pointer (some (A 1)))) rfl (by kernel_rfl) (by kernel_rfl) (by kernel_rfl) (fun _ _ _ h => h) (fun l w => Iff.rfl) (fun l w hw => by have hq := hw.2.2; clear hw; go_simp) ?_
          simp only [Act.put, List.setIfInBounds_toArray, List.set_cons_zero, List.set_cons_succ]
          refine takeSR (i := 2) w.heap.size #[.int .i64 0, .int .i64 0, .bool false, .slice none 0 0] #[.int .i64 0, .int .i64 0, .bool false, .slice none 0 0] 24 rfl (by kernel_rfl) rfl rfl (fun w' hw => hw.2.1) rfl (by kernel_rfl) (by simp [Value.oneCell']) (fun w' w'' hw hG hrow => ⟨hw.1.new_row hG (Nat.le_refl _), hrow, (World.cell?_of_block (w := w') (hG.block _ (Nat.lt_of_lt_of_le HNE.out.2 hw.1.size) (by have := HNE.out.2; simp; omega))).trans hw.2.2⟩) ?_
          refine takeR (i := 3) (x := 3) (v := .iface 69 (.pointer (some (A 1)))) rfl (by kernel_rfl) (by kernel_rfl) (by kernel_rfl) (fun _ _ _ h => h) (fun l w => Iff.rfl) (fun l w _ => by go_simp) ?_
          simp only [Act.put, List.setIfInBounds_toArray, List.set_cons_zero, List.set_cons_succ]
          refine wpAnyS_done (by kernel_rfl) fun w9 hw9 => ?_
          have HF := Lib.hid hw9.1
          have HR9 := Lib.hid hw9.2.1
          clear hw9
          (try go_wp2_with fail)
          (try simp only [Exit.inBlock, Exit.then])
          refine bodyPost_ret (res_tim rfl rfl HR9.out (by kernel_rfl)) rfl ?_
          exact ⟨HF.out, fun _ => by rw [HK0.out]; rfl, fun h => by rw [HK0.out] at h; cases h⟩
      · rw [decide_eq_false hok]
        have hk0 : readK bs = 3 := by rw [HRE.out, if_pos hok]
        have HK0 := Lib.hid hk0
        clear hk0 hok
        have hgX := HGW.out.trans HG5.out
        have hzX := HZ5.out
        have HSH := Lib.hid (HSER.out w5 HG5.out)
        go_wp2_with fail
        refine wp_region_R (fun _ w' => Gro none w w' ∧ w'.heap[w.heap.size]? = some (.cells #[.int .i64 0, .int .i64 0, .bool false, .slice none 0 0] 24 (0, 0)) ∧ w'.cell? ⟨0, 0, none⟩ = some (.iface 69 (.pointer (some (A 2))))) (by kernel_rfl) ⟨hgX.drew, hzX, HSH.out⟩ ?_
        clear hzX hgX
        refine takeR (i := 0) (x := 103) (v := .agg #[.int .i64 0, .int .i64 0, .bool false, .slice none 0 0]) rfl (by kernel_rfl) (by kernel_rfl) (by kernel_rfl) (fun _ _ _ h => h) (fun l w => Iff.rfl) (fun l w _ => by go_simp) ?_
        simp only [Act.put, List.setIfInBounds_toArray, List.set_cons_zero, List.set_cons_succ]
        refine takeR (i := 1) (x := 104) (v := .iface 69 (.pointer (some (A 2)))) rfl (by kernel_rfl) (by kernel_rfl) (by kernel_rfl) (fun _ _ _ h => h) (fun l w => Iff.rfl) (fun l w hw => by have hq := hw.2.2; clear hw; go_simp) ?_
        simp only [Act.put, List.setIfInBounds_toArray, List.set_cons_zero, List.set_cons_succ]
        refine takeSR (i := 2) w.heap.size #[.int .i64 0, .int .i64 0, .bool false, .slice none 0 0] #[.int .i64 0, .int .i64 0, .bool false, .slice none 0 0] 24 rfl (by kernel_rfl) rfl rfl (fun w' hw => hw.2.1) rfl (by kernel_rfl) (by simp [Value.oneCell']) (fun w' w'' hw hG hrow => ⟨hw.1.new_row hG (Nat.le_refl _), hrow, (World.cell?_of_block (w := w') (hG.block _ (Nat.lt_of_lt_of_le HNE.out.1 hw.1.size) (by have := HNE.out.1; simp; omega))).trans hw.2.2⟩) ?_
        refine takeR (i := 3) (x := 3) (v := .iface 69 (.pointer (some (A 2)))) rfl (by kernel_rfl) (by kernel_rfl) (by kernel_rfl) (fun _ _ _ h => h) (fun l w => Iff.rfl) (fun l w _ => by go_simp) ?_
        simp only [Act.put, List.setIfInBounds_toArray, List.set_cons_zero, List.set_cons_succ]
        refine wpAnyS_done (by kernel_rfl) fun w9 hw9 => ?_
        have HF := Lib.hid hw9.1
        have HR9 := Lib.hid hw9.2.1
        clear hw9
        (try go_wp2_with fail)
        (try simp only [Exit.inBlock, Exit.then])
        refine bodyPost_ret (res_tim rfl rfl HR9.out (by kernel_rfl)) rfl ?_
        exact ⟨HF.out, fun _ => by rw [HK0.out]; rfl, fun h => by rw [HK0.out] at h; cases h⟩
end Go.Proofs.YtchoeafkjgcmbaaDoor
