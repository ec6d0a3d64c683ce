/-
  THE DOCUMENT's ELEMENT AS BYTES: muezzinref1.rising, flag, TimBytes: what they answer. Conditions: the stations lie where the slice says.
-/
import Derived.Test.YtchoeafkjgcmbaaDoorTimK
import Derived.BigRegion
import Derived.Test.YtchoeafkjgcmbaaDoorCalm3
namespace Go.Proofs.YtchoeafkjgcmbaaDoor
open Go.RowKit

theorem rising_any (p : Option Addr) (cap : Nat) (xs : List Int) (w : World) (h : LieI w p xs) (hlen : xs.length ≤ 100000) :
    Calls Tryd.prog 22 #[.slice p xs.length cap] w fun e w' => e = .returned (.bool (decide (rising xs))) ∧ Gro none w w' := by
  have HX := Lib.hid (fun w' (k : Gro none w w') => h.gro k (by simp))
  have HN := Lib.hid hlen
  clear h hlen
  generalize hn : xs.length = n at *
  have HLN := Lib.hid hn
  clear hn
  go_enter Tryd.func22, Tryd.ntmps22
  go_wp2_with fail
  go_loopw [3, 4] (fun l i wr => ∃ k : Nat, k ≤ n ∧ i = .int .i64 k ∧ l = .int .i64 ((0 :: xs).getD k 0) ∧ Gro none w wr ∧ ∀ j, j < k → (0 :: xs).getD j 0 < xs.getD j 0 ∧ xs.getD j 0 ≤ 2007) (fun _ i _ => n - (intOf i).toNat)
  case atStart => exact ⟨0, Nat.zero_le _, rfl, rfl, Gro.refl _ _, fun j hj => by omega⟩
  case round =>
    obtain ⟨k, hk, rfl, rfl, hg, he⟩ := hrel
    have HE := Lib.hid he
    have HGG := Lib.hid hg
    clear he
    by_cases h6 : k < n
    · obtain ⟨b, o, rfl, c1⟩ := HX.out _ hg k (by have := HLN.out; omega)
      have i0 : (0 : Int) ≤ (k : Int) := by omega
      have i1 : (k : Int) < (n : Int) := by omega
      have i2 := HN.out
      clear hg HX
      have HS : Hid ((0 :: xs).getD (k + 1) 0 = xs.getD k 0) := by unfold Hid; rw [List.getD_cons_succ]
      have HF : Hid (¬ ((0 :: xs).getD k 0 < xs.getD k 0 ∧ xs.getD k 0 ≤ 2007) → decide (rising xs) = false) := fun hn => decide_eq_false (fun hr => hn (hr k (by have := HLN.out; omega)))
      have HT : Hid (((0 :: xs).getD k 0 < xs.getD k 0 ∧ xs.getD k 0 ≤ 2007) → ∀ j, j < k + 1 → (0 :: xs).getD j 0 < xs.getD j 0 ∧ xs.getD j 0 ≤ 2007) := fun h j hj => by
        rcases (show j < k ∨ j = k from by omega) with h' | rfl
        · exact HE.out j h'
        · exact h
      generalize xs.getD k 0 = v at *
      generalize (0 :: xs).getD k 0 = l at *
      by_cases hv1 : l < v
      · by_cases hv2 : v ≤ 2007
        · have HT' := Lib.hid (HT.out ⟨hv1, hv2⟩)
          clear HT HF
          have hn1 : ¬ v ≤ l := by omega
          have hn2 : ¬ 2007 < v := by omega
          go_wp2_with fail
          go_roundw
          case rel => exact ⟨k + 1, by omega, by go_num, by rw [HS.out], HGG.out, HT'.out⟩
          case measure => simp [intOf]; omega
        · have hf := Lib.hid (HF.out (by omega))
          clear HT HF HS
          have hn1 : ¬ v ≤ l := by omega
          have hn2 : 2007 < v := by omega
          go_wp2_with fail
          go_ret
          first | exact ⟨rfl, HGG.out⟩ | exact ⟨ret_bool hf.out.symm, HGG.out⟩
      · have hf := Lib.hid (HF.out (by omega))
        clear HT HF HS
        have hn1 : v ≤ l := by omega
        go_wp2_with fail
        go_ret
        first | exact ⟨rfl, HGG.out⟩ | exact ⟨ret_bool hf.out.symm, HGG.out⟩
    · obtain rfl : k = n := by omega
      have hd := Lib.hid (decide_eq_true (show rising xs from fun j hj => HE.out j (by have := HLN.out; omega)))
      clear HX
      go_wp2_with fail
      go_ret
      exact ⟨ret_bool hd.out.symm, HGG.out⟩
theorem flag_any (b : Bool) (w : World) : Calls Tryd.prog 23 #[.bool b, .int .i64 1] w fun e w' => e = .returned (.int .i64 (if b then 1 else 0)) ∧ w = w' := by
  cases b
  · go_enter Tryd.func23, Tryd.ntmps23
    go_wp2_with fail
    go_ret
    exact ⟨rfl, rfl⟩
  · go_enter Tryd.func23, Tryd.ntmps23
    go_wp2_with fail
    go_ret
    exact ⟨rfl, rfl⟩
theorem ref_bad (count period : Int) (group : Bool) (p : Option Addr) (cap : Nat) (xs : List Int) (w : World) (h : LieI w p xs) (hlen : xs.length ≤ 100000) (hok : ¬ okT count period xs) :
    Calls Tryd.prog 13 #[timV count period group (.slice p xs.length cap)] w fun e w' => e = .returned (.tuple #[.slice none 0 0, .int .i64 103]) ∧ Gro none w w' := by
  have HR := Lib.hid (fun w' (k : Gro none w w') => rising_any p cap xs w' (h.gro k (by simp)) hlen)
  have HOK := Lib.hid hok
  clear h hlen hok
  unfold timV
  generalize xs.length = n at *
  by_cases h1 : 1 ≤ period
  · have n1 : ¬ period < 1 := by omega
    by_cases h2 : period ≤ 255
    · have n2 : ¬ 255 < period := by omega
      by_cases h3 : 0 ≤ count
      · have n3 : ¬ count < 0 := by omega
        by_cases h4 : count < period
        · have n4 : ¬ period ≤ count := by omega
          rw [decide_eq_false (fun hr => HOK.out ⟨⟨h1, h2⟩, ⟨h3, h4⟩, hr⟩)] at HR
          go_enter Tryd.func13, Tryd.ntmps13
          go_wp2_with fail
          refine (HR.out _ ((Gro.refl _ _).alloc _)).mono ?_
          rintro e w1 ⟨rfl, hg⟩
          have HG := Lib.hid (((Gro.refl none w).alloc _).trans hg)
          clear hg
          go_wp2_with fail
          go_ret2
          exact ⟨rfl, HG.out⟩
        · have n4 : period ≤ count := by omega
          go_enter Tryd.func13, Tryd.ntmps13
          go_wp2_with fail
          go_ret2
          exact ⟨rfl, (Gro.refl _ _).alloc _⟩
      · have n3 : count < 0 := by omega
        go_enter Tryd.func13, Tryd.ntmps13
        go_wp2_with fail
        go_ret2
        exact ⟨rfl, (Gro.refl _ _).alloc _⟩
    · have n2 : 255 < period := by omega
      go_enter Tryd.func13, Tryd.ntmps13
      go_wp2_with fail
      go_ret2
      exact ⟨rfl, (Gro.refl _ _).alloc _⟩
  · have n1 : period < 1 := by omega
    go_enter Tryd.func13, Tryd.ntmps13
    go_wp2_with fail
    go_ret2
    exact ⟨rfl, (Gro.refl _ _).alloc _⟩
theorem own_row {w : World} {g B n : Nat} {C : Array Value} {xs : List Int} (hb : w.heap[g]? = some (.cells C 5 (0, 0))) (hC : C = (xs.map (Value.int .u8)).toArray) (hn : n = xs.length) (hB : B ≤ g) (hl : xs.length ≤ 100000) : Own B w (.slice (some ⟨g, 0, none⟩) n n) xs := by
  subst hC hn
  refine ⟨by simp, .inr ⟨g, xs.length, _, rfl, hB, hb, Nat.le_refl _, by unfold maxLen; omega, by simp, ?_⟩⟩
  rw [Nat.mul_one, List.take_of_length_le (by simp)]
/-- The part of the row of bits that goes out. -/
def partTo (F S : Nat) (xs : List Int) : List Int := (List.range S).map fun i => (byteOf xs (F + i) : Int)
theorem partTo_all (xs : List Int) : partTo (firstOf xs) (sizeOf' xs) xs = partOf xs := rfl
theorem partTo_nil (F S : Nat) : partTo F S [] = List.replicate S 0 := by simp [partTo, byteOf, List.map_const']
theorem partTo_app (F S : Nat) (xs : List Int) (a : Int) (h : F ≤ a.toNat / 8) : partTo F S (xs ++ [a]) = (partTo F S xs).set (a.toNat / 8 - F) ((byteOf xs (a.toNat / 8) ||| 2 ^ (a.toNat % 8) : Nat) : Int) := by
  apply List.ext_getElem (by simp [partTo])
  intro j h1 h2
  rw [List.getElem_set]
  simp only [partTo, List.getElem_map, List.getElem_range, byteOf_app]
  by_cases e : a.toNat / 8 = F + j
  · rw [if_pos e, if_pos (by omega), ← e]
  · rw [if_neg e, if_neg (by omega)]
def partA (F S : Nat) (xs : List Int) : Array Value := ((partTo F S xs).map (Value.int .u8)).toArray
theorem partA_get (F S : Nat) (xs : List Int) (i : Nat) (h : i < S) : (partA F S xs)[i]? = some (.int .u8 (byteOf xs (F + i))) := by
  unfold partA
  rw [List.getElem?_toArray, List.getElem?_map, List.getElem?_eq_getElem (by simp [partTo]; exact h)]
  simp [partTo]
theorem partA_app (F S : Nat) (xs : List Int) (a : Int) (h : F ≤ a.toNat / 8) : partA F S (xs ++ [a]) = (partA F S xs).setIfInBounds (a.toNat / 8 - F) (.int .u8 ((byteOf xs (a.toNat / 8) ||| 2 ^ (a.toNat % 8) : Nat) : Int)) := by
  unfold partA
  rw [partTo_app _ _ _ _ h, List.map_set]
  simp
theorem make_part (F S : Nat) (h : S ≤ 251) (w : World) : (Instr.makeSlice 26 (.int .i64 (S : Int)) (.int .i64 (S : Int))).run Tryd.prog w = .ok (.slice (some ⟨w.heap.size, 0, none⟩) S S) (w.alloc (.cells (partA F S []) 5)) := by
  have h := run_make_row' (P := Tryd.prog) 26 5 (.int .u8 0) 1 Tryd.underlying26 (by kernel_rfl) rfl .i64 .i64 S (by omega) (by omega) w
  have e : madeCells #[.int .u8 0] S = partA F S [] := by
    unfold partA
    rw [partTo_nil]
    apply Array.toList_inj.1
    rw [toList_madeCells_one, List.map_replicate]
  rw [e] at h
  exact h
set_option maxHeartbeats 4000000 in
set_option maxRecDepth 100000 in
theorem ref_any (count period : Int) (group : Bool) (p : Option Addr) (cap : Nat) (xs : List Int) (w : World) (h : LieI w p xs) (hlen : xs.length ≤ 100000) (hok : okT count period xs) :
    Calls Tryd.prog 13 #[timV count period group (.slice p xs.length cap)] w fun e w' => ∃ v, e = .returned (.tuple #[v, .int .i64 0]) ∧ Gro none w w' ∧ Own w.heap.size w' v (timL count period group xs) := by
  have HR := Lib.hid (fun w' (k : Gro none w w') => rising_any p cap xs w' (h.gro k (by simp)) hlen)
  rw [decide_eq_true hok.2.2] at HR
  have HX := Lib.hid (fun w' (k : Gro none w w') => h.gro k (by simp))
  have HN := Lib.hid hlen
  have HK := Lib.hid hok
  obtain ⟨⟨h1, h2⟩, ⟨h3, h4⟩, -⟩ := hok
  have n1 : ¬ period < 1 := by omega
  have n2 : ¬ 255 < period := by omega
  have n3 : ¬ count < 0 := by omega
  have n4 : ¬ period ≤ count := by omega
  clear h hlen
  unfold timV at *
  generalize hn : xs.length = n at *
  have HLN := Lib.hid hn
  clear hn
  go_enter Tryd.func13, Tryd.ntmps13
  go_wp2_with fail
  have hg0 : Gro none w (w.alloc (.cells #[.int .i64 count, .int .i64 period, .bool group, .slice p n cap] 24)) := (Gro.refl _ _).alloc _
  have hr0 := heap_alloc_new w (.cells #[.int .i64 count, .int .i64 period, .bool group, .slice p n cap] 24)
  generalize w.alloc (.cells #[.int .i64 count, .int .i64 period, .bool group, .slice p n cap] 24) = w1 at *
  refine (HR.out _ hg0).mono ?_
  rintro e w2 ⟨rfl, hg⟩
  have HG := Lib.hid (hg0.trans hg)
  have hr2 := (hg.block _ (blk_in hr0) (by simp)).trans hr0
  have HRR := Lib.hid hr2
  have c3 := cell_of_row w2 w.heap.size 3 _ _ _ hr2
  simp only [List.getElem?_toArray, List.getElem?_cons_zero, List.getElem?_cons_succ] at c3
  have HF0 := Lib.hid (first_le_last HK.out.2.2)
  have HLL := Lib.hid (lastOf_lt HK.out.2.2)
  have HSZ : Hid (sizeOf' xs = lastOf xs + 1 - firstOf xs) := rfl
  clear hg hg0 hr0 HR hr2
  go_upto_if 38 with fail
  go_cut [4, 5] from 39 (fun f l w' => f = .int .i64 (firstOf xs) ∧ l = .int .i64 (lastOf xs) ∧ w2 = w')
  case first =>
    by_cases n0 : n = 0
    · subst n0
      have hx : xs = [] := List.length_eq_zero_iff.1 HLN.out
      go_wp2_with fail
      go_meet
      case rel => exact ⟨by rw [hx]; rfl, by rw [hx]; rfl, rfl⟩
    · have j0 : (0 : Int) < (n : Int) := by omega
      have hl2 := HX.out w2 HG.out
      obtain ⟨b, o, rfl, c0⟩ := hl2 0 (by have := HLN.out; omega)
      have cl := hl2.at (k := n - 1) (by have := HLN.out; omega)
      have hp0 := rising_pos HK.out.2.2 (show 0 < xs.length by have := HLN.out; omega)
      have hpl := rising_pos HK.out.2.2 (show n - 1 < xs.length by have := HLN.out; omega)
      obtain ⟨m0, hm0⟩ := Int.eq_ofNat_of_zero_le (show 0 ≤ xs.getD 0 0 by omega)
      obtain ⟨ml, hml⟩ := Int.eq_ofNat_of_zero_le (show 0 ≤ xs.getD (n - 1) 0 by omega)
      have hff : Hid ((firstOf xs : Int) = (m0 : Int) / 16 * 2) := by
        unfold Hid firstOf
        rw [head_getD, hm0, Int.toNat_natCast]
        omega
      have hlf : Hid ((lastOf xs : Int) = (ml : Int) / 8) := by
        unfold Hid lastOf
        rw [last_getD, HLN.out, hml, Int.toNat_natCast]
        omega
      rw [hm0] at c0 hp0
      rw [hml] at cl hpl
      rw [Nat.add_zero] at c0
      have j1 : (0 : Int) ≤ (n : Int) - 1 := by omega
      have j2 : (n : Int) - 1 < (n : Int) := by omega
      have j3 := HN.out
      have j4 : IntKind.i64.wrap ((n : Int) - 1) = (n : Int) - 1 := by rw [IntKind.wrap_i64]; omega
      clear hl2 hm0 hml
      go_wp2_with fail
      go_meet
      case rel => exact ⟨by rw [hff.out], by rw [hlf.out], rfl⟩
  case rest =>
  obtain ⟨rfl, rfl, rfl⟩ := hcut
  clear c3
  have HTL : Hid (timL count period group xs = [5, (sizeOf' xs : Int) + 3, count, period, (firstOf xs : Int) + if group then 1 else 0] ++ partOf xs) := rfl
  have HPT := Lib.hid (partTo_all xs)
  have HWI := Lib.hid (fun a (ha : a ∈ xs) => within HK.out.2.2 ha)
  have hfl := HF0.out
  have hll := HLL.out
  have hsz := HSZ.out
  have HPL := Lib.hid (partOf_len xs)
  generalize firstOf xs = F at *
  generalize lastOf xs = L at *
  generalize sizeOf' xs = S at *
  have eS : (L : Int) - (F : Int) + 1 = (S : Int) := by omega
  have hmk := make_part F S (by omega)
  rw [← eS] at hmk
  have eS' := Lib.hid eS
  clear hsz HF0 HLL eS
  go_upto_region 9 with fail
  have hg3 : Gro none w2 (w2.alloc (.cells (partA F S []) 5)) := (Gro.refl _ _).alloc _
  have hz3 := heap_alloc_new w2 (.cells (partA F S []) 5)
  have hr3 := (hg3.block _ (blk_in HRR.out) (by simp)).trans HRR.out
  have hgw := HG.out.trans hg3
  have hlt : w.heap.size < w2.heap.size := blk_in HRR.out
  generalize w2.alloc (.cells (partA F S []) 5) = w3 at *
  generalize w2.heap.size = g at *
  clear hmk hg3 HG HRR
  have HR3 := Lib.hid hr3
  have HZ3 := Lib.hid hz3
  have HGW := Lib.hid hgw
  have HLT := Lib.hid hlt
  have HB3 : Hid (∀ w', Gro (some g) w3 w' → w'.cell? ⟨w.heap.size, 3, none⟩ = some (.slice p n cap)) := fun w' k => by
    have c := cell_of_row w' w.heap.size 3 _ _ _ ((k.block _ (blk_in hr3) (by simp; omega)).trans hr3)
    simpa using c
  clear hr3 hz3 hgw hlt
  go_upto_region 10 with fail
  go_loopw [7] (fun i wr => ∃ k : Nat, k ≤ n ∧ i = .int .i64 k ∧ Gro (some g) w3 wr ∧ wr.heap[g]? = some (.cells (partA F S (xs.take k)) 5 (0, 0))) (fun i _ => n - (intOf i).toNat)
  case atStart => exact ⟨0, Nat.zero_le _, rfl, Gro.refl _ _, by rw [List.take_zero]; exact HZ3.out⟩
  case round =>
    obtain ⟨k, hk, rfl, hg, hrow⟩ := hrel
    have HROW := Lib.hid hrow
    have HGG := Lib.hid hg
    have c3 := HB3.out wr hg
    by_cases h6 : k < n
    · have HW := Lib.hid (HGW.out.new_row hg (Nat.le_of_lt HLT.out))
      obtain ⟨b, o, rfl, c1⟩ := HX.out _ HW.out k (by have := HLN.out; omega)
      have hwi := HWI.out (xs.getD k 0) (getD_mem (by have := HLN.out; omega))
      have HTK := Lib.hid (take_next xs k (by have := HLN.out; omega))
      obtain ⟨m, hm⟩ := Int.eq_ofNat_of_zero_le (show 0 ≤ xs.getD k 0 by omega)
      rw [hm] at c1 hwi HTK
      rw [Int.toNat_natCast] at hwi
      have i0 : (0 : Int) ≤ (k : Int) := by omega
      have i1 : (k : Int) < (n : Int) := by omega
      have i2 := HN.out
      have q1 : m < 2008 := by omega
      have q2 : m / 8 - F < S := by have := HSZ.out; omega
      have q3 : (F : Int) ≤ (m : Int) / 8 := by omega
      have q4 : (m : Int) / 8 - (F : Int) < (S : Int) := by have := HSZ.out; omega
      have q5 : (0 : Int) ≤ (m : Int) / 8 - (F : Int) := by omega
      have q6 : ((m : Int) / 8 - (F : Int)).toNat = m / 8 - F := by omega
      have q7 : IntKind.i64.wrap ((m : Int) / 8 - (F : Int)) = (m : Int) / 8 - (F : Int) := by rw [IntKind.wrap_i64]; omega
      have c2 := cell_of_row wr g (m / 8 - F) _ _ _ hrow
      rw [partA_get _ _ _ _ q2, show F + (m / 8 - F) = m / 8 by omega] at c2
      have hf := frozen_of_row wr g (m / 8 - F) _ _ hrow
      have HB := Lib.hid (byteOf_lt (xs.take k) (m / 8))
      have HAP := Lib.hid (partA_app F S (xs.take k) (m : Int) (by simp; omega))
      generalize hy : byteOf (xs.take k) (m / 8) = y at *
      have HY := Lib.hid hy
      have hrow2 := fun v => heap_setCell_same wr g (m / 8 - F) _ _ v hrow
      have HR2 := Lib.hid hrow2
      clear hy hm hwi hg hrow hrow2
      go_upto_region 12 with fail
      go_region
      rw [or_bit y m HB.out]
      have hg5 : Gro (some g) w3 (wr.setCell ⟨g, m / 8 - F, none⟩ (.int .u8 ((y ||| 2 ^ (m % 8) : Nat) : Int))).drew := (HGG.out.setCell _ _).drew
      have hr5 : (wr.setCell ⟨g, m / 8 - F, none⟩ (.int .u8 ((y ||| 2 ^ (m % 8) : Nat) : Int))).drew.heap[g]? = some (.cells (partA F S (xs.take (k + 1))) 5 (0, 0)) := by
        rw [HTK.out, HAP.out]
        rw [Int.toNat_natCast]
        rw [HY.out]
        exact HR2.out _
      generalize (wr.setCell ⟨g, m / 8 - F, none⟩ (.int .u8 ((y ||| 2 ^ (m % 8) : Nat) : Int))).drew = w5 at *
      have HG5 := Lib.hid hg5
      have HR5 := Lib.hid hr5
      clear hg5 hr5 HROW HGG HR2 c2 hf c1 c3
      go_wp2_with fail
      go_roundw
      case rel => exact ⟨k + 1, by omega, by go_num, HG5.out, HR5.out⟩
      case measure => simp [intOf]; omega
    · obtain rfl : k = n := by omega
      clear HX
      have ht : xs.take k = xs := List.take_of_length_le (by have := HLN.out; omega)
      rw [ht] at hrow HROW
      have hr3 := (hg.block _ (blk_in HR3.out) (by have := HLT.out; simp; omega)).trans HR3.out
      have HC0 : Hid (∀ w', Gro none wr w' → w'.cell? ⟨w.heap.size, 0, none⟩ = some (.int .i64 count)) := fun w' k => by
        have c := cell_of_row w' w.heap.size 0 _ _ _ ((k.block _ (blk_in hr3) (by simp)).trans hr3)
        simpa using c
      have HC1 : Hid (∀ w', Gro none wr w' → w'.cell? ⟨w.heap.size, 1, none⟩ = some (.int .i64 period)) := fun w' k => by
        have c := cell_of_row w' w.heap.size 1 _ _ _ ((k.block _ (blk_in hr3) (by simp)).trans hr3)
        simpa using c
      have HC2 : Hid (∀ w', Gro none wr w' → w'.cell? ⟨w.heap.size, 2, none⟩ = some (.bool group)) := fun w' k => by
        have c := cell_of_row w' w.heap.size 2 _ _ _ ((k.block _ (blk_in hr3) (by simp)).trans hr3)
        simpa using c
      have HFL : Hid (∀ w, Calls Tryd.prog 23 #[.bool group, .int .i64 1] w fun e w' => e = .returned (.int .i64 (if group then 1 else 0)) ∧ Gro none w w') := fun w => (flag_any group w).mono fun e w' ⟨he, hw⟩ => ⟨he, hw ▸ Gro.refl _ _⟩
      have hsz := HSZ.out
      have wc : IntKind.u8.wrap count = count := by rw [IntKind.wrap_u8]; omega
      have wp_ : IntKind.u8.wrap period = period := by rw [IntKind.wrap_u8]; omega
      have wS : IntKind.u8.wrap (3 + (S : Int)) = 3 + (S : Int) := by rw [IntKind.wrap_u8]; omega
      have wS6 : IntKind.i64.wrap (3 + (S : Int)) = 3 + (S : Int) := by rw [IntKind.wrap_i64]; omega
      have hfl2 : (0 : Int) ≤ (if group then 1 else 0) ∧ (if group then (1 : Int) else 0) ≤ 1 := by cases group <;> decide
      generalize (if group then (1 : Int) else 0) = fl at *
      obtain ⟨fl0, fl1⟩ := hfl2
      have wFl : IntKind.u8.wrap (fl + (F : Int)) = fl + (F : Int) := by rw [IntKind.wrap_u8]; omega
      have wF6 : IntKind.i64.wrap (fl + (F : Int)) = fl + (F : Int) := by rw [IntKind.wrap_i64]; omega
      have HP : Hid (∀ w', Gro none wr w' → LieA w' ⟨g, 0, none⟩ (partOf xs)) := fun w' k => by
        refine lie_mid (row := none) (partOf xs) hrow k (by simp) fun j hj => ?_
        rw [HPL.out] at hj
        rw [Nat.zero_add, partA_get _ _ _ _ hj, ← HPT.out]
        simp [partTo, List.getD_eq_getElem?_getD, hj]
      have hS251 : S ≤ 251 := by omega
      have HW := Lib.hid (HGW.out.new_row hg (Nat.le_of_lt HLT.out))
      have HSS := Lib.hid hS251
      clear hsz hr3 hrow hg hS251
      go_wp2_with fail
      clear c3
      refine wp_region_B 112 16 5 5 #[.int .u8 5, .int .u8 (3 + (S : Int)), .int .u8 count, .int .u8 period, .int .u8 (fl + (F : Int))] (by kernel_rfl) (by kernel_rfl) ?_
      refine bY (i := 0) (x := 96) (v := .slice (some ⟨g, 0, none⟩) S S) rfl (by decide) (by decide) (by kernel_rfl) (by kernel_rfl) (by kernel_rfl) (fun _ _ _ h => h) (by rfl) (by intro w' k; go_simp) ?_
      simp only [Act.put, List.setIfInBounds_toArray, List.set_cons_zero, List.set_cons_succ]
      refine bY (i := 1) (x := 97) (v := .int .i64 (S : Int)) rfl (by decide) (by decide) (by kernel_rfl) (by kernel_rfl) (by kernel_rfl) (fun _ _ _ h => h) (by rfl) (by intro w' k; go_simp) ?_
      simp only [Act.put, List.setIfInBounds_toArray, List.set_cons_zero, List.set_cons_succ]
      refine bY (i := 2) (x := 98) (v := .int .i64 (3 + (S : Int))) rfl (by decide) (by decide) (by kernel_rfl) (by kernel_rfl) (by kernel_rfl) (fun _ _ _ h => h) (by rfl) (by intro w' k; go_simp) ?_
      simp only [Act.put, List.setIfInBounds_toArray, List.set_cons_zero, List.set_cons_succ]
      refine bY (i := 3) (x := 99) (v := .int .u8 (3 + (S : Int))) rfl (by decide) (by decide) (by kernel_rfl) (by kernel_rfl) (by kernel_rfl) (fun _ _ _ h => h) (by rfl) (by intro w' k; go_simp) ?_
      simp only [Act.put, List.setIfInBounds_toArray, List.set_cons_zero, List.set_cons_succ]
      refine bY (i := 4) (x := 100) (v := .pointer (some ⟨w.heap.size, 0, none⟩)) rfl (by decide) (by decide) (by kernel_rfl) (by kernel_rfl) (by kernel_rfl) (fun _ _ _ h => h) (by rfl) (by intro w' k; go_simp) ?_
      simp only [Act.put, List.setIfInBounds_toArray, List.set_cons_zero, List.set_cons_succ]
      refine bY (i := 5) (x := 101) (v := .int .i64 count) rfl (by decide) (by decide) (by kernel_rfl) (by kernel_rfl) (by kernel_rfl) (fun _ _ _ h => h) (by rfl) (by intro w' k; have hq := HC0.out w' k; clear k; go_simp) ?_
      simp only [Act.put, List.setIfInBounds_toArray, List.set_cons_zero, List.set_cons_succ]
      refine bY (i := 6) (x := 102) (v := .int .u8 count) rfl (by decide) (by decide) (by kernel_rfl) (by kernel_rfl) (by kernel_rfl) (fun _ _ _ h => h) (by rfl) (by intro w' k; go_simp) ?_
      simp only [Act.put, List.setIfInBounds_toArray, List.set_cons_zero, List.set_cons_succ]
      refine bY (i := 7) (x := 103) (v := .pointer (some ⟨w.heap.size, 1, none⟩)) rfl (by decide) (by decide) (by kernel_rfl) (by kernel_rfl) (by kernel_rfl) (fun _ _ _ h => h) (by rfl) (by intro w' k; go_simp) ?_
      simp only [Act.put, List.setIfInBounds_toArray, List.set_cons_zero, List.set_cons_succ]
      refine bY (i := 8) (x := 104) (v := .int .i64 period) rfl (by decide) (by decide) (by kernel_rfl) (by kernel_rfl) (by kernel_rfl) (fun _ _ _ h => h) (by rfl) (by intro w' k; have hq := HC1.out w' k; clear k; go_simp) ?_
      simp only [Act.put, List.setIfInBounds_toArray, List.set_cons_zero, List.set_cons_succ]
      refine bY (i := 9) (x := 105) (v := .int .u8 period) rfl (by decide) (by decide) (by kernel_rfl) (by kernel_rfl) (by kernel_rfl) (fun _ _ _ h => h) (by rfl) (by intro w' k; go_simp) ?_
      simp only [Act.put, List.setIfInBounds_toArray, List.set_cons_zero, List.set_cons_succ]
      refine bY (i := 10) (x := 106) (v := .pointer (some ⟨w.heap.size, 2, none⟩)) rfl (by decide) (by decide) (by kernel_rfl) (by kernel_rfl) (by kernel_rfl) (fun _ _ _ h => h) (by rfl) (by intro w' k; go_simp) ?_
      simp only [Act.put, List.setIfInBounds_toArray, List.set_cons_zero, List.set_cons_succ]
      refine bY (i := 11) (x := 107) (v := .bool group) rfl (by decide) (by decide) (by kernel_rfl) (by kernel_rfl) (by kernel_rfl) (fun _ _ _ h => h) (by rfl) (by intro w' k; have hq := HC2.out w' k; clear k; go_simp) ?_
      simp only [Act.put, List.setIfInBounds_toArray, List.set_cons_zero, List.set_cons_succ]
      refine bC (i := 12) (x := 108) (v := .int .i64 fl) 23 #[.bool group, .int .i64 1] rfl (by decide) (by decide) (by kernel_rfl) (by kernel_rfl) (by kernel_rfl) (fun _ _ _ h => h) (by rfl) (by intro w'; go_simp) (fun w' k => HFL.out w') ?_
      simp only [Act.put, List.setIfInBounds_toArray, List.set_cons_zero, List.set_cons_succ]
      refine bY (i := 13) (x := 109) (v := .int .i64 (F : Int)) rfl (by decide) (by decide) (by kernel_rfl) (by kernel_rfl) (by kernel_rfl) (fun _ _ _ h => h) (by rfl) (by intro w' k; go_simp) ?_
      simp only [Act.put, List.setIfInBounds_toArray, List.set_cons_zero, List.set_cons_succ]
      refine bY (i := 14) (x := 110) (v := .int .i64 (fl + (F : Int))) rfl (by decide) (by decide) (by kernel_rfl) (by kernel_rfl) (by kernel_rfl) (fun _ _ _ h => h) (by rfl) (by intro w' k; go_simp) ?_
      simp only [Act.put, List.setIfInBounds_toArray, List.set_cons_zero, List.set_cons_succ]
      refine bY (i := 15) (x := 111) (v := .int .u8 (fl + (F : Int))) rfl (by decide) (by decide) (by kernel_rfl) (by kernel_rfl) (by kernel_rfl) (fun _ _ _ h => h) (by rfl) (by intro w' k; go_simp) ?_
      simp only [Act.put, List.setIfInBounds_toArray, List.set_cons_zero, List.set_cons_succ]
      refine bB rfl (by kernel_rfl) (by simp) (by intro w'; go_simp) ?_
      intro g5 hg5
      simp only [Act.put, List.setIfInBounds_toArray, List.set_cons_zero, List.set_cons_succ]
      refine bY (i := 17) (x := 8) (v := .slice (some ⟨g5, 0, none⟩) 5 5) rfl (by decide) (by decide) (by kernel_rfl) (by kernel_rfl) (by kernel_rfl) (fun _ _ _ h => h) (by rfl) (by intro w' k; go_simp) ?_
      simp only [Act.put, List.setIfInBounds_toArray, List.set_cons_zero, List.set_cons_succ]
      refine bDone (g := g5) (by kernel_rfl) (by kernel_rfl) rfl fun w6 hg6 hrow6 => ?_
      have HG6 := Lib.hid hg6
      have HOW : Hid (Own wr.heap.size w6 (.slice (some ⟨g5, 0, none⟩) 5 5) [5, 3 + (S : Int), count, period, fl + (F : Int)]) := own_row hrow6 rfl rfl hg5 (by simp)
      clear hrow6 hg6 hg5 HFL HC0 HC1 HC2
      go_wp2_with (at_builtin; refine app_bytes rfl _ _ rfl wr [5, 3 + (S : Int), count, period, fl + (F : Int)] (partOf xs) _ rfl ?c1 ?c2 ⟨g, 0, none⟩ S S rfl ?c3 ?c4 ?c5 ?_)
      case c1 => exact HOW.out
      case c2 => exact HG6.out
      case c3 => exact HPL.out
      case c4 => exact HP.out w6 HG6.out
      case c5 => have := HSS.out; simp; omega
      intro v' w' hown hgro
      have HO := Lib.hid hown
      have HGR := Lib.hid hgro
      clear hown hgro
      go_wp2_with fail
      go_ret2
      refine ⟨v', rfl, HW.out.trans HGR.out, ?_⟩
      have ho := HO.out.weak HW.out.size
      rw [HTL.out]
      rw [show 3 + (S : Int) = (S : Int) + 3 by omega, show fl + (F : Int) = (F : Int) + fl by omega] at ho
      simpa using ho
end Go.Proofs.YtchoeafkjgcmbaaDoor
