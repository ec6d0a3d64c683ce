/-
  THE WALK OF tim.Bytes: an element as bytes, or that it may not be. Conditions: the stations lie where the slice says ('LieI'); one sentinel's own.
-/
import Derived.Test.YtchoeafkjgcmbaaDoorTim
import Derived.Deep.Cut
import Derived.Deep.OwnRows
import Derived.Laws.OwnMore
import Derived.Test.YtchoeafkjgcmbaaDoorCalm2
namespace Go.Proofs.YtchoeafkjgcmbaaDoor
open Go.RowKit

theorem tim_bad (count period : Int) (group : Bool) (p : Option Addr) (cap : Nat) (xs : List Int) (v : Value) (w : World) (h : LieI w p xs) (hlen : xs.length ≤ 100000) (hok : ¬ okT count period xs) (hv : w.cell? ⟨0, 0, none⟩ = some v) (hlt : 0 < w.heap.size) :
    Calls Tryd.prog 9 #[timV count period group (.slice p xs.length cap)] w fun e w' => e = .returned (.tuple #[.slice none 0 0, v]) ∧ Gro none w w' := by
  have HM := Lib.hid (fun w' (k : Gro none w w') => may_any count period group p cap xs w' (h.gro k (by simp)) hlen)
  rw [decide_eq_false hok] at HM
  have HV := Lib.hid (fun w' (k : Gro none w w') => (k.cell (p := ⟨0, 0, none⟩) hlt (by simp)).trans hv)
  clear h hlen hok hv hlt
  unfold timV at *
  generalize xs.length = n at *
  go_enter Tryd.func9, Tryd.ntmps9
  go_wp2_with fail
  refine (HM.out _ ((Gro.refl _ _).alloc _)).mono ?_
  rintro e w1 ⟨rfl, hg⟩
  have HG := Lib.hid (((Gro.refl none w).alloc _).trans hg)
  have hv := HV.out _ HG.out
  clear hg
  go_wp2_with fail
  go_region
  all_goals (try go_wp2_with fail)
  all_goals go_ret2
  all_goals exact ⟨rfl, HG.out.drew⟩

theorem Gro.new_row {a b c : World} {g : Nat} (h : Gro none a b) (k : Gro (some g) b c) (hg : a.heap.size ≤ g) : Gro none a c :=
  ⟨k.os.trans h.os, k.output.trans h.output, Nat.le_trans h.size k.size, fun i hi _ => (k.block i (Nat.lt_of_lt_of_le hi h.size) (by simp; omega)).trans (h.block i hi (by simp))⟩
/-- The row of bits as it lies. -/
def rowA (xs : List Int) : Array Value := ((rowOf xs).map (Value.int .u8)).toArray
theorem rowA_size (xs : List Int) : (rowA xs).size = 251 := by simp [rowA, rowOf_len]
theorem rowA_get (xs : List Int) (j : Nat) (h : j < 251) : (rowA xs)[j]? = some (.int .u8 (byteOf xs j)) := by
  unfold rowA
  rw [List.getElem?_toArray, List.getElem?_map, List.getElem?_eq_getElem (by rw [rowOf_len]; exact h)]
  simp [rowOf]
theorem rowA_nil : madeCells #[.int .u8 0] 251 = rowA [] := by
  unfold rowA
  rw [rowOf_nil]
  apply Array.toList_inj.1
  rw [toList_madeCells_one, List.map_replicate]
theorem rowA_app (xs : List Int) (a : Int) : rowA (xs ++ [a]) = (rowA xs).setIfInBounds (a.toNat / 8) (.int .u8 ((byteOf xs (a.toNat / 8) ||| 2 ^ (a.toNat % 8) : Nat) : Int)) := by
  unfold rowA
  rw [rowOf_app, List.map_set]
  simp
theorem make_bits (w : World) : (Instr.makeSlice 26 (.int .i64 251) (.int .i64 251)).run Tryd.prog w = .ok (.slice (some ⟨w.heap.size, 0, none⟩) 251 251) (w.alloc (.cells (rowA []) 5)) := by
  have h := run_make_row' (P := Tryd.prog) 26 5 (.int .u8 0) 1 Tryd.underlying26 (by kernel_rfl) rfl .i64 .i64 251 (by decide) (by decide) w
  rw [rowA_nil] at h
  exact h
theorem or_u8 (a b : Nat) (ha : a < 256) (hb : b < 256) : bits .or .u8 (a : Int) (b : Int) = ((a ||| b : Nat) : Int) := by
  have hx : a ||| b < 2 ^ 8 := Nat.or_lt_two_pow (by omega) (by omega)
  have h1 : (BitVec.ofInt 8 (a : Int)).toNat = a := by
    rw [BitVec.ofInt_natCast, BitVec.toNat_ofNat]; exact Nat.mod_eq_of_lt (by omega)
  have h2 : (BitVec.ofInt 8 (b : Int)).toNat = b := by
    rw [BitVec.ofInt_natCast, BitVec.toNat_ofNat]; exact Nat.mod_eq_of_lt (by omega)
  show IntKind.u8.wrap ((BitVec.ofInt 8 (a : Int) ||| BitVec.ofInt 8 (b : Int)).toNat : Int) = _
  rw [BitVec.toNat_or, h1, h2]
  simp [IntKind.wrap, IntKind.bits, IntKind.signed]
  omega
theorem or_bit (y m : Nat) (hy : y < 256) : bits .or .u8 (y : Int) (2 ^ (m % 8) % 256) = ((y ||| 2 ^ (m % 8) : Nat) : Int) := by
  have h2 : 2 ^ (m % 8) < 256 := Nat.pow_lt_pow_right (a := 2) (n := 8) (by decide) (Nat.mod_lt _ (by decide))
  have e : (2 : Int) ^ (m % 8) % 256 = ((2 ^ (m % 8) : Nat) : Int) := by
    have h : ((2 ^ (m % 8) : Nat) : Int) = (2 : Int) ^ (m % 8) := Int.natCast_pow 2 _
    have hz : ∀ z : Nat, z < 256 → (z : Int) % 256 = z := fun z hz => by omega
    rw [← h, hz _ h2]
  rw [e]
  exact or_u8 _ _ hy h2
set_option maxRecDepth 100000 in
theorem even_i64 : ∀ n : Nat, n < 256 → bits .andNot .i64 (n : Int) 1 = ((n / 2 * 2 : Nat) : Int) := by decide
theorem first_one (m : Nat) (h : m < 2008) : bits .andNot .i64 ((m : Int) / 8) 1 = (firstOf ([] ++ [(m : Int)]) : Int) := (even_i64 (m / 8) (by omega)).trans rfl
set_option maxHeartbeats 4000000 in
set_option maxRecDepth 100000 in
theorem tim_any (count period : Int) (group : Bool) (p : Option Addr) (cap : Nat) (xs : List Int) (w : World) (h : LieI w p xs) (hlen : xs.length ≤ 100000) (hok : okT count period xs) :
    Calls Tryd.prog 9 #[timV count period group (.slice p xs.length cap)] w fun e w' => ∃ v, e = .returned (.tuple #[v, .nilIface]) ∧ Gro none w w' ∧ Own w.heap.size w' v (timL count period group xs) := by
  have HM := Lib.hid (fun w' (k : Gro none w w') => may_any count period group p cap xs w' (h.gro k (by simp)) hlen)
  rw [decide_eq_true hok] at HM
  have HX := Lib.hid (fun w' (k : Gro none w w') => h.gro k (by simp))
  have HN := Lib.hid hlen
  have HK := Lib.hid hok
  clear h hlen hok
  unfold timV at *
  generalize hn : xs.length = n at *
  have HLN := Lib.hid hn
  clear hn
  go_enter Tryd.func9, Tryd.ntmps9
  go_wp2_with fail
  have hg0 : Gro none w (w.alloc (.cells #[.int .i64 count, .int .i64 period, .bool group, .slice p n cap] 24)) := (Gro.refl _ _).alloc _
  have hr0 := heap_alloc_new w (.cells #[.int .i64 count, .int .i64 period, .bool group, .slice p n cap] 24)
  generalize w.alloc (.cells #[.int .i64 count, .int .i64 period, .bool group, .slice p n cap] 24) = w1 at *
  refine (HM.out _ hg0).mono ?_
  rintro e w2 ⟨rfl, hg⟩
  have HG := Lib.hid (hg0.trans hg)
  have HR := Lib.hid ((hg.block _ (blk_in hr0) (by simp)).trans hr0)
  clear hg hg0 hr0 HM
  have hmk := make_bits
  go_upto_region 4 with fail
  have hg3 : Gro none w2 (w2.alloc (.cells (rowA []) 5)) := (Gro.refl _ _).alloc _
  have hz3 := heap_alloc_new w2 (.cells (rowA []) 5)
  have hr3 := (hg3.block _ (blk_in HR.out) (by simp)).trans HR.out
  have hgw := HG.out.trans hg3
  have hge : w.heap.size ≤ w2.heap.size := HG.out.size
  have hlt : w.heap.size < w2.heap.size := blk_in HR.out
  generalize w2.alloc (.cells (rowA []) 5) = w3 at *
  generalize w2.heap.size = g at *
  clear hmk hg3 HG HR
  have HR3 := Lib.hid hr3
  have HZ3 := Lib.hid hz3
  have HGW := Lib.hid hgw
  have HLT := Lib.hid hlt
  have c3 := cell_of_row w3 w.heap.size 3 _ _ _ hr3
  simp only [List.getElem?_toArray, List.getElem?_cons_zero, List.getElem?_cons_succ] at c3
  clear hr3 hz3 hgw hlt hge
  go_upto_region 6 with fail
  clear c3
  go_loopw [5, 6, 19] (fun f l i wr => ∃ k : Nat, k ≤ n ∧ i = .int .i64 k ∧ f = .int .i64 (firstOf (xs.take k)) ∧ l = .int .i64 (lastOf (xs.take k)) ∧ Gro (some g) w3 wr ∧ wr.heap[g]? = some (.cells (rowA (xs.take k)) 5 (0, 0))) (fun _ _ i _ => n - (intOf i).toNat)
  case atStart => exact ⟨0, Nat.zero_le _, rfl, by simp [firstOf], by simp [lastOf], Gro.refl _ _, by rw [List.take_zero]; exact HZ3.out⟩
  case round =>
    obtain ⟨k, hk, rfl, rfl, rfl, hg, hrow⟩ := hrel
    have HROW := Lib.hid hrow
    have HGG := Lib.hid hg
    by_cases h6 : k < n
    · have HW := Lib.hid (HGW.out.new_row hg (Nat.le_of_lt HLT.out))
      obtain ⟨b, o, rfl, c1⟩ := HX.out _ HW.out k (by have := HLN.out; omega)
      have hp := rising_pos HK.out.2.2 (show k < xs.length by have := HLN.out; omega)
      have HTK := Lib.hid (take_next xs k (by have := HLN.out; omega))
      obtain ⟨m, hm⟩ := Int.eq_ofNat_of_zero_le (show 0 ≤ xs.getD k 0 by omega)
      rw [hm] at c1 hp HTK
      have i0 : (0 : Int) ≤ (k : Int) := by omega
      have i1 : (k : Int) < (n : Int) := by omega
      have i2 := HN.out
      have q0 : m / 8 < 251 := by omega
      have q1 : m < 2008 := by omega
      have c2 := cell_of_row wr g (m / 8) _ _ _ hrow
      rw [rowA_get _ _ q0] at c2
      have hf := frozen_of_row wr g (m / 8) _ _ hrow
      have HB := Lib.hid (byteOf_lt (xs.take k) (m / 8))
      generalize hy : byteOf (xs.take k) (m / 8) = y at *
      have HY := Lib.hid hy
      have hrow2 := fun v => heap_setCell_same wr g (m / 8) _ _ v hrow
      have HR2 := Lib.hid hrow2
      have HFO := Lib.hid (firstOf_take xs)
      clear hy hm hp hg hrow hrow2
      go_upto_region 8 with fail
      go_region
      rw [or_bit y m HB.out]
      have hg5 : Gro (some g) w3 (wr.setCell ⟨g, m / 8, none⟩ (.int .u8 ((y ||| 2 ^ (m % 8) : Nat) : Int))).drew := (HGG.out.setCell _ _).drew
      have hr5 : (wr.setCell ⟨g, m / 8, none⟩ (.int .u8 ((y ||| 2 ^ (m % 8) : Nat) : Int))).drew.heap[g]? = some (.cells (rowA (xs.take (k + 1))) 5 (0, 0)) := by
        rw [HTK.out, rowA_app]
        rw [← HY.out]
        exact HR2.out _
      generalize (wr.setCell ⟨g, m / 8, none⟩ (.int .u8 ((y ||| 2 ^ (m % 8) : Nat) : Int))).drew = w5 at *
      have HG5 := Lib.hid hg5
      have HR5 := Lib.hid hr5
      clear hg5 hr5 HROW HGG HR2 c2 hf c1
      by_cases hk0 : k = 0
      · subst hk0
        go_wp2_with fail
        go_roundw
        case rel => exact ⟨1, by omega, by go_num, by rw [HTK.out, List.take_zero, first_one _ q1], by rw [HTK.out, lastOf_app]; rfl, HG5.out, HR5.out⟩
        case measure => simp [intOf]; omega
      · have j0 : ¬ (k : Int) = 0 := by omega
        go_wp2_with fail
        go_roundw
        case rel => exact ⟨k + 1, by omega, by go_num, by rw [HFO.out k (by omega), HFO.out (k + 1) (by omega)], by rw [HTK.out, lastOf_app]; rfl, HG5.out, HR5.out⟩
        case measure => simp [intOf]; omega
    · obtain rfl : k = n := by omega
      clear HX
      have ht : xs.take k = xs := List.take_of_length_le (by have := HLN.out; omega)
      rw [ht] at hrow HROW
      simp only [ht]
      have hr3 := (hg.block _ (blk_in HR3.out) (by have := HLT.out; simp; omega)).trans HR3.out
      have c0 := cell_of_row wr w.heap.size 0 _ _ _ hr3
      have c1 := cell_of_row wr w.heap.size 1 _ _ _ hr3
      have c2 := cell_of_row wr w.heap.size 2 _ _ _ hr3
      simp only [List.getElem?_toArray, List.getElem?_cons_zero, List.getElem?_cons_succ] at c0 c1 c2
      have hs := sizeOf_pos HK.out.2.2
      have hfl := first_le_last HK.out.2.2
      have hll := lastOf_lt HK.out.2.2
      have he := firstOf_even xs
      have hsz : sizeOf' xs = lastOf xs + 1 - firstOf xs := rfl
      have hpart : LieA wr ⟨g, firstOf xs, none⟩ (partOf xs) := by
        refine lie_mid (row := none) (partOf xs) hrow (Gro.refl _ _) (by simp) fun j hj => ?_
        rw [partOf_len] at hj
        rw [rowA_get _ _ (by omega), partOf_getD _ _ hj]
      have HP := Lib.hid hpart
      have HPL := Lib.hid (partOf_len xs)
      have HTL : Hid (timL count period group xs = [5, (sizeOf' xs : Int) + 3, count, period, (firstOf xs : Int) + if group then 1 else 0] ++ partOf xs) := rfl
      generalize firstOf xs = F at *
      generalize lastOf xs = L at *
      generalize sizeOf' xs = S at *
      have i0 : (0 : Int) ≤ (F : Int) := by omega
      have i1 : (F : Int) ≤ (L : Int) + 1 := by omega
      have i2 : (L : Int) + 1 ≤ 251 := by omega
      have i3 : ¬ (251 : Int) = (F : Int) := by omega
      have i4 : ¬ 251 = F := by omega
      have i5 : F ≤ L + 1 := by omega
      have i6 : L + 1 ≤ 251 := by omega
      have wF : IntKind.u8.wrap (F : Int) = F := by rw [IntKind.wrap_u8]; omega
      have wF1 : IntKind.u8.wrap ((F : Int) + 1) = (F : Int) + 1 := by rw [IntKind.wrap_u8]; omega
      have wL1 : IntKind.i64.wrap ((L : Int) + 1) = (L : Int) + 1 := by rw [IntKind.wrap_i64]; omega
      have wc : IntKind.u8.wrap count = count := by have := HK.out; unfold okT at this; rw [IntKind.wrap_u8]; omega
      have wp_ : IntKind.u8.wrap period = period := by have := HK.out; unfold okT at this; rw [IntKind.wrap_u8]; omega
      clear hfl hll he hs hpart hrow hr3
      have hgg := hg
      clear hg
      have HW := Lib.hid (HGW.out.new_row hgg (Nat.le_of_lt HLT.out))
      have e3 : ((L + 1 - F : Nat) : Int) + 5 - 2 = (S : Int) + 3 := by omega
      have hs2 : S = L + 1 - F := hsz
      have h251 : S ≤ 251 := by omega
      have HE := Lib.hid (And.intro e3 (And.intro hs2 h251))
      clear hgg e3 hs2 h251
      cases group
      · go_wp2_with (at_builtin; refine app_bytes rfl _ _ rfl wr [5, ((L + 1 - F : Nat) : Int) + 5 - 2, count, period, (F : Int)] (partOf xs) _ rfl ?c1 ?c2 ⟨g, F, none⟩ (L + 1 - F) (251 - F) rfl ?c3 ?c4 ?c5 ?_)
        case c1 => exact own_new wr _ _ _ rfl rfl 5 rfl (by simp)
        case c2 => exact (Gro.refl _ _).alloc _
        case c3 => rw [HPL.out]; exact HE.out.2.1
        case c4 =>
          intro j hj
          have hc := HP.out j hj
          exact (((Gro.refl none wr).alloc _).cell (block_lt_of_cell hc) (by simp)).trans hc
        case c5 => have := HE.out.2.2; have := HE.out.2.1; simp; omega
        intro v' w' hown hgro
        have HO := Lib.hid hown
        have HGR := Lib.hid hgro
        clear hown hgro
        go_wp2_with fail
        go_ret2
        refine ⟨v', rfl, HW.out.trans HGR.out, ?_⟩
        have ho := HO.out.weak HW.out.size
        rw [HE.out.1] at ho
        rw [HTL.out]
        simpa using ho
      · go_wp2_with (at_builtin; refine app_bytes rfl _ _ rfl wr [5, ((L + 1 - F : Nat) : Int) + 5 - 2, count, period, (F : Int) + 1] (partOf xs) _ rfl ?c1 ?c2 ⟨g, F, none⟩ (L + 1 - F) (251 - F) rfl ?c3 ?c4 ?c5 ?_)
        case c1 => exact own_new wr _ _ _ rfl rfl 5 rfl (by simp)
        case c2 => exact (Gro.refl _ _).alloc _
        case c3 => rw [HPL.out]; exact HE.out.2.1
        case c4 =>
          intro j hj
          have hc := HP.out j hj
          exact (((Gro.refl none wr).alloc _).cell (block_lt_of_cell hc) (by simp)).trans hc
        case c5 => have := HE.out.2.2; have := HE.out.2.1; simp; omega
        intro v' w' hown hgro
        have HO := Lib.hid hown
        have HGR := Lib.hid hgro
        clear hown hgro
        go_wp2_with fail
        go_ret2
        refine ⟨v', rfl, HW.out.trans HGR.out, ?_⟩
        have ho := HO.out.weak HW.out.size
        rw [HE.out.1] at ho
        rw [HTL.out]
        simpa using ho
end Go.Proofs.YtchoeafkjgcmbaaDoor
