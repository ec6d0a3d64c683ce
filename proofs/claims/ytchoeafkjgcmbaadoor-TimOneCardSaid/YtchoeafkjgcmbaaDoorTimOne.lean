/-
  THE WALK OF TimOne: an element of one station, of two; it answers true. Conditions: four sentinels' own ('Four').
-/
import Derived.Test.YtchoeafkjgcmbaaDoorTimK
namespace Go.Proofs.YtchoeafkjgcmbaaDoor
open Go.RowKit

theorem lieI_row {w : World} {b : Nat} {C : Array Value} (xs : List Int) (h : w.heap[b]? = some (.cells C 3 (0, 0))) (hC : C = (xs.map (Value.int .i64)).toArray) : LieI w (some ⟨b, 0, none⟩) xs := by
  intro k hk
  refine ⟨b, 0, rfl, ?_⟩
  rw [cell_of_row _ _ _ _ _ _ h, Nat.zero_add, hC, List.getElem?_toArray, List.getElem?_map, List.getElem?_eq_getElem hk, List.getD_eq_getElem?_getD, List.getElem?_eq_getElem hk]
  rfl
theorem one_first (a : Nat) : (firstOf [(a : Int)] : Int) = (a : Int) / 16 * 2 := by
  unfold firstOf
  simp only [List.headD_cons, Int.toNat_natCast]
  omega
theorem one_size (a : Nat) : ((sizeOf' [(a : Int)] : Nat) : Int) = (a : Int) / 8 % 2 + 1 := by
  have h1 : lastOf [(a : Int)] = a / 8 := rfl
  have h2 : firstOf [(a : Int)] = a / 8 / 2 * 2 := rfl
  unfold sizeOf'
  rw [h1, h2]
  omega
theorem one_last (a : Nat) : (partOf [(a : Int)]).getD (sizeOf' [(a : Int)] - 1) 0 = (2 : Int) ^ (a % 8) % 256 := by
  have h1 : lastOf [(a : Int)] = a / 8 := rfl
  have h2 : firstOf [(a : Int)] = a / 8 / 2 * 2 := rfl
  have hs : sizeOf' [(a : Int)] = a / 8 + 1 - a / 8 / 2 * 2 := rfl
  rw [partOf_getD _ _ (by rw [hs]; omega), hs, h2, show a / 8 / 2 * 2 + (a / 8 + 1 - a / 8 / 2 * 2 - 1) = a / 8 by omega]
  have hb : byteOf [(a : Int)] (a / 8) = 2 ^ (a % 8) := by
    unfold byteOf
    simp
  rw [hb]
  have h3 : 2 ^ (a % 8) < 256 := Nat.pow_lt_pow_right (a := 2) (n := 8) (by decide) (Nat.mod_lt _ (by decide))
  have h : ((2 ^ (a % 8) : Nat) : Int) = (2 : Int) ^ (a % 8) := Int.natCast_pow 2 _
  have hz : ∀ z : Nat, z < 256 → (z : Int) % 256 = z := fun z hz => by omega
  rw [← h, hz _ h3]
theorem two_size (a b : Nat) (h : a < b) : ((sizeOf' [(a : Int), (b : Int)] : Nat) : Int) = (b : Int) / 8 - (a : Int) / 16 * 2 + 1 := by
  have h1 : lastOf [(a : Int), (b : Int)] = b / 8 := rfl
  have h2 : firstOf [(a : Int), (b : Int)] = a / 8 / 2 * 2 := rfl
  unfold sizeOf'
  rw [h1, h2]
  omega
theorem one_ok (a : Nat) (h1 : 1 ≤ a) (h2 : a ≤ 2007) : okT 1 2 [(a : Int)] := by
  refine ⟨by decide, by decide, fun j hj => ?_⟩
  obtain rfl : j = 0 := by simp at hj; omega
  simp
  omega
theorem two_ok (a b : Nat) (h1 : 1 ≤ a) (h : a < b) (h2 : b ≤ 2007) : okT 0 2 [(a : Int), (b : Int)] := by
  refine ⟨by decide, by decide, fun j hj => ?_⟩
  rcases (show j = 0 ∨ j = 1 by simp at hj; omega) with rfl | rfl
  · simp
    omega
  · simp
    omega
theorem add_one {q : Nat} : ∃ a : Nat, (q : Int) + 1 = (a : Int) ∧ a = q + 1 := ⟨q + 1, by omega, rfl⟩
set_option maxHeartbeats 8000000 in
set_option maxRecDepth 100000 in
theorem one6_any (aa bb : Int) (A : Nat → Addr) (W : World) (hs : Four W.heap.size W A) :
    Calls Tryd.prog 6 #[.int .i64 aa, .int .i64 bb] W fun e w' => e = .returned (.bool true) ∧ Far W.heap.size W w' := by
  obtain ⟨q, hq⟩ := Int.eq_ofNat_of_zero_le (Int.emod_nonneg aa (show (2007 : Int) ≠ 0 by decide))
  have hq2 : q < 2007 := by have := Int.emod_lt_of_pos aa (show (0 : Int) < 2007 by decide); omega
  have HQ := Lib.hid (fun w => number_at aa 2007 q w hq (by decide) (by decide))
  obtain ⟨r, hr⟩ := Int.eq_ofNat_of_zero_le (Int.emod_nonneg bb (show (2007 : Int) ≠ 0 by decide))
  have hr2 : r < 2007 := by have := Int.emod_lt_of_pos bb (show (0 : Int) < 2007 by decide); omega
  have HK := Lib.hid (fun w => number_at bb 2007 r w hr (by decide) (by decide))
  clear hq hr
  have HS := Lib.hid (fun w' (k : Gro none W w') => (show Four W.heap.size w' A from hs.far fun i hi => k.block i hi (by simp)))
  clear hs
  go_enter Tryd.func6, Tryd.ntmps6
  go_wp2_with fail
  refine (first6_any W).mono ?_
  rintro e w1 ⟨rfl, hg1⟩
  have HG1 := Lib.hid hg1
  clear hg1
  go_wp2_with fail
  refine (HQ.out _).mono ?_
  rintro e w' ⟨rfl, rfl⟩
  go_wp2_with fail
  refine (HK.out _).mono ?_
  rintro e w' ⟨rfl, rfl⟩
  obtain ⟨a, ha, ha'⟩ := add_one (q := q)
  obtain ⟨b, hb, hb'⟩ := add_one (q := r)
  rw [ha]
  have HBB := Lib.hid hb
  have a1 : 1 ≤ a := by omega
  have a2 : a ≤ 2007 := by omega
  have b1 : 1 ≤ b := by omega
  have b2 : b ≤ 2007 := by omega
  clear ha ha' HQ HK hq2 hb hb' b1
  go_upto_region 6 with fail
  rw [HBB.out]
  have b1 : 1 ≤ b := by have := HBB.out; omega
  clear HBB hr2
  go_wp2_with fail
  have HG2 := Lib.hid (HG1.out.alloc (.cells #[.int .i64 (a : Int)] 3))
  refine (tim_any 1 2 false (some ⟨w1.heap.size, 0, none⟩) 1 [(a : Int)] _ (lieI_row [(a : Int)] (heap_alloc_new w1 (.cells #[.int .i64 (a : Int)] 3)) rfl) (by simp) (one_ok a a1 a2)).mono ?_
  rintro e w3 ⟨v, rfl, hg3, ho⟩
  obtain ⟨q0, cp, rfl, hcp, hlie, -⟩ := ho.lie
  have hlen := timL_len 1 2 false [(a : Int)]
  obtain ⟨g, o, rfl, -⟩ := hlie 0 (by omega)
  have HG3 := Lib.hid (HG2.out.trans hg3)
  have c4 : w3.cell? ⟨g, o + 4, none⟩ = some (.int .u8 ((a : Int) / 16 * 2)) := by
    obtain ⟨b', o', e, hc⟩ := hlie 4 (by omega)
    cases e
    rw [hc, (tim_at 1 2 false [(a : Int)]).2.2.2.2.1, one_first]
    simp
  have hs := one_size a
  have cl : w3.cell? ⟨g, o + (sizeOf' [(a : Int)] + 5 - 1), none⟩ = some (.int .u8 ((2 : Int) ^ (a % 8) % 256)) := by
    obtain ⟨b', o', e, hc⟩ := hlie (sizeOf' [(a : Int)] + 5 - 1) (by omega)
    cases e
    rw [hc, show sizeOf' [(a : Int)] + 5 - 1 = (sizeOf' [(a : Int)] - 1) + 5 by omega, tim_part, one_last]
  rw [hlen]
  clear hlie ho hg3 hcp hlen
  generalize hm : sizeOf' [(a : Int)] + 5 = m at *
  have e1 : (m : Int) = 6 + (a : Int) / 8 % 2 := by omega
  have j1 : ((m : Int) != 6 + (a : Int) / 8 % 2) = false := by simp; omega
  have j2 : (0 : Int) ≤ (m : Int) - 1 := by omega
  have j3 : (m : Int) - 1 < (m : Int) := by omega
  have j4 : IntKind.i64.wrap ((m : Int) - 1) = (m : Int) - 1 := by rw [IntKind.wrap_i64]; omega
  have j5 : (4 : Int) < (m : Int) := by omega
  have j6 : m ≤ 7 := by omega
  have j7 : IntKind.i64.wrap ((a : Int) / 16 * 2) = (a : Int) / 16 * 2 := by rw [IntKind.wrap_i64]; omega
  clear hs e1 hm
  go_upto_region 10 with fail
  clear c4 cl
  by_cases hab : a = b
  · subst hab
    go_wp2_with fail
    go_ret
    exact ⟨rfl, (Far.refl _ _).gro HG3.out (Nat.le_refl _) (fun _ e => by cases e)⟩
  · have n0 : ¬ (a : Int) = (b : Int) := by omega
    rcases (show a < b ∨ b < a by omega) with hlt | hlt
    · have n1 : (a : Int) < (b : Int) := by omega
      have HG4 := Lib.hid (HG3.out.alloc (.cells #[.int .i64 (a : Int), .int .i64 (b : Int)] 3))
      go_wp2_with fail
      refine (tim_any 0 2 false (some ⟨w3.heap.size, 0, none⟩) 2 [(a : Int), (b : Int)] _ (lieI_row [(a : Int), (b : Int)] (heap_alloc_new w3 (.cells #[.int .i64 (a : Int), .int .i64 (b : Int)] 3)) rfl) (by simp) (two_ok a b a1 hlt b2)).mono ?_
      rintro e w5 ⟨v, rfl, hg, ho⟩
      obtain ⟨q1, cp1, rfl, hcp, hlie, -⟩ := ho.lie
      have HG5 := Lib.hid (HG4.out.trans hg)
      have HH := Lib.hid (fun x (hx : x ∈ [(a : Int), (b : Int)]) w' (k : Gro none w5 w') => (has_written 0 2 false [(a : Int), (b : Int)] x (two_ok a b a1 hlt b2) q1 cp1 W.heap.size A w' (HS.out w' (HG5.out.trans k)) (HG5.out.trans k).size hcp (hlie.gro k (by simp))).mono fun e w'' ⟨he, hg⟩ => (⟨he.trans (ret_bool (decide_eq_true hx)), hg⟩ : e = Ending.returned (.bool true) ∧ Gro none w' w''))
      rw [timL_len] at HH ⊢
      have hs2 := two_size a b hlt
      generalize hm2 : sizeOf' [(a : Int), (b : Int)] + 5 = m2 at *
      have e2 : (m2 : Int) = 5 + (b : Int) / 8 - (a : Int) / 16 * 2 + 1 := by omega
      have HA := Lib.hid (HH.out (a : Int) (by simp))
      have HB := Lib.hid (HH.out (b : Int) (by simp))
      clear hs2 hm2 hlie hcp ho hg HH
      have j9 : ((m2 : Int) == 5 + (b : Int) / 8 - (a : Int) / 16 * 2 + 1) = true := by simp; omega
      clear e2
      go_wp2_with fail
      refine (HA.out _ (Gro.refl _ _)).mono ?_
      rintro e w6 ⟨rfl, hg⟩
      have HG6 := Lib.hid hg
      clear hg
      go_wp2_with fail
      refine (HB.out _ HG6.out).mono ?_
      rintro e w7 ⟨rfl, hg⟩
      have HG7 := Lib.hid (HG5.out.trans (HG6.out.trans hg))
      clear hg
      go_wp2_with fail
      go_ret
      exact ⟨by first | rfl | exact ret_bool (by simp [*]), (Far.refl _ _).gro HG7.out (Nat.le_refl _) (fun _ e => by cases e)⟩
    · have n1 : (b : Int) < (a : Int) := by omega
      have HG4 := Lib.hid (HG3.out.alloc (.cells #[.int .i64 (b : Int), .int .i64 (a : Int)] 3))
      go_wp2_with fail
      refine (tim_any 0 2 false (some ⟨w3.heap.size, 0, none⟩) 2 [(b : Int), (a : Int)] _ (lieI_row [(b : Int), (a : Int)] (heap_alloc_new w3 (.cells #[.int .i64 (b : Int), .int .i64 (a : Int)] 3)) rfl) (by simp) (two_ok b a b1 hlt a2)).mono ?_
      rintro e w5 ⟨v, rfl, hg, ho⟩
      obtain ⟨q1, cp1, rfl, hcp, hlie, -⟩ := ho.lie
      have HG5 := Lib.hid (HG4.out.trans hg)
      have HH := Lib.hid (fun x (hx : x ∈ [(b : Int), (a : Int)]) w' (k : Gro none w5 w') => (has_written 0 2 false [(b : Int), (a : Int)] x (two_ok b a b1 hlt a2) q1 cp1 W.heap.size A w' (HS.out w' (HG5.out.trans k)) (HG5.out.trans k).size hcp (hlie.gro k (by simp))).mono fun e w'' ⟨he, hg⟩ => (⟨he.trans (ret_bool (decide_eq_true hx)), hg⟩ : e = Ending.returned (.bool true) ∧ Gro none w' w''))
      rw [timL_len] at HH ⊢
      have hs2 := two_size b a hlt
      generalize hm2 : sizeOf' [(b : Int), (a : Int)] + 5 = m2 at *
      have e2 : (m2 : Int) = 5 + (a : Int) / 8 - (b : Int) / 16 * 2 + 1 := by omega
      have HA := Lib.hid (HH.out (a : Int) (by simp))
      have HB := Lib.hid (HH.out (b : Int) (by simp))
      clear hs2 hm2 hlie hcp ho hg HH
      have j9 : ((m2 : Int) == 5 + (a : Int) / 8 - (b : Int) / 16 * 2 + 1) = true := by simp; omega
      clear e2
      go_wp2_with fail
      refine (HA.out _ (Gro.refl _ _)).mono ?_
      rintro e w6 ⟨rfl, hg⟩
      have HG6 := Lib.hid hg
      clear hg
      go_wp2_with fail
      refine (HB.out _ HG6.out).mono ?_
      rintro e w7 ⟨rfl, hg⟩
      have HG7 := Lib.hid (HG5.out.trans (HG6.out.trans hg))
      clear hg
      go_wp2_with fail
      go_ret
      exact ⟨by first | rfl | exact ret_bool (by simp [*]), (Far.refl _ _).gro HG7.out (Nat.le_refl _) (fun _ e => by cases e)⟩
end Go.Proofs.YtchoeafkjgcmbaaDoor
