/-
  tim.Has, slices.Contains, muezzinref.Has, SameInts, SameTim, muezzinlaw6.first: what they answer. Conditions: the rows lie where the slices say.
-/
import Derived.Test.YtchoeafkjgcmbaaDoorTimRB
import Derived.Test.YtchoeafkjgcmbaaDoorSameB
namespace Go.Proofs.YtchoeafkjgcmbaaDoor
open Go.RowKit

theorem LieI.at {w : World} {b o : Nat} {xs : List Int} (h : LieI w (some ⟨b, o, none⟩) xs) {k : Nat} (hk : k < xs.length) : w.cell? ⟨b, o + k, none⟩ = some (.int .i64 (xs.getD k 0)) := by
  obtain ⟨b', o', e, hc⟩ := h k hk
  cases e; exact hc
theorem index_int (p : Option Addr) (cap : Nat) (xs : List Int) (x : Int) (w : World) (h : LieI w p xs) (hlen : xs.length ≤ 100000) :
    Calls Tryd.prog 29 #[.slice p xs.length cap, .int .i64 x] w fun e w' => ∃ r : Int, e = .returned (.int .i64 r) ∧ Gro none w w' ∧ (0 ≤ r ↔ x ∈ xs) := by
  have HX := Lib.hid (fun w' (k : Gro none w w') => h.gro k (by simp))
  have HN := Lib.hid hlen
  clear h hlen
  generalize hn : xs.length = n at *
  have HLN := Lib.hid hn
  clear hn
  go_enter Tryd.func29, Tryd.ntmps29
  go_wp2_with fail
  go_loopw [8] (fun i wr => ∃ k : Nat, k ≤ n ∧ i = .int .i64 k ∧ Gro none w wr ∧ ∀ j, j < k → xs.getD j 0 ≠ x) (fun i _ => n - (intOf i).toNat)
  case atStart => exact ⟨0, Nat.zero_le _, rfl, Gro.refl _ _, fun j hj => by omega⟩
  case round =>
    obtain ⟨k, hk, rfl, hg, he⟩ := hrel
    have HE := Lib.hid he
    have HGG := Lib.hid hg
    clear he
    by_cases h6 : k < n
    · obtain ⟨b, o, rfl, c1⟩ := HX.out _ hg k (by have := HLN.out; omega)
      have i0 : (0 : Int) ≤ (k : Int) := by omega
      have i1 : (k : Int) < (n : Int) := by omega
      have i2 := HN.out
      clear hg HX
      by_cases hne : xs.getD k 0 = x
      · have hm : Hid (x ∈ xs) := hne ▸ getD_mem (by have := HLN.out; omega)
        rw [hne] at c1
        clear hne
        go_wp2_with fail
        go_ret
        exact ⟨_, rfl, HGG.out, fun _ => hm.out, fun _ => i0⟩
      · have hb : (x == xs.getD k 0) = false := by simpa using fun h => hne h.symm
        have HT : Hid (∀ j, j < k + 1 → xs.getD j 0 ≠ x) := fun j hj => by
          rcases (show j < k ∨ j = k from by omega) with h' | rfl
          · exact HE.out j h'
          · exact hne
        generalize xs.getD k 0 = v at *
        clear hne
        go_wp2_with fail
        go_roundw
        case rel => exact ⟨k + 1, by omega, by go_num, HGG.out, HT.out⟩
        case measure => simp [intOf]; omega
    · obtain rfl : k = n := by omega
      clear HX
      have hm : Hid (¬ x ∈ xs) := fun hm => by
        obtain ⟨j, hj, e⟩ := mem_getD hm
        exact HE.out j (by have := HLN.out; omega) e
      go_wp2_with fail
      go_ret
      exact ⟨_, rfl, HGG.out, fun h => absurd h (by decide), fun h => absurd h hm.out⟩
theorem contains_any (p : Option Addr) (cap : Nat) (xs : List Int) (x : Int) (w : World) (h : LieI w p xs) (hlen : xs.length ≤ 100000) :
    Calls Tryd.prog 26 #[.slice p xs.length cap, .int .i64 x] w fun e w' => e = .returned (.bool (decide (x ∈ xs))) ∧ Gro none w w' := by
  have HI := Lib.hid (index_int p cap xs x w h hlen)
  clear h hlen
  generalize xs.length = n at *
  go_enter Tryd.func26, Tryd.ntmps26
  go_wp2_with fail
  refine HI.out.mono ?_
  rintro e w1 ⟨r, rfl, hg, hr⟩
  have HR := Lib.hid hr
  have HG := Lib.hid hg
  clear hr hg HI
  go_wp2_with fail
  go_ret
  exact ⟨ret_bool (decide_eq_decide.2 HR.out), HG.out⟩
theorem refHas_any (p : Option Addr) (cap : Nat) (xs : List Int) (x : Int) (w : World) (h : LieI w p xs) (hlen : xs.length ≤ 100000) :
    Calls Tryd.prog 18 #[.slice p xs.length cap, .int .i64 x] w fun e w' => e = .returned (.bool (decide (x ∈ xs))) ∧ Gro none w w' := by
  have HX := Lib.hid (fun w' (k : Gro none w w') => h.gro k (by simp))
  have HN := Lib.hid hlen
  clear h hlen
  generalize hn : xs.length = n at *
  have HLN := Lib.hid hn
  clear hn
  go_enter Tryd.func18, Tryd.ntmps18
  go_wp2_with fail
  go_loopw [5] (fun i wr => ∃ k : Nat, k ≤ n ∧ i = .int .i64 k ∧ Gro none w wr ∧ ∀ j, j < k → xs.getD j 0 ≠ x) (fun i _ => n - (intOf i).toNat)
  case atStart => exact ⟨0, Nat.zero_le _, rfl, Gro.refl _ _, fun j hj => by omega⟩
  case round =>
    obtain ⟨k, hk, rfl, hg, he⟩ := hrel
    have HE := Lib.hid he
    have HGG := Lib.hid hg
    clear he
    by_cases h6 : k < n
    · obtain ⟨b, o, rfl, c1⟩ := HX.out _ hg k (by have := HLN.out; omega)
      have i0 : (0 : Int) ≤ (k : Int) := by omega
      have i1 : (k : Int) < (n : Int) := by omega
      have i2 := HN.out
      clear hg HX
      by_cases hne : xs.getD k 0 = x
      · have hm : Hid (x ∈ xs) := hne ▸ getD_mem (by have := HLN.out; omega)
        rw [hne] at c1
        clear hne
        go_wp2_with fail
        go_ret
        exact ⟨ret_bool (decide_eq_true hm.out).symm, HGG.out⟩
      · have hb : (xs.getD k 0 == x) = false := by simpa using hne
        have HT : Hid (∀ j, j < k + 1 → xs.getD j 0 ≠ x) := fun j hj => by
          rcases (show j < k ∨ j = k from by omega) with h' | rfl
          · exact HE.out j h'
          · exact hne
        generalize xs.getD k 0 = v at *
        clear hne
        go_wp2_with fail
        go_roundw
        case rel => exact ⟨k + 1, by omega, by go_num, HGG.out, HT.out⟩
        case measure => simp [intOf]; omega
    · obtain rfl : k = n := by omega
      clear HX
      have hm : Hid (¬ x ∈ xs) := fun hm => by
        obtain ⟨j, hj, e⟩ := mem_getD hm
        exact HE.out j (by have := HLN.out; omega) e
      go_wp2_with fail
      go_ret
      exact ⟨ret_bool (decide_eq_false hm.out).symm, HGG.out⟩
theorem sameInts_any (p q : Option Addr) (c d : Nat) (X Y : List Int) (w : World) (hx : LieI w p X) (hy : LieI w q Y) (hbig : X.length ≤ 100000) :
    Calls Tryd.prog 21 #[.slice p X.length c, .slice q Y.length d] w fun e w' => e = .returned (.bool (decide (X = Y))) ∧ Gro none w w' := by
  by_cases hl : X.length = Y.length
  · have HX := Lib.hid (fun w' (k : Gro none w w') j (hj : j < X.length) => hx.gro k (by simp) j hj)
    have HY := Lib.hid (fun w' (k : Gro none w w') j (hj : j < Y.length) => hy.gro k (by simp) j hj)
    have HR := Lib.hid (fun h => getD_ext (xs := X) (ys := Y) hl h)
    rw [← hl] at HY ⊢
    clear hx hy hl
    generalize hn : X.length = n at *
    have HLN := Lib.hid hn
    clear hn
    go_enter Tryd.func21, Tryd.ntmps21
    go_wp2_with fail
    go_loopw [5] (fun i wr => ∃ k : Nat, k ≤ n ∧ i = .int .i64 k ∧ Gro none w wr ∧ ∀ j, j < k → X.getD j 0 = Y.getD j 0) (fun i _ => n - (intOf i).toNat)
    case atStart => exact ⟨0, Nat.zero_le _, rfl, Gro.refl _ _, fun j hj => by omega⟩
    case round =>
      obtain ⟨k, hk, rfl, hg, he⟩ := hrel
      have HE := Lib.hid he
      have HGG := Lib.hid hg
      clear he
      by_cases h6 : k < n
      · obtain ⟨b, o, rfl, c1⟩ := HX.out _ hg k h6
        obtain ⟨b', o', rfl, c2⟩ := HY.out _ hg k h6
        have i0 : (0 : Int) ≤ (k : Int) := by omega
        have i1 : (k : Int) < (n : Int) := by omega
        clear hg HX HY
        by_cases hne : X.getD k 0 = Y.getD k 0
        · rw [hne] at c1
          have HN : Hid (∀ j, j < k + 1 → X.getD j 0 = Y.getD j 0) := fun j hj => by
            rcases (show j < k ∨ j = k from by omega) with h | rfl
            · exact HE.out j h
            · exact hne
          generalize Y.getD k 0 = v at *
          clear hne
          go_wp2_with fail
          go_quiet (fail)
          all_goals (try go_wp2_with fail)
          all_goals go_roundw
          case rel => exact ⟨k + 1, by omega, by go_num, HGG.out.drewN _, HN.out⟩
          case measure => simp [intOf]; omega
        · have hb : (X.getD k 0 == Y.getD k 0) = false := by simpa using hne
          have hd : decide (X = Y) = false := decide_eq_false (fun e => hne (by rw [e]))
          have HD := Lib.hid hd
          clear hd hne
          generalize X.getD k 0 = v at *
          generalize Y.getD k 0 = u at *
          go_wp2_with fail
          go_quiet (fail)
          all_goals (try go_wp2_with fail)
          all_goals go_ret
          all_goals exact ⟨ret_bool HD.out.symm, HGG.out.drewN _⟩
      · obtain rfl : k = n := by omega
        go_wp2_with fail
        go_ret
        exact ⟨ret_bool (decide_eq_true (HR.out (fun j hj => HE.out j (by have := HLN.out; omega)))).symm, HGG.out⟩
  · have hd : decide (X = Y) = false := decide_eq_false (fun e => hl (by rw [e]))
    rw [hd]
    clear hd hx hy
    have hl' : ((X.length : Int) == (Y.length : Int)) = false := by simp; omega
    generalize X.length = n at *
    generalize Y.length = m at *
    go_enter Tryd.func21, Tryd.ntmps21
    go_wp2
    go_ret
    exact ⟨rfl, Gro.refl _ _⟩
set_option maxHeartbeats 2000000 in
theorem sameTim_any (count period count' period' : Int) (group group' : Bool) (p q : Option Addr) (c d : Nat) (X Y : List Int) (w : World) (hx : LieI w p X) (hy : LieI w q Y) (hbig : X.length ≤ 100000) :
    Calls Tryd.prog 12 #[timV count period group (.slice p X.length c), timV count' period' group' (.slice q Y.length d)] w fun e w' => e = .returned (.bool (decide (count = count' ∧ period = period' ∧ group = group' ∧ X = Y))) ∧ Gro none w w' := by
  have HI := Lib.hid (fun w' (k : Gro none w w') => sameInts_any p q c d X Y w' (hx.gro k (by simp)) (hy.gro k (by simp)) hbig)
  have hd : decide (count = count' ∧ period = period' ∧ group = group' ∧ X = Y) = ((count == count') && ((period == period') && ((group == group') && decide (X = Y)))) := by
    rw [Bool.eq_iff_iff]
    simp
  rw [hd]
  clear hd hx hy hbig
  unfold timV at *
  generalize X.length = n at *
  generalize Y.length = m at *
  generalize decide (X = Y) = dd at *
  generalize h1 : (count == count') = x1
  generalize h2 : (period == period') = x2
  generalize h3 : (group == group') = x3
  cases x1 with
  | false =>
    go_enter Tryd.func12, Tryd.ntmps12
    go_wp2_with fail
    go_ret
    exact ⟨rfl, ((Gro.refl _ _).alloc _).alloc _⟩
  | true =>
    cases x2 with
    | false =>
      go_enter Tryd.func12, Tryd.ntmps12
      go_wp2_with fail
      go_ret
      exact ⟨rfl, ((Gro.refl _ _).alloc _).alloc _⟩
    | true =>
      cases x3 with
      | false =>
        go_enter Tryd.func12, Tryd.ntmps12
        go_wp2_with fail
        go_ret
        exact ⟨rfl, ((Gro.refl _ _).alloc _).alloc _⟩
      | true =>
        go_enter Tryd.func12, Tryd.ntmps12
        go_wp2_with fail
        refine (HI.out _ (((Gro.refl _ _).alloc _).alloc _)).mono ?_
        rintro e w1 ⟨rfl, hg⟩
        have HG := Lib.hid ((((Gro.refl none w).alloc _).alloc _).trans hg)
        clear hg
        go_wp2_with fail
        go_ret
        exact ⟨rfl, HG.out⟩
/-- WHAT ANY BYTES ARE AS AN ELEMENT. -/
theorem read_any (p : Option Addr) (cap : Nat) (bs : List Int) (B : Nat) (A : Nat → Addr) (w : World) (hs : Four B w A) (hB : B ≤ w.heap.size) (hcap : bs.length ≤ cap) (hlen : bs.length ≤ 100000) (h : Lie w p bs) (hb : Bytes bs) :
    Calls Tryd.prog 11 #[.slice p bs.length cap] w fun e w' => Gro none w w' ∧ (readK bs ≠ 0 → e = .returned (.tuple #[timV 0 0 false (.slice none 0 0), errV A (readK bs)])) ∧
      (readK bs = 0 → ∃ s, e = .returned (.tuple #[timV (bs.getD 2 0) (bs.getD 3 0) (groupB bs) s, .nilIface]) ∧ OwnI w.heap.size w' s (aidsB bs)) := by
  by_cases hk : timK bs = 0
  · have h0 : 0 < bs.length := by
      rcases Nat.eq_zero_or_pos bs.length with h0 | h0
      · unfold timK at hk
        rw [if_pos (by omega)] at hk
        cases hk
      · exact h0
    obtain ⟨b, o, rfl, -⟩ := h 0 h0
    exact read_main b o cap bs B A w hs hB hcap h hb hk
  · have e : readK bs = timK bs := by unfold readK; rw [if_pos hk]
    rw [e]
    exact (read_bad p cap bs B A w hs hB hlen h hb hk).mono fun e w' ⟨h1, h2⟩ => ⟨h2, fun _ => h1, fun h => absurd h hk⟩
theorem errV_pos (A : Nat → Addr) {k : Nat} (h : k ≠ 0) : ∃ a, errV A k = .iface 69 (.pointer (some a)) := by
  cases k with
  | zero => exact absurd rfl h
  | succ n => exact ⟨_, rfl⟩
theorem tim_run (w : World) : (Instr.alloc 24 true (.tuple #[])).run Tryd.prog w = .ok (.pointer (some ⟨w.heap.size, 0, none⟩)) (w.alloc (.cells #[.int .i64 0, .int .i64 0, .bool false, .slice none 0 0] 24)) := by go_simp
theorem aidsB_len (bs : List Int) : (aidsB bs).length ≤ 8 * bs.length := by
  have := aidsTo_len (firstB bs) (bs.drop 5) (bs.length - 5)
  unfold aidsB
  omega
/-- tim.Has: is one in the element that bytes are? -/
theorem has_any (p : Option Addr) (cap : Nat) (bs : List Int) (x : Int) (B : Nat) (A : Nat → Addr) (w : World) (hs : Four B w A) (hB : B ≤ w.heap.size) (hcap : bs.length ≤ cap) (hlen : bs.length ≤ 10000) (h : Lie w p bs) (hb : Bytes bs) :
    Calls Tryd.prog 17 #[.slice p bs.length cap, .int .i64 x] w fun e w' => e = .returned (.bool (decide (readK bs = 0 ∧ x ∈ aidsB bs))) ∧ Gro none w w' := by
  have HR := Lib.hid (read_any p cap bs B A w hs hB hcap (by omega) h hb)
  have HAL : Hid ((aidsB bs).length ≤ 100000) := by have := aidsB_len bs; unfold Hid; omega
  clear hs hB hcap hlen h hb
  generalize bs.length = n at *
  generalize readK bs = k at *
  generalize bs.getD 2 0 = v2 at *
  generalize bs.getD 3 0 = v3 at *
  generalize groupB bs = gb at *
  generalize aidsB bs = xs at *
  unfold timV at HR
  go_enter Tryd.func17, Tryd.ntmps17
  go_wp2_with fail
  refine HR.out.mono ?_
  rintro e w1 ⟨hg, h1, h2⟩
  have HG := Lib.hid hg
  clear hg HR
  by_cases hk : k = 0
  · obtain ⟨s, rfl, ho⟩ := h2 hk
    obtain ⟨q, d, rfl, hli⟩ := ho.lie
    have HC := Lib.hid (fun w' (kk : Gro none w1 w') => contains_any q d xs x w' (hli.gro kk (by simp)) HAL.out)
    have HD : Hid (decide (k = 0 ∧ x ∈ xs) = decide (x ∈ xs)) := decide_eq_decide.2 ⟨fun h => h.2, fun h => ⟨hk, h⟩⟩
    clear ho hli h1 h2 hk
    generalize xs.length = m at *
    generalize decide (x ∈ xs) = dd at *
    go_wp2_with fail
    refine (HC.out _ (by first | exact (Gro.refl _ _).alloc _ | exact ((Gro.refl _ _).alloc _).drew)).mono ?_
    rintro e w2 ⟨rfl, hg⟩
    have HG2 := Lib.hid hg
    clear hg
    go_wp2_with fail
    go_ret
    exact ⟨ret_bool HD.out.symm, HG.out.trans (((Gro.refl _ _).alloc _).trans HG2.out)⟩
  · obtain rfl := h1 hk
    obtain ⟨a, ha⟩ := errV_pos A hk
    rw [ha]
    have HD : Hid (decide (k = 0 ∧ x ∈ xs) = false) := decide_eq_false fun h => hk h.1
    clear h1 h2 hk ha
    go_wp2_with fail
    go_ret
    exact ⟨ret_bool HD.out.symm, HG.out.trans ((Gro.refl _ _).alloc _)⟩
theorem first6_any (w : World) : Calls Tryd.prog 8 #[] w fun e w' => e = .returned (.bool true) ∧ Gro none w w' := by
  have hok : okT 0 1 [] := ⟨by decide, by decide, fun j hj => by simp at hj⟩
  have HB := Lib.hid (tim_any 0 1 false none 0 [] w (LieI.nil _ _) (by simp) hok)
  have hl : (timL 0 1 false []).length = 6 := rfl
  unfold timV at HB
  simp only [List.length_nil] at HB
  generalize timL 0 1 false [] = L at *
  have HL := Lib.hid hl
  clear hok hl
  go_enter Tryd.func8, Tryd.ntmps8
  go_wp2_with fail
  refine HB.out.mono ?_
  rintro e w1 ⟨v, rfl, hg, ho⟩
  obtain ⟨q, d, rfl, -, -, -⟩ := ho.lie
  rw [HL.out]
  have HG := Lib.hid hg
  clear ho hg HB
  go_wp2_with fail
  go_ret
  exact ⟨rfl, HG.out⟩
end Go.Proofs.YtchoeafkjgcmbaaDoor
