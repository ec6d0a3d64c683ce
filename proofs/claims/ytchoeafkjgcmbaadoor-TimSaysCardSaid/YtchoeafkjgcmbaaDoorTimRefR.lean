/-
  THE WALK OF muezzinref1.ReadTim, out of any bytes. Conditions: the bytes lie where the slice says.
-/
import Derived.Test.YtchoeafkjgcmbaaDoorTimRef
namespace Go.Proofs.YtchoeafkjgcmbaaDoor
open Go.RowKit

theorem res_rtim {tmps : Array Value} {w : World} {F : Array Value} {u : Value} {g : Nat} (h2 : tmps.getD 2 undef = .pointer (some ⟨g, 0, none⟩)) (h3 : tmps.getD 3 undef = u) (hb : w.heap[g]? = some (.cells F 24 (0, 0))) (hi : (Tryd.prog.info? 24).map (·.size) = some F.size) :
    (results Tryd.f14 tmps).run Tryd.prog w = .ok (.tuple #[.agg F, u]) w := by
  have hl : (loadVar 24 ⟨g, 0, none⟩).run Tryd.prog w = .ok (.agg F) w := by
    have h := run_loadVar_list (P := Tryd.prog) w ⟨g, 0, none⟩ 24 F.toList _ (fun j v hv => by
      rw [Addr.add_mid, Nat.zero_add, cell_of_row w g j F _ (0, 0) hb]
      simpa using hv) Tryd.underlying24 rfl (by simpa using hi)
    simpa using h
  unfold results
  rw [Tryd.results14]
  rw [Array.getD_eq_getD_getElem?] at h2 h3
  simp [h2, h3, hl, asAddr]
set_option maxHeartbeats 4000000 in
theorem refread_bad (p : Option Addr) (cap : Nat) (bs : List Int) (w : World) (hlen : bs.length ≤ 100000) (h : Lie w p bs) (hb : Bytes bs) (hk : timK bs ≠ 0) :
    Calls Tryd.prog 14 #[.slice p bs.length cap] w fun e w' => e = .returned (.tuple #[timV 0 0 false (.slice none 0 0), Value.int .i64 (codeOf (timK bs))]) ∧ Gro none w w' := by
  have hg1 : Gro none w (w.alloc (.cells #[.int .i64 0, .int .i64 0, .bool false, .slice none 0 0] 24)) := (Gro.refl _ _).alloc _
  have hz := heap_alloc_new w (.cells #[.int .i64 0, .int .i64 0, .bool false, .slice none 0 0] 24)
  have hl1 := h.gro hg1 (by simp)
  have HG := Lib.hid hg1
  have HZ := Lib.hid hz
  have HN1 := Lib.hid hl1
  have HK := Lib.hid hk
  obtain ⟨b10, b11⟩ := hb 1
  have HH := Lib.hid hlen
  clear hg1 hz hl1 h hk hb hlen
  unfold timV
  generalize hn : bs.length = n at *
  have HLN := Lib.hid hn
  clear hn
  go_enter Tryd.func14, Tryd.ntmps14
  by_cases l2 : n < 2
  · have i0 : (n : Int) < 2 := by omega
    have hk : timK bs = 1 := by unfold timK; rw [if_pos (by rw [HLN.out]; exact l2)]
    rw [hk]
    clear hk
    go_wp2_with fail
    (try go_wp2_with fail)
    (try simp only [Exit.inBlock, Exit.then])
    refine bodyPost_ret (res_rtim rfl rfl HZ.out (by kernel_rfl)) rfl ?_
    exact ⟨rfl, HG.out⟩
  · have i0 : ¬ (n : Int) < 2 := by omega
    have i1 : (2 : Int) ≤ (n : Int) := by omega
    have i2 : (0 : Int) < (n : Int) := by omega
    have i3 : (1 : Int) < (n : Int) := by omega
    have i4 : 0 < n := by omega
    have i6 : (n : Int) ≤ 100000 := by have := HH.out; omega
    have i5 : 1 < n := by omega
    obtain ⟨b, o, rfl, c0⟩ := HN1.out 0 (by rw [HLN.out]; exact i4)
    obtain ⟨b', o', e, c1⟩ := HN1.out 1 (by rw [HLN.out]; exact i5)
    injection e with e
    injection e with ea eb
    subst ea eb
    rw [Nat.add_zero] at c0
    have hT : timK bs = if bs.getD 0 0 ≠ 5 then 5 else if (n : Int) - 2 < bs.getD 1 0 then 1 else if (n : Int) - 2 > bs.getD 1 0 ∨ bs.getD 1 0 < 4 then 2 else 0 := by
      unfold timK
      rw [HLN.out, if_neg l2]
    generalize bs.getD 0 0 = v0 at *
    generalize bs.getD 1 0 = v1 at *
    by_cases h5 : v0 = 5
    · subst h5
      rw [if_neg (by simp)] at hT
      by_cases h6 : (n : Int) - 2 < v1
      · rw [if_pos h6] at hT
        rw [hT]
        clear hT
        go_wp2_with fail
        (try go_wp2_with fail)
        (try simp only [Exit.inBlock, Exit.then])
        refine bodyPost_ret (res_rtim rfl rfl HZ.out (by kernel_rfl)) rfl ?_
        exact ⟨rfl, HG.out⟩
      · rw [if_neg h6] at hT
        by_cases h7 : (n : Int) - 2 > v1
        · rw [if_pos (.inl h7)] at hT
          rw [hT]
          clear hT
          have h7' : v1 < (n : Int) - 2 := h7
          go_wp2_with fail
          (try go_wp2_with fail)
          (try simp only [Exit.inBlock, Exit.then])
          refine bodyPost_ret (res_rtim rfl rfl HZ.out (by kernel_rfl)) rfl ?_
          exact ⟨rfl, HG.out⟩
        · by_cases h8 : v1 < 4
          · rw [if_pos (.inr h8)] at hT
            rw [hT]
            clear hT
            have h7' : ¬ v1 < (n : Int) - 2 := h7
            go_wp2_with fail
            (try go_wp2_with fail)
            (try simp only [Exit.inBlock, Exit.then])
            refine bodyPost_ret (res_rtim rfl rfl HZ.out (by kernel_rfl)) rfl ?_
            exact ⟨rfl, HG.out⟩
          · rw [if_neg (by omega)] at hT
            exact absurd hT HK.out
    · rw [if_pos h5] at hT
      rw [hT]
      clear hT
      have h5' : (v0 == 5) = false := by simpa using h5
      go_wp2_with fail
      (try go_wp2_with fail)
      (try simp only [Exit.inBlock, Exit.then])
      refine bodyPost_ret (res_rtim rfl rfl HZ.out (by kernel_rfl)) rfl ?_
      exact ⟨rfl, HG.out⟩
set_option maxHeartbeats 4000000 in
set_option maxRecDepth 100000 in
theorem refread_main (b o cap : Nat) (bs : List Int) (w : World) (hcap : bs.length ≤ cap) (h : Lie w (some ⟨b, o, none⟩) bs) (hb : Bytes bs) (hk : timK bs = 0) :
    Calls Tryd.prog 14 #[.slice (some ⟨b, o, none⟩) bs.length cap] w fun e w' => Gro none w w' ∧ (readK bs ≠ 0 → e = .returned (.tuple #[timV 0 0 false (.slice none 0 0), Value.int .i64 (codeOf (readK bs))])) ∧
      (readK bs = 0 → ∃ s, e = .returned (.tuple #[timV (bs.getD 2 0) (bs.getD 3 0) (groupB bs) s, Value.int .i64 0]) ∧ OwnI w.heap.size w' s (aidsB bs)) := by
  have HCELL : Hid (∀ w', Gro none w w' → ∀ i, i < bs.length → w'.cell? ⟨b, o + i, none⟩ = some (.int .u8 (bs.getD i 0))) := fun w' k i hi => by
    obtain ⟨b', o', e, hc⟩ := h.gro k (by simp) i hi
    cases e; exact hc
  have hT := hk
  unfold timK at hT
  have hn2 : 2 ≤ bs.length := by
    rcases Nat.lt_or_ge bs.length 2 with h' | h'
    · rw [if_pos h'] at hT; cases hT
    · exact h'
  rw [if_neg (by omega)] at hT
  have h05 : bs.getD 0 0 = 5 := by
    rcases Decidable.em (bs.getD 0 0 = 5) with h' | h'
    · exact h'
    · rw [if_pos h'] at hT; cases hT
  rw [if_neg (not_not_intro h05)] at hT
  have h06 : ¬ (bs.length : Int) - 2 < bs.getD 1 0 := fun h' => by rw [if_pos h'] at hT; cases hT
  rw [if_neg h06] at hT
  have h07 : ¬ ((bs.length : Int) - 2 > bs.getD 1 0 ∨ bs.getD 1 0 < 4) := fun h' => by rw [if_pos h'] at hT; cases hT
  have b1 := hb 1
  have hn : ∃ n, bs.length = n ∧ 6 ≤ n ∧ n ≤ 257 ∧ bs.getD 1 0 = (n : Int) - 2 := ⟨_, rfl, by omega, by omega, by omega⟩
  obtain ⟨n, hn, n6, n257, hv1⟩ := hn
  rw [hn] at HCELL hcap ⊢
  have HBY := Lib.hid hb
  have HSB := Lib.hid (fun w' (k : Gro none w w') (q : Option Addr) (d : Nat) (ys : List Int) (hy : Lie w' q ys) => sameBytes_any (some ⟨b, o, none⟩) q cap d bs ys w' (h.gro k (by simp)) hy (by omega))
  have HLN := Lib.hid hn
  have HREAD : Hid (readK bs = if ¬ okT (bs.getD 2 0) (bs.getD 3 0) (aidsB bs) then 3 else if timL (bs.getD 2 0) (bs.getD 3 0) (groupB bs) (aidsB bs) = bs then 0 else 2) := by
    unfold Hid readK
    rw [hk, if_neg (by simp)]
  have c0 := HCELL.out w (Gro.refl _ _) 0 (by omega)
  clear hT hn2 h06 h07 b1 h hb hk hn c0
  have hg0 : Gro none w (w.alloc (.cells #[.int .i64 0, .int .i64 0, .bool false, .slice none 0 0] 24)) := (Gro.refl _ _).alloc _
  have hz0 := heap_alloc_new w (.cells #[.int .i64 0, .int .i64 0, .bool false, .slice none 0 0] 24)
  have c0 := HCELL.out _ hg0 0 (by omega)
  have c1 := HCELL.out _ hg0 1 (by omega)
  have c2 := HCELL.out _ hg0 2 (by omega)
  have c3 := HCELL.out _ hg0 3 (by omega)
  have c4 := HCELL.out _ hg0 4 (by omega)
  rw [h05, Nat.add_zero] at c0
  rw [hv1] at c1
  have HC2 := Lib.hid (fun w' (k : Gro none w w') => HCELL.out w' k 2 (by omega))
  have HC3 := Lib.hid (fun w' (k : Gro none w w') => HCELL.out w' k 3 (by omega))
  have HC4 := Lib.hid (fun w' (k : Gro none w w') => HCELL.out w' k 4 (by omega))
  have d2 := HBY.out 2
  have d3 := HBY.out 3
  obtain ⟨v4, hv4⟩ := Int.eq_ofNat_of_zero_le (HBY.out 4).1
  have d4 : v4 < 256 := by have := (HBY.out 4).2; omega
  have HGR : Hid (groupB bs = decide (0 < (v4 : Int) % 2)) := by unfold Hid groupB; rw [hv4]
  have HF : Hid (firstB bs = v4 / 2 * 2) := by unfold Hid firstB; rw [hv4]; rfl
  rw [hv4] at c4 HC4
  generalize bs.getD 2 0 = v2 at *
  generalize bs.getD 3 0 = v3 at *
  have a4 := and_u8 v4 d4
  have n4 := even_u8 v4 d4
  have HG0 := Lib.hid hg0
  have HZ0 := Lib.hid hz0
  clear hg0 hz0 h05 hv1 hv4
  have i0 : (6 : Int) ≤ (n : Int) := by omega
  have i1 : (n : Int) ≤ 257 := by omega
  obtain ⟨d20, d21⟩ := d2
  obtain ⟨d30, d31⟩ := d3
  have wr2 : IntKind.i64.wrap v2 = v2 := by rw [IntKind.wrap_i64]; omega
  have wr3 : IntKind.i64.wrap v3 = v3 := by rw [IntKind.wrap_i64]; omega
  have j2 : (2 : Int) < (n : Int) := by omega
  have j3 : (3 : Int) < (n : Int) := by omega
  have j4 : (4 : Int) < (n : Int) := by omega
  go_enter Tryd.func14, Tryd.ntmps14
  go_upto_region 9 with fail
  generalize hW : w.alloc (.cells #[.int .i64 0, .int .i64 0, .bool false, .slice none 0 0] 24) = w1 at *
  clear hW c0 c1 c2 c3 c4
  refine wp_region_S (RS w1 4 14 15 24 #[.int .i64 0, .int .i64 0, .bool false, .slice none 0 0] #[.int .i64 v2, .int .i64 v3, .bool (bits .and .u8 (v4 : Int) 1 != 0), .slice none 0 0]) (by kernel_rfl) ⟨Gro.drew (Gro.refl _ _), fun h => absurd h (by decide)⟩ ?_
  refine takeY (i := 0) (x := 43) (v := .slice (some ⟨b, o, none⟩) n cap) rfl (by decide) (by decide) (by decide) (by kernel_rfl) (by kernel_rfl) (by kernel_rfl) (fun _ _ _ h => h) (by intro w; go_simp) ?_
  simp only [Act.put, List.setIfInBounds_toArray, List.set_cons_zero, List.set_cons_succ]
  refine takeY (i := 1) (x := 44) (v := .pointer (some ⟨b, o + 2, none⟩)) rfl (by decide) (by decide) (by decide) (by kernel_rfl) (by kernel_rfl) (by kernel_rfl) (fun _ _ _ h => h) (by intro w; go_simp) ?_
  simp only [Act.put, List.setIfInBounds_toArray, List.set_cons_zero, List.set_cons_succ]
  refine takeL (i := 2) (x := 45) (v := .int .u8 v2) rfl (by decide) (by decide) (by decide) (by kernel_rfl) (by kernel_rfl) (by kernel_rfl) (fun _ _ _ h => h) (by intro w' k; have hq := HC2.out w' (HG0.out.trans k); clear k; go_simp) ?_
  simp only [Act.put, List.setIfInBounds_toArray, List.set_cons_zero, List.set_cons_succ]
  refine takeY (i := 3) (x := 46) (v := .int .i64 v2) rfl (by decide) (by decide) (by decide) (by kernel_rfl) (by kernel_rfl) (by kernel_rfl) (fun _ _ _ h => h) (by intro w; go_simp) ?_
  simp only [Act.put, List.setIfInBounds_toArray, List.set_cons_zero, List.set_cons_succ]
  refine takeY (i := 4) (x := 47) (v := .slice (some ⟨b, o, none⟩) n cap) rfl (by decide) (by decide) (by decide) (by kernel_rfl) (by kernel_rfl) (by kernel_rfl) (fun _ _ _ h => h) (by intro w; go_simp) ?_
  simp only [Act.put, List.setIfInBounds_toArray, List.set_cons_zero, List.set_cons_succ]
  refine takeY (i := 5) (x := 48) (v := .pointer (some ⟨b, o + 3, none⟩)) rfl (by decide) (by decide) (by decide) (by kernel_rfl) (by kernel_rfl) (by kernel_rfl) (fun _ _ _ h => h) (by intro w; go_simp) ?_
  simp only [Act.put, List.setIfInBounds_toArray, List.set_cons_zero, List.set_cons_succ]
  refine takeL (i := 6) (x := 49) (v := .int .u8 v3) rfl (by decide) (by decide) (by decide) (by kernel_rfl) (by kernel_rfl) (by kernel_rfl) (fun _ _ _ h => h) (by intro w' k; have hq := HC3.out w' (HG0.out.trans k); clear k; go_simp) ?_
  simp only [Act.put, List.setIfInBounds_toArray, List.set_cons_zero, List.set_cons_succ]
  refine takeY (i := 7) (x := 50) (v := .int .i64 v3) rfl (by decide) (by decide) (by decide) (by kernel_rfl) (by kernel_rfl) (by kernel_rfl) (fun _ _ _ h => h) (by intro w; go_simp) ?_
  simp only [Act.put, List.setIfInBounds_toArray, List.set_cons_zero, List.set_cons_succ]
  refine takeY (i := 8) (x := 51) (v := .slice (some ⟨b, o, none⟩) n cap) rfl (by decide) (by decide) (by decide) (by kernel_rfl) (by kernel_rfl) (by kernel_rfl) (fun _ _ _ h => h) (by intro w; go_simp) ?_
  simp only [Act.put, List.setIfInBounds_toArray, List.set_cons_zero, List.set_cons_succ]
  refine takeY (i := 9) (x := 52) (v := .pointer (some ⟨b, o + 4, none⟩)) rfl (by decide) (by decide) (by decide) (by kernel_rfl) (by kernel_rfl) (by kernel_rfl) (fun _ _ _ h => h) (by intro w; go_simp) ?_
  simp only [Act.put, List.setIfInBounds_toArray, List.set_cons_zero, List.set_cons_succ]
  refine takeL (i := 10) (x := 53) (v := .int .u8 v4) rfl (by decide) (by decide) (by decide) (by kernel_rfl) (by kernel_rfl) (by kernel_rfl) (fun _ _ _ h => h) (by intro w' k; have hq := HC4.out w' (HG0.out.trans k); clear k; go_simp) ?_
  simp only [Act.put, List.setIfInBounds_toArray, List.set_cons_zero, List.set_cons_succ]
  refine takeY (i := 11) (x := 54) (v := .int .u8 (bits .and .u8 (v4 : Int) 1)) rfl (by decide) (by decide) (by decide) (by kernel_rfl) (by kernel_rfl) (by kernel_rfl) (fun _ _ _ h => h) (by intro w; go_simp) ?_
  simp only [Act.put, List.setIfInBounds_toArray, List.set_cons_zero, List.set_cons_succ]
  refine takeY (i := 12) (x := 55) (v := .bool (bits .and .u8 (v4 : Int) 1 != 0)) rfl (by decide) (by decide) (by decide) (by kernel_rfl) (by kernel_rfl) (by kernel_rfl) (fun _ _ _ h => h) (by intro w; go_simp) ?_
  simp only [Act.put, List.setIfInBounds_toArray, List.set_cons_zero, List.set_cons_succ]
  refine takeY (i := 13) (x := 56) (v := .agg #[.int .i64 v2, .int .i64 v3, .bool (bits .and .u8 (v4 : Int) 1 != 0), .slice none 0 0]) rfl (by decide) (by decide) (by decide) (by kernel_rfl) (by kernel_rfl) (by kernel_rfl) (fun _ _ _ h => h) (by intro w; go_simp) ?_
  simp only [Act.put, List.setIfInBounds_toArray, List.set_cons_zero, List.set_cons_succ]
  refine takeA rfl (by kernel_rfl) (by decide) (by kernel_rfl) (by simp) (by intro w; go_simp) ?_
  intro g hge
  simp only [Act.put, List.setIfInBounds_toArray, List.set_cons_zero, List.set_cons_succ]
  refine takeST (g := g) rfl (by kernel_rfl) (by decide) (by kernel_rfl) (by kernel_rfl) (by decide) rfl rfl rfl rfl (by kernel_rfl) (by simp [Value.oneCell']) (by kernel_rfl) ?_
  intro w3 hg3 _ hrow
  have hgb : (bits .and .u8 (v4 : Int) 1 != 0) = groupB bs := by
    rw [HGR.out, a4]
    rcases Nat.mod_two_eq_zero_or_one v4 with h | h
    · rw [h, decide_eq_false (by omega)]
      rfl
    · rw [h, decide_eq_true (by omega)]
      rfl
  rw [hgb] at hrow
  have hg1 := HG0.out.trans hg3
  have hz3 := (hg3.block w.heap.size (blk_in HZ0.out) (by simp)).trans HZ0.out
  have c4 := HC4.out w3 hg1
  have wr4 : IntKind.i64.wrap (bits .andNot .u8 (v4 : Int) 1) = ((v4 / 2 * 2 : Nat) : Int) := by rw [n4, IntKind.wrap_i64]; omega
  have hw1 : w.heap.size ≤ w1.heap.size := HG0.out.size
  have hlw : w.heap.size < w1.heap.size := blk_in HZ0.out
  have HG3 := Lib.hid hg1
  have hw13 : Hid (w1.heap.size ≤ w3.heap.size) := hg3.size
  have HZ3 := Lib.hid hz3
  have HROW := Lib.hid hrow
  clear hg3 hrow hg1 hz3 HG0 HZ0 HC2 HC3 HC4 hgb a4 n4
  go_upto_region 12 with fail
  obtain ⟨F, hF⟩ : ∃ F, F = v4 / 2 * 2 := ⟨_, rfl⟩
  have eF : (v4 : Int) / 2 * 2 = (F : Int) := by omega
  have F254 : F ≤ 254 := by omega
  rw [eF]
  rw [← hF] at HF
  have HM : Hid (∀ K, 5 ≤ K → K < n → ∃ y : Nat, y < 256 ∧ ((bs.drop 5).getD (K - 5) 0).toNat = y ∧ ∀ w', Gro none w w' → w'.cell? ⟨b, o + K, none⟩ = some (.int .u8 (y : Int))) := fun K hK5 hK => by
    obtain ⟨y, hy⟩ := Int.eq_ofNat_of_zero_le (HBY.out K).1
    have hlt := (HBY.out K).2
    have hd : (bs.drop 5).getD (K - 5) 0 = bs.getD K 0 := by rw [List.getD_eq_getElem?_getD, List.getD_eq_getElem?_getD, List.getElem?_drop, show 5 + (K - 5) = K by omega]
    refine ⟨y, by omega, by rw [hd, hy]; rfl, fun w' kk => ?_⟩
    have hc := HCELL.out w' kk K hK
    rw [hy] at hc
    exact hc
  generalize hbd : bs.drop 5 = ys at *
  have HAI : Hid (aidsB bs = aidsTo F ys (n - 5)) := by
    unfold Hid aidsB
    rw [HF.out, hbd, HLN.out]
  clear hF eF hbd c4 HCELL HBY HF HGR wr4 wr2 wr3
  generalize hgbE : groupB bs = gb at *
  have HGBE := Lib.hid hgbE
  clear hgbE
  obtain ⟨ii, hi, hz0, hz1, hz2⟩ := info_int
  go_loopw [6] (fun i wr => ∃ K : Nat, 5 ≤ K ∧ K ≤ n ∧ i = .int .i64 K ∧ ∃ s, Gro (some g) w3 wr ∧ wr.heap[g]? = some (.cells #[.int .i64 v2, .int .i64 v3, .bool gb, s] 24 (0, 0)) ∧ OwnI w3.heap.size wr s (aidsTo F ys (K - 5))) (fun i _ => n - (intOf i).toNat)
  case atStart => exact ⟨5, by omega, by omega, rfl, _, Gro.refl _ _, HROW.out, World.ownsRow_nil _ _ _ _⟩
  case round =>
    obtain ⟨K, hK5, hK, rfl, s, hg, hrow, hown⟩ := hrel
    have HOW := Lib.hid hown
    have HRW := Lib.hid hrow
    have HGG := Lib.hid hg
    have hge' : w.heap.size ≤ g := by omega
    by_cases hkm : K < n
    · obtain ⟨y, hy, hyk, hcell⟩ := HM.out K hK5 hkm
      have HCK := Lib.hid (fun w' (kk : Gro (some g) w3 w') => hcell w' (HG3.out.new_row kk hge'))
      have q0 : (0 : Int) ≤ (K : Int) := by omega
      have q1 : (K : Int) < (n : Int) := by omega
      have HYK : Hid (aidsTo F ys (K + 1 - 5) = aidsTo F ys (K - 5) ++ bitsOf ((F + (K - 5)) * 8) y 8) := by unfold Hid; rw [show K + 1 - 5 = (K - 5) + 1 by omega, aidsTo, hyk]
      have HLE := Lib.hid (aidsTo_len F ys (K - 5))
      clear hcell hyk hown hrow hg
      go_upto_region 15 with fail
      generalize aidsTo F ys (K - 5) = L at *
      go_loopw [7] (fun i wr => ∃ j : Nat, j ≤ 8 ∧ i = .int .i64 j ∧ ∃ s, Gro (some g) w3 wr ∧ wr.heap[g]? = some (.cells #[.int .i64 v2, .int .i64 v3, .bool gb, s] 24 (0, 0)) ∧ OwnI w3.heap.size wr s (L ++ bitsOf ((F + (K - 5)) * 8) y j)) (fun i _ => 8 - (intOf i).toNat)
      case atStart => exact ⟨0, Nat.zero_le _, rfl, s, HGG.out, HRW.out, by rw [bitsOf, List.append_nil]; exact HOW.out⟩
      case round =>
        obtain ⟨j, hj, rfl, s', hg, hrow, hown⟩ := hrel
        by_cases hj8 : j < 8
        · have HJ : Hid (bitsOf ((F + (K - 5)) * 8) y (j + 1) = if y.testBit j then bitsOf ((F + (K - 5)) * 8) y j ++ [(((F + (K - 5)) * 8 + j : Nat) : Int)] else bitsOf ((F + (K - 5)) * 8) y j) := by unfold Hid; rw [bitsOf]
          have hbit := bit_u8 y j hy
          have hgl : g < w3.heap.size := blk_in HROW.out
          have hll := bitsOf_len ((F + (K - 5)) * 8) y j
          have hL := HLE.out
          have cb := HCK.out wr hg
          cases htb : y.testBit j with
          | true =>
            rw [htb] at HJ hbit
            rw [if_pos rfl] at HJ hbit
            have c3 := cell_of_row wr g 3 _ _ _ hrow
            simp only [List.getElem?_toArray, List.getElem?_cons_zero, List.getElem?_cons_succ] at c3
            clear htb
            have eV : Hid (8 * ((F : Int) + (K : Int) - 5) + (j : Int) = (((F + (K - 5)) * 8 + j : Nat) : Int)) := by unfold Hid; omega
            go_wp2_with (at_builtin; refine wpList_append_own _ rfl _ _ 22 rfl w3.heap.size 3 ii (.int .i64 0) 1 8 Tryd.underlying22 hi hz0 hz1 hz2 rfl (by decide) _ _ _ rfl (hown.alloc _) ⟨wr.heap.size, 0, none⟩ 1 1 [.int .i64 (8 * ((F : Int) + (K : Int) - 5) + (j : Int))] rfl rfl ?c1 ?c2 ?c3 ?c4 ?c5 ?_)
            case c1 =>
              intro j' u hj'
              match j', hj' with
              | 0, hj' => simp at hj'; subst hj'; simp [Addr.add]
            case c2 => intro u hu; simp at hu; subst hu; rfl
            case c3 => rw [List.length_append]; unfold maxLen; omega
            case c4 => rw [List.length_append]; omega
            case c5 => have := hg.size; simp; omega
            intro v' w5 hown' hgrow _
            have hg5 : Gro (some g) w3 w5 := (hg.alloc _).grownR hgrow (fun g0 e => ((hown.lt) g0 e).1)
            have hrow5 := (hgrow.block g (by have := blk_in hrow; simp; omega) (fun e => by have := ((hown.lt) g e.symm).1; omega)).trans ((Below.heap_alloc _ _ _ (blk_in hrow)).trans hrow)
            have c5 := cell_of_row w5 g 3 _ _ _ hrow5
            have f5 := frozen_of_row w5 g 3 _ _ hrow5
            simp only [List.getElem?_toArray, List.getElem?_cons_zero, List.getElem?_cons_succ] at c5
            have HROW5 := Lib.hid (fun v => heap_setCell_same w5 g 3 _ _ v hrow5)
            have HO5 : Hid (OwnI w3.heap.size w5 v' (L ++ bitsOf ((F + (K - 5)) * 8) y (j + 1))) := by
              unfold Hid OwnI
              rw [HJ.out, ← eV.out]
              simpa [List.append_assoc, Nat.add_assoc] using hown'
            have HG5 := Lib.hid hg5
            have HGL := Lib.hid hgl
            obtain ⟨p5, cap5, rfl, -⟩ := HO5.out.lie
            generalize (L ++ bitsOf ((F + (K - 5)) * 8) y (j + 1)).length = n5 at *
            clear hown hown' hgrow hg5 hrow5 hrow hg c3 hgl cb
            go_wp2_with fail
            have hr6 := HROW5.out (.slice p5 n5 cap5)
            simp only [List.setIfInBounds_toArray, List.set_cons_zero, List.set_cons_succ] at hr6
            have HR6 := Lib.hid hr6
            clear hr6
            go_roundw
            case rel => exact ⟨j + 1, by omega, by go_num, .slice p5 n5 cap5, HG5.out.setCell _ _, HR6.out, HO5.out.gro ((Gro.refl _ _).setCell _ _) (fun g0 e => by have := HGL.out; injection e with e; omega)⟩
            case measure => simp [intOf]; omega
          | false =>
            rw [htb] at HJ hbit
            rw [if_neg (by simp)] at HJ hbit
            have HO := Lib.hid hown
            have HRR := Lib.hid hrow
            have HG5 := Lib.hid hg
            clear htb hown hrow hg
            go_wp2_with fail
            go_roundw
            case rel => exact ⟨j + 1, by omega, by go_num, s', HG5.out, HRR.out, by rw [HJ.out]; exact HO.out⟩
            case measure => simp [intOf]; omega
        · obtain rfl : j = 8 := by omega
          have HO := Lib.hid hown
          have HRR := Lib.hid hrow
          have HG5 := Lib.hid hg
          clear hown hrow hg
          go_wp2_with fail
          go_roundw
          case rel => exact ⟨K + 1, by omega, by omega, by go_num, s', HG5.out, HRR.out, by rw [HYK.out]; exact HO.out⟩
          case measure => simp [intOf]; omega
    · obtain rfl : K = n := by omega
      clear hown hrow hg
      obtain ⟨p', cap', rfl, hli⟩ := HOW.out.lie
      have hgw := HG3.out.new_row HGG.out hge'
      have hzr := (HGG.out.block w.heap.size (blk_in HZ3.out) (by have := hlw; simp; omega)).trans HZ3.out
      have HGW := Lib.hid hgw
      have HZR := Lib.hid hzr
      have hle := aidsTo_len F ys (K - 5)
      have HTB := Lib.hid (fun (hok : okT v2 v3 (aidsTo F ys (K - 5))) w' (kk : Gro none wr w') => (ref_any v2 v3 gb p' cap' (aidsTo F ys (K - 5)) w' (hli.gro kk (by simp)) (by omega) hok))
      have HTN := Lib.hid (fun (hok : ¬ okT v2 v3 (aidsTo F ys (K - 5))) w' (kk : Gro none wr w') => (ref_bad v2 v3 gb p' cap' (aidsTo F ys (K - 5)) w' (hli.gro kk (by simp)) (by omega) hok))
      have HSB' := Lib.hid (fun w' (kk : Gro none wr w') => HSB.out w' (HGW.out.trans kk))
      have HRE : Hid (readK bs = if ¬ okT v2 v3 (aidsTo F ys (K - 5)) then 3 else if timL v2 v3 gb (aidsTo F ys (K - 5)) = bs then 0 else 2) := by
        have h := HREAD.out
        rw [HAI.out] at h
        exact h
      have HOO := Lib.hid HOW.out
      clear hli hgw hzr HSB HREAD HM hle
      unfold timV at *
      generalize aidsTo F ys (K - 5) = XL at *
      generalize XL.length = nl at *
      generalize hY : timL v2 v3 gb XL = Y at *
      clear hY
      by_cases hok : okT v2 v3 XL
      · go_wp2_with (refine load_row rfl _ _ rfl _ rfl _ _ HRW.out _ Tryd.underlying24 rfl (by kernel_rfl) ?_)
        refine (HTB.out hok wr (Gro.refl _ _)).mono ?_
        rintro e w6 ⟨v, rfl, hg, ho⟩
        obtain ⟨q, d, rfl, -, hlY, -⟩ := ho.lie
        have hq := HSB'.out w6 hg q d Y hlY
        rw [HLN.out] at hq
        have HQ := Lib.hid hq
        have HG6 := Lib.hid hg
        have HROW6 := Lib.hid ((hg.block g (blk_in HRW.out) (by simp)).trans HRW.out)
        have HZ6 := Lib.hid ((hg.block w.heap.size (blk_in HZR.out) (by simp)).trans HZR.out)
        clear hg ho hlY hq HTB HTN HSB' HRW HZR
        generalize Y.length = ny at *
        go_wp2_with fail
        refine HQ.out.mono ?_
        rintro e w7 ⟨rfl, hg⟩
        have HG7 := Lib.hid (HG6.out.trans hg)
        have HROW7 := Lib.hid ((hg.block g (blk_in HROW6.out) (by simp)).trans HROW6.out)
        have HZ7 := Lib.hid ((hg.block w.heap.size (blk_in HZ6.out) (by simp)).trans HZ6.out)
        clear hg HQ HROW6 HZ6 HG6
        by_cases heq : bs = Y
        · rw [decide_eq_true heq]
          have hk0 : readK bs = 0 := by rw [HRE.out, if_neg (not_not_intro hok), if_pos heq.symm]
          have HK0 := Lib.hid hk0
          have hzX := HZ7.out
          clear hk0 heq
          go_wp2_with (first | (refine load_row rfl _ _ rfl _ rfl _ _ HROW7.out _ Tryd.underlying24 rfl (by kernel_rfl) ?_) | (refine store_row rfl 24 _ _ rfl w.heap.size rfl #[.int .i64 v2, .int .i64 v3, .bool gb, .slice p' nl cap'] (by rfl) #[.int .i64 0, .int .i64 0, .bool false, .slice none 0 0] 24 hzX rfl (by kernel_rfl) (by simp [Value.oneCell']) ?_))
          intro w8 hg hr
          have HF := Lib.hid ((HGW.out.trans HG7.out).new_row hg (Nat.le_refl _))
          have HR := Lib.hid hr
          have HO8 := Lib.hid ((HOO.out.gro HG7.out (by simp)).gro hg (fun g0 e => by have := hlw; have := hw13.out; injection e with e; omega))
          clear hg hr hzX
          (try go_wp2_with fail)
          (try simp only [Exit.inBlock, Exit.then])
          refine bodyPost_ret (res_rtim rfl rfl HR.out (by kernel_rfl)) rfl ?_
          refine ⟨HF.out, fun h => absurd HK0.out h, fun _ => ⟨.slice p' nl cap', by rw [HGBE.out]; rfl, ?_⟩⟩
          rw [HAI.out]
          exact HO8.out.weak (by have := hw13.out; omega)
        · rw [decide_eq_false heq]
          have hk0 : readK bs = 2 := by rw [HRE.out, if_neg (not_not_intro hok), if_neg (fun h => heq h.symm)]
          have HK0 := Lib.hid hk0
          have hzX := HZ7.out
          clear hk0 heq hok
          go_wp2_with (refine store_row rfl 24 _ _ rfl w.heap.size rfl #[.int .i64 0, .int .i64 0, .bool false, .slice none 0 0] (by rfl) #[.int .i64 0, .int .i64 0, .bool false, .slice none 0 0] 24 hzX rfl (by kernel_rfl) (by simp [Value.oneCell']) ?_)
          intro w8 hg hr
          have HF := Lib.hid ((HGW.out.trans HG7.out).new_row hg (Nat.le_refl _))
          have HR := Lib.hid hr
          clear hg hr hzX
          (try go_wp2_with fail)
          (try simp only [Exit.inBlock, Exit.then])
          refine bodyPost_ret (res_rtim rfl rfl HR.out (by kernel_rfl)) rfl ?_
          exact ⟨HF.out, fun _ => by rw [HK0.out]; rfl, fun h => by rw [HK0.out] at h; cases h⟩
      · have hk0 : readK bs = 3 := by rw [HRE.out, if_pos hok]
        have HK0 := Lib.hid hk0
        clear hk0
        go_wp2_with (refine load_row rfl _ _ rfl _ rfl _ _ HRW.out _ Tryd.underlying24 rfl (by kernel_rfl) ?_)
        refine (HTN.out hok wr (Gro.refl _ _)).mono ?_
        rintro e w6 ⟨rfl, hg⟩
        have HG6 := Lib.hid hg
        have hzX := (hg.block w.heap.size (blk_in HZR.out) (by simp)).trans HZR.out
        clear hg HTB HTN HSB' HRW HZR hok
        go_wp2_with (refine store_row rfl 24 _ _ rfl w.heap.size rfl #[.int .i64 0, .int .i64 0, .bool false, .slice none 0 0] (by rfl) #[.int .i64 0, .int .i64 0, .bool false, .slice none 0 0] 24 hzX rfl (by kernel_rfl) (by simp [Value.oneCell']) ?_)
        intro w8 hg hr
        have HF := Lib.hid ((HGW.out.trans HG6.out).new_row hg (Nat.le_refl _))
        have HR := Lib.hid hr
        clear hg hr hzX
        (try go_wp2_with fail)
        (try simp only [Exit.inBlock, Exit.then])
        refine bodyPost_ret (res_rtim rfl rfl HR.out (by kernel_rfl)) rfl ?_
        exact ⟨HF.out, fun _ => by rw [HK0.out]; rfl, fun h => by rw [HK0.out] at h; cases h⟩
end Go.Proofs.YtchoeafkjgcmbaaDoor
