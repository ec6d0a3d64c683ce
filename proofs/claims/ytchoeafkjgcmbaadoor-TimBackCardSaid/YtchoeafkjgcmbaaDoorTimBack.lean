/-
  THE WALK OF TimBack: an element that may be is read from its bytes as it is; each of its stations is in it, no other is; it is as short as it can be; it answers true. Conditions: four sentinels' own ('Four'), and that the stations lie where the slice says.
-/
import Derived.Test.YtchoeafkjgcmbaaDoorTimK
import Derived.Test.YtchoeafkjgcmbaaDoorCalm3
namespace Go.Proofs.YtchoeafkjgcmbaaDoor
open Go.RowKit

set_option maxHeartbeats 8000000 in
set_option maxRecDepth 100000 in
theorem back6_any (count period aid : Int) (group : Bool) (p : Option Addr) (cap : Nat) (xs : List Int) (A : Nat → Addr) (W : World) (hs : Four W.heap.size W A) (hl : LieI W p xs) :
    Calls Tryd.prog 5 #[timV count period group (.slice p xs.length cap), .int .i64 aid] W fun e w' => e = .returned (.bool true) ∧ Far W.heap.size W w' := by
  have HS := Lib.hid (fun w' (k : Gro none W w') => (show Four W.heap.size w' A from hs.far fun i hi => k.block i hi (by simp)))
  have HLI := Lib.hid (fun w' (k : Gro none W w') => hl.gro k (by simp))
  have HT := Lib.hid (fun (h60 : xs.length ≤ 60) (hok : okT count period xs) w' (k : Gro none W w') => tim_any count period group p cap xs w' (hl.gro k (by simp)) (by omega) hok)
  have HTB := Lib.hid (fun (h60 : xs.length ≤ 60) (hok : ¬ okT count period xs) w' (k : Gro none W w') => tim_bad count period group p cap xs _ w' (hl.gro k (by simp)) (by omega) hok (hs.far fun i hi => k.block i hi (by simp)).c2 (by have := hs.big; have := k.size; omega))
  have HRH := Lib.hid (fun (h60 : xs.length ≤ 60) w' (k : Gro none W w') => refHas_any p cap xs aid w' (hl.gro k (by simp)) (by omega))
  have HSM := Lib.hid (fun (h60 : xs.length ≤ 60) (q : Option Addr) (d : Nat) w' (k : Gro none W w') (h' : LieI w' q xs) => (sameTim_any count period count period group group q p d cap xs xs w' h' (hl.gro k (by simp)) (by omega)).mono fun e w'' ⟨he, hg⟩ => (⟨he.trans (ret_bool (decide_eq_true ⟨rfl, rfl, rfl, rfl⟩)), hg⟩ : e = Ending.returned (.bool true) ∧ Gro none w' w''))
  clear hs hl
  generalize hn : xs.length = n at *
  have HLN := Lib.hid hn
  clear hn
  unfold timV at *
  go_enter Tryd.func5, Tryd.ntmps5
  go_wp2_with fail
  have hgb : Gro none W (W.alloc (.cells #[.int .i64 count, .int .i64 period, .bool group, .slice p n cap] 24)) := (Gro.refl _ _).alloc _
  have hbx : (W.alloc (.cells #[.int .i64 count, .int .i64 period, .bool group, .slice p n cap] 24)).heap[W.heap.size]? = some (.cells #[.int .i64 count, .int .i64 period, .bool group, .slice p n cap] 24 (0, 0)) := heap_alloc_new W _
  generalize W.alloc (.cells #[.int .i64 count, .int .i64 period, .bool group, .slice p n cap] 24) = wb at *
  have HBX := Lib.hid (fun w' (k : Gro none wb w') => (k.block W.heap.size (blk_in hbx) (by simp)).trans hbx)
  have HB3 : Hid (∀ w', Gro none wb w' → w'.cell? ⟨W.heap.size, 3, none⟩ = some (.slice p n cap)) := fun w' k => by
    have c := cell_of_row w' W.heap.size 3 _ _ _ (HBX.out w' k)
    simpa using c
  have HG := Lib.hid hgb
  clear hgb hbx
  refine (first6_any wb).mono ?_
  rintro e w1 ⟨rfl, hg1⟩
  have HG1 := Lib.hid hg1
  have hb1 := HBX.out _ hg1
  have c3 := HB3.out _ hg1
  clear hg1
  by_cases h60 : n ≤ 60
  · have i60 : ¬ 60 < (n : Int) := by omega
    have HRH := Lib.hid (HRH.out h60)
    have HSM := Lib.hid (HSM.out h60)
    go_wp2_with (refine load_row rfl _ _ rfl _ rfl _ _ hb1 _ Tryd.underlying24 rfl (by kernel_rfl) ?_)
    clear hb1 c3
    by_cases hok : okT count period xs
    · refine (HT.out h60 hok w1 (HG.out.trans HG1.out)).mono ?_
      rintro e w2 ⟨v, rfl, hg2, ho2⟩
      clear HTB HT
      obtain ⟨q0, cp, rfl, hcp, hlie, -⟩ := ho2.lie
      have hsz := sizeOf_pos hok.2.2
      have hlen := timL_len count period group xs
      obtain ⟨bb, o, rfl, -⟩ := hlie 0 (by omega)
      have HG2 := Lib.hid (HG1.out.trans hg2)
      have HRW := Lib.hid (fun w' (k : Gro none w2 w') => read_written count period group xs hok (some ⟨bb, o, none⟩) cp W.heap.size A w' (HS.out w' (HG.out.trans (HG2.out.trans k))) (HG.out.trans (HG2.out.trans k)).size hcp (hlie.gro k (by simp)))
      have HHW := Lib.hid (fun x w' (k : Gro none w2 w') => has_written count period group xs x hok (some ⟨bb, o, none⟩) cp W.heap.size A w' (HS.out w' (HG.out.trans (HG2.out.trans k))) (HG.out.trans (HG2.out.trans k)).size hcp (hlie.gro k (by simp)))
      have HCL := Lib.hid (fun w' (k : Gro none w2 w') (i : Nat) (hi : i < sizeOf' xs + 5) => (by
        obtain ⟨b', o', e, hc⟩ := (hlie.gro k (by simp)) i (by rw [hlen]; exact hi)
        cases e
        exact hc : w'.cell? ⟨bb, o + i, none⟩ = some (.int .u8 ((timL count period group xs).getD i 0))))
      have HP1 := Lib.hid (fun (h : xs ≠ []) => part_last hok.2.2 h)
      have HP2 := Lib.hid (fun (h : xs ≠ []) => part_first hok.2.2 h)
      have HPN : Hid (xs = [] → sizeOf' xs = 1) := fun h => by rw [h]; rfl
      rw [hlen] at HRW HHW hcp ⊢
      have HTP := Lib.hid (tim_part count period group xs)
      have HMEM := Lib.hid (fun k (hk : k < xs.length) => getD_mem hk)
      clear hlie ho2 hg2 hok hlen
      generalize timL count period group xs = L at *
      generalize hS : sizeOf' xs = S at *
      generalize hm : S + 5 = m at *
      have m6 : 6 ≤ m := by omega
      have m256 : m ≤ 256 := by omega
      unfold timV at HRW
      go_wp2_with fail
      refine (HRW.out w2 (Gro.refl _ _)).mono ?_
      rintro e w3 ⟨s, rfl, hg, ho⟩
      obtain ⟨q', d', rfl, hli⟩ := ho.lie
      have HSM := Lib.hid (fun w' (k : Gro none w3 w') => HSM.out q' d' w' (HG.out.trans (HG2.out.trans (hg.trans k))) (hli.gro k (by simp)))
      rw [HLN.out]
      have HG3 := Lib.hid hg
      clear hg ho hli HRW
      go_wp2_with (refine alloc_row rfl 24 rfl 8 rfl #[.int .i64 0, .int .i64 0, .bool false, .slice none 0 0] 24 tim_run rfl (.tmp 36) rfl (by first | (simp; done) | (simp [Act.put]; done)) #[.int .i64 count, .int .i64 period, .bool group, .slice q' n d'] (by rfl) rfl (by kernel_rfl) (by simp [Value.oneCell']) ?_)
      intro w4 hg hr
      have HR4 := Lib.hid (fun w' (k : Gro none w4 w') => (k.block w3.heap.size (blk_in hr) (by simp)).trans hr)
      have HG4 := Lib.hid hg
      have HG24 := Lib.hid (HG3.out.trans hg)
      clear hg hr
      generalize w3.heap.size = g8 at *
      have j1 : (5 : Int) ≤ (m : Int) := by omega
      have j2 : IntKind.i64.wrap ((m : Int) - 5) = (S : Int) := by rw [IntKind.wrap_i64]; omega
      have j3 : ¬ (S : Int) < 1 := by omega
      go_upto_region 11 with fail
      have HHA := Lib.hid (HHW.out aid)
      generalize hdm : decide (aid ∈ xs) = dm at *
      clear hdm
      refine wp_region_G (by kernel_rfl) ?_
      refine gY (i := 0) (x := 41) (v := .nilIface) rfl (by kernel_rfl) (by kernel_rfl) (by kernel_rfl) (fun _ _ _ h => h) (by rfl) (by intro w' k; go_simp) ?_
      simp only [Act.put, List.setIfInBounds_toArray, List.set_cons_zero, List.set_cons_succ]
      refine gY (i := 1) (x := 42) (v := .bool false) rfl (by kernel_rfl) (by kernel_rfl) (by kernel_rfl) (fun _ _ _ h => h) (by rfl) (by intro w' k; go_simp) ?_
      simp only [Act.put, List.setIfInBounds_toArray, List.set_cons_zero, List.set_cons_succ]
      refine gY (i := 2) (x := 43) (v := .bool false) rfl (by kernel_rfl) (by kernel_rfl) (by kernel_rfl) (fun _ _ _ h => h) (by rfl) (by intro w' k; go_simp) ?_
      simp only [Act.put, List.setIfInBounds_toArray, List.set_cons_zero, List.set_cons_succ]
      refine gY (i := 3) (x := 44) (v := .agg #[.int .i64 count, .int .i64 period, .bool group, .slice q' n d']) rfl (by kernel_rfl) (by kernel_rfl) (by kernel_rfl) (fun _ _ _ h => h) (by rfl) (fun w' k => run_row 24 _ rfl _ rfl _ _ (HR4.out w' k) _ Tryd.underlying24 rfl (by kernel_rfl)) ?_
      simp only [Act.put, List.setIfInBounds_toArray, List.set_cons_zero, List.set_cons_succ]
      refine gY (i := 4) (x := 45) (v := .agg #[.int .i64 count, .int .i64 period, .bool group, .slice p n cap]) rfl (by kernel_rfl) (by kernel_rfl) (by kernel_rfl) (fun _ _ _ h => h) (by rfl) (fun w' k => run_row 24 _ rfl _ rfl _ _ (HBX.out w' (HG2.out.trans (HG24.out.trans k))) _ Tryd.underlying24 rfl (by kernel_rfl)) ?_
      simp only [Act.put, List.setIfInBounds_toArray, List.set_cons_zero, List.set_cons_succ]
      refine gC (i := 5) (x := 46) (v := .bool true) 12 #[.agg #[.int .i64 count, .int .i64 period, .bool group, .slice q' n d'], .agg #[.int .i64 count, .int .i64 period, .bool group, .slice p n cap]] rfl (by kernel_rfl) (by kernel_rfl) (by kernel_rfl) (fun _ _ _ h => h) (by rfl) (by intro w'; go_simp) (fun w' k => HSM.out w' (HG4.out.trans k)) ?_
      simp only [Act.put, List.setIfInBounds_toArray, List.set_cons_zero, List.set_cons_succ]
      refine gY (i := 6) (x := 47) (v := .bool false) rfl (by kernel_rfl) (by kernel_rfl) (by kernel_rfl) (fun _ _ _ h => h) (by rfl) (by intro w' k; go_simp) ?_
      simp only [Act.put, List.setIfInBounds_toArray, List.set_cons_zero, List.set_cons_succ]
      refine gY (i := 7) (x := 48) (v := .bool false) rfl (by kernel_rfl) (by kernel_rfl) (by kernel_rfl) (fun _ _ _ h => h) (by rfl) (by intro w' k; go_simp) ?_
      simp only [Act.put, List.setIfInBounds_toArray, List.set_cons_zero, List.set_cons_succ]
      refine gY (i := 8) (x := 49) (v := .bool false) rfl (by kernel_rfl) (by kernel_rfl) (by kernel_rfl) (fun _ _ _ h => h) (by rfl) (by intro w' k; go_simp) ?_
      simp only [Act.put, List.setIfInBounds_toArray, List.set_cons_zero, List.set_cons_succ]
      refine gY (i := 9) (x := 50) (v := .int .i64 (S : Int)) rfl (by kernel_rfl) (by kernel_rfl) (by kernel_rfl) (fun _ _ _ h => h) (by rfl) (by intro w' k; go_simp) ?_
      simp only [Act.put, List.setIfInBounds_toArray, List.set_cons_zero, List.set_cons_succ]
      refine gY (i := 10) (x := 51) (v := .bool false) rfl (by kernel_rfl) (by kernel_rfl) (by kernel_rfl) (fun _ _ _ h => h) (by rfl) (by intro w' k; go_simp) ?_
      simp only [Act.put, List.setIfInBounds_toArray, List.set_cons_zero, List.set_cons_succ]
      refine gY (i := 11) (x := 52) (v := .bool false) rfl (by kernel_rfl) (by kernel_rfl) (by kernel_rfl) (fun _ _ _ h => h) (by rfl) (by intro w' k; go_simp) ?_
      simp only [Act.put, List.setIfInBounds_toArray, List.set_cons_zero, List.set_cons_succ]
      refine gY (i := 12) (x := 53) (v := .bool false) rfl (by kernel_rfl) (by kernel_rfl) (by kernel_rfl) (fun _ _ _ h => h) (by rfl) (by intro w' k; go_simp) ?_
      simp only [Act.put, List.setIfInBounds_toArray, List.set_cons_zero, List.set_cons_succ]
      refine gY (i := 13) (x := 54) (v := .slice (some ⟨bb, o, none⟩) m cp) rfl (by kernel_rfl) (by kernel_rfl) (by kernel_rfl) (fun _ _ _ h => h) (by rfl) (by intro w' k; go_simp) ?_
      simp only [Act.put, List.setIfInBounds_toArray, List.set_cons_zero, List.set_cons_succ]
      refine gY (i := 14) (x := 55) (v := .int .i64 aid) rfl (by kernel_rfl) (by kernel_rfl) (by kernel_rfl) (fun _ _ _ h => h) (by rfl) (by intro w' k; go_simp) ?_
      simp only [Act.put, List.setIfInBounds_toArray, List.set_cons_zero, List.set_cons_succ]
      refine gC (i := 15) (x := 56) (v := .bool dm) 17 #[.slice (some ⟨bb, o, none⟩) m cp, .int .i64 aid] rfl (by kernel_rfl) (by kernel_rfl) (by kernel_rfl) (fun _ _ _ h => h) (by rfl) (by intro w'; go_simp) (fun w' k => HHA.out w' (HG24.out.trans k)) ?_
      simp only [Act.put, List.setIfInBounds_toArray, List.set_cons_zero, List.set_cons_succ]
      refine gY (i := 16) (x := 57) (v := .pointer (some ⟨W.heap.size, 3, none⟩)) rfl (by kernel_rfl) (by kernel_rfl) (by kernel_rfl) (fun _ _ _ h => h) (by rfl) (by intro w' k; go_simp) ?_
      simp only [Act.put, List.setIfInBounds_toArray, List.set_cons_zero, List.set_cons_succ]
      refine gY (i := 17) (x := 58) (v := .slice p n cap) rfl (by kernel_rfl) (by kernel_rfl) (by kernel_rfl) (fun _ _ _ h => h) (by rfl) (by intro w' k; have hq := HB3.out w' (HG2.out.trans (HG24.out.trans k)); clear k; go_simp) ?_
      simp only [Act.put, List.setIfInBounds_toArray, List.set_cons_zero, List.set_cons_succ]
      refine gY (i := 18) (x := 59) (v := .int .i64 aid) rfl (by kernel_rfl) (by kernel_rfl) (by kernel_rfl) (fun _ _ _ h => h) (by rfl) (by intro w' k; go_simp) ?_
      simp only [Act.put, List.setIfInBounds_toArray, List.set_cons_zero, List.set_cons_succ]
      refine gC (i := 19) (x := 60) (v := .bool dm) 18 #[.slice p n cap, .int .i64 aid] rfl (by kernel_rfl) (by kernel_rfl) (by kernel_rfl) (fun _ _ _ h => h) (by rfl) (by intro w'; go_simp) (fun w' k => HRH.out w' (HG.out.trans (HG2.out.trans (HG24.out.trans k)))) ?_
      simp only [Act.put, List.setIfInBounds_toArray, List.set_cons_zero, List.set_cons_succ]
      refine gY (i := 20) (x := 61) (v := .bool false) rfl (by kernel_rfl) (by kernel_rfl) (by kernel_rfl) (fun _ _ _ h => h) (by rfl) (by intro w' k; cases dm <;> go_simp) ?_
      simp only [Act.put, List.setIfInBounds_toArray, List.set_cons_zero, List.set_cons_succ]
      refine gY (i := 21) (x := 62) (v := .bool false) rfl (by kernel_rfl) (by kernel_rfl) (by kernel_rfl) (fun _ _ _ h => h) (by rfl) (by intro w' k; go_simp) ?_
      simp only [Act.put, List.setIfInBounds_toArray, List.set_cons_zero, List.set_cons_succ]
      refine gDone (by kernel_rfl) fun w5 hg => ?_
      have HG5 := Lib.hid (HG24.out.trans hg)
      clear hg HHA HRH HSM HR4
      go_upto_region 14 with fail
      go_loopw [11] (fun i wr => ∃ k : Nat, k ≤ n ∧ i = .int .i64 k ∧ Gro none w2 wr) (fun i _ => n - (intOf i).toNat)
      case atStart => exact ⟨0, Nat.zero_le _, rfl, HG5.out⟩
      case round =>
        obtain ⟨k, hk, rfl, hg⟩ := hrel
        have HGG := Lib.hid hg
        have c3 := HB3.out wr (HG2.out.trans hg)
        by_cases hkn : k < n
        · obtain ⟨b1, o1, rfl, c1⟩ := HLI.out wr (HG.out.trans (HG2.out.trans hg)) k (by have := HLN.out; omega)
          have HH := Lib.hid (HHW.out (xs.getD k 0) wr hg)
          rw [decide_eq_true (HMEM.out k (by have := HLN.out; omega))] at HH
          have i0 : (0 : Int) ≤ (k : Int) := by omega
          have i1 : (k : Int) < (n : Int) := by omega
          generalize xs.getD k 0 = v at *
          clear hg
          go_wp2_with fail
          refine HH.out.mono ?_
          rintro e w7 ⟨rfl, hg⟩
          have HG7 := Lib.hid (HGG.out.trans hg)
          clear hg c1 c3 HH
          go_wp2_with fail
          go_roundw
          case rel => exact ⟨k + 1, by omega, by go_num, HG7.out⟩
          case measure => simp [intOf]; omega
        · obtain rfl : k = n := by omega
          by_cases n0 : k = 0
          · have hS1 := HPN.out (List.length_eq_zero_iff.1 (by rw [HLN.out]; exact n0))
            obtain rfl := hS1
            subst n0
            clear hg HHW HCL
            go_wp2_with fail
            go_ret
            exact ⟨rfl, (Far.refl _ _).gro (HG.out.trans (HG2.out.trans HGG.out)) (Nat.le_refl _) (fun _ e => by cases e)⟩
          · have hne : xs ≠ [] := fun h => n0 (by rw [← HLN.out, h]; rfl)
            have i0 : (0 : Int) < (k : Int) := by omega
            have i9 : ¬ (k : Int) = 0 := by omega
            have cl := HCL.out wr hg (m - 1) (by omega)
            have hvl := HP1.out hne
            rw [← HTP.out, show S - 1 + 5 = m - 1 by omega] at hvl
            have hp2 := HP2.out hne
            rw [← HTP.out, ← HTP.out] at hp2
            simp only [Nat.zero_add, Nat.reduceAdd] at hp2
            have c5 := HCL.out wr hg 5 (by omega)
            have c6 := fun (h : 2 ≤ S) => HCL.out wr hg 6 (by omega)
            generalize L.getD (m - 1) 0 = vl at *
            generalize L.getD 5 0 = v5 at *
            generalize L.getD 6 0 = v6 at *
            have hl0 : (vl != 0) = true := by simpa using hvl
            have j4 : IntKind.i64.wrap ((m : Int) - 1) = (m : Int) - 1 := by rw [IntKind.wrap_i64]; omega
            have j5 : (0 : Int) ≤ (m : Int) - 1 := by omega
            have j6 : (m : Int) - 1 < (m : Int) := by omega
            have e1 : ((m : Int) - 1).toNat = m - 1 := by omega
            clear hg HHW HCL hvl
            by_cases hS2 : S < 2
            · have j7 : (S : Int) < 2 := by omega
              clear c6 hp2
              go_wp2_with fail
              go_ret
              exact ⟨by first | rfl | exact ret_bool (by simp [*]), (Far.refl _ _).gro (HG.out.trans (HG2.out.trans HGG.out)) (Nat.le_refl _) (fun _ e => by cases e)⟩
            · have j7 : ¬ (S : Int) < 2 := by omega
              have c6 := c6 (by omega)
              have hp2 := hp2 (by omega)
              have j8 : (5 : Int) < (m : Int) := by omega
              have j9 : (6 : Int) < (m : Int) := by omega
              by_cases h5 : v5 = 0
              · have h6 : (v6 != 0) = true := by simp; omega
                subst h5
                clear hp2
                go_wp2_with fail
                go_ret
                exact ⟨by first | rfl | exact ret_bool (by simp [*]), (Far.refl _ _).gro (HG.out.trans (HG2.out.trans HGG.out)) (Nat.le_refl _) (fun _ e => by cases e)⟩
              · have h5' : (v5 != 0) = true := by simpa using h5
                clear hp2 h5
                go_wp2_with fail
                go_ret
                exact ⟨by first | rfl | exact ret_bool (by simp [*]), (Far.refl _ _).gro (HG.out.trans (HG2.out.trans HGG.out)) (Nat.le_refl _) (fun _ e => by cases e)⟩
    · refine (HTB.out h60 hok w1 (HG.out.trans HG1.out)).mono ?_
      rintro e w2 ⟨rfl, hg2⟩
      have HG2 := Lib.hid (HG1.out.trans hg2)
      clear hg2 HTB HT hok
      go_wp2_with fail
      go_ret
      exact ⟨rfl, (Far.refl _ _).gro (HG.out.trans HG2.out) (Nat.le_refl _) (fun _ e => by cases e)⟩
  · have i60 : 60 < (n : Int) := by omega
    clear HT HTB hb1
    go_wp2_with fail
    go_ret
    exact ⟨rfl, (Far.refl _ _).gro (HG.out.trans HG1.out) (Nat.le_refl _) (fun _ e => by cases e)⟩
end Go.Proofs.YtchoeafkjgcmbaaDoor
