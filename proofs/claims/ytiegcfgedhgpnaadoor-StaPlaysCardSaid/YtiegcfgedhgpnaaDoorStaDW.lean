/-
  THE DOCUMENT's TABLE OF CHAPTER 22 WALKED: Right, aid, Find. Conditions: the block is whole ('DTab').
-/
import Derived.Test.YtiegcfgedhgpnaaDoorStaDA
import Derived.Test.YtiegcfgedhgpnaaDoorCalm3S
namespace Go.Proofs.YtiegcfgedhgpnaaDoor
open Go.RowKit

theorem dright_any (x : Ad) (w : World) (h0 : 0 ≤ x.b0) (h1 : x.b0 < 256) : Calls Tryd.prog 26 #[adV x] w fun e w' => e = .returned (.bool (fairA x)) ∧ Gro none w w' := by
  have HS := Lib.hid (fun w => sameAddr_any x adZ w)
  have ha := and1_of x.b0 h0 h1
  have hf : fairA x = ((x.b0 % 2 == 0) && !eqA x adZ) := rfl
  rw [hf]
  clear hf
  generalize eqA x adZ = E at *
  obtain ⟨x0, x1, x2, x3, x4, x5⟩ := x
  unfold adV adZ at HS
  unfold adV
  simp only at h0 h1 ha HS ⊢
  by_cases hp : x0 % 2 = 0
  · have hb : (x0 % 2 == 0) = true := by simpa using hp
    rw [hp] at ha
    rw [hb]
    clear hb hp
    go_enter Tryd.func26, Tryd.ntmps26
    go_wp2_with fail
    refine (HS.out _).mono ?_
    rintro e w1 ⟨rfl, hg⟩
    have HG := Lib.hid (((Gro.refl none w).alloc _).trans hg)
    clear hg
    go_wp2_with fail
    go_ret
    exact ⟨by simp, HG.out⟩
  · have hb : (x0 % 2 == 0) = false := by simpa using hp
    rw [hb]
    go_enter Tryd.func26, Tryd.ntmps26
    go_wp2_with fail
    go_ret
    exact ⟨by simp, (Gro.refl _ _).alloc _⟩
theorem daid_any (a : Int) (w : World) : Calls Tryd.prog 27 #[.int .i64 a] w fun e w' => e = .returned (.bool (decide (1 ≤ a ∧ a ≤ 16))) ∧ Gro none w w' := by
  by_cases h1 : 1 ≤ a
  · by_cases h2 : a ≤ 16
    · rw [decide_eq_true ⟨h1, h2⟩]
      go_enter Tryd.func27, Tryd.ntmps27
      go_wp2_with fail
      go_ret
      exact ⟨rfl, Gro.refl _ _⟩
    · rw [decide_eq_false (fun h => h2 h.2)]
      have n2 : 16 < a := by omega
      go_enter Tryd.func27, Tryd.ntmps27
      go_wp2_with fail
      go_ret
      exact ⟨rfl, Gro.refl _ _⟩
  · rw [decide_eq_false (fun h => h1 h.1)]
    have n1 : a < 1 := by omega
    go_enter Tryd.func27, Tryd.ntmps27
    go_wp2_with fail
    go_ret
    exact ⟨rfl, Gro.refl _ _⟩
/-- The load of some cells that lie there, run. -/
theorem run_at {P : Program} {w : World} {op : Oper} {a : Act} (ty : TypeId) (x : Operand) (ho : op.op = .load ty x) (b o : Nat) (hx : a.eval x = .pointer (some ⟨b, o, none⟩)) (G : List Value) (hc : w.rangeAt b o G) (d : TypeDesc) (hu : P.underlying ty = some d) (hd : d.isRow = true)
    (hi : (P.info? ty).map (·.size) = some G.length) : (execOp a.eval op).run P w = .ok (.value (.agg G.toArray)) w := by
  unfold execOp
  simp only [ho, hx, Instr.loadAt, Instr.sureAddr, Sem.run_bind, Sem.run_pure, Result.andThen_ok, run_loadVar_mid w b o ty G d hc hu hd hi]
theorem DTab.range {b : Nat} {w : World} {T : Nat → Sone} (h : DTab b w T) (j : Nat) (hj : j < 16) (o : Nat) (ho : o = 6 * (j + 1)) : w.rangeAt b o [.int .u8 (T j).a.b0, .int .u8 (T j).a.b1, .int .u8 (T j).a.b2, .int .u8 (T j).a.b3, .int .u8 (T j).a.b4, .int .u8 (T j).a.b5] := by
  subst ho
  intro c v hv
  have hc : c < 6 := by
    rcases Nat.lt_or_ge c 6 with h | h
    · exact h
    · rw [List.getElem?_eq_none (by simpa using h)] at hv
      cases hv
  rw [h.addr j hj c hc, ← hv]
  rcases (show c = 0 ∨ c = 1 ∨ c = 2 ∨ c = 3 ∨ c = 4 ∨ c = 5 from by omega) with rfl | rfl | rfl | rfl | rfl | rfl <;> rfl
set_option maxHeartbeats 2000000 in
set_option maxRecDepth 100000 in
theorem dfind_any (b : Nat) (x : Ad) (m : Nat) (w : World) (T : Nat → Sone) (h : DTab b w T) (hm : m ≤ 16) (hno : ∀ k, k < m → hitB T x k = false) (hyes : m < 16 → hitB T x m = true) :
    Calls Tryd.prog 18 #[.pointer (some ⟨b, 0, none⟩), adV x] w fun e w' => e = .returned (.int .i64 (findI m)) ∧ Gro none w w' := by
  have HT := Lib.hid h
  have HNO := Lib.hid hno
  have HYES := Lib.hid hyes
  have HSA := Lib.hid (fun y w => sameAddr_any y x w)
  have HBX := Lib.hid (fun w' (k : Gro none (w.alloc (.cells #[.int .u8 x.b0, .int .u8 x.b1, .int .u8 x.b2, .int .u8 x.b3, .int .u8 x.b4, .int .u8 x.b5] 25)) w') => ((k.block w.heap.size (by simp) (by simp)).trans (heap_alloc_new w _)))
  clear h hno hyes
  unfold adV at HSA
  unfold adV
  go_enter Tryd.func18, Tryd.ntmps18
  go_wp2_with fail
  have hg0 : Gro none w (w.alloc (.cells #[.int .u8 x.b0, .int .u8 x.b1, .int .u8 x.b2, .int .u8 x.b3, .int .u8 x.b4, .int .u8 x.b5] 25)) := (Gro.refl _ _).alloc _
  generalize w.alloc (.cells #[.int .u8 x.b0, .int .u8 x.b1, .int .u8 x.b2, .int .u8 x.b3, .int .u8 x.b4, .int .u8 x.b5] 25) = w1 at *
  have HG := Lib.hid hg0
  clear hg0
  go_loopw [5] (fun i wr => ∃ K : Nat, 1 ≤ K ∧ K - 1 ≤ m ∧ i = .int .i64 K ∧ Gro none w1 wr) (fun i _ => 17 - (intOf i).toNat)
  case atStart => exact ⟨1, by decide, by omega, rfl, Gro.refl _ _⟩
  case round =>
    obtain ⟨K, hK1, hKm, rfl, hg⟩ := hrel
    have HGG := Lib.hid hg
    by_cases h16 : K ≤ 16
    · have hd := HT.out.gro (HG.out.trans hg) (by simp)
      have hj : K - 1 < 16 := by omega
      have cth := hd.there (K - 1) hj
      rw [show 103 + (K - 1) = 102 + K by omega] at cth
      have i0 : (1 : Int) ≤ (K : Int) := by omega
      have i1 : (K : Int) ≤ 16 := by omega
      have i2 : (K : Int) < 17 := by omega
      have i3 : (0 : Int) ≤ (K : Int) := by omega
      cases hth : (T (K - 1)).th with
      | false =>
        rw [hth] at cth
        have HH : Hid (hitB T x (K - 1) = false) := by unfold Hid hitB; rw [hth]; rfl
        have hlt : K - 1 < m := by
          rcases Nat.lt_or_ge (K - 1) m with h | h
          · exact h
          · have e : K - 1 = m := by omega
            have h2 := HYES.out (by omega)
            rw [← e, HH.out] at h2
            cases h2
        have HLT := Lib.hid hlt
        clear hd hg hth hlt
        go_wp2_with fail
        go_quiet (fail)
        all_goals (try go_wp2_with fail)
        all_goals exact ⟨⟨K + 1, by omega, by have := HLT.out; omega, by go_num, HGG.out.drewN _⟩, by simp [intOf]; omega⟩
      | true =>
        rw [hth] at cth
        have HH : Hid (hitB T x (K - 1) = eqA (T (K - 1)).a x) := by unfold Hid hitB; rw [hth]; rfl
        have HDR := Lib.hid (fun w' (k : Gro none wr w') => (hd.gro k (by simp)).range (K - 1) hj (K * 6) (by omega))
        have HTH := Lib.hid (fun w' (k : Gro none wr w') => (k.cell (p := ⟨b, 102 + K, none⟩) (block_lt_of_cell cth) (by simp)).trans cth)
        have HBR := Lib.hid (fun w' (k : Gro none wr w') => HBX.out w' (hg.trans k))
        have HSAK := Lib.hid (HSA.out (T (K - 1)).a)
        generalize eqA (T (K - 1)).a x = E at *
        generalize (T (K - 1)).a = y at *
        have j0 : (K : Int) < 17 := by omega
        clear hd hth cth hg
        go_wp2_with fail
        refine wp_region_G (by kernel_rfl) ?_
        refine gY (i := 0) (x := 10) (v := .pointer (some ⟨b, 0, none⟩)) rfl (by kernel_rfl) (by kernel_rfl) (by kernel_rfl) (fun _ _ _ h => h) (by rfl) (by intro w' k; go_simp) ?_
        simp only [Act.put, List.setIfInBounds_toArray, List.set_cons_zero, List.set_cons_succ]
        refine gY (i := 1) (x := 11) (v := .int .i64 (K : Int)) rfl (by kernel_rfl) (by kernel_rfl) (by kernel_rfl) (fun _ _ _ h => h) (by rfl) (by intro w' k; go_simp) ?_
        simp only [Act.put, List.setIfInBounds_toArray, List.set_cons_zero, List.set_cons_succ]
        refine gY (i := 2) (x := 12) (v := .pointer (some ⟨b, 0, none⟩)) rfl (by kernel_rfl) (by kernel_rfl) (by kernel_rfl) (fun _ _ _ h => h) (by rfl) (by intro w' k; go_simp) ?_
        simp only [Act.put, List.setIfInBounds_toArray, List.set_cons_zero, List.set_cons_succ]
        refine gY (i := 3) (x := 13) (v := .pointer (some ⟨b, 102, none⟩)) rfl (by kernel_rfl) (by kernel_rfl) (by kernel_rfl) (fun _ _ _ h => h) (by rfl) (by intro w' k; go_simp) ?_
        simp only [Act.put, List.setIfInBounds_toArray, List.set_cons_zero, List.set_cons_succ]
        refine gY (i := 4) (x := 14) (v := .pointer (some ⟨b, 102 + K, none⟩)) rfl (by kernel_rfl) (by kernel_rfl) (by kernel_rfl) (fun _ _ _ h => h) (by rfl) (by intro w' k; go_simp) ?_
        simp only [Act.put, List.setIfInBounds_toArray, List.set_cons_zero, List.set_cons_succ]
        refine gY (i := 5) (x := 15) (v := .bool true) rfl (by kernel_rfl) (by kernel_rfl) (by kernel_rfl) (fun _ _ _ h => h) (by rfl) (by intro w' k; have hq := HTH.out w' k; clear k; go_simp) ?_
        simp only [Act.put, List.setIfInBounds_toArray, List.set_cons_zero, List.set_cons_succ]
        refine gY (i := 6) (x := 16) (v := .bool true) rfl (by kernel_rfl) (by kernel_rfl) (by kernel_rfl) (fun _ _ _ h => h) (by rfl) (by intro w' k; go_simp) ?_
        simp only [Act.put, List.setIfInBounds_toArray, List.set_cons_zero, List.set_cons_succ]
        refine gY (i := 7) (x := 17) (v := .pointer (some ⟨b, 0, none⟩)) rfl (by kernel_rfl) (by kernel_rfl) (by kernel_rfl) (fun _ _ _ h => h) (by rfl) (by intro w' k; go_simp) ?_
        simp only [Act.put, List.setIfInBounds_toArray, List.set_cons_zero, List.set_cons_succ]
        refine gY (i := 8) (x := 18) (v := .int .i64 (K : Int)) rfl (by kernel_rfl) (by kernel_rfl) (by kernel_rfl) (fun _ _ _ h => h) (by rfl) (by intro w' k; go_simp) ?_
        simp only [Act.put, List.setIfInBounds_toArray, List.set_cons_zero, List.set_cons_succ]
        refine gY (i := 9) (x := 19) (v := .pointer (some ⟨b, 0, none⟩)) rfl (by kernel_rfl) (by kernel_rfl) (by kernel_rfl) (fun _ _ _ h => h) (by rfl) (by intro w' k; go_simp) ?_
        simp only [Act.put, List.setIfInBounds_toArray, List.set_cons_zero, List.set_cons_succ]
        refine gY (i := 10) (x := 20) (v := .pointer (some ⟨b, 0, none⟩)) rfl (by kernel_rfl) (by kernel_rfl) (by kernel_rfl) (fun _ _ _ h => h) (by rfl) (by intro w' k; go_simp) ?_
        simp only [Act.put, List.setIfInBounds_toArray, List.set_cons_zero, List.set_cons_succ]
        refine gY (i := 11) (x := 21) (v := .pointer (some ⟨b, K * 6, none⟩)) rfl (by kernel_rfl) (by kernel_rfl) (by kernel_rfl) (fun _ _ _ h => h) (by rfl) (by intro w' k; go_simp) ?_
        simp only [Act.put, List.setIfInBounds_toArray, List.set_cons_zero, List.set_cons_succ]
        refine gY (i := 12) (x := 22) (v := .agg #[.int .u8 y.b0, .int .u8 y.b1, .int .u8 y.b2, .int .u8 y.b3, .int .u8 y.b4, .int .u8 y.b5]) rfl (by kernel_rfl) (by kernel_rfl) (by kernel_rfl) (fun _ _ _ h => h) (by rfl) (fun w' k => run_at 25 _ rfl b (K * 6) rfl _ (HDR.out w' k) _ Tryd.underlying25 rfl (by kernel_rfl)) ?_
        simp only [Act.put, List.setIfInBounds_toArray, List.set_cons_zero, List.set_cons_succ]
        refine gY (i := 13) (x := 23) (v := .agg #[.int .u8 x.b0, .int .u8 x.b1, .int .u8 x.b2, .int .u8 x.b3, .int .u8 x.b4, .int .u8 x.b5]) rfl (by kernel_rfl) (by kernel_rfl) (by kernel_rfl) (fun _ _ _ h => h) (by rfl) (fun w' k => run_row 25 _ rfl _ rfl _ _ (HBR.out w' k) _ Tryd.underlying25 rfl (by kernel_rfl)) ?_
        simp only [Act.put, List.setIfInBounds_toArray, List.set_cons_zero, List.set_cons_succ]
        refine gC (i := 14) (x := 24) (v := .bool E) 21 #[.agg #[.int .u8 y.b0, .int .u8 y.b1, .int .u8 y.b2, .int .u8 y.b3, .int .u8 y.b4, .int .u8 y.b5], .agg #[.int .u8 x.b0, .int .u8 x.b1, .int .u8 x.b2, .int .u8 x.b3, .int .u8 x.b4, .int .u8 x.b5]] rfl (by kernel_rfl) (by kernel_rfl) (by kernel_rfl) (fun _ _ _ h => h) (by rfl) (by intro w'; go_simp) (fun w' k => HSAK.out w') ?_
        simp only [Act.put, List.setIfInBounds_toArray, List.set_cons_zero, List.set_cons_succ]
        refine gY (i := 15) (x := 25) (v := .bool E) rfl (by kernel_rfl) (by kernel_rfl) (by kernel_rfl) (fun _ _ _ h => h) (by rfl) (by intro w' k; go_simp) ?_
        simp only [Act.put, List.setIfInBounds_toArray, List.set_cons_zero, List.set_cons_succ]
        refine gDone (by kernel_rfl) fun w5 hg5 => ?_
        have HG5 := Lib.hid (HGG.out.trans hg5)
        clear hg5 HSAK HBR HTH HDR
        cases hE : E with
        | true =>
          rw [hE] at HH
          have hmK : m = K - 1 := by
            rcases Nat.lt_or_ge (K - 1) m with h | h
            · rw [HNO.out _ h] at HH
              exact absurd HH.out (by decide)
            · omega
          subst hmK
          have HFI : Hid (findI (K - 1) = (K : Int)) := by unfold Hid findI; rw [if_pos hj]; omega
          go_wp2_with fail
          go_ret
          exact ⟨by rw [HFI.out]; rfl, HG.out.trans HG5.out⟩
        | false =>
          rw [hE] at HH
          have hlt : K - 1 < m := by
            rcases Nat.lt_or_ge (K - 1) m with h | h
            · exact h
            · have e : K - 1 = m := by omega
              have h2 := HYES.out (by omega)
              rw [← e, HH.out] at h2
              cases h2
          have HLT := Lib.hid hlt
          clear hlt
          go_wp2_with fail
          go_roundw
          case rel => exact ⟨K + 1, by omega, by have := HLT.out; omega, by go_num, HG5.out⟩
          case measure => simp [intOf]; omega
    · have hm16 : m = 16 := by omega
      subst hm16
      clear hg
      go_wp2_with fail
      go_ret
      exact ⟨rfl, HG.out.trans HGG.out⟩
end Go.Proofs.YtiegcfgedhgpnaaDoor
