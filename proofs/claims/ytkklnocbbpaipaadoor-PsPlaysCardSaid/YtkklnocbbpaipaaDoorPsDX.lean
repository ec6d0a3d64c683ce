/-
  THE DOCUMENT's STATIONS WALKED, MORE: May, Sent, Add of muezzinref15.Power. Conditions: the block is whole ('DPow').
-/
import Derived.Test.YtkklnocbbpaipaaDoorPsDW
namespace Go.Proofs.YtkklnocbbpaipaaDoor
open Go.RowKit

def napR (o : One) : List Value := [.bool o.th, .bool o.sl, .bool o.po, .bool o.op, .bool o.u0, .bool o.u1, .bool o.u2, .bool o.u3, .int .i64 o.most, .int .i64 o.left]
theorem DPow.range {b : Nat} {w : World} {P : Nat → One} (h : DPow b w P) (j : Nat) (hj : j < 16) (a : Int) (ha : a = j + 1) : w.rangeAt b (a.toNat * 10) (napR (P j)) := by
  intro c v hv
  have hc : c < 10 := by
    rcases Nat.lt_or_ge c 10 with h | h
    · exact h
    · rw [List.getElem?_eq_none (by simpa [napR] using h)] at hv
      cases hv
  rw [show a.toNat * 10 + c = 10 * (j + 1) + c by omega, h.cell j hj c hc, ← hv]
  rcases (show c = 0 ∨ c = 1 ∨ c = 2 ∨ c = 3 ∨ c = 4 ∨ c = 5 ∨ c = 6 ∨ c = 7 ∨ c = 8 ∨ c = 9 from by omega) with rfl | rfl | rfl | rfl | rfl | rfl | rfl | rfl | rfl | rfl <;> rfl
theorem nap_run (w : World) : (Instr.alloc 51 true (.tuple #[])).run Tryd.prog w = .ok (.pointer (some ⟨w.heap.size, 0, none⟩)) (w.alloc (.cells #[.bool false, .bool false, .bool false, .bool false, .bool false, .bool false, .bool false, .bool false, .int .i64 0, .int .i64 0] 51)) := by go_simp
theorem nap_cells {w : World} {B : Nat} {o : One} (h : w.heap[B]? = some (.cells (napR o).toArray 51 (0, 0))) (ac : Int) (h0 : 0 ≤ ac) (h4 : ac < 4) :
    w.cell? ⟨B, 1, none⟩ = some (.bool o.sl) ∧ w.cell? ⟨B, 2, none⟩ = some (.bool o.po) ∧ w.cell? ⟨B, 3, none⟩ = some (.bool o.op) ∧ w.cell? ⟨B, 4 + ac.toNat, none⟩ = some (.bool (uOf o ac)) := by
  have hc : ∀ k, w.cell? ⟨B, k, none⟩ = (napR o).toArray[k]? := fun k => cell_of_row w B k _ _ _ h
  refine ⟨(hc 1).trans rfl, (hc 2).trans rfl, (hc 3).trans rfl, ?_⟩
  rw [hc]
  rcases (show ac = 0 ∨ ac = 1 ∨ ac = 2 ∨ ac = 3 from by omega) with rfl | rfl | rfl | rfl <;> rfl
theorem dmay_nil (b : Nat) (a : Int) (ac : Int) (w : World) (P : Nat → One) (h : DPow b w P) (hg : Gone P a) :
    Calls Tryd.prog 30 #[.pointer (some ⟨b, 0, none⟩), .int .i64 a, .int .i64 ac] w fun e w' => e = .returned (.bool false) ∧ w = w' := by
  have hof := Lib.hid (dthere_nil b a w P h hg)
  clear h hg
  go_enter Tryd.func30, Tryd.ntmps30
  go_wp2_with fail
  refine hof.out.mono ?_
  rintro e w' ⟨rfl, rfl⟩
  go_wp2_with fail
  go_ret
  exact ⟨rfl, rfl⟩
theorem dmay_far (b : Nat) (a ac : Int) (j : Nat) (w : World) (P : Nat → One) (h : DPow b w P) (hj : j < 16) (ha : a = j + 1) (ht : (P j).th = true) (h0 : ac < 0 ∨ 4 ≤ ac) :
    Calls Tryd.prog 30 #[.pointer (some ⟨b, 0, none⟩), .int .i64 a, .int .i64 ac] w fun e w' => e = .returned (.bool false) ∧ w = w' := by
  have hof := Lib.hid (dthere_at b a j true w P h hj ha ht)
  have hfa := Lib.hid (dcat_out ac w h0)
  clear h ha ht hj h0
  go_enter Tryd.func30, Tryd.ntmps30
  go_wp2_with fail
  refine hof.out.mono ?_
  rintro e w' ⟨rfl, rfl⟩
  go_wp2_with fail
  refine hfa.out.mono ?_
  rintro e w' ⟨rfl, rfl⟩
  go_wp2_with fail
  go_ret
  exact ⟨rfl, rfl⟩
theorem dmay_there (b : Nat) (a ac : Int) (j : Nat) (w : World) (P : Nat → One) (h : DPow b w P) (hj : j < 16) (ha : a = j + 1) (ht : (P j).th = true) (h0 : 0 ≤ ac) (h4' : ac < 4) :
    Calls Tryd.prog 30 #[.pointer (some ⟨b, 0, none⟩), .int .i64 a, .int .i64 ac] w fun e w' => e = .returned (.bool (mayO (P j) ac)) ∧ Gro none w w' := by
  have h1 : 1 ≤ a := by omega
  have h2 : a ≤ 16 := by omega
  have h3 : a < 17 := by omega
  have h4 : 0 ≤ a := by omega
  have hof := Lib.hid (dthere_at b a j true w P h hj ha ht)
  have hfa := Lib.hid (dcat_in ac w h0 h4')
  have hr := h.range j hj a ha
  have hm : Hid (mayO (P j) ac = (!(P j).sl || (P j).po || ((P j).op && uOf (P j) ac))) := rfl
  clear h ha ht hj
  generalize mayO (P j) ac = r at *
  generalize P j = o at *
  go_enter Tryd.func30, Tryd.ntmps30
  go_wp2_with fail
  refine hof.out.mono ?_
  rintro e w' ⟨rfl, rfl⟩
  go_wp2_with fail
  refine hfa.out.mono ?_
  rintro e w' ⟨rfl, rfl⟩
  go_wp2_with (first
    | refine wpList_load_mid rfl 51 _ rfl b (a.toNat * 10) rfl _ _ hr Tryd.underlying51 rfl (by kernel_rfl) ?_
    | refine alloc_row rfl 51 rfl 7 rfl #[.bool false, .bool false, .bool false, .bool false, .bool false, .bool false, .bool false, .bool false, .int .i64 0, .int .i64 0] 51 nap_run rfl (.tmp 22) rfl (by first | (simp; done) | (simp [Act.put]; done)) (napR o).toArray (by rfl) rfl (by kernel_rfl) (by simp [Value.oneCell', napR]) ?_)
  intro w7 hg7 hr7
  have HG7 := Lib.hid hg7
  obtain ⟨c1, c2, c3, c4⟩ := nap_cells hr7 ac h0 h4'
  clear hr hr7 hg7
  generalize w.heap.size = B at *
  generalize o.sl = sl at *
  generalize o.po = po at *
  generalize o.op = op at *
  cases sl <;> cases po <;> cases op
  all_goals
    have hr := hm.out
    simp only [Bool.not_false, Bool.not_true, Bool.true_or, Bool.false_or, Bool.or_false, Bool.or_true, Bool.true_and, Bool.false_and] at hr
    have HR := Lib.hid hr
    clear hm hr
    go_wp2_with fail
    go_ret
    exact ⟨ret_bool HR.out.symm, HG7.out⟩
theorem dsent_nil (b : Nat) (a : Int) (ac : Int) (more : Bool) (w : World) (P : Nat → One) (h : DPow b w P) (hg : Gone P a) :
    Calls Tryd.prog 26 #[.pointer (some ⟨b, 0, none⟩), .int .i64 a, .int .i64 ac, .bool more] w fun e w' => e = .returned (.tuple #[.bool false, .int .i64 107]) ∧ w = w' := by
  have hof := Lib.hid (dthere_nil b a w P h hg)
  clear h hg
  go_enter Tryd.func26, Tryd.ntmps26
  go_wp2_with fail
  refine hof.out.mono ?_
  rintro e w' ⟨rfl, rfl⟩
  go_wp2_with fail
  go_ret2
  exact ⟨rfl, rfl⟩
theorem dsent_far (b : Nat) (a ac : Int) (more : Bool) (j : Nat) (w : World) (P : Nat → One) (h : DPow b w P) (hj : j < 16) (ha : a = j + 1) (ht : (P j).th = true) (h0 : ac < 0 ∨ 4 ≤ ac) :
    Calls Tryd.prog 26 #[.pointer (some ⟨b, 0, none⟩), .int .i64 a, .int .i64 ac, .bool more] w fun e w' => e = .returned (.tuple #[.bool false, .int .i64 103]) ∧ w = w' := by
  have hof := Lib.hid (dthere_at b a j true w P h hj ha ht)
  have hfa := Lib.hid (dcat_out ac w h0)
  clear h ha ht hj h0
  go_enter Tryd.func26, Tryd.ntmps26
  go_wp2_with fail
  refine hof.out.mono ?_
  rintro e w' ⟨rfl, rfl⟩
  go_wp2_with fail
  refine hfa.out.mono ?_
  rintro e w' ⟨rfl, rfl⟩
  go_wp2_with fail
  go_ret2
  exact ⟨rfl, rfl⟩
theorem dsent_no (b : Nat) (a ac : Int) (more : Bool) (j : Nat) (w : World) (P : Nat → One) (h : DPow b w P) (hj : j < 16) (ha : a = j + 1) (ht : (P j).th = true) (h0 : 0 ≤ ac) (h4' : ac < 4) (hm : mayO (P j) ac = false) :
    Calls Tryd.prog 26 #[.pointer (some ⟨b, 0, none⟩), .int .i64 a, .int .i64 ac, .bool more] w fun e w' => e = .returned (.tuple #[.bool false, .int .i64 110]) ∧ Gro none w w' := by
  have hof := Lib.hid (dthere_at b a j true w P h hj ha ht)
  have hfa := Lib.hid (dcat_in ac w h0 h4')
  have hma := Lib.hid (dmay_there b a ac j w P h hj ha ht h0 h4')
  rw [hm] at hma
  clear h ha ht hj hm
  go_enter Tryd.func26, Tryd.ntmps26
  go_wp2_with fail
  refine hof.out.mono ?_
  rintro e w' ⟨rfl, rfl⟩
  go_wp2_with fail
  refine hfa.out.mono ?_
  rintro e w' ⟨rfl, rfl⟩
  go_wp2_with fail
  refine hma.out.mono ?_
  rintro e w2 ⟨rfl, hg2⟩
  have HG := Lib.hid hg2
  clear hg2 hma
  go_wp2_with fail
  go_ret2
  exact ⟨rfl, HG.out⟩
theorem dsent_awake (b : Nat) (a ac : Int) (more : Bool) (j : Nat) (w : World) (P : Nat → One) (h : DPow b w P) (hj : j < 16) (ha : a = j + 1) (ht : (P j).th = true) (h0 : 0 ≤ ac) (h4' : ac < 4) (hs : (P j).sl = false) :
    Calls Tryd.prog 26 #[.pointer (some ⟨b, 0, none⟩), .int .i64 a, .int .i64 ac, .bool more] w fun e w' => e = .returned (.tuple #[.bool false, .int .i64 0]) ∧ Gro none w w' := by
  have h1 : 1 ≤ a := by omega
  have h2 : a ≤ 16 := by omega
  have h3 : a < 17 := by omega
  have h4 : 0 ≤ a := by omega
  have hof := Lib.hid (dthere_at b a j true w P h hj ha ht)
  have hfa := Lib.hid (dcat_in ac w h0 h4')
  have hma := Lib.hid (dmay_there b a ac j w P h hj ha ht h0 h4')
  rw [show mayO (P j) ac = true by simp [mayO, hs]] at hma
  have HTEN := Lib.hid (fun w' (k : Gro none w w') => ((h.gro k (by simp)).at j hj a ha))
  clear h ht ha hj
  go_enter Tryd.func26, Tryd.ntmps26
  go_wp2_with fail
  refine hof.out.mono ?_
  rintro e w' ⟨rfl, rfl⟩
  go_wp2_with fail
  refine hfa.out.mono ?_
  rintro e w' ⟨rfl, rfl⟩
  go_wp2_with fail
  refine hma.out.mono ?_
  rintro e w2 ⟨rfl, hg2⟩
  have HG := Lib.hid hg2
  obtain ⟨c0, c1, c2, c3, c4f, c8, c9, fr⟩ := HTEN.out _ hg2
  rw [hs] at c1
  clear hg2 hma HTEN c4f hs
  go_wp2_with fail
  go_ret2
  exact ⟨rfl, HG.out⟩
theorem dsent_polled (b : Nat) (a ac : Int) (more : Bool) (j : Nat) (w : World) (P : Nat → One) (h : DPow b w P) (hj : j < 16) (ha : a = j + 1) (ht : (P j).th = true) (h0 : 0 ≤ ac) (h4' : ac < 4) (hs : (P j).sl = true) (hp : (P j).po = true) :
    Calls Tryd.prog 26 #[.pointer (some ⟨b, 0, none⟩), .int .i64 a, .int .i64 ac, .bool more] w fun e w' => e = .returned (.tuple #[.bool false, .int .i64 0]) ∧ Gro (some b) w w' ∧ DPow b w' (updP P j { P j with po := false }) := by
  have h1 : 1 ≤ a := by omega
  have h2 : a ≤ 16 := by omega
  have h3 : a < 17 := by omega
  have h4 : 0 ≤ a := by omega
  have hof := Lib.hid (dthere_at b a j true w P h hj ha ht)
  have hfa := Lib.hid (dcat_in ac w h0 h4')
  have hma := Lib.hid (dmay_there b a ac j w P h hj ha ht h0 h4')
  rw [show mayO (P j) ac = true by simp [mayO, hs, hp]] at hma
  have HTEN := Lib.hid (fun w' (k : Gro none w w') => ((h.gro k (by simp)).at j hj a ha))
  have HPP := Lib.hid (fun w' (k : Gro none w w') => ((h.gro k (by simp)).s2 j hj false))
  rw [show 10 * (j + 1) = a.toNat * 10 by omega] at HPP
  clear h ht ha hj
  go_enter Tryd.func26, Tryd.ntmps26
  go_wp2_with fail
  refine hof.out.mono ?_
  rintro e w' ⟨rfl, rfl⟩
  go_wp2_with fail
  refine hfa.out.mono ?_
  rintro e w' ⟨rfl, rfl⟩
  go_wp2_with fail
  refine hma.out.mono ?_
  rintro e w2 ⟨rfl, hg2⟩
  have HG := Lib.hid hg2
  have hP := Lib.hid (HPP.out _ hg2)
  obtain ⟨c0, c1, c2, c3, c4f, c8, c9, fr⟩ := HTEN.out _ hg2
  rw [hs] at c1
  rw [hp] at c2
  clear hg2 hma HTEN c4f hs hp HPP
  go_wp2_with fail
  go_ret2
  exact ⟨rfl, HG.out.weak.setCell _ _, hP.out⟩
def dsentO (o : One) (more : Bool) : One := if lastO o || !more then { o with op := false, left := if 0 < o.most then o.left - 1 else o.left } else { o with left := if 0 < o.most then o.left - 1 else o.left }
theorem dsent_period (b : Nat) (a ac : Int) (more : Bool) (j : Nat) (w : World) (P : Nat → One) (h : DPow b w P) (hj : j < 16) (ha : a = j + 1) (ht : (P j).th = true) (h0 : 0 ≤ ac) (h4' : ac < 4) (hs : (P j).sl = true) (hp : (P j).po = false) (ho : (P j).op = true) (hu : uOf (P j) ac = true) (hl1 : -1000 ≤ (P j).left) (hl2 : (P j).left ≤ 1000) :
    Calls Tryd.prog 26 #[.pointer (some ⟨b, 0, none⟩), .int .i64 a, .int .i64 ac, .bool more] w fun e w' => e = .returned (.tuple #[.bool (lastO (P j) || !more), .int .i64 0]) ∧ Gro (some b) w w' ∧ DPow b w' (updP P j (dsentO (P j) more)) := by
  have h1 : 1 ≤ a := by omega
  have h2 : a ≤ 16 := by omega
  have h3 : a < 17 := by omega
  have h4 : 0 ≤ a := by omega
  have hof := Lib.hid (dthere_at b a j true w P h hj ha ht)
  have hfa := Lib.hid (dcat_in ac w h0 h4')
  have hma := Lib.hid (dmay_there b a ac j w P h hj ha ht h0 h4')
  rw [show mayO (P j) ac = true by simp [mayO, ho, hu]] at hma
  have HTEN := Lib.hid (fun w' (k : Gro none w w') => ((h.gro k (by simp)).at j hj a ha))
  have ej : 10 * (j + 1) = a.toNat * 10 := by omega
  have P1 : Hid (∀ w', Gro none w w' → DPow b ((w'.setCell ⟨b, a.toNat * 10 + 9, none⟩ (.int .i64 ((P j).left - 1))).setCell ⟨b, a.toNat * 10 + 3, none⟩ (.bool false)) (updP P j { P j with op := false, left := (P j).left - 1 })) := by
    intro w' k
    have := ((h.gro k (by simp)).s9 j hj ((P j).left - 1)).s3 j hj false
    rw [← ej]
    simpa only [updP_updP, updP_same] using this
  have P2 : Hid (∀ w', Gro none w w' → DPow b (w'.setCell ⟨b, a.toNat * 10 + 3, none⟩ (.bool false)) (updP P j { P j with op := false })) := by
    intro w' k
    rw [← ej]
    exact (h.gro k (by simp)).s3 j hj false
  have P3 : Hid (∀ w', Gro none w w' → DPow b (w'.setCell ⟨b, a.toNat * 10 + 9, none⟩ (.int .i64 ((P j).left - 1))) (updP P j { P j with left := (P j).left - 1 })) := by
    intro w' k
    rw [← ej]
    exact (h.gro k (by simp)).s9 j hj ((P j).left - 1)
  have P4 : Hid (∀ w', Gro none w w' → DPow b w' (updP P j (P j))) := by
    intro w' k
    rw [updP_self]
    exact h.gro k (by simp)
  have hL : Hid (lastO (P j) = (decide (0 < (P j).most) && ((P j).left - 1 == 0))) := rfl
  have hS : Hid (dsentO (P j) more = if lastO (P j) || !more then { P j with op := false, left := if 0 < (P j).most then (P j).left - 1 else (P j).left } else { P j with left := if 0 < (P j).most then (P j).left - 1 else (P j).left }) := rfl
  clear h ha ht hj hu ej
  generalize hla : lastO (P j) = la at *
  generalize hso : dsentO (P j) more = so at *
  generalize hmo : (P j).most = mo at *
  generalize hle : (P j).left = le at *
  clear hla hso
  by_cases hpos : 0 < mo
  · by_cases hz : le - 1 = 0
    · cases more
      · obtain rfl : la = true := by rw [hL.out]; simp [hpos, hz]
        have hso := Lib.hid hS.out
        rw [if_pos (by simp), if_pos hpos] at hso
        have e1 : (le - 1 == 0) = true := by simpa using hz
        clear hS hL hz
        go_enter Tryd.func26, Tryd.ntmps26
        go_wp2_with fail
        refine hof.out.mono ?_
        rintro e w' ⟨rfl, rfl⟩
        go_wp2_with fail
        refine hfa.out.mono ?_
        rintro e w' ⟨rfl, rfl⟩
        go_wp2_with fail
        refine hma.out.mono ?_
        rintro e w2 ⟨rfl, hg2⟩
        have HG := Lib.hid hg2
        have hP := Lib.hid (P1.out _ hg2)
        obtain ⟨c0, c1, c2, c3, c4f, c8, c9, fr⟩ := HTEN.out _ hg2
        rw [hs] at c1
        rw [hp] at c2
        rw [ho] at c3
        rw [hmo] at c8
        rw [hle] at c9
        have HLE := Lib.hid hle
        clear hg2 hma HTEN c4f hs hp ho P1 P2 P3 P4 hmo hle
        go_wp2_with fail
        go_ret2
        rw [hso.out]
        exact ⟨rfl, (HG.out.weak.setCell _ _).setCell _ _, hP.out⟩
      · obtain rfl : la = true := by rw [hL.out]; simp [hpos, hz]
        have hso := Lib.hid hS.out
        rw [if_pos (by simp), if_pos hpos] at hso
        have e1 : (le - 1 == 0) = true := by simpa using hz
        clear hS hL hz
        go_enter Tryd.func26, Tryd.ntmps26
        go_wp2_with fail
        refine hof.out.mono ?_
        rintro e w' ⟨rfl, rfl⟩
        go_wp2_with fail
        refine hfa.out.mono ?_
        rintro e w' ⟨rfl, rfl⟩
        go_wp2_with fail
        refine hma.out.mono ?_
        rintro e w2 ⟨rfl, hg2⟩
        have HG := Lib.hid hg2
        have hP := Lib.hid (P1.out _ hg2)
        obtain ⟨c0, c1, c2, c3, c4f, c8, c9, fr⟩ := HTEN.out _ hg2
        rw [hs] at c1
        rw [hp] at c2
        rw [ho] at c3
        rw [hmo] at c8
        rw [hle] at c9
        have HLE := Lib.hid hle
        clear hg2 hma HTEN c4f hs hp ho P1 P2 P3 P4 hmo hle
        go_wp2_with fail
        go_ret2
        rw [hso.out]
        exact ⟨rfl, (HG.out.weak.setCell _ _).setCell _ _, hP.out⟩
    · cases more
      · obtain rfl : la = false := by rw [hL.out]; simp [hz]
        have hso := Lib.hid hS.out
        rw [if_pos (by simp), if_pos hpos] at hso
        have e1 : (le - 1 == 0) = false := by simpa using hz
        clear hS hL hz
        go_enter Tryd.func26, Tryd.ntmps26
        go_wp2_with fail
        refine hof.out.mono ?_
        rintro e w' ⟨rfl, rfl⟩
        go_wp2_with fail
        refine hfa.out.mono ?_
        rintro e w' ⟨rfl, rfl⟩
        go_wp2_with fail
        refine hma.out.mono ?_
        rintro e w2 ⟨rfl, hg2⟩
        have HG := Lib.hid hg2
        have hP := Lib.hid (P1.out _ hg2)
        obtain ⟨c0, c1, c2, c3, c4f, c8, c9, fr⟩ := HTEN.out _ hg2
        rw [hs] at c1
        rw [hp] at c2
        rw [ho] at c3
        rw [hmo] at c8
        rw [hle] at c9
        have HLE := Lib.hid hle
        clear hg2 hma HTEN c4f hs hp ho P1 P2 P3 P4 hmo hle
        go_wp2_with fail
        go_ret2
        rw [hso.out]
        exact ⟨rfl, (HG.out.weak.setCell _ _).setCell _ _, hP.out⟩
      · obtain rfl : la = false := by rw [hL.out]; simp [hz]
        have hso := Lib.hid hS.out
        rw [if_neg (by simp), if_pos hpos] at hso
        have e1 : (le - 1 == 0) = false := by simpa using hz
        clear hS hL hz
        go_enter Tryd.func26, Tryd.ntmps26
        go_wp2_with fail
        refine hof.out.mono ?_
        rintro e w' ⟨rfl, rfl⟩
        go_wp2_with fail
        refine hfa.out.mono ?_
        rintro e w' ⟨rfl, rfl⟩
        go_wp2_with fail
        refine hma.out.mono ?_
        rintro e w2 ⟨rfl, hg2⟩
        have HG := Lib.hid hg2
        have hP := Lib.hid (P3.out _ hg2)
        obtain ⟨c0, c1, c2, c3, c4f, c8, c9, fr⟩ := HTEN.out _ hg2
        rw [hs] at c1
        rw [hp] at c2
        rw [ho] at c3
        rw [hmo] at c8
        rw [hle] at c9
        have HLE := Lib.hid hle
        clear hg2 hma HTEN c4f hs hp ho P1 P2 P3 P4 hmo hle
        go_wp2_with fail
        go_ret2
        rw [hso.out]
        exact ⟨rfl, HG.out.weak.setCell _ _, hP.out⟩
  · cases more
    · obtain rfl : la = false := by rw [hL.out]; simp [hpos]
      have hso := Lib.hid hS.out
      rw [if_pos (by simp), if_neg hpos] at hso
      have e2 : mo ≤ 0 := by omega
      have e3 : decide (0 < mo) = false := by simpa using hpos
      clear hS hL hpos
      go_enter Tryd.func26, Tryd.ntmps26
      go_wp2_with fail
      refine hof.out.mono ?_
      rintro e w' ⟨rfl, rfl⟩
      go_wp2_with fail
      refine hfa.out.mono ?_
      rintro e w' ⟨rfl, rfl⟩
      go_wp2_with fail
      refine hma.out.mono ?_
      rintro e w2 ⟨rfl, hg2⟩
      have HG := Lib.hid hg2
      have hP := Lib.hid (P2.out _ hg2)
      obtain ⟨c0, c1, c2, c3, c4f, c8, c9, fr⟩ := HTEN.out _ hg2
      rw [hs] at c1
      rw [hp] at c2
      rw [ho] at c3
      rw [hmo] at c8
      rw [hle] at c9
      have HLE := Lib.hid hle
      clear hg2 hma HTEN c4f hs hp ho P1 P2 P3 P4 hmo hle
      go_wp2_with fail
      go_ret2
      rw [hso.out]
      obtain rfl := HLE.out
      exact ⟨rfl, HG.out.weak.setCell _ _, hP.out⟩
    · obtain rfl : la = false := by rw [hL.out]; simp [hpos]
      have hso := Lib.hid hS.out
      rw [if_neg (by simp), if_neg hpos] at hso
      have e2 : mo ≤ 0 := by omega
      have e3 : decide (0 < mo) = false := by simpa using hpos
      clear hS hL hpos
      go_enter Tryd.func26, Tryd.ntmps26
      go_wp2_with fail
      refine hof.out.mono ?_
      rintro e w' ⟨rfl, rfl⟩
      go_wp2_with fail
      refine hfa.out.mono ?_
      rintro e w' ⟨rfl, rfl⟩
      go_wp2_with fail
      refine hma.out.mono ?_
      rintro e w2 ⟨rfl, hg2⟩
      have HG := Lib.hid hg2
      have hP := Lib.hid (P4.out _ hg2)
      obtain ⟨c0, c1, c2, c3, c4f, c8, c9, fr⟩ := HTEN.out _ hg2
      rw [hs] at c1
      rw [hp] at c2
      rw [ho] at c3
      rw [hmo] at c8
      rw [hle] at c9
      have HLE := Lib.hid hle
      clear hg2 hma HTEN c4f hs hp ho P1 P2 P3 P4 hmo hle
      go_wp2_with fail
      go_ret2
      rw [hso.out]
      obtain rfl := HLE.out
      exact ⟨rfl, HG.out.weak, hP.out⟩
end Go.Proofs.YtkklnocbbpaipaaDoor
