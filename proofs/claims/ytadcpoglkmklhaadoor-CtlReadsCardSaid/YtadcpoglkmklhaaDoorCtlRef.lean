/-
  THE DOCUMENT's WRITING OF CHAPTER 4: out, two, addr, BarBytes, AckBytes, PollBytes. Conditions: the row that is written on is the caller's own ('Own').
-/
import Derived.Test.YtadcpoglkmklhaaDoorCtlW
import Derived.Test.YtadcpoglkmklhaaDoorSame
namespace Go.Proofs.YtadcpoglkmklhaaDoor
open Go.RowKit

theorem out_no (n m : Int) (w : World) (h0 : 0 ≤ n) (h1 : n ≤ m) : Calls Tryd.prog 31 #[.int .i64 n, .int .i64 m] w fun e w' => e = .returned (.bool false) ∧ w = w' := by
  have h2 : ¬ n < 0 := by omega
  have h3 : ¬ m < n := by omega
  go_enter Tryd.func31, Tryd.ntmps31
  go_wp2
  go_ret
  exact ⟨rfl, rfl⟩
theorem out_yes (n m : Int) (w : World) (h : n < 0 ∨ (0 ≤ n ∧ m < n)) : Calls Tryd.prog 31 #[.int .i64 n, .int .i64 m] w fun e w' => e = .returned (.bool true) ∧ w = w' := by
  rcases h with h1 | ⟨h0, h1⟩
  · go_enter Tryd.func31, Tryd.ntmps31
    go_wp2
    go_ret
    exact ⟨rfl, rfl⟩
  · have h2 : ¬ n < 0 := by omega
    go_enter Tryd.func31, Tryd.ntmps31
    go_wp2
    go_ret
    exact ⟨rfl, rfl⟩

theorem rtwo_any (w0 : World) (L : List Int) (v : Value) (n : Int) (w : World) (ho : Own w0.heap.size w v L) (hg : Gro none w0 w) (hl : L.length ≤ 1000) (h0 : 0 ≤ n) (h1 : n < 65536) :
    Calls Tryd.prog 32 #[v, .int .i64 n] w fun e w' => ∃ v', e = .returned v' ∧ Own w0.heap.size w' v' (L ++ twoL n) ∧ Gro none w0 w' := by
  have HO := Lib.hid ho
  have HG := Lib.hid hg
  have HL := Lib.hid hl
  obtain ⟨X, hX⟩ : ∃ X, X = twoL n := ⟨_, rfl⟩
  rw [← hX]
  have HX := Lib.hid hX
  clear ho hg hl hX
  go_enter Tryd.func32, Tryd.ntmps32
  go_wp2_with (at_builtin; refine app_bytes rfl _ _ rfl w0 L X _ rfl ?c1 ?c2 _ _ _ rfl ?c5 ?c3 ?c4 ?_)
  case c1 => exact HO.out.gro ((Gro.refl none _).alloc _) (by simp)
  case c2 => exact HG.out.alloc _
  case c5 => rw [HX.out]; rfl
  case c3 => rw [HX.out]; exact lie_two w _ _ _ _ rfl (Gro.refl _ _)
  case c4 => have := HL.out; omega
  intro v1 w1 ho1 hg1
  have HO1 := Lib.hid (And.intro ho1 hg1)
  clear ho1 hg1
  go_wp2_with fail
  go_ret
  exact ⟨_, rfl, HO1.out.1, HO1.out.2⟩

theorem take_one (l : List Int) (k : Nat) (h : k < l.length) : l.take (k + 1) = l.take k ++ [l.getD k 0] := by
  rw [List.take_add_one, List.getD_eq_getElem?_getD, List.getElem?_eq_getElem h]; rfl

theorem raddr_any (w0 : World) (L : List Int) (v : Value) (x : Ad) (w : World) (ho : Own w0.heap.size w v L) (hg : Gro none w0 w) (hl : L.length ≤ 1000) :
    Calls Tryd.prog 33 #[v, adV x] w fun e w' => ∃ v', e = .returned v' ∧ Own w0.heap.size w' v' (L ++ adL x) ∧ Gro none w0 w' := by
  have HLX := Lib.hid (fun w' (k : Gro none (w.alloc (.cells #[.int .u8 x.b0, .int .u8 x.b1, .int .u8 x.b2, .int .u8 x.b3, .int .u8 x.b4, .int .u8 x.b5] 23)) w') => lie_six w w' _ _ _ _ _ _ w.heap.size 23 rfl k)
  have HST := Lib.hid (And.intro (ho.gro ((Gro.refl none w).alloc (.cells #[.int .u8 x.b0, .int .u8 x.b1, .int .u8 x.b2, .int .u8 x.b3, .int .u8 x.b4, .int .u8 x.b5] 23)) (by simp)) (hg.alloc (.cells #[.int .u8 x.b0, .int .u8 x.b1, .int .u8 x.b2, .int .u8 x.b3, .int .u8 x.b4, .int .u8 x.b5] 23)))
  have hXe : adL x = [x.b0, x.b1, x.b2, x.b3, x.b4, x.b5] := rfl
  have hXl : (adL x).length = 6 := rfl
  rw [← hXe] at HLX
  generalize hX : adL x = X at *
  have HL := Lib.hid hl
  have HXL := Lib.hid hXl
  have hwo : some w.heap.size ≠ v.ownBlock := fun e => by
    have h1 := ho.lt w.heap.size e.symm
    omega
  clear ho hg hl hX hXe hXl
  obtain ⟨x0, x1, x2, x3, x4, x5⟩ := x
  unfold adV
  simp only at *
  go_enter Tryd.func33, Tryd.ntmps33
  go_wp2_with fail
  have hlt : w.heap.size < (w.alloc (.cells #[.int .u8 x0, .int .u8 x1, .int .u8 x2, .int .u8 x3, .int .u8 x4, .int .u8 x5] 23)).heap.size := by simp
  have H0 := Lib.hid (HLX.out _ (Gro.refl none _))
  generalize w.alloc _ = wb at *
  go_loopw [0, 5] (fun v i wr => ∃ k : Nat, k ≤ 6 ∧ i = .int .i64 k ∧ Own w0.heap.size wr v (L ++ X.take k) ∧ Gro none w0 wr ∧ (wr.heap[w.heap.size]? = wb.heap[w.heap.size]? ∧ some w.heap.size ≠ v.ownBlock ∧ w.heap.size < wr.heap.size)) (fun _ i _ => 6 - (intOf i).toNat)
  case atStart => exact ⟨0, by decide, rfl, by simpa using HST.out.1, HST.out.2, rfl, hwo, hlt⟩
  case round =>
    obtain ⟨k, hk, rfl, ho, hg, ⟨h51, h52, h53⟩⟩ := hrel
    have HO := Lib.hid ho
    have HG := Lib.hid hg
    clear ho hg HST
    by_cases h6 : k < 6
    · have cx : wr.cell? ⟨w.heap.size, k, none⟩ = some (.int .u8 (X.getD k 0)) := by
        rw [World.cell?_of_block (w := wb) h51]
        have := lieA_cell H0.out k (by have := HXL.out; omega)
        rwa [Nat.zero_add] at this
      have H51 := Lib.hid (And.intro h51 h52)
      have i0 : (0 : Int) ≤ (k : Int) := by omega
      have i1 : (k : Int) < 6 := by omega
      have HT := Lib.hid (take_one X k (by have := HXL.out; omega))
      have HLT : Hid ((X.take k).length = k) := by have := HXL.out; unfold Hid; simp; omega
      generalize hy : X.getD k 0 = y at cx HT
      have HY := Lib.hid hy
      generalize hYk : X.take k = Xk at HO HLT
      have HYK := Lib.hid hYk
      clear hy hYk h51 h52
      go_wp2_with (at_builtin; refine app_bytes_at rfl _ _ rfl w0 (L ++ Xk) [y] _ rfl ?c1 ?c2 _ _ _ rfl ?c5 ?c3 ?c4 ?_)
      case c1 => exact HO.out.gro ((Gro.refl none _).alloc _) (by simp)
      case c2 => exact HG.out.alloc _
      case c5 => rfl
      case c3 => exact lie_one wr _ _ _ rfl (Gro.refl _ _)
      case c4 => have := HLT.out; have := HL.out; simp; omega
      intro v2 w2 ho2 hg2 hf2
      have HO2 := Lib.hid ho2
      have h6 := hf2 w.heap.size (by first | omega | (simp; omega)) H51.out.2
      rw [Below.heap_alloc _ _ _ h53] at h6
      have HG2 := Lib.hid (And.intro hg2 (show w2.heap[w.heap.size]? = wb.heap[w.heap.size]? ∧ some w.heap.size ≠ v2.ownBlock ∧ w.heap.size < w2.heap.size from ⟨h6.1.trans H51.out.1, h6.2, by
        rcases Nat.lt_or_ge w.heap.size w2.heap.size with h | h
        · exact h
        · have := h6.1.trans H51.out.1
          rw [Array.getElem?_eq_none h, Array.getElem?_eq_getElem hlt] at this; cases this⟩))
      clear ho2 hg2 HO HG hf2 h6 H51 cx
      go_wp2_with fail
      go_roundw
      case rel => exact ⟨k + 1, by omega, by go_num, by rw [HT.out, HYK.out]; simpa using HO2.out, HG2.out.1, HG2.out.2⟩
      case measure => simp [intOf]; omega
    · obtain rfl : k = 6 := by omega
      go_wp2_with fail
      go_ret
      exact ⟨_, rfl, by have := HO.out; rwa [List.take_of_length_le (by have := HXL.out; omega)] at this, HG.out⟩

set_option maxHeartbeats 2000000 in
theorem rbar_any (to fr : Ad) (tid seq : Int) (w : World) (h : okB tid seq) :
    Calls Tryd.prog 12 #[barV to fr tid seq] w fun e w' => ∃ v, e = .returned (.tuple #[v, .int .i64 0]) ∧ Gro none w w' ∧ Own w.heap.size w' v (asksL 132 to fr tid seq) := by
  obtain ⟨h0, h1, h2, h3⟩ := h
  have w1 : IntKind.i64.wrap (tid * 4096) = tid * 4096 := by simp [IntKind.wrap, IntKind.bits, IntKind.signed]; omega
  have w2 : IntKind.i64.wrap (4 + tid * 4096) = 4 + tid * 4096 := by simp [IntKind.wrap, IntKind.bits, IntKind.signed]; omega
  have w3 : IntKind.i64.wrap (seq * 16) = seq * 16 := by simp [IntKind.wrap, IntKind.bits, IntKind.signed]; omega
  have HO1 := Lib.hid (fun w => out_no tid 7 w h0 (by omega))
  have HO2 := Lib.hid (fun w => out_no seq 4095 w h2 (by omega))
  obtain ⟨t0, t1, t2, t3, t4, t5⟩ := to
  obtain ⟨f0, f1, f2, f3, f4, f5⟩ := fr
  unfold barV
  simp only
  go_enter Tryd.func12, Tryd.ntmps12
  go_wp2_with fail
  have hgw : Gro none w (w.alloc (.cells #[.int .u8 t0, .int .u8 t1, .int .u8 t2, .int .u8 t3, .int .u8 t4, .int .u8 t5, .int .u8 f0, .int .u8 f1, .int .u8 f2, .int .u8 f3, .int .u8 f4, .int .u8 f5, .int .i64 tid, .int .i64 seq] 25)) := (Gro.refl _ _).alloc _
  have hbr := heap_alloc_new w (.cells #[.int .u8 t0, .int .u8 t1, .int .u8 t2, .int .u8 t3, .int .u8 t4, .int .u8 t5, .int .u8 f0, .int .u8 f1, .int .u8 f2, .int .u8 f3, .int .u8 f4, .int .u8 f5, .int .i64 tid, .int .i64 seq] 25)
  have hlw : w.heap.size < (w.alloc (.cells #[.int .u8 t0, .int .u8 t1, .int .u8 t2, .int .u8 t3, .int .u8 t4, .int .u8 t5, .int .u8 f0, .int .u8 f1, .int .u8 f2, .int .u8 f3, .int .u8 f4, .int .u8 f5, .int .i64 tid, .int .i64 seq] 25)).heap.size := by simp
  generalize w.alloc (.cells #[.int .u8 t0, .int .u8 t1, .int .u8 t2, .int .u8 t3, .int .u8 t4, .int .u8 t5, .int .u8 f0, .int .u8 f1, .int .u8 f2, .int .u8 f3, .int .u8 f4, .int .u8 f5, .int .i64 tid, .int .i64 seq] 25) = wb at *
  have HALL : Hid (∀ w', Gro none wb w' → (fun w' => Gro none wb w' ∧ w'.cell? ⟨w.heap.size, 0, none⟩ = some (.int .u8 t0) ∧ w'.cell? ⟨w.heap.size, 1, none⟩ = some (.int .u8 t1) ∧ w'.cell? ⟨w.heap.size, 2, none⟩ = some (.int .u8 t2) ∧ w'.cell? ⟨w.heap.size, 3, none⟩ = some (.int .u8 t3) ∧ w'.cell? ⟨w.heap.size, 4, none⟩ = some (.int .u8 t4) ∧ w'.cell? ⟨w.heap.size, 5, none⟩ = some (.int .u8 t5) ∧ w'.cell? ⟨w.heap.size, 6, none⟩ = some (.int .u8 f0) ∧ w'.cell? ⟨w.heap.size, 7, none⟩ = some (.int .u8 f1) ∧ w'.cell? ⟨w.heap.size, 8, none⟩ = some (.int .u8 f2) ∧ w'.cell? ⟨w.heap.size, 9, none⟩ = some (.int .u8 f3) ∧ w'.cell? ⟨w.heap.size, 10, none⟩ = some (.int .u8 f4) ∧ w'.cell? ⟨w.heap.size, 11, none⟩ = some (.int .u8 f5) ∧ w'.cell? ⟨w.heap.size, 12, none⟩ = some (.int .i64 tid) ∧ w'.cell? ⟨w.heap.size, 13, none⟩ = some (.int .i64 seq)) w') := fun w' k => by
    have hb := (k.block w.heap.size hlw (by simp)).trans hbr
    exact ⟨k, cell_of_row _ _ 0 _ _ _ hb, cell_of_row _ _ 1 _ _ _ hb, cell_of_row _ _ 2 _ _ _ hb, cell_of_row _ _ 3 _ _ _ hb, cell_of_row _ _ 4 _ _ _ hb, cell_of_row _ _ 5 _ _ _ hb, cell_of_row _ _ 6 _ _ _ hb, cell_of_row _ _ 7 _ _ _ hb, cell_of_row _ _ 8 _ _ _ hb, cell_of_row _ _ 9 _ _ _ hb, cell_of_row _ _ 10 _ _ _ hb, cell_of_row _ _ 11 _ _ _ hb, cell_of_row _ _ 12 _ _ _ hb, cell_of_row _ _ 13 _ _ _ hb⟩
  have HGW := Lib.hid hgw
  clear hgw hbr
  refine (HO1.out _).mono ?_
  rintro e w' ⟨rfl, rfl⟩
  have q13 := (HALL.out wb (Gro.refl _ _)).2.2.2.2.2.2.2.2.2.2.2.2.2.2
  go_wp2_with fail
  refine (HO2.out _).mono ?_
  rintro e w' ⟨rfl, rfl⟩
  clear q13
  go_wp2_with fail
  go_region_held3 (fun w' => Gro none wb w' ∧ w'.cell? ⟨w.heap.size, 0, none⟩ = some (.int .u8 t0) ∧ w'.cell? ⟨w.heap.size, 1, none⟩ = some (.int .u8 t1) ∧ w'.cell? ⟨w.heap.size, 2, none⟩ = some (.int .u8 t2) ∧ w'.cell? ⟨w.heap.size, 3, none⟩ = some (.int .u8 t3) ∧ w'.cell? ⟨w.heap.size, 4, none⟩ = some (.int .u8 t4) ∧ w'.cell? ⟨w.heap.size, 5, none⟩ = some (.int .u8 t5) ∧ w'.cell? ⟨w.heap.size, 6, none⟩ = some (.int .u8 f0) ∧ w'.cell? ⟨w.heap.size, 7, none⟩ = some (.int .u8 f1) ∧ w'.cell? ⟨w.heap.size, 8, none⟩ = some (.int .u8 f2) ∧ w'.cell? ⟨w.heap.size, 9, none⟩ = some (.int .u8 f3) ∧ w'.cell? ⟨w.heap.size, 10, none⟩ = some (.int .u8 f4) ∧ w'.cell? ⟨w.heap.size, 11, none⟩ = some (.int .u8 f5) ∧ w'.cell? ⟨w.heap.size, 12, none⟩ = some (.int .i64 tid) ∧ w'.cell? ⟨w.heap.size, 13, none⟩ = some (.int .i64 seq)) ((exact HALL.out _ (by repeat (first | assumption | with_reducible exact Gro.refl _ _ | with_reducible refine Gro.drewN ?_ _ | with_reducible refine Gro.drew ?_ | with_reducible refine Gro.alloc ?_ _)))) (first | (go_at_call 33; refine (raddr_any wb _ _ ⟨_, _, _, _, _, _⟩ _ (by first | assumption | exact own_new wb.drew [132, 0, 0, 0] _ _ (by simp) rfl 4 rfl (by decide)) (by repeat (first | assumption | with_reducible exact Gro.refl _ _ | with_reducible refine Gro.drewN ?_ _ | with_reducible refine Gro.drew ?_ | with_reducible refine Gro.alloc ?_ _)) (by simp [adL, twoL])).mono ?_; rintro e w' ⟨v', rfl, ho, hg⟩) | (go_at_call 32; refine (rtwo_any wb _ _ _ _ (by first | assumption | exact own_new wb.drew [132, 0, 0, 0] _ _ (by simp) rfl 4 rfl (by decide)) (by repeat (first | assumption | with_reducible exact Gro.refl _ _ | with_reducible refine Gro.drewN ?_ _ | with_reducible refine Gro.drew ?_ | with_reducible refine Gro.alloc ?_ _)) (by simp [adL, twoL]) (by omega) (by omega)).mono ?_; rintro e w' ⟨v', rfl, ho, hg⟩))
  go_wp2_with fail
  go_ret2
  exact ⟨_, rfl, HGW.out.trans hg, ho.weak (Nat.le_of_lt hlw)⟩

set_option maxHeartbeats 2000000 in
theorem rack_any (to fr : Ad) (tid seq m : Int) (w : World) (h : okB tid seq) (hm : 0 ≤ m ∧ m < 18446744073709551616) :
    Calls Tryd.prog 13 #[ackV to fr tid seq m] w fun e w' => ∃ v, e = .returned (.tuple #[v, .int .i64 0]) ∧ Gro none w w' ∧ Own w.heap.size w' v (ackL to fr tid seq m) := by
  obtain ⟨h0, h1, h2, h3⟩ := h
  obtain ⟨hm0, hm1⟩ := hm
  have w1 : IntKind.i64.wrap (tid * 4096) = tid * 4096 := by simp [IntKind.wrap, IntKind.bits, IntKind.signed]; omega
  have w2 : IntKind.i64.wrap (4 + tid * 4096) = 4 + tid * 4096 := by simp [IntKind.wrap, IntKind.bits, IntKind.signed]; omega
  have w3 : IntKind.i64.wrap (seq * 16) = seq * 16 := by simp [IntKind.wrap, IntKind.bits, IntKind.signed]; omega
  have HO1 := Lib.hid (fun w => out_no tid 7 w h0 (by omega))
  have HO2 := Lib.hid (fun w => out_no seq 4095 w h2 (by omega))
  unfold ackL
  obtain ⟨t0, t1, t2, t3, t4, t5⟩ := to
  obtain ⟨f0, f1, f2, f3, f4, f5⟩ := fr
  unfold ackV
  simp only
  go_enter Tryd.func13, Tryd.ntmps13
  go_wp2_with fail
  have hgw : Gro none w (w.alloc (.cells #[.int .u8 t0, .int .u8 t1, .int .u8 t2, .int .u8 t3, .int .u8 t4, .int .u8 t5, .int .u8 f0, .int .u8 f1, .int .u8 f2, .int .u8 f3, .int .u8 f4, .int .u8 f5, .int .i64 tid, .int .i64 seq, .int .u64 m] 28)) := (Gro.refl _ _).alloc _
  have hbr := heap_alloc_new w (.cells #[.int .u8 t0, .int .u8 t1, .int .u8 t2, .int .u8 t3, .int .u8 t4, .int .u8 t5, .int .u8 f0, .int .u8 f1, .int .u8 f2, .int .u8 f3, .int .u8 f4, .int .u8 f5, .int .i64 tid, .int .i64 seq, .int .u64 m] 28)
  have hlw : w.heap.size < (w.alloc (.cells #[.int .u8 t0, .int .u8 t1, .int .u8 t2, .int .u8 t3, .int .u8 t4, .int .u8 t5, .int .u8 f0, .int .u8 f1, .int .u8 f2, .int .u8 f3, .int .u8 f4, .int .u8 f5, .int .i64 tid, .int .i64 seq, .int .u64 m] 28)).heap.size := by simp
  generalize w.alloc (.cells #[.int .u8 t0, .int .u8 t1, .int .u8 t2, .int .u8 t3, .int .u8 t4, .int .u8 t5, .int .u8 f0, .int .u8 f1, .int .u8 f2, .int .u8 f3, .int .u8 f4, .int .u8 f5, .int .i64 tid, .int .i64 seq, .int .u64 m] 28) = wb at *
  have HALL : Hid (∀ w', Gro none wb w' → (fun w' => Gro none wb w' ∧ w'.cell? ⟨w.heap.size, 0, none⟩ = some (.int .u8 t0) ∧ w'.cell? ⟨w.heap.size, 1, none⟩ = some (.int .u8 t1) ∧ w'.cell? ⟨w.heap.size, 2, none⟩ = some (.int .u8 t2) ∧ w'.cell? ⟨w.heap.size, 3, none⟩ = some (.int .u8 t3) ∧ w'.cell? ⟨w.heap.size, 4, none⟩ = some (.int .u8 t4) ∧ w'.cell? ⟨w.heap.size, 5, none⟩ = some (.int .u8 t5) ∧ w'.cell? ⟨w.heap.size, 6, none⟩ = some (.int .u8 f0) ∧ w'.cell? ⟨w.heap.size, 7, none⟩ = some (.int .u8 f1) ∧ w'.cell? ⟨w.heap.size, 8, none⟩ = some (.int .u8 f2) ∧ w'.cell? ⟨w.heap.size, 9, none⟩ = some (.int .u8 f3) ∧ w'.cell? ⟨w.heap.size, 10, none⟩ = some (.int .u8 f4) ∧ w'.cell? ⟨w.heap.size, 11, none⟩ = some (.int .u8 f5) ∧ w'.cell? ⟨w.heap.size, 12, none⟩ = some (.int .i64 tid) ∧ w'.cell? ⟨w.heap.size, 13, none⟩ = some (.int .i64 seq) ∧ w'.cell? ⟨w.heap.size, 14, none⟩ = some (.int .u64 m)) w') := fun w' k => by
    have hb := (k.block w.heap.size hlw (by simp)).trans hbr
    exact ⟨k, cell_of_row _ _ 0 _ _ _ hb, cell_of_row _ _ 1 _ _ _ hb, cell_of_row _ _ 2 _ _ _ hb, cell_of_row _ _ 3 _ _ _ hb, cell_of_row _ _ 4 _ _ _ hb, cell_of_row _ _ 5 _ _ _ hb, cell_of_row _ _ 6 _ _ _ hb, cell_of_row _ _ 7 _ _ _ hb, cell_of_row _ _ 8 _ _ _ hb, cell_of_row _ _ 9 _ _ _ hb, cell_of_row _ _ 10 _ _ _ hb, cell_of_row _ _ 11 _ _ _ hb, cell_of_row _ _ 12 _ _ _ hb, cell_of_row _ _ 13 _ _ _ hb, cell_of_row _ _ 14 _ _ _ hb⟩
  have HGW := Lib.hid hgw
  clear hgw hbr
  refine (HO1.out _).mono ?_
  rintro e w' ⟨rfl, rfl⟩
  have q13 := (HALL.out wb (Gro.refl _ _)).2.2.2.2.2.2.2.2.2.2.2.2.2.2.1
  go_wp2_with fail
  refine (HO2.out _).mono ?_
  rintro e w' ⟨rfl, rfl⟩
  clear q13
  go_wp2_with fail
  go_region_held3 (fun w' => Gro none wb w' ∧ w'.cell? ⟨w.heap.size, 0, none⟩ = some (.int .u8 t0) ∧ w'.cell? ⟨w.heap.size, 1, none⟩ = some (.int .u8 t1) ∧ w'.cell? ⟨w.heap.size, 2, none⟩ = some (.int .u8 t2) ∧ w'.cell? ⟨w.heap.size, 3, none⟩ = some (.int .u8 t3) ∧ w'.cell? ⟨w.heap.size, 4, none⟩ = some (.int .u8 t4) ∧ w'.cell? ⟨w.heap.size, 5, none⟩ = some (.int .u8 t5) ∧ w'.cell? ⟨w.heap.size, 6, none⟩ = some (.int .u8 f0) ∧ w'.cell? ⟨w.heap.size, 7, none⟩ = some (.int .u8 f1) ∧ w'.cell? ⟨w.heap.size, 8, none⟩ = some (.int .u8 f2) ∧ w'.cell? ⟨w.heap.size, 9, none⟩ = some (.int .u8 f3) ∧ w'.cell? ⟨w.heap.size, 10, none⟩ = some (.int .u8 f4) ∧ w'.cell? ⟨w.heap.size, 11, none⟩ = some (.int .u8 f5) ∧ w'.cell? ⟨w.heap.size, 12, none⟩ = some (.int .i64 tid) ∧ w'.cell? ⟨w.heap.size, 13, none⟩ = some (.int .i64 seq) ∧ w'.cell? ⟨w.heap.size, 14, none⟩ = some (.int .u64 m)) ((exact HALL.out _ (by repeat (first | assumption | with_reducible exact Gro.refl _ _ | with_reducible refine Gro.drewN ?_ _ | with_reducible refine Gro.drew ?_ | with_reducible refine Gro.alloc ?_ _)))) (first | (go_at_call 33; refine (raddr_any wb _ _ ⟨_, _, _, _, _, _⟩ _ (by first | assumption | exact own_new wb.drew [148, 0, 0, 0] _ _ (by simp) rfl 4 rfl (by decide)) (by repeat (first | assumption | with_reducible exact Gro.refl _ _ | with_reducible refine Gro.drewN ?_ _ | with_reducible refine Gro.drew ?_ | with_reducible refine Gro.alloc ?_ _)) (by simp [adL, twoL])).mono ?_; rintro e w' ⟨v', rfl, ho, hg⟩) | (go_at_call 32; refine (rtwo_any wb _ _ _ _ (by first | assumption | exact own_new wb.drew [148, 0, 0, 0] _ _ (by simp) rfl 4 rfl (by decide)) (by repeat (first | assumption | with_reducible exact Gro.refl _ _ | with_reducible refine Gro.drewN ?_ _ | with_reducible refine Gro.drew ?_ | with_reducible refine Gro.alloc ?_ _)) (by simp [adL, twoL]) (by omega) (by omega)).mono ?_; rintro e w' ⟨v', rfl, ho, hg⟩))
  have HST : Hid (Own wb.heap.size w' v' (asksL 148 ⟨t0, t1, t2, t3, t4, t5⟩ ⟨f0, f1, f2, f3, f4, f5⟩ tid seq) ∧ Gro none wb w') := ⟨ho, hg⟩
  have hlen : (asksL 148 ⟨t0, t1, t2, t3, t4, t5⟩ ⟨f0, f1, f2, f3, f4, f5⟩ tid seq).length = 20 := by simp [asksL, adL, twoL]
  generalize hLe : asksL 148 ⟨t0, t1, t2, t3, t4, t5⟩ ⟨f0, f1, f2, f3, f4, f5⟩ tid seq = L at HST hlen
  have HLE := Lib.hid hLe
  clear hLe
  have HLN := Lib.hid hlen
  have hcm := (HALL.out wb (Gro.refl _ _)).2.2.2.2.2.2.2.2.2.2.2.2.2.2.2
  clear hlen HO1 HO2
  go_wp2_with fail
  go_loopw [4, 5] (fun v i wr => ∃ k : Nat, k ≤ 8 ∧ i = .int .i64 k ∧ Gro none wb wr ∧ Own wb.heap.size wr v (L ++ mapL m k)) (fun _ i _ => 8 - (intOf i).toNat)
  case atStart => exact ⟨0, Nat.zero_le _, rfl, HST.out.2, by simpa [mapL] using HST.out.1⟩
  case round =>
    clear HST
    obtain ⟨k, hk, rfl, hg, ho⟩ := hrel
    have HO := Lib.hid ho
    have HG := Lib.hid hg
    have cm := (hg.cell (p := ⟨w.heap.size, 14, none⟩) hlw (by simp)).trans hcm
    clear ho hg hcm
    by_cases h8 : k < 8
    · go_wp2_with (at_builtin; refine app_bytes rfl _ _ rfl wb (L ++ mapL m k) [m / 2 ^ (8 * k) % 256] _ rfl ?c1 ?c2 _ _ _ rfl ?c5 ?c3 ?c4 ?_)
      case c1 => exact HO.out.gro ((Gro.refl none _).alloc _) (by simp)
      case c2 => exact HG.out.alloc _
      case c5 => rfl
      case c3 => exact lie_one wr _ _ _ rfl (Gro.refl _ _)
      case c4 => have := HLN.out; simp [mapL_len]; omega
      intro v2 w2 ho2 hg2
      have HO2 := Lib.hid ho2
      have HG2 := Lib.hid hg2
      clear ho2 hg2 cm
      go_wp2_with fail
      go_roundw
      case rel => exact ⟨k + 1, by omega, by go_num, HG2.out, HO2.out⟩
      case measure => simp [intOf]; omega
    · obtain rfl : k = 8 := by omega
      go_wp2_with fail
      go_ret2
      exact ⟨_, rfl, HGW.out.trans HG.out, by rw [HLE.out]; exact HO.out.weak (Nat.le_of_lt hlw)⟩

set_option maxHeartbeats 2000000 in
theorem rpoll_any (aid : Int) (to fr : Ad) (w : World) (h : okP aid) :
    Calls Tryd.prog 14 #[pollV aid to fr] w fun e w' => ∃ v, e = .returned (.tuple #[v, .int .i64 0]) ∧ Gro none w w' ∧ Own w.heap.size w' v (pollL aid to fr) := by
  obtain ⟨h0, h1⟩ := h
  have n0 : ¬ aid < 1 := by omega
  have n1 : ¬ 2007 < aid := by omega
  have w1 : IntKind.i64.wrap (49152 + aid) = 49152 + aid := by simp [IntKind.wrap, IntKind.bits, IntKind.signed]; omega
  obtain ⟨t0, t1, t2, t3, t4, t5⟩ := to
  obtain ⟨f0, f1, f2, f3, f4, f5⟩ := fr
  unfold pollV
  simp only
  go_enter Tryd.func14, Tryd.ntmps14
  go_wp2_with fail
  have hgw : Gro none w (w.alloc (.cells #[.int .i64 aid, .int .u8 t0, .int .u8 t1, .int .u8 t2, .int .u8 t3, .int .u8 t4, .int .u8 t5, .int .u8 f0, .int .u8 f1, .int .u8 f2, .int .u8 f3, .int .u8 f4, .int .u8 f5] 30)) := (Gro.refl _ _).alloc _
  have hbr := heap_alloc_new w (.cells #[.int .i64 aid, .int .u8 t0, .int .u8 t1, .int .u8 t2, .int .u8 t3, .int .u8 t4, .int .u8 t5, .int .u8 f0, .int .u8 f1, .int .u8 f2, .int .u8 f3, .int .u8 f4, .int .u8 f5] 30)
  have hlw : w.heap.size < (w.alloc (.cells #[.int .i64 aid, .int .u8 t0, .int .u8 t1, .int .u8 t2, .int .u8 t3, .int .u8 t4, .int .u8 t5, .int .u8 f0, .int .u8 f1, .int .u8 f2, .int .u8 f3, .int .u8 f4, .int .u8 f5] 30)).heap.size := by simp
  generalize w.alloc (.cells #[.int .i64 aid, .int .u8 t0, .int .u8 t1, .int .u8 t2, .int .u8 t3, .int .u8 t4, .int .u8 t5, .int .u8 f0, .int .u8 f1, .int .u8 f2, .int .u8 f3, .int .u8 f4, .int .u8 f5] 30) = wb at *
  have HALL : Hid (∀ w', Gro none wb w' → (fun w' => Gro none wb w' ∧ w'.cell? ⟨w.heap.size, 0, none⟩ = some (.int .i64 aid) ∧ w'.cell? ⟨w.heap.size, 1, none⟩ = some (.int .u8 t0) ∧ w'.cell? ⟨w.heap.size, 2, none⟩ = some (.int .u8 t1) ∧ w'.cell? ⟨w.heap.size, 3, none⟩ = some (.int .u8 t2) ∧ w'.cell? ⟨w.heap.size, 4, none⟩ = some (.int .u8 t3) ∧ w'.cell? ⟨w.heap.size, 5, none⟩ = some (.int .u8 t4) ∧ w'.cell? ⟨w.heap.size, 6, none⟩ = some (.int .u8 t5) ∧ w'.cell? ⟨w.heap.size, 7, none⟩ = some (.int .u8 f0) ∧ w'.cell? ⟨w.heap.size, 8, none⟩ = some (.int .u8 f1) ∧ w'.cell? ⟨w.heap.size, 9, none⟩ = some (.int .u8 f2) ∧ w'.cell? ⟨w.heap.size, 10, none⟩ = some (.int .u8 f3) ∧ w'.cell? ⟨w.heap.size, 11, none⟩ = some (.int .u8 f4) ∧ w'.cell? ⟨w.heap.size, 12, none⟩ = some (.int .u8 f5)) w') := fun w' k => by
    have hb := (k.block w.heap.size hlw (by simp)).trans hbr
    exact ⟨k, cell_of_row _ _ 0 _ _ _ hb, cell_of_row _ _ 1 _ _ _ hb, cell_of_row _ _ 2 _ _ _ hb, cell_of_row _ _ 3 _ _ _ hb, cell_of_row _ _ 4 _ _ _ hb, cell_of_row _ _ 5 _ _ _ hb, cell_of_row _ _ 6 _ _ _ hb, cell_of_row _ _ 7 _ _ _ hb, cell_of_row _ _ 8 _ _ _ hb, cell_of_row _ _ 9 _ _ _ hb, cell_of_row _ _ 10 _ _ _ hb, cell_of_row _ _ 11 _ _ _ hb, cell_of_row _ _ 12 _ _ _ hb⟩
  have HGW := Lib.hid hgw
  clear hgw hbr
  go_region_held3 (fun w' => Gro none wb w' ∧ w'.cell? ⟨w.heap.size, 0, none⟩ = some (.int .i64 aid) ∧ w'.cell? ⟨w.heap.size, 1, none⟩ = some (.int .u8 t0) ∧ w'.cell? ⟨w.heap.size, 2, none⟩ = some (.int .u8 t1) ∧ w'.cell? ⟨w.heap.size, 3, none⟩ = some (.int .u8 t2) ∧ w'.cell? ⟨w.heap.size, 4, none⟩ = some (.int .u8 t3) ∧ w'.cell? ⟨w.heap.size, 5, none⟩ = some (.int .u8 t4) ∧ w'.cell? ⟨w.heap.size, 6, none⟩ = some (.int .u8 t5) ∧ w'.cell? ⟨w.heap.size, 7, none⟩ = some (.int .u8 f0) ∧ w'.cell? ⟨w.heap.size, 8, none⟩ = some (.int .u8 f1) ∧ w'.cell? ⟨w.heap.size, 9, none⟩ = some (.int .u8 f2) ∧ w'.cell? ⟨w.heap.size, 10, none⟩ = some (.int .u8 f3) ∧ w'.cell? ⟨w.heap.size, 11, none⟩ = some (.int .u8 f4) ∧ w'.cell? ⟨w.heap.size, 12, none⟩ = some (.int .u8 f5)) ((exact HALL.out _ (by repeat (first | assumption | with_reducible exact Gro.refl _ _ | with_reducible refine Gro.drewN ?_ _ | with_reducible refine Gro.drew ?_ | with_reducible refine Gro.alloc ?_ _)))) (first | (go_at_call 33; refine (raddr_any wb _ _ ⟨_, _, _, _, _, _⟩ _ (by first | assumption | exact own_new wb.drew [164, 0] _ _ (by simp) rfl 2 rfl (by decide)) (by repeat (first | assumption | with_reducible exact Gro.refl _ _ | with_reducible refine Gro.drewN ?_ _ | with_reducible refine Gro.drew ?_ | with_reducible refine Gro.alloc ?_ _)) (by simp [adL, twoL])).mono ?_; rintro e w' ⟨v', rfl, ho, hg⟩) | (go_at_call 32; refine (rtwo_any wb _ _ _ _ (by first | assumption | exact own_new wb.drew [164, 0] _ _ (by simp) rfl 2 rfl (by decide)) (by repeat (first | assumption | with_reducible exact Gro.refl _ _ | with_reducible refine Gro.drewN ?_ _ | with_reducible refine Gro.drew ?_ | with_reducible refine Gro.alloc ?_ _)) (by simp [adL, twoL]) (by omega) (by omega)).mono ?_; rintro e w' ⟨v', rfl, ho, hg⟩))
  go_wp2_with fail
  go_ret2
  exact ⟨_, rfl, HGW.out.trans hg, ho.weak (Nat.le_of_lt hlw)⟩

theorem rbar_bad (to fr : Ad) (tid seq : Int) (w : World) (h : ¬ okB tid seq) :
    Calls Tryd.prog 12 #[barV to fr tid seq] w fun e w' => e = .returned (.tuple #[.slice none 0 0, .int .i64 103]) ∧ Gro none w w' := by
  have ho : (tid < 0 ∨ (0 ≤ tid ∧ 7 < tid)) ∨ (0 ≤ tid ∧ tid ≤ 7 ∧ (seq < 0 ∨ (0 ≤ seq ∧ 4095 < seq))) := by unfold okB at h; omega
  clear h
  obtain ⟨t0, t1, t2, t3, t4, t5⟩ := to
  obtain ⟨f0, f1, f2, f3, f4, f5⟩ := fr
  unfold barV
  simp only
  go_enter Tryd.func12, Tryd.ntmps12
  go_wp2_with fail
  have hgw : Gro none w (w.alloc (.cells #[.int .u8 t0, .int .u8 t1, .int .u8 t2, .int .u8 t3, .int .u8 t4, .int .u8 t5, .int .u8 f0, .int .u8 f1, .int .u8 f2, .int .u8 f3, .int .u8 f4, .int .u8 f5, .int .i64 tid, .int .i64 seq] 25)) := (Gro.refl _ _).alloc _
  have hbr := heap_alloc_new w (.cells #[.int .u8 t0, .int .u8 t1, .int .u8 t2, .int .u8 t3, .int .u8 t4, .int .u8 t5, .int .u8 f0, .int .u8 f1, .int .u8 f2, .int .u8 f3, .int .u8 f4, .int .u8 f5, .int .i64 tid, .int .i64 seq] 25)
  have hlw : w.heap.size < (w.alloc (.cells #[.int .u8 t0, .int .u8 t1, .int .u8 t2, .int .u8 t3, .int .u8 t4, .int .u8 t5, .int .u8 f0, .int .u8 f1, .int .u8 f2, .int .u8 f3, .int .u8 f4, .int .u8 f5, .int .i64 tid, .int .i64 seq] 25)).heap.size := by simp
  generalize w.alloc (.cells #[.int .u8 t0, .int .u8 t1, .int .u8 t2, .int .u8 t3, .int .u8 t4, .int .u8 t5, .int .u8 f0, .int .u8 f1, .int .u8 f2, .int .u8 f3, .int .u8 f4, .int .u8 f5, .int .i64 tid, .int .i64 seq] 25) = wb at *
  have HALL : Hid (∀ w', Gro none wb w' → (fun w' => Gro none wb w' ∧ w'.cell? ⟨w.heap.size, 0, none⟩ = some (.int .u8 t0) ∧ w'.cell? ⟨w.heap.size, 1, none⟩ = some (.int .u8 t1) ∧ w'.cell? ⟨w.heap.size, 2, none⟩ = some (.int .u8 t2) ∧ w'.cell? ⟨w.heap.size, 3, none⟩ = some (.int .u8 t3) ∧ w'.cell? ⟨w.heap.size, 4, none⟩ = some (.int .u8 t4) ∧ w'.cell? ⟨w.heap.size, 5, none⟩ = some (.int .u8 t5) ∧ w'.cell? ⟨w.heap.size, 6, none⟩ = some (.int .u8 f0) ∧ w'.cell? ⟨w.heap.size, 7, none⟩ = some (.int .u8 f1) ∧ w'.cell? ⟨w.heap.size, 8, none⟩ = some (.int .u8 f2) ∧ w'.cell? ⟨w.heap.size, 9, none⟩ = some (.int .u8 f3) ∧ w'.cell? ⟨w.heap.size, 10, none⟩ = some (.int .u8 f4) ∧ w'.cell? ⟨w.heap.size, 11, none⟩ = some (.int .u8 f5) ∧ w'.cell? ⟨w.heap.size, 12, none⟩ = some (.int .i64 tid) ∧ w'.cell? ⟨w.heap.size, 13, none⟩ = some (.int .i64 seq)) w') := fun w' k => by
    have hb := (k.block w.heap.size hlw (by simp)).trans hbr
    exact ⟨k, cell_of_row _ _ 0 _ _ _ hb, cell_of_row _ _ 1 _ _ _ hb, cell_of_row _ _ 2 _ _ _ hb, cell_of_row _ _ 3 _ _ _ hb, cell_of_row _ _ 4 _ _ _ hb, cell_of_row _ _ 5 _ _ _ hb, cell_of_row _ _ 6 _ _ _ hb, cell_of_row _ _ 7 _ _ _ hb, cell_of_row _ _ 8 _ _ _ hb, cell_of_row _ _ 9 _ _ _ hb, cell_of_row _ _ 10 _ _ _ hb, cell_of_row _ _ 11 _ _ _ hb, cell_of_row _ _ 12 _ _ _ hb, cell_of_row _ _ 13 _ _ _ hb⟩
  have HGW := Lib.hid hgw
  clear hbr
  rcases ho with h | ⟨h, h', h2⟩
  · refine (out_yes tid 7 _ h).mono ?_
    rintro e w' ⟨rfl, rfl⟩
    go_wp2_with fail
    go_ret2
    exact ⟨rfl, HGW.out⟩
  · refine (out_no tid 7 _ h h').mono ?_
    rintro e w' ⟨rfl, rfl⟩
    have q13 := (HALL.out wb (Gro.refl _ _)).2.2.2.2.2.2.2.2.2.2.2.2.2.2
    go_wp2_with fail
    refine (out_yes seq 4095 _ h2).mono ?_
    rintro e w' ⟨rfl, rfl⟩
    go_wp2_with fail
    go_ret2
    exact ⟨rfl, HGW.out⟩

theorem rack_bad (to fr : Ad) (tid seq m : Int) (w : World) (h : ¬ okB tid seq) :
    Calls Tryd.prog 13 #[ackV to fr tid seq m] w fun e w' => e = .returned (.tuple #[.slice none 0 0, .int .i64 103]) ∧ Gro none w w' := by
  have ho : (tid < 0 ∨ (0 ≤ tid ∧ 7 < tid)) ∨ (0 ≤ tid ∧ tid ≤ 7 ∧ (seq < 0 ∨ (0 ≤ seq ∧ 4095 < seq))) := by unfold okB at h; omega
  clear h
  obtain ⟨t0, t1, t2, t3, t4, t5⟩ := to
  obtain ⟨f0, f1, f2, f3, f4, f5⟩ := fr
  unfold ackV
  simp only
  go_enter Tryd.func13, Tryd.ntmps13
  go_wp2_with fail
  have hgw : Gro none w (w.alloc (.cells #[.int .u8 t0, .int .u8 t1, .int .u8 t2, .int .u8 t3, .int .u8 t4, .int .u8 t5, .int .u8 f0, .int .u8 f1, .int .u8 f2, .int .u8 f3, .int .u8 f4, .int .u8 f5, .int .i64 tid, .int .i64 seq, .int .u64 m] 28)) := (Gro.refl _ _).alloc _
  have hbr := heap_alloc_new w (.cells #[.int .u8 t0, .int .u8 t1, .int .u8 t2, .int .u8 t3, .int .u8 t4, .int .u8 t5, .int .u8 f0, .int .u8 f1, .int .u8 f2, .int .u8 f3, .int .u8 f4, .int .u8 f5, .int .i64 tid, .int .i64 seq, .int .u64 m] 28)
  have hlw : w.heap.size < (w.alloc (.cells #[.int .u8 t0, .int .u8 t1, .int .u8 t2, .int .u8 t3, .int .u8 t4, .int .u8 t5, .int .u8 f0, .int .u8 f1, .int .u8 f2, .int .u8 f3, .int .u8 f4, .int .u8 f5, .int .i64 tid, .int .i64 seq, .int .u64 m] 28)).heap.size := by simp
  generalize w.alloc (.cells #[.int .u8 t0, .int .u8 t1, .int .u8 t2, .int .u8 t3, .int .u8 t4, .int .u8 t5, .int .u8 f0, .int .u8 f1, .int .u8 f2, .int .u8 f3, .int .u8 f4, .int .u8 f5, .int .i64 tid, .int .i64 seq, .int .u64 m] 28) = wb at *
  have HALL : Hid (∀ w', Gro none wb w' → (fun w' => Gro none wb w' ∧ w'.cell? ⟨w.heap.size, 0, none⟩ = some (.int .u8 t0) ∧ w'.cell? ⟨w.heap.size, 1, none⟩ = some (.int .u8 t1) ∧ w'.cell? ⟨w.heap.size, 2, none⟩ = some (.int .u8 t2) ∧ w'.cell? ⟨w.heap.size, 3, none⟩ = some (.int .u8 t3) ∧ w'.cell? ⟨w.heap.size, 4, none⟩ = some (.int .u8 t4) ∧ w'.cell? ⟨w.heap.size, 5, none⟩ = some (.int .u8 t5) ∧ w'.cell? ⟨w.heap.size, 6, none⟩ = some (.int .u8 f0) ∧ w'.cell? ⟨w.heap.size, 7, none⟩ = some (.int .u8 f1) ∧ w'.cell? ⟨w.heap.size, 8, none⟩ = some (.int .u8 f2) ∧ w'.cell? ⟨w.heap.size, 9, none⟩ = some (.int .u8 f3) ∧ w'.cell? ⟨w.heap.size, 10, none⟩ = some (.int .u8 f4) ∧ w'.cell? ⟨w.heap.size, 11, none⟩ = some (.int .u8 f5) ∧ w'.cell? ⟨w.heap.size, 12, none⟩ = some (.int .i64 tid) ∧ w'.cell? ⟨w.heap.size, 13, none⟩ = some (.int .i64 seq) ∧ w'.cell? ⟨w.heap.size, 14, none⟩ = some (.int .u64 m)) w') := fun w' k => by
    have hb := (k.block w.heap.size hlw (by simp)).trans hbr
    exact ⟨k, cell_of_row _ _ 0 _ _ _ hb, cell_of_row _ _ 1 _ _ _ hb, cell_of_row _ _ 2 _ _ _ hb, cell_of_row _ _ 3 _ _ _ hb, cell_of_row _ _ 4 _ _ _ hb, cell_of_row _ _ 5 _ _ _ hb, cell_of_row _ _ 6 _ _ _ hb, cell_of_row _ _ 7 _ _ _ hb, cell_of_row _ _ 8 _ _ _ hb, cell_of_row _ _ 9 _ _ _ hb, cell_of_row _ _ 10 _ _ _ hb, cell_of_row _ _ 11 _ _ _ hb, cell_of_row _ _ 12 _ _ _ hb, cell_of_row _ _ 13 _ _ _ hb, cell_of_row _ _ 14 _ _ _ hb⟩
  have HGW := Lib.hid hgw
  clear hbr
  rcases ho with h | ⟨h, h', h2⟩
  · refine (out_yes tid 7 _ h).mono ?_
    rintro e w' ⟨rfl, rfl⟩
    go_wp2_with fail
    go_ret2
    exact ⟨rfl, HGW.out⟩
  · refine (out_no tid 7 _ h h').mono ?_
    rintro e w' ⟨rfl, rfl⟩
    have q13 := (HALL.out wb (Gro.refl _ _)).2.2.2.2.2.2.2.2.2.2.2.2.2.2.1
    go_wp2_with fail
    refine (out_yes seq 4095 _ h2).mono ?_
    rintro e w' ⟨rfl, rfl⟩
    go_wp2_with fail
    go_ret2
    exact ⟨rfl, HGW.out⟩

theorem rpoll_bad (aid : Int) (to fr : Ad) (w : World) (h : ¬ okP aid) :
    Calls Tryd.prog 14 #[pollV aid to fr] w fun e w' => e = .returned (.tuple #[.slice none 0 0, .int .i64 103]) ∧ Gro none w w' := by
  obtain ⟨t0, t1, t2, t3, t4, t5⟩ := to
  obtain ⟨f0, f1, f2, f3, f4, f5⟩ := fr
  unfold pollV
  simp only
  have ho : aid < 1 ∨ (1 ≤ aid ∧ 2007 < aid) := by unfold okP at h; omega
  clear h
  rcases ho with h | ⟨h, h'⟩
  all_goals
    go_enter Tryd.func14, Tryd.ntmps14
    go_wp2_with fail
    go_ret2
    exact ⟨rfl, (Gro.refl _ _).alloc _⟩
end Go.Proofs.YtadcpoglkmklhaaDoor
