/-
  THE WALKS OF package act, WRITING: AddBytes, DelBytes. Conditions: where an error is told, the sentinel's cell.
-/
import Derived.Test.YtflckkeaakmojaaDoorAct
import Derived.Deep.RegionHeld3
namespace Go.Proofs.YtflckkeaakmojaaDoor
open Go.RowKit

/-- May an Add be? -/
def okA (ans : Bool) (tok tid size tmo seq st : Int) : Prop := (0 ≤ tok ∧ tok ≤ 255) ∧ (0 ≤ tid ∧ tid ≤ 7) ∧ (0 ≤ size ∧ size ≤ 1023) ∧ (0 ≤ tmo ∧ tmo ≤ 65535) ∧ (0 ≤ st ∧ st ≤ 65535) ∧ (0 ≤ seq ∧ seq ≤ 4095) ∧ (ans = false → st = 0) ∧ (ans = true → seq = 0)
def okD (tid reason : Int) : Prop := (0 ≤ tid ∧ tid ≤ 7) ∧ (0 ≤ reason ∧ reason ≤ 65535)
instance (ans : Bool) (tok tid size tmo seq st : Int) : Decidable (okA ans tok tid size tmo seq st) := by unfold okA; infer_instance
instance (tid reason : Int) : Decidable (okD tid reason) := by unfold okD; infer_instance
def addV (to fr bs : Ad) (ans : Bool) (tok tid size tmo seq st : Int) : Value := .agg #[.int .u8 to.b0, .int .u8 to.b1, .int .u8 to.b2, .int .u8 to.b3, .int .u8 to.b4, .int .u8 to.b5, .int .u8 fr.b0, .int .u8 fr.b1, .int .u8 fr.b2, .int .u8 fr.b3, .int .u8 fr.b4, .int .u8 fr.b5, .int .u8 bs.b0, .int .u8 bs.b1, .int .u8 bs.b2, .int .u8 bs.b3, .int .u8 bs.b4, .int .u8 bs.b5, .bool ans, .int .i64 tok, .int .i64 tid, .int .i64 size, .int .i64 tmo, .int .i64 seq, .int .i64 st] 
def delV (to fr bs : Ad) (mine : Bool) (tid reason : Int) : Value := .agg #[.int .u8 to.b0, .int .u8 to.b1, .int .u8 to.b2, .int .u8 to.b3, .int .u8 to.b4, .int .u8 to.b5, .int .u8 fr.b0, .int .u8 fr.b1, .int .u8 fr.b2, .int .u8 fr.b3, .int .u8 fr.b4, .int .u8 fr.b5, .int .u8 bs.b0, .int .u8 bs.b1, .int .u8 bs.b2, .int .u8 bs.b3, .int .u8 bs.b4, .int .u8 bs.b5, .bool mine, .int .i64 tid, .int .i64 reason]
def addL (to fr bs : Ad) (ans : Bool) (tok tid size tmo seq st : Int) : List Int :=
  if ans then frontL to fr bs 1 ++ [tok] ++ twoL st ++ twoL (2 + tid * 4 + size * 64) ++ twoL tmo
  else frontL to fr bs 0 ++ [tok] ++ twoL (2 + tid * 4 + size * 64) ++ twoL tmo ++ twoL (seq * 16)
def delL (to fr bs : Ad) (mine : Bool) (tid reason : Int) : List Int := frontL to fr bs 2 ++ twoL (tid * 4096 + if mine then 2048 else 0) ++ twoL reason

set_option maxHeartbeats 2000000 in
theorem add_bad (to fr bs : Ad) (ans : Bool) (tok tid size tmo seq st : Int) (v : Value) (w : World) (h : ¬ okA ans tok tid size tmo seq st) (hv : w.cell? ⟨0, 0, none⟩ = some v) (hlt : 0 < w.heap.size) :
    Calls Tryd.prog 9 #[addV to fr bs ans tok tid size tmo seq st] w fun e w' => e = .returned (.tuple #[.slice none 0 0, v]) ∧ Gro none w w' := by
  obtain ⟨t0, t1, t2, t3, t4, t5⟩ := to
  obtain ⟨f0, f1, f2, f3, f4, f5⟩ := fr
  obtain ⟨b0, b1, b2, b3, b4, b5⟩ := bs
  unfold addV
  simp only
  have Htok := Lib.hid (fun w => top_any tok 255 w)
  have Htid := Lib.hid (fun w => top_any tid 7 w)
  have Hsize := Lib.hid (fun w => top_any size 1023 w)
  have Htmo := Lib.hid (fun w => top_any tmo 65535 w)
  have Hst := Lib.hid (fun w => top_any st 65535 w)
  have Hseq := Lib.hid (fun w => top_any seq 4095 w)
  have hd : ¬ ((decide (0 ≤ tok ∧ tok ≤ 255) && decide (0 ≤ tid ∧ tid ≤ 7) && decide (0 ≤ size ∧ size ≤ 1023) && decide (0 ≤ tmo ∧ tmo ≤ 65535) && decide (0 ≤ st ∧ st ≤ 65535) && decide (0 ≤ seq ∧ seq ≤ 4095)) = true ∧ (ans = false → st = 0) ∧ (ans = true → seq = 0)) := by
    intro h'
    apply h
    simp only [Bool.and_eq_true, decide_eq_true_eq] at h'
    unfold okA
    obtain ⟨⟨⟨⟨⟨⟨h1, h2⟩, h3⟩, h4⟩, h5⟩, h6⟩, h7, h8⟩ := h'
    exact ⟨h1, h2, h3, h4, h5, h6, h7, h8⟩
  clear h
  generalize decide (0 ≤ tok ∧ tok ≤ 255) = ptok at *
  generalize decide (0 ≤ tid ∧ tid ≤ 7) = ptid at *
  generalize decide (0 ≤ size ∧ size ≤ 1023) = psize at *
  generalize decide (0 ≤ tmo ∧ tmo ≤ 65535) = ptmo at *
  generalize decide (0 ≤ st ∧ st ≤ 65535) = pst at *
  generalize decide (0 ≤ seq ∧ seq ≤ 4095) = pseq at *
  go_enter Tryd.func9, Tryd.ntmps9
  go_wp2_with fail
  refine (Htok.out _).mono ?_
  rintro e w' ⟨rfl, rfl⟩
  cases ptok
  · clear hd
    go_wp2_with fail
    go_region
    all_goals (try go_wp2)
    all_goals go_ret2
    all_goals exact ⟨rfl, ((Gro.refl _ _).alloc _).drew⟩
  go_wp2_with fail
  refine (Htid.out _).mono ?_
  rintro e w' ⟨rfl, rfl⟩
  cases ptid
  · clear hd
    go_wp2_with fail
    go_region
    all_goals (try go_wp2)
    all_goals go_ret2
    all_goals exact ⟨rfl, ((Gro.refl _ _).alloc _).drew⟩
  go_wp2_with fail
  refine (Hsize.out _).mono ?_
  rintro e w' ⟨rfl, rfl⟩
  cases psize
  · clear hd
    go_wp2_with fail
    go_region
    all_goals (try go_wp2)
    all_goals go_ret2
    all_goals exact ⟨rfl, ((Gro.refl _ _).alloc _).drew⟩
  go_wp2_with fail
  refine (Htmo.out _).mono ?_
  rintro e w' ⟨rfl, rfl⟩
  cases ptmo
  · clear hd
    go_wp2_with fail
    go_region
    all_goals (try go_wp2)
    all_goals go_ret2
    all_goals exact ⟨rfl, ((Gro.refl _ _).alloc _).drew⟩
  go_wp2_with fail
  refine (Hst.out _).mono ?_
  rintro e w' ⟨rfl, rfl⟩
  cases pst
  · clear hd
    go_wp2_with fail
    go_region
    all_goals (try go_wp2)
    all_goals go_ret2
    all_goals exact ⟨rfl, ((Gro.refl _ _).alloc _).drew⟩
  go_wp2_with fail
  refine (Hseq.out _).mono ?_
  rintro e w' ⟨rfl, rfl⟩
  cases pseq
  · clear hd
    go_wp2_with fail
    go_region
    all_goals (try go_wp2)
    all_goals go_ret2
    all_goals exact ⟨rfl, ((Gro.refl _ _).alloc _).drew⟩
  cases ans
  · have h0 : ¬ st = 0 := fun e => hd ⟨rfl, fun _ => e, fun h => by cases h⟩
    have h1 : (st == 0) = false := by simpa using h0
    have h2 : (st != 0) = true := by simpa using h0
    clear hd
    go_wp2_with fail
    go_region
    all_goals (try go_wp2)
    all_goals go_ret2
    all_goals exact ⟨rfl, ((Gro.refl _ _).alloc _).drew⟩
  · have h0 : ¬ seq = 0 := fun e => hd ⟨rfl, fun h => (by cases h), fun _ => e⟩
    have h1 : (seq == 0) = false := by simpa using h0
    have h2 : (seq != 0) = true := by simpa using h0
    clear hd
    go_wp2_with fail
    go_region
    all_goals (try go_wp2)
    all_goals go_ret2
    all_goals exact ⟨rfl, ((Gro.refl _ _).alloc _).drew⟩

set_option maxHeartbeats 2000000 in
theorem del_bad (to fr bs : Ad) (mine : Bool) (tid reason : Int) (v : Value) (w : World) (h : ¬ okD tid reason) (hv : w.cell? ⟨0, 0, none⟩ = some v) (hlt : 0 < w.heap.size) :
    Calls Tryd.prog 10 #[delV to fr bs mine tid reason] w fun e w' => e = .returned (.tuple #[.slice none 0 0, v]) ∧ Gro none w w' := by
  obtain ⟨t0, t1, t2, t3, t4, t5⟩ := to
  obtain ⟨f0, f1, f2, f3, f4, f5⟩ := fr
  obtain ⟨b0, b1, b2, b3, b4, b5⟩ := bs
  unfold delV
  simp only
  by_cases ht : 0 ≤ tid ∧ tid ≤ 7
  · have HT := Lib.hid (fun w => top_in tid 7 w ht.1 ht.2)
    have HR := Lib.hid (fun w => top_out reason 65535 w (fun h' => h ⟨ht, h'⟩))
    clear h ht
    go_enter Tryd.func10, Tryd.ntmps10
    go_wp2_with fail
    refine (HT.out _).mono ?_
    rintro e w' ⟨rfl, rfl⟩
    go_wp2_with fail
    refine (HR.out _).mono ?_
    rintro e w' ⟨rfl, rfl⟩
    go_wp2_with fail
    go_region
    all_goals (try go_wp2)
    all_goals go_ret2
    all_goals exact ⟨rfl, ((Gro.refl _ _).alloc _).drew⟩
  · have HT := Lib.hid (fun w => top_out tid 7 w ht)
    clear h ht
    go_enter Tryd.func10, Tryd.ntmps10
    go_wp2_with fail
    refine (HT.out _).mono ?_
    rintro e w' ⟨rfl, rfl⟩
    go_wp2_with fail
    go_region
    all_goals (try go_wp2)
    all_goals go_ret2
    all_goals exact ⟨rfl, ((Gro.refl _ _).alloc _).drew⟩

set_option maxHeartbeats 4000000 in
set_option maxRecDepth 100000 in
theorem add_any (to fr bs : Ad) (ans : Bool) (tok tid size tmo seq st : Int) (w : World) (h : okA ans tok tid size tmo seq st) :
    Calls Tryd.prog 9 #[addV to fr bs ans tok tid size tmo seq st] w fun e w' => ∃ v, e = .returned (.tuple #[v, .nilIface]) ∧ Gro none w w' ∧ Own w.heap.size w' v (addL to fr bs ans tok tid size tmo seq st) := by
  obtain ⟨⟨h1, h1'⟩, ⟨h2, h2'⟩, ⟨h3, h3'⟩, ⟨h4, h4'⟩, ⟨h5, h5'⟩, ⟨h6, h6'⟩, h7, h8⟩ := h
  have HFA := Lib.hid (fun w what => front_any to fr bs what w)
  have HFF := Lib.hid (fun what => show (frontL to fr bs what).length = 26 by simp [frontL, adL])
  have HAL := Lib.hid (show addL to fr bs ans tok tid size tmo seq st = if ans then frontL to fr bs 1 ++ [tok] ++ twoL st ++ twoL (2 + tid * 4 + size * 64) ++ twoL tmo else frontL to fr bs 0 ++ [tok] ++ twoL (2 + tid * 4 + size * 64) ++ twoL tmo ++ twoL (seq * 16) from rfl)
  generalize addL to fr bs ans tok tid size tmo seq st = AL at *
  generalize frontL to fr bs = FF at *
  have w1 : IntKind.i64.wrap (tid * 4) = tid * 4 := by simp [IntKind.wrap, IntKind.bits, IntKind.signed]; omega
  have w2 : IntKind.i64.wrap (2 + tid * 4) = 2 + tid * 4 := by simp [IntKind.wrap, IntKind.bits, IntKind.signed]; omega
  have w3 : IntKind.i64.wrap (size * 64) = size * 64 := by simp [IntKind.wrap, IntKind.bits, IntKind.signed]; omega
  have w4 : IntKind.i64.wrap (2 + tid * 4 + size * 64) = 2 + tid * 4 + size * 64 := by simp [IntKind.wrap, IntKind.bits, IntKind.signed]; omega
  have w5 : IntKind.i64.wrap (seq * 16) = seq * 16 := by simp [IntKind.wrap, IntKind.bits, IntKind.signed]; omega
  have w6 : IntKind.u8.wrap tok = tok := by simp [IntKind.wrap, IntKind.bits, IntKind.signed]; omega
  have w7 : tok % 256 = tok := by omega
  obtain ⟨t0, t1, t2, t3, t4, t5⟩ := to
  obtain ⟨f0, f1, f2, f3, f4, f5⟩ := fr
  obtain ⟨b0, b1, b2, b3, b4, b5⟩ := bs
  unfold addV
  unfold adV at HFA
  simp only at HFA ⊢
  have Ttok := Lib.hid (fun w => top_in tok 255 w (by omega) (by omega))
  have Ttid := Lib.hid (fun w => top_in tid 7 w (by omega) (by omega))
  have Tsize := Lib.hid (fun w => top_in size 1023 w (by omega) (by omega))
  have Ttmo := Lib.hid (fun w => top_in tmo 65535 w (by omega) (by omega))
  have Tst := Lib.hid (fun w => top_in st 65535 w (by omega) (by omega))
  have Tseq := Lib.hid (fun w => top_in seq 4095 w (by omega) (by omega))
  go_enter Tryd.func9, Tryd.ntmps9
  go_wp2_with fail
  have hgw : Gro none w (w.alloc (.cells #[.int .u8 t0, .int .u8 t1, .int .u8 t2, .int .u8 t3, .int .u8 t4, .int .u8 t5, .int .u8 f0, .int .u8 f1, .int .u8 f2, .int .u8 f3, .int .u8 f4, .int .u8 f5, .int .u8 b0, .int .u8 b1, .int .u8 b2, .int .u8 b3, .int .u8 b4, .int .u8 b5, .bool ans, .int .i64 tok, .int .i64 tid, .int .i64 size, .int .i64 tmo, .int .i64 seq, .int .i64 st] 27)) := (Gro.refl _ _).alloc _
  have hbr := heap_alloc_new w (.cells #[.int .u8 t0, .int .u8 t1, .int .u8 t2, .int .u8 t3, .int .u8 t4, .int .u8 t5, .int .u8 f0, .int .u8 f1, .int .u8 f2, .int .u8 f3, .int .u8 f4, .int .u8 f5, .int .u8 b0, .int .u8 b1, .int .u8 b2, .int .u8 b3, .int .u8 b4, .int .u8 b5, .bool ans, .int .i64 tok, .int .i64 tid, .int .i64 size, .int .i64 tmo, .int .i64 seq, .int .i64 st] 27)
  have hlw : w.heap.size < (w.alloc (.cells #[.int .u8 t0, .int .u8 t1, .int .u8 t2, .int .u8 t3, .int .u8 t4, .int .u8 t5, .int .u8 f0, .int .u8 f1, .int .u8 f2, .int .u8 f3, .int .u8 f4, .int .u8 f5, .int .u8 b0, .int .u8 b1, .int .u8 b2, .int .u8 b3, .int .u8 b4, .int .u8 b5, .bool ans, .int .i64 tok, .int .i64 tid, .int .i64 size, .int .i64 tmo, .int .i64 seq, .int .i64 st] 27)).heap.size := by simp
  generalize w.alloc (.cells #[.int .u8 t0, .int .u8 t1, .int .u8 t2, .int .u8 t3, .int .u8 t4, .int .u8 t5, .int .u8 f0, .int .u8 f1, .int .u8 f2, .int .u8 f3, .int .u8 f4, .int .u8 f5, .int .u8 b0, .int .u8 b1, .int .u8 b2, .int .u8 b3, .int .u8 b4, .int .u8 b5, .bool ans, .int .i64 tok, .int .i64 tid, .int .i64 size, .int .i64 tmo, .int .i64 seq, .int .i64 st] 27) = wb at *
  have HALL : Hid (∀ w', Gro none wb w' → (fun w' => Gro none wb w' ∧ w'.cell? ⟨w.heap.size, 0, none⟩ = some (.int .u8 t0) ∧ w'.cell? ⟨w.heap.size, 1, none⟩ = some (.int .u8 t1) ∧ w'.cell? ⟨w.heap.size, 2, none⟩ = some (.int .u8 t2) ∧ w'.cell? ⟨w.heap.size, 3, none⟩ = some (.int .u8 t3) ∧ w'.cell? ⟨w.heap.size, 4, none⟩ = some (.int .u8 t4) ∧ w'.cell? ⟨w.heap.size, 5, none⟩ = some (.int .u8 t5) ∧ w'.cell? ⟨w.heap.size, 6, none⟩ = some (.int .u8 f0) ∧ w'.cell? ⟨w.heap.size, 7, none⟩ = some (.int .u8 f1) ∧ w'.cell? ⟨w.heap.size, 8, none⟩ = some (.int .u8 f2) ∧ w'.cell? ⟨w.heap.size, 9, none⟩ = some (.int .u8 f3) ∧ w'.cell? ⟨w.heap.size, 10, none⟩ = some (.int .u8 f4) ∧ w'.cell? ⟨w.heap.size, 11, none⟩ = some (.int .u8 f5) ∧ w'.cell? ⟨w.heap.size, 12, none⟩ = some (.int .u8 b0) ∧ w'.cell? ⟨w.heap.size, 13, none⟩ = some (.int .u8 b1) ∧ w'.cell? ⟨w.heap.size, 14, none⟩ = some (.int .u8 b2) ∧ w'.cell? ⟨w.heap.size, 15, none⟩ = some (.int .u8 b3) ∧ w'.cell? ⟨w.heap.size, 16, none⟩ = some (.int .u8 b4) ∧ w'.cell? ⟨w.heap.size, 17, none⟩ = some (.int .u8 b5) ∧ w'.cell? ⟨w.heap.size, 18, none⟩ = some (.bool ans) ∧ w'.cell? ⟨w.heap.size, 19, none⟩ = some (.int .i64 tok) ∧ w'.cell? ⟨w.heap.size, 20, none⟩ = some (.int .i64 tid) ∧ w'.cell? ⟨w.heap.size, 21, none⟩ = some (.int .i64 size) ∧ w'.cell? ⟨w.heap.size, 22, none⟩ = some (.int .i64 tmo) ∧ w'.cell? ⟨w.heap.size, 23, none⟩ = some (.int .i64 seq) ∧ w'.cell? ⟨w.heap.size, 24, none⟩ = some (.int .i64 st)) w') := fun w' k => by
    have hb := (k.block w.heap.size hlw (by simp)).trans hbr
    exact ⟨k, cell_of_row _ _ 0 _ _ _ hb, cell_of_row _ _ 1 _ _ _ hb, cell_of_row _ _ 2 _ _ _ hb, cell_of_row _ _ 3 _ _ _ hb, cell_of_row _ _ 4 _ _ _ hb, cell_of_row _ _ 5 _ _ _ hb, cell_of_row _ _ 6 _ _ _ hb, cell_of_row _ _ 7 _ _ _ hb, cell_of_row _ _ 8 _ _ _ hb, cell_of_row _ _ 9 _ _ _ hb, cell_of_row _ _ 10 _ _ _ hb, cell_of_row _ _ 11 _ _ _ hb, cell_of_row _ _ 12 _ _ _ hb, cell_of_row _ _ 13 _ _ _ hb, cell_of_row _ _ 14 _ _ _ hb, cell_of_row _ _ 15 _ _ _ hb, cell_of_row _ _ 16 _ _ _ hb, cell_of_row _ _ 17 _ _ _ hb, cell_of_row _ _ 18 _ _ _ hb, cell_of_row _ _ 19 _ _ _ hb, cell_of_row _ _ 20 _ _ _ hb, cell_of_row _ _ 21 _ _ _ hb, cell_of_row _ _ 22 _ _ _ hb, cell_of_row _ _ 23 _ _ _ hb, cell_of_row _ _ 24 _ _ _ hb⟩
  have HGW := Lib.hid hgw
  clear hgw hbr
  have HG := Lib.hid (Gro.refl none wb)
  have q18 := (HALL.out _ HG.out).2.2.2.2.2.2.2.2.2.2.2.2.2.2.2.2.2.2.2.1
  have q19 := (HALL.out _ HG.out).2.2.2.2.2.2.2.2.2.2.2.2.2.2.2.2.2.2.2.2.1
  have q20 := (HALL.out _ HG.out).2.2.2.2.2.2.2.2.2.2.2.2.2.2.2.2.2.2.2.2.2.1
  have q21 := (HALL.out _ HG.out).2.2.2.2.2.2.2.2.2.2.2.2.2.2.2.2.2.2.2.2.2.2.1
  have q22 := (HALL.out _ HG.out).2.2.2.2.2.2.2.2.2.2.2.2.2.2.2.2.2.2.2.2.2.2.2.1
  have q23 := (HALL.out _ HG.out).2.2.2.2.2.2.2.2.2.2.2.2.2.2.2.2.2.2.2.2.2.2.2.2.1
  have q24 := (HALL.out _ HG.out).2.2.2.2.2.2.2.2.2.2.2.2.2.2.2.2.2.2.2.2.2.2.2.2.2
  refine (Ttok.out _).mono ?_
  rintro e w' ⟨rfl, rfl⟩
  go_wp2_with fail
  refine (Ttid.out _).mono ?_
  rintro e w' ⟨rfl, rfl⟩
  go_wp2_with fail
  refine (Tsize.out _).mono ?_
  rintro e w' ⟨rfl, rfl⟩
  go_wp2_with fail
  refine (Ttmo.out _).mono ?_
  rintro e w' ⟨rfl, rfl⟩
  go_wp2_with fail
  refine (Tst.out _).mono ?_
  rintro e w' ⟨rfl, rfl⟩
  go_wp2_with fail
  refine (Tseq.out _).mono ?_
  rintro e w' ⟨rfl, rfl⟩
  clear Ttok Ttid Tsize Ttmo Tst Tseq
  cases ans
  · have hs := h7 rfl
    obtain rfl : st = 0 := hs
    clear h7 h8
    have HFR : Hid (∀ W, Gro none wb W → Calls Tryd.prog 22 #[.agg #[.int .u8 t0, .int .u8 t1, .int .u8 t2, .int .u8 t3, .int .u8 t4, .int .u8 t5], .agg #[.int .u8 f0, .int .u8 f1, .int .u8 f2, .int .u8 f3, .int .u8 f4, .int .u8 f5], .agg #[.int .u8 b0, .int .u8 b1, .int .u8 b2, .int .u8 b3, .int .u8 b4, .int .u8 b5], .int .u8 0] W fun e w' => ∃ v, e = .returned v ∧ Own wb.heap.size w' v (FF 0) ∧ Gro none wb w' ∧ Gro none W w') := fun W k => (HFA.out W 0).mono fun e w' ⟨v, he, hg, ho⟩ => ⟨v, he, ho.weak k.size, k.trans hg, hg⟩
    have HFL := Lib.hid (HFF.out 0)
    generalize hFL : FF 0 = FL at *
    have HFE := Lib.hid hFL
    clear hFL
    go_wp2_with fail
    clear q18 q19 q20 q21 q22 q23 q24
    go_region_held3 (fun w' => Gro none wb w' ∧ w'.cell? ⟨w.heap.size, 0, none⟩ = some (.int .u8 t0) ∧ w'.cell? ⟨w.heap.size, 1, none⟩ = some (.int .u8 t1) ∧ w'.cell? ⟨w.heap.size, 2, none⟩ = some (.int .u8 t2) ∧ w'.cell? ⟨w.heap.size, 3, none⟩ = some (.int .u8 t3) ∧ w'.cell? ⟨w.heap.size, 4, none⟩ = some (.int .u8 t4) ∧ w'.cell? ⟨w.heap.size, 5, none⟩ = some (.int .u8 t5) ∧ w'.cell? ⟨w.heap.size, 6, none⟩ = some (.int .u8 f0) ∧ w'.cell? ⟨w.heap.size, 7, none⟩ = some (.int .u8 f1) ∧ w'.cell? ⟨w.heap.size, 8, none⟩ = some (.int .u8 f2) ∧ w'.cell? ⟨w.heap.size, 9, none⟩ = some (.int .u8 f3) ∧ w'.cell? ⟨w.heap.size, 10, none⟩ = some (.int .u8 f4) ∧ w'.cell? ⟨w.heap.size, 11, none⟩ = some (.int .u8 f5) ∧ w'.cell? ⟨w.heap.size, 12, none⟩ = some (.int .u8 b0) ∧ w'.cell? ⟨w.heap.size, 13, none⟩ = some (.int .u8 b1) ∧ w'.cell? ⟨w.heap.size, 14, none⟩ = some (.int .u8 b2) ∧ w'.cell? ⟨w.heap.size, 15, none⟩ = some (.int .u8 b3) ∧ w'.cell? ⟨w.heap.size, 16, none⟩ = some (.int .u8 b4) ∧ w'.cell? ⟨w.heap.size, 17, none⟩ = some (.int .u8 b5) ∧ w'.cell? ⟨w.heap.size, 18, none⟩ = some (.bool false) ∧ w'.cell? ⟨w.heap.size, 19, none⟩ = some (.int .i64 tok) ∧ w'.cell? ⟨w.heap.size, 20, none⟩ = some (.int .i64 tid) ∧ w'.cell? ⟨w.heap.size, 21, none⟩ = some (.int .i64 size) ∧ w'.cell? ⟨w.heap.size, 22, none⟩ = some (.int .i64 tmo) ∧ w'.cell? ⟨w.heap.size, 23, none⟩ = some (.int .i64 seq) ∧ w'.cell? ⟨w.heap.size, 24, none⟩ = some (.int .i64 0)) ((exact HALL.out _ (by repeat (first | assumption | with_reducible exact Gro.refl _ _ | with_reducible refine Gro.drewN ?_ _ | with_reducible refine Gro.drew ?_ | with_reducible refine Gro.alloc ?_ _)))) (first | (go_at_call 22; refine (HFR.out _ (by repeat (first | assumption | with_reducible exact Gro.refl _ _ | with_reducible refine Gro.drewN ?_ _ | with_reducible refine Gro.drew ?_ | with_reducible refine Gro.alloc ?_ _))).mono ?_; rintro e w' ⟨v', rfl, ho, hg, hgW⟩) | (refine step_app (by rfl) _ _ (by rfl) wb FL [tok] _ (by rfl) (by first | assumption | exact Own.gro (by assumption) ((Gro.refl none _).alloc _) (by simp)) (by repeat (first | assumption | with_reducible exact Gro.refl _ _ | with_reducible refine Gro.drewN ?_ _ | with_reducible refine Gro.drew ?_ | with_reducible refine Gro.alloc ?_ _)) _ _ _ (by rfl) (by rfl) (by first | exact lie_one _ _ _ _ rfl (Gro.refl _ _) | exact lie_one _ _ _ _ rfl (Gro.trans (Gro.drew (Gro.refl _ _)) (by assumption))) (by have := HFL.out; simp; omega) ?_; intro v' w' ho hg))
    all_goals
      have HLEN : Hid ((FL ++ [tok]).length ≤ 100) := by have := HFL.out; unfold Hid; simp; omega
      generalize hL : FL ++ [tok] = L1 at ho HLEN
      have HE := Lib.hid hL
      have HO := Lib.hid ho
      have HG := Lib.hid hg
      clear ho hg hL HFR
      have HTW := Lib.hid (fun w => two_any (2 + tid * 4 + size * 64) w (by omega) (by omega))
      obtain ⟨Y1, hY⟩ : ∃ Y, Y = twoL (2 + tid * 4 + size * 64) := ⟨_, rfl⟩
      rw [← hY] at HTW
      have HY1 := Lib.hid hY
      clear hY
      have q18 := (HALL.out _ HG.out).2.2.2.2.2.2.2.2.2.2.2.2.2.2.2.2.2.2.2.1
      have q20 := (HALL.out _ HG.out).2.2.2.2.2.2.2.2.2.2.2.2.2.2.2.2.2.2.2.2.2.1
      have q21 := (HALL.out _ HG.out).2.2.2.2.2.2.2.2.2.2.2.2.2.2.2.2.2.2.2.2.2.2.1
      go_wp2_with fail
      refine (HTW.out _).mono ?_
      rintro e wt1 ⟨rfl, hl, hgN⟩
      have HLI := Lib.hid hl
      have HO := Lib.hid (HO.out.gro hgN (by simp))
      have HG := Lib.hid (HG.out.trans hgN)
      clear hl hgN HTW q18 q20 q21
      go_wp2_with (at_builtin; refine app_bytes rfl _ _ rfl wb L1 Y1 _ rfl ?c1 ?c2 _ _ _ rfl ?c5 ?c3 ?c4 ?_)
      case c1 => exact HO.out
      case c2 => exact HG.out
      case c3 => exact HLI.out
      case c4 => have := HLEN.out; omega
      case c5 => rw [HY1.out]; rfl
      intro va1 wa1 ho hg
      have HLEN : Hid ((L1 ++ Y1).length ≤ 104) := by have := HLEN.out; have h2 : Y1.length = 2 := (by rw [HY1.out]; rfl); unfold Hid; rw [List.length_append]; omega
      generalize hL : L1 ++ Y1 = L2 at ho HLEN
      have HE1 := Lib.hid hL
      have HO := Lib.hid ho
      have HG := Lib.hid hg
      clear ho hg hL HLI
      have HTW := Lib.hid (fun w => two_any (tmo) w (by omega) (by omega))
      obtain ⟨Y2, hY⟩ : ∃ Y, Y = twoL (tmo) := ⟨_, rfl⟩
      rw [← hY] at HTW
      have HY2 := Lib.hid hY
      clear hY
      have q22 := (HALL.out _ HG.out).2.2.2.2.2.2.2.2.2.2.2.2.2.2.2.2.2.2.2.2.2.2.2.1
      go_wp2_with fail
      refine (HTW.out _).mono ?_
      rintro e wt2 ⟨rfl, hl, hgN⟩
      have HLI := Lib.hid hl
      have HO := Lib.hid (HO.out.gro hgN (by simp))
      have HG := Lib.hid (HG.out.trans hgN)
      clear hl hgN HTW q22
      go_wp2_with (at_builtin; refine app_bytes rfl _ _ rfl wb L2 Y2 _ rfl ?c1 ?c2 _ _ _ rfl ?c5 ?c3 ?c4 ?_)
      case c1 => exact HO.out
      case c2 => exact HG.out
      case c3 => exact HLI.out
      case c4 => have := HLEN.out; omega
      case c5 => rw [HY2.out]; rfl
      intro va2 wa2 ho hg
      have HLEN : Hid ((L2 ++ Y2).length ≤ 106) := by have := HLEN.out; have h2 : Y2.length = 2 := (by rw [HY2.out]; rfl); unfold Hid; rw [List.length_append]; omega
      generalize hL : L2 ++ Y2 = L3 at ho HLEN
      have HE2 := Lib.hid hL
      have HO := Lib.hid ho
      have HG := Lib.hid hg
      clear ho hg hL HLI
      have HTW := Lib.hid (fun w => two_any (seq * 16) w (by omega) (by omega))
      obtain ⟨Y3, hY⟩ : ∃ Y, Y = twoL (seq * 16) := ⟨_, rfl⟩
      rw [← hY] at HTW
      have HY3 := Lib.hid hY
      clear hY
      have q18 := (HALL.out _ HG.out).2.2.2.2.2.2.2.2.2.2.2.2.2.2.2.2.2.2.2.1
      have q23 := (HALL.out _ HG.out).2.2.2.2.2.2.2.2.2.2.2.2.2.2.2.2.2.2.2.2.2.2.2.2.1
      go_wp2_with fail
      refine (HTW.out _).mono ?_
      rintro e wt3 ⟨rfl, hl, hgN⟩
      have HLI := Lib.hid hl
      have HO := Lib.hid (HO.out.gro hgN (by simp))
      have HG := Lib.hid (HG.out.trans hgN)
      clear hl hgN HTW q18 q23
      go_wp2_with (at_builtin; refine app_bytes rfl _ _ rfl wb L3 Y3 _ rfl ?c1 ?c2 _ _ _ rfl ?c5 ?c3 ?c4 ?_)
      case c1 => exact HO.out
      case c2 => exact HG.out
      case c3 => exact HLI.out
      case c4 => have := HLEN.out; omega
      case c5 => rw [HY3.out]; rfl
      intro va3 wa3 ho hg
      have HLEN : Hid ((L3 ++ Y3).length ≤ 108) := by have := HLEN.out; have h2 : Y3.length = 2 := (by rw [HY3.out]; rfl); unfold Hid; rw [List.length_append]; omega
      generalize hL : L3 ++ Y3 = L4 at ho HLEN
      have HE3 := Lib.hid hL
      have HO := Lib.hid ho
      have HG := Lib.hid hg
      clear ho hg hL HLI
      have q18 := (HALL.out _ HG.out).2.2.2.2.2.2.2.2.2.2.2.2.2.2.2.2.2.2.2.1
      go_wp2_with fail
      go_ret2
      refine ⟨_, rfl, HGW.out.trans HG.out, ?_⟩
      have h := HO.out.weak (Nat.le_of_lt hlw)
      have h0 := HAL.out
      simp only [Bool.false_eq_true, if_false] at h0
      (try rw [HFE.out] at h0)
      rw [HE.out, ← HY1.out, HE1.out, ← HY2.out, HE2.out, ← HY3.out, HE3.out] at h0
      rw [h0]
      exact h
  · have hs := h8 rfl
    obtain rfl : seq = 0 := hs
    clear h7 h8
    have HFR : Hid (∀ W, Gro none wb W → Calls Tryd.prog 22 #[.agg #[.int .u8 t0, .int .u8 t1, .int .u8 t2, .int .u8 t3, .int .u8 t4, .int .u8 t5], .agg #[.int .u8 f0, .int .u8 f1, .int .u8 f2, .int .u8 f3, .int .u8 f4, .int .u8 f5], .agg #[.int .u8 b0, .int .u8 b1, .int .u8 b2, .int .u8 b3, .int .u8 b4, .int .u8 b5], .int .u8 1] W fun e w' => ∃ v, e = .returned v ∧ Own wb.heap.size w' v (FF 1) ∧ Gro none wb w' ∧ Gro none W w') := fun W k => (HFA.out W 1).mono fun e w' ⟨v, he, hg, ho⟩ => ⟨v, he, ho.weak k.size, k.trans hg, hg⟩
    have HFL := Lib.hid (HFF.out 1)
    generalize hFL : FF 1 = FL at *
    have HFE := Lib.hid hFL
    clear hFL
    go_wp2_with fail
    clear q18 q19 q20 q21 q22 q23 q24
    go_region_held3 (fun w' => Gro none wb w' ∧ w'.cell? ⟨w.heap.size, 0, none⟩ = some (.int .u8 t0) ∧ w'.cell? ⟨w.heap.size, 1, none⟩ = some (.int .u8 t1) ∧ w'.cell? ⟨w.heap.size, 2, none⟩ = some (.int .u8 t2) ∧ w'.cell? ⟨w.heap.size, 3, none⟩ = some (.int .u8 t3) ∧ w'.cell? ⟨w.heap.size, 4, none⟩ = some (.int .u8 t4) ∧ w'.cell? ⟨w.heap.size, 5, none⟩ = some (.int .u8 t5) ∧ w'.cell? ⟨w.heap.size, 6, none⟩ = some (.int .u8 f0) ∧ w'.cell? ⟨w.heap.size, 7, none⟩ = some (.int .u8 f1) ∧ w'.cell? ⟨w.heap.size, 8, none⟩ = some (.int .u8 f2) ∧ w'.cell? ⟨w.heap.size, 9, none⟩ = some (.int .u8 f3) ∧ w'.cell? ⟨w.heap.size, 10, none⟩ = some (.int .u8 f4) ∧ w'.cell? ⟨w.heap.size, 11, none⟩ = some (.int .u8 f5) ∧ w'.cell? ⟨w.heap.size, 12, none⟩ = some (.int .u8 b0) ∧ w'.cell? ⟨w.heap.size, 13, none⟩ = some (.int .u8 b1) ∧ w'.cell? ⟨w.heap.size, 14, none⟩ = some (.int .u8 b2) ∧ w'.cell? ⟨w.heap.size, 15, none⟩ = some (.int .u8 b3) ∧ w'.cell? ⟨w.heap.size, 16, none⟩ = some (.int .u8 b4) ∧ w'.cell? ⟨w.heap.size, 17, none⟩ = some (.int .u8 b5) ∧ w'.cell? ⟨w.heap.size, 18, none⟩ = some (.bool true) ∧ w'.cell? ⟨w.heap.size, 19, none⟩ = some (.int .i64 tok) ∧ w'.cell? ⟨w.heap.size, 20, none⟩ = some (.int .i64 tid) ∧ w'.cell? ⟨w.heap.size, 21, none⟩ = some (.int .i64 size) ∧ w'.cell? ⟨w.heap.size, 22, none⟩ = some (.int .i64 tmo) ∧ w'.cell? ⟨w.heap.size, 23, none⟩ = some (.int .i64 0) ∧ w'.cell? ⟨w.heap.size, 24, none⟩ = some (.int .i64 st)) ((exact HALL.out _ (by repeat (first | assumption | with_reducible exact Gro.refl _ _ | with_reducible refine Gro.drewN ?_ _ | with_reducible refine Gro.drew ?_ | with_reducible refine Gro.alloc ?_ _)))) (first | (go_at_call 22; refine (HFR.out _ (by repeat (first | assumption | with_reducible exact Gro.refl _ _ | with_reducible refine Gro.drewN ?_ _ | with_reducible refine Gro.drew ?_ | with_reducible refine Gro.alloc ?_ _))).mono ?_; rintro e w' ⟨v', rfl, ho, hg, hgW⟩) | (refine step_app (by rfl) _ _ (by rfl) wb FL [tok] _ (by rfl) (by first | assumption | exact Own.gro (by assumption) ((Gro.refl none _).alloc _) (by simp)) (by repeat (first | assumption | with_reducible exact Gro.refl _ _ | with_reducible refine Gro.drewN ?_ _ | with_reducible refine Gro.drew ?_ | with_reducible refine Gro.alloc ?_ _)) _ _ _ (by rfl) (by rfl) (by first | exact lie_one _ _ _ _ rfl (Gro.refl _ _) | exact lie_one _ _ _ _ rfl (Gro.trans (Gro.drew (Gro.refl _ _)) (by assumption))) (by have := HFL.out; simp; omega) ?_; intro v' w' ho hg))
    all_goals
      have HLEN : Hid ((FL ++ [tok]).length ≤ 100) := by have := HFL.out; unfold Hid; simp; omega
      generalize hL : FL ++ [tok] = L0 at ho HLEN
      have HE := Lib.hid hL
      have HO := Lib.hid ho
      have HG := Lib.hid hg
      clear ho hg hL HFR
      have HTW := Lib.hid (fun w => two_any (st) w (by omega) (by omega))
      obtain ⟨Y0, hY⟩ : ∃ Y, Y = twoL (st) := ⟨_, rfl⟩
      rw [← hY] at HTW
      have HY0 := Lib.hid hY
      clear hY
      have q18 := (HALL.out _ HG.out).2.2.2.2.2.2.2.2.2.2.2.2.2.2.2.2.2.2.2.1
      have q24 := (HALL.out _ HG.out).2.2.2.2.2.2.2.2.2.2.2.2.2.2.2.2.2.2.2.2.2.2.2.2.2
      go_wp2_with fail
      refine (HTW.out _).mono ?_
      rintro e wt0 ⟨rfl, hl, hgN⟩
      have HLI := Lib.hid hl
      have HO := Lib.hid (HO.out.gro hgN (by simp))
      have HG := Lib.hid (HG.out.trans hgN)
      clear hl hgN HTW q18 q24
      go_wp2_with (at_builtin; refine app_bytes rfl _ _ rfl wb L0 Y0 _ rfl ?c1 ?c2 _ _ _ rfl ?c5 ?c3 ?c4 ?_)
      case c1 => exact HO.out
      case c2 => exact HG.out
      case c3 => exact HLI.out
      case c4 => have := HLEN.out; omega
      case c5 => rw [HY0.out]; rfl
      intro va0 wa0 ho hg
      have HLEN : Hid ((L0 ++ Y0).length ≤ 102) := by have := HLEN.out; have h2 : Y0.length = 2 := (by rw [HY0.out]; rfl); unfold Hid; rw [List.length_append]; omega
      generalize hL : L0 ++ Y0 = L1 at ho HLEN
      have HE0 := Lib.hid hL
      have HO := Lib.hid ho
      have HG := Lib.hid hg
      clear ho hg hL HLI
      have HTW := Lib.hid (fun w => two_any (2 + tid * 4 + size * 64) w (by omega) (by omega))
      obtain ⟨Y1, hY⟩ : ∃ Y, Y = twoL (2 + tid * 4 + size * 64) := ⟨_, rfl⟩
      rw [← hY] at HTW
      have HY1 := Lib.hid hY
      clear hY
      have q18 := (HALL.out _ HG.out).2.2.2.2.2.2.2.2.2.2.2.2.2.2.2.2.2.2.2.1
      have q20 := (HALL.out _ HG.out).2.2.2.2.2.2.2.2.2.2.2.2.2.2.2.2.2.2.2.2.2.1
      have q21 := (HALL.out _ HG.out).2.2.2.2.2.2.2.2.2.2.2.2.2.2.2.2.2.2.2.2.2.2.1
      go_wp2_with fail
      refine (HTW.out _).mono ?_
      rintro e wt1 ⟨rfl, hl, hgN⟩
      have HLI := Lib.hid hl
      have HO := Lib.hid (HO.out.gro hgN (by simp))
      have HG := Lib.hid (HG.out.trans hgN)
      clear hl hgN HTW q18 q20 q21
      go_wp2_with (at_builtin; refine app_bytes rfl _ _ rfl wb L1 Y1 _ rfl ?c1 ?c2 _ _ _ rfl ?c5 ?c3 ?c4 ?_)
      case c1 => exact HO.out
      case c2 => exact HG.out
      case c3 => exact HLI.out
      case c4 => have := HLEN.out; omega
      case c5 => rw [HY1.out]; rfl
      intro va1 wa1 ho hg
      have HLEN : Hid ((L1 ++ Y1).length ≤ 104) := by have := HLEN.out; have h2 : Y1.length = 2 := (by rw [HY1.out]; rfl); unfold Hid; rw [List.length_append]; omega
      generalize hL : L1 ++ Y1 = L2 at ho HLEN
      have HE1 := Lib.hid hL
      have HO := Lib.hid ho
      have HG := Lib.hid hg
      clear ho hg hL HLI
      have HTW := Lib.hid (fun w => two_any (tmo) w (by omega) (by omega))
      obtain ⟨Y2, hY⟩ : ∃ Y, Y = twoL (tmo) := ⟨_, rfl⟩
      rw [← hY] at HTW
      have HY2 := Lib.hid hY
      clear hY
      have q22 := (HALL.out _ HG.out).2.2.2.2.2.2.2.2.2.2.2.2.2.2.2.2.2.2.2.2.2.2.2.1
      go_wp2_with fail
      refine (HTW.out _).mono ?_
      rintro e wt2 ⟨rfl, hl, hgN⟩
      have HLI := Lib.hid hl
      have HO := Lib.hid (HO.out.gro hgN (by simp))
      have HG := Lib.hid (HG.out.trans hgN)
      clear hl hgN HTW q22
      go_wp2_with (at_builtin; refine app_bytes rfl _ _ rfl wb L2 Y2 _ rfl ?c1 ?c2 _ _ _ rfl ?c5 ?c3 ?c4 ?_)
      case c1 => exact HO.out
      case c2 => exact HG.out
      case c3 => exact HLI.out
      case c4 => have := HLEN.out; omega
      case c5 => rw [HY2.out]; rfl
      intro va2 wa2 ho hg
      have HLEN : Hid ((L2 ++ Y2).length ≤ 106) := by have := HLEN.out; have h2 : Y2.length = 2 := (by rw [HY2.out]; rfl); unfold Hid; rw [List.length_append]; omega
      generalize hL : L2 ++ Y2 = L3 at ho HLEN
      have HE2 := Lib.hid hL
      have HO := Lib.hid ho
      have HG := Lib.hid hg
      clear ho hg hL HLI
      have q18 := (HALL.out _ HG.out).2.2.2.2.2.2.2.2.2.2.2.2.2.2.2.2.2.2.2.1
      go_wp2_with fail
      go_ret2
      refine ⟨_, rfl, HGW.out.trans HG.out, ?_⟩
      have h := HO.out.weak (Nat.le_of_lt hlw)
      have h0 := HAL.out
      simp only [if_true] at h0
      (try rw [HFE.out] at h0)
      rw [HE.out, ← HY0.out, HE0.out, ← HY1.out, HE1.out, ← HY2.out, HE2.out] at h0
      rw [h0]
      exact h
end Go.Proofs.YtflckkeaakmojaaDoor
