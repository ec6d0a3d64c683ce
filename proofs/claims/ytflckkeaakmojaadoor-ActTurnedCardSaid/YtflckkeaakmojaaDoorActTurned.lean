/-
  THE WALK OF ActTurned: a session's frame with one bit turned, or cut, is another one, or none; it answers true. No condition but the fourteen sentinels' own ('Sent') and that the addresses are bytes.
-/
import Derived.Test.YtflckkeaakmojaaDoorActRB
import Derived.Test.YtflckkeaakmojaaDoorActSame
import Derived.Test.YtflckkeaakmojaaDoorSent
import Derived.Test.YtflckkeaakmojaaDoorFrame
import Derived.Laws.OwnMore
namespace Go.Proofs.YtflckkeaakmojaaDoor
open Go.RowKit

/-- The load of a whole row, in an operation that hangs on a test that came out so. -/
theorem load_row_g {P : Program} {ops : Array Oper} {rest : List Oper} {op : Oper} {a : Act} {w : World} {Q : Exit → Act → World → Prop} (hw : Region.wanted op (yielded ops a.tmps) = true) (ty : TypeId) (x : Operand) (ho : op.op = .load ty x)
    (b : Nat) (hx : a.eval x = .pointer (some ⟨b, 0, none⟩)) (F : Array Value) (t : TypeId) (hb : w.heap[b]? = some (.cells F t (0, 0))) (d : TypeDesc) (hu : P.underlying ty = some d) (hd : d.isRow = true)
    (hi : (P.info? ty).map (·.size) = some F.size) (h : wpList P ops Q rest (a.put op.dst (.agg F)) w) : wpList P ops Q (op :: rest) a w := by
  unfold wpList
  rw [if_pos hw]
  exact .inl (wp_load_mid ty x ho b 0 hx F.toList d (fun j v hv => by rw [Nat.zero_add, cell_of_row w b j F t (0, 0) hb]; simpa using hv) hu hd (by simpa using hi) (by simpa using h))
theorem errV_pos (A : Nat → Addr) {k : Nat} (h : k ≠ 0) : ∃ a, errV A k = .iface 89 (.pointer (some a)) := by
  cases k with
  | zero => exact absurd rfl h
  | succ n => exact ⟨_, rfl⟩
set_option maxHeartbeats 4000000 in
set_option maxRecDepth 100000 in
theorem readAdd_bad (p : Option Addr) (cap : Nat) (bs : List Int) (B : Nat) (A : Nat → Addr) (w : World) (hs : Four B w A) (hB : B ≤ w.heap.size) (h : Lie w p bs) (hb : Bytes bs) (hr : longA bs 33 (kAdd bs) ≠ 0) :
    Calls Tryd.prog 12 #[.slice p bs.length cap] w fun e w' => e = .returned (.tuple #[addV adZ adZ adZ false 0 0 0 0 0 0, errV A (longA bs 33 (kAdd bs))]) ∧ Gro none w w' := by
  have HL := Lib.hid (fun w' g k hg => long_add p cap bs B A w hs h hb w' g k hB hg)
  obtain ⟨a, ha⟩ := errV_pos A hr
  rw [ha] at HL ⊢
  generalize bs.length = m at *
  clear hr ha h hs hB hb
  unfold addV adZ
  simp only
  go_enter Tryd.func12, Tryd.ntmps12
  go_wp2_with fail
  have hg1 : Gro none w ((w.alloc (.cells #[.int .u8 0, .int .u8 0, .int .u8 0, .int .u8 0, .int .u8 0, .int .u8 0, .int .u8 0, .int .u8 0, .int .u8 0, .int .u8 0, .int .u8 0, .int .u8 0, .int .u8 0, .int .u8 0, .int .u8 0, .int .u8 0, .int .u8 0, .int .u8 0, .bool false, .int .i64 0, .int .i64 0, .int .i64 0, .int .i64 0, .int .i64 0, .int .i64 0] 27)).alloc (.cells #[.int .u8 0, .int .u8 1] 5)) := ((Gro.refl _ _).alloc _).alloc _
  have hz : ((w.alloc (.cells #[.int .u8 0, .int .u8 0, .int .u8 0, .int .u8 0, .int .u8 0, .int .u8 0, .int .u8 0, .int .u8 0, .int .u8 0, .int .u8 0, .int .u8 0, .int .u8 0, .int .u8 0, .int .u8 0, .int .u8 0, .int .u8 0, .int .u8 0, .int .u8 0, .bool false, .int .i64 0, .int .i64 0, .int .i64 0, .int .i64 0, .int .i64 0, .int .i64 0] 27)).alloc (.cells #[.int .u8 0, .int .u8 1] 5)).heap[w.heap.size]? = some (.cells #[.int .u8 0, .int .u8 0, .int .u8 0, .int .u8 0, .int .u8 0, .int .u8 0, .int .u8 0, .int .u8 0, .int .u8 0, .int .u8 0, .int .u8 0, .int .u8 0, .int .u8 0, .int .u8 0, .int .u8 0, .int .u8 0, .int .u8 0, .int .u8 0, .bool false, .int .i64 0, .int .i64 0, .int .i64 0, .int .i64 0, .int .i64 0, .int .i64 0] 27 (0, 0)) := (Below.heap_alloc _ _ _ (by simp)).trans (heap_alloc_new w _)
  have hwh : ((w.alloc (.cells #[.int .u8 0, .int .u8 0, .int .u8 0, .int .u8 0, .int .u8 0, .int .u8 0, .int .u8 0, .int .u8 0, .int .u8 0, .int .u8 0, .int .u8 0, .int .u8 0, .int .u8 0, .int .u8 0, .int .u8 0, .int .u8 0, .int .u8 0, .int .u8 0, .bool false, .int .i64 0, .int .i64 0, .int .i64 0, .int .i64 0, .int .i64 0, .int .i64 0] 27)).alloc (.cells #[.int .u8 0, .int .u8 1] 5)).heap[w.heap.size + 1]? = some (.cells #[.int .u8 0, .int .u8 1] 5 (0, 0)) := by
    have h := heap_alloc_new (w.alloc (.cells #[.int .u8 0, .int .u8 0, .int .u8 0, .int .u8 0, .int .u8 0, .int .u8 0, .int .u8 0, .int .u8 0, .int .u8 0, .int .u8 0, .int .u8 0, .int .u8 0, .int .u8 0, .int .u8 0, .int .u8 0, .int .u8 0, .int .u8 0, .int .u8 0, .bool false, .int .i64 0, .int .i64 0, .int .i64 0, .int .i64 0, .int .i64 0, .int .i64 0] 27)) (.cells #[.int .u8 0, .int .u8 1] 5)
    simp only [show ∀ (w : World) (o : Obj), (w.alloc o).heap.size = w.heap.size + 1 from fun w o => by simp] at h
    exact h
  generalize (w.alloc (.cells #[.int .u8 0, .int .u8 0, .int .u8 0, .int .u8 0, .int .u8 0, .int .u8 0, .int .u8 0, .int .u8 0, .int .u8 0, .int .u8 0, .int .u8 0, .int .u8 0, .int .u8 0, .int .u8 0, .int .u8 0, .int .u8 0, .int .u8 0, .int .u8 0, .bool false, .int .i64 0, .int .i64 0, .int .i64 0, .int .i64 0, .int .i64 0, .int .i64 0] 27)).alloc (.cells #[.int .u8 0, .int .u8 1] 5) = w2 at *
  refine (HL.out w2 _ hg1 hwh).mono ?_
  rintro e w' ⟨rfl, rfl⟩
  have HG1 := Lib.hid hg1
  clear hg1 hwh HL
  go_wp2_with (refine store_row rfl 27 _ _ rfl w.heap.size rfl #[.int .u8 0, .int .u8 0, .int .u8 0, .int .u8 0, .int .u8 0, .int .u8 0, .int .u8 0, .int .u8 0, .int .u8 0, .int .u8 0, .int .u8 0, .int .u8 0, .int .u8 0, .int .u8 0, .int .u8 0, .int .u8 0, .int .u8 0, .int .u8 0, .bool false, .int .i64 0, .int .i64 0, .int .i64 0, .int .i64 0, .int .i64 0, .int .i64 0] (by rfl) #[.int .u8 0, .int .u8 0, .int .u8 0, .int .u8 0, .int .u8 0, .int .u8 0, .int .u8 0, .int .u8 0, .int .u8 0, .int .u8 0, .int .u8 0, .int .u8 0, .int .u8 0, .int .u8 0, .int .u8 0, .int .u8 0, .int .u8 0, .int .u8 0, .bool false, .int .i64 0, .int .i64 0, .int .i64 0, .int .i64 0, .int .i64 0, .int .i64 0] 27 hz rfl (by kernel_rfl) (by simp [Value.oneCell']) ?_)
  intro w6 hg6 hr6
  have HF := Lib.hid (HG1.out.new_row hg6 (Nat.le_refl _))
  have HR6 := Lib.hid hr6
  clear hg6 hr6 hz
  (try go_wp2_with fail)
  (try simp only [Exit.inBlock, Exit.then])
  refine bodyPost_ret (res_add rfl rfl HR6.out (by kernel_rfl)) rfl ?_
  exact ⟨rfl, HF.out⟩
/-- WHAT ANY BYTES ARE AS AN ADD: some Add and an error's number; where there is none, the Add has just these bytes. -/
theorem readAdd_out (p : Option Addr) (cap : Nat) (bs : List Int) (B : Nat) (A : Nat → Addr) (w : World) (hs : Four B w A) (hB : B ≤ w.heap.size) (hcap : bs.length ≤ cap) (h : Lie w p bs) (hb : Bytes bs) :
    ∃ (ta fr sa : Ad) (ans : Bool) (tok tid size tmo seq st : Int) (k : Nat), (k = 0 → addL ta fr sa ans tok tid size tmo seq st = bs) ∧ (longA bs 33 (kAdd bs) = 1 → k = 1) ∧
      Calls Tryd.prog 12 #[.slice p bs.length cap] w fun e w' => e = .returned (.tuple #[addV ta fr sa ans tok tid size tmo seq st, errV A k]) ∧ Gro none w w' := by
  by_cases hr : longA bs 33 (kAdd bs) = 0
  · obtain ⟨hlen, hk⟩ := longA_zero hr (by decide)
    obtain ⟨b, o, rfl, -⟩ := h 0 (by omega)
    have h1 : ¬ longA bs 33 (kAdd bs) = 1 := by omega
    have key : Calls Tryd.prog 12 #[.slice (some ⟨b, o, none⟩) bs.length cap] w fun e w' => (isAdd bs → e = .returned (.tuple #[addOf bs, .nilIface])) ∧ (¬ isAdd bs → e = .returned (.tuple #[addV adZ adZ adZ false 0 0 0 0 0 0, errV A 2])) ∧ Gro none w w' := by
      rcases hk.2.2 with hy | hy
      · exact readAdd_asks b o cap bs B A w hs hB hcap h hb hr hy
      · exact readAdd_ans b o cap bs B A w hs hB hcap h hb hr hy
    by_cases hi : isAdd bs
    · have hi' := hi
      unfold isAdd at hi'
      by_cases hy : bs.getD 25 0 = 1
      · rw [if_pos hy] at hi'
        refine ⟨_, _, _, _, _, _, _, _, _, _, 0, fun _ => hi'.2, fun h => absurd h h1, key.mono fun e w' ⟨he, _, hg⟩ => ⟨?_, hg⟩⟩
        rw [he hi]
        unfold addOf
        rw [if_pos hy]
        rfl
      · rw [if_neg hy] at hi'
        refine ⟨_, _, _, _, _, _, _, _, _, _, 0, fun _ => hi'.2, fun h => absurd h h1, key.mono fun e w' ⟨he, _, hg⟩ => ⟨?_, hg⟩⟩
        rw [he hi]
        unfold addOf
        rw [if_neg hy]
        rfl
    · exact ⟨adZ, adZ, adZ, false, 0, 0, 0, 0, 0, 0, 2, fun h => (by cases h), fun h => absurd h h1, key.mono fun e w' ⟨_, he, hg⟩ => ⟨he hi, hg⟩⟩
  · exact ⟨adZ, adZ, adZ, false, 0, 0, 0, 0, 0, 0, _, fun h => absurd h hr, fun h => h, readAdd_bad p cap bs B A w hs hB h hb hr⟩
theorem add_len (ta fr bs : Ad) (ans : Bool) (tok tid size tmo seq st : Int) : (addL ta fr bs ans tok tid size tmo seq st).length = 33 := by cases ans <;> simp [addL, frontL, adL, twoL]
theorem del_len (ta fr bs : Ad) (mine : Bool) (tid reason : Int) : (delL ta fr bs mine tid reason).length = 30 := by simp [delL, frontL, adL, twoL]
theorem add_at0 (ta fr bs : Ad) (ans : Bool) (tok tid size tmo seq st : Int) : (addL ta fr bs ans tok tid size tmo seq st).getD 0 0 = 208 ∧ (addL ta fr bs ans tok tid size tmo seq st).getD 24 0 = 3 ∧ ((addL ta fr bs ans tok tid size tmo seq st).getD 25 0 = 0 ∨ (addL ta fr bs ans tok tid size tmo seq st).getD 25 0 = 1) := by
  cases ans
  · exact ⟨rfl, rfl, .inl rfl⟩
  · exact ⟨rfl, rfl, .inr rfl⟩
theorem long_cut (L : List Int) (c : Nat) (hl : L.length = 33) (hc : c < 33) (hk : kAdd L) : longA (L.take c) 33 (kAdd (L.take c)) = 1 := by
  have hlen : (L.take c).length = c := by rw [List.length_take]; omega
  unfold longA
  rw [hlen]
  by_cases h : c < 26
  · rw [if_pos h]
  · rw [if_neg h]
    have hg : ∀ i, i < 26 → (L.take c).getD i 0 = L.getD i 0 := fun i hi => by
      rw [List.getD_eq_getElem?_getD, List.getD_eq_getElem?_getD, List.getElem?_take, if_pos (by omega)]
    have hk' : kAdd (L.take c) := by
      unfold kAdd at *
      rw [hg 0 (by decide), hg 24 (by decide), hg 25 (by decide)]
      exact hk
    rw [if_neg (fun h' => h' hk'), if_pos hc]
/-- What came back: a slice of its own with the bytes X, and u. -/
def Wrown (w w' : World) (e : Ending) (X : List Int) (u : Value) : Prop := ∃ p cap, e = .returned (.tuple #[.slice p X.length cap, u]) ∧ Gro none w w' ∧ Own w.heap.size w' (.slice p X.length cap) X
theorem Own.wrown {w w' : World} {v u : Value} {X : List Int} (h : Own w.heap.size w' v X) (k : Gro none w w') : Wrown w w' (.returned (.tuple #[v, u])) X u := by
  obtain ⟨p, cap, rfl, _, _, _⟩ := h.lie
  exact ⟨p, cap, rfl, k, h⟩
set_option maxRecDepth 100000 in
theorem first5_any (w : World) : Calls Tryd.prog 7 #[] w fun e w' => e = .returned (.bool true) ∧ Gro none w w' := by
  have HA := Lib.hid (fun w => (add_any adZ adZ adZ false 0 0 0 0 0 0 w (by decide)).mono fun e w' ⟨v, he, hg, ho⟩ => (he ▸ ho.wrown hg : Wrown w w' e _ _))
  have HD := Lib.hid (fun w => (del_any adZ adZ adZ false 0 0 w (by decide)).mono fun e w' ⟨v, he, hg, ho⟩ => (he ▸ ho.wrown hg : Wrown w w' e _ _))
  have h1 := add_len adZ adZ adZ false 0 0 0 0 0 0
  have h2 := del_len adZ adZ adZ false 0 0
  generalize addL adZ adZ adZ false 0 0 0 0 0 0 = X1 at *
  generalize delL adZ adZ adZ false 0 0 = X2 at *
  have HN := Lib.hid (And.intro h1 h2)
  clear h1 h2
  unfold addV adZ at HA
  unfold delV adZ at HD
  simp only at HA HD
  go_enter Tryd.func7, Tryd.ntmps7
  go_wp2_with fail
  refine (HA.out _).mono ?_
  rintro e w1 ⟨p, c, rfl, hg1, -⟩
  rw [HN.out.1]
  go_wp2_with fail
  refine (HD.out _).mono ?_
  rintro e w2 ⟨q, d, rfl, hg2, -⟩
  rw [HN.out.2]
  have HG := Lib.hid (hg1.trans hg2)
  clear hg1 hg2 HA HD
  go_wp2_with fail
  go_ret
  exact ⟨rfl, HG.out⟩
theorem xor_all : ∀ n : Fin 256, ∀ j : Fin 8, n.val ^^^ 2 ^ j.val ≠ n.val ∧ n.val ^^^ 2 ^ j.val < 256 := by decide +kernel
theorem xor_turn (y : Int) (j : Nat) (h : 0 ≤ y ∧ y < 256) (hj : j < 8) : (0 ≤ bits .xor .u8 y (2 ^ j % 256) ∧ bits .xor .u8 y (2 ^ j % 256) < 256) ∧ bits .xor .u8 y (2 ^ j % 256) ≠ y := by
  obtain ⟨n, rfl⟩ := Int.eq_ofNat_of_zero_le h.1
  have hp : 2 ^ j < 256 := by
    rcases (show j = 0 ∨ j = 1 ∨ j = 2 ∨ j = 3 ∨ j = 4 ∨ j = 5 ∨ j = 6 ∨ j = 7 from by omega) with rfl | rfl | rfl | rfl | rfl | rfl | rfl | rfl <;> decide
  have e : ((2 : Int) ^ j % 256) = ((2 ^ j : Nat) : Int) := by
    have h1 : (2 : Int) ^ j = ((2 ^ j : Nat) : Int) := (Int.natCast_pow 2 j).symm
    rw [h1]
    exact Int.emod_eq_of_lt (Int.natCast_nonneg _) (Int.ofNat_lt.2 hp)
  rw [e, u8_xor_nat n (2 ^ j) (by omega) hp]
  have := xor_all ⟨n, by omega⟩ ⟨j, hj⟩
  simp only at this
  omega

set_option maxHeartbeats 8000000 in
set_option maxRecDepth 100000 in
theorem turned_any (ta fr bs : Ad) (ans : Bool) (tok tid size tmo seq st bit cut : Int) (A : Nat → Addr) (W : World) (hs : Sent W.heap.size W A) (hta : ∀ x ∈ adL ta, 0 ≤ x ∧ x < 256) (hfr : ∀ x ∈ adL fr, 0 ≤ x ∧ x < 256) (hbs : ∀ x ∈ adL bs, 0 ≤ x ∧ x < 256) :
    Calls Tryd.prog 4 #[addV ta fr bs ans tok tid size tmo seq st, .int .i64 bit, .int .i64 cut] W fun e w' => e = .returned (.bool true) ∧ Far W.heap.size W w' := by
  obtain ⟨q, hq⟩ := Int.eq_ofNat_of_zero_le (Int.emod_nonneg bit (show (264 : Int) ≠ 0 by decide))
  have hq264 : q < 264 := by have := Int.emod_lt_of_pos bit (show (0 : Int) < 264 by decide); omega
  have HQ := Lib.hid (fun w => number_at bit 264 q w hq (by decide) (by decide))
  obtain ⟨c, hc⟩ := Int.eq_ofNat_of_zero_le (Int.emod_nonneg cut (show (33 : Int) ≠ 0 by decide))
  have hc33 : c < 33 := by have := Int.emod_lt_of_pos cut (show (0 : Int) < 33 by decide); omega
  have HCUT := Lib.hid (fun w => number_at cut 33 c w hc (by decide) (by decide))
  clear hq hc
  have HS := Lib.hid (fun w' (k : Gro none W w') => (show Sent W.heap.size w' A from hs.far fun i hi => k.block i hi (by simp)))
  have HI1 : Hid (∀ w, Gro none W w → Calls Tryd.prog 11 #[errV A 1, .int .i64 101] w fun e w' => e = .returned (.bool true) ∧ Gro none w w') := fun w k => (is_any W.heap.size w A (hs.far fun i hi => k.block i hi (by simp)) k.size 1 (by decide) (codeOf 1)).mono fun e w' ⟨he, hg⟩ => ⟨by rw [he, decide_eq_true rfl], hg⟩
  have HBIG := Lib.hid hs.big
  have HADS := Lib.hid (And.intro hta (And.intro hfr hbs))
  have HAB : Hid (¬ okA ans tok tid size tmo seq st → ∀ w', Gro none W w' → Calls Tryd.prog 9 #[addV ta fr bs ans tok tid size tmo seq st] w' fun e w'' => e = .returned (.tuple #[.slice none 0 0, .iface 89 (.pointer (some (A 2)))]) ∧ Gro none w' w'') := fun hok w' k =>
    add_bad ta fr bs ans tok tid size tmo seq st _ w' hok (HS.out w' k).c2 (by have := HBIG.out; have := k.size; omega)
  have HAO : Hid (okA ans tok tid size tmo seq st → ∀ w', Calls Tryd.prog 9 #[addV ta fr bs ans tok tid size tmo seq st] w' fun e w'' => ∃ v, e = .returned (.tuple #[v, .nilIface]) ∧ Gro none w' w'' ∧ Own w'.heap.size w'' v (addL ta fr bs ans tok tid size tmo seq st)) := fun hok w' => add_any ta fr bs ans tok tid size tmo seq st w' hok
  clear hs hta hfr hbs
  obtain ⟨t0, t1, t2, t3, t4, t5⟩ := ta
  obtain ⟨f0, f1, f2, f3, f4, f5⟩ := fr
  obtain ⟨b0, b1, b2, b3, b4, b5⟩ := bs
  unfold addV at *
  simp only at *
  go_enter Tryd.func4, Tryd.ntmps4
  go_wp2_with fail
  have hgb : Gro none W (W.alloc (.cells #[.int .u8 t0, .int .u8 t1, .int .u8 t2, .int .u8 t3, .int .u8 t4, .int .u8 t5, .int .u8 f0, .int .u8 f1, .int .u8 f2, .int .u8 f3, .int .u8 f4, .int .u8 f5, .int .u8 b0, .int .u8 b1, .int .u8 b2, .int .u8 b3, .int .u8 b4, .int .u8 b5, .bool ans, .int .i64 tok, .int .i64 tid, .int .i64 size, .int .i64 tmo, .int .i64 seq, .int .i64 st] 27)) := (Gro.refl _ _).alloc _
  have hbx : (W.alloc (.cells #[.int .u8 t0, .int .u8 t1, .int .u8 t2, .int .u8 t3, .int .u8 t4, .int .u8 t5, .int .u8 f0, .int .u8 f1, .int .u8 f2, .int .u8 f3, .int .u8 f4, .int .u8 f5, .int .u8 b0, .int .u8 b1, .int .u8 b2, .int .u8 b3, .int .u8 b4, .int .u8 b5, .bool ans, .int .i64 tok, .int .i64 tid, .int .i64 size, .int .i64 tmo, .int .i64 seq, .int .i64 st] 27)).heap[W.heap.size]? = some (.cells #[.int .u8 t0, .int .u8 t1, .int .u8 t2, .int .u8 t3, .int .u8 t4, .int .u8 t5, .int .u8 f0, .int .u8 f1, .int .u8 f2, .int .u8 f3, .int .u8 f4, .int .u8 f5, .int .u8 b0, .int .u8 b1, .int .u8 b2, .int .u8 b3, .int .u8 b4, .int .u8 b5, .bool ans, .int .i64 tok, .int .i64 tid, .int .i64 size, .int .i64 tmo, .int .i64 seq, .int .i64 st] 27 (0, 0)) := heap_alloc_new W _
  generalize W.alloc (.cells #[.int .u8 t0, .int .u8 t1, .int .u8 t2, .int .u8 t3, .int .u8 t4, .int .u8 t5, .int .u8 f0, .int .u8 f1, .int .u8 f2, .int .u8 f3, .int .u8 f4, .int .u8 f5, .int .u8 b0, .int .u8 b1, .int .u8 b2, .int .u8 b3, .int .u8 b4, .int .u8 b5, .bool ans, .int .i64 tok, .int .i64 tid, .int .i64 size, .int .i64 tmo, .int .i64 seq, .int .i64 st] 27) = wb at *
  have HBX := Lib.hid (fun w' (k : Gro none wb w') => (k.block W.heap.size (blk_lt hbx) (by simp)).trans hbx)
  have HG := Lib.hid hgb
  clear hgb hbx
  refine (first5_any wb).mono ?_
  rintro e w1 ⟨rfl, hg1⟩
  have HG1 := Lib.hid hg1
  have hb1 := HBX.out _ hg1
  clear hg1
  go_wp2_with (refine load_row rfl _ _ rfl _ rfl _ _ hb1 _ Tryd.underlying27 rfl (by kernel_rfl) ?_)
  clear hb1
  by_cases hok : okA ans tok tid size tmo seq st
  · go_wp2_with fail
    refine (HAO.out hok w1).mono ?_
    rintro e w2 ⟨v, rfl, hg2, ho2⟩
    clear HAB HAO
    have hlen := add_len ⟨t0, t1, t2, t3, t4, t5⟩ ⟨f0, f1, f2, f3, f4, f5⟩ ⟨b0, b1, b2, b3, b4, b5⟩ ans tok tid size tmo seq st
    have hat := add_at0 ⟨t0, t1, t2, t3, t4, t5⟩ ⟨f0, f1, f2, f3, f4, f5⟩ ⟨b0, b1, b2, b3, b4, b5⟩ ans tok tid size tmo seq st
    have hby : Bytes (addL ⟨t0, t1, t2, t3, t4, t5⟩ ⟨f0, f1, f2, f3, f4, f5⟩ ⟨b0, b1, b2, b3, b4, b5⟩ ans tok tid size tmo seq st) := by
      intro i
      rcases Nat.lt_or_ge i 33 with hi | hi
      · have hm : (addL ⟨t0, t1, t2, t3, t4, t5⟩ ⟨f0, f1, f2, f3, f4, f5⟩ ⟨b0, b1, b2, b3, b4, b5⟩ ans tok tid size tmo seq st).getD i 0 ∈ addL ⟨t0, t1, t2, t3, t4, t5⟩ ⟨f0, f1, f2, f3, f4, f5⟩ ⟨b0, b1, b2, b3, b4, b5⟩ ans tok tid size tmo seq st := by
          rw [List.getD_eq_getElem?_getD, List.getElem?_eq_getElem (by omega)]
          exact List.getElem_mem _
        exact add_mem hok HADS.out.1 HADS.out.2.1 HADS.out.2.2 _ hm
      · rw [List.getD_eq_getElem?_getD, List.getElem?_eq_none (by omega)]
        exact ⟨by decide, by decide⟩
    generalize hL : addL ⟨t0, t1, t2, t3, t4, t5⟩ ⟨f0, f1, f2, f3, f4, f5⟩ ⟨b0, b1, b2, b3, b4, b5⟩ ans tok tid size tmo seq st = L at *
    have HL := Lib.hid hL
    clear hL hok
    have HG2 := Lib.hid (HG1.out.trans hg2)
    obtain ⟨g, cap, rfl⟩ : ∃ g cap, v = .slice (some ⟨g, 0, none⟩) 33 cap := by
      have HO := ho2
      unfold Own at HO
      rw [hlen] at HO
      rcases HO.2 with ⟨_, h0⟩ | ⟨g, cap, _, rfl, _⟩
      · omega
      · exact ⟨g, cap, rfl⟩
    have HO2 := Lib.hid ho2
    have HBY := Lib.hid hby
    have HLN := Lib.hid hlen
    have HAT := Lib.hid hat
    have hgB : w1.heap.size ≤ g := by
      have HO := ho2
      unfold Own at HO
      rw [hlen] at HO
      rcases HO.2 with ⟨h, _⟩ | ⟨g', cap', _, h, hb, _⟩
      · cases h
      · cases h; exact hb
    have hcap : 33 ≤ cap := by
      obtain ⟨p', cap', e', hcap, -, -⟩ := ho2.lie
      rw [hlen] at e' hcap
      injection e' with e1 e2 e3
      subst e3
      exact hcap
    have hli : Lie w2 (some ⟨g, 0, none⟩) L := by
      obtain ⟨p', cap', e', -, hli, -⟩ := ho2.lie
      injection e' with e1 e2 e3
      subst e1
      exact hli
    clear hg2 ho2 hby hlen hat
    go_wp2_with fail
    refine (HCUT.out _).mono ?_
    rintro e w' ⟨rfl, rfl⟩
    -- the cut
    have hcl : (L.take c).length = c := by rw [List.length_take, HLN.out]; omega
    have hbyc : Bytes (L.take c) := fun i => by
      rcases Nat.lt_or_ge i c with hi | hi
      · rw [List.getD_eq_getElem?_getD, List.getElem?_take, if_pos hi, ← List.getD_eq_getElem?_getD]
        exact HBY.out i
      · rw [List.getD_eq_getElem?_getD, List.getElem?_eq_none (by rw [hcl]; exact hi)]
        exact ⟨by decide, by decide⟩
    have hlic : Lie w2 (some ⟨g, 0, none⟩) (L.take c) := by
      intro k hk
      rw [hcl] at hk
      obtain ⟨b', o', e, hcc⟩ := hli k (by rw [HLN.out]; omega)
      refine ⟨b', o', e, ?_⟩
      rw [hcc, List.getD_eq_getElem?_getD, List.getD_eq_getElem?_getD, List.getElem?_take, if_pos hk]
    obtain ⟨ca, cf, cs, can, ck, ci, cz, cm, cq, ct, kc, -, hk1, HRC⟩ := readAdd_out (some ⟨g, 0, none⟩) cap (L.take c) W.heap.size A w2 (HS.out w2 (HG.out.trans HG2.out)).four (HG.out.trans HG2.out).size (by rw [hcl]; omega) hlic hbyc
    obtain rfl := hk1 (long_cut L c HLN.out hc33 HAT.out)
    rw [hcl] at HRC
    have HRC := Lib.hid HRC
    clear hk1 hlic hbyc hcl
    obtain ⟨x0, x1, x2, x3, x4, x5⟩ := ca
    obtain ⟨y0, y1, y2, y3, y4, y5⟩ := cf
    obtain ⟨z0, z1, z2, z3, z4, z5⟩ := cs
    have ic0 : (0 : Int) ≤ (c : Int) := by omega
    have ic1 : (c : Int) ≤ 33 := by omega
    have ic2 : (c : Int) ≤ (cap : Int) := by omega
    have ic3 : c ≤ cap := by omega
    have ic4 : c ≤ 33 := by omega
    unfold addV at HRC
    simp only at HRC
    generalize hu1 : errV A 1 = u1 at *
    clear hu1
    go_wp2_with fail
    refine HRC.out.mono ?_
    rintro e w3 ⟨rfl, hg3⟩
    have HO3 := Lib.hid (HO2.out.gro hg3 (by simp))
    have HG3 := Lib.hid (HG2.out.trans hg3)
    clear hg3 HRC HO2 hli
    go_wp2_with (refine alloc_row rfl 27 rfl 10 rfl #[.int .u8 0, .int .u8 0, .int .u8 0, .int .u8 0, .int .u8 0, .int .u8 0, .int .u8 0, .int .u8 0, .int .u8 0, .int .u8 0, .int .u8 0, .int .u8 0, .int .u8 0, .int .u8 0, .int .u8 0, .int .u8 0, .int .u8 0, .int .u8 0, .bool false, .int .i64 0, .int .i64 0, .int .i64 0, .int .i64 0, .int .i64 0, .int .i64 0] 27 add_run rfl (.tmp 37) rfl (by first | (simp; done) | (simp [Act.put]; done)) #[.int .u8 x0, .int .u8 x1, .int .u8 x2, .int .u8 x3, .int .u8 x4, .int .u8 x5, .int .u8 y0, .int .u8 y1, .int .u8 y2, .int .u8 y3, .int .u8 y4, .int .u8 y5, .int .u8 z0, .int .u8 z1, .int .u8 z2, .int .u8 z3, .int .u8 z4, .int .u8 z5, .bool can, .int .i64 ck, .int .i64 ci, .int .i64 cz, .int .i64 cm, .int .i64 cq, .int .i64 ct] (by rfl) rfl (by kernel_rfl) (by simp [Value.oneCell']) ?_)
    intro w4 hg4 _
    have HO4 := Lib.hid (HO3.out.gro hg4 (by simp))
    have HG4 := Lib.hid (HG3.out.trans hg4)
    clear hg4 HO3
    go_wp2_with fail
    refine (HQ.out _).mono ?_
    rintro e w' ⟨rfl, rfl⟩
    have HO := HO4.out
    unfold Own at HO
    rw [HLN.out] at HO
    have hc := HO.cellAt (q / 8) (by omega)
    have hf := HO.frozenAt (q / 8)
    have HSTO := Lib.hid (fun u => HO.stored (q / 8) u)
    have hl2 : L[q / 8]? = some (L.getD (q / 8) 0) := by
      rw [List.getD_eq_getElem?_getD, List.getElem?_eq_getElem (by have := HLN.out; omega)]; rfl
    rw [List.getElem?_map, hl2] at hc
    simp only [Option.map_some] at hc
    have HY := Lib.hid (HBY.out (q / 8))
    generalize hy : L.getD (q / 8) 0 = y at *
    have HYE := Lib.hid hy
    have i0 : q / 8 < 33 := by omega
    clear hy hl2 HO HO4 ic0 ic1 ic2 ic3 ic4
    go_wp2_with fail
    have hv := xor_turn y (q % 8) HY.out (by omega)
    generalize bits .xor .u8 y (2 ^ (q % 8) % 256) = u at *
    have hOL : Own w1.heap.size (w4.setCell ⟨g, q / 8, none⟩ (.int .u8 u)) (.slice (some ⟨g, 0, none⟩) 33 cap) (L.set (q / 8) u) := by
      have h := (HSTO.out (.int .u8 u)).1
      rw [← List.map_set] at h
      unfold Own
      rw [List.length_set, HLN.out]
      exact h
    have hne : L.set (q / 8) u ≠ L := by
      intro e
      have h1 : (L.set (q / 8) u).getD (q / 8) 0 = L.getD (q / 8) 0 := by rw [e]
      rw [HYE.out, List.getD_eq_getElem?_getD, List.getElem?_set_self (by rw [HLN.out]; exact i0)] at h1
      exact hv.2 h1
    have hby2 : Bytes (L.set (q / 8) u) := by
      intro k
      by_cases hk : k = q / 8
      · subst hk
        rw [List.getD_eq_getElem?_getD, List.getElem?_set_self (by rw [HLN.out]; exact i0)]
        exact hv.1
      · rw [List.getD_eq_getElem?_getD, List.getElem?_set_ne (Ne.symm hk), ← List.getD_eq_getElem?_getD]
        exact HBY.out k
    have hg5 : Gro none wb (w4.setCell ⟨g, q / 8, none⟩ (.int .u8 u)) := Gro.setNew HG4.out (p := ⟨g, q / 8, none⟩) (Nat.le_trans HG1.out.size hgB) _
    have hlen2 : (L.set (q / 8) u).length = 33 := by rw [List.length_set, HLN.out]
    have hli2 : Lie (w4.setCell ⟨g, q / 8, none⟩ (.int .u8 u)) (some ⟨g, 0, none⟩) (L.set (q / 8) u) := by
      obtain ⟨p', cap', e', -, hli, -⟩ := hOL.lie
      injection e' with e1 e2 e3
      subst e1
      exact hli
    generalize w4.setCell ⟨g, q / 8, none⟩ (.int .u8 u) = w5 at *
    generalize L.set (q / 8) u = L2 at *
    obtain ⟨ca, cf, cs, ans', tok', tid', size', tmo', seq', st', kc, hk0, -, HR⟩ := readAdd_out (some ⟨g, 0, none⟩) cap L2 W.heap.size A w5 (HS.out w5 (HG.out.trans hg5)).four (HG.out.trans hg5).size (by rw [hlen2]; exact hcap) hli2 hby2
    obtain ⟨s0, s1, s2, s3, s4, s5⟩ := ca
    obtain ⟨r0, r1, r2, r3, r4, r5⟩ := cf
    obtain ⟨q0, q1, q2, q3, q4, q5⟩ := cs
    rw [hlen2] at HR
    have HR := Lib.hid HR
    have HG5 := Lib.hid hg5
    have HNE := Lib.hid hne
    have HK0 := Lib.hid hk0
    clear hv hOL hne hby2 hg5 hlen2 hli2 hc hf HSTO HG4 HY HYE HBY HLN HAT HADS i0 hk0 HG2 HG3
    skip
    as_aux_lemma =>
      unfold addV at HR
      simp only at HR
      by_cases hk : kc = 0
      · as_aux_lemma =>
        subst hk
        have hdec : decide ((⟨s0, s1, s2, s3, s4, s5⟩ : Ad) = ⟨t0, t1, t2, t3, t4, t5⟩ ∧ (⟨r0, r1, r2, r3, r4, r5⟩ : Ad) = ⟨f0, f1, f2, f3, f4, f5⟩ ∧ (⟨q0, q1, q2, q3, q4, q5⟩ : Ad) = ⟨b0, b1, b2, b3, b4, b5⟩ ∧ ans' = ans ∧ tok' = tok ∧ tid' = tid ∧ size' = size ∧ tmo' = tmo ∧ seq' = seq ∧ st' = st) = false := by
          apply decide_eq_false
          rintro ⟨a1, a2, a3, a4, a5, a6, a7, a8, a9, a10⟩
          have h1 := HK0.out rfl
          rw [a1, a2, a3, a4, a5, a6, a7, a8, a9, a10, HL.out] at h1
          exact HNE.out h1.symm
        have HSA := Lib.hid (fun w' => sameAdd_any ⟨s0, s1, s2, s3, s4, s5⟩ ⟨r0, r1, r2, r3, r4, r5⟩ ⟨q0, q1, q2, q3, q4, q5⟩ ⟨t0, t1, t2, t3, t4, t5⟩ ⟨f0, f1, f2, f3, f4, f5⟩ ⟨b0, b1, b2, b3, b4, b5⟩ ans' ans tok' tid' size' tmo' seq' st' tok tid size tmo seq st w')
        rw [hdec] at HSA
        clear hdec HK0
        unfold addV at HSA
        simp only at HSA
        refine HR.out.mono ?_
        rintro e w6 ⟨rfl, hg6⟩
        have HG6 := Lib.hid (HG5.out.trans hg6)
        clear hg6 HR HG5
        simp only [errV]
        go_wp2_with (refine alloc_row rfl 27 rfl 13 rfl #[.int .u8 0, .int .u8 0, .int .u8 0, .int .u8 0, .int .u8 0, .int .u8 0, .int .u8 0, .int .u8 0, .int .u8 0, .int .u8 0, .int .u8 0, .int .u8 0, .int .u8 0, .int .u8 0, .int .u8 0, .int .u8 0, .int .u8 0, .int .u8 0, .bool false, .int .i64 0, .int .i64 0, .int .i64 0, .int .i64 0, .int .i64 0, .int .i64 0] 27 add_run rfl (.tmp 58) rfl (by first | (simp; done) | (simp [Act.put]; done)) #[.int .u8 s0, .int .u8 s1, .int .u8 s2, .int .u8 s3, .int .u8 s4, .int .u8 s5, .int .u8 r0, .int .u8 r1, .int .u8 r2, .int .u8 r3, .int .u8 r4, .int .u8 r5, .int .u8 q0, .int .u8 q1, .int .u8 q2, .int .u8 q3, .int .u8 q4, .int .u8 q5, .bool ans', .int .i64 tok', .int .i64 tid', .int .i64 size', .int .i64 tmo', .int .i64 seq', .int .i64 st'] (by rfl) rfl (by kernel_rfl) (by simp [Value.oneCell']) ?_)
        intro w7 hg7 hr7
        have HG7 := Lib.hid (HG6.out.trans hg7)
        have HR7 := Lib.hid hr7
        clear hg7 hr7 HG6
        go_wp2_with fail
        refine (HI1.out _ (HG.out.trans HG7.out)).mono ?_
        rintro e w8 ⟨rfl, hg8⟩
        have HG8 := Lib.hid (HG7.out.trans hg8)
        have hr8 := (hg8.block w6.heap.size (blk_lt HR7.out) (by simp)).trans HR7.out
        have hb8 := HBX.out _ HG8.out
        clear hg8 HG7 HR7
        go_wp2_with (first | (refine load_row_g (by rfl) _ _ rfl _ rfl _ _ hr8 _ Tryd.underlying27 rfl (by kernel_rfl) ?_) | (refine load_row_g (by rfl) _ _ rfl _ rfl _ _ hb8 _ Tryd.underlying27 rfl (by kernel_rfl) ?_))
        clear hr8 hb8
        skip
        as_aux_lemma =>
          (try go_wp2_with fail)
          refine (HSA.out _).mono ?_
          rintro e w9 ⟨rfl, hg9⟩
          have HG9 := Lib.hid (HG8.out.trans hg9)
          clear hg9
          go_wp2_with fail
          go_ret
          exact ⟨rfl, (Far.refl _ _).gro (HG.out.trans HG9.out) (Nat.le_refl _) (fun _ e => by cases e)⟩
      · as_aux_lemma =>
        obtain ⟨a, ha⟩ := errV_pos A hk
        rw [ha] at HR
        clear ha hk HK0 HNE
        refine HR.out.mono ?_
        rintro e w6 ⟨rfl, hg6⟩
        have HG6 := Lib.hid (HG5.out.trans hg6)
        clear hg6 HR HG5
        go_wp2_with (refine alloc_row rfl 27 rfl 13 rfl #[.int .u8 0, .int .u8 0, .int .u8 0, .int .u8 0, .int .u8 0, .int .u8 0, .int .u8 0, .int .u8 0, .int .u8 0, .int .u8 0, .int .u8 0, .int .u8 0, .int .u8 0, .int .u8 0, .int .u8 0, .int .u8 0, .int .u8 0, .int .u8 0, .bool false, .int .i64 0, .int .i64 0, .int .i64 0, .int .i64 0, .int .i64 0, .int .i64 0] 27 add_run rfl (.tmp 58) rfl (by first | (simp; done) | (simp [Act.put]; done)) #[.int .u8 s0, .int .u8 s1, .int .u8 s2, .int .u8 s3, .int .u8 s4, .int .u8 s5, .int .u8 r0, .int .u8 r1, .int .u8 r2, .int .u8 r3, .int .u8 r4, .int .u8 r5, .int .u8 q0, .int .u8 q1, .int .u8 q2, .int .u8 q3, .int .u8 q4, .int .u8 q5, .bool ans', .int .i64 tok', .int .i64 tid', .int .i64 size', .int .i64 tmo', .int .i64 seq', .int .i64 st'] (by rfl) rfl (by kernel_rfl) (by simp [Value.oneCell']) ?_)
        intro w7 hg7 _
        have HG7 := Lib.hid (HG6.out.trans hg7)
        clear hg7 HG6
        go_wp2_with fail
        refine (HI1.out _ (HG.out.trans HG7.out)).mono ?_
        rintro e w8 ⟨rfl, hg8⟩
        have HG8 := Lib.hid (HG7.out.trans hg8)
        clear hg8 HG7
        go_wp2_with fail
        go_ret
        exact ⟨rfl, (Far.refl _ _).gro (HG.out.trans HG8.out) (Nat.le_refl _) (fun _ e => by cases e)⟩
  · go_wp2_with fail
    refine (HAB.out hok w1 (HG.out.trans HG1.out)).mono ?_
    rintro e w2 ⟨rfl, hg2⟩
    have HG2 := Lib.hid ((HG.out.trans HG1.out).trans hg2)
    clear hg2 HAB HAO hok
    go_wp2_with fail
    go_ret
    exact ⟨rfl, (Far.refl _ _).gro HG2.out (Nat.le_refl _) (fun _ e => by cases e)⟩
end Go.Proofs.YtflckkeaakmojaaDoor
