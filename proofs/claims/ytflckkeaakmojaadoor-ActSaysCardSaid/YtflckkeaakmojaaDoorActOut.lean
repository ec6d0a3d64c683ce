/-
  WHAT ANY BYTES ARE AS AN ADD, AS A DEL, to package act: some frame and an error's number; where there is none, the frame may be and has just these bytes. Conditions: the bytes lie where the slice says; four sentinels' own.
-/
import Derived.Test.YtflckkeaakmojaaDoorActLaw
namespace Go.Proofs.YtflckkeaakmojaaDoor
open Go.RowKit

theorem errV_pos (A : Nat → Addr) {k : Nat} (h : k ≠ 0) : ∃ a, errV A k = .iface 89 (.pointer (some a)) := by
  cases k with
  | zero => exact absurd rfl h
  | succ n => exact ⟨_, rfl⟩
set_option maxHeartbeats 4000000 in
set_option maxRecDepth 100000 in
theorem readAdd_bad (p : Option Addr) (cap : Nat) (bs : List Int) (B : Nat) (A : Nat → Addr) (w : World) (hs : Four B w A) (hB : B ≤ w.heap.size) (h : Lie w p bs) (hb : Bytes bs) (hr : longA bs 33 (kAdd bs) ≠ 0) :
    Calls Tryd.prog 12 #[.slice p bs.length cap] w fun e w' => e = .returned (.tuple #[addV adZ adZ adZ false 0 0 0 0 0 0, errV A (longA bs 33 (kAdd bs))]) ∧ Gro none w w' := by
  have HL := Lib.hid (fun w' g k hg => long_add p cap bs B A w hs h hb w' g k hB hg)
  obtain ⟨a, ha⟩ := errV_pos A hr
  rw [ha] at HL ⊢
  generalize bs.length = m at *
  clear hr ha h hs hB hb
  unfold addV adZ
  simp only
  go_enter Tryd.func12, Tryd.ntmps12
  go_wp2_with fail
  have hg1 : Gro none w ((w.alloc (.cells #[.int .u8 0, .int .u8 0, .int .u8 0, .int .u8 0, .int .u8 0, .int .u8 0, .int .u8 0, .int .u8 0, .int .u8 0, .int .u8 0, .int .u8 0, .int .u8 0, .int .u8 0, .int .u8 0, .int .u8 0, .int .u8 0, .int .u8 0, .int .u8 0, .bool false, .int .i64 0, .int .i64 0, .int .i64 0, .int .i64 0, .int .i64 0, .int .i64 0] 27)).alloc (.cells #[.int .u8 0, .int .u8 1] 5)) := ((Gro.refl _ _).alloc _).alloc _
  have hz : ((w.alloc (.cells #[.int .u8 0, .int .u8 0, .int .u8 0, .int .u8 0, .int .u8 0, .int .u8 0, .int .u8 0, .int .u8 0, .int .u8 0, .int .u8 0, .int .u8 0, .int .u8 0, .int .u8 0, .int .u8 0, .int .u8 0, .int .u8 0, .int .u8 0, .int .u8 0, .bool false, .int .i64 0, .int .i64 0, .int .i64 0, .int .i64 0, .int .i64 0, .int .i64 0] 27)).alloc (.cells #[.int .u8 0, .int .u8 1] 5)).heap[w.heap.size]? = some (.cells #[.int .u8 0, .int .u8 0, .int .u8 0, .int .u8 0, .int .u8 0, .int .u8 0, .int .u8 0, .int .u8 0, .int .u8 0, .int .u8 0, .int .u8 0, .int .u8 0, .int .u8 0, .int .u8 0, .int .u8 0, .int .u8 0, .int .u8 0, .int .u8 0, .bool false, .int .i64 0, .int .i64 0, .int .i64 0, .int .i64 0, .int .i64 0, .int .i64 0] 27 (0, 0)) := (Below.heap_alloc _ _ _ (by simp)).trans (heap_alloc_new w _)
  have hwh : ((w.alloc (.cells #[.int .u8 0, .int .u8 0, .int .u8 0, .int .u8 0, .int .u8 0, .int .u8 0, .int .u8 0, .int .u8 0, .int .u8 0, .int .u8 0, .int .u8 0, .int .u8 0, .int .u8 0, .int .u8 0, .int .u8 0, .int .u8 0, .int .u8 0, .int .u8 0, .bool false, .int .i64 0, .int .i64 0, .int .i64 0, .int .i64 0, .int .i64 0, .int .i64 0] 27)).alloc (.cells #[.int .u8 0, .int .u8 1] 5)).heap[w.heap.size + 1]? = some (.cells #[.int .u8 0, .int .u8 1] 5 (0, 0)) := by
    have h := heap_alloc_new (w.alloc (.cells #[.int .u8 0, .int .u8 0, .int .u8 0, .int .u8 0, .int .u8 0, .int .u8 0, .int .u8 0, .int .u8 0, .int .u8 0, .int .u8 0, .int .u8 0, .int .u8 0, .int .u8 0, .int .u8 0, .int .u8 0, .int .u8 0, .int .u8 0, .int .u8 0, .bool false, .int .i64 0, .int .i64 0, .int .i64 0, .int .i64 0, .int .i64 0, .int .i64 0] 27)) (.cells #[.int .u8 0, .int .u8 1] 5)
    simp only [show ∀ (w : World) (o : Obj), (w.alloc o).heap.size = w.heap.size + 1 from fun w o => by simp] at h
    exact h
  generalize (w.alloc (.cells #[.int .u8 0, .int .u8 0, .int .u8 0, .int .u8 0, .int .u8 0, .int .u8 0, .int .u8 0, .int .u8 0, .int .u8 0, .int .u8 0, .int .u8 0, .int .u8 0, .int .u8 0, .int .u8 0, .int .u8 0, .int .u8 0, .int .u8 0, .int .u8 0, .bool false, .int .i64 0, .int .i64 0, .int .i64 0, .int .i64 0, .int .i64 0, .int .i64 0] 27)).alloc (.cells #[.int .u8 0, .int .u8 1] 5) = w2 at *
  refine (HL.out w2 _ hg1 hwh).mono ?_
  rintro e w' ⟨rfl, rfl⟩
  have HG1 := Lib.hid hg1
  clear hg1 hwh HL
  go_wp2_with (refine store_row rfl 27 _ _ rfl w.heap.size rfl #[.int .u8 0, .int .u8 0, .int .u8 0, .int .u8 0, .int .u8 0, .int .u8 0, .int .u8 0, .int .u8 0, .int .u8 0, .int .u8 0, .int .u8 0, .int .u8 0, .int .u8 0, .int .u8 0, .int .u8 0, .int .u8 0, .int .u8 0, .int .u8 0, .bool false, .int .i64 0, .int .i64 0, .int .i64 0, .int .i64 0, .int .i64 0, .int .i64 0] (by rfl) #[.int .u8 0, .int .u8 0, .int .u8 0, .int .u8 0, .int .u8 0, .int .u8 0, .int .u8 0, .int .u8 0, .int .u8 0, .int .u8 0, .int .u8 0, .int .u8 0, .int .u8 0, .int .u8 0, .int .u8 0, .int .u8 0, .int .u8 0, .int .u8 0, .bool false, .int .i64 0, .int .i64 0, .int .i64 0, .int .i64 0, .int .i64 0, .int .i64 0] 27 hz rfl (by kernel_rfl) (by simp [Value.oneCell']) ?_)
  intro w6 hg6 hr6
  have HF := Lib.hid (HG1.out.new_row hg6 (Nat.le_refl _))
  have HR6 := Lib.hid hr6
  clear hg6 hr6 hz
  (try go_wp2_with fail)
  (try simp only [Exit.inBlock, Exit.then])
  refine bodyPost_ret (res_add rfl rfl HR6.out (by kernel_rfl)) rfl ?_
  exact ⟨rfl, HF.out⟩
set_option maxHeartbeats 4000000 in
set_option maxRecDepth 100000 in
theorem readDel_bad (p : Option Addr) (cap : Nat) (bs : List Int) (B : Nat) (A : Nat → Addr) (w : World) (hs : Four B w A) (hB : B ≤ w.heap.size) (h : Lie w p bs) (hb : Bytes bs) (hr : longA bs 30 (kDel bs) ≠ 0) :
    Calls Tryd.prog 16 #[.slice p bs.length cap] w fun e w' => e = .returned (.tuple #[delV adZ adZ adZ false 0 0, errV A (longA bs 30 (kDel bs))]) ∧ Gro none w w' := by
  have HL := Lib.hid (fun w' g k hg => long_del p cap bs B A w hs h hb w' g k hB hg)
  obtain ⟨a, ha⟩ := errV_pos A hr
  rw [ha] at HL ⊢
  generalize bs.length = m at *
  clear hr ha h hs hB hb
  unfold delV adZ
  simp only
  go_enter Tryd.func16, Tryd.ntmps16
  go_wp2_with fail
  have hg1 : Gro none w ((w.alloc (.cells #[.int .u8 0, .int .u8 0, .int .u8 0, .int .u8 0, .int .u8 0, .int .u8 0, .int .u8 0, .int .u8 0, .int .u8 0, .int .u8 0, .int .u8 0, .int .u8 0, .int .u8 0, .int .u8 0, .int .u8 0, .int .u8 0, .int .u8 0, .int .u8 0, .bool false, .int .i64 0, .int .i64 0] 36)).alloc (.cells #[.int .u8 2] 5)) := ((Gro.refl _ _).alloc _).alloc _
  have hz : ((w.alloc (.cells #[.int .u8 0, .int .u8 0, .int .u8 0, .int .u8 0, .int .u8 0, .int .u8 0, .int .u8 0, .int .u8 0, .int .u8 0, .int .u8 0, .int .u8 0, .int .u8 0, .int .u8 0, .int .u8 0, .int .u8 0, .int .u8 0, .int .u8 0, .int .u8 0, .bool false, .int .i64 0, .int .i64 0] 36)).alloc (.cells #[.int .u8 2] 5)).heap[w.heap.size]? = some (.cells #[.int .u8 0, .int .u8 0, .int .u8 0, .int .u8 0, .int .u8 0, .int .u8 0, .int .u8 0, .int .u8 0, .int .u8 0, .int .u8 0, .int .u8 0, .int .u8 0, .int .u8 0, .int .u8 0, .int .u8 0, .int .u8 0, .int .u8 0, .int .u8 0, .bool false, .int .i64 0, .int .i64 0] 36 (0, 0)) := (Below.heap_alloc _ _ _ (by simp)).trans (heap_alloc_new w _)
  have hwh : ((w.alloc (.cells #[.int .u8 0, .int .u8 0, .int .u8 0, .int .u8 0, .int .u8 0, .int .u8 0, .int .u8 0, .int .u8 0, .int .u8 0, .int .u8 0, .int .u8 0, .int .u8 0, .int .u8 0, .int .u8 0, .int .u8 0, .int .u8 0, .int .u8 0, .int .u8 0, .bool false, .int .i64 0, .int .i64 0] 36)).alloc (.cells #[.int .u8 2] 5)).heap[w.heap.size + 1]? = some (.cells #[.int .u8 2] 5 (0, 0)) := by
    have h := heap_alloc_new (w.alloc (.cells #[.int .u8 0, .int .u8 0, .int .u8 0, .int .u8 0, .int .u8 0, .int .u8 0, .int .u8 0, .int .u8 0, .int .u8 0, .int .u8 0, .int .u8 0, .int .u8 0, .int .u8 0, .int .u8 0, .int .u8 0, .int .u8 0, .int .u8 0, .int .u8 0, .bool false, .int .i64 0, .int .i64 0] 36)) (.cells #[.int .u8 2] 5)
    simp only [show ∀ (w : World) (o : Obj), (w.alloc o).heap.size = w.heap.size + 1 from fun w o => by simp] at h
    exact h
  generalize (w.alloc (.cells #[.int .u8 0, .int .u8 0, .int .u8 0, .int .u8 0, .int .u8 0, .int .u8 0, .int .u8 0, .int .u8 0, .int .u8 0, .int .u8 0, .int .u8 0, .int .u8 0, .int .u8 0, .int .u8 0, .int .u8 0, .int .u8 0, .int .u8 0, .int .u8 0, .bool false, .int .i64 0, .int .i64 0] 36)).alloc (.cells #[.int .u8 2] 5) = w2 at *
  refine (HL.out w2 _ hg1 hwh).mono ?_
  rintro e w' ⟨rfl, rfl⟩
  have HG1 := Lib.hid hg1
  clear hg1 hwh HL
  go_wp2_with (refine store_row rfl 36 _ _ rfl w.heap.size rfl #[.int .u8 0, .int .u8 0, .int .u8 0, .int .u8 0, .int .u8 0, .int .u8 0, .int .u8 0, .int .u8 0, .int .u8 0, .int .u8 0, .int .u8 0, .int .u8 0, .int .u8 0, .int .u8 0, .int .u8 0, .int .u8 0, .int .u8 0, .int .u8 0, .bool false, .int .i64 0, .int .i64 0] (by rfl) #[.int .u8 0, .int .u8 0, .int .u8 0, .int .u8 0, .int .u8 0, .int .u8 0, .int .u8 0, .int .u8 0, .int .u8 0, .int .u8 0, .int .u8 0, .int .u8 0, .int .u8 0, .int .u8 0, .int .u8 0, .int .u8 0, .int .u8 0, .int .u8 0, .bool false, .int .i64 0, .int .i64 0] 36 hz rfl (by kernel_rfl) (by simp [Value.oneCell']) ?_)
  intro w6 hg6 hr6
  have HF := Lib.hid (HG1.out.new_row hg6 (Nat.le_refl _))
  have HR6 := Lib.hid hr6
  clear hg6 hr6 hz
  (try go_wp2_with fail)
  (try simp only [Exit.inBlock, Exit.then])
  refine bodyPost_ret (res_del rfl rfl HR6.out (by kernel_rfl)) rfl ?_
  exact ⟨rfl, HF.out⟩
theorem readAdd_say (p : Option Addr) (cap : Nat) (bs : List Int) (B : Nat) (A : Nat → Addr) (w : World) (hs : Four B w A) (hB : B ≤ w.heap.size) (hcap : bs.length ≤ cap) (h : Lie w p bs) (hb : Bytes bs) :
    Calls Tryd.prog 12 #[.slice p bs.length cap] w fun e w' => (longA bs 33 (kAdd bs) = 0 → isAdd bs → e = .returned (.tuple #[addOf bs, .nilIface])) ∧ (longA bs 33 (kAdd bs) = 0 → ¬ isAdd bs → e = .returned (.tuple #[addV adZ adZ adZ false 0 0 0 0 0 0, errV A 2])) ∧ (longA bs 33 (kAdd bs) ≠ 0 → e = .returned (.tuple #[addV adZ adZ adZ false 0 0 0 0 0 0, errV A (longA bs 33 (kAdd bs))])) ∧ Gro none w w' := by
  by_cases hr : longA bs 33 (kAdd bs) = 0
  · obtain ⟨hlen, hk⟩ := longA_zero hr (by decide)
    obtain ⟨b, o, rfl, -⟩ := h 0 (by omega)
    rcases hk.2.2 with hy | hy
    · exact (readAdd_asks b o cap bs B A w hs hB hcap h hb hr hy).mono fun e w' ⟨h1, h2, hg⟩ => ⟨fun _ => h1, fun _ => h2, fun h => absurd hr h, hg⟩
    · exact (readAdd_ans b o cap bs B A w hs hB hcap h hb hr hy).mono fun e w' ⟨h1, h2, hg⟩ => ⟨fun _ => h1, fun _ => h2, fun h => absurd hr h, hg⟩
  · exact (readAdd_bad p cap bs B A w hs hB h hb hr).mono fun e w' ⟨h1, hg⟩ => ⟨fun h => absurd h hr, fun h => absurd h hr, fun _ => h1, hg⟩
theorem readDel_say (p : Option Addr) (cap : Nat) (bs : List Int) (B : Nat) (A : Nat → Addr) (w : World) (hs : Four B w A) (hB : B ≤ w.heap.size) (hcap : bs.length ≤ cap) (h : Lie w p bs) (hb : Bytes bs) :
    Calls Tryd.prog 16 #[.slice p bs.length cap] w fun e w' => (longA bs 30 (kDel bs) = 0 → isDel bs → e = .returned (.tuple #[delV (ad6 bs 4) (ad6 bs 10) (ad6 bs 16) (mineOf bs) (num2 bs 26 / 4096) (num2 bs 28), .nilIface])) ∧ (longA bs 30 (kDel bs) = 0 → ¬ isDel bs → e = .returned (.tuple #[delV adZ adZ adZ false 0 0, errV A 2])) ∧ (longA bs 30 (kDel bs) ≠ 0 → e = .returned (.tuple #[delV adZ adZ adZ false 0 0, errV A (longA bs 30 (kDel bs))])) ∧ Gro none w w' := by
  by_cases hr : longA bs 30 (kDel bs) = 0
  · obtain ⟨hlen, hk⟩ := longA_zero hr (by decide)
    obtain ⟨b, o, rfl, -⟩ := h 0 (by omega)
    cases hm : mineOf bs
    · exact (hm ▸ readDel_his b o cap bs B A w hs hB hcap h hb hr hm).mono fun e w' ⟨h1, h2, hg⟩ => ⟨fun _ => h1, fun _ => h2, fun h => absurd hr h, hg⟩
    · exact (hm ▸ readDel_mine b o cap bs B A w hs hB hcap h hb hr hm).mono fun e w' ⟨h1, h2, hg⟩ => ⟨fun _ => h1, fun _ => h2, fun h => absurd hr h, hg⟩
  · exact (readDel_bad p cap bs B A w hs hB h hb hr).mono fun e w' ⟨h1, hg⟩ => ⟨fun h => absurd h hr, fun h => absurd h hr, fun _ => h1, hg⟩
end Go.Proofs.YtflckkeaakmojaaDoor
