/-
  ONE STATION ALONE: the calls of package ps on a Power in which one station is. Conditions: 'PZ': the block is whole, the sentinels lie, nothing older has turned.
-/
import Derived.Test.YtkklnocbbpaipaaDoorPsWalks3
namespace Go.Proofs.YtkklnocbbpaipaaDoor
open Go.RowKit

def Z (j : Nat) (o : One) : Nat → One := updP (fun _ => One.zero) j o
theorem Z_same (j : Nat) (o : One) : Z j o j = o := updP_same _ _ _
theorem Z_put (j : Nat) (o o' : One) : updP (Z j o) j o' = Z j o' := updP_updP _ _ _ _

structure PZ (W : World) (A : Nat → Addr) (b j : Nat) (o : One) (w : World) : Prop where
  pow : Pow b w (Z j o)
  far : Far W.heap.size W w
  sent : Sent W.heap.size w A
  ne : W.heap.size ≤ b
  lt : j < 16
section
variable {W w w' : World} {A : Nat → Addr} {b j : Nat} {o o' : One}
theorem PZ.put (h : PZ W A b j o w) (k : Gro (some b) w w') (hp : Pow b w' (updP (Z j o) j o')) : PZ W A b j o' w' :=
  ⟨by rw [Z_put] at hp; exact hp, h.far.gro k h.far.size (fun g e => by cases e; exact h.ne), h.sent.far fun i hi => k.block i (by have := h.far.size; omega) (by have := h.ne; simp; omega), h.ne, h.lt⟩
theorem PZ.same (h : PZ W A b j o w) (k : Gro none w w') : PZ W A b j o w' :=
  ⟨h.pow.gro k (by simp), h.far.gro k h.far.size (fun g e => by cases e), h.sent.far fun i hi => k.block i (by have := h.far.size; omega) (by simp), h.ne, h.lt⟩

theorem z_may (h : PZ W A b j o w) (a ac : Int) (ha : a = j + 1) (ht : o.th = true) (h0 : 0 ≤ ac) (h4 : ac < 4) (r : Bool) (hr : mayO o ac = r) :
    Calls Tryd.prog 13 #[.pointer (some ⟨b, 0, none⟩), .int .i64 a, .int .i64 ac] w fun e w' => e = .returned (.bool r) ∧ w = w' := by
  have := may_there b a ac j w _ h.pow h.lt ha (by rw [Z_same]; exact ht) h0 h4
  rwa [Z_same, hr] at this
theorem z_polled (h : PZ W A b j o w) (a : Int) (ha : a = j + 1) (ht : o.th = true) (r : Bool) (hr : o.po = r) :
    Calls Tryd.prog 15 #[.pointer (some ⟨b, 0, none⟩), .int .i64 a] w fun e w' => e = .returned (.bool r) ∧ w = w' := by
  have := polled_there b a j w _ h.pow h.lt ha (by rw [Z_same]; exact ht)
  rwa [Z_same, hr] at this
theorem z_doze (h : PZ W A b j o w) (a : Int) (on : Bool) (ha : a = j + 1) (ht : o.th = true) (o' : One) (ho : dozeO o on = o') :
    Calls Tryd.prog 10 #[.pointer (some ⟨b, 0, none⟩), .int .i64 a, .bool on] w fun e w' => e = .returned .nilIface ∧ PZ W A b j o' w' :=
  (doze_there b a on j w _ h.pow h.lt ha (by rw [Z_same]; exact ht)).mono fun e w' ⟨he, hg, hp⟩ => ⟨he, h.put hg (by rw [Z_same, ho] at hp; exact hp)⟩
theorem z_poll (h : PZ W A b j o w) (a : Int) (ha : a = j + 1) (ht : o.th = true) (hs : o.sl = true) (hop : o.op = false) (o' : One) (ho : { o with po := true } = o') :
    Calls Tryd.prog 11 #[.pointer (some ⟨b, 0, none⟩), .int .i64 a] w fun e w' => e = .returned .nilIface ∧ PZ W A b j o' w' :=
  (poll_there b a j w _ h.pow h.lt ha (by rw [Z_same]; exact ht) (by rw [Z_same]; exact hs) (by rw [Z_same]; exact hop)).mono fun e w' ⟨he, hg, hp⟩ => ⟨he, h.put hg (by rw [Z_same, ho] at hp; exact hp)⟩
theorem z_poll_no (h : PZ W A b j o w) (a : Int) (ha : a = j + 1) (ht : o.th = true) (hs : o.sl = false ∨ o.op = true) :
    Calls Tryd.prog 11 #[.pointer (some ⟨b, 0, none⟩), .int .i64 a] w fun e w' => e = .returned (errV A 10) ∧ w = w' :=
  poll_state b a _ j w _ h.pow h.lt ha (by rw [Z_same]; exact ht) (by rw [Z_same]; exact hs) h.sent.c9
theorem z_trigger (h : PZ W A b j o w) (a ac : Int) (ha : a = j + 1) (ht : o.th = true) (h0 : 0 ≤ ac) (h4 : ac < 4) (hok : trigOk o ac = true) (o' : One) (ho : { o with op := true, left := o.most } = o') :
    Calls Tryd.prog 17 #[.pointer (some ⟨b, 0, none⟩), .int .i64 a, .int .i64 ac] w fun e w' => e = .returned .nilIface ∧ PZ W A b j o' w' :=
  (trigger_ok b a ac j w _ h.pow h.lt ha (by rw [Z_same]; exact ht) h0 h4 (by rw [Z_same]; exact hok)).mono fun e w' ⟨he, hg, hp⟩ => ⟨he, h.put hg (by rw [Z_same, ho] at hp; exact hp)⟩
theorem z_trigger_no (h : PZ W A b j o w) (a ac : Int) (ha : a = j + 1) (ht : o.th = true) (h0 : 0 ≤ ac) (h4 : ac < 4) (hok : trigOk o ac = false) :
    Calls Tryd.prog 17 #[.pointer (some ⟨b, 0, none⟩), .int .i64 a, .int .i64 ac] w fun e w' => e = .returned (errV A 10) ∧ w = w' :=
  trigger_no b a ac _ j w _ h.pow h.lt ha (by rw [Z_same]; exact ht) h0 h4 (by rw [Z_same]; exact hok) h.sent.c9
theorem z_close_no (h : PZ W A b j o w) (a : Int) (ha : a = j + 1) (ht : o.th = true) (hop : o.op = false) :
    Calls Tryd.prog 19 #[.pointer (some ⟨b, 0, none⟩), .int .i64 a] w fun e w' => e = .returned (errV A 10) ∧ w = w' :=
  close_no b a _ j w _ h.pow h.lt ha (by rw [Z_same]; exact ht) (by rw [Z_same]; exact hop) h.sent.c9
theorem z_sent_polled (h : PZ W A b j o w) (a ac : Int) (more : Bool) (ha : a = j + 1) (ht : o.th = true) (h0 : 0 ≤ ac) (h4 : ac < 4) (hs : o.sl = true) (hp : o.po = true) (o' : One) (ho : { o with po := false } = o') :
    Calls Tryd.prog 16 #[.pointer (some ⟨b, 0, none⟩), .int .i64 a, .int .i64 ac, .bool more] w fun e w' => e = .returned (.tuple #[.bool false, .nilIface]) ∧ PZ W A b j o' w' :=
  (sent_polled b a ac more j w _ h.pow h.lt ha (by rw [Z_same]; exact ht) h0 h4 (by rw [Z_same]; exact hs) (by rw [Z_same]; exact hp)).mono fun e w' ⟨he, hg, hp⟩ => ⟨he, h.put hg (by rw [Z_same, ho] at hp; exact hp)⟩
theorem z_sent_no (h : PZ W A b j o w) (a ac : Int) (more : Bool) (ha : a = j + 1) (ht : o.th = true) (h0 : 0 ≤ ac) (h4 : ac < 4) (hm : mayO o ac = false) :
    Calls Tryd.prog 16 #[.pointer (some ⟨b, 0, none⟩), .int .i64 a, .int .i64 ac, .bool more] w fun e w' => e = .returned (.tuple #[.bool false, errV A 10]) ∧ PZ W A b j o w' :=
  (sent_no b a ac more _ j w _ h.pow h.lt ha (by rw [Z_same]; exact ht) h0 h4 (by rw [Z_same]; exact hm) h.sent.c9).mono fun e w' ⟨he, hg⟩ => ⟨he, h.same hg⟩
theorem z_sent_period (h : PZ W A b j o w) (a ac : Int) (more : Bool) (ha : a = j + 1) (ht : o.th = true) (h0 : 0 ≤ ac) (h4 : ac < 4) (hs : o.sl = true) (hp : o.po = false) (hop : o.op = true) (hu : uOf o ac = true) (hl1 : -1000 ≤ o.left) (hl2 : o.left ≤ 1000) (r : Bool) (hr : (lastO o || !more) = r) (o' : One) (ho : sentO o more = o') :
    Calls Tryd.prog 16 #[.pointer (some ⟨b, 0, none⟩), .int .i64 a, .int .i64 ac, .bool more] w fun e w' => e = .returned (.tuple #[.bool r, .nilIface]) ∧ PZ W A b j o' w' :=
  (sent_period b a ac more j w _ h.pow h.lt ha (by rw [Z_same]; exact ht) h0 h4 (by rw [Z_same]; exact hs) (by rw [Z_same]; exact hp) (by rw [Z_same]; exact hop) (by rw [Z_same]; exact hu) (by rw [Z_same]; exact hl1) (by rw [Z_same]; exact hl2)).mono fun e w' ⟨he, hg, hp⟩ =>
    ⟨by rw [he, Z_same, hr], h.put hg (by rw [Z_same, ho] at hp; exact hp)⟩
theorem z_is (h : PZ W A b j o w) (k : Nat) (hk : k < 15) (c : Int) (r : Bool) (hr : decide (codeOf k = c) = r) :
    Calls Tryd.prog 18 #[errV A k, .int .i64 c] w fun e w' => e = .returned (.bool r) ∧ PZ W A b j o w' :=
  (is_any W.heap.size w A h.sent h.far.size k hk c).mono fun _ _ ⟨he, hg⟩ => ⟨by rw [he, hr], h.same hg⟩
theorem z_add (hp : Pow b w (fun _ => One.zero)) (hf : Far W.heap.size W w) (hs : Sent W.heap.size W A) (hne : W.heap.size ≤ b) (hj : j < 16) (a most : Int) (u0 u1 u2 u3 : Bool) (ha : a = j + 1) (hm0 : 0 ≤ most) (hm : most ≤ 8) :
    Calls Tryd.prog 8 #[.pointer (some ⟨b, 0, none⟩), .int .i64 a, .agg #[.bool u0, .bool u1, .bool u2, .bool u3], .int .i64 most] w fun e w' =>
      e = .returned .nilIface ∧ PZ W A b j ⟨true, false, false, false, u0, u1, u2, u3, most, 0⟩ w' :=
  (add_in b a most u0 u1 u2 u3 j w _ hp hj ha rfl hm0 hm).mono fun e w' ⟨he, hg, hq⟩ => by
    have hF := hf.gro hg hf.size (fun g e => by cases e; exact hne)
    exact ⟨he, hq, hF, hs.far hF.block, hne, hj⟩
end
end Go.Proofs.YtkklnocbbpaipaaDoor
