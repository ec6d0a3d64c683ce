/-
  THE WALK OF StaEpochs: whatever the comings and goings, it answers true. No condition.
-/
import Derived.Test.YtiegcfgedhgpnaaDoorStaNew
import Derived.Test.YtiegcfgedhgpnaaDoorFrame
namespace Go.Proofs.YtiegcfgedhgpnaaDoor
open Go.RowKit

def adQ (q : Nat) : Ad := ⟨2, q, 0, 0, 0, 0⟩
def updN (p : Nat → Nat) (q v : Nat) : Nat → Nat := fun i => if i = q then v else p i
theorem updN_same (p : Nat → Nat) (q v : Nat) : updN p q v q = v := by simp [updN]
theorem updN_other (p : Nat → Nat) (q v i : Nat) (h : i ≠ q) : updN p q v i = p i := by simp [updN, h]
theorem adQ_inj {q q' : Nat} (h : adQ q = adQ q') : q = q' := by
  unfold adQ at h
  simp at h
  omega
/-- Who of the four has which number; how often each number was given, at most i times. -/
structure EpI (T : Nat → Sone) (p : Nat → Nat) (i : Nat) : Prop where
  le : ∀ q, q < 4 → p q ≤ 4
  at_ : ∀ q, q < 4 → p q ≠ 0 → (T (p q - 1)).th = true ∧ (T (p q - 1)).a = adQ q
  th : ∀ j, j < 16 → (T j).th = true → ∃ q, q < 4 ∧ p q = j + 1
  ep : ∀ j, j < 16 → 0 ≤ (T j).ep ∧ (T j).ep ≤ i
theorem EpI.zero : EpI (fun _ => Sone.zero) (fun _ => 0) 0 :=
  ⟨fun _ _ => by omega, fun _ _ h => absurd rfl h, fun _ _ h => by simp [Sone.zero] at h, fun _ _ => by simp [Sone.zero]⟩
theorem EpI.who {T : Nat → Sone} {p : Nat → Nat} {i : Nat} (h : EpI T p i) {j q : Nat} (hj : j < 16) (hh : hitB T (adQ q) j = true) : p q = j + 1 := by
  unfold hitB at hh
  rw [Bool.and_eq_true] at hh
  obtain ⟨q', hq', hp⟩ := h.th j hj hh.1
  have ha := (h.at_ q' hq' (by omega)).2
  rw [hp, Nat.add_sub_cancel, (eqA_iff _ _).1 hh.2] at ha
  rw [adQ_inj ha]; exact hp
theorem EpI.hit {T : Nat → Sone} {p : Nat → Nat} {i : Nat} (h : EpI T p i) {q : Nat} (hq : q < 4) (hp : p q ≠ 0) : hitB T (adQ q) (p q - 1) = true := by
  unfold hitB
  obtain ⟨h1, h2⟩ := h.at_ q hq hp
  rw [h1, h2, eqA_self]; rfl
theorem EpI.before {T : Nat → Sone} {p : Nat → Nat} {i : Nat} (h : EpI T p i) {q : Nat} (hq : q < 4) (k : Nat) (hk : k < p q - 1) : hitB T (adQ q) k = false := by
  cases e : hitB T (adQ q) k with
  | false => rfl
  | true =>
    have := h.le q hq
    have := h.who (by omega) e
    omega
theorem EpI.none {T : Nat → Sone} {p : Nat → Nat} {i : Nat} (h : EpI T p i) {q : Nat} (hp : p q = 0) (k : Nat) (hk : k < 16) : hitB T (adQ q) k = false := by
  cases e : hitB T (adQ q) k with
  | false => rfl
  | true =>
    have := h.who hk e
    omega
/-- Somebody of the four is not there: a number of the first four is free. -/
theorem EpI.free {T : Nat → Sone} {p : Nat → Nat} {i : Nat} (h : EpI T p i) {q : Nat} (hq : q < 4) (hp : p q = 0) :
    ∃ j, j < 4 ∧ (∀ k, k < j → (T k).th = true) ∧ (T j).th = false := by
  have hq4 : q = 0 ∨ q = 1 ∨ q = 2 ∨ q = 3 := by omega
  have cov : ∀ j, j < 16 → (T j).th = true → p 0 = j + 1 ∨ p 1 = j + 1 ∨ p 2 = j + 1 ∨ p 3 = j + 1 := by
    intro j hj ht
    obtain ⟨q', hq', hp'⟩ := h.th j hj ht
    rcases (show q' = 0 ∨ q' = 1 ∨ q' = 2 ∨ q' = 3 from by omega) with rfl | rfl | rfl | rfl <;> simp [hp']
  have hz : p 0 = 0 ∨ p 1 = 0 ∨ p 2 = 0 ∨ p 3 = 0 := by rcases hq4 with rfl | rfl | rfl | rfl <;> simp [hp]
  cases t0 : (T 0).th with
  | false => exact ⟨0, by decide, fun k hk => by omega, t0⟩
  | true =>
    cases t1 : (T 1).th with
    | false => exact ⟨1, by decide, fun k hk => by obtain rfl : k = 0 := by omega
                                                   exact t0, t1⟩
    | true =>
      cases t2 : (T 2).th with
      | false => exact ⟨2, by decide, fun k hk => by rcases (show k = 0 ∨ k = 1 from by omega) with rfl | rfl <;> assumption, t2⟩
      | true =>
        cases t3 : (T 3).th with
        | false => exact ⟨3, by decide, fun k hk => by rcases (show k = 0 ∨ k = 1 ∨ k = 2 from by omega) with rfl | rfl | rfl <;> assumption, t3⟩
        | true =>
          have c0 := cov 0 (by decide) t0
          have c1 := cov 1 (by decide) t1
          have c2 := cov 2 (by decide) t2
          have c3 := cov 3 (by decide) t3
          omega
theorem EpI.gone {T : Nat → Sone} {p : Nat → Nat} {i : Nat} (h : EpI T p i) {q : Nat} (hq : q < 4) (hp : p q ≠ 0) :
    EpI (updT T (p q - 1) ⟨false, adZ, (T (p q - 1)).ep⟩) (updN p q 0) (i + 1) := by
  have hle := h.le q hq
  have hne : ∀ q', q' < 4 → q' ≠ q → p q' ≠ 0 → p q' - 1 ≠ p q - 1 := by
    intro q' h4 hn h0 e
    have e' : p q' = p q := by omega
    have a1 := (h.at_ q' h4 h0).2
    have a2 := (h.at_ q hq hp).2
    rw [e', a2] at a1
    exact hn (adQ_inj a1).symm
  refine ⟨?_, ?_, ?_, ?_⟩
  · intro q' h4
    by_cases e : q' = q
    · subst e; rw [updN_same]; omega
    · rw [updN_other _ _ _ _ e]; exact h.le q' h4
  · intro q' h4
    by_cases e : q' = q
    · subst e; rw [updN_same]; intro hx; exact absurd rfl hx
    · rw [updN_other _ _ _ _ e]
      intro h0
      rw [updT_other _ _ _ _ (hne q' h4 e h0)]
      exact h.at_ q' h4 h0
  · intro j hj
    by_cases e : j = p q - 1
    · subst e; rw [updT_same]; intro hx; cases hx
    · rw [updT_other _ _ _ _ e]
      intro ht
      obtain ⟨q', h4, hq'⟩ := h.th j hj ht
      have : q' ≠ q := by intro e2; subst e2; omega
      exact ⟨q', h4, by rw [updN_other _ _ _ _ this]; exact hq'⟩
  · intro j hj
    by_cases e : j = p q - 1
    · subst e; rw [updT_same]; have := h.ep (p q - 1) hj; simp only; omega
    · rw [updT_other _ _ _ _ e]; have := h.ep j hj; omega
theorem EpI.come {T : Nat → Sone} {p : Nat → Nat} {i : Nat} (h : EpI T p i) {q j : Nat} (hq : q < 4) (hp : p q = 0) (hj : j < 4) (hf : (T j).th = false) :
    EpI (updT T j ⟨true, adQ q, (T j).ep + 1⟩) (updN p q (j + 1)) (i + 1) := by
  have hne : ∀ q', q' < 4 → p q' ≠ 0 → p q' - 1 ≠ j := by
    intro q' h4 h0 e
    have := (h.at_ q' h4 h0).1
    rw [e, hf] at this
    cases this
  refine ⟨?_, ?_, ?_, ?_⟩
  · intro q' h4
    by_cases e : q' = q
    · subst e; rw [updN_same]; omega
    · rw [updN_other _ _ _ _ e]; exact h.le q' h4
  · intro q' h4
    by_cases e : q' = q
    · subst e; rw [updN_same, Nat.add_sub_cancel, updT_same]; intro _; exact ⟨rfl, rfl⟩
    · rw [updN_other _ _ _ _ e]
      intro h0
      rw [updT_other _ _ _ _ (hne q' h4 h0)]
      exact h.at_ q' h4 h0
  · intro k hk
    by_cases e : k = j
    · subst e; intro _; exact ⟨q, hq, updN_same _ _ _⟩
    · rw [updT_other _ _ _ _ e]
      intro ht
      obtain ⟨q', h4, hq'⟩ := h.th k hk ht
      have : q' ≠ q := by intro e2; subst e2; omega
      exact ⟨q', h4, by rw [updN_other _ _ _ _ this]; exact hq'⟩
  · intro k hk
    by_cases e : k = j
    · subst e; rw [updT_same]; have := h.ep k hk; simp only; omega
    · rw [updT_other _ _ _ _ e]; have := h.ep k hk; omega

/-- A block of n numbers. -/
def Nm (b n ty : Nat) (w : World) (f : Nat → Int) : Prop := ∃ C : Array Value, w.heap[b]? = some (.cells C ty (0, 0)) ∧ C.size = n ∧ ∀ j, j < n → C[j]? = some (.int .i64 (f j))
def updI (f : Nat → Int) (j : Nat) (v : Int) : Nat → Int := fun i => if i = j then v else f i
section
variable {b n ty : Nat} {w : World} {f : Nat → Int}
theorem Nm.cell (h : Nm b n ty w f) (j : Nat) (hj : j < n) : w.cell? ⟨b, j, none⟩ = some (.int .i64 (f j)) := by
  obtain ⟨C, hb, _, hC⟩ := h
  rw [cell_of_row w b _ _ _ _ hb]; exact hC j hj
theorem Nm.fr (h : Nm b n ty w f) (j : Nat) : w.frozen? ⟨b, j, none⟩ = false := by
  obtain ⟨C, hb, _⟩ := h
  exact frozen_of_row w b j _ _ hb
theorem Nm.lt (h : Nm b n ty w f) (hn : 0 < n) : b < w.heap.size := block_lt_of_cell (h.cell 0 hn)
theorem Nm.gro {row : Option Nat} {w' : World} (h : Nm b n ty w f) (hn : 0 < n) (k : Gro row w w') (hr : some b ≠ row) : Nm b n ty w' f := by
  have hlt := h.lt hn
  obtain ⟨C, hb, hC⟩ := h
  exact ⟨C, (k.block b hlt hr).trans hb, hC⟩
theorem Nm.set (h : Nm b n ty w f) (j : Nat) (v : Int) : Nm b n ty (w.setCell ⟨b, j, none⟩ (.int .i64 v)) (updI f j v) := by
  obtain ⟨C, hb, hs, hC⟩ := h
  refine ⟨C.setIfInBounds j (.int .i64 v), heap_setCell_same w b _ _ _ _ hb, by simp [hs], fun j' hj' => ?_⟩
  unfold updI
  by_cases e : j' = j
  · subst e
    rw [Array.getElem?_setIfInBounds, if_pos rfl, if_pos (by omega), if_pos rfl]
  · rw [Array.getElem?_setIfInBounds, if_neg (by omega), hC j' hj', if_neg e]
end
/-- All that the law holds on to: the table, how often each number was given, who has which. -/
structure E3 (W : World) (b eb fb : Nat) (w : World) (T : Nat → Sone) (e f : Nat → Int) : Prop where
  tab : Tab b w T
  eps : Nm eb 17 31 w e
  at_ : Nm fb 4 32 w f
  far : Far W.heap.size W w
  ne : W.heap.size ≤ b ∧ b < eb ∧ eb < fb
section
variable {W w w' : World} {b eb fb : Nat} {T T' : Nat → Sone} {e f : Nat → Int}
theorem E3.put (h : E3 W b eb fb w T e f) (k : Gro (some b) w w') (hp : Tab b w' T') : E3 W b eb fb w' T' e f :=
  ⟨hp, h.eps.gro (by decide) k (by have := h.ne; simp; omega), h.at_.gro (by decide) k (by have := h.ne; simp; omega), h.far.gro k h.far.size (fun g e => by cases e; have := h.ne; omega), h.ne⟩
theorem E3.same (h : E3 W b eb fb w T e f) (k : Gro none w w') : E3 W b eb fb w' T e f :=
  ⟨h.tab.gro k (by simp), h.eps.gro (by decide) k (by simp), h.at_.gro (by decide) k (by simp), h.far.gro k h.far.size (fun g e => by cases e), h.ne⟩
theorem E3.markE (h : E3 W b eb fb w T e f) (j : Nat) (x : Int) : E3 W b eb fb (w.setCell ⟨eb, j, none⟩ (.int .i64 x)) T (updI e j x) f := by
  have k : Gro (some eb) w (w.setCell ⟨eb, j, none⟩ (.int .i64 x)) := (Gro.refl _ _).setCell _ _
  exact ⟨h.tab.gro k (by have := h.ne; simp; omega), h.eps.set j x, h.at_.gro (by decide) k (by have := h.ne; simp; omega), h.far.gro k h.far.size (fun g e => by cases e; have := h.ne; omega), h.ne⟩
theorem E3.markF (h : E3 W b eb fb w T e f) (j : Nat) (x : Int) : E3 W b eb fb (w.setCell ⟨fb, j, none⟩ (.int .i64 x)) T e (updI f j x) := by
  have k : Gro (some fb) w (w.setCell ⟨fb, j, none⟩ (.int .i64 x)) := (Gro.refl _ _).setCell _ _
  exact ⟨h.tab.gro k (by have := h.ne; simp; omega), h.eps.gro (by decide) k (by have := h.ne; simp; omega), h.at_.set j x, h.far.gro k h.far.size (fun g e => by cases e; have := h.ne; omega), h.ne⟩
end
def EInv (W : World) (b eb fb len : Nat) (i : Value) (wr : World) : Prop :=
  ∃ (k : Nat) (T : Nat → Sone) (p : Nat → Nat) (e : Nat → Int), k ≤ len ∧ i = .int .i64 k ∧ E3 W b eb fb wr T e (fun q => (p q : Int)) ∧ EpI T p k ∧ ∀ j, j < 16 → e (j + 1) = (T j).ep
theorem e3_new (W w : World) (hf : Far W.heap.size W w) (O1 O2 : Obj) (h1 : O1 = .cells #[.int .i64 0, .int .i64 0, .int .i64 0, .int .i64 0, .int .i64 0, .int .i64 0, .int .i64 0, .int .i64 0, .int .i64 0, .int .i64 0, .int .i64 0, .int .i64 0, .int .i64 0, .int .i64 0, .int .i64 0, .int .i64 0, .int .i64 0] 31) (h2 : O2 = .cells #[.int .i64 0, .int .i64 0, .int .i64 0, .int .i64 0] 32) :
    E3 W w.heap.size (w.alloc tabZ).heap.size ((w.alloc tabZ).alloc O1).heap.size (((w.alloc tabZ).alloc O1).alloc O2) (fun _ => Sone.zero) (fun _ => 0) (fun q => (((fun _ => 0 : Nat → Nat) q : Nat) : Int)) := by
  subst h1 h2
  have g1 : ∀ (w : World) (o : Obj), Gro none w (w.alloc o) := fun w o => (Gro.refl _ _).alloc o
  refine ⟨((tab_new w).alloc _).alloc _, Nm.gro ⟨_, heap_alloc_new _ _, rfl, fun j hj => ?_⟩ (by decide) (g1 _ _) (by simp), ⟨_, heap_alloc_new _ _, rfl, fun j hj => ?_⟩, ?_, by simp; exact hf.size⟩
  · rcases (show j = 16 ∨ j < 16 from by omega) with rfl | h
    · rfl
    · exact all16 (P := fun j => (#[.int .i64 0, .int .i64 0, .int .i64 0, .int .i64 0, .int .i64 0, .int .i64 0, .int .i64 0, .int .i64 0, .int .i64 0, .int .i64 0, .int .i64 0, .int .i64 0, .int .i64 0, .int .i64 0, .int .i64 0, .int .i64 0, .int .i64 0] : Array Value)[j]? = some (.int .i64 0)) rfl rfl rfl rfl rfl rfl rfl rfl rfl rfl rfl rfl rfl rfl rfl rfl j h
  · rcases (show j = 0 ∨ j = 1 ∨ j = 2 ∨ j = 3 from by omega) with rfl | rfl | rfl | rfl <;> rfl
  · exact ((hf.gro (g1 _ _) hf.size (fun _ e => by cases e)).gro (g1 _ _) (by simp; have := hf.size; omega) (fun _ e => by cases e)).gro (g1 _ _) (by simp; have := hf.size; omega) (fun _ e => by cases e)

theorem upd_cast (p : Nat → Nat) (q v : Nat) : updI (fun q => (p q : Int)) q v = fun i => ((updN p q v i : Nat) : Int) := by
  funext i
  unfold updI updN
  split <;> rfl
theorem E3.cast {W w : World} {b eb fb : Nat} {T : Nat → Sone} {e : Nat → Int} {p : Nat → Nat} {q : Nat} {v : Nat} (h : E3 W b eb fb w T e (updI (fun q => (p q : Int)) q v)) : E3 W b eb fb w T e (fun i => ((updN p q v i : Nat) : Int)) := upd_cast p q v ▸ h
theorem ep_gone {T : Nat → Sone} {e : Nat → Int} (h : ∀ j, j < 16 → e (j + 1) = (T j).ep) (m : Nat) (a : Ad) (t : Bool) : ∀ j, j < 16 → e (j + 1) = (updT T m ⟨t, a, (T m).ep⟩ j).ep := by
  intro j hj
  unfold updT
  split
  · rename_i h2; subst h2; exact h j hj
  · exact h j hj
theorem ep_come {T : Nat → Sone} {e : Nat → Int} (h : ∀ j, j < 16 → e (j + 1) = (T j).ep) (m : Nat) (hm : m < 16) (a : Ad) (t : Bool) : ∀ j, j < 16 → updI e (m + 1) ((T m).ep + 1) (j + 1) = (updT T m ⟨t, a, (T m).ep + 1⟩ j).ep := by
  intro j hj
  unfold updT updI
  by_cases e2 : j = m
  · subst e2; simp
  · rw [if_neg e2, if_neg (by omega)]; exact h j hj

set_option maxHeartbeats 1000000 in
set_option maxRecDepth 100000 in
theorem epochs_any (B : Nat) (p : Option Addr) (len cap : Nat) (zs : Nat → Int) (W : World) (hB : W.heap.size = B) (hlen : len ≤ 9223372036854775807)
    (hc : ∀ k, k < len → ∃ lb off, p = some ⟨lb, off, none⟩ ∧ W.cell? ⟨lb, off + k, none⟩ = some (.int .i64 (zs k)) ∧ -9223372036854775808 ≤ zs k ∧ zs k ≤ 9223372036854775807) :
    Calls Tryd.prog 3 #[.slice p len cap] W fun e w' => e = .returned (.bool true) ∧ Far B W w' := by
  subst hB
  have HC := Lib.hid hc
  clear hc
  go_enter Tryd.func3, Tryd.ntmps3
  go_wp2_with fail
  refine (first_any W).mono ?_
  rintro e w1 ⟨rfl, hg1⟩
  by_cases hl : 60 < len
  · go_wp2_with fail
    go_ret
    exact ⟨rfl, (Far.refl _ _).gro hg1 (Nat.le_refl _) (fun _ e => by cases e)⟩
  have hF1 : Far W.heap.size W w1 := (Far.refl _ _).gro hg1 (Nat.le_refl _) (fun _ e => by cases e)
  clear hg1
  go_wp2_with (refine wpList_alloc_as rfl 30 rfl tabZ (alloc_run _) ?_)
  have hE0 := e3_new W w1 hF1 _ _ rfl rfl
  simp only [show ∀ (w : World) (o : Obj), (w.alloc o).heap.size = w.heap.size + 1 from fun w o => by simp] at hE0
  have hb0 : w1.heap.size < w1.heap.size + 1 := by omega
  generalize (((w1.alloc tabZ).alloc _).alloc _) = w2 at *
  generalize w1.heap.size + 1 + 1 = fb at *
  generalize w1.heap.size + 1 = eb at *
  generalize w1.heap.size = b at *
  clear hF1 hb0
  go_loopw [7] (fun i wr => EInv W b eb fb len i wr) (fun i _ => len - (intOf i).toNat)
  case atStart => exact ⟨0, _, _, _, Nat.zero_le _, rfl, hE0, EpI.zero, fun _ _ => rfl⟩
  case round =>
    clear hE0
    obtain ⟨k, T, p, e, hk, rfl, h3, hI, hep⟩ := hrel
    by_cases hlt : k < len
    · obtain ⟨lb, off, rfl, hcW, hz1, hz2⟩ := HC.out k hlt
      have hcell : wr.cell? ⟨lb, off + k, none⟩ = some (.int .i64 (zs k)) := (h3.far.cell (block_lt_of_cell hcW)).trans hcW
      clear HC hcW
      generalize zs k = z at *
      obtain ⟨q, hq⟩ := Int.eq_ofNat_of_zero_le (Int.emod_nonneg z (show (4 : Int) ≠ 0 by decide))
      have hq4 : q < 4 := by have := Int.emod_lt_of_pos z (show (0 : Int) < 4 by decide); omega
      have HQ := Lib.hid hq
      clear hq
      go_wp2_with fail
      refine (number_at z 4 q wr HQ.out (by decide) (by decide)).mono ?_
      rintro e' w' ⟨rfl, rfl⟩
      have h3a := h3.same ((Gro.refl none wr).alloc (.cells #[.int .u8 2, .int .u8 q, .int .u8 0, .int .u8 0, .int .u8 0, .int .u8 0] 25))
      have hbx : Hid (∀ w', Gro none (wr.alloc (.cells #[.int .u8 2, .int .u8 q, .int .u8 0, .int .u8 0, .int .u8 0, .int .u8 0] 25)) w' → w'.cell? ⟨wr.heap.size, 0, none⟩ = some (.int .u8 2) ∧ w'.cell? ⟨wr.heap.size, 1, none⟩ = some (.int .u8 q) ∧ w'.cell? ⟨wr.heap.size, 2, none⟩ = some (.int .u8 0) ∧ w'.cell? ⟨wr.heap.size, 3, none⟩ = some (.int .u8 0) ∧ w'.cell? ⟨wr.heap.size, 4, none⟩ = some (.int .u8 0) ∧ w'.cell? ⟨wr.heap.size, 5, none⟩ = some (.int .u8 0) ∧ wr.heap.size < w'.heap.size) := fun w' k => box_cells (x := adQ q) rfl k
      by_cases hp : p q = 0
      · obtain ⟨j, hj4, hbus, hfree⟩ := hI.free hq4 hp
        have HF := Lib.hid (find_any b (adQ q) 16 _ T h3a.tab (by omega) (hI.none hp) (by omega))
        rw [show findI 16 = 0 from rfl, show decide (16 < 16) = false from rfl] at HF
        have HN := Lib.hid (hI.none hp)
        have HI := Lib.hid (hI.come hq4 hp hj4 hfree)
        have HE := Lib.hid (ep_come hep j (by omega) (adQ q) true)
        have hej := hep j (by omega)
        obtain ⟨ep0, ep1⟩ := hI.ep j (by omega)
        clear hI hep h3
        go_wp2_with fail
        refine HF.out.mono ?_
        rintro e' w4 ⟨rfl, hg4⟩
        have h4 := h3a.same hg4
        have cq := h4.at_.cell q hq4
        simp only [hp, Int.ofNat_zero] at cq
        obtain ⟨b0, b1, b2, b3, b4, b5, hbs⟩ := hbx.out _ hg4
        have HA := Lib.hid (add_new b (adQ q) j (T j).ep w4 T h4.tab (show (0 : Int) ≤ 2 by decide) (show (2 : Int) < 256 by decide) (by simp [fairA, adQ, eqA, adZ]) HN.out (by omega) hbus hfree rfl ep0 (by omega))
        clear h3a hbx HF hg4
        go_wp2_with fail
        refine HA.out.mono ?_
        rintro e' w5 ⟨rfl, hg5, hT5⟩
        have h5 := h4.put hg5 hT5
        clear h4 cq b0 b1 b2 b3 b4 b5 hbs HA hg5 hT5 HN
        have ce := h5.eps.cell (j + 1) (by omega)
        have fe := h5.eps.fr (j + 1)
        have h6 := h5.markE (j + 1) ((T j).ep + 1)
        have cf := h5.at_.cell q hq4
        have ff := h5.at_.fr q
        obtain ⟨ne0, ne1, ne2⟩ := h5.ne
        have hbl := h5.tab.lt
        have H7 := Lib.hid (h6.markF q ((j : Int) + 1))
        clear h5 h6
        rw [hej] at ce
        clear hej
        generalize (T j).ep = v at *
        go_wp2_with fail
        generalize World.setCell _ _ _ = w7 at *
        have h7 := H7.out
        have HB := Lib.hid (addr_there b (j + 1) j w7 _ h7.tab (by omega) rfl (by rw [updT_same]))
        rw [updT_same] at HB
        simp only [adV, adQ] at HB
        clear ce fe cf ff
        refine HB.out.mono ?_
        rintro e' w8 ⟨rfl, hg8⟩
        have h8 := h7.same hg8
        clear h7 HB hg8 H7
        have h9 := h8.same ((Gro.refl none w8).alloc (.cells #[.int .u8 2, .int .u8 q, .int .u8 0, .int .u8 0, .int .u8 0, .int .u8 0] 25))
        have bx1 : (w8.alloc (.cells #[.int .u8 2, .int .u8 q, .int .u8 0, .int .u8 0, .int .u8 0, .int .u8 0] 25)).cell? ⟨w8.heap.size, 1, none⟩ = some (.int .u8 q) := (box_cells (x := adQ q) rfl (Gro.refl none _)).2.1
        have ce := h9.eps.cell (j + 1) (by omega)
        simp only [updI, if_true] at ce
        have HE2 : Hid (∀ n, Calls Tryd.prog 12 #[.pointer (some ⟨b, 0, none⟩), .int .i64 ((j : Int) + 1)] ((w8.alloc (.cells #[.int .u8 2, .int .u8 q, .int .u8 0, .int .u8 0, .int .u8 0, .int .u8 0] 25)).drewN n) fun e w' => e = .returned (.int .i64 (v + 1)) ∧ w' = (w8.alloc (.cells #[.int .u8 2, .int .u8 q, .int .u8 0, .int .u8 0, .int .u8 0, .int .u8 0] 25)).drewN n) := fun n =>
          (epoch_in b _ j _ _ (h9.same ((Gro.refl _ _).drewN n)).tab (by omega) rfl).mono fun e w' ⟨he, hw⟩ => ⟨by rw [he, updT_same], hw.symm⟩
        have hG : Hid (∀ n, E3 W b eb fb ((w8.alloc (.cells #[.int .u8 2, .int .u8 q, .int .u8 0, .int .u8 0, .int .u8 0, .int .u8 0] 25)).drewN n) _ _ _) := fun n => h9.same ((Gro.refl _ _).drewN n)
        clear h8 h9
        go_wp2_with fail
        generalize w8.alloc _ = w9 at *
        generalize w8.heap.size = bx at *
        go_quiet ((go_at_call 12; exact Calls.quiet_of_same (HE2.out _)))
        go_wp2_with fail
        go_roundw
        case rel => exact ⟨k + 1, _, _, _, by omega, by go_num, E3.cast (v := j + 1) (hG.out _), HI.out, HE.out⟩
        case measure => simp [intOf]; omega
      · have hle := hI.le q hq4
        have hpp : p q - 1 < 16 := by omega
        have hpi : ((p q : Nat) : Int) = ((p q - 1 : Nat) : Int) + 1 := by omega
        have hfi : findI (p q - 1) = (p q : Int) := by unfold findI; rw [if_pos hpp]; omega
        have HF := Lib.hid (find_any b (adQ q) (p q - 1) _ T h3a.tab (by omega) (hI.before hq4) (fun _ => hI.hit hq4 hp))
        rw [hfi, decide_eq_true hpp] at HF
        have HI := Lib.hid (hI.gone hq4 hp)
        have HE := Lib.hid (ep_gone hep (p q - 1) adZ false)
        have hth := (hI.at_ q hq4 hp).1
        clear hI hep h3
        go_wp2_with fail
        refine HF.out.mono ?_
        rintro e' w4 ⟨rfl, hg4⟩
        have h4 := h3a.same hg4
        have cq := h4.at_.cell q hq4
        have HD := Lib.hid (del_there b (p q) (p q - 1) w4 T h4.tab hpp hpi hth)
        clear h3a hbx HF hth hg4
        generalize hn : p q = n at *
        have hpos : 0 < n := by omega
        clear hpi hfi
        go_wp2_with fail
        refine HD.out.mono ?_
        rintro e' w5 ⟨rfl, hg5, hT5⟩
        have h5 := h4.put hg5 hT5
        have fr := h5.at_.fr q
        have cq5 := h5.at_.cell q hq4
        have H6 := Lib.hid (h5.markF q ((0 : Nat) : Int)).cast
        clear h4 cq HD hg5 hT5 h5
        go_wp2_with fail
        go_roundw
        case rel => exact ⟨k + 1, _, _, _, by omega, by go_num, H6.out, HI.out, HE.out⟩
        case measure => simp [intOf]; omega
    · obtain rfl : k = len := by omega
      go_wp2_with fail
      go_ret
      exact ⟨rfl, h3.far⟩
end Go.Proofs.YtiegcfgedhgpnaaDoor
