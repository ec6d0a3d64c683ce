/-
  BOTH POWERS, THE CODE's AND THE DOCUMENT's, TOLD THE SAME: they say the same, and stay the same but for what is left of a period that is not open. Conditions: both blocks are whole; the sentinels lie.
-/
import Derived.Test.YtkklnocbbpaipaaDoorPsDY
namespace Go.Proofs.YtkklnocbbpaipaaDoor
open Go.RowKit

def EqO (o d : One) : Prop := d = { o with left := d.left } ∧ (o.op = true → d.left = o.left ∧ 0 ≤ o.left ∧ o.left ≤ 8 ∧ (0 < o.most → 1 ≤ o.left)) ∧ 0 ≤ o.most ∧ o.most ≤ 8
def EqP (P D : Nat → One) : Prop := ∀ j, j < 16 → EqO (P j) (D j)
theorem EqP.upd {P D : Nat → One} (h : EqP P D) (j : Nat) {o d : One} (k : EqO o d) : EqP (updP P j o) (updP D j d) := by
  intro i hi
  by_cases e : i = j
  · subst e; rw [updP_same, updP_same]; exact k
  · rw [updP_other _ _ _ _ e, updP_other _ _ _ _ e]; exact h i hi
section
variable {o d : One}
theorem EqO.th (h : EqO o d) : d.th = o.th := by
  have := congrArg One.th h.1
  exact this
theorem EqO.sl (h : EqO o d) : d.sl = o.sl := by
  have := congrArg One.sl h.1
  exact this
theorem EqO.po (h : EqO o d) : d.po = o.po := by
  have := congrArg One.po h.1
  exact this
theorem EqO.op (h : EqO o d) : d.op = o.op := by
  have := congrArg One.op h.1
  exact this
theorem EqO.u (h : EqO o d) (ac : Int) : uOf d ac = uOf o ac := by
  have := congrArg (fun x => uOf x ac) h.1
  exact this
theorem EqO.may (h : EqO o d) (ac : Int) : mayO d ac = mayO o ac := by
  have := congrArg (fun x => mayO x ac) h.1
  exact this
theorem EqO.trig (h : EqO o d) (ac : Int) : trigOk d ac = trigOk o ac := by
  have := congrArg (fun x => trigOk x ac) h.1
  exact this
theorem EqO.zero : EqO One.zero One.zero := ⟨rfl, fun e => (by cases e), by decide, by decide⟩
theorem EqO.new (u0 u1 u2 u3 : Bool) (m : Int) (h0 : 0 ≤ m) (h8 : m ≤ 8) : EqO ⟨true, false, false, false, u0, u1, u2, u3, m, 0⟩ ⟨true, false, false, false, u0, u1, u2, u3, m, 0⟩ := ⟨rfl, fun e => (by cases e), h0, h8⟩
theorem EqO.doze (h : EqO o d) (on : Bool) : EqO (dozeO o on) (ddozeO d on) := by
  have hs := h.sl
  unfold dozeO ddozeO
  rw [hs]
  by_cases e : o.sl = on
  · rw [if_pos e, if_pos e]; exact h
  · rw [if_neg e, if_neg e]
    obtain ⟨h1, h2, h3⟩ := h
    refine ⟨?_, fun e => (by cases e), h3⟩
    rw [h1]
theorem EqO.poll (h : EqO o d) (x : Bool) : EqO { o with po := x } { d with po := x } := by
  obtain ⟨h1, h2, h3⟩ := h
  refine ⟨?_, h2, h3⟩
  rw [h1]
theorem EqO.close (h : EqO o d) : EqO { o with op := false, left := 0 } { d with op := false } := by
  obtain ⟨h1, h2, h3⟩ := h
  refine ⟨?_, fun e => (by cases e), h3⟩
  rw [h1]
theorem EqO.trigger (h : EqO o d) : EqO { o with op := true, left := o.most } { d with op := true, left := d.most } := by
  have hm : d.most = o.most := by have := congrArg One.most h.1; exact this
  obtain ⟨h1, h2, h3⟩ := h
  refine ⟨?_, fun _ => ⟨hm, h3.1, h3.2, fun h => h⟩, h3⟩
  rw [h1]
theorem EqO.last (h : EqO o d) (ho : o.op = true) : lastO d = lastO o := by
  have hm : d.most = o.most := by have := congrArg One.most h.1; exact this
  unfold lastO
  rw [hm, (h.2.1 ho).1]
theorem EqO.sent (h : EqO o d) (ho : o.op = true) (more : Bool) : EqO (sentO o more) (dsentO d more) := by
  have hm : d.most = o.most := by have := congrArg One.most h.1; exact this
  have hl := h.last ho
  obtain ⟨e1, e2, e3, e4⟩ := h.2.1 ho
  unfold sentO dsentO
  rw [hl]
  by_cases hx : (lastO o || !more) = true
  · rw [if_pos hx, if_pos hx]
    obtain ⟨h1, h2, h3⟩ := h
    refine ⟨?_, fun e => (by cases e), h3⟩
    rw [h1]
  · rw [if_neg hx, if_neg hx, hm]
    by_cases hp : 0 < o.most
    · rw [if_pos hp, if_pos hp]
      have hne : o.left - 1 ≠ 0 := by
        intro e
        apply hx
        unfold lastO
        rw [decide_eq_true hp, e]
        rfl
      have h4 := e4 hp
      obtain ⟨h1, h2, h3⟩ := h
      refine ⟨?_, fun _ => ⟨by rw [e1], by simp only; omega, by simp only; omega, fun _ => by simp only; omega⟩, h3⟩
      rw [h1]
    · rw [if_neg hp, if_neg hp, ← hm]
      exact h
end
theorem EqP.gone {P D : Nat → One} (h : EqP P D) {a : Int} (hg : Gone P a) : Gone D a := by
  rcases hg with hg | ⟨j, hj, ha, ht⟩
  · exact .inl hg
  · exact .inr ⟨j, hj, ha, (h j hj).th.trans ht⟩
theorem gone_or (P : Nat → One) (a : Int) : Gone P a ∨ ∃ j : Nat, j < 16 ∧ a = j + 1 ∧ (P j).th = true := by
  by_cases ha : 1 ≤ a ∧ a ≤ 16
  · obtain ⟨j, hj, rfl⟩ : ∃ j : Nat, j < 16 ∧ a = j + 1 := ⟨(a - 1).toNat, by omega, by omega⟩
    cases ht : (P j).th with
    | true => exact .inr ⟨j, hj, rfl, ht⟩
    | false => exact .inl (.inr ⟨j, hj, rfl, ht⟩)
  · exact .inl (.inl (by omega))
section
variable {F : Nat} {args : Array Value} {w : World} {v : Value} {b : Nat} {P : Nat → One}
theorem c_none (h : Pow b w P) (hc : Calls Tryd.prog F args w fun e w' => e = .returned v ∧ Gro none w w') : Calls Tryd.prog F args w fun e w' => e = .returned v ∧ Gro (some b) w w' ∧ Pow b w' P :=
  hc.mono fun e w' ⟨he, hg⟩ => ⟨he, hg.weak, h.gro hg (by simp)⟩
theorem g_same (hc : Calls Tryd.prog F args w fun e w' => e = .returned v ∧ w = w') : Calls Tryd.prog F args w fun e w' => e = .returned v ∧ Gro none w w' :=
  hc.mono fun e w' ⟨he, hg⟩ => ⟨he, hg ▸ Gro.refl _ _⟩
theorem d_none (h : DPow b w P) (hc : Calls Tryd.prog F args w fun e w' => e = .returned v ∧ Gro none w w') : Calls Tryd.prog F args w fun e w' => e = .returned v ∧ Gro (some b) w w' ∧ DPow b w' P :=
  hc.mono fun e w' ⟨he, hg⟩ => ⟨he, hg.weak, h.gro hg (by simp)⟩
end
theorem both_doze (a : Int) (on : Bool) (P D : Nat → One) (h : EqP P D) :
    ∃ (k : Nat) (P' D' : Nat → One), k < 15 ∧ EqP P' D' ∧
      (∀ b w A B, Sent B w A → B ≤ w.heap.size → Pow b w P → Calls Tryd.prog 10 #[.pointer (some ⟨b, 0, none⟩), .int .i64 a, .bool on] w fun e w' => e = .returned (errV A k) ∧ Gro (some b) w w' ∧ Pow b w' P') ∧
      (∀ b w, DPow b w D → Calls Tryd.prog 23 #[.pointer (some ⟨b, 0, none⟩), .int .i64 a, .bool on] w fun e w' => e = .returned (.int .i64 (codeOf k)) ∧ Gro (some b) w w' ∧ DPow b w' D') := by
  rcases gone_or P a with hg | ⟨j, hj, ha, ht⟩
  · exact ⟨7, P, D, by decide, h, fun b w A B hs hB hp => c_none hp (g_same (doze_nil b a on _ w P hp hg hs.c6)), fun b w hd => d_none hd (g_same (ddoze_nil b a on w D hd (h.gone hg)))⟩
  · exact ⟨0, updP P j (dozeO (P j) on), updP D j (ddozeO (D j) on), by decide, h.upd j ((h j hj).doze on), fun b w A B hs hB hp => doze_there b a on j w P hp hj ha ht, fun b w hd => ddoze_there b a on j w D hd hj ha ((h j hj).th.trans ht)⟩
theorem both_poll (a : Int) (P D : Nat → One) (h : EqP P D) :
    ∃ (k : Nat) (P' D' : Nat → One), k < 15 ∧ EqP P' D' ∧
      (∀ b w A B, Sent B w A → B ≤ w.heap.size → Pow b w P → Calls Tryd.prog 11 #[.pointer (some ⟨b, 0, none⟩), .int .i64 a] w fun e w' => e = .returned (errV A k) ∧ Gro (some b) w w' ∧ Pow b w' P') ∧
      (∀ b w, DPow b w D → Calls Tryd.prog 24 #[.pointer (some ⟨b, 0, none⟩), .int .i64 a] w fun e w' => e = .returned (.int .i64 (codeOf k)) ∧ Gro (some b) w w' ∧ DPow b w' D') := by
  rcases gone_or P a with hg | ⟨j, hj, ha, ht⟩
  · exact ⟨7, P, D, by decide, h, fun b w A B hs hB hp => c_none hp (g_same (poll_nil b a _ w P hp hg hs.c6)), fun b w hd => d_none hd (g_same (dpoll_nil b a w D hd (h.gone hg)))⟩
  · have dt := (h j hj).th.trans ht
    by_cases hq : (P j).sl = true ∧ (P j).op = false
    · exact ⟨0, updP P j { P j with po := true }, updP D j { D j with po := true }, by decide, h.upd j ((h j hj).poll true), fun b w A B hs hB hp => poll_there b a j w P hp hj ha ht hq.1 hq.2, fun b w hd => dpoll_there b a j w D hd hj ha dt ((h j hj).sl.trans hq.1) ((h j hj).op.trans hq.2)⟩
    · have hq' : (P j).sl = false ∨ (P j).op = true := by
        cases e1 : (P j).sl <;> cases e2 : (P j).op <;> simp_all
      have hd' : (D j).sl = false ∨ (D j).op = true := by rw [(h j hj).sl, (h j hj).op]; exact hq'
      exact ⟨10, P, D, by decide, h, fun b w A B hs hB hp => c_none hp (g_same (poll_state b a _ j w P hp hj ha ht hq' hs.c9)), fun b w hd => d_none hd (g_same (dpoll_state b a j w D hd hj ha dt hd'))⟩
theorem both_close (a : Int) (P D : Nat → One) (h : EqP P D) :
    ∃ (k : Nat) (P' D' : Nat → One), k < 15 ∧ EqP P' D' ∧
      (∀ b w A B, Sent B w A → B ≤ w.heap.size → Pow b w P → Calls Tryd.prog 19 #[.pointer (some ⟨b, 0, none⟩), .int .i64 a] w fun e w' => e = .returned (errV A k) ∧ Gro (some b) w w' ∧ Pow b w' P') ∧
      (∀ b w, DPow b w D → Calls Tryd.prog 27 #[.pointer (some ⟨b, 0, none⟩), .int .i64 a] w fun e w' => e = .returned (.int .i64 (codeOf k)) ∧ Gro (some b) w w' ∧ DPow b w' D') := by
  rcases gone_or P a with hg | ⟨j, hj, ha, ht⟩
  · exact ⟨7, P, D, by decide, h, fun b w A B hs hB hp => c_none hp (g_same (close_nil b a _ w P hp hg hs.c6)), fun b w hd => d_none hd (g_same (dclose_nil b a w D hd (h.gone hg)))⟩
  · have dt := (h j hj).th.trans ht
    cases ho : (P j).op with
    | true => exact ⟨0, updP P j { P j with op := false, left := 0 }, updP D j { D j with op := false }, by decide, h.upd j (h j hj).close, fun b w A B hs hB hp => close_ok b a j w P hp hj ha ht ho, fun b w hd => dclose_ok b a j w D hd hj ha dt ((h j hj).op.trans ho)⟩
    | false => exact ⟨10, P, D, by decide, h, fun b w A B hs hB hp => c_none hp (g_same (close_no b a _ j w P hp hj ha ht ho hs.c9)), fun b w hd => d_none hd (g_same (dclose_no b a j w D hd hj ha dt ((h j hj).op.trans ho)))⟩
theorem both_trigger (a ac : Int) (P D : Nat → One) (h : EqP P D) :
    ∃ (k : Nat) (P' D' : Nat → One), k < 15 ∧ EqP P' D' ∧
      (∀ b w A B, Sent B w A → B ≤ w.heap.size → Pow b w P → Calls Tryd.prog 17 #[.pointer (some ⟨b, 0, none⟩), .int .i64 a, .int .i64 ac] w fun e w' => e = .returned (errV A k) ∧ Gro (some b) w w' ∧ Pow b w' P') ∧
      (∀ b w, DPow b w D → Calls Tryd.prog 25 #[.pointer (some ⟨b, 0, none⟩), .int .i64 a, .int .i64 ac] w fun e w' => e = .returned (.int .i64 (codeOf k)) ∧ Gro (some b) w w' ∧ DPow b w' D') := by
  rcases gone_or P a with hg | ⟨j, hj, ha, ht⟩
  · exact ⟨7, P, D, by decide, h, fun b w A B hs hB hp => c_none hp (g_same (trigger_nil b a ac _ w P hp hg hs.c6)), fun b w hd => d_none hd (g_same (dtrigger_nil b a ac w D hd (h.gone hg)))⟩
  · have dt := (h j hj).th.trans ht
    by_cases hf : 0 ≤ ac ∧ ac < 4
    · cases ho : trigOk (P j) ac with
      | true => exact ⟨0, updP P j { P j with op := true, left := (P j).most }, updP D j { D j with op := true, left := (D j).most }, by decide, h.upd j (h j hj).trigger, fun b w A B hs hB hp => trigger_ok b a ac j w P hp hj ha ht hf.1 hf.2 ho, fun b w hd => dtrigger_ok b a ac j w D hd hj ha dt hf.1 hf.2 (((h j hj).trig ac).trans ho)⟩
      | false => exact ⟨10, P, D, by decide, h, fun b w A B hs hB hp => c_none hp (g_same (trigger_no b a ac _ j w P hp hj ha ht hf.1 hf.2 ho hs.c9)), fun b w hd => d_none hd (g_same (dtrigger_no b a ac j w D hd hj ha dt hf.1 hf.2 (((h j hj).trig ac).trans ho)))⟩
    · exact ⟨3, P, D, by decide, h, fun b w A B hs hB hp => c_none hp (g_same (trigger_far b a ac _ j w P hp hj ha ht (by omega) hs.c2)), fun b w hd => d_none hd (g_same (dtrigger_far b a ac j w D hd hj ha dt (by omega)))⟩
theorem both_add (a most : Int) (u0 u1 u2 u3 : Bool) (P D : Nat → One) (h : EqP P D) :
    ∃ (k : Nat) (P' D' : Nat → One), k < 15 ∧ EqP P' D' ∧
      (∀ b w A B, Sent B w A → B ≤ w.heap.size → Pow b w P → Calls Tryd.prog 8 #[.pointer (some ⟨b, 0, none⟩), .int .i64 a, .agg #[.bool u0, .bool u1, .bool u2, .bool u3], .int .i64 most] w fun e w' => e = .returned (errV A k) ∧ Gro (some b) w w' ∧ Pow b w' P') ∧
      (∀ b w, DPow b w D → Calls Tryd.prog 21 #[.pointer (some ⟨b, 0, none⟩), .int .i64 a, .agg #[.bool u0, .bool u1, .bool u2, .bool u3], .int .i64 most] w fun e w' => e = .returned (.int .i64 (codeOf k)) ∧ Gro (some b) w w' ∧ DPow b w' D') := by
  by_cases hr : (a < 1 ∨ 16 < a) ∨ most < 0 ∨ 8 < most
  · exact ⟨3, P, D, by decide, h, fun b w A B hs hB hp => c_none hp (add_range _ _ a most _ w rfl hr hs.c2 (by have := hs.big; omega)), fun b w hd => d_none hd (dadd_range _ a most u0 u1 u2 u3 w hr)⟩
  · have m0 : 0 ≤ most := by omega
    have m8 : most ≤ 8 := by omega
    obtain ⟨j, hj, ha⟩ : ∃ j : Nat, j < 16 ∧ a = j + 1 := ⟨(a - 1).toNat, by omega, by omega⟩
    cases ht : (P j).th with
    | true => exact ⟨8, P, D, by decide, h, fun b w A B hs hB hp => c_none hp (add_twice b a most u0 u1 u2 u3 _ j w P hp hj ha ht m0 m8 hs.c7 (by have := hs.big; omega)), fun b w hd => d_none hd (dadd_twice b a most u0 u1 u2 u3 j w D hd hj ha ((h j hj).th.trans ht) m0 m8)⟩
    | false => exact ⟨0, _, _, by decide, h.upd j (EqO.new u0 u1 u2 u3 most m0 m8), fun b w A B hs hB hp => add_in b a most u0 u1 u2 u3 j w P hp hj ha ht m0 m8, fun b w hd => dadd_in b a most u0 u1 u2 u3 j w D hd hj ha ((h j hj).th.trans ht) m0 m8⟩
theorem both_del (a : Int) (P D : Nat → One) (h : EqP P D) :
    ∃ (P' D' : Nat → One), EqP P' D' ∧
      (∀ b w A B, Sent B w A → B ≤ w.heap.size → Pow b w P → Calls Tryd.prog 12 #[.pointer (some ⟨b, 0, none⟩), .int .i64 a] w fun e w' => e = .returned (.tuple #[]) ∧ Gro (some b) w w' ∧ Pow b w' P') ∧
      (∀ b w, DPow b w D → Calls Tryd.prog 22 #[.pointer (some ⟨b, 0, none⟩), .int .i64 a] w fun e w' => e = .returned (.tuple #[]) ∧ Gro (some b) w w' ∧ DPow b w' D') := by
  rcases gone_or P a with hg | ⟨j, hj, ha, ht⟩
  · exact ⟨P, D, h, fun b w A B hs hB hp => c_none hp (g_same (del_nil b a w P hp hg)), fun b w hd => d_none hd (g_same (ddel_nil b a w D hd (h.gone hg)))⟩
  · exact ⟨updP P j One.zero, updP D j One.zero, h.upd j EqO.zero, fun b w A B hs hB hp => del_there b a j w P hp hj ha ht, fun b w hd => ddel_there b a j w D hd hj ha ((h j hj).th.trans ht)⟩
theorem both_sent (a ac : Int) (more : Bool) (P D : Nat → One) (h : EqP P D) :
    ∃ (r : Bool) (k : Nat) (P' D' : Nat → One), k < 15 ∧ EqP P' D' ∧
      (∀ b w A B, Sent B w A → B ≤ w.heap.size → Pow b w P → Calls Tryd.prog 16 #[.pointer (some ⟨b, 0, none⟩), .int .i64 a, .int .i64 ac, .bool more] w fun e w' => e = .returned (.tuple #[.bool r, errV A k]) ∧ Gro (some b) w w' ∧ Pow b w' P') ∧
      (∀ b w, DPow b w D → Calls Tryd.prog 26 #[.pointer (some ⟨b, 0, none⟩), .int .i64 a, .int .i64 ac, .bool more] w fun e w' => e = .returned (.tuple #[.bool r, .int .i64 (codeOf k)]) ∧ Gro (some b) w w' ∧ DPow b w' D') := by
  rcases gone_or P a with hg | ⟨j, hj, ha, ht⟩
  · exact ⟨false, 7, P, D, by decide, h, fun b w A B hs hB hp => c_none hp (sent_nil b a ac more _ w P hp hg hs.c6), fun b w hd => d_none hd (g_same (dsent_nil b a ac more w D hd (h.gone hg)))⟩
  · have dt := (h j hj).th.trans ht
    by_cases hf : 0 ≤ ac ∧ ac < 4
    case neg => exact ⟨false, 3, P, D, by decide, h, fun b w A B hs hB hp => c_none hp (sent_far b a ac more _ j w P hp hj ha ht (by omega) hs.c2), fun b w hd => d_none hd (g_same (dsent_far b a ac more j w D hd hj ha dt (by omega)))⟩
    cases hm : mayO (P j) ac with
    | false => exact ⟨false, 10, P, D, by decide, h, fun b w A B hs hB hp => c_none hp (sent_no b a ac more _ j w P hp hj ha ht hf.1 hf.2 hm hs.c9), fun b w hd => d_none hd (dsent_no b a ac more j w D hd hj ha dt hf.1 hf.2 (((h j hj).may ac).trans hm))⟩
    | true =>
      cases hs0 : (P j).sl with
      | false => exact ⟨false, 0, P, D, by decide, h, fun b w A B hs hB hp => c_none hp (g_same (sent_awake b a ac more j w P hp hj ha ht hf.1 hf.2 hs0)), fun b w hd => d_none hd (dsent_awake b a ac more j w D hd hj ha dt hf.1 hf.2 ((h j hj).sl.trans hs0))⟩
      | true =>
        have ds := (h j hj).sl.trans hs0
        cases hp0 : (P j).po with
        | true => exact ⟨false, 0, _, _, by decide, h.upd j ((h j hj).poll false), fun b w A B hs hB hp => sent_polled b a ac more j w P hp hj ha ht hf.1 hf.2 hs0 hp0, fun b w hd => dsent_polled b a ac more j w D hd hj ha dt hf.1 hf.2 ds ((h j hj).po.trans hp0)⟩
        | false =>
          have hou : (P j).op = true ∧ uOf (P j) ac = true := by simpa [mayO, hs0, hp0] using hm
          have hop := (h j hj).2.1 hou.1
          refine ⟨lastO (P j) || !more, 0, _, _, by decide, h.upd j ((h j hj).sent hou.1 more), fun b w A B hs hB hp => sent_period b a ac more j w P hp hj ha ht hf.1 hf.2 hs0 hp0 hou.1 hou.2 (by omega) (by omega), fun b w hd => ?_⟩
          have := dsent_period b a ac more j w D hd hj ha dt hf.1 hf.2 ds ((h j hj).po.trans hp0) ((h j hj).op.trans hou.1) (((h j hj).u ac).trans hou.2) (by omega) (by omega)
          rwa [(h j hj).last hou.1] at this
theorem both_asleep (a : Int) (P D : Nat → One) (h : EqP P D) :
    ∃ r : Bool, (∀ b w, Pow b w P → Calls Tryd.prog 14 #[.pointer (some ⟨b, 0, none⟩), .int .i64 a] w fun e w' => e = .returned (.bool r) ∧ Gro none w w') ∧
      (∀ b w, DPow b w D → Calls Tryd.prog 28 #[.pointer (some ⟨b, 0, none⟩), .int .i64 a] w fun e w' => e = .returned (.bool r) ∧ Gro none w w') := by
  rcases gone_or P a with hg | ⟨j, hj, ha, ht⟩
  · exact ⟨false, fun b w hp => g_same (asleep_nil b a w P hp hg), fun b w hd => g_same (dasleep_nil b a w D hd (h.gone hg))⟩
  · refine ⟨(P j).sl, fun b w hp => g_same (asleep_there b a j w P hp hj ha ht), fun b w hd => ?_⟩
    have := g_same (dasleep_there b a j w D hd hj ha ((h j hj).th.trans ht))
    rwa [(h j hj).sl] at this
theorem both_polled (a : Int) (P D : Nat → One) (h : EqP P D) :
    ∃ r : Bool, (∀ b w, Pow b w P → Calls Tryd.prog 15 #[.pointer (some ⟨b, 0, none⟩), .int .i64 a] w fun e w' => e = .returned (.bool r) ∧ Gro none w w') ∧
      (∀ b w, DPow b w D → Calls Tryd.prog 29 #[.pointer (some ⟨b, 0, none⟩), .int .i64 a] w fun e w' => e = .returned (.bool r) ∧ Gro none w w') := by
  rcases gone_or P a with hg | ⟨j, hj, ha, ht⟩
  · exact ⟨false, fun b w hp => g_same (polled_nil b a w P hp hg), fun b w hd => g_same (dpolled_nil b a w D hd (h.gone hg))⟩
  · refine ⟨(P j).po, fun b w hp => g_same (polled_there b a j w P hp hj ha ht), fun b w hd => ?_⟩
    have := g_same (dpolled_there b a j w D hd hj ha ((h j hj).th.trans ht))
    rwa [(h j hj).po] at this
theorem both_may (a ac : Int) (P D : Nat → One) (h : EqP P D) :
    ∃ r : Bool, (∀ b w, Pow b w P → Calls Tryd.prog 13 #[.pointer (some ⟨b, 0, none⟩), .int .i64 a, .int .i64 ac] w fun e w' => e = .returned (.bool r) ∧ Gro none w w') ∧
      (∀ b w, DPow b w D → Calls Tryd.prog 30 #[.pointer (some ⟨b, 0, none⟩), .int .i64 a, .int .i64 ac] w fun e w' => e = .returned (.bool r) ∧ Gro none w w') := by
  rcases gone_or P a with hg | ⟨j, hj, ha, ht⟩
  · exact ⟨false, fun b w hp => g_same (may_nil b a ac w P hp hg), fun b w hd => g_same (dmay_nil b a ac w D hd (h.gone hg))⟩
  · have dt := (h j hj).th.trans ht
    by_cases hf : 0 ≤ ac ∧ ac < 4
    · refine ⟨mayO (P j) ac, fun b w hp => g_same (may_there b a ac j w P hp hj ha ht hf.1 hf.2), fun b w hd => ?_⟩
      have := dmay_there b a ac j w D hd hj ha dt hf.1 hf.2
      rwa [(h j hj).may ac] at this
    · exact ⟨false, fun b w hp => g_same (may_far b a ac j w P hp hj ha ht (by omega)), fun b w hd => g_same (dmay_far b a ac j w D hd hj ha dt (by omega))⟩
end Go.Proofs.YtkklnocbbpaipaaDoor
