/-
  THE PLAIN LAWS OF CHAPTER 4: what was written is read as it is. No program in sight.
-/
import Derived.Test.YtadcpoglkmklhaaDoorCtlC
import Derived.Test.YtadcpoglkmklhaaDoorCtlP
namespace Go.Proofs.YtadcpoglkmklhaaDoor

theorem asks_kind (k : Int) (to fr : Ad) (tid seq : Int) : (asksL k to fr tid seq).getD 0 0 = k := rfl
theorem asks_to (k : Int) (to fr : Ad) (tid seq : Int) : ad6 (asksL k to fr tid seq) 4 = to := by cases to; rfl
theorem asks_fr (k : Int) (to fr : Ad) (tid seq : Int) : ad6 (asksL k to fr tid seq) 10 = fr := by cases fr; rfl
theorem two_num (n : Int) : n % 256 + 256 * (n / 256) = n := by omega
theorem asks_tid (k : Int) (to fr : Ad) (tid seq : Int) (h : okB tid seq) : bTid (asksL k to fr tid seq) = tid := by
  have e : num2 (asksL k to fr tid seq) 16 = 4 + tid * 4096 := two_num _
  obtain ⟨h0, h1, _, _⟩ := h
  unfold bTid; rw [e]; omega
theorem asks_seq (k : Int) (to fr : Ad) (tid seq : Int) : bSeq (asksL k to fr tid seq) = seq := by
  have e : num2 (asksL k to fr tid seq) 18 = seq * 16 := two_num _
  unfold bSeq; rw [e]; omega
theorem isBar_asks (to fr : Ad) (tid seq : Int) (h : okB tid seq) : isBar (asksL 132 to fr tid seq) := by
  unfold isBar
  rw [asks_to, asks_fr, asks_tid _ _ _ _ _ h, asks_seq]
  exact ⟨h, rfl⟩
theorem longR_same {bs : List Int} {k : Int} {n : Nat} (hl : bs.length = n) (hk : bs.getD 0 0 = k) : longR bs k n = 0 := by
  unfold longR
  rw [if_neg (fun h => h.2 hk), if_neg (by omega), if_neg (by omega)]
theorem longR_kind {bs : List Int} {k : Int} {n : Nat} (hl : 0 < bs.length) (hk : bs.getD 0 0 ≠ k) : longR bs k n = 5 := by
  unfold longR
  rw [if_pos ⟨hl, hk⟩]
theorem longR_more {bs : List Int} {k : Int} {n : Nat} (hl : n < bs.length) (hk : bs.getD 0 0 = k) : longR bs k n = 2 := by
  unfold longR
  rw [if_neg (fun h => h.2 hk), if_neg (by omega), if_pos hl]
theorem longR_less {bs : List Int} {k : Int} {n : Nat} (hl : bs.length < n) (hk : bs.getD 0 0 = k) : longR bs k n = 1 := by
  unfold longR
  rw [if_neg (fun h => h.2 hk), if_pos hl]
/-- Of a longer row the first twenty are the same. -/
theorem getD_app (xs ys : List Int) (i : Nat) (h : i < xs.length) : (xs ++ ys).getD i 0 = xs.getD i 0 := by
  rw [List.getD_eq_getElem?_getD, List.getD_eq_getElem?_getD, List.getElem?_append_left h]
theorem ad6_app (xs ys : List Int) (i : Nat) (h : i + 6 ≤ xs.length) : ad6 (xs ++ ys) i = ad6 xs i := by
  unfold ad6
  rw [getD_app _ _ _ (by omega), getD_app _ _ _ (by omega), getD_app _ _ _ (by omega), getD_app _ _ _ (by omega), getD_app _ _ _ (by omega), getD_app _ _ _ (by omega)]
theorem num2_app (xs ys : List Int) (i : Nat) (h : i + 2 ≤ xs.length) : num2 (xs ++ ys) i = num2 xs i := by
  unfold num2
  rw [getD_app _ _ _ (by omega), getD_app _ _ _ (by omega)]
theorem map_ack (to fr : Ad) (tid seq m : Int) (h0 : 0 ≤ m) (h1 : m < 18446744073709551616) : mapV (ackL to fr tid seq m) 8 = m := by
  have e : ∀ k, k < 8 → (ackL to fr tid seq m).getD (20 + k) 0 = m / 2 ^ (8 * k) % 256 := by
    intro k hk
    unfold ackL
    rw [List.getD_eq_getElem?_getD, List.getElem?_append_right (by rw [asks_len]; omega), asks_len, show 20 + k - 20 = k from by omega]
    rcases (show k = 0 ∨ k = 1 ∨ k = 2 ∨ k = 3 ∨ k = 4 ∨ k = 5 ∨ k = 6 ∨ k = 7 from by omega) with rfl | rfl | rfl | rfl | rfl | rfl | rfl | rfl <;> rfl
  unfold mapV mapV mapV mapV mapV mapV mapV mapV mapV
  rw [e 0 (by decide), e 1 (by decide), e 2 (by decide), e 3 (by decide), e 4 (by decide), e 5 (by decide), e 6 (by decide), e 7 (by decide)]
  simp only [Nat.mul_zero, Nat.mul_one, Nat.reduceMul, Int.reducePow]
  omega
theorem ack_to (to fr : Ad) (tid seq m : Int) : ad6 (ackL to fr tid seq m) 4 = to := (ad6_app (asksL 148 to fr tid seq) (mapL m 8) 4 (by rw [asks_len]; decide)).trans (asks_to _ _ _ _ _)
theorem ack_fr (to fr : Ad) (tid seq m : Int) : ad6 (ackL to fr tid seq m) 10 = fr := (ad6_app (asksL 148 to fr tid seq) (mapL m 8) 10 (by rw [asks_len]; decide)).trans (asks_fr _ _ _ _ _)
theorem ack_tid (to fr : Ad) (tid seq m : Int) (h : okB tid seq) : bTid (ackL to fr tid seq m) = tid := by
  unfold bTid
  rw [show num2 (ackL to fr tid seq m) 16 = num2 (asksL 148 to fr tid seq) 16 from num2_app (asksL 148 to fr tid seq) (mapL m 8) 16 (by rw [asks_len]; decide)]
  exact asks_tid 148 to fr tid seq h
theorem ack_seq (to fr : Ad) (tid seq m : Int) : bSeq (ackL to fr tid seq m) = seq := by
  unfold bSeq
  rw [show num2 (ackL to fr tid seq m) 18 = num2 (asksL 148 to fr tid seq) 18 from num2_app (asksL 148 to fr tid seq) (mapL m 8) 18 (by rw [asks_len]; decide)]
  exact asks_seq 148 to fr tid seq
theorem isAck_ack (to fr : Ad) (tid seq m : Int) (h : okB tid seq) (h0 : 0 ≤ m) (h1 : m < 18446744073709551616) : isAck (ackL to fr tid seq m) := by
  unfold isAck
  rw [ack_to, ack_fr, ack_tid _ _ _ _ _ h, ack_seq, map_ack _ _ _ _ _ h0 h1]
  exact ⟨h, rfl⟩
theorem poll_to (aid : Int) (to fr : Ad) : ad6 (pollL aid to fr) 4 = to := by cases to; rfl
theorem poll_fr (aid : Int) (to fr : Ad) : ad6 (pollL aid to fr) 10 = fr := by cases fr; rfl
theorem poll_num (aid : Int) (to fr : Ad) : num2 (pollL aid to fr) 2 - 49152 = aid := by
  have e : num2 (pollL aid to fr) 2 = 49152 + aid := two_num _
  rw [e]; omega
theorem pollR_poll (aid : Int) (to fr : Ad) (h : okP aid) : pollR (pollL aid to fr) = 0 := by
  have e : num2 (pollL aid to fr) 2 = 49152 + aid := two_num _
  have z : (pollL aid to fr).getD 1 0 = 0 := rfl
  obtain ⟨h0, h1⟩ := h
  unfold pollR
  rw [e, z, if_neg (by omega), if_neg (by omega)]
end Go.Proofs.YtadcpoglkmklhaaDoor
