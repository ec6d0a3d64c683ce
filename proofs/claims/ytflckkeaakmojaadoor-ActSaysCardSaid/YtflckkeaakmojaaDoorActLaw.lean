/-
  THE PLAIN LAWS OF CHAPTER 5: what was written is read as it is, and not as the other one. No program in sight.
-/
import Derived.Test.YtflckkeaakmojaaDoorActRB
import Derived.Test.YtflckkeaakmojaaDoorActRD
namespace Go.Proofs.YtflckkeaakmojaaDoor

theorem two_num (n : Int) : n % 256 + 256 * (n / 256) = n := by omega
theorem add_ta (ta fr sa : Ad) (ans : Bool) (tok tid size tmo seq st : Int) : ad6 (addL ta fr sa ans tok tid size tmo seq st) 4 = ta := by cases ta; cases ans <;> rfl
theorem add_fr (ta fr sa : Ad) (ans : Bool) (tok tid size tmo seq st : Int) : ad6 (addL ta fr sa ans tok tid size tmo seq st) 10 = fr := by cases fr; cases ans <;> rfl
theorem add_sa (ta fr sa : Ad) (ans : Bool) (tok tid size tmo seq st : Int) : ad6 (addL ta fr sa ans tok tid size tmo seq st) 16 = sa := by cases sa; cases ans <;> rfl
theorem addL_len (ta fr sa : Ad) (ans : Bool) (tok tid size tmo seq st : Int) : (addL ta fr sa ans tok tid size tmo seq st).length = 33 := by cases ans <;> simp [addL, frontL, adL, twoL]
theorem delL_len (ta fr sa : Ad) (mine : Bool) (tid reason : Int) : (delL ta fr sa mine tid reason).length = 30 := by simp [delL, frontL, adL, twoL]
/-- What was written may be, and is the same when read. -/
theorem addOf_add {ta fr sa : Ad} {ans : Bool} {tok tid size tmo seq st : Int} (h : okA ans tok tid size tmo seq st) :
    isAdd (addL ta fr sa ans tok tid size tmo seq st) ∧ addOf (addL ta fr sa ans tok tid size tmo seq st) = addV ta fr sa ans tok tid size tmo seq st := by
  have h' := h
  obtain ⟨⟨h1, h1'⟩, ⟨h2, h2'⟩, ⟨h3, h3'⟩, ⟨h4, h4'⟩, ⟨h5, h5'⟩, ⟨h6, h6'⟩, h7, h8⟩ := h
  unfold isAdd addOf
  rw [add_ta, add_fr, add_sa]
  cases ans
  · obtain rfl : st = 0 := h7 rfl
    have e25 : ¬ (addL ta fr sa false tok tid size tmo seq 0).getD 25 0 = 1 := by
      show ¬ (0 : Int) = 1
      decide
    have e26 : (addL ta fr sa false tok tid size tmo seq 0).getD 26 0 = tok := rfl
    have e27 : num2 (addL ta fr sa false tok tid size tmo seq 0) 27 = 2 + tid * 4 + size * 64 := two_num _
    have e29 : num2 (addL ta fr sa false tok tid size tmo seq 0) 29 = tmo := two_num _
    have e31 : num2 (addL ta fr sa false tok tid size tmo seq 0) 31 = seq * 16 := two_num _
    rw [if_neg e25, if_neg e25, e26, e27, e29, e31, show (2 + tid * 4 + size * 64) % 64 / 4 = tid by omega, show (2 + tid * 4 + size * 64) / 64 = size by omega, show seq * 16 / 16 = seq by omega]
    exact ⟨⟨h', rfl⟩, rfl⟩
  · obtain rfl : seq = 0 := h8 rfl
    have e25 : (addL ta fr sa true tok tid size tmo 0 st).getD 25 0 = 1 := rfl
    have e26 : (addL ta fr sa true tok tid size tmo 0 st).getD 26 0 = tok := rfl
    have e27 : num2 (addL ta fr sa true tok tid size tmo 0 st) 27 = st := two_num _
    have e29 : num2 (addL ta fr sa true tok tid size tmo 0 st) 29 = 2 + tid * 4 + size * 64 := two_num _
    have e31 : num2 (addL ta fr sa true tok tid size tmo 0 st) 31 = tmo := two_num _
    rw [if_pos e25, if_pos e25, e26, e27, e29, e31, show (2 + tid * 4 + size * 64) % 64 / 4 = tid by omega, show (2 + tid * 4 + size * 64) / 64 = size by omega]
    exact ⟨⟨h', rfl⟩, rfl⟩
theorem del_ta (ta fr sa : Ad) (mine : Bool) (tid reason : Int) : ad6 (delL ta fr sa mine tid reason) 4 = ta := by cases ta; rfl
theorem del_fr (ta fr sa : Ad) (mine : Bool) (tid reason : Int) : ad6 (delL ta fr sa mine tid reason) 10 = fr := by cases fr; rfl
theorem del_sa (ta fr sa : Ad) (mine : Bool) (tid reason : Int) : ad6 (delL ta fr sa mine tid reason) 16 = sa := by cases sa; rfl
theorem del_n (ta fr sa : Ad) (mine : Bool) (tid reason : Int) : num2 (delL ta fr sa mine tid reason) 26 = tid * 4096 + if mine then 2048 else 0 := two_num _
theorem del_reason (ta fr sa : Ad) (mine : Bool) (tid reason : Int) : num2 (delL ta fr sa mine tid reason) 28 = reason := two_num _
theorem mine_bit (mine : Bool) (tid : Int) (h0 : 0 ≤ tid) (h1 : tid ≤ 7) : decide (0 < bits .and .i64 (tid * 4096 + if mine then 2048 else 0) 2048) = mine := by
  rcases (show tid = 0 ∨ tid = 1 ∨ tid = 2 ∨ tid = 3 ∨ tid = 4 ∨ tid = 5 ∨ tid = 6 ∨ tid = 7 from by omega) with rfl | rfl | rfl | rfl | rfl | rfl | rfl | rfl <;> cases mine <;> decide
theorem isDel_del {ta fr sa : Ad} {mine : Bool} {tid reason : Int} (h : okD tid reason) :
    isDel (delL ta fr sa mine tid reason) ∧ mineOf (delL ta fr sa mine tid reason) = mine ∧ num2 (delL ta fr sa mine tid reason) 26 / 4096 = tid ∧ num2 (delL ta fr sa mine tid reason) 28 = reason := by
  have h' := h
  obtain ⟨⟨h0, h1⟩, h2, h3⟩ := h
  have em : mineOf (delL ta fr sa mine tid reason) = mine := by
    unfold mineOf
    rw [del_n]
    exact mine_bit mine tid h0 h1
  have et : num2 (delL ta fr sa mine tid reason) 26 / 4096 = tid := by
    rw [del_n]
    cases mine <;> simp <;> omega
  refine ⟨?_, em, et, del_reason _ _ _ _ _ _⟩
  unfold isDel
  rw [del_ta, del_fr, del_sa, em, et, del_reason]
  exact ⟨h', rfl⟩
theorem kAdd_add (ta fr sa : Ad) (ans : Bool) (tok tid size tmo seq st : Int) : kAdd (addL ta fr sa ans tok tid size tmo seq st) ∧ ¬ kDel (addL ta fr sa ans tok tid size tmo seq st) := by
  cases ans
  · exact ⟨⟨rfl, rfl, .inl rfl⟩, fun h => absurd (show (0 : Int) = 2 from h.2.2) (by decide)⟩
  · exact ⟨⟨rfl, rfl, .inr rfl⟩, fun h => absurd (show (1 : Int) = 2 from h.2.2) (by decide)⟩
theorem kDel_del (ta fr sa : Ad) (mine : Bool) (tid reason : Int) : kDel (delL ta fr sa mine tid reason) ∧ ¬ kAdd (delL ta fr sa mine tid reason) :=
  ⟨⟨rfl, rfl, rfl⟩, fun h => by
    rcases h.2.2 with h | h
    · exact absurd (show (2 : Int) = 0 from h) (by decide)
    · exact absurd (show (2 : Int) = 1 from h) (by decide)⟩
theorem longA_same {bs : List Int} {n : Nat} {K : Prop} [Decidable K] (hl : bs.length = n) (hn : 26 ≤ n) (hk : K) : longA bs n K = 0 := by
  unfold longA
  rw [if_neg (by omega), if_neg (fun h => h hk), if_neg (by omega), if_neg (by omega)]
theorem longA_kind {bs : List Int} {n : Nat} {K : Prop} [Decidable K] (hl : 26 ≤ bs.length) (hk : ¬ K) : longA bs n K = 5 := by
  unfold longA
  rw [if_neg (by omega), if_pos hk]
end Go.Proofs.YtflckkeaakmojaaDoor
