/-
  ANY BYTES AS AN ADD, AS A DEL, IN ONE FORM; AND WHAT WAS WRITTEN IS READ AS IT IS, AND NOT AS THE OTHER ONE. Conditions: the bytes lie where the slice says; four sentinels' own.
-/
import Derived.Test.YtflckkeaakmojaaDoorActOut
import Derived.Test.YtflckkeaakmojaaDoorActFirst
namespace Go.Proofs.YtflckkeaakmojaaDoor
open Go.RowKit

theorem readAdd_form (p : Option Addr) (cap : Nat) (bs : List Int) (B : Nat) (A : Nat → Addr) (w : World) (hs : Four B w A) (hB : B ≤ w.heap.size) (hcap : bs.length ≤ cap) (h : Lie w p bs) (hb : Bytes bs) :
    ∃ (ta fr sa : Ad) (ans : Bool) (tok tid size tmo seq st : Int) (k : Nat), (k = 0 → okA ans tok tid size tmo seq st ∧ addL ta fr sa ans tok tid size tmo seq st = bs) ∧
      ∀ w', Gro none w w' → Calls Tryd.prog 12 #[.slice p bs.length cap] w' fun e w'' => e = .returned (.tuple #[addV ta fr sa ans tok tid size tmo seq st, errV A k]) ∧ Gro none w' w'' := by
  have HR := fun w' (k : Gro none w w') => readAdd_say p cap bs B A w' (hs.far fun i hi => k.block i (by omega) (by simp)) (Nat.le_trans hB k.size) hcap (h.gro k (by simp)) hb
  by_cases hr : longA bs 33 (kAdd bs) = 0
  · by_cases hi : isAdd bs
    · have hi' := hi
      unfold isAdd at hi'
      by_cases hy : bs.getD 25 0 = 1
      · rw [if_pos hy] at hi'
        refine ⟨_, _, _, _, _, _, _, _, _, _, 0, fun _ => hi', fun w' k => (HR w' k).mono fun e w'' ⟨h1, _, _, hg⟩ => ⟨?_, hg⟩⟩
        rw [h1 hr hi]
        unfold addOf
        rw [if_pos hy]
        rfl
      · rw [if_neg hy] at hi'
        refine ⟨_, _, _, _, _, _, _, _, _, _, 0, fun _ => hi', fun w' k => (HR w' k).mono fun e w'' ⟨h1, _, _, hg⟩ => ⟨?_, hg⟩⟩
        rw [h1 hr hi]
        unfold addOf
        rw [if_neg hy]
        rfl
    · exact ⟨adZ, adZ, adZ, false, 0, 0, 0, 0, 0, 0, 2, fun h => (by cases h), fun w' k => (HR w' k).mono fun e w'' ⟨_, h2, _, hg⟩ => ⟨h2 hr hi, hg⟩⟩
  · exact ⟨adZ, adZ, adZ, false, 0, 0, 0, 0, 0, 0, _, fun h => absurd h hr, fun w' k => (HR w' k).mono fun e w'' ⟨_, _, h3, hg⟩ => ⟨h3 hr, hg⟩⟩
theorem readDel_form (p : Option Addr) (cap : Nat) (bs : List Int) (B : Nat) (A : Nat → Addr) (w : World) (hs : Four B w A) (hB : B ≤ w.heap.size) (hcap : bs.length ≤ cap) (h : Lie w p bs) (hb : Bytes bs) :
    ∃ (ta fr sa : Ad) (mine : Bool) (tid reason : Int) (k : Nat), (k = 0 → okD tid reason ∧ delL ta fr sa mine tid reason = bs) ∧
      ∀ w', Gro none w w' → Calls Tryd.prog 16 #[.slice p bs.length cap] w' fun e w'' => e = .returned (.tuple #[delV ta fr sa mine tid reason, errV A k]) ∧ Gro none w' w'' := by
  have HR := fun w' (k : Gro none w w') => readDel_say p cap bs B A w' (hs.far fun i hi => k.block i (by omega) (by simp)) (Nat.le_trans hB k.size) hcap (h.gro k (by simp)) hb
  by_cases hr : longA bs 30 (kDel bs) = 0
  · by_cases hi : isDel bs
    · have hi' := hi
      unfold isDel at hi'
      exact ⟨_, _, _, _, _, _, 0, fun _ => hi', fun w' k => (HR w' k).mono fun e w'' ⟨h1, _, _, hg⟩ => ⟨h1 hr hi, hg⟩⟩
    · exact ⟨adZ, adZ, adZ, false, 0, 0, 2, fun h => (by cases h), fun w' k => (HR w' k).mono fun e w'' ⟨_, h2, _, hg⟩ => ⟨h2 hr hi, hg⟩⟩
  · exact ⟨adZ, adZ, adZ, false, 0, 0, _, fun h => absurd h hr, fun w' k => (HR w' k).mono fun e w'' ⟨_, _, h3, hg⟩ => ⟨h3 hr, hg⟩⟩
theorem bytes_mem {L : List Int} (h : ∀ x ∈ L, 0 ≤ x ∧ x < 256) : Bytes L := by
  intro i
  rcases Nat.lt_or_ge i L.length with hi | hi
  · rw [List.getD_eq_getElem?_getD, List.getElem?_eq_getElem hi]
    exact h _ (List.getElem_mem _)
  · rw [List.getD_eq_getElem?_getD, List.getElem?_eq_none hi]
    exact ⟨by decide, by decide⟩
/-- An Add that was written: read as it is, and as no Del. -/
theorem add_back (ta fr sa : Ad) (ans : Bool) (tok tid size tmo seq st : Int) (ok : okA ans tok tid size tmo seq st) (hta : ∀ x ∈ adL ta, 0 ≤ x ∧ x < 256) (hfr : ∀ x ∈ adL fr, 0 ≤ x ∧ x < 256) (hsa : ∀ x ∈ adL sa, 0 ≤ x ∧ x < 256)
    (p : Option Addr) (cap : Nat) (hcap : 33 ≤ cap) (B : Nat) (A : Nat → Addr) (w : World) (hs : Four B w A) (hB : B ≤ w.heap.size) (h : Lie w p (addL ta fr sa ans tok tid size tmo seq st)) :
    (Calls Tryd.prog 12 #[.slice p 33 cap] w fun e w' => e = .returned (.tuple #[addV ta fr sa ans tok tid size tmo seq st, .nilIface]) ∧ Gro none w w') ∧
    (Calls Tryd.prog 16 #[.slice p 33 cap] w fun e w' => e = .returned (.tuple #[delV adZ adZ adZ false 0 0, errV A 5]) ∧ Gro none w w') := by
  have hlen := addL_len ta fr sa ans tok tid size tmo seq st
  have hb : Bytes (addL ta fr sa ans tok tid size tmo seq st) := bytes_mem (add_mem ok hta hfr hsa)
  have ha := addOf_add (ta := ta) (fr := fr) (sa := sa) ok
  have hk := kAdd_add ta fr sa ans tok tid size tmo seq st
  have h0 : longA (addL ta fr sa ans tok tid size tmo seq st) 33 (kAdd (addL ta fr sa ans tok tid size tmo seq st)) = 0 := longA_same hlen (by decide) hk.1
  have h5 : longA (addL ta fr sa ans tok tid size tmo seq st) 30 (kDel (addL ta fr sa ans tok tid size tmo seq st)) = 5 := longA_kind (by omega) hk.2
  have r1 := readAdd_say p cap _ B A w hs hB (by omega) h hb
  have r2 := readDel_say p cap _ B A w hs hB (by omega) h hb
  rw [hlen] at r1 r2
  exact ⟨r1.mono fun e w' ⟨y, _, _, hg⟩ => ⟨by rw [y h0 ha.1, ha.2], hg⟩, r2.mono fun e w' ⟨_, _, y, hg⟩ => ⟨by rw [y (by rw [h5]; decide), h5], hg⟩⟩
/-- A Del that was written: read as it is, and as no Add. -/
theorem del_back (ta fr sa : Ad) (mine : Bool) (tid reason : Int) (ok : okD tid reason) (hta : ∀ x ∈ adL ta, 0 ≤ x ∧ x < 256) (hfr : ∀ x ∈ adL fr, 0 ≤ x ∧ x < 256) (hsa : ∀ x ∈ adL sa, 0 ≤ x ∧ x < 256)
    (p : Option Addr) (cap : Nat) (hcap : 30 ≤ cap) (B : Nat) (A : Nat → Addr) (w : World) (hs : Four B w A) (hB : B ≤ w.heap.size) (h : Lie w p (delL ta fr sa mine tid reason)) :
    (Calls Tryd.prog 16 #[.slice p 30 cap] w fun e w' => e = .returned (.tuple #[delV ta fr sa mine tid reason, .nilIface]) ∧ Gro none w w') ∧
    (Calls Tryd.prog 12 #[.slice p 30 cap] w fun e w' => e = .returned (.tuple #[addV adZ adZ adZ false 0 0 0 0 0 0, errV A 5]) ∧ Gro none w w') := by
  have hlen := delL_len ta fr sa mine tid reason
  have hb : Bytes (delL ta fr sa mine tid reason) := bytes_mem (del_mem ok hta hfr hsa)
  have ha := isDel_del (ta := ta) (fr := fr) (sa := sa) (mine := mine) ok
  have hk := kDel_del ta fr sa mine tid reason
  have h0 : longA (delL ta fr sa mine tid reason) 30 (kDel (delL ta fr sa mine tid reason)) = 0 := longA_same hlen (by decide) hk.1
  have h5 : longA (delL ta fr sa mine tid reason) 33 (kAdd (delL ta fr sa mine tid reason)) = 5 := longA_kind (by omega) hk.2
  have r1 := readDel_say p cap _ B A w hs hB (by omega) h hb
  have r2 := readAdd_say p cap _ B A w hs hB (by omega) h hb
  rw [hlen] at r1 r2
  exact ⟨r1.mono fun e w' ⟨y, _, _, hg⟩ => ⟨by rw [y h0 ha.1, ha.2.1, ha.2.2.1, ha.2.2.2, del_ta, del_fr, del_sa], hg⟩, r2.mono fun e w' ⟨_, _, y, hg⟩ => ⟨by rw [y (by rw [h5]; decide), h5], hg⟩⟩
end Go.Proofs.YtflckkeaakmojaaDoor
