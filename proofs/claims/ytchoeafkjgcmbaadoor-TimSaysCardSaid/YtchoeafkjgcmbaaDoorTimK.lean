/-
  AN ELEMENT THAT WAS WRITTEN is read as it is; each of its stations is in it, no other is. Conditions: it may be; its bytes lie where the slice says; four sentinels' own.
-/
import Derived.Test.YtchoeafkjgcmbaaDoorTimT
namespace Go.Proofs.YtchoeafkjgcmbaaDoor
open Go.RowKit

theorem read_written (count period : Int) (group : Bool) (xs : List Int) (hok : okT count period xs) (p : Option Addr) (cp : Nat) (B : Nat) (A : Nat → Addr) (w : World) (hs : Four B w A) (hB : B ≤ w.heap.size) (hcap : (timL count period group xs).length ≤ cp) (h : Lie w p (timL count period group xs)) :
    Calls Tryd.prog 11 #[.slice p (timL count period group xs).length cp] w fun e w' => ∃ s, e = .returned (.tuple #[timV count period group s, .nilIface]) ∧ Gro none w w' ∧ OwnI w.heap.size w' s xs := by
  have hl := timL_len count period group xs
  have hsz := sizeOf_pos hok.2.2
  obtain ⟨_, _, h2, h3, _, _⟩ := tim_at count period group xs
  obtain ⟨r0, r1, r2⟩ := tim_read (group := group) hok
  refine (read_any p cp _ B A w hs hB hcap (by omega) h (bytes_of_mem (tim_bytes hok))).mono fun e w' ⟨hg, _, hz⟩ => ?_
  obtain ⟨s, he, ho⟩ := hz r0
  rw [h2, h3, r1] at he
  rw [r2] at ho
  exact ⟨s, he, hg, ho⟩
theorem has_written (count period : Int) (group : Bool) (xs : List Int) (x : Int) (hok : okT count period xs) (p : Option Addr) (cp : Nat) (B : Nat) (A : Nat → Addr) (w : World) (hs : Four B w A) (hB : B ≤ w.heap.size) (hcap : (timL count period group xs).length ≤ cp) (h : Lie w p (timL count period group xs)) :
    Calls Tryd.prog 17 #[.slice p (timL count period group xs).length cp, .int .i64 x] w fun e w' => e = .returned (.bool (decide (x ∈ xs))) ∧ Gro none w w' := by
  have hl := timL_len count period group xs
  have hsz := sizeOf_pos hok.2.2
  obtain ⟨r0, _, r2⟩ := tim_read (group := group) hok
  refine (has_any p cp _ x B A w hs hB hcap (by omega) h (bytes_of_mem (tim_bytes hok))).mono fun e w' ⟨he, hg⟩ => ⟨?_, hg⟩
  rw [he, r0, r2]
  exact ret_bool (decide_eq_decide.2 ⟨fun h => h.2, fun h => ⟨rfl, h⟩⟩)
theorem tim_part (count period : Int) (group : Bool) (xs : List Int) (i : Nat) : (timL count period group xs).getD (i + 5) 0 = (partOf xs).getD i 0 := rfl
end Go.Proofs.YtchoeafkjgcmbaaDoor
