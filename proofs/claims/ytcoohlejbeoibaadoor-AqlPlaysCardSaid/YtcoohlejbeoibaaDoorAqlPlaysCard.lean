/-
  AqlPlays ANSWERS true FOR EVERY INPUT: the statement and its card. Conditions: none beyond the given row's own.
-/
import Derived.Test.YtcoohlejbeoibaaDoorRows
import Derived.Test.YtcoohlejbeoibaaDoorCards
import Derived.Test.YtcoohlejbeoibaaDoorTie
import Derived.Test.YtcoohlejbeoibaaDoorAqlPlays
import Derived.Test.YtcoohlejbeoibaaDoorSentLaid
import Derived.Test.YtcoohlejbeoibaaDoorDos
namespace Go.Proofs.YtcoohlejbeoibaaDoor.AqlPlaysC
open Go.ChangeShapes Go.WideShapes Go.ChangeAt Go.WideMaps Go.WideElems Go.RowKit

theorem door_met (os : Os) (args : Array Value) : laidMetH Tryd.prog Rows.aqlPlaysRow.laid ((World.doorLaid Tryd.prog 400 os).forCall (fun _ _ => 0) ⟨#[], args, []⟩).memory :=
  laidMetH_of_parts3 (fuel := 8) (laidMet_of_run' 8 (by kernel_rfl) (by kernel_rfl)) (by kernel_rfl) (by kernel_rfl)

theorem reads : ∀ t ∈ Tryd.f5.params.toList, Tryd.prog.readableRec t = true ∧ t < Tryd.prog.types.size := by
  rw [Tryd.params5]
  intro t ht
  have hall : ([2, 2, 38].all fun u => Tryd.prog.readableRec u && decide (u < Tryd.prog.types.size)) = true := by kernel_rfl
  simpa using List.all_eq_true.1 hall t (by simpa using ht)

set_option maxRecDepth 100000 in
theorem lifted (os : Os) (started : os.Started) (H : Type) (enc : TypeId × Value → H) :
    ReturnsInHanded {} Tryd.checked os 5 .any (fun w args => (Rows.aqlPlaysSpec.pre enc Tryd.prog Tryd.f5 [] false w args ∧ laidMetH Tryd.prog Rows.aqlPlaysRow.laid w) ∧ sizedMet enc Tryd.prog Tryd.f5 (OpenSpec.ofChange Rows.aqlPlaysSpec) false w args)
      (Rows.aqlPlaysSpec.post enc Tryd.prog Tryd.f5 false true false false) := by
  refine returnsInHanded_of_change_and (C := Tryd.checked) (X := fun w _ => laidMetH Tryd.prog Rows.aqlPlaysRow.laid w) (fun _ _ _ hh h => h.of_heap hh) own started (by kernel_rfl) Tryd.func5
    (ChangeSpec.witness_shaped (enc := enc) (C := Tryd.checked) (os := os) (X := fun w _ => laidMetH Tryd.prog Rows.aqlPlaysRow.laid w) false (World.doorLaid Tryd.prog 400 os) #[.int .i64 0, .int .i64 0, .slice none 0 0] 8 rfl (World.shaped_of_RefB (by kernel_rfl) (by kernel_rfl)) (by kernel_rfl) (by kernel_rfl) (by kernel_rfl) (door_met os _)) ?_
  intro W base args ds gs before hval0 hW _ hsz hL _
  have hval : ∀ (j : Nat) t v, Tryd.f5.params[j]? = some t → args[j]? = some v → Value.okWide Tryd.prog W .any base t v := hval0
  have hW' := hW
  obtain ⟨p, q, hA0, hV, rfl, hfz, hnd⟩ := hW
  have hA : DataW.TrodAll enc Tryd.prog W 0 (fun _ => true) true Tryd.f5.params.toList args.toList ds p := hA0
  rw [Tryd.params5] at hA hval
  obtain ⟨v0, v1, v2, d0, d1, d2, p0, p1, p2, rfl, rfl, rfl, h0, h1, h2⟩ := trodAll_three hA
  obtain ⟨rfl, rfl⟩ := trodVars_none hV
  obtain ⟨A, hs⟩ := sent_of_laid hL
  obtain ⟨x, rfl, rfl, rfl, wx⟩ := open_int Tryd.underlying2 (hval 0 2 v0 rfl rfl) h0
  obtain ⟨y, rfl, rfl, rfl, wy⟩ := open_int Tryd.underlying2 (hval 1 2 v1 rfl rfl) h1
  obtain ⟨pa, len, cap, rfl⟩ := okWide_slice Tryd.underlying38 (hval 2 38 v2 rfl rfl)
  obtain ⟨hlen, hc⟩ := rows_args 3 (by decide) Tryd.underlying38 (by kernel_rfl) h2
  have h3 : ∀ k, ∃ z : Int × Int × Int, k < len → ∃ lb off, pa = some ⟨lb, off, none⟩ ∧ W.cell? ⟨lb, off + k * 3, none⟩ = some (.int .i64 z.1) ∧ W.cell? ⟨lb, off + k * 3 + 1, none⟩ = some (.int .i64 z.2.1) ∧ W.cell? ⟨lb, off + k * 3 + 2, none⟩ = some (.int .i64 z.2.2) ∧
      (-9223372036854775808 ≤ z.2.1 ∧ z.2.1 ≤ 9223372036854775807) ∧ (-9223372036854775808 ≤ z.2.2 ∧ z.2.2 ≤ 9223372036854775807) := by
    intro k
    by_cases hk : k < len
    · obtain ⟨lb, off, e1, cs, n, y, hcl, hat, htr⟩ := hc k hk
      obtain ⟨x0, e0, _⟩ := field_int Tryd.underlying44 (by kernel_rfl) htr 0 _ rfl Tryd.underlying3 hcl
      obtain ⟨x1, e2, w1⟩ := field_int Tryd.underlying44 (by kernel_rfl) htr 1 _ rfl Tryd.underlying3 hcl
      obtain ⟨x2, e3, w2⟩ := field_int Tryd.underlying44 (by kernel_rfl) htr 2 _ rfl Tryd.underlying2 hcl
      exact ⟨(x0, x1, x2), fun _ => ⟨lb, off, e1, (hat 0 (by decide)).trans e0, (hat 1 (by decide)).trans e2, (hat 2 (by decide)).trans e3, wf64 w1, wf64 w2⟩⟩
    · exact ⟨(0, 0, 0), fun h => absurd h hk⟩
  refine (plays_any A x y pa len cap (fun k => (Classical.choose (h3 k)).1) (fun k => (Classical.choose (h3 k)).2.1) (fun k => (Classical.choose (h3 k)).2.2) W hs hlen (wf64 wx) (wf64 wy) (fun k hk => Classical.choose_spec (h3 k) hk)).mono fun e W' ⟨he, hk⟩ => ?_
  subst he
  exact ⟨_, rfl, law_post hW' rfl rfl rfl reads hk⟩

theorem said : Rows.AqlPlaysSaid :=
  OpenClaim.holds_of_wide 5 Tryd.f5 rfl rfl rfl rfl rfl rfl rfl ⟨rfl, rfl, rfl, rfl, rfl⟩ rfl rfl rfl rfl rfl (by kernel_rfl) Tryd.func5 (by kernel_rfl)
    (of_decide_eq_true (by kernel_rfl)) (by unfold Func.isWrapper; rw [if_neg (of_decide_eq_false (by kernel_rfl))]; exact ⟨rfl, rfl⟩)
    (fun os started H enc _ => lifted os started H enc)

theorem plain (f : FuncId) (fn : Func) (hf : Tryd.pinned.checked.prog.funcNamed "muezzin/muezzinlaw19.AqlPlays" = some f) (hfn : Tryd.pinned.checked.prog.funcs[f]? = some fn) :
    true = Tryd.pinned.checked.prog.looks [] ∧ ∀ (j : Nat) t, fn.params[j]? = some t → Tryd.pinned.checked.prog.wantsStandIn t = false := by
  obtain rfl : f = 5 := Option.some.inj ((show Tryd.prog.funcNamed "muezzin/muezzinlaw19.AqlPlays" = some 5 by kernel_rfl).symm.trans hf) |>.symm
  obtain rfl : fn = Tryd.f5 := (Option.some.inj (Tryd.func5.symm.trans hfn)).symm
  refine ⟨by kernel_rfl, fun j t ht => ?_⟩
  rw [Tryd.params5] at ht
  have hall : ([2, 2, 38].all fun u => !Tryd.prog.wantsStandIn u) = true := by kernel_rfl
  exact (show Tryd.prog.wantsStandIn t = false by simpa using List.all_eq_true.1 hall t (by simpa using Array.mem_of_getElem? ht))

/-- THE CARD. -/
theorem card : Rows.AqlPlaysCardSaid :=
  Claim7.holds_tied_plain_at .later [] _ _ _ _ said (fun _ h => by cases h) (by kernel_rfl) (fun _ h => by cases h) aqlPlays_row_tie rfl ⟨rfl, rfl⟩ (by kernel_rfl) rfl plain (by kernel_rfl)
end Go.Proofs.YtcoohlejbeoibaaDoor.AqlPlaysC
