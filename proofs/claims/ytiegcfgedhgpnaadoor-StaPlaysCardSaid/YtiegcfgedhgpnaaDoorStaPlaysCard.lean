/-
  StaPlays ANSWERS true FOR EVERY INPUT: the statement and its card. Conditions: none beyond the given row's own.
-/
import Derived.Test.YtiegcfgedhgpnaaDoorRows
import Derived.Test.YtiegcfgedhgpnaaDoorCards
import Derived.Test.YtiegcfgedhgpnaaDoorTie
import Derived.Test.YtiegcfgedhgpnaaDoorStaPlays
import Derived.Test.YtiegcfgedhgpnaaDoorSentLaid
import Derived.Test.YtiegcfgedhgpnaaDoorDoA
namespace Go.Proofs.YtiegcfgedhgpnaaDoor.StaPlaysC
open Go.ChangeShapes Go.WideShapes Go.ChangeAt Go.WideMaps Go.WideElems Go.RowKit

theorem door_met (os : Os) (args : Array Value) : laidMetH Tryd.prog Rows.staPlaysRow.laid ((World.doorLaid Tryd.prog 400 os).forCall (fun _ _ => 0) ⟨#[], args, []⟩).memory :=
  laidMetH_of_parts3 (fuel := 8) (laidMet_of_run' 8 (by kernel_rfl) (by kernel_rfl)) (by kernel_rfl) (by kernel_rfl)

theorem reads : ∀ t ∈ Tryd.f5.params.toList, Tryd.prog.readableRec t = true ∧ t < Tryd.prog.types.size := by
  rw [Tryd.params5]
  intro t ht
  have hall : ([48, 25].all fun u => Tryd.prog.readableRec u && decide (u < Tryd.prog.types.size)) = true := by kernel_rfl
  simpa using List.all_eq_true.1 hall t (by simpa using ht)

set_option maxRecDepth 100000 in
theorem lifted (os : Os) (started : os.Started) (H : Type) (enc : TypeId × Value → H) :
    ReturnsInHanded {} Tryd.checked os 5 .any (fun w args => (Rows.staPlaysSpec.pre enc Tryd.prog Tryd.f5 [] false w args ∧ laidMetH Tryd.prog Rows.staPlaysRow.laid w) ∧ sizedMet enc Tryd.prog Tryd.f5 (OpenSpec.ofChange Rows.staPlaysSpec) false w args)
      (Rows.staPlaysSpec.post enc Tryd.prog Tryd.f5 false true false false) := by
  refine returnsInHanded_of_change_and (C := Tryd.checked) (X := fun w _ => laidMetH Tryd.prog Rows.staPlaysRow.laid w) (fun _ _ _ hh h => h.of_heap hh) own started (by kernel_rfl) Tryd.func5
    (ChangeSpec.witness_shaped (enc := enc) (C := Tryd.checked) (os := os) (X := fun w _ => laidMetH Tryd.prog Rows.staPlaysRow.laid w) false (World.doorLaid Tryd.prog 400 os) #[.slice none 0 0, .agg #[.int .u8 0, .int .u8 0, .int .u8 0, .int .u8 0, .int .u8 0, .int .u8 0]] 8 rfl (World.shaped_of_RefB (by kernel_rfl) (by kernel_rfl)) (by kernel_rfl) (by kernel_rfl) (by kernel_rfl) (door_met os _)) ?_
  intro W base args ds gs before hval0 hW _ hsz hL _
  have hval : ∀ (j : Nat) t v, Tryd.f5.params[j]? = some t → args[j]? = some v → Value.okWide Tryd.prog W .any base t v := hval0
  have hW' := hW
  obtain ⟨p, q, hA0, hV, rfl, hfz, hnd⟩ := hW
  have hA : DataW.TrodAll enc Tryd.prog W 0 (fun _ => true) true Tryd.f5.params.toList args.toList ds p := hA0
  rw [Tryd.params5] at hA hval
  obtain ⟨v0, v1, d0, d1, p0, p1, rfl, rfl, rfl, h0, h1⟩ := trodAll_two hA
  obtain ⟨rfl, rfl⟩ := trodVars_none hV
  obtain ⟨A, hs⟩ := sent_of_laid hL
  obtain ⟨pa, len, cap, rfl⟩ := okWide_slice Tryd.underlying48 (hval 0 48 v0 rfl rfl)
  obtain ⟨x, rfl⟩ := addr_arg (hval 1 25 v1 rfl rfl)
  obtain ⟨hlen, hc⟩ := rows_args 8 (by decide) Tryd.underlying48 (by kernel_rfl) h0
  have h3 : ∀ k, ∃ z : Int × Int × Ad, k < len → ∃ lb off, pa = some ⟨lb, off, none⟩ ∧ W.cell? ⟨lb, off + k * 8, none⟩ = some (.int .i64 z.1) ∧ W.cell? ⟨lb, off + k * 8 + 1, none⟩ = some (.int .i64 z.2.1) ∧
      W.rangeAt lb (off + k * 8 + 2) [.int .u8 z.2.2.b0, .int .u8 z.2.2.b1, .int .u8 z.2.2.b2, .int .u8 z.2.2.b3, .int .u8 z.2.2.b4, .int .u8 z.2.2.b5] ∧ 0 ≤ z.2.2.b0 ∧ z.2.2.b0 < 256 := by
    intro k
    by_cases hk : k < len
    · obtain ⟨lb, off, e1, cs, n, y, hcl, hat, htr⟩ := hc k hk
      obtain ⟨x0, x1, x2, e0, e2, e3, b0, b1⟩ := do_row hcl htr
      refine ⟨(x0, x1, x2), fun _ => ⟨lb, off, e1, (hat 0 (by decide)).trans e0, (hat 1 (by decide)).trans e2, fun j v hv => ?_, b0, b1⟩⟩
      have hj : j < 6 := (List.getElem?_eq_some_iff.1 hv).1
      have := (hat (2 + j) (by omega)).trans (e3 j v hv)
      rw [← this]
      congr 2
      omega
    · exact ⟨(0, 0, adZ), fun h => absurd h hk⟩
  refine (plays_any A pa len cap (fun k => Classical.choose (h3 k)) x W hs hlen (fun k hk => Classical.choose_spec (h3 k) hk)).mono fun e W' ⟨he, hk⟩ => ?_
  subst he
  exact ⟨_, rfl, law_post hW' rfl rfl rfl reads hk⟩

theorem said : Rows.StaPlaysSaid :=
  OpenClaim.holds_of_wide 5 Tryd.f5 rfl rfl rfl rfl rfl rfl rfl ⟨rfl, rfl, rfl, rfl, rfl⟩ rfl rfl rfl rfl rfl (by kernel_rfl) Tryd.func5 (by kernel_rfl)
    (of_decide_eq_true (by kernel_rfl)) (by unfold Func.isWrapper; rw [if_neg (of_decide_eq_false (by kernel_rfl))]; exact ⟨rfl, rfl⟩)
    (fun os started H enc _ => lifted os started H enc)

theorem plain (f : FuncId) (fn : Func) (hf : Tryd.pinned.checked.prog.funcNamed "muezzin/muezzinlaw22.StaPlays" = some f) (hfn : Tryd.pinned.checked.prog.funcs[f]? = some fn) :
    true = Tryd.pinned.checked.prog.looks [] ∧ ∀ (j : Nat) t, fn.params[j]? = some t → Tryd.pinned.checked.prog.wantsStandIn t = false := by
  obtain rfl : f = 5 := Option.some.inj ((show Tryd.prog.funcNamed "muezzin/muezzinlaw22.StaPlays" = some 5 by kernel_rfl).symm.trans hf) |>.symm
  obtain rfl : fn = Tryd.f5 := (Option.some.inj (Tryd.func5.symm.trans hfn)).symm
  refine ⟨by kernel_rfl, fun j t ht => ?_⟩
  rw [Tryd.params5] at ht
  have hall : ([48, 25].all fun u => !Tryd.prog.wantsStandIn u) = true := by kernel_rfl
  exact (show Tryd.prog.wantsStandIn t = false by simpa using List.all_eq_true.1 hall t (by simpa using Array.mem_of_getElem? ht))

/-- THE CARD. -/
theorem card : Rows.StaPlaysCardSaid :=
  Claim7.holds_tied_plain_at .later [] _ _ _ _ said (fun _ h => by cases h) (by kernel_rfl) (fun _ h => by cases h) staPlays_row_tie rfl ⟨rfl, rfl⟩ (by kernel_rfl) rfl plain (by kernel_rfl)
end Go.Proofs.YtiegcfgedhgpnaaDoor.StaPlaysC
