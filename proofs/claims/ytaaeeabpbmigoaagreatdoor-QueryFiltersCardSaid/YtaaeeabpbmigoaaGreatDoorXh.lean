/- QueryFilters: the row and the card. -/
import Derived.Test.YtaaeeabpbmigoaaGreatDoorCards
import Derived.Test.YtaaeeabpbmigoaaGreatDoorTie
import Derived.Test.YtaaeeabpbmigoaaGreatDoorXf
import Derived.Test.YtaaeeabpbmigoaaGreatDoorXg
set_option linter.unusedVariables false
set_option linter.unusedSimpArgs false
/- QueryFilters: the row and the card. -/
namespace Go.Proofs.YtaaeeabpbmigoaaGreatDoor
set_option maxRecDepth 100000
theorem qf_named : Tryz.pinned.checked.prog.funcNamed Rows.queryFiltersRow.func = some 3 := by kernel_rfl
theorem qf_inst : Tryz.f3.isInstance Tryz.pinned.checked.prog Rows.queryFiltersRow.origin Rows.queryFiltersRow.targs := of_decide_eq_true (by kernel_rfl)
theorem qf_wrap : Tryz.f3.isWrapper Tryz.pinned.checked.prog Rows.queryFiltersRow.wrapper Rows.queryFiltersRow.mainSum := by unfold Func.isWrapper; first | (rw [if_pos (by decide +kernel)]; kernel_rfl) | (rw [if_neg (by decide +kernel)]; exact ⟨rfl, rfl⟩)
theorem qf_said : Rows.QueryFiltersSaid :=
  OpenClaim.holds_of_cond 3 Tryz.f3 rfl rfl rfl rfl rfl rfl rfl ⟨rfl, rfl, rfl, rfl, rfl⟩ rfl rfl rfl rfl rfl qf_named Tryz.func3 qf_facts qf_inst qf_wrap
    (fun os started H enc _ F => by rw [OpenClaim.pre_eq_preRow]; exact qf_lifted os started H enc F)
theorem qf_looks : true = Tryz.prog.looks [] := by kernel_rfl
theorem qf_plain (f : FuncId) (fn : Func) (hf : Tryz.pinned.checked.prog.funcNamed "tsblock/tsblocklaw21.QueryFilters" = some f) (hfn : Tryz.pinned.checked.prog.funcs[f]? = some fn) :
    true = Tryz.pinned.checked.prog.looks [] ∧ ∀ (j : Nat) t, fn.params[j]? = some t → Tryz.pinned.checked.prog.wantsStandIn t = false := by
  obtain rfl : f = 3 := Option.some.inj (qf_named.symm.trans hf) |>.symm
  obtain rfl : fn = Tryz.f3 := (Option.some.inj (Tryz.func3.symm.trans hfn)).symm
  refine ⟨qf_looks, fun j t ht => ?_⟩
  rw [Tryz.params3] at ht
  have hm : t = 22 ∨ t = 23 := by simpa using Array.mem_of_getElem? ht
  rcases hm with rfl | rfl
  · exact (show Tryz.prog.wantsStandIn 22 = false by kernel_rfl)
  · exact (show Tryz.prog.wantsStandIn 23 = false by kernel_rfl)
theorem qf_wf : Rows.queryFiltersRow.wfByText (OpenSpec.ofChange Rows.queryFiltersSpec) = true := by kernel_rfl
theorem qf_main : Tryz.pinned.checked.prog.mainIs = some ((true, "e3a4f09d885368300cba5177a6e638f2ce5891b0cb7d797910c9fd19d53a6750").1, (true, "e3a4f09d885368300cba5177a6e638f2ce5891b0cb7d797910c9fd19d53a6750").2.toList) := by kernel_rfl
theorem qf_goes : false = Rows.queryFiltersRow.goesBy Tryz.pinned.checked.prog := by kernel_rfl
/-- The card. -/
theorem queryFilters_holds : Rows.QueryFiltersCardSaid :=
  Claim7.holds_tied_plain_at .later [] _ _ _ _ qf_said (fun _ h => by cases h) qf_wf (fun _ h => by cases h) queryFilters_row_tie rfl ⟨rfl, rfl⟩ qf_main rfl qf_plain qf_goes
end Go.Proofs.YtaaeeabpbmigoaaGreatDoor
