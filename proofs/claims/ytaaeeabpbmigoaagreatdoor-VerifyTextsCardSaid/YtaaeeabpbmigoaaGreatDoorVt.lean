/- The closed facts of the card. -/
import Derived.Test.YtaaeeabpbmigoaaGreatDoorCards
import Derived.ProofKit
import Derived.JoinedCond
import Derived.KernelRfl
set_option linter.unusedVariables false
set_option linter.unusedSimpArgs false
/- VerifyTexts: closed facts of its card. -/
namespace Go.Proofs.YtaaeeabpbmigoaaGreatDoor
set_option maxRecDepth 100000
theorem vt_named : Tryz.pinned.checked.prog.funcNamed Rows.verifyTextsRow.func = some 9 := by kernel_rfl
theorem vt_inst : Tryz.f9.isInstance Tryz.pinned.checked.prog Rows.verifyTextsRow.origin Rows.verifyTextsRow.targs := of_decide_eq_true (by kernel_rfl)
theorem vt_wrap : Tryz.f9.isWrapper Tryz.pinned.checked.prog Rows.verifyTextsRow.wrapper Rows.verifyTextsRow.mainSum := by unfold Func.isWrapper; first | (rw [if_pos (by decide +kernel)]; kernel_rfl) | (rw [if_neg (by decide +kernel)]; exact ⟨rfl, rfl⟩)
theorem vt_looks : true = Tryz.prog.looks [] := by kernel_rfl
theorem vt_wants : Tryz.prog.wantsStandIn 3 = false := by kernel_rfl
theorem vt_wf : Rows.verifyTextsRow.wfByText (OpenSpec.ofChange Rows.verifyTextsSpec) = true := by kernel_rfl
theorem vt_main : Tryz.pinned.checked.prog.mainIs = some ((true, "e3a4f09d885368300cba5177a6e638f2ce5891b0cb7d797910c9fd19d53a6750").1, (true, "e3a4f09d885368300cba5177a6e638f2ce5891b0cb7d797910c9fd19d53a6750").2.toList) := by kernel_rfl
theorem vt_goes : false = Rows.verifyTextsRow.goesBy Tryz.pinned.checked.prog := by kernel_rfl
end Go.Proofs.YtaaeeabpbmigoaaGreatDoor
