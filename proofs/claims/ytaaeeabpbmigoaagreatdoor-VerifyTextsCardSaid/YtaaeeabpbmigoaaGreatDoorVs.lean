/- The closed facts of the row. -/
import Derived.Test.YtaaeeabpbmigoaaGreatDoorCards
import Derived.JoinedCond
import Derived.KernelRfl
set_option linter.unusedVariables false
set_option linter.unusedSimpArgs false
/- VerifyTexts: the closed facts of its row. -/
namespace Go.Proofs.YtaaeeabpbmigoaaGreatDoor
set_option maxRecDepth 100000
theorem and_true_mk {a b : Bool} (ha : a = true) (hb : b = true) : (a && b) = true := by rw [ha, hb]; rfl
set_option maxHeartbeats 8000000 in
theorem vt_facts : joinedFacts Tryz.prog 9 Tryz.f9 Rows.verifyTextsSpec Rows.verifyTextsRow = true := by
  unfold joinedFacts
  repeat' with_reducible apply and_true_mk
  all_goals as_aux_lemma => kernel_rfl
end Go.Proofs.YtaaeeabpbmigoaaGreatDoor
