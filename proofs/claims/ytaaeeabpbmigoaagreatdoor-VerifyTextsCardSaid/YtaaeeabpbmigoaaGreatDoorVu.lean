/- VerifyTexts: the row and the card. -/
import Derived.Test.YtaaeeabpbmigoaaGreatDoorCards
import Derived.Test.YtaaeeabpbmigoaaGreatDoorTie
import Derived.Test.YtaaeeabpbmigoaaGreatDoorVr
import Derived.Test.YtaaeeabpbmigoaaGreatDoorVs
import Derived.Test.YtaaeeabpbmigoaaGreatDoorVt
set_option linter.unusedVariables false
set_option linter.unusedSimpArgs false
/- VerifyTexts: the row and the card. -/
namespace Go.Proofs.YtaaeeabpbmigoaaGreatDoor
set_option maxRecDepth 100000
theorem vt_said : Rows.VerifyTextsSaid :=
  OpenClaim.holds_of_cond 9 Tryz.f9 rfl rfl rfl rfl rfl rfl rfl ⟨rfl, rfl, rfl, rfl, rfl⟩ rfl rfl rfl rfl rfl vt_named Tryz.func9 vt_facts vt_inst vt_wrap
    (fun os started H enc _ F => by rw [OpenClaim.pre_eq_preRow]; exact vt_lifted os started H enc F)
theorem vt_plain (f : FuncId) (fn : Func) (hf : Tryz.pinned.checked.prog.funcNamed "tsblock/tsblocklaw20.VerifyTexts" = some f) (hfn : Tryz.pinned.checked.prog.funcs[f]? = some fn) :
    true = Tryz.pinned.checked.prog.looks [] ∧ ∀ (j : Nat) t, fn.params[j]? = some t → Tryz.pinned.checked.prog.wantsStandIn t = false := by
  obtain rfl : f = 9 := Option.some.inj (vt_named.symm.trans hf) |>.symm
  obtain rfl : fn = Tryz.f9 := (Option.some.inj (Tryz.func9.symm.trans hfn)).symm
  refine ⟨vt_looks, fun j t ht => ?_⟩
  rw [Tryz.params9] at ht
  obtain rfl : t = 3 := by simpa using Array.mem_of_getElem? ht
  exact vt_wants
/-- The card. -/
theorem verifyTexts_holds : Rows.VerifyTextsCardSaid :=
  Claim7.holds_tied_plain_at .later [] _ _ _ _ vt_said (fun _ h => by cases h) vt_wf (fun _ h => by cases h) verifyTexts_row_tie rfl ⟨rfl, rfl⟩ vt_main rfl vt_plain vt_goes
end Go.Proofs.YtaaeeabpbmigoaaGreatDoor
