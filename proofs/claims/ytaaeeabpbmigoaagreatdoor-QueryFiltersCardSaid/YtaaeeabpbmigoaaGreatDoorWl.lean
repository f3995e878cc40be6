/- The example of layer 21 holds. -/
import Derived.Test.YtaaeeabpbmigoaaGreatDoorWk
import Derived.Below
set_option linter.unusedVariables false
set_option linter.unusedSimpArgs false
/- The example of layer 21 holds. -/
namespace Go.M
open Go Go.V Go.RowKit Go.Proofs
set_option linter.unusedVariables false
set_option maxRecDepth 100000
noncomputable def crcH : H := mkH [(4, .row (T.ofList 20 [.lit (.int .u32 0), .lit (.int .u32 498536548), .lit (.int .u32 997073096), .lit (.int .u32 651767980), .lit (.int .u32 1994146192), .lit (.int .u32 1802195444), .lit (.int .u32 1303535960), .lit (.int .u32 1342533948), .lit (.int .u32 3988292384), .lit (.int .u32 4027552580), .lit (.int .u32 3604390888), .lit (.int .u32 3412177804), .lit (.int .u32 2607071920), .lit (.int .u32 2262029012), .lit (.int .u32 2685067896), .lit (.int .u32 3183342108)] 0 .leaf) 16 .tab)] 40
/-- One outcome: true. -/
noncomputable def isTrue (r : Option (List (VV × H))) : Bool := match r with
  | some [p] => veq p.1 (.lit (.bool true))
  | _ => false
theorem alive21_run : isTrue (callV2 (cfgOf ext2) 1000000 17 [] crcH) = true := by decide +kernel
theorem isTrue_gives {ext : Ext} (he : ExtOk ext) {n : Nat} {g : FuncId} {a : List VV} {h : H} (hc : isTrue (callV2 (cfgOf ext) n g a h) = true) (hn : Nat.ble a.length 6 = true)
    (hsz : (match fnsT.get g with | some fn => Nat.ble a.length fn.ntmps && Nat.ble fn.ntmps 4000 | none => true) = true) {N : Nat} {m : Mp} {w : World} {xs : List Value} (R : Rep N m h w) (hx : VRL m a xs) :
    Calls Tryz.prog g xs.toArray w fun e w' => e = .returned (.bool true) ∧ Below N w w' := by
  rw [callV2_eq] at hc
  unfold isTrue at hc
  split at hc
  · rename_i q hq
    refine Calls.mono (gives_of_callV he hq hn hsz N m w xs R hx) fun e w' ⟨p', hp', m', x, k1, k2, k3, k4, k5⟩ => ?_
    rw [List.mem_singleton] at hp'
    subst hp'
    rw [veq_eq hc] at k3
    cases k3
    exact ⟨k1, k5⟩
  · cases hc
end Go.M
