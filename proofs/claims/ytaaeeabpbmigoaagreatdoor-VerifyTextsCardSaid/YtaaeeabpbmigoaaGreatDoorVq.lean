/- The row's last steps; VerifyTexts' contract. -/
import Derived.Test.YtaaeeabpbmigoaaGreatDoorRows
import Derived.ProofKit
import Derived.OpenShut
import Derived.ReadAgain
import Derived.ChangeSame
import Derived.Below
import Derived.Test.YtaaeeabpbmigoaaGreatDoorVp
set_option linter.unusedVariables false
set_option linter.unusedSimpArgs false
/- The row's last steps, for a law that answers true and leaves its arguments alone. -/
namespace Go.Proofs
open Go.ChangeShapes Go.WideShapes Go.ChangeAt Go.RowKit
set_option maxRecDepth 100000
theorem kidsT : Kids Tryz.prog (· < Tryz.prog.types.size) := kids_rows (by kernel_rfl) (by kernel_rfl)
theorem fullT : ∀ t e, t < Tryz.prog.types.size → Tryz.prog.underlying t = some (.slice e) → 0 < Tryz.prog.cellsOf e := slices_full_of Tryz.prog (by kernel_rfl)
section
variable {H : Type} {enc : TypeId × Value → H} {P : Program}
theorem all_up {W W' : World} {base : Nat} {sp : Nat → Bool} {hd : Bool} (hB : Below W.heap.size W W') :
    ∀ {ts : List TypeId} {vs : List Value} {ds : List (DataW H)} {ps : List MemPlace}, DataW.TrodAll enc P W base sp hd ts vs ds ps → DataW.TrodAll enc P W' base sp hd ts vs ds ps
  | [], [], [], _, h => h
  | _ :: _, _ :: _, _ :: _, _, ⟨p, q, ⟨n, hn⟩, h2, e⟩ => ⟨p, q, ⟨n, DataW.trod_carry n _ _ _ hn fun x hx => hB.same (DataW.trod_lt n _ _ _ hn x hx)⟩, all_up hB h2, e⟩
/-- A call that answers true above the blocks that were there. -/
theorem post_true {f : Func} {s : ChangeSpec} {W W' : World} {args : Array Value} {ds gs : List (DataW H)} {before : List MemPlace} {t : TypeId} (hv : s.vars = []) (hr : f.resultTypes = #[t]) (ht : Tryz.prog.underlying t = some .bool)
    (hs : ∀ l : List (DataW H), l.length = f.params.toList.length → s.fn H l = { results := [.lit (.bool true)], args := l }) (hp : ∀ u ∈ f.params.toList, u < Tryz.prog.types.size)
    (hW : DataW.Whole enc Tryz.prog f.params.toList s.vars false W args.toList ds gs before) (hb : Below W.heap.size W W') : s.post enc Tryz.prog f false true false false W args (.bool true) W' := by
  have hW' := hW
  obtain ⟨p, q, hA, hV, rfl, _, _⟩ := hW
  rw [hv] at hV
  obtain ⟨rfl, rfl⟩ := trodVars_none hV
  have hlen : ∀ {ts : List TypeId} {vs : List Value} {ds : List (DataW H)} {ps : List MemPlace}, DataW.TrodAll enc Tryz.prog W 0 (fun _ => true) true ts vs ds ps → ds.length = ts.length := by
    intro ts
    induction ts with
    | nil =>
      intro vs ds ps h
      match vs, ds, h with
      | [], [], _ => rfl
    | cons t ts ih =>
      intro vs ds ps h
      match vs, ds, h with
      | _ :: _, _ :: _, ⟨p, q, _, h2, _⟩ => simp [ih h2]
  have hfn := hs (ds ++ []) (by rw [List.append_nil]; exact hlen hA)
  have hlt : ∀ x ∈ p, x.block < W.heap.size := fun x hx => hW'.lt x (by simpa using hx)
  refine ⟨ds, [], p ++ [], [], p, [], hW', ?_, ?_, ?_, ?_, fun h => by cases h⟩
  · rw [hfn, hr]
    exact trodAll_mk1 ⟨1, by simp [DataW.trod, Value.cells, ht]⟩
  · rw [hfn, List.append_nil]
    exact all_up hb (DataW.TrodAll.respare kidsT fullT hp hA fun x hx => by simpa using hlt x hx)
  · rw [hv]
    rw [hfn]
    rfl
  · exact World.keptBut_mono (fun x hx => ⟨hx, Or.inr (Or.inl (by simpa using hx))⟩) (hb.frame (· ∈ p ++ []))
end
end Go.Proofs
/- VerifyTexts: the contract in the row's words. -/
namespace Go.Proofs.YtaaeeabpbmigoaaGreatDoor
open Go.ChangeShapes Go.WideShapes Go.ChangeAt Go.RowKit
set_option maxRecDepth 100000
theorem own : ownKnob Tryz.prog.godebug = none := by kernel_rfl
theorem vt_contract (H : Type) (enc : TypeId × Value → H) (W : World) (base : Nat) (args : Array Value) (ds gs : List (DataW H)) (before : List MemPlace)
    (hval : ∀ (j : Nat) t v, Tryz.f9.params[j]? = some t → args[j]? = some v → Value.okWide Tryz.prog W .any base t v)
    (hW : DataW.Whole enc Tryz.prog Tryz.f9.params.toList Rows.verifyTextsSpec.vars false W args.toList ds gs before) (hL : laidMetH Tryz.prog Rows.verifyTextsRow.laid W) :
    Calls Tryz.prog 9 args W fun e W' => ∃ v, e = .returned v ∧ Rows.verifyTextsSpec.post enc Tryz.prog Tryz.f9 false true false false W args v W' := by
  have hW' := hW
  obtain ⟨p, q, hA0, hV, rfl, hfz, hnd⟩ := hW
  have hA : DataW.TrodAll enc Tryz.prog W 0 (fun _ => true) true Tryz.f9.params.toList args.toList ds p := hA0
  rw [Tryz.params9] at hA hval
  obtain ⟨v0, v1, d0, d1, p0, p1, rfl, rfl, rfl, h0, h1⟩ := trodAll_two hA
  clear hA0
  obtain ⟨c, rfl, rfl, rfl, wc⟩ := open_int Tryz.underlying3 (hval 0 3 v0 rfl rfl) h0
  obtain ⟨n, rfl, rfl, rfl, wn⟩ := open_int Tryz.underlying3 (hval 1 3 v1 rfl rfl) h1
  refine (texts_walk c n (bounds_i64 wn) W (laid20 hL)).mono fun e W' ⟨he, hg⟩ => ?_
  subst he
  refine ⟨_, rfl, post_true (t := 4) rfl (by kernel_rfl) Tryz.underlying4 (fun l hl => ?_) (by rw [Tryz.params9]; decide +kernel) hW' hg⟩
  rw [Tryz.params9] at hl
  match l, hl with
  | [_, _], _ => rfl
end Go.Proofs.YtaaeeabpbmigoaaGreatDoor
