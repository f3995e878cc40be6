/- errors.As given to the machine; the example of layer 20 holds. -/
import Derived.Test.YtaaeeabpbmigoaaGreatDoorVk
import Derived.Test.YtaaeeabpbmigoaaGreatDoorVj
import Derived.Below
set_option linter.unusedVariables false
set_option linter.unusedSimpArgs false
/- errors.As at a hit, given to the machine. -/
namespace Go.M
open Go Go.V Go.RowKit Go.Proofs
set_option linter.unusedVariables false
set_option linter.unusedSimpArgs false
set_option maxRecDepth 100000
theorem Rep.more {N : Nat} {m : Mp} {h : H} {w w' : World} (R : Rep N m h w) (hs : w.heap.size ≤ w'.heap.size) (hb : ∀ i, i < w.heap.size → w'.heap[i]? = w.heap[i]?) : Rep N m h w' :=
  ⟨fun id o ho => by
    obtain ⟨q, ob, h1, h2, h3⟩ := R.obj id o ho
    exact ⟨q, ob, h1, (hb q.b (Array.getElem?_eq_some_iff.1 h2).1).trans h2, h3⟩, R.inj, R.own, R.fresh, R.glob, Nat.le_trans R.size hs, R.cap⟩
theorem run_sta (ta e : Addr) (old : Value) (W : World) (ht : W.cell? ta = some old) (hf : W.frozen? ta = false) :
    (do Instr.storeAt 63 (.pointer (some ta)) (.pointer (some e)); pure Next.skip).run Tryz.prog W = .ok .skip (W.setCell ta (.pointer (some e))) := by
  have hz : (sizeOf 63).run Tryz.prog W = .ok 1 W := by kernel_rfl
  have hst : (store ta (.pointer (some e)) .plain).run Tryz.prog W = .ok () (W.setCell ta (.pointer (some e))) := by
    rw [run_store Tryz.prog W ta _ _ (by rfl)]
    simp [stored, ht, hf]
  simp [Instr.storeAt, Instr.sureAddr, storeVar, Sem.run_bind, Result.andThen, hz, Value.cells, storeCells, Addr.add, hst, Pure.pure, Sem.run]
def errT : VV := .ifc 248 (.agg [.lit (.pointer (some ⟨7, 68, none⟩))])
/-- The handle that errors.errorType holds. -/
noncomputable def isErrT (v : VV) : Bool := veq v errT
theorem isErrT_eq {v : VV} (h : isErrT v = true) : v = errT := veq_eq h
noncomputable def asX (args : List VV) (h : H) : Option (VV × H) := match args with
  | [.ifc 63 (.ptr a oa), .ifc 148 (.ptr b ob)] => (match rowOf h 1 with
    | some r => (match r.t.get 0 with
      | some v => bif isErrT v && Nat.blt 0 r.n && r.k.wr.not then (match xStore (cfgOf ext1) h 63 (.ptr b ob) (.ptr a oa) with
        | .nov h' => some (.lit (.bool true), h')
        | _ => none) else none
      | none => none)
    | none => none)
  | _ => none
theorem asX_ok {args : List VV} {h : H} {p : VV × H} (hp : asX args h = some p) : Gives Tryz.prog 83 args h [p] := by
  unfold asX at hp
  split at hp
  · rename_i a oa b ob
    split at hp
    · rename_i r hr
      split at hp
      · rename_i v hv
        cases hb : (isErrT v && Nat.blt 0 r.n && r.k.wr.not) with
        | false => rw [hb] at hp; cases hp
        | true =>
          rw [hb, cond_true] at hp
          simp only [Bool.and_eq_true, Nat.blt_eq] at hb
          obtain ⟨⟨he, hn⟩, hk⟩ := hb
          have := isErrT_eq he
          subst this
          split at hp
          · rename_i h' hst
            cases hp
            intro N m w xs R hx
            cases hx with
            | cons h1 h2 =>
            cases h2 with
            | cons h2 h3 =>
            cases h3
            cases h1 with
            | ifc h1 =>
            cases h2 with
            | ifc h2 =>
            cases h1 with
            | @ptr _ _ qa hqa =>
            cases h2 with
            | @ptr _ _ qb hqb =>
            -- the handle
            obtain ⟨q1, cs1, ty1, fz1, hq1, hb1, hR1⟩ := R.row hr
            rw [R.glob 1 (by decide)] at hq1
            cases hq1
            have hg : w.cell? ⟨1, 0, none⟩ = some (.iface 248 (.agg #[.pointer (some ⟨7, 68, none⟩)])) := by
              obtain ⟨v', x', e1, e2, e3⟩ := hR1.cells 0 hn
              rw [hv] at e1
              cases e1
              unfold errT at e3
              cases e3 with
              | ifc e3 =>
              cases e3 with
              | agg e3 =>
              cases e3 with
              | cons e3 e4 =>
              cases e3
              cases e4
              unfold World.cell?
              simp only [hb1]
              simpa using e2
            -- the target
            have hrow : ∃ rb, rowOf h b = some rb ∧ rb.k.wr = true ∧ ob < rb.n := by
              unfold xStore at hst
              simp only [] at hst
              cases hz : (cfgOf ext1).size 63 with
              | none => rw [hz] at hst; cases hst
              | some s =>
                have hs1 : s = 1 := by
                  have := (cfgOk ext1).size hz w
                  rw [show (sizeOf 63).run Tryz.prog w = .ok 1 w by kernel_rfl] at this
                  cases this; rfl
                subst hs1
                rw [hz] at hst
                simp only [] at hst
                cases hrow : rowOf h b with
                | none => rw [hrow] at hst; cases hst
                | some rb =>
                  rw [hrow] at hst
                  simp only [storeRow] at hst
                  have hk : rb.k.wr = true := by
                    cases hk : rb.k <;> first | rfl | (rw [hk] at hst; cases hst)
                  refine ⟨rb, rfl, hk, ?_⟩
                  have hst' : (bif Nat.beq (VV.ptr a oa).cells.length 1 && Nat.ble (ob + 1) rb.n && (VV.ptr a oa).cells.all flat then putK (VV.ptr a oa).cells ob rb.t fun t => h.setK b (.row t rb.n rb.k) fun h => M.R.nov h else M.R.no "store") = M.R.nov h' := by
                    cases hkk : rb.k <;> rw [hkk] at hst hk <;> first | exact hst | (cases hk)
                  cases hb : (Nat.beq (VV.ptr a oa).cells.length 1 && Nat.ble (ob + 1) rb.n && (VV.ptr a oa).cells.all flat) with
                  | false => rw [hb] at hst'; cases hst'
                  | true =>
                    simp only [nat_beq, nat_ble, Bool.and_eq_true, decide_eq_true_eq] at hb
                    omega
            obtain ⟨rb, hrb, hkb, hob⟩ := hrow
            obtain ⟨qb', csb, tyb, fzb, hqb', hbb, hRb⟩ := R.row hrb
            rw [hqb] at hqb'
            cases hqb'
            obtain ⟨vb, old, _, hold, _⟩ := hRb.cells ob hob
            have ht0 : w.cell? ⟨qb.b, qb.base + ob, none⟩ = some old := by
              unfold World.cell?
              simp only [hbb]
              simpa using hold
            have hf0 : w.frozen? ⟨qb.b, qb.base + ob, none⟩ = false := by
              unfold World.frozen?
              simp only [hbb]
              have hlt := (Array.getElem?_eq_some_iff.1 hold).1
              rcases hRb.free hkb with h0 | h0
              · rw [← h0]; simp
              · simp; omega
            have hlt : qb.b < w.heap.size := (Array.getElem?_eq_some_iff.1 hbb).1
            refine Calls.mono (as_hit ⟨qa.b, qa.base + oa, none⟩ ⟨qb.b, qb.base + ob, none⟩ old w hg ht0 hf0) fun e w' ⟨k1, k2⟩ => ?_
            obtain ⟨W, hW⟩ : ∃ W, W = ((((w.alloc (.cells #[.pointer (some ⟨qb.b, qb.base + ob, none⟩)] 148)).alloc (.cells #[.pointer (some ⟨7, 148, none⟩), .pointer (some ⟨w.heap.size, 0, none⟩), .int .u64 150] 240)).alloc (.cells #[.pointer (some ⟨7, 148, none⟩), .pointer (some ⟨w.heap.size, 0, none⟩), .int .u64 150] 240)).alloc (.cells #[.pointer (some ⟨qa.b, qa.base + oa, none⟩)] 63)) := ⟨_, rfl⟩
            rw [← hW] at k2
            have hB : Below w.heap.size w W := by
              rw [hW]
              exact ((((Below.refl _ w).alloc (Nat.le_refl _) _).alloc (by simp) _).alloc (by simp; omega) _).alloc (by simp; omega) _
            have RW : Rep N m h W := R.more hB.size hB.block
            obtain ⟨m', w'', hle, hrun, R', hB'⟩ := store_ok (t := 63) (cfgOk ext1) RW hst (.ptr hqb) (.ptr hqa)
            rw [run_sta _ _ old W ((hB.cell (p := ⟨qb.b, qb.base + ob, none⟩) hlt).trans ht0) ((hB.frozen (p := ⟨qb.b, qb.base + ob, none⟩) hlt).trans hf0)] at hrun
            cases hrun
            subst k2
            exact ⟨_, List.mem_singleton.2 rfl, m', _, k1, hle, .lit _, R', (hB.mono R.size).trans hB'⟩
          · cases hp
      · cases hp
    · cases hp
  · cases hp
end Go.M
/- The example of layer 20 holds. -/
namespace Go.M
open Go Go.V Go.RowKit Go.Proofs
set_option linter.unusedVariables false
set_option maxRecDepth 100000
noncomputable def ext3 : Ext := fun f => bif Nat.beq f 83 then some asX else ext1 f
theorem ext3_ok : ExtOk ext3 := by
  intro g F hg args h p hp
  unfold ext3 at hg
  cases hb : Nat.beq g 83 with
  | false => rw [hb] at hg; exact ext1_ok g F hg args h p hp
  | true =>
    rw [hb] at hg
    cases hg
    have := Nat.eq_of_beq_eq_true hb
    subst this
    exact ⟨⟨Tryz.f83, by kernel_rfl, rfl⟩, asX_ok hp⟩
noncomputable def mkR : List (Nat × VO) → T VO → T VO
  | [], t => t
  | p :: l, t => T.setK 20 t p.1 p.2 fun t => mkR l t
/-- One outcome: true. -/
noncomputable def isYes (r : Option (List (VV × H))) : Bool := match r with
  | some [p] => veq p.1 (.lit (.bool true))
  | _ => false
theorem isYes_gives {ext : Ext} (he : ExtOk ext) {n : Nat} {g : FuncId} {a : List VV} {h : H} (hc : isYes (callV2 (cfgOf ext) n g a h) = true) (hn : Nat.ble a.length 6 = true)
    (hsz : (match fnsT.get g with | some fn => Nat.ble a.length fn.ntmps && Nat.ble fn.ntmps 4000 | none => true) = true) {N : Nat} {m : Mp} {w : World} {xs : List Value} (R : Rep N m h w) (hx : VRL m a xs) :
    Calls Tryz.prog g xs.toArray w fun e w' => e = .returned (.bool true) ∧ Below N w w' := by
  rw [callV2_eq] at hc
  unfold isYes at hc
  split at hc
  · rename_i q hq
    refine Calls.mono (gives_of_callV he hq hn hsz N m w xs R hx) fun e w' ⟨p', hp', m', x, k1, k2, k3, k4, k5⟩ => ?_
    rw [List.mem_singleton] at hp'
    subst hp'
    rw [veq_eq hc] at k3
    cases k3
    exact ⟨k1, k5⟩
  · cases hc
noncomputable def vfyH : H := ⟨mkR [(0, .row (T.ofList 20 [.lit (.string ⟨#[102, 105, 108, 101]⟩), .lit (.string ⟨#[116, 114, 117, 110, 99, 97, 116, 101, 100]⟩), .lit (.string ⟨#[102, 114, 97, 109, 105, 110, 103]⟩), .lit (.string ⟨#[99, 104, 101, 99, 107, 115, 117, 109]⟩), .lit (.string ⟨#[99, 111, 110, 116, 101, 110, 116]⟩)] 0 .leaf) 5 .tab),
  (1, .row (T.ofList 20 [errT] 0 .leaf) 1 .tab),
  (4, .row (T.ofList 20 [.lit (.int .u32 0), .lit (.int .u32 498536548), .lit (.int .u32 997073096), .lit (.int .u32 651767980), .lit (.int .u32 1994146192), .lit (.int .u32 1802195444), .lit (.int .u32 1303535960), .lit (.int .u32 1342533948), .lit (.int .u32 3988292384), .lit (.int .u32 4027552580), .lit (.int .u32 3604390888), .lit (.int .u32 3412177804), .lit (.int .u32 2607071920), .lit (.int .u32 2262029012), .lit (.int .u32 2685067896), .lit (.int .u32 3183342108)] 0 .leaf) 16 .tab)] .leaf, 40⟩
theorem alive20_run : isYes (callV2 (cfgOf ext3) 1000000 34 [] vfyH) = true := by decide +kernel
end Go.M
