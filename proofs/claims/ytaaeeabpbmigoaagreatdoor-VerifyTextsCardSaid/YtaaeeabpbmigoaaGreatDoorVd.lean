/- The machine: operations that read; new blocks. -/
import Derived.Test.YtaaeeabpbmigoaaGreatDoorVc
import Derived.Below
set_option linter.unusedVariables false
set_option linter.unusedSimpArgs false
/- The operations that leave the world alone, the rest; loads. -/
namespace Go.M
open Go Go.V
set_option linter.unusedSimpArgs false
set_option linter.unusedVariables false

section
variable {P : Program} {c : Cfg} {m : Mp} {h h' : H} {v : VV}

theorem indexAddr_ok {t : TypeId} {x i : VV} {X I : Value} (hok : CfgOk P c) (hr : xIndexAddr c h t x i = .val v h') (hx : VR m x X) (hi : VR m i I) :
    h' = h ∧ Pure P m (nval (Instr.indexAt t X I)) v := by
  unfold xIndexAddr at hr
  cases i with
  | lit u =>
    cases u with
    | int k n =>
      cases hi
      simp only [] at hr
      cases hu : c.und t with
      | none => rw [hu] at hr; cases hr
      | some d =>
        rw [hu] at hr
        cases d with
        | array len elem =>
          cases x with
          | ptr id off =>
            cases hx with
            | @ptr _ _ q hq =>
            simp only [] at hr
            cases hs : c.size elem with
            | none => rw [hs] at hr; cases hr
            | some s =>
              rw [hs] at hr
              simp only [] at hr
              cases hb : inRange n len with
              | false => rw [hb] at hr; cases hr
              | true =>
                rw [hb] at hr
                cases hr
                obtain ⟨h0, h1⟩ := inRange_eq hb
                refine ⟨rfl, pureV (.ptr hq) fun w => ?_⟩
                simp [Instr.indexAt, asIntOf, Sem.run_bind, hok.und hu w, hok.size hs w, Result.andThen, Instr.sureAddr, h0, h1, addr_add, pure, Sem.run, Nat.add_assoc]
          | _ => cases hr
        | slice elem =>
          cases x with
          | sl id off len cap ex =>
            simp only [] at hr
            cases hs : c.size elem with
            | none => rw [hs] at hr; cases hr
            | some s =>
              rw [hs] at hr
              simp only [] at hr
              cases hb : inRange n len with
              | false => rw [hb] at hr; cases hr
              | true =>
                rw [hb] at hr
                cases hr
                obtain ⟨h0, h1⟩ := inRange_eq hb
                have key : ∀ (q : Q) (cp : Nat), m id = some q → Pure P m (nval (Instr.indexAt t (.slice (some ⟨q.b, q.base + off, none⟩) len cp) (.int k n))) (.ptr id (off + n.toNat * s)) := by
                  intro q cp hq
                  refine pureV (.ptr hq) fun w => ?_
                  simp [Instr.indexAt, asIntOf, Sem.run_bind, hok.und hu w, hok.size hs w, Result.andThen, Instr.sureAddr, h0, h1, addr_add, pure, Sem.run, Nat.add_assoc]
                cases hx with
                | sl hq => exact ⟨rfl, key _ _ hq⟩
                | slo hq _ _ _ => exact ⟨rfl, key _ _ hq⟩
          | _ => cases hr
        | _ => cases hr
    | _ => cases hr
  | _ => cases hr

theorem index_ok {t : TypeId} {x i : VV} {X I : Value} (hok : CfgOk P c) (hr : xIndex c h t x i = .val v h') (hx : VR m x X) (hi : VR m i I) :
    h' = h ∧ Pure P m (nval (Instr.index t X I)) v := by
  unfold xIndex at hr
  cases i with
  | lit u =>
    cases u with
    | int k n =>
      cases hi
      simp only [] at hr
      cases hu : c.und t with
      | none => rw [hu] at hr; cases hr
      | some d =>
        rw [hu] at hr
        cases d with
        | array len elem =>
          cases x with
          | agg cs =>
            cases hx with
            | agg hcs =>
            simp only [] at hr
            cases hs : c.size elem with
            | none => rw [hs] at hr; cases hr
            | some s =>
              rw [hs] at hr
              simp only [] at hr
              cases hb : inRange n len with
              | false => rw [hb] at hr; cases hr
              | true =>
                rw [hb] at hr
                obtain ⟨h0, h1⟩ := inRange_eq hb
                obtain ⟨hp, rfl⟩ := optR_ok hr
                obtain ⟨y, hy, hw⟩ := part_ok hok hp hcs
                exact ⟨rfl, pureV hy fun w => by simp [Instr.index, asIntOf, Sem.run_bind, hok.und hu w, hok.size hs w, Result.andThen, h0, h1, pure, Sem.run, hw w]⟩
          | _ => cases hr
        | string =>
          cases x with
          | lit u =>
            cases u with
            | string s =>
              cases hx
              simp only [] at hr
              cases hb : inRange n s.size with
              | false => rw [hb] at hr; cases hr
              | true =>
                rw [hb] at hr
                obtain ⟨h0, h1⟩ := inRange_eq hb
                simp only [cond_true] at hr
                cases hg : s[n.toNat]? with
                | none => rw [hg] at hr; cases hr
                | some b =>
                  rw [hg] at hr
                  cases hr
                  exact ⟨rfl, pureV (.lit _) fun w => by simp [Instr.index, asIntOf, Sem.run_bind, hok.und hu w, Result.andThen, h0, hg, pure, Sem.run]⟩
            | _ => cases hr
          | _ => cases hr
        | _ => cases hr
    | _ => cases hr
  | _ => cases hr

/-! slices -/
theorem bound_ok {x : VV} {X : Value} {y y' b : Nat} (hr : boundV x y = some b) (hx : VR m x X) (hy : y ≤ y') (code : BoundsCode) (w : World) : (Instr.sliceBound X y' code).run P w = .ok b w ∧ b ≤ y := by
  unfold boundV at hr
  split at hr
  · split at hr
    · rename_i k i hb
      cases hx; cases hr
      refine ⟨?_, by omega⟩
      have : 0 ≤ i ∧ i ≤ (y' : Int) := ⟨hb.1, by omega⟩
      simp [Instr.sliceBound, asIntOf, Sem.run_bind, Result.andThen, this, pure, Sem.run]
    · cases hr
  · cases hr

inductive ORel (m : Mp) : Option VV → Option Value → Prop
  | none : ORel m none none
  | some {v : VV} {x : Value} : VR m v x → ORel m (some v) (some x)

theorem bounds_ok {len cap n l hi mm : Nat} {low high max : Option VV} {Low High Max : Option Value} (hr : boundsV len cap low high max = some (l, hi, mm)) (hn : cap ≤ n)
    (h1 : ORel m low Low) (h2 : ORel m high High) (h3 : ORel m max Max) (isS : Bool) (w : World) :
    (Instr.sliceBounds isS len n Low High Max).run P w = .ok (l, hi, if max.isSome then mm else n) w ∧ l ≤ hi ∧ (high.isSome = true → hi ≤ mm) ∧ mm ≤ cap ∧ (max = none → mm = cap) := by
  unfold boundsV at hr
  cases h3 with
  | none =>
    simp only [] at hr
    cases h2 with
    | none =>
      simp only [Option.isNone_none, if_true] at hr
      cases h1 with
      | none =>
        simp only [Option.some.injEq, Prod.mk.injEq] at hr
        obtain ⟨rfl, rfl, rfl⟩ := hr
        refine ⟨by simp [Instr.sliceBounds, Sem.run_bind, Result.andThen, pure, Sem.run], by omega, by simp, by omega, by simp⟩
      | some hv =>
        simp only [] at hr
        split at hr
        · cases hr
        · rename_i lo hlo
          simp only [Option.some.injEq, Prod.mk.injEq] at hr
          obtain ⟨rfl, rfl, rfl⟩ := hr
          have hb := fun code w => bound_ok (P := P) hlo hv (Nat.le_refl _) code w
          refine ⟨by simp [Instr.sliceBounds, Sem.run_bind, Result.andThen, pure, Sem.run, (hb _ _).1], (hb .index w).2, by simp, by omega, by simp⟩
    | some hv2 =>
      simp only [] at hr
      split at hr
      · cases hr
      · rename_i hi' hhi
        have hb2 := fun code w => bound_ok (P := P) hhi hv2 hn code w
        cases h1 with
        | none =>
          simp only [Option.some.injEq, Prod.mk.injEq] at hr
          obtain ⟨rfl, rfl, rfl⟩ := hr
          refine ⟨by simp [Instr.sliceBounds, Sem.run_bind, Result.andThen, pure, Sem.run, (hb2 _ _).1], by omega, fun _ => (hb2 .index w).2, by omega, by simp⟩
        | some hv =>
          simp only [] at hr
          split at hr
          · cases hr
          · rename_i lo hlo
            simp only [Option.some.injEq, Prod.mk.injEq] at hr
            obtain ⟨rfl, rfl, rfl⟩ := hr
            have hb := fun code w => bound_ok (P := P) hlo hv (Nat.le_refl _) code w
            refine ⟨by simp [Instr.sliceBounds, Sem.run_bind, Result.andThen, pure, Sem.run, (hb _ _).1, (hb2 _ _).1], (hb .index w).2, fun _ => (hb2 .index w).2, by omega, by simp⟩
  | some hv3 =>
    simp only [] at hr
    cases hbm : boundV _ cap with
    | none => rw [hbm] at hr; cases hr
    | some m' =>
      rw [hbm] at hr
      simp only [] at hr
      have hb3 := fun code w => bound_ok (P := P) hbm hv3 hn code w
      cases h2 with
      | none => simp at hr
      | some hv2 =>
        simp only [] at hr
        split at hr
        · cases hr
        · rename_i hi' hhi
          have hb2 := fun code w => bound_ok (P := P) hhi hv2 (Nat.le_refl _) code w
          cases h1 with
          | none =>
            simp only [Option.some.injEq, Prod.mk.injEq] at hr
            obtain ⟨rfl, rfl, rfl⟩ := hr
            refine ⟨by simp [Instr.sliceBounds, Sem.run_bind, Result.andThen, pure, Sem.run, (hb3 _ _).1, (hb2 _ _).1], by omega, fun _ => (hb2 .index w).2, (hb3 .index w).2, by simp⟩
          | some hv =>
            simp only [] at hr
            split at hr
            · cases hr
            · rename_i lo hlo
              simp only [Option.some.injEq, Prod.mk.injEq] at hr
              obtain ⟨rfl, rfl, rfl⟩ := hr
              have hb := fun code w => bound_ok (P := P) hlo hv (Nat.le_refl _) code w
              refine ⟨by simp [Instr.sliceBounds, Sem.run_bind, Result.andThen, pure, Sem.run, (hb _ _).1, (hb2 _ _).1, (hb3 _ _).1], (hb .index w).2, fun _ => (hb2 .index w).2, (hb3 .index w).2, by simp⟩

theorem slice_ok {N : Nat} {w0 : World} {t : TypeId} {x : VV} {X : Value} {low high max : Option VV} {Low High Max : Option Value} (hok : CfgOk P c) (R : Rep N m h w0) (hr : sliceV c t x low high max h = .val v h') (hx : VR m x X)
    (h1 : ORel m low Low) (h2 : ORel m high High) (h3 : ORel m max Max) : h' = h ∧ Pure P m (nval (Instr.sliceAt t X Low High Max)) v := by
  unfold sliceV at hr
  cases hu : c.und t with
  | none => rw [hu] at hr; cases hr
  | some d =>
    rw [hu] at hr
    cases d with
    | string =>
      cases x with
      | lit u =>
        cases u with
        | string s =>
          cases hx
          simp only [sliceStr] at hr
          cases h3 with
          | some => cases hr
          | none =>
            simp only [] at hr
            cases hb : boundsV s.size s.size low high none with
            | none => rw [hb] at hr; cases hr
            | some r =>
              obtain ⟨l, hi, mm⟩ := r
              rw [hb] at hr
              cases hr
              refine ⟨rfl, pureV (.lit _) fun w => ?_⟩
              have := (bounds_ok (P := P) hb (Nat.le_refl _) h1 h2 .none false w).1
              simp [Instr.sliceAt, Instr.slice, Sem.run_bind, hok.und hu w, Result.andThen, this, pure, Sem.run]
        | _ => cases hr
      | _ => cases hr
    | array n elem =>
      cases x with
      | ptr id off =>
        cases hx with
        | @ptr _ _ q hq =>
        simp only [] at hr
        cases hs : c.size elem with
        | none => rw [hs] at hr; cases hr
        | some s =>
          rw [hs] at hr
          simp only [sliceArr] at hr
          cases hb : boundsV n n low high max with
          | none => rw [hb] at hr; cases hr
          | some r =>
            obtain ⟨l, hi, mm⟩ := r
            rw [hb] at hr
            simp only [nat_beq] at hr
            by_cases hml : mm = l
            · simp [hml] at hr
            · simp only [hml, decide_false, cond_false] at hr
              cases hr
              refine ⟨rfl, pureV (.sl hq) fun w => ?_⟩
              have hb' := bounds_ok (P := P) hb (Nat.le_refl _) h1 h2 h3 false w
              have hcap : (if max.isSome = true then mm else n) = mm := by
                cases h3 with
                | none => simp [hb'.2.2.2.2 rfl]
                | some => simp
              rw [hcap] at hb'
              simp [Instr.sliceAt, Sem.run_bind, hok.und hu w, hok.size hs w, Result.andThen, Instr.sureAddr, hb'.1, hml, addr_add, pure, Sem.run, Nat.add_assoc]
      | _ => cases hr
    | slice elem =>
      simp only [] at hr
      cases hs : c.size elem with
      | none => rw [hs] at hr; cases hr
      | some s =>
        rw [hs] at hr
        simp only [sliceS] at hr
        have run : ∀ (a : Option Addr) (ln cp l hi mm : Nat) (w : World), (Instr.sliceBounds true ln cp Low High Max).run P w = .ok (l, hi, mm) w →
            (Instr.sliceAt t (.slice a ln cp) Low High Max).run P w = .ok (.slice (if mm = l then a else a.map (·.add (l * s))) (hi - l) (mm - l)) w := by
          intro a ln cp l hi mm w hb
          simp [Instr.sliceAt, Instr.slice, Sem.run_bind, hok.und hu w, hok.size hs w, Result.andThen, hb, pure, Sem.run]
        cases x with
        | lit u =>
          cases hx
          simp only [] at hr
          cases hn : isNilS X with
          | false => rw [hn] at hr; cases hr
          | true =>
            have hu0 : X = .slice none 0 0 := by
              unfold isNilS at hn
              split at hn
              · rfl
              · cases hn
            subst hu0
            rw [hn] at hr
            simp only [sliceNil, cond_true] at hr
            cases hb : boundsV 0 0 low high max with
            | none => rw [hb] at hr; cases hr
            | some r =>
              obtain ⟨l, hi, mm⟩ := r
              rw [hb] at hr
              cases hr
              refine ⟨rfl, pureV (.lit _) fun w => ?_⟩
              have hb' := bounds_ok (P := P) hb (Nat.le_refl _) h1 h2 h3 true w
              have hmm : (if max.isSome = true then mm else 0) = 0 := by
                cases h3 with
                | none => simp
                | some => simp; omega
              rw [hmm] at hb'
              have hhi : hi = 0 := by
                cases h2 with
                | none =>
                  unfold boundsV at hb
                  cases h3 with
                  | none => simp at hb; split at hb <;> simp_all
                  | some => simp at hb; split at hb <;> simp_all
                | some => have := hb'.2.2.1 rfl; omega
              have hl0 : l = 0 := by omega
              subst hhi; subst hl0
              rw [run _ _ _ _ _ _ _ hb'.1]
              rfl
        | emp =>
          cases hx with
          | @emp a n =>
          simp only [sliceEmp] at hr
          cases h3 with
          | some => cases hr
          | none =>
            simp only [] at hr
            cases hb : boundsV 0 0 low high none with
            | none => rw [hb] at hr; cases hr
            | some r =>
              obtain ⟨l, hi, mm⟩ := r
              rw [hb] at hr
              cases hr
              have hb' := fun w => bounds_ok (P := P) hb (Nat.zero_le n) h1 h2 .none true w
              have hhi : hi = 0 := by
                cases h2 with
                | none =>
                  unfold boundsV at hb
                  simp at hb; split at hb <;> simp_all
                | some => have := (hb' w0).2.2.1 rfl; have := (hb' w0).2.2.2.1; omega
              have hl0 : l = 0 := by have := (hb' w0).2.1; omega
              subst hhi; subst hl0
              refine ⟨rfl, pureV (x := .slice (if n = 0 then some a else some (a.add (0 * s))) 0 n) ?_ fun w => ?_⟩
              · split <;> exact .emp
              · rw [run _ _ _ _ _ _ _ (hb' w).1]; simp
        | sl id off len cap ex =>
          have exact_ : ∀ (n : Nat) (q : Q), m id = some q → cap ≤ n → (max = none → n = cap) → sliceEx s id off len cap low high max h = .val v h' → h' = h ∧ Pure P m (nval (Instr.sliceAt t (.slice (some ⟨q.b, q.base + off, none⟩) len n) Low High Max)) v := by
            intro n q hq hn hmx hr
            simp only [sliceEx] at hr
            cases hb : boundsV len cap low high max with
            | none => rw [hb] at hr; cases hr
            | some r =>
              obtain ⟨l, hi, mm⟩ := r
              rw [hb] at hr
              cases hr
              have hb' := fun w => bounds_ok (P := P) hb hn h1 h2 h3 true w
              have hmm : (if max.isSome = true then mm else n) = mm := by
                cases h3 with
                | none => simp; rw [hmx rfl, (hb' w0).2.2.2.2 rfl]
                | some => simp
              rw [hmm] at hb'
              refine ⟨rfl, ?_⟩
              by_cases hml : mm = l
              · refine pureV (x := .slice (some ⟨q.b, q.base + off, none⟩) (hi - l) (mm - l)) ?_ fun w => ?_
                · simp only [nat_beq, hml, decide_true, cond_true]; exact .sl hq
                · rw [run _ _ _ _ _ _ _ (hb' w).1, if_pos hml]
              · refine pureV (x := .slice (some ⟨q.b, q.base + (off + l * s), none⟩) (hi - l) (mm - l)) ?_ fun w => ?_
                · simp only [nat_beq, hml, decide_false, cond_false]; exact .sl hq
                · rw [run _ _ _ _ _ _ _ (hb' w).1, if_neg hml]; simp [addr_add, Nat.add_assoc]
          cases ex with
          | true =>
            cases hx with
            | sl hq => exact exact_ _ _ hq (Nat.le_refl _) (fun _ => rfl) hr
          | false =>
            cases hx with
            | @slo _ _ _ _ n q hq hle hc hz =>
            simp only [] at hr
            cases hrow : rowOf h id with
            | none => rw [hrow] at hr; cases hr
            | some r =>
              rw [hrow] at hr
              simp only [] at hr
              cases hk : r.k with
              | opn sz =>
                rw [hk] at hr
                simp only [nat_beq] at hr
                by_cases hsz : sz = s
                · simp only [hsz, decide_true, cond_true, sliceLo] at hr
                  have hqs : q.sz = s := by
                    have hrow' : h.get id = some (.row r.t r.n r.k) := by
                      unfold rowOf at hrow
                      cases hg : h.get id with
                      | none => rw [hg] at hrow; cases hrow
                      | some o =>
                        rw [hg] at hrow
                        cases o <;> simp [rowO, rowV] at hrow
                        subst hrow; rfl
                    obtain ⟨q', ob, hq', _, hor⟩ := R.obj _ _ hrow'
                    rw [hq] at hq'; cases hq'
                    cases hor with
                    | row hR => have := hR.rk; rw [hk] at this; rw [← this.2.1, hsz]
                  cases h3 with
                  | some hv3 => exact exact_ _ _ hq hle (by simp) hr
                  | none =>
                    simp only [] at hr
                    cases hb : boundsV len cap low high none with
                    | none => rw [hb] at hr; cases hr
                    | some rr =>
                      obtain ⟨l, hi, mm⟩ := rr
                      rw [hb] at hr
                      simp only [nat_beq] at hr
                      have hb' := fun w => bounds_ok (P := P) hb hle h1 h2 .none true w
                      simp only [Option.isSome_none, Bool.false_eq_true, if_false] at hb'
                      rw [nat_ble] at hr
                      by_cases hhc : hi ≤ cap
                      rotate_left
                      · simp [hhc] at hr
                      simp only [hhc, decide_true, cond_true] at hr
                      by_cases hl0 : l = 0
                      · simp only [hl0, decide_true, cond_true] at hr
                        cases hr
                        subst hl0
                        refine ⟨rfl, pureV (.slo hq hle hc hz) fun w => ?_⟩
                        rw [run _ _ _ _ _ _ _ (hb' w).1]
                        simp [addr_add]
                      · simp only [hl0, decide_false, cond_false] at hr
                        by_cases hcl : cap = l
                        · simp only [hcl, decide_true, cond_true] at hr
                          cases hr
                          have hhi : hi = l := by have := (hb' w0).2.1; omega
                          refine ⟨rfl, pureV (x := .slice (if n = l then some ⟨q.b, q.base + off, none⟩ else some ⟨q.b, q.base + off + l * s, none⟩) 0 (n - l)) ?_ fun w => ?_⟩
                          · split <;> exact .emp
                          · rw [run _ _ _ _ _ _ _ (hb' w).1]; simp [addr_add, hhi]
                        · simp only [hcl, decide_false, cond_false] at hr
                          cases hr
                          have hlc : l ≤ cap := by have := (hb' w0).2.1; omega
                          refine ⟨rfl, pureV (x := .slice (some ⟨q.b, q.base + (off + l * s), none⟩) (hi - l) (n - l)) ?_ fun w => ?_⟩
                          · refine .slo hq (by omega) ?_ hz
                            rw [← hc, hqs, Nat.sub_mul]
                            have : l * s ≤ n * s := Nat.mul_le_mul_right _ (by omega)
                            omega
                          · rw [run _ _ _ _ _ _ _ (hb' w).1, if_neg (by omega)]; simp [addr_add, Nat.add_assoc]
                · simp [hsz] at hr
              | _ => rw [hk] at hr; cases hr
        | _ => cases hr
    | _ => cases hr
end
end Go.M
/- Loads; conversions, assertions and built-in functions that leave the world alone. -/
namespace Go.M
open Go Go.V
set_option linter.unusedSimpArgs false
set_option linter.unusedVariables false

section
variable {P : Program} {c : Cfg} {m : Mp} {h h' : H} {v : VV} {N : Nat} {w : World}

theorem rowOf_get {id : Nat} {r : Row} (hr : rowOf h id = some r) : h.get id = some (.row r.t r.n r.k) := by
  unfold rowOf at hr
  cases hg : h.get id with
  | none => rw [hg] at hr; cases hr
  | some o =>
    rw [hg] at hr
    cases o <;> simp [rowO, rowV] at hr
    subst hr; rfl

/-- A row in the world. -/
theorem Rep.row (R : Rep N m h w) {id : Nat} {r : Row} (hr : rowOf h id = some r) : ∃ q cs ty fz, m id = some q ∧ w.heap[q.b]? = some (.cells cs ty fz) ∧ RowR m q r.t r.n r.k cs fz := by
  obtain ⟨q, ob, hq, hb, ho⟩ := R.obj _ _ (rowOf_get hr)
  cases ho with
  | row hR => exact ⟨q, _, _, _, hq, hb, hR⟩

theorem getN_ok {q : Q} {t : T VV} {n : Nat} {k : RK} {cs : Array Value} {fz : Nat × Nat} (hR : RowR m q t n k cs fz) : ∀ (s off : Nat) (l : List VV), getN t off s = some l → off + s ≤ n →
    ∃ xs : List Value, VRL m l xs ∧ xs.length = s ∧ ∀ j x, xs[j]? = some x → cs[q.base + off + j]? = some x
  | 0, off, l, hg, hle => by
    cases hg; exact ⟨[], .nil, rfl, by simp⟩
  | s + 1, off, l, hg, hle => by
    simp only [getN] at hg
    cases hv : t.get off with
    | none => rw [hv] at hg; cases hg
    | some u =>
      rw [hv] at hg
      simp only [] at hg
      cases hl : getN t (off + 1) s with
      | none => rw [hl] at hg; cases hg
      | some l' =>
        rw [hl] at hg
        cases hg
        obtain ⟨u', x, hu', hx, hux⟩ := hR.cells off (by omega)
        rw [hv] at hu'; cases hu'
        obtain ⟨xs, h1, h2, h3⟩ := getN_ok hR s (off + 1) l' hl (by omega)
        refine ⟨x :: xs, .cons hux h1, by simp [h2], fun j y hy => ?_⟩
        cases j with
        | zero => simp at hy; subst hy; simpa using hx
        | succ j =>
          rw [List.getElem?_cons_succ] at hy
          have := h3 j y hy
          rw [← this]; congr 1; omega

theorem run_loadCellsFrom' {b o : Nat} {cs : Array Value} {ty : TypeId} {fz : Nat × Nat} (hb : w.heap[b]? = some (.cells cs ty fz)) : ∀ (xs : List Value) (j : Nat) (acc : Array Value), (∀ i x, xs[i]? = some x → cs[o + j + i]? = some x) →
    (loadCellsFrom ⟨b, o, none⟩ j xs.length acc).run P w = .ok (acc ++ xs.toArray) w
  | [], j, acc, _ => by simp [loadCellsFrom, pure, Sem.run]
  | x :: xs, j, acc, hx => by
    have h0 : (load (Addr.add ⟨b, o, none⟩ j)).run P w = .ok x w := by
      rw [addr_add]
      have := hx 0 x rfl
      simp [load, Sem.run, World.cell?, hb]
      simp at this
      rw [this]
    have ih : (loadCellsFrom ⟨b, o, none⟩ (j + 1) xs.length (acc.push x)).run P w = .ok (acc.push x ++ xs.toArray) w := run_loadCellsFrom' hb xs (j + 1) (acc.push x) (fun i y hy => by
      have := hx (i + 1) y (by rw [List.getElem?_cons_succ]; exact hy)
      rw [← this]; congr 1; omega)
    simp only [List.length_cons, loadCellsFrom, Sem.run_bind, h0, Result.andThen, ih]
    simp

theorem run_loadCells' {b o : Nat} {cs : Array Value} {ty : TypeId} {fz : Nat × Nat} (hb : w.heap[b]? = some (.cells cs ty fz)) (xs : List Value) (hx : ∀ i x, xs[i]? = some x → cs[o + i]? = some x) :
    (loadCells ⟨b, o, none⟩ xs.length).run P w = .ok xs.toArray w := by
  have := run_loadCellsFrom' (P := P) hb xs 0 #[] (by simpa using hx)
  simpa [loadCells] using this

theorem partR_ok {t : TypeId} {r : Row} {off : Nat} {q : Q} {cs : Array Value} {ty : TypeId} {fz : Nat × Nat} (ok : CfgOk P c) (hr : partR c t r off = some v) (hb : w.heap[q.b]? = some (.cells cs ty fz)) (hR : RowR m q r.t r.n r.k cs fz) :
    ∃ x, VR m v x ∧ (loadVar t ⟨q.b, q.base + off, none⟩).run P w = .ok x w := by
  unfold partR at hr
  cases ha : c.agg t with
  | none => rw [ha] at hr; cases hr
  | some b =>
    rw [ha] at hr
    cases b with
    | true =>
      simp only [] at hr
      cases hs : c.size t with
      | none => rw [hs] at hr; cases hr
      | some s =>
        rw [hs] at hr
        simp only [nat_ble] at hr
        by_cases hle : off + s ≤ r.n
        · simp only [hle, decide_true, cond_true] at hr
          cases hg : getN r.t off s with
          | none => rw [hg] at hr; cases hr
          | some l =>
            rw [hg] at hr
            cases hr
            obtain ⟨xs, h1, h2, h3⟩ := getN_ok hR s off l hg hle
            refine ⟨.agg xs.toArray, .agg h1, ?_⟩
            have := run_loadCells' (P := P) hb xs h3
            rw [h2] at this
            simp [loadVar, Sem.run_bind, ok.agg ha w, ok.size hs w, Result.andThen, this, pure, Sem.run]
        · simp [hle] at hr
    | false =>
      simp only [nat_blt] at hr
      by_cases hlt : off < r.n
      · simp only [hlt, decide_true, cond_true] at hr
        obtain ⟨u, x, hu, hx, hux⟩ := hR.cells off hlt
        rw [hr] at hu; cases hu
        refine ⟨x, hux, ?_⟩
        simp [loadVar, Sem.run_bind, ok.agg ha w, Result.andThen, load, Sem.run, World.cell?, hb, hx, pure]
      · simp [hlt] at hr

theorem load_ok {t : TypeId} {x : VV} {X : Value} (ok : CfgOk P c) (R : Rep N m h w) (hr : xLoad c h t x = .val v h') (hx : VR m x X) :
    h' = h ∧ ∃ y, VR m v y ∧ (Instr.loadAt t X).run P w = .ok y w := by
  unfold xLoad at hr
  cases x with
  | ptr id off =>
    cases hx with
    | @ptr _ _ q hq =>
    simp only [] at hr
    cases hrow : rowOf h id with
    | none => rw [hrow] at hr; cases hr
    | some r =>
      rw [hrow] at hr
      obtain ⟨hp, rfl⟩ := optR_ok hr
      obtain ⟨q', cs, ty, fz, hq', hb, hR⟩ := R.row hrow
      rw [hq] at hq'; cases hq'
      obtain ⟨y, hy, hw⟩ := partR_ok ok hp hb hR
      refine ⟨rfl, y, hy, ?_⟩
      simp [Instr.loadAt, Instr.sureAddr, Sem.run_bind, Result.andThen, pure, Sem.run, hw]
  | _ => cases hr

/-! conversions -/
theorem litBytes_ok : ∀ {l : List VV} {bs : List UInt8}, litBytes l = some bs → ∀ {xs : List Value}, VRL m l xs → xs.length = bs.length ∧ ∀ (i : Nat) (x : Value), xs[i]? = some x → ∃ n : Int, x = Value.int .u8 n ∧ bs[i]? = some (UInt8.ofNat n.toNat)
  | [], bs, hl, xs, hx => by
    cases hx; simp [litBytes] at hl; subst hl; simp
  | u :: l, bs, hl, xs, hx => by
    cases hx with
    | cons hu hl' =>
    unfold litBytes at hl
    split at hl
    · rename_i heq; cases heq
    · rename_i n l2 heq
      cases heq
      cases hr : litBytes l with
      | none => rw [hr] at hl; cases hl
      | some r =>
        rw [hr] at hl; cases hl
        cases hu
        obtain ⟨h1, h2⟩ := litBytes_ok hr hl'
        refine ⟨by simp [h1], fun i x hx => ?_⟩
        cases i with
        | zero => simp at hx; subst hx; exact ⟨n, rfl, rfl⟩
        | succ i => rw [List.getElem?_cons_succ] at hx; obtain ⟨k, hk, hb⟩ := h2 i x hx; exact ⟨k, hk, by rw [List.getElem?_cons_succ]; exact hb⟩
    · cases hl

theorem run_bytesLoop (f : Value → ByteArray → Sem (ForInStep ByteArray)) (hf : ∀ n s, f (.int .u8 n) s = pure (ForInStep.yield (s.push (UInt8.ofNat n.toNat)))) :
    ∀ (xs : List Value) (bs : List UInt8) (s : ByteArray), xs.length = bs.length → (∀ (i : Nat) (x : Value), xs[i]? = some x → ∃ n : Int, x = Value.int .u8 n ∧ bs[i]? = some (UInt8.ofNat n.toNat)) → ∀ w,
    (forIn (m := Sem) xs s f).run P w = .ok ⟨s.data ++ bs.toArray⟩ w
  | [], bs, s, hl, _, w => by
    have : bs = [] := by simpa using hl.symm
    subst this
    simp [pure, Sem.run]
  | x :: xs, [], s, hl, _, w => by simp at hl
  | x :: xs, b :: bs, s, hl, hx, w => by
    obtain ⟨n, hxn, hb⟩ := hx 0 x rfl
    simp at hb
    have ih := run_bytesLoop f hf xs bs (s.push (UInt8.ofNat n.toNat)) (by simpa using hl) (fun i y hy => by
      obtain ⟨k, hk, hkb⟩ := hx (i + 1) y (by rw [List.getElem?_cons_succ]; exact hy)
      exact ⟨k, hk, by rw [List.getElem?_cons_succ] at hkb; exact hkb⟩) w
    subst hxn
    simp only [List.forIn_cons, Sem.run_bind, hf, pure, Sem.run, Result.andThen]
    refine Eq.trans ih ?_
    rw [hb]
    congr 2
    apply Array.ext'
    simp [ByteArray.push]

theorem run_bytesToString {a : Addr} {xs : List Value} {bs : List UInt8} {cp : Nat} (hl : (loadCells a xs.length).run P w = .ok xs.toArray w) (h1 : xs.length = bs.length)
    (h2 : ∀ (i : Nat) (x : Value), xs[i]? = some x → ∃ n : Int, x = Value.int .u8 n ∧ bs[i]? = some (UInt8.ofNat n.toNat)) : (Conv.bytesToString (.slice (some a) xs.length cp)).run P w = .ok (.string ⟨bs.toArray⟩) w := by
  simp only [Conv.bytesToString, Sem.run_bind, hl, Result.andThen]
  rw [← Array.forIn_toList]
  rw [run_bytesLoop _ (fun n s => rfl) xs bs ByteArray.empty h1 h2 w]
  have he : (ByteArray.empty).data = #[] := rfl
  simp only [he, pure, Sem.run]
  simp
end
end Go.M
/- Assertions, lengths, least and greatest. -/
namespace Go.M
open Go Go.V
set_option linter.unusedSimpArgs false
set_option linter.unusedVariables false

section
variable {P : Program} {c : Cfg} {m : Mp} {h h' : H} {v : VV} {N : Nat} {w : World}

theorem assert_ok {x : VV} {X : Value} {xt t : TypeId} {cok : Bool} (ok : CfgOk P c) (hr : assertV c x xt t cok h = .val v h') (hx : VR m x X) :
    h' = h ∧ Pure P m (nval (Instr.typeAssert X xt t cok)) v := by
  have holds : ∀ {u : VV} {U : Value}, VR m u U → (R.val (if cok then .tup [u, b2v true] else u) h = .val v h') → (∀ w, (Instr.typeAssert X xt t cok).run P w = .ok (if cok then .tuple #[U, .bool true] else U) w) → h' = h ∧ Pure P m (nval (Instr.typeAssert X xt t cok)) v := by
    intro u U hu he hw
    cases he
    refine ⟨rfl, pureV ?_ hw⟩
    cases cok
    · exact hu
    · exact .tup (xs := [U, .bool true]) (.cons hu (.cons (.lit _) .nil))
  have fails : ((if cok then (match c.zero t with | some z => R.val (.tup [z, b2v false]) h | none => .no "typeAssert") else .no "typeAssert") = .val v h') →
      (∀ z w, (zeroValue t).run P w = .ok z w → cok = true → (Instr.typeAssert X xt t cok).run P w = .ok (.tuple #[z, .bool false]) w) → h' = h ∧ Pure P m (nval (Instr.typeAssert X xt t cok)) v := by
    intro he hw
    cases cok with
    | false => cases he
    | true =>
      simp only [if_true] at he
      cases hz : c.zero t with
      | none => rw [hz] at he; cases he
      | some z =>
        rw [hz] at he
        cases he
        obtain ⟨z', rfl, hz'⟩ := ok.zero hz
        exact ⟨rfl, pureV (.tup (xs := [z', .bool false]) (.cons (.ofV z') (.cons (.lit _) .nil))) fun w => hw z' w (hz' w) rfl⟩
  unfold assertV at hr
  cases hu : c.und t with
  | none => rw [hu] at hr; cases hr
  | some d =>
    rw [hu] at hr
    have hd := ok.und hu
    simp only [] at hr
    split at hr
    · rename_i ms
      cases hx
      exact fails hr fun z w hz hc => by subst hc; simp [Instr.typeAssert, Sem.run_bind, hd w, Result.andThen, hz, pure, Sem.run]
    · rename_i ms t' v'
      cases hx with
      | ifc hv =>
      cases hi : c.tys.get t' with
      | none => rw [hi] at hr; cases hr
      | some i =>
        rw [hi] at hr
        simp only [] at hr
        cases hmm : Instr.missingMethod ms i.methods with
        | none =>
          rw [hmm] at hr
          exact holds (.ifc hv) hr fun w => by simp [Instr.typeAssert, Sem.run_bind, hd w, ok.info hi w, Result.andThen, hmm, pure, Sem.run]
        | some s =>
          rw [hmm] at hr
          exact fails hr fun z w hz hc => by subst hc; simp [Instr.typeAssert, Sem.run_bind, hd w, ok.info hi w, Result.andThen, hmm, hz, pure, Sem.run]
    · rename_i hni
      cases hx
      exact fails hr fun z w hz hc => by
        subst hc
        cases d <;> first | (exact absurd rfl (hni _)) | simp [Instr.typeAssert, Sem.run_bind, hd w, Result.andThen, hz, pure, Sem.run]
    · rename_i t' v' hni
      cases hx with
      | @ifc _ _ y hv =>
      split at hr
      · rename_i he
        refine holds hv hr fun w => ?_
        cases d <;> first | (exact absurd rfl (hni _)) | simp [Instr.typeAssert, Sem.run_bind, hd w, Result.andThen, he, pure, Sem.run]
      · rename_i he
        exact fails hr fun z w hz hc => by
          subst hc
          cases d <;> first | (exact absurd rfl (hni _)) | simp [Instr.typeAssert, Sem.run_bind, hd w, Result.andThen, he, hz, pure, Sem.run]
    · cases hr

theorem VER.length : ∀ {l : List VE} {xs : List MapEntry}, VER m l xs → l.length = xs.length
  | _, _, .nil => rfl
  | _, _, .cons _ _ _ k => by simp [VER.length k]

theorem mapOf_ok {x : VV} {X : Value} {es : List VE} {cl : Nat} (R : Rep N m h w) (hr : mapOf h x = some (es, cl)) (hx : VR m x X) :
    (X = .map none ∧ es = []) ∨ ∃ id q xs, x = .mp id ∧ h.get id = some (.map es cl) ∧ m id = some q ∧ X = .map (some q.b) ∧ w.heap[q.b]? = some (.map xs.toArray cl) ∧ VER m es xs := by
  unfold mapOf at hr
  split at hr
  · cases hx; cases hr; exact .inl ⟨rfl, rfl⟩
  · rename_i id
    cases hx with
    | @mp _ q hq =>
    split at hr
    · rename_i es' cl' hg
      cases hr
      obtain ⟨q', ob, hq', hb, ho⟩ := R.obj _ _ hg
      rw [hq] at hq'; cases hq'
      cases ho with
      | map hes => exact .inr ⟨id, q, _, rfl, hg, hq, rfl, hb, hes⟩
    · cases hr
  · cases hr

theorem run_getMap {b : Nat} {xs : Array MapEntry} {cl : Nat} (hb : w.heap[b]? = some (.map xs cl)) : (getObj b).run P w = .ok (.map xs cl) w := by simp [getObj, Sem.run, hb]

/-- The length: the world is left alone; it is looked at if the value is a map. -/
theorem len_ok {t : TypeId} {x : VV} {X : Value} {ts : Array TypeId} {ty : TypeId} {args : Array Value} (ok : CfgOk P c) (R : Rep N m h w) (hr : lenB c t x h = some v) (hx : VR m x X) (ht : ts[0]? = some t) (ha : args[0]? = some X) :
    ∃ y, VR m v y ∧ (Builtin.len_ ts ty args).run P w = .ok y w ∧ ((∀ d, c.und t = some d → (match d with | .map _ _ => false | _ => true) = true) → ∀ w, (Builtin.len_ ts ty args).run P w = .ok y w) := by
  unfold lenB at hr
  split at hr
  · rename_i s hu
    cases hx; cases hr
    have : ∀ w, (Builtin.len_ ts ty args).run P w = .ok (.int .i64 s.size) w := fun w => by simp [Builtin.len_, ht, ha, Sem.run_bind, ok.und hu w, Result.andThen, goInt, pure, Sem.run]
    exact ⟨_, .lit _, this w, fun _ => this⟩
  · rename_i n e hu
    cases hr
    have : ∀ w, (Builtin.len_ ts ty args).run P w = .ok (.int .i64 n) w := fun w => by simp [Builtin.len_, ht, ha, Sem.run_bind, ok.und hu w, Result.andThen, goInt, pure, Sem.run]
    exact ⟨_, .lit _, this w, fun _ => this⟩
  · rename_i a hu
    split at hr
    · rename_i n e hu2
      cases hr
      have : ∀ w, (Builtin.len_ ts ty args).run P w = .ok (.int .i64 n) w := fun w => by simp [Builtin.len_, ht, ha, Sem.run_bind, ok.und hu w, ok.und hu2 w, Result.andThen, goInt, pure, Sem.run]
      exact ⟨_, .lit _, this w, fun _ => this⟩
    · cases hr
  · rename_i e id off n cp ex hu
    cases hr
    have key : ∀ (q : Q) (cp : Nat), X = .slice (some ⟨q.b, q.base + off, none⟩) n cp → ∀ w, (Builtin.len_ ts ty args).run P w = .ok (.int .i64 n) w := fun q cp hX w => by
      subst hX; simp [Builtin.len_, ht, ha, Sem.run_bind, ok.und hu w, Result.andThen, goInt, pure, Sem.run]
    cases hx with
    | sl => exact ⟨_, .lit _, key _ _ rfl w, fun _ => key _ _ rfl⟩
    | slo => exact ⟨_, .lit _, key _ _ rfl w, fun _ => key _ _ rfl⟩
  · rename_i e hu
    cases hx; cases hr
    have : ∀ w, (Builtin.len_ ts ty args).run P w = .ok (.int .i64 0) w := fun w => by simp [Builtin.len_, ht, ha, Sem.run_bind, ok.und hu w, Result.andThen, goInt, pure, Sem.run]
    exact ⟨_, .lit _, this w, fun _ => this⟩
  · rename_i e a n cp hu
    cases hx; cases hr
    have : ∀ w, (Builtin.len_ ts ty args).run P w = .ok (.int .i64 n) w := fun w => by simp [Builtin.len_, ht, ha, Sem.run_bind, ok.und hu w, Result.andThen, goInt, pure, Sem.run]
    exact ⟨_, .lit _, this w, fun _ => this⟩
  · rename_i k e hu
    split at hr
    · rename_i es cl hm
      cases hr
      refine ⟨_, .lit _, ?_, fun hno => by simpa using hno _ hu⟩
      rcases mapOf_ok R hm hx with ⟨rfl, rfl⟩ | ⟨id, q, xs, rfl, hg, hq, rfl, hb, hes⟩
      · simp [Builtin.len_, ht, ha, Sem.run_bind, ok.und hu w, Result.andThen, goInt, pure, Sem.run]
      · simp [Builtin.len_, ht, ha, Sem.run_bind, ok.und hu w, Result.andThen, goInt, pure, Sem.run, run_getMap hb, hes.length]
    · cases hr
  · cases hr

theorem cap_ok {t : TypeId} {x : VV} {X : Value} {ts : Array TypeId} {ty : TypeId} {args : Array Value} (ok : CfgOk P c) (hr : capB c t x = some v) (hx : VR m x X) (ht : ts[0]? = some t) (ha : args[0]? = some X) :
    ∃ y, VR m v y ∧ ∀ w, (Builtin.cap_ ts ty args).run P w = .ok y w := by
  unfold capB at hr
  split at hr
  · rename_i e id off len n hu
    cases hr
    cases hx with
    | sl => exact ⟨_, .lit _, fun w => by simp [Builtin.cap_, ht, ha, Sem.run_bind, ok.und hu w, Result.andThen, goInt, pure, Sem.run]⟩
  · rename_i e a len n hu
    cases hx; cases hr
    exact ⟨_, .lit _, fun w => by simp [Builtin.cap_, ht, ha, Sem.run_bind, ok.und hu w, Result.andThen, goInt, pure, Sem.run]⟩
  · cases hr

theorem mmFrom_ok {isMax : Bool} {k : IntKind} : ∀ {l : List VV} {n : Int}, mmFrom isMax k n l = some v → ∀ {xs : List Value}, VRL m l xs → ∃ y, VR m v y ∧ ∀ w, (xs.foldlM (m := Sem) (if isMax then Builtin.max2 else Builtin.min2) (.int k n)).run P w = .ok y w
  | [], n, hr, xs, hx => by
    cases hx; simp only [mmFrom] at hr; cases hr
    exact ⟨_, .lit _, fun w => rfl⟩
  | u :: l, n, hr, xs, hx => by
    cases hx with
    | cons hu hl =>
    unfold mmFrom at hr
    split at hr
    · rename_i heq; cases heq
    · rename_i k' y l' heq
      cases heq
      split at hr
      · rename_i hk
        subst hk
        cases hu
        obtain ⟨z, hz, hw⟩ := mmFrom_ok hr hl
        refine ⟨z, hz, fun w => ?_⟩
        rw [← hw w]
        cases isMax
        · simp only [List.foldlM_cons, Bool.false_eq_true, if_false, Builtin.min2]; rfl
        · simp only [List.foldlM_cons, if_true, Builtin.max2]; rfl
      · cases hr
    · cases hr
end
end Go.M
/- New blocks, and blocks that are written. -/
namespace Go.M
open Go Go.V Go.RowKit
set_option linter.unusedSimpArgs false
set_option linter.unusedVariables false

section
variable {P : Program} {c : Cfg} {m : Mp} {h h' : H} {v : VV} {N : Nat} {w : World}

def Mp.set (m : Mp) (i : Nat) (q : Q) : Mp := fun j => if j = i then some q else m j
theorem Mp.set_le {m : Mp} {i : Nat} {q : Q} (h : m i = none) : Mp.Le m (m.set i q) := fun id q' hq => by
  unfold Mp.set
  by_cases hi : id = i
  · subst hi; rw [h] at hq; cases hq
  · rw [if_neg hi]; exact hq
theorem Mp.set_self {m : Mp} {i : Nat} {q : Q} : (m.set i q) i = some q := by simp [Mp.set]
theorem Mp.set_ne {m : Mp} {i j : Nat} {q : Q} (h : j ≠ i) : (m.set i q) j = m j := by simp [Mp.set, h]

theorem Rep.lt (R : Rep N m h w) {id : Nat} {o : VO} (hg : h.get id = some o) : id < 1000000 := R.cap _ _ hg
theorem Rep.atNext (R : Rep N m h w) (hf : h.Free) : m h.next = none := R.fresh _ hf.2.1 hf.2.2
theorem Rep.next (R : Rep N m h w) (n : Nat) : Rep N m ⟨h.t, n⟩ w := ⟨R.obj, R.inj, R.own, R.fresh, R.glob, R.size, R.cap⟩
/-- The same names with the same blocks. -/
theorem Rep.same {h' : H} (R : Rep N m h w) (hg : ∀ j, h'.get j = h.get j) : Rep N m h' w :=
  ⟨fun i o hi => R.obj i o (by rw [← hg]; exact hi), fun a b o1 o2 q1 q2 ha hb => R.inj a b o1 o2 q1 q2 (by rw [← hg]; exact ha) (by rw [← hg]; exact hb), fun a o q ha => R.own a o q (by rw [← hg]; exact ha),
    fun i hi hn => R.fresh i hi (by rw [← hg]; exact hn), R.glob, R.size, fun i o hi => R.cap i o (by rw [← hg]; exact hi)⟩
theorem Rep.blk (R : Rep N m h w) {id : Nat} {o : VO} {q : Q} (hg : h.get id = some o) (hq : m id = some q) : q.b < w.heap.size := by
  obtain ⟨q', ob, hq', hb, _⟩ := R.obj _ _ hg
  rw [hq] at hq'; cases hq'
  exact (Array.getElem?_eq_some_iff.1 hb).1

theorem Rep.congr {w' : World} (R : Rep N m h w) (hh : w'.heap = w.heap) : Rep N m h w' :=
  ⟨fun id o hg => by obtain ⟨q, ob, a, b, d⟩ := R.obj id o hg; exact ⟨q, ob, a, by rw [hh]; exact b, d⟩, R.inj, R.own, R.fresh, R.glob, by rw [hh]; exact R.size, R.cap⟩

theorem get_new {h : H} {o : VO} (id : Nat) (hn : h.Free) : H.get ⟨h.t.put 20 h.next o, h.next + 1⟩ id = if id = h.next then some o else h.get id :=
  T.get_put 20 h.t h.next id o (by have := hn.1; omega)

/-- A new block. -/
theorem Rep.push {w' : World} {o : VO} {ob : Obj} (R : Rep N m h w) (hn : h.Free) (q : Q) (hb : q.b = w.heap.size) (hw : w'.heap = w.heap.push ob) (hor : OR (m.set h.next q) q o ob) :
    Mp.Le m (m.set h.next q) ∧ Rep N (m.set h.next q) ⟨h.t.put 20 h.next o, h.next + 1⟩ w' := by
  have hle : Mp.Le m (m.set h.next q) := Mp.set_le (R.atNext hn)
  refine ⟨hle, ?_, ?_, ?_, ?_, ?_, ?_, ?_⟩
  · intro id o' hg
    rw [get_new id hn] at hg
    by_cases hi : id = h.next
    · rw [if_pos hi] at hg; cases hg
      subst hi
      exact ⟨q, ob, Mp.set_self, by rw [hw, hb]; simp, hor⟩
    · rw [if_neg hi] at hg
      obtain ⟨q', ob', a, b, d⟩ := R.obj id o' hg
      refine ⟨q', ob', hle _ _ a, ?_, d.mono hle⟩
      rw [hw]
      have := (Array.getElem?_eq_some_iff.1 b).1
      rw [Array.getElem?_push, if_neg (by omega)]; exact b
  · intro id id' o1 o2 q1 q2 hg hg' hwr hlv h1 h2 hbb
    rw [get_new id hn] at hg
    rw [get_new id' hn] at hg'
    by_cases hi : id = h.next
    · by_cases hi' : id' = h.next
      · omega
      · rw [if_neg hi'] at hg'
        rw [Mp.set_ne hi'] at h2
        rw [hi, Mp.set_self] at h1; cases h1
        have := R.blk hg' h2
        omega
    · rw [if_neg hi] at hg
      rw [Mp.set_ne hi] at h1
      by_cases hi' : id' = h.next
      · rw [hi', Mp.set_self] at h2; cases h2
        have := R.blk hg h1
        omega
      · rw [if_neg hi'] at hg'
        rw [Mp.set_ne hi'] at h2
        exact R.inj _ _ _ _ _ _ hg hg' hwr hlv h1 h2 hbb
  · intro id o' q' hg hwr hq
    rw [get_new id hn] at hg
    by_cases hi : id = h.next
    · rw [hi, Mp.set_self] at hq; cases hq
      rw [hb]; exact R.size
    · rw [if_neg hi] at hg
      rw [Mp.set_ne hi] at hq
      exact R.own _ _ _ hg hwr hq
  · intro id hid hno
    rw [get_new id hn] at hno
    by_cases hi : id = h.next
    · rw [if_pos hi] at hno; cases hno
    · rw [if_neg hi] at hno
      rw [Mp.set_ne hi]; exact R.fresh id hid hno
  · intro g hg
    have := hn.2.1
    rw [Mp.set_ne (by omega)]; exact R.glob g hg
  · rw [hw]; simp; have := R.size; omega
  · intro id o' hg
    rw [get_new id hn] at hg
    by_cases hi : id = h.next
    · have := hn.1; omega
    · rw [if_neg hi] at hg; exact R.cap _ _ hg

theorem below_push {w' : World} {ob : Obj} (hN : N ≤ w.heap.size) (hw : w'.heap = w.heap.push ob) (ho : w'.os = w.os) (ht : w'.tape = w.tape) (hp : w'.output = w.output) : Below N w w' :=
  ⟨ho, ht, hp, by rw [hw]; simp, fun k hk => by rw [hw, Array.getElem?_push, if_neg (by omega)]⟩

/-- A block that is written. -/
theorem Rep.write {w' : World} {o o' : VO} {ob : Obj} {id : Nat} {q : Q} (R : Rep N m h w) (hg : h.get id = some o) (hwr : o.wr = true) (hq : m id = some q) (hw : w'.heap = w.heap.setIfInBounds q.b ob) (hor : OR m q o' ob) :
    Rep N m ⟨h.t.put 20 id o', h.next⟩ w' := by
  have hlt := R.lt hg
  have get : ∀ j, H.get ⟨h.t.put 20 id o', h.next⟩ j = if j = id then some o' else h.get j := fun j => T.get_put 20 h.t id j o' (by omega)
  have hbl := R.blk hg hq
  refine ⟨?_, ?_, ?_, ?_, R.glob, ?_, ?_⟩
  · intro j x hj
    rw [get] at hj
    by_cases hi : j = id
    · rw [if_pos hi] at hj; cases hj; subst hi
      exact ⟨q, ob, hq, by rw [hw]; simp [hbl], hor⟩
    · rw [if_neg hi] at hj
      obtain ⟨q', ob', a, b, d⟩ := R.obj j x hj
      cases hlv : x.live with
      | true =>
        refine ⟨q', ob', a, ?_, d⟩
        have hne : q.b ≠ q'.b := fun he => hi (R.inj _ _ _ _ _ _ hg hj hwr hlv hq a he).symm
        rw [hw, Array.getElem?_setIfInBounds_ne hne]; exact b
      | false =>
        have hd : x = .dead := by cases x <;> first | rfl | cases hlv
        subst hd
        have hlt' : q'.b < w'.heap.size := by rw [hw]; simpa using (Array.getElem?_eq_some_iff.1 b).1
        exact ⟨q', w'.heap[q'.b], a, by simp [hlt'], .dead⟩
  · intro a b o1 o2 q1 q2 ha hb hw1 hlv h1 h2 hbb
    rw [get] at ha hb
    by_cases hi : a = id
    · by_cases hj : b = id
      · omega
      · rw [if_neg hj] at hb
        subst hi
        exact R.inj _ _ _ _ _ _ hg hb hwr hlv h1 h2 hbb
    · rw [if_neg hi] at ha
      by_cases hj : b = id
      · subst hj
        exact (R.inj _ _ _ _ _ _ hg ha hwr (VO.live_of_wr hw1) h2 h1 hbb.symm).symm
      · rw [if_neg hj] at hb
        exact R.inj _ _ _ _ _ _ ha hb hw1 hlv h1 h2 hbb
  · intro a o1 q1 ha hw1 h1
    rw [get] at ha
    by_cases hi : a = id
    · subst hi; exact R.own _ _ _ hg hwr h1
    · rw [if_neg hi] at ha; exact R.own _ _ _ ha hw1 h1
  · intro j hj hno
    rw [get] at hno
    by_cases hi : j = id
    · rw [if_pos hi] at hno; cases hno
    · rw [if_neg hi] at hno; exact R.fresh j hj hno
  · rw [hw]; simpa using R.size
  · intro j x hj
    rw [get] at hj
    by_cases hi : j = id
    · subst hi; exact hlt
    · rw [if_neg hi] at hj; exact R.cap _ _ hj

theorem below_write {w' : World} {o : VO} {ob : Obj} {id : Nat} {q : Q} (R : Rep N m h w) (hg : h.get id = some o) (hwr : o.wr = true) (hq : m id = some q) (hw : w'.heap = w.heap.setIfInBounds q.b ob)
    (ho : w'.os = w.os) (ht : w'.tape = w.tape) (hp : w'.output = w.output) : Below N w w' :=
  ⟨ho, ht, hp, by rw [hw]; simp, fun k hk => by
    have := R.own _ _ _ hg hwr hq
    rw [hw, Array.getElem?_setIfInBounds_ne (by omega)]⟩

/-- A name is dropped. -/
theorem Rep.drop (R : Rep N m h w) {id : Nat} {o : VO} (hg : h.get id = some o) : Rep N m ⟨h.t.put 20 id .dead, h.next⟩ w := by
  have hlt := R.lt hg
  have get : ∀ j, H.get ⟨h.t.put 20 id .dead, h.next⟩ j = if j = id then some .dead else h.get j := fun j => T.get_put 20 h.t id j .dead (by omega)
  have same : ∀ j x, H.get ⟨h.t.put 20 id .dead, h.next⟩ j = some x → x.live = true → h.get j = some x := by
    intro j x hj hl
    rw [get] at hj
    by_cases hi : j = id
    · rw [if_pos hi] at hj; cases hj; cases hl
    · rw [if_neg hi] at hj; exact hj
  refine ⟨?_, ?_, ?_, ?_, R.glob, R.size, ?_⟩
  · intro j x hj
    rw [get] at hj
    by_cases hi : j = id
    · rw [if_pos hi] at hj; cases hj; subst hi
      obtain ⟨q, ob, a, b, d⟩ := R.obj _ _ hg
      exact ⟨q, ob, a, b, .dead⟩
    · rw [if_neg hi] at hj; exact R.obj j x hj
  · intro a b o1 o2 q1 q2 ha hb hw1 hlv h1 h2 hbb
    exact R.inj _ _ _ _ _ _ (same _ _ ha (VO.live_of_wr hw1)) (same _ _ hb hlv) hw1 hlv h1 h2 hbb
  · intro a o1 q1 ha hw1 h1
    exact R.own _ _ _ (same _ _ ha (VO.live_of_wr hw1)) hw1 h1
  · intro j hj hno
    rw [get] at hno
    by_cases hi : j = id
    · rw [if_pos hi] at hno; cases hno
    · rw [if_neg hi] at hno; exact R.fresh j hj hno
  · intro j x hj
    rw [get] at hj
    by_cases hi : j = id
    · subst hi; exact hlt
    · rw [if_neg hi] at hj; exact R.cap _ _ hj

/-! cells -/
def lay (cs : Array Value) : Nat → List Value → Array Value
  | _, [] => cs
  | k, x :: xs => lay (cs.setIfInBounds k x) (k + 1) xs
theorem size_lay : ∀ (xs : List Value) (cs : Array Value) (k : Nat), (lay cs k xs).size = cs.size
  | [], _, _ => rfl
  | x :: xs, cs, k => by rw [lay, size_lay xs]; simp
theorem get_lay : ∀ (xs : List Value) (cs : Array Value) (k j : Nat), k + xs.length ≤ cs.size → (lay cs k xs)[j]? = if k ≤ j ∧ j < k + xs.length then xs[j - k]? else cs[j]?
  | [], cs, k, j, _ => by rw [if_neg (by simp)]; rfl
  | x :: xs, cs, k, j, hl => by
    simp only [List.length_cons] at hl ⊢
    rw [lay, get_lay xs _ (k + 1) j (by simp; omega)]
    by_cases h1 : k + 1 ≤ j ∧ j < k + 1 + xs.length
    · rw [if_pos h1, if_pos (by omega)]
      have : j - k = (j - (k + 1)) + 1 := by omega
      rw [this, List.getElem?_cons_succ]
    · rw [if_neg h1]
      by_cases h2 : j = k
      · subst h2
        rw [if_pos (by omega), Array.getElem?_setIfInBounds_self_of_lt (by omega)]; simp
      · rw [if_neg (by omega), Array.getElem?_setIfInBounds_ne (by omega)]

theorem run_storeCells' {b o : Nat} {ty : TypeId} {fz : Nat × Nat} : ∀ (xs : List Value) (i : Nat) (cs : Array Value) (w : World), w.heap[b]? = some (.cells cs ty fz) → o + i + xs.length ≤ cs.size → (∀ x ∈ xs, flatV x = true) → (fz.1 = fz.2 ∨ cs.size ≤ fz.1) →
    (storeCells ⟨b, o, none⟩ xs i).run P w = .ok () { w with heap := w.heap.setIfInBounds b (.cells (lay cs (o + i) xs) ty fz) }
  | [], i, cs, w, hb, _, _, _ => by
    have : w.heap.setIfInBounds b (.cells cs ty fz) = w.heap := by
      apply Array.ext_getElem?
      intro k
      by_cases hk : b = k
      · subst hk
        have := (Array.getElem?_eq_some_iff.1 hb).1
        simp [this, hb]
        have h2 := (Array.getElem?_eq_some_iff.1 hb).2
        rw [h2]
      · rw [Array.getElem?_setIfInBounds_ne hk]
    simp only [storeCells, lay, this]; rfl
  | x :: xs, i, cs, w, hb, hl, hf, hz => by
    simp only [List.length_cons] at hl
    have hlt : o + i < cs.size := by omega
    have hc : w.cell? ⟨b, o + i, none⟩ = some cs[o + i] := by simp [World.cell?, hb, hlt]
    have hfr : w.frozen? ⟨b, o + i, none⟩ = false := by
      simp only [World.frozen?, hb]
      rcases hz with h1 | h1
      · simp; omega
      · simp; omega
    have hw' : (w.setCell ⟨b, o + i, none⟩ x) = { w with heap := w.heap.setIfInBounds b (.cells (cs.setIfInBounds (o + i) x) ty fz) } := by
      simp only [World.setCell]
      congr 1
      apply Array.ext_getElem?
      intro k
      rw [Array.getElem?_modify]
      by_cases hk : b = k
      · subst hk
        have h1 := (Array.getElem?_eq_some_iff.1 hb).1
        have h2 := (Array.getElem?_eq_some_iff.1 hb).2
        simp [h1, h2]
      · rw [if_neg hk, Array.getElem?_setIfInBounds_ne hk]
    have hst : (store (Addr.add ⟨b, o, none⟩ i) x).run P w = .ok () { w with heap := w.heap.setIfInBounds b (.cells (cs.setIfInBounds (o + i) x) ty fz) } := by
      rw [addr_add, ← hw']
      have := hf x (by simp)
      cases x <;> first | (simp [flatV] at this; done) | simp [store, Sem.run, hc, hfr]
    have hbl := (Array.getElem?_eq_some_iff.1 hb).1
    have ih : (storeCells ⟨b, o, none⟩ xs (i + 1)).run P { w with heap := w.heap.setIfInBounds b (.cells (cs.setIfInBounds (o + i) x) ty fz) } = .ok () { w with heap := (w.heap.setIfInBounds b (.cells (cs.setIfInBounds (o + i) x) ty fz)).setIfInBounds b (.cells (lay (cs.setIfInBounds (o + i) x) (o + (i + 1)) xs) ty fz) } := run_storeCells' xs (i + 1) (cs.setIfInBounds (o + i) x) { w with heap := w.heap.setIfInBounds b (.cells (cs.setIfInBounds (o + i) x) ty fz) } (by simp [hbl]) (by simp; omega) (fun y hy => hf y (by simp [hy])) (by simpa using hz)
    simp only [storeCells, Sem.run_bind, hst, Result.andThen, ih]
    congr 2
    simp [Nat.add_assoc, lay]

theorem VR.flat {u : VV} {x : Value} (hu : VR m u x) (hf : flat u = true) : flatV x = true := by
  cases hu <;> first | rfl | exact hf | (simp [M.flat] at hf)
theorem VRL.flats : ∀ {l : List VV} {xs : List Value}, VRL m l xs → l.all flat = true → ∀ x ∈ xs, flatV x = true
  | _, _, .nil, _, x, hx => by simp at hx
  | _, _, .cons hu hl, ha, x, hx => by
    simp only [List.all_cons, Bool.and_eq_true] at ha
    rcases List.mem_cons.1 hx with rfl | hx
    · exact hu.flat ha.1
    · exact VRL.flats hl ha.2 x hx

/-- A row's cells written from a place on. -/
theorem RowR.put {q : Q} {t : T VV} {n : Nat} {k : RK} {cs : Array Value} {fz : Nat × Nat} (hR : RowR m q t n k cs fz) (hk : k.wr = true) {l : List VV} {xs : List Value} (hl : VRL m l xs) {off : Nat} (n' : Nat) (hle : off ≤ n) (hn : n' = max n (off + l.length)) (hsz : off + l.length ≤ cs.size) (h6 : n' ≤ 1000000) :
    RowR m q (T.puts 20 l off t) n' k (lay cs (q.base + off) xs) fz := by
  have hbase : q.base = 0 := by cases k with
    | tab => cases hk
    | fix => exact hR.rk
    | opn sz => exact hR.rk.1
  have hlen := hl.length
  refine ⟨fun i hi => ?_, ?_, h6, fun hk => ?_⟩
  · rw [T.get_puts 20 l off t i (by omega), get_lay xs cs _ _ (by omega)]
    by_cases h1 : off ≤ i ∧ i < off + l.length
    · rw [if_pos h1, if_pos (by omega)]
      have h2 : l[i - off]? = some (l[i - off]'(by omega)) := by simp
      obtain ⟨x, hx, hv⟩ := hl.get (i - off) _ h2
      exact ⟨_, x, h2, by rw [← hx]; congr 1; omega, hv⟩
    · rw [if_neg h1, if_neg (by omega)]
      exact hR.cells i (by omega)
  · have := hR.rk
    cases k with
    | tab => cases hk
    | fix => exact this
    | opn sz =>
      obtain ⟨a, b, c', d, e⟩ := this
      refine ⟨a, b, c', by rw [size_lay]; exact d, by omega⟩
  · have := hR.free hk
    rw [size_lay]; exact this
end
end Go.M
/- Operations that make blocks or write them. -/
namespace Go.M
open Go Go.V Go.RowKit
set_option linter.unusedSimpArgs false
set_option linter.unusedVariables false

section
variable {P : Program} {c : Cfg} {m : Mp} {h h' : H} {v : VV} {N : Nat} {w : World}

/-- What an operation comes to that gives a value. -/
def Eff (P : Program) (N : Nat) (m : Mp) (w : World) (s : Sem Next) (v : VV) (h' : H) : Prop :=
  ∃ m' x w', Mp.Le m m' ∧ s.run P w = .ok (.value x) w' ∧ VR m' v x ∧ Rep N m' h' w' ∧ Below N w w'
/-- One that gives none. -/
def EffU (P : Program) (N : Nat) (m : Mp) (w : World) (s : Sem Next) (h' : H) : Prop :=
  ∃ m' w', Mp.Le m m' ∧ s.run P w = .ok .skip w' ∧ Rep N m' h' w' ∧ Below N w w'

theorem Eff.pure {s : Sem Next} (R : Rep N m h w) (hp : h' = h ∧ Pure P m s v) : Eff P N m w s v h' := by
  obtain ⟨rfl, x, hx, hs⟩ := hp
  exact ⟨m, x, w, .refl m, hs w, hx, R, .refl N w⟩
theorem Eff.still {s : Sem Value} {x : Value} (R : Rep N m h w) (hh : h' = h) (hx : VR m v x) (hs : s.run P w = .ok x w) : Eff P N m w (nval s) v h' := by
  subst hh
  exact ⟨m, x, w, .refl m, by simp [Sem.run_bind, hs, Result.andThen, Pure.pure, Sem.run], hx, R, .refl N w⟩
theorem Eff.val {s : Sem Value} {m' : Mp} {x : Value} {w' : World} (hl : Mp.Le m m') (hs : s.run P w = .ok x w') (hx : VR m' v x) (R : Rep N m' h' w') (hb : Below N w w') : Eff P N m w (nval s) v h' :=
  ⟨m', x, w', hl, by simp [Sem.run_bind, hs, Result.andThen, Pure.pure, Sem.run], hx, R, hb⟩

/-- A new row. -/
theorem Rep.newRow (R : Rep N m h w) {l : List VV} {xs tail : List Value} (hl : VRL m l xs) (hn : h.Free) (hlen : l.length ≤ 1000000) (k : RK) (sz : Nat) (ty : TypeId)
    (hk : (k = .fix) ∨ (k = .opn sz ∧ 0 < sz)) (fz : Nat × Nat) (hfz : fz.1 = fz.2 ∨ xs.length + tail.length ≤ fz.1) {w' : World} (hw : w'.heap = w.heap.push (.cells (xs ++ tail).toArray ty fz)) :
    ∃ m', Mp.Le m m' ∧ m' h.next = some ⟨w.heap.size, 0, xs.length + tail.length, sz⟩ ∧ Rep N m' ⟨h.t.put 20 h.next (.row (T.puts 20 l 0 .leaf) l.length k), h.next + 1⟩ w' := by
  have hle : Mp.Le m (m.set h.next ⟨w.heap.size, 0, xs.length + tail.length, sz⟩) := Mp.set_le (R.atNext hn)
  have hll := hl.length
  have hor : OR (m.set h.next ⟨w.heap.size, 0, xs.length + tail.length, sz⟩) ⟨w.heap.size, 0, xs.length + tail.length, sz⟩ (.row (T.puts 20 l 0 .leaf) l.length k) (.cells (xs ++ tail).toArray ty fz) := by
    refine .row ⟨fun i hi => ?_, ?_, hlen, fun _ => by rw [List.size_toArray, List.length_append]; exact hfz⟩
    · rw [T.get_puts 20 l 0 .leaf i (by omega), if_pos (by omega)]
      have h2 : l[i - 0]? = some (l[i]'hi) := by simp [hi]
      obtain ⟨x, hx, hv⟩ := hl.get i (l[i]'hi) (by simp [hi])
      refine ⟨_, x, h2, ?_, hv.mono hle⟩
      have : i < xs.length := by omega
      simp only [Nat.zero_add, List.getElem?_toArray, List.getElem?_append_left this]
      exact hx
    · rcases hk with rfl | ⟨rfl, hsz⟩
      · rfl
      · exact ⟨rfl, rfl, hsz, by simp, by simp; omega⟩
  exact ⟨_, (R.push hn _ rfl hw hor).1, Mp.set_self, (R.push hn _ rfl hw hor).2⟩

theorem run_newRow {ty : TypeId} {cells : Array Value} : (newRow ty cells).run P w = .ok ⟨w.heap.size, 0, none⟩ { w with heap := w.heap.push (.cells cells ty) } := by
  simp [newRow, newObj, bind, Sem.bind, Sem.run, Pure.pure]

/-- A new row of given length, as an operation hands it back. -/
theorem newFix (R : Rep N m h w) {l : List VV} {xs : List Value} (hl : VRL m l xs) (ty : TypeId) {u : VV} (hr : h.newRow l .fix (fun h' => .val u h') = .val v h') :
    v = u ∧ ∃ m', Mp.Le m m' ∧ m' h.next = some ⟨w.heap.size, 0, xs.length, 0⟩ ∧ Rep N m' h' { w with heap := w.heap.push (.cells xs.toArray ty) } ∧ Below N w { w with heap := w.heap.push (.cells xs.toArray ty) } := by
  rw [H.newRow_eq] at hr
  split at hr
  · rename_i h1
    split at hr
    · rename_i h2
      cases hr
      obtain ⟨m', a, b, d⟩ := R.newRow (tail := []) hl h2 h1 .fix 0 ty (.inl rfl) (0, 0) (.inl rfl) (w' := { w with heap := w.heap.push (.cells xs.toArray ty) }) (by simp)
      exact ⟨rfl, m', a, by simpa using b, d, below_push R.size rfl rfl rfl rfl⟩
    · cases hr
  · cases hr

theorem alloc_ok {t : TypeId} (ok : CfgOk P c) (R : Rep N m h w) (hr : xAlloc c h t = .val v h') : Eff P N m w (nval (Instr.alloc t true (.tuple #[]))) v h' := by
  unfold xAlloc at hr
  cases hz : c.zero t with
  | none => rw [hz] at hr; cases hr
  | some z =>
    rw [hz] at hr
    obtain ⟨z', rfl, hz'⟩ := ok.zero hz
    obtain ⟨rfl, m', a, b, d, e⟩ := newFix R (VR.cells (VR.ofV (m := m) z')) t hr
    refine .val a ?_ (.ptr (off := 0) b) d e
    simp [Instr.alloc, Sem.run_bind, hz' w, Result.andThen, newVar, run_newRow, Pure.pure, Sem.run]

theorem box_ok {t : TypeId} {x : VV} {X : Value} (R : Rep N m h w) (hr : xBox h x = .val v h') (hx : VR m x X) : Eff P N m w (nval (Instr.box t X)) v h' := by
  unfold xBox at hr
  obtain ⟨rfl, m', a, b, d, e⟩ := newFix R hx.cells t hr
  refine .val a ?_ (.ptr (off := 0) b) d e
  simp [Instr.box, Sem.run_bind, Result.andThen, newVar, run_newRow, Pure.pure, Sem.run]

theorem row_lookup {id : Nat} {r : Row} (hr : rowOf h id = some r) : h.get id = some (.row r.t r.n r.k) := rowOf_get hr

theorem store_ok {t : TypeId} {x y : VV} {X Y : Value} (ok : CfgOk P c) (R : Rep N m h w) (hr : xStore c h t x y = .nov h') (hx : VR m x X) (hy : VR m y Y) :
    EffU P N m w (do Instr.storeAt t X Y; pure .skip) h' := by
  unfold xStore at hr
  cases x with
  | ptr id off =>
    cases hx with
    | @ptr _ _ q hq =>
    simp only [] at hr
    cases hs : c.size t with
    | none => rw [hs] at hr; cases hr
    | some s =>
      rw [hs] at hr
      simp only [] at hr
      cases hrow : rowOf h id with
      | none => rw [hrow] at hr; cases hr
      | some r =>
        rw [hrow] at hr
        simp only [storeRow] at hr
        have hk : r.k.wr = true := by
          cases hk : r.k <;> first | rfl | (rw [hk] at hr; cases hr)
        have hr' : (bif Nat.beq y.cells.length s && Nat.ble (off + s) r.n && y.cells.all flat then putK y.cells off r.t fun t => h.setK id (.row t r.n r.k) fun h => M.R.nov h else M.R.no "store") = M.R.nov h' := by
          cases hkk : r.k <;> rw [hkk] at hr hk <;> first | exact hr | (cases hk)
        cases hb : (Nat.beq y.cells.length s && Nat.ble (off + s) r.n && y.cells.all flat) with
        | false => rw [hb] at hr'; cases hr'
        | true =>
          rw [hb, cond_true, putK_eq, H.setK_eq] at hr'
          cases hr'
          simp only [nat_beq, nat_ble, Bool.and_eq_true, decide_eq_true_eq] at hb
          obtain ⟨⟨h1, h2⟩, h3⟩ := hb
          obtain ⟨q', cs, ty, fz, hq', hbk, hR⟩ := R.row hrow
          rw [hq] at hq'; cases hq'
          have hyc := hy.cells
          have hlen := hyc.length
          have hbase : q.base = 0 := by
            have := hR.rk
            cases hkk : r.k with
            | tab => rw [hkk] at hk; cases hk
            | fix => rw [hkk] at this; exact this
            | opn sz => rw [hkk] at this; exact this.1
          have hcs : ∀ i, i < r.n → i < cs.size := by
            intro i hi
            obtain ⟨_, _, _, hx, _⟩ := hR.cells i hi
            rw [hbase, Nat.zero_add] at hx
            exact (Array.getElem?_eq_some_iff.1 hx).1
          have hsz : off + s ≤ cs.size := by
            cases s with
            | zero =>
              rcases Nat.eq_zero_or_pos off with h0 | h0
              · omega
              · have := hcs (off - 1) (by omega); omega
            | succ s => have := hcs (off + s) (by omega); omega
          have hrun := run_storeCells' (P := P) (b := q.b) (o := q.base + off) (ty := ty) (fz := fz) Y.cells.toList 0 cs w hbk (by rw [← hlen, h1, hbase]; omega) (VRL.flats hyc h3) (hR.free hk)
          refine ⟨m, { w with heap := w.heap.setIfInBounds q.b (.cells (lay cs (q.base + off) Y.cells.toList) ty fz) }, .refl m, ?_, R.write (rowOf_get hrow) hk hq (ob := .cells (lay cs (q.base + off) Y.cells.toList) ty fz) rfl (.row (hR.put hk hyc r.n (by omega) (by rw [h1]; omega) (by rw [h1]; exact hsz) hR.le)), below_write R (rowOf_get hrow) hk hq (ob := .cells (lay cs (q.base + off) Y.cells.toList) ty fz) rfl rfl rfl rfl⟩
          have hsize : Y.cells.size = s := by rw [← h1, hlen]; simp
          simp only [Instr.storeAt, Instr.sureAddr, Sem.run_bind, Pure.pure, Sem.run, Result.andThen, storeVar, ok.size hs w, hsize]
          simp only [ne_eq, not_true_eq_false, if_false]
          simp only [Sem.run_bind, hrun, Result.andThen, Sem.run, Nat.add_zero]
  | _ => cases hr
end
end Go.M
/- Literals, maps, slices made, conversions. -/
namespace Go.M
open Go Go.V Go.RowKit
set_option linter.unusedSimpArgs false
set_option linter.unusedVariables false

section
variable {P : Program} {c : Cfg} {m : Mp} {h h' : H} {v : VV} {N : Nat} {w : World}

inductive PR (m : Mp) : List (Nat × VV) → List (Nat × Value) → Prop
  | nil : PR m [] []
  | cons {i : Nat} {u : VV} {x : Value} {l : List (Nat × VV)} {xs : List (Nat × Value)} : VR m u x → PR m l xs → PR m ((i, u) :: l) ((i, x) :: xs)

theorem foldl_set (cs : Array Value) (off : Nat) : ∀ (xs : List Value) (j : Nat) (cs : Array Value), (xs.zipIdx j).foldl (fun cs (p : Value × Nat) => cs.setIfInBounds (off + p.2) p.1) cs = lay cs (off + j) xs
  | [], j, cs => rfl
  | x :: xs, j, cs => by
    simp only [List.zipIdx_cons, List.foldl_cons, lay]
    rw [foldl_set cs off xs (j + 1)]
    rfl

theorem lay_list : ∀ (xs : List Value) (cs : List Value) (k : Nat), k + xs.length ≤ cs.length → (lay cs.toArray k xs).toList = cs.take k ++ xs ++ cs.drop (k + xs.length) := by
  intro xs cs k hl
  apply List.ext_getElem?
  intro j
  have := get_lay xs cs.toArray k j (by simpa using hl)
  rw [Array.getElem?_toList, this]
  by_cases h1 : k ≤ j ∧ j < k + xs.length
  · rw [if_pos h1, List.append_assoc, List.getElem?_append_right (by simp; omega), List.getElem?_append_left (by simp; omega)]
    congr 1; simp; omega
  · rw [if_neg h1]
    by_cases h2 : j < k
    · rw [List.append_assoc, List.getElem?_append_left (by simp; omega), List.getElem?_take_of_lt h2]; simp
    · rw [List.getElem?_append_right (by simp; omega), List.getElem?_drop]
      simp only [List.getElem?_toArray]
      congr 1; simp; omega

theorem fill_ok {place : Nat → Option (Nat × Nat)} : ∀ {parts : List (Nat × VV)} {xs : List (Nat × Value)}, PR m parts xs → ∀ {l l' : List VV} {cs : List Value}, fillV place l parts = some l' → VRL m l cs →
    ∃ cs', VRL m l' cs' ∧ Instr.fill place cs.toArray xs = some cs'.toArray ∧ cs'.length = cs.length
  | _, _, .nil, l, l', cs, hr, hl => by
    simp only [fillV] at hr; cases hr; exact ⟨cs, hl, rfl, rfl⟩
  | _, _, .cons (i := i) (u := u) (x := x) hu hp, l, l', cs, hr, hl => by
    simp only [fillV] at hr
    cases hpl : place i with
    | none => rw [hpl] at hr; cases hr
    | some os =>
      obtain ⟨off, size⟩ := os
      rw [hpl] at hr
      simp only [] at hr
      split at hr
      · cases hr
      · rename_i hc
        simp only [ne_eq, Bool.or_eq_true, decide_eq_true_eq, not_or, Nat.not_lt, Decidable.not_not] at hc
        have hcu := hu.cells
        have hlen := hcu.length
        have hll := hl.length
        have hnew : VRL m (l.take off ++ u.cells ++ l.drop (off + u.cells.length)) (cs.take off ++ x.cells.toList ++ cs.drop (off + x.cells.toList.length)) := by
          rw [hlen]; exact ((hl.take off).append hcu).append (hl.drop _)
        obtain ⟨cs', h1, h2, h3⟩ := fill_ok hp hr hnew
        refine ⟨cs', h1, ?_, ?_⟩
        · simp only [Instr.fill, hpl]
          have hcond : ¬ ((decide (x.cells.size ≠ size) || decide (off + x.cells.size > cs.toArray.size)) = true) := by
            simp only [Bool.or_eq_true, decide_eq_true_eq, not_or]
            simp at hlen ⊢
            omega
          rw [if_neg (by simpa using hcond)]
          rw [← h2]
          congr 1
          apply Array.ext'
          have := foldl_set #[] off x.cells.toList 0 cs.toArray
          rw [← Array.foldl_toList, Array.toList_zipIdx]
          rw [show (List.foldl _ cs.toArray (x.cells.toList.zipIdx 0)) = lay cs.toArray (off + 0) x.cells.toList from this]
          rw [lay_list _ _ _ (by simp at hlen ⊢; omega)]
          simp
        · rw [h3]; simp at hlen ⊢; omega

theorem part_list (parts : Array (Nat × Operand)) {e : T VV} {E : Env} (hE : ∀ x, VR m (evo x e) (ev E x)) : PR m (partsV e parts) (parts.map fun p => (p.1, ev E p.2)).toList := by
  unfold partsV
  rw [Array.toList_map]
  induction parts.toList with
  | nil => exact .nil
  | cons p l ih => exact .cons (hE p.2) ih

theorem run_mapM_places (ok : CfgOk P c) : ∀ (fs : List Field), fs.all (fun f => (c.size f.type).isSome) = true → ∀ w, (fs.mapM (m := Sem) fun f => do pure (f.offset, ← sizeOf f.type)).run P w = .ok (fs.map fun f => (f.offset, (c.size f.type).getD 0)) w
  | [], _, w => rfl
  | f :: fs, ha, w => by
    simp only [List.all_cons, Bool.and_eq_true] at ha
    obtain ⟨s, hs⟩ := Option.isSome_iff_exists.1 ha.1
    have ih := run_mapM_places ok fs ha.2 w
    simp only [List.mapM_cons, Sem.run_bind, ok.size hs w, Result.andThen, pure_run, ih]
    simp [hs]

theorem build_ok {t : TypeId} {parts : Array (Nat × Operand)} {e : T VV} {E : Env} (ok : CfgOk P c) (hE : ∀ x, VR m (evo x e) (ev E x)) (hr : xBuild c e h t parts = .val v h') :
    h' = h ∧ Pure P m (nval (Instr.build t (parts.map fun p => (p.1, ev E p.2)))) v := by
  unfold xBuild at hr
  cases hz : c.zero t with
  | none => rw [hz] at hr; simp at hr
  | some z =>
    obtain ⟨z', rfl, hz'⟩ := ok.zero hz
    have hzc := VR.cells (VR.ofV (m := m) z')
    rw [hz] at hr
    cases hu : c.und t with
    | none => rw [hu] at hr; cases hr
    | some d =>
      rw [hu] at hr
      have hp := part_list (m := m) parts hE
      cases d with
      | struct fields =>
        simp only [] at hr
        split at hr
        · rename_i l hf
          split at hr
          · rename_i hall
            cases hr
            obtain ⟨cs', h1, h2, h3⟩ := fill_ok hp hf hzc
            refine ⟨rfl, pureV (.agg h1) fun w => ?_⟩
            simp only [Instr.build, Sem.run_bind, hz' w, ok.und hu w, Result.andThen]
            have hm := run_mapM_places (P := P) ok fields.toList hall w
            have hpl : (fun (i : Nat) => ((List.map (fun (f : Field) => (f.offset, (c.size f.type).getD 0)) fields.toList).toArray)[i]?) = (fun (i : Nat) => match fields[i]? with | some f => (match c.size f.type with | some s => some (f.offset, s) | none => none) | none => none) := by
              funext i
              simp only [List.getElem?_toArray, List.getElem?_map, Array.getElem?_toList]
              cases hfi : fields[i]? with
              | none => rfl
              | some f =>
                have hmem : f ∈ fields.toList := by
                  rw [← Array.getElem?_toList] at hfi
                  exact List.mem_of_getElem? hfi
                have := List.all_eq_true.1 hall f hmem
                obtain ⟨s, hs⟩ := Option.isSome_iff_exists.1 this
                simp [hs]
            have h2' : Instr.fill (fun (i : Nat) => ((List.map (fun (f : Field) => (f.offset, (c.size f.type).getD 0)) fields.toList).toArray)[i]?) z'.cells (Array.map (fun p => (p.fst, ev E p.snd)) parts).toList = some cs'.toArray := by
              rw [hpl]; exact h2
            have hm' : (fields.mapM (m := Sem) fun f => do pure (f.offset, ← sizeOf f.type)).run P w = .ok (List.map (fun (f : Field) => (f.offset, (c.size f.type).getD 0)) fields.toList).toArray w := by
              rw [Array.mapM_eq_mapM_toList]
              show Sem.run P (Sem.bind _ _) w = _
              rw [show Sem.run P (Sem.bind (List.mapM _ fields.toList) _) w = _ from Sem.run_bind ..]
              rw [hm]; rfl
            simp only [Instr.build, Sem.run_bind, hz' w, ok.und hu w, Result.andThen, hm', h2']
            rfl
          · cases hr
        · cases hr
      | array n elem =>
        simp only [] at hr
        cases hs : c.size elem with
        | none => rw [hs] at hr; cases hr
        | some s =>
          rw [hs] at hr
          simp only [] at hr
          split at hr
          · rename_i l hf
            cases hr
            obtain ⟨cs', h1, h2, h3⟩ := fill_ok hp hf hzc
            refine ⟨rfl, pureV (.agg h1) fun w => ?_⟩
            simp only [Array.toArray_toList] at h2
            simp only [Instr.build, Sem.run_bind, hz' w, ok.und hu w, ok.size hs w, Result.andThen, h2]
            rfl
          · cases hr
      | _ => cases hr
end
end Go.M
