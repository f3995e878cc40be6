/- The machine: rules, maps, iterators; every operation. -/
import Derived.Test.YtaaeeabpbmigoaaGreatDoorVe
import Derived.RangeFuncLeaves
import Derived.MapKept
set_option linter.unusedVariables false
set_option linter.unusedSimpArgs false
/- Rules: a range over a function, a round, a function that leaves. -/
namespace Go.M
open Go Go.V Go.RowKit
set_option linter.unusedSimpArgs false
set_option linter.unusedVariables false

section
variable {P : Program} {r : Option Nat} {n : Nat} {Fin : Post} {K : List Item} {e : Env} {ds : List Deferred} {w : World}

theorem ws_beginRound {l : Nat} {w' : World} (hr : (Instr.beginRound l).run P w = .ok () w') (h : WS P (some l) n Fin K e ds w') : WS P (some l) n Fin (.beginRound :: K) e ds w :=
  .step (fun a ha hd => ⟨a, ha, hd, fun _ _ hb => stepR_beginRound hb hr⟩) h

/-- A function's end, marks and all. -/
def finM (P : Program) (fn : Func) (R : Ending → World → Prop) : Post
  | .normal, e, ds, w | .ret, e, ds, w => ∀ a : Act, Agree fn.ntmps a e → LeavesInM (fw none) 0 P fn a.tmps R ds .returning w
  | _, _, _, _ => False

theorem calls_of_wsM {f : FuncId} {fn : Func} {c : Code} {args : Array Value} {R : Ending → World → Prop}
    (hf : P.funcs[f]? = some fn) (hb : fn.body = some c) (hsz : args.size ≤ fn.ntmps)
    (h : WS P none fn.ntmps (finM P fn R) [.code c] (env0 args.toList) [] w) : Calls P f args w R := by
  refine callsIn_fw (r := none) (n := 0) |>.1 ⟨trivial, fun cs hr => ?_⟩
  let b : Frame := { (default : Frame) with fn := f, kind := .normal, roundOf := none }
  have henter : Frame.enter P f args .normal =
      b.atR { tmps := args ++ Array.replicate (fn.ntmps - args.size) undef, defers := [] } [.code c] := by
    simp [Frame.enter, Frame.atR, hf, hb, b]
  obtain ⟨x, a', w', ⟨e', ha', hq⟩, harr⟩ := h _ (agree_env0 args fn.ntmps hsz) rfl b cs rfl
  rw [← henter] at harr
  cases x with
  | normal =>
    obtain ⟨e', w'', fr', hR, hs, hfn, hl⟩ := leaves_stepsInM (F := fw none) (n := 0) a'.defers .returning w' { b.atR a' [] with mode := .returning } cs rfl rfl rfl hf rfl trivial hr (hq a' ha')
    exact ⟨e', w'', fr', hR, ComesIn.of_steps (StepsIn.trans harr (.one (fenced_fw _ _ _) (stepR_end rfl))) hs, hfn, hl⟩
  | ret =>
    obtain ⟨todo, hs₀⟩ := harr.1 rfl
    obtain ⟨e', w'', fr', hR, hs, hfn, hl⟩ := leaves_stepsInM (F := fw none) (n := 0) a'.defers .returning w' { b.atR a' todo with mode := .returning } cs rfl rfl rfl hf rfl trivial hr (hq a' ha')
    exact ⟨e', w'', fr', hR, ComesIn.of_steps hs₀ hs, hfn, hl⟩
  | _ => exact hq.elim

/-- A round out of its work. -/
def finR (P : Program) (l : Nat) (R : Ending → World → Prop) : Post
  | .normal, _, _, w => ∃ v w', (Instr.endRound l none).run P w = .ok v w' ∧ R (.returned v) w'
  | .ret, _, _, w => ∃ v w', (Instr.endRound l (some .ret)).run P w = .ok v w' ∧ R (.returned v) w'
  | .exit id, _, _, w => ∃ v w', (Instr.endRound l (some (.exit id))).run P w = .ok v w' ∧ R (.returned v) w'
  | _, _, _, _ => False

theorem round_of_ws {l : Nat} {f : FuncId} {tmps : Array Value} {assign body : Code} {R : Ending → World → Prop} (hn : tmps.size = n)
    (h : WS P (some l) n (finR P l R) [.code assign, .beginRound, .code body] (fun t => tmps.getD t undef) [] w) : RoundIn (fw none) 0 P l f tmps assign body w R := by
  refine ⟨trivial, fun c cs hr => ?_⟩
  let b : Frame := { (default : Frame) with fn := f, kind := .normal, roundOf := some l }
  have hb0 : Frame.round l f tmps assign body .normal = b.atR { tmps := tmps, defers := [] } [.code assign, .beginRound, .code body] := by
    simp [Frame.round, Frame.atR, b]
  obtain ⟨x, a', w', ⟨e', ha', hq⟩, harr⟩ := h { tmps := tmps, defers := [] } ⟨hn, fun t => rfl⟩ rfl b (c :: cs) rfl
  rw [← hb0] at harr
  have conv : ∀ {m m' : Machine}, StepsIn (Machine.fenced P (fw (some l))) P m m' → StepsIn (Machine.fenced P (fw none)) P m m' := fun h => stepsIn_fw.2 (stepsIn_fw.1 h)
  cases x with
  | normal =>
    obtain ⟨v, w₄, hend, hR⟩ := hq
    exact ⟨.returned v, w₄, hR, conv (StepsIn.trans harr (.one (fenced_fw _ _ _) (stepR_round_end rfl rfl hend)))⟩
  | ret =>
    obtain ⟨v, w₄, hend, hR⟩ := hq
    obtain ⟨k₁, hs⟩ := harr.2 rfl
    exact ⟨.returned v, w₄, hR, conv (StepsIn.trans hs (.one (fenced_fw _ _ _) (stepR_round_ret rfl rfl hend)))⟩
  | exit id =>
    obtain ⟨v, w₄, hend, hR⟩ := hq
    obtain ⟨k₁, hk, hs⟩ := harr.2 rfl rfl
    exact ⟨.returned v, w₄, hR, conv (StepsIn.trans hs (.one (fenced_fw _ _ _) (stepR_round_exit rfl rfl hk hend)))⟩
  | _ => exact hq.elim

/-- A range over a function. -/
theorem ws_rangeFunc {g : Operand} {ps : Array Tmp} {assign body : Code}
    (h : ∀ a : Act, Agree n a e → ∀ fn : FuncId, ∃ (l : Nat) (mark : List Deferred) (w₁ : World) (d : Deferred) (f : FuncId) (args : Array Value),
      (Instr.enterLoop fn a.tmps ps assign body r).run P w = .ok (l, mark) w₁ ∧
      (resolve (ev e) (rangeCall g l) 0).run P w₁ = .ok d w₁ ∧ (invoke d.target d.args).run P w₁ = .ok (.enter f args) w₁ ∧
      Calls P f args w₁ fun
        | .returned _, w₃ => ∃ jump w₄, (Instr.endLoop l).run P w₃ = .ok jump w₄ ∧ WS P r n Fin ((jump.map Item.code).toList ++ K) e (mark ++ ds) w₄
        | _, _ => False) : WS P r n Fin (.code (.rangeFunc g ps assign body) :: K) e ds w := by
  intro a ha hd b cs hb
  obtain ⟨l, mark, w₁, d, f, args, he, hres, hinv, hcall⟩ := h a ha b.fn
  rw [← hb] at he
  rw [← ha.ev] at hres
  have henter := stepR_rangeFunc (P := P) (b := b) (a := a) (k := K) (cs := cs) (w := w) he hres hinv
  obtain ⟨x, w₃, fr, hR, hsteps, hfn, hleave⟩ := hcall (b.atR { a with defers := mark ++ a.defers } (.inRangeFunc l :: K) :: cs)
  cases x with
  | returned v =>
    obtain ⟨jump, w₄, hend, hws⟩ := hR
    obtain ⟨x2, a2, w5, hfin, harr⟩ := hws { a with defers := mark ++ a.defers } ha (by simp only; rw [hd]) b cs hb
    refine ⟨x2, a2, w5, hfin, .of_steps ?_ harr⟩
    refine stepsIn_fw.2 ?_
    have s1 : Steps P (lone (b.atR a (.code (.rangeFunc g ps assign body) :: K)) cs w) (lone fr (b.atR { a with defers := mark ++ a.defers } (.inRangeFunc l :: K) :: cs) w₃) := Steps.trans (.one henter) hsteps
    have s2 := step_leave_returned (c := b.atR { a with defers := mark ++ a.defers } (.inRangeFunc l :: K)) (cs := cs) hleave
    rw [finish_atR_inRangeFunc] at s2
    exact Steps.trans s1 (Steps.trans (.one s2) (.one (stepR_endRangeFunc hend)))
  | panicked ch => exact hR.elim
  | outgrown => exact hR.elim
end
end Go.M
/- Maps. -/
namespace Go.M
open Go Go.V Go.RowKit
set_option linter.unusedSimpArgs false
set_option linter.unusedVariables false

section
variable {P : Program} {c : Cfg} {m : Mp} {h h' : H} {v : VV} {N : Nat} {w : World}

theorem VER.get : ∀ {l : List VE} {xs : List MapEntry}, VER m l xs → ∀ (i : Nat) (e : VE), l[i]? = some e → ∃ x, xs[i]? = some x ∧ VR m e.key x.key ∧ VR m e.val x.val ∧ e.born = x.born
  | _, _, .nil, i, e, h => by simp at h
  | _, _, .cons (x := x) a b c _, 0, e, h => by simp at h; subst h; exact ⟨x, rfl, a, b, c⟩
  | _, _, .cons _ _ _ d, i + 1, e, h => by
    rw [List.getElem?_cons_succ] at h
    obtain ⟨x, hx, r⟩ := VER.get d i e h
    exact ⟨x, by rw [List.getElem?_cons_succ]; exact hx, r⟩
theorem VER.append : ∀ {l : List VE} {xs : List MapEntry} {l' : List VE} {xs' : List MapEntry}, VER m l xs → VER m l' xs' → VER m (l ++ l') (xs ++ xs')
  | _, _, _, _, .nil, h => h
  | _, _, _, _, .cons a b c d, h => .cons a b c (VER.append d h)
theorem VER.set : ∀ {l : List VE} {xs : List MapEntry}, VER m l xs → ∀ (i : Nat) (e : VE) (x : MapEntry), VR m e.key x.key → VR m e.val x.val → e.born = x.born → VER m (l.set i e) (xs.set i x)
  | _, _, .nil, i, e, x, _, _, _ => .nil
  | _, _, .cons _ _ _ d, 0, e, x, p, q, r => .cons p q r d
  | _, _, .cons a b c d, i + 1, e, x, p, q, r => .cons a b c (VER.set d i e x p q r)

theorem bytes_ext {a b : ByteArray} (h : a.toList = b.toList) : a = b := by
  rw [ByteArray.toList_eq, ByteArray.toList_eq] at h
  obtain ⟨x⟩ := a
  obtain ⟨y⟩ := b
  congr 1
  exact Array.ext' h
theorem bytes_beq_self (a : ByteArray) : (a == a) = true := by rw [beq_toListBytes]; exact beq_self_eq_true _
theorem bytes_beq_ne {a b : ByteArray} (h : a ≠ b) : (a == b) = false := by
  cases hb : (a == b) with
  | false => rfl
  | true => rw [beq_toListBytes] at hb; exact absurd (bytes_ext (eq_of_beq hb)) h
theorem sameLit_ok {a b : Value} (hs : sameLit a b = true) : a = b ∧ ∀ k, Instr.sameBits k a b = true := by
  unfold sameLit at hs
  split at hs
  · rename_i j p k q
    simp only [Bool.and_eq_true] at hs
    have h1 := kEq_eq.1 hs.1
    have h2 : p = q := by have := hs.2; rw [iEq_eq] at this; exact of_decide_eq_true this
    subst h1; subst h2
    exact ⟨rfl, fun k => by cases k <;> simp [Instr.sameBits]⟩
  · rename_i p q
    have hpq : p = q := bytes_ext (eq_of_beq hs)
    subst hpq
    exact ⟨rfl, fun k => by cases k <;> exact bytes_beq_self p⟩
  · rename_i p q
    have : p = q := eq_of_beq hs
    subst this
    exact ⟨rfl, fun k => by cases k <;> simp [Instr.sameBits]⟩
  · cases hs

theorem sameV_ok : ∀ (n : Nat) (a b : VV), sameV n a b = true → ∀ {x y : Value}, VR m a x → VR m b y → x = y ∧ ∀ k, n ≤ k → Instr.sameBits k x y = true
  | n, .lit a, .lit b, hs, x, y, hx, hy => by
    cases hx; cases hy
    have := sameLit_ok (show sameLit a b = true by cases n <;> exact hs)
    exact ⟨this.1, fun k _ => this.2 k⟩
  | 0, .agg a, .agg b, hs, x, y, hx, hy => by cases hs
  | n + 1, .agg a, .agg b, hs, x, y, hx, hy => by
    cases hx with
    | agg hx =>
    cases hy with
    | agg hy =>
    have key : ∀ (l l' : List VV), sameV.sameL (sameV n) l l' = true → ∀ {xs ys : List Value}, VRL m l xs → VRL m l' ys → xs = ys ∧ ∀ k, n ≤ k → (xs.zip ys).all (fun p => Instr.sameBits k p.1 p.2) = true := by
      intro l
      induction l with
      | nil =>
        intro l' hs xs ys hx hy
        cases l' with
        | nil => cases hx; cases hy; exact ⟨rfl, fun _ _ => rfl⟩
        | cons => cases hs
      | cons u l ih =>
        intro l' hs xs ys hx hy
        cases l' with
        | nil => cases hs
        | cons u' l' =>
          cases hx with
          | cons hu hl =>
          cases hy with
          | cons hu' hl' =>
          simp only [sameV.sameL, Bool.and_eq_true] at hs
          obtain ⟨e1, b1⟩ := sameV_ok n u u' hs.1 hu hu'
          obtain ⟨e2, b2⟩ := ih l' hs.2 hl hl'
          exact ⟨by rw [e1, e2], fun k hk => by simp only [List.zip_cons_cons, List.all_cons, Bool.and_eq_true]; exact ⟨b1 k hk, b2 k hk⟩⟩
    obtain ⟨e1, b1⟩ := key a b hs hx hy
    refine ⟨by rw [e1], fun k hk => ?_⟩
    cases k with
    | zero => omega
    | succ k =>
      subst e1
      have := b1 k (by omega)
      simp only [Instr.sameBits, beq_self_eq_true, Bool.true_and]
      simpa using this
  | n, .lit _, .ptr .., hs, _, _, _, _ => by cases n <;> cases hs
  | n, .lit _, .gp .., hs, _, _, _, _ => by cases n <;> cases hs
  | n, .lit _, .sl .., hs, _, _, _, _ => by cases n <;> cases hs
  | n, .lit _, .mp .., hs, _, _, _, _ => by cases n <;> cases hs
  | n, .lit _, .emp, hs, _, _, _, _ => by cases n <;> cases hs
  | n, .lit _, .fn .., hs, _, _, _, _ => by cases n <;> cases hs
  | n, .lit _, .ifc .., hs, _, _, _, _ => by cases n <;> cases hs
  | n, .lit _, .agg .., hs, _, _, _, _ => by cases n <;> cases hs
  | n, .lit _, .tup .., hs, _, _, _, _ => by cases n <;> cases hs
  | n, .agg _, .lit .., hs, _, _, _, _ => by cases n <;> cases hs
  | n, .agg _, .ptr .., hs, _, _, _, _ => by cases n <;> cases hs
  | n, .agg _, .gp .., hs, _, _, _, _ => by cases n <;> cases hs
  | n, .agg _, .sl .., hs, _, _, _, _ => by cases n <;> cases hs
  | n, .agg _, .mp .., hs, _, _, _, _ => by cases n <;> cases hs
  | n, .agg _, .emp, hs, _, _, _, _ => by cases n <;> cases hs
  | n, .agg _, .fn .., hs, _, _, _, _ => by cases n <;> cases hs
  | n, .agg _, .ifc .., hs, _, _, _, _ => by cases n <;> cases hs
  | n, .agg _, .tup .., hs, _, _, _, _ => by cases n <;> cases hs
  | n, .ptr .., b, hs, _, _, _, _ => by cases n <;> cases b <;> cases hs
  | n, .gp .., b, hs, _, _, _, _ => by cases n <;> cases b <;> cases hs
  | n, .sl .., b, hs, _, _, _, _ => by cases n <;> cases b <;> cases hs
  | n, .mp .., b, hs, _, _, _, _ => by cases n <;> cases b <;> cases hs
  | n, .emp, b, hs, _, _, _, _ => by cases n <;> cases b <;> cases hs
  | n, .fn .., b, hs, _, _, _, _ => by cases n <;> cases b <;> cases hs
  | n, .ifc .., b, hs, _, _, _, _ => by cases n <;> cases b <;> cases hs
  | n, .tup .., b, hs, _, _, _, _ => by cases n <;> cases b <;> cases hs

/-- What a search among the entries comes to. -/
def FindR (m : Mp) (es : List VE) (xs : List MapEntry) : Option (Nat × VV) → Option (Nat × Value) → Prop
  | none, none => True
  | some (i, u), some (j, y) => i = j ∧ VR m u y
  | _, _ => False

theorem findV_ok {kind : TypeDesc} {k : VV} {K : Value} (hk : VR m k K) : ∀ {es : List VE} {xs : List MapEntry} (i : Nat) {r : Option (Nat × VV)}, findV kind k es i = some r → VER m es xs → ∃ r', Instr.findNow kind K xs i = some r' ∧ FindR m es xs r r'
  | [], xs, i, r, hr, hes => by cases hes; simp only [findV, Option.some.injEq] at hr; subst hr; exact ⟨none, rfl, trivial⟩
  | e :: es, xs, i, r, hr, hes => by
    cases hes with
    | @cons _ x _ xs' hkey hval hborn hrest =>
    unfold findV at hr
    split at hr
    · rename_i kd j a j' b heq
      cases hk
      rw [heq] at hkey
      have hxk : x.key = .int j' b := by generalize x.key = z at hkey; cases hkey; rfl
      split at hr
      · rename_i hj
        subst hj
        split at hr
        · rename_i hab
          subst hab
          cases hr
          exact ⟨some (i, x.val), by simp [Instr.findNow, hxk, Instr.sameNow], rfl, hval⟩
        · rename_i hab
          obtain ⟨r', h1, h2⟩ := findV_ok (kind := .int kd) (.lit (.int j a)) (i + 1) hr hrest
          have hbb : (a == b) = false := beq_eq_false_iff_ne.2 hab
          refine ⟨r', by simp only [Instr.findNow, hxk, Instr.sameNow, if_true, hbb, h1], ?_⟩
          cases r <;> cases r' <;> exact h2
      · cases hr
    · rename_i a b heq
      cases hk
      rw [heq] at hkey
      have hxk : x.key = .string b := by generalize x.key = z at hkey; cases hkey; rfl
      split at hr
      · rename_i hab
        subst hab
        cases hr
        exact ⟨some (i, x.val), by simp only [Instr.findNow, hxk, Instr.sameNow, bytes_beq_self], rfl, hval⟩
      · rename_i hab
        obtain ⟨r', h1, h2⟩ := findV_ok (kind := .string) (.lit (.string a)) (i + 1) hr hrest
        refine ⟨r', by simp only [Instr.findNow, hxk, Instr.sameNow, bytes_beq_ne hab, h1], ?_⟩
        cases r <;> cases r' <;> exact h2
    · cases hr

theorem findS_ok (ok : CfgOk P c) (pk : PlainOk P c) {kt : TypeId} {k : VV} {K : Value} (hk : VR m k K) : ∀ {es : List VE} {xs : List MapEntry} (i : Nat) {r : Option (Nat × VV)}, findS c kt k es i = some r → VER m es xs → ∃ r', (∀ w, (Instr.findAsking kt K xs i).run P w = .ok r' w) ∧ FindR m es xs r r'
  | [], xs, i, r, hr, hes => by cases hes; simp only [findS, Option.some.injEq] at hr; subst hr; exact ⟨none, fun w => rfl, trivial⟩
  | e :: es, xs, i, r, hr, hes => by
    cases hes with
    | @cons _ x _ xs' hkey hval hborn hrest =>
    simp only [findS] at hr
    cases he : eqv c 20 kt k e.key with
    | none => rw [he] at hr; cases hr
    | some b =>
      rw [he] at hr
      have heq := fun w => eqv_ok ok pk 20 kt k e.key b he K x.key hk hkey 10000 (by omega) w
      cases b with
      | true =>
        cases hr
        exact ⟨some (i, x.val), fun w => by simp [Instr.findAsking, Sem.run_bind, Op.equal, Op.maxDepth, heq w, Result.andThen, pure_run], rfl, hval⟩
      | false =>
        obtain ⟨r', h1, h2⟩ := findS_ok ok pk hk (i + 1) hr hrest
        refine ⟨r', fun w => by simp [Instr.findAsking, Sem.run_bind, Op.equal, Op.maxDepth, heq w, Result.andThen, h1 w], ?_⟩
        cases r <;> cases r' <;> exact h2

theorem checkKey_fields (ok : CfgOk P c) (em : Bool) {l : List VV} {xs : List Value} (hl : VRL m l xs) : ∀ (fs : List Field), fs.all (fun f => isStrT c f.type && Nat.blt f.offset l.length) = true → ∀ w,
    (forIn (m := Sem) fs PUnit.unit fun f _ => do
      if f.name ≠ "_" then do
        let __x ← part f.type xs.toArray f.offset
        Instr.checkKey em 9999 f.type __x
        Pure.pure (ForInStep.yield PUnit.unit)
      else Pure.pure (ForInStep.yield PUnit.unit)).run P w = .ok PUnit.unit w
  | [], _, w => rfl
  | f :: fs, ha, w => by
    simp only [List.all_cons, Bool.and_eq_true, nat_blt, decide_eq_true_eq] at ha
    obtain ⟨⟨h1, h2⟩, h3⟩ := ha
    have hu : c.und f.type = some .string := by
      unfold isStrT at h1
      split at h1
      · assumption
      · cases h1
    have ih := checkKey_fields ok em hl fs (by simpa [nat_blt] using h3) w
    have hag : c.agg f.type = some false := by unfold Cfg.agg; rw [hu]; rfl
    have hp : partV c f.type l f.offset = some l[f.offset] := by simp [partV, hag, h2]
    obtain ⟨x, hx, hrun⟩ := part_ok ok hp hl
    have hck : (Instr.checkKey em 9999 f.type x).run P w = .ok () w := by
      unfold Instr.checkKey
      simp only [Sem.run_bind, ok.und hu w, Result.andThen]
      cases x <;> rfl
    simp only [List.forIn_cons]
    by_cases hn : f.name ≠ "_"
    · rw [if_pos hn]
      simp only [Sem.run_bind, hrun w, Result.andThen, hck, pure_run]
      exact ih
    · rw [if_neg hn]
      simp only [Sem.run_bind, Result.andThen, pure_run]
      exact ih

theorem keyFind_ok (ok : CfgOk P c) (pk : PlainOk P c) {kt : TypeId} {k : VV} {K : Value} {es : List VE} {xs : List MapEntry} {r : Option (Nat × VV)} (hr : keyFind c kt k es = some r) (hk : VR m k K) (hes : VER m es xs) :
    ∃ r', (∀ w, (Instr.findKey kt K xs).run P w = .ok r' w) ∧ FindR m es xs r r' ∧ ∀ em w, (Instr.checkKey em 10000 kt K).run P w = .ok () w := by
  unfold keyFind at hr
  cases hu : c.und kt with
  | none => rw [hu] at hr; cases hr
  | some d =>
    rw [hu] at hr
    have ud := ok.und hu
    have plain : (∀ fs, d ≠ .struct fs) → (∀ a b, d ≠ .array a b) → (∀ ms, d ≠ .interface ms) → findV d k es 0 = some r → ∃ r', (∀ w, (Instr.findKey kt K xs).run P w = .ok r' w) ∧ FindR m es xs r r' ∧ ∀ em w, (Instr.checkKey em 10000 kt K).run P w = .ok () w := by
      intro n1 n2 n3 hf
      obtain ⟨r', h1, h2⟩ := findV_ok hk 0 hf hes
      refine ⟨r', fun w => by simp [Instr.findKey, Sem.run_bind, ud w, Result.andThen, h1, pure_run], h2, fun em w => ?_⟩
      unfold Instr.checkKey
      simp only [Sem.run_bind, ud w, Result.andThen]
      cases d <;> first | exact absurd rfl (n1 _) | exact absurd rfl (n2 _ _) | exact absurd rfl (n3 _) | rfl
    cases d with
    | int kk =>
      simp only [] at hr
      cases k <;> first | (cases hr; done) | exact plain (by simp) (by simp) (by simp) hr
    | string =>
      simp only [] at hr
      cases k <;> first | (cases hr; done) | exact plain (by simp) (by simp) (by simp) hr
    | struct fields =>
      simp only [] at hr
      cases k with
      | agg cs =>
        simp only [] at hr
        cases hall : (fields.toList.all fun f => isStrT c f.type && Nat.blt f.offset cs.length) with
        | false => rw [hall] at hr; cases hr
        | true =>
          rw [hall, cond_true] at hr
          obtain ⟨r', h1, h2⟩ := findS_ok ok pk hk 0 hr hes
          cases hk with
          | @agg _ ys hys =>
          refine ⟨r', fun w => ?_, h2, fun em w => ?_⟩
          · have hnow : Instr.findNow (.struct fields) (.agg ys.toArray) xs 0 = none ∨ (xs = [] ∧ r' = none) := by
              cases xs with
              | nil =>
                right
                have := h1 w
                simp [Instr.findAsking, pure_run] at this
                exact ⟨rfl, this.symm⟩
              | cons x xs => left; simp [Instr.findNow, Instr.sameNow]
            rcases hnow with hnow | ⟨rfl, rfl⟩
            · simp [Instr.findKey, Sem.run_bind, ud w, Result.andThen, hnow, h1 w]
            · simp [Instr.findKey, Sem.run_bind, ud w, Result.andThen, Instr.findNow, pure_run]
          · unfold Instr.checkKey
            simp only [Sem.run_bind, ud w, Result.andThen]
            rw [← Array.forIn_toList]
            have := checkKey_fields ok em hys fields.toList hall w
            rw [this]; rfl
      | _ => cases hr
    | _ => cases hr

theorem lookup_ok {t : TypeId} {x k : VV} {X K : Value} {cok : Bool} (ok : CfgOk P c) (pk : PlainOk P c) (R : Rep N m h w) (hr : lookupV c t x k cok h = .val v h') (hx : VR m x X) (hk : VR m k K) :
    Eff P N m w (nval (Instr.lookup t X K cok)) v h' := by
  unfold lookupV at hr
  cases hu : c.und t with
  | none => rw [hu] at hr; cases hr
  | some d =>
    rw [hu] at hr
    cases d with
    | map kt et =>
      simp only [] at hr
      cases hm : mapOf h x with
      | none => rw [hm] at hr; cases hr
      | some p =>
        obtain ⟨es, cl⟩ := p
        rw [hm] at hr
        simp only [] at hr
        cases hf : keyFind c kt k es with
        | none => rw [hf] at hr; cases hr
        | some r =>
          rw [hf] at hr
          simp only [] at hr
          have go : ∀ (xs : List MapEntry), VER m es xs →
              (∀ r', (Instr.findKey kt K xs).run P w = .ok r' w → (∀ em, (Instr.checkKey em 10000 kt K).run P w = .ok () w) → ∀ y, (∀ i y0, r' = some (i, y0) → y = (if cok then .tuple #[y0, .bool true] else y0)) → (r' = none → ∃ z, (zeroValue et).run P w = .ok z w ∧ y = (if cok then .tuple #[z, .bool false] else z)) → (Instr.lookup t X K cok).run P w = .ok y w) →
              Eff P N m w (nval (Instr.lookup t X K cok)) v h' := by
            intro xs hes hrun
            obtain ⟨r', h1, h2, h3⟩ := keyFind_ok (P := P) ok pk hf hk hes
            cases r with
            | none =>
              cases r' with
              | some => exact h2.elim
              | none =>
                simp only [lookupR] at hr
                cases hz : c.zero et with
                | none => rw [hz] at hr; cases hr
                | some z =>
                  rw [hz] at hr
                  cases hr
                  obtain ⟨z', rfl, hz'⟩ := ok.zero hz
                  refine .still (x := if cok then .tuple #[z', .bool false] else z') R rfl ?_ (hrun none (h1 w) (fun em => h3 em w) _ (by simp) (fun _ => ⟨z', hz' w, rfl⟩))
                  cases cok
                  · exact .ofV z'
                  · exact .tup (xs := [z', .bool false]) (.cons (.ofV z') (.cons (.lit _) .nil))
            | some p =>
              obtain ⟨i, u⟩ := p
              cases r' with
              | none => exact h2.elim
              | some p' =>
                obtain ⟨j, y⟩ := p'
                obtain ⟨rfl, hy⟩ := h2
                simp only [lookupR] at hr
                cases hr
                refine .still (x := if cok then .tuple #[y, .bool true] else y) R rfl ?_ (hrun _ (h1 w) (fun em => h3 em w) _ (by rintro a b h; cases h; rfl) (by simp))
                cases cok
                · exact hy
                · exact .tup (xs := [y, .bool true]) (.cons hy (.cons (.lit _) .nil))
          rcases mapOf_ok R hm hx with ⟨rfl, rfl⟩ | ⟨id, q, xs, rfl, hg, hq, rfl, hb, hes⟩
          · refine go [] .nil fun r' hf' hc' y hy hz => ?_
            cases r' with
            | none =>
              obtain ⟨z, hz1, rfl⟩ := hz rfl
              cases cok <;> simp [Instr.lookup, Sem.run_bind, ok.und hu w, Result.andThen, hc', hf', hz1, pure_run]
            | some p =>
              have := hy p.1 p.2 rfl
              subst this
              cases cok <;> simp [Instr.lookup, Sem.run_bind, ok.und hu w, Result.andThen, hc', hf', pure_run]
          · refine go xs hes fun r' hf' hc' y hy hz => ?_
            cases r' with
            | none =>
              obtain ⟨z, hz1, rfl⟩ := hz rfl
              cases cok <;> simp [Instr.lookup, Sem.run_bind, ok.und hu w, Result.andThen, run_getMap hb, hc', hf', hz1, pure_run]
            | some p =>
              have := hy p.1 p.2 rfl
              subst this
              cases cok <;> simp [Instr.lookup, Sem.run_bind, ok.und hu w, Result.andThen, run_getMap hb, hc', hf', pure_run]
    | _ => cases hr

theorem run_setMap {b : Nat} {xs : Array MapEntry} {cl : Nat} {o : Obj} (hb : w.heap[b]? = some (.map xs cl)) : (setObj b o).run P w = .ok () { w with heap := w.heap.setIfInBounds b o } := by
  simp [setObj, Sem.run, hb]

theorem keyStays {old new : Value} (h : Instr.sameBits 10000 old new = true) (w : World) : (Instr.keyThatStays old new).run P w = .ok new w := by
  unfold Instr.keyThatStays
  rw [if_pos h]; rfl

theorem modify_list (xs : List MapEntry) (i : Nat) (f : MapEntry → MapEntry) (x : MapEntry) (hx : xs[i]? = some x) : xs.toArray.modify i f = (xs.set i (f x)).toArray := by
  apply Array.ext_getElem?
  intro k
  rw [Array.getElem?_modify]
  simp only [List.getElem?_toArray]
  by_cases hk : i = k
  · subst hk
    rw [if_pos rfl, hx]
    have hl := (List.getElem?_eq_some_iff.1 hx).1
    simp [hl]
  · rw [if_neg hk, List.getElem?_set_ne hk]

theorem mapUpdate_ok {t : TypeId} {x k y : VV} {X K Y : Value} (ok : CfgOk P c) (pk : PlainOk P c) (R : Rep N m h w) (hr : mapUpdV c t x k y h = .nov h') (hx : VR m x X) (hk : VR m k K) (hy : VR m y Y) :
    EffU P N m w (do Instr.mapUpdate t X K Y; Pure.pure .skip) h' := by
  unfold mapUpdV at hr
  cases hu : c.und t with
  | none => rw [hu] at hr; cases hr
  | some d =>
    rw [hu] at hr
    cases d with
    | map kt et =>
      cases x with
      | mp id =>
        cases hx with
        | @mp _ q hq =>
        simp only [] at hr
        cases hg : h.get id with
        | none => rw [hg] at hr; cases hr
        | some o =>
          rw [hg] at hr
          cases o with
          | map es cl =>
            simp only [] at hr
            cases hf : keyFind c kt k es with
            | none => rw [hf] at hr; cases hr
            | some r =>
              rw [hf] at hr
              simp only [] at hr
              obtain ⟨q', ob, hq', hb, ho⟩ := R.obj _ _ hg
              rw [hq] at hq'; cases hq'
              cases ho with
              | @map _ xs _ hes =>
              obtain ⟨r', h1, h2, h3⟩ := keyFind_ok (P := P) ok pk hf hk hes
              have fin : ∀ (es' : List VE) (xs' : List MapEntry) (cl' : Nat), VER m es' xs' → h' = ⟨h.t.put 20 id (.map es' cl'), h.next⟩ → (Instr.mapUpdate t (.map (some q.b)) K Y).run P w = .ok () { w with heap := w.heap.setIfInBounds q.b (.map xs'.toArray cl') } →
                  EffU P N m w (do Instr.mapUpdate t (.map (some q.b)) K Y; Pure.pure .skip) h' := by
                intro es' xs' cl' hes' hh hrun
                subst hh
                exact ⟨m, { w with heap := w.heap.setIfInBounds q.b (.map xs'.toArray cl') }, .refl m, by simp only [Sem.run_bind, hrun, Result.andThen]; rfl, R.write hg rfl hq (ob := .map xs'.toArray cl') rfl (.map hes'), below_write R hg rfl hq (ob := .map xs'.toArray cl') rfl rfl rfl rfl⟩
              cases r with
              | none =>
                cases r' with
                | some => exact h2.elim
                | none =>
                  simp only [mapUpdR, H.setK_eq] at hr
                  cases hr
                  refine fin _ (xs ++ [⟨K, Y, cl⟩]) (cl + 1) (hes.append (.cons hk hy rfl .nil)) rfl ?_
                  simp only [Instr.mapUpdate, Sem.run_bind, ok.und hu w, Result.andThen, run_getMap hb, h3, h1]
                  rw [run_setMap hb]; simp
              | some p =>
                obtain ⟨i, u⟩ := p
                cases r' with
                | none => exact h2.elim
                | some p' =>
                  obtain ⟨j, y0⟩ := p'
                  obtain ⟨rfl, _⟩ := h2
                  simp only [mapUpdR] at hr
                  cases he : es[i]? with
                  | none => rw [he] at hr; cases hr
                  | some e =>
                    rw [he] at hr
                    simp only [] at hr
                    cases hsm : sameV 3 e.key k with
                    | false => rw [hsm] at hr; cases hr
                    | true =>
                      rw [hsm, cond_true, H.setK_eq] at hr
                      cases hr
                      obtain ⟨x, hx, hxk, hxv, hxb⟩ := hes.get i e he
                      obtain ⟨hkk, hbits⟩ := sameV_ok 3 _ _ hsm hxk hk
                      refine fin (es.set i { e with val := y }) (xs.set i { x with key := K, val := Y }) cl (hes.set i { e with val := y } _ (by rw [← hkk]; exact hxk) hy hxb) rfl ?_
                      have hxa : xs.toArray[i]? = some x := by simpa using hx
                      simp only [Instr.mapUpdate, Sem.run_bind, ok.und hu w, Result.andThen, run_getMap hb, h3, h1, hxa, Option.map_some, Option.getD_some, keyStays (hbits 10000 (by omega))]
                      rw [run_setMap hb, modify_list xs i _ x hx]
          | _ => cases hr
      | _ => cases hr
    | _ => cases hr
end
end Go.M
/- Maps, more; iterators. -/
namespace Go.M
open Go Go.V Go.RowKit
set_option linter.unusedSimpArgs false
set_option linter.unusedVariables false

section
variable {P : Program} {c : Cfg} {m : Mp} {h h' : H} {v : VV} {N : Nat} {w : World}

theorem set_self {w : World} {b : Nat} {o : Obj} (hb : w.heap[b]? = some o) : w.heap.setIfInBounds b o = w.heap := by
  have h1 := (Array.getElem?_eq_some_iff.1 hb).1
  have h2 := (Array.getElem?_eq_some_iff.1 hb).2
  apply Array.ext_getElem?
  intro k
  by_cases hk : b = k
  · subst hk; simp [h1, h2]
  · rw [Array.getElem?_setIfInBounds_ne hk]

theorem mapEntry_ok {t : TypeId} {x k : VV} {X K : Value} (ok : CfgOk P c) (pk : PlainOk P c) (R : Rep N m h w) (hr : mapEntV c t x k h = .val v h') (hx : VR m x X) (hk : VR m k K) :
    Eff P N m w (nval (Instr.mapEntry t X K)) v h' := by
  unfold mapEntV at hr
  cases hu : c.und t with
  | none => rw [hu] at hr; cases hr
  | some d =>
    rw [hu] at hr
    cases d with
    | map kt et =>
      cases x with
      | mp id =>
        cases hx with
        | @mp _ q hq =>
        simp only [] at hr
        cases hg : h.get id with
        | none => rw [hg] at hr; cases hr
        | some o =>
          rw [hg] at hr
          cases o with
          | map es cl =>
            simp only [] at hr
            cases hf : keyFind c kt k es with
            | none => rw [hf] at hr; cases hr
            | some r =>
              rw [hf] at hr
              simp only [] at hr
              obtain ⟨q', ob, hq', hb, ho⟩ := R.obj _ _ hg
              rw [hq] at hq'; cases hq'
              cases ho with
              | @map _ xs _ hes =>
              obtain ⟨r', h1, h2, h3⟩ := keyFind_ok (P := P) ok pk hf hk hes
              cases r with
              | none =>
                cases r' with
                | some => exact h2.elim
                | none =>
                  simp only [mapEntR] at hr
                  cases hz : c.zero et with
                  | none => rw [hz] at hr; cases hr
                  | some z =>
                    rw [hz] at hr
                    simp only [H.setK_eq] at hr
                    cases hr
                    obtain ⟨z', rfl, hz'⟩ := ok.zero hz
                    refine .val (w' := { w with heap := w.heap.setIfInBounds q.b (.map (xs ++ [MapEntry.mk K z' cl]).toArray (cl + 1)) }) (.refl m) ?_ (.tup (xs := [z', .int .i64 cl]) (.cons (.ofV z') (.cons (.lit _) .nil)))
                      (R.write hg rfl hq (ob := .map (xs ++ [MapEntry.mk K z' cl]).toArray (cl + 1)) rfl (.map (hes.append (.cons hk (.ofV z') rfl .nil)))) (below_write R hg rfl hq (ob := .map (xs ++ [MapEntry.mk K z' cl]).toArray (cl + 1)) rfl rfl rfl rfl)
                    simp only [Instr.mapEntry, Sem.run_bind, ok.und hu w, Result.andThen, run_getMap hb, h3, h1, hz' w]
                    rw [run_setMap hb]
                    simp [pure_run, goInt]
              | some p =>
                obtain ⟨i, u⟩ := p
                cases r' with
                | none => exact h2.elim
                | some p' =>
                  obtain ⟨j, y0⟩ := p'
                  obtain ⟨rfl, hy0⟩ := h2
                  simp only [mapEntR] at hr
                  cases he : es[i]? with
                  | none => rw [he] at hr; cases hr
                  | some e =>
                    rw [he] at hr
                    simp only [] at hr
                    cases hsm : sameV 3 e.key k with
                    | false => rw [hsm] at hr; cases hr
                    | true =>
                      rw [hsm, cond_true] at hr
                      cases hr
                      obtain ⟨x, hx, hxk, hxv, hxb⟩ := hes.get i e he
                      obtain ⟨hkk, hbits⟩ := sameV_ok 3 _ _ hsm hxk hk
                      have hxa : xs.toArray[i]? = some x := by simpa using hx
                      have hsame : xs.set i { x with key := K } = xs := by
                        have : ({ x with key := K } : MapEntry) = x := by rw [← hkk]
                        rw [this]
                        have hl := (List.getElem?_eq_some_iff.1 hx)
                        obtain ⟨hlt, hxe⟩ := hl
                        rw [← hxe]; exact List.set_getElem_self hlt
                      refine .still R rfl (.tup (xs := [y0, .int .i64 e.born]) (.cons hy0 (.cons (.lit _) .nil))) ?_
                      simp only [Instr.mapEntry, Sem.run_bind, ok.und hu w, Result.andThen, run_getMap hb, h3, h1, hxa, Option.map_some, Option.getD_some, keyStays (hbits 10000 (by omega))]
                      rw [run_setMap hb, modify_list xs i _ x hx, hsame, set_self hb]
                      simp [pure_run, goInt, hxb]
          | _ => cases hr
      | _ => cases hr
    | _ => cases hr

theorem findBorn_ok {b : Int} : ∀ {es : List VE} {xs : List MapEntry} (i : Nat) {r : Nat}, findBorn b es i = some r → VER m es xs → i ≤ r ∧ xs.findIdx? (fun e => (e.born : Int) == b) = some (r - i)
  | [], xs, i, r, hr, _ => by cases hr
  | e :: es, xs, i, r, hr, hes => by
    cases hes with
    | cons a b' hb hrest =>
    simp only [findBorn] at hr
    split at hr
    · rename_i he
      cases hr
      refine ⟨Nat.le_refl _, ?_⟩
      rw [hb] at he
      simp [List.findIdx?_cons, he]
    · rename_i he
      obtain ⟨h1, h2⟩ := findBorn_ok (i + 1) hr hrest
      refine ⟨by omega, ?_⟩
      rw [hb] at he
      simp only [List.findIdx?_cons, beq_eq_false_iff_ne.2 he, h2]
      simp; omega

theorem entryStore_ok {t : TypeId} {x s y : VV} {X S Y : Value} (R : Rep N m h w) (hr : entStV x s y h = .nov h') (hx : VR m x X) (hs : VR m s S) (hy : VR m y Y) :
    EffU P N m w (do Instr.entryStore t X S Y; Pure.pure .skip) h' := by
  unfold entStV at hr
  split at hr
  · rename_i id k b
    cases hx with
    | @mp _ q hq =>
    cases hs
    split at hr
    · rename_i es cl hg
      obtain ⟨q', ob, hq', hb, ho⟩ := R.obj _ _ hg
      rw [hq] at hq'; cases hq'
      cases ho with
      | @map _ xs _ hes =>
      split at hr
      · rename_i i hf
        split at hr
        · rename_i e he
          rw [H.setK_eq] at hr
          cases hr
          obtain ⟨_, hidx⟩ := findBorn_ok 0 hf hes
          obtain ⟨x, hx, hxk, hxv, hxb⟩ := hes.get i e he
          refine ⟨m, { w with heap := w.heap.setIfInBounds q.b (.map (xs.set i { x with val := Y }).toArray cl) }, .refl m, ?_, R.write hg rfl hq (ob := .map (xs.set i { x with val := Y }).toArray cl) rfl (.map (hes.set i { e with val := y } _ hxk hy hxb)), below_write R hg rfl hq (ob := .map (xs.set i { x with val := Y }).toArray cl) rfl rfl rfl rfl⟩
          have hidx' : xs.toArray.findIdx? (fun e => (e.born : Int) == b) = some i := by simpa using hidx
          simp only [Instr.entryStore, Sem.run_bind, Result.andThen, run_getMap hb, asInt, asIntOf, pure_run, hidx']
          rw [run_setMap hb, modify_list xs i _ x hx]
        · cases hr
      · cases hr
    · cases hr
  · cases hr

theorem findBornE_ok {b : Nat} : ∀ {es : List VE} {xs : List MapEntry} {e : VE}, findBornE b es = some e → VER m es xs → ∃ x, xs.find? (fun x => x.born == b) = some x ∧ VR m e.key x.key ∧ VR m e.val x.val
  | [], xs, e, hr, _ => by cases hr
  | e0 :: es, xs, e, hr, hes => by
    cases hes with
    | @cons _ x _ xs' a b' hb hrest =>
    simp only [findBornE] at hr
    split at hr
    · rename_i he
      cases hr
      exact ⟨x, by rw [hb] at he; simp [he], a, b'⟩
    · rename_i he
      obtain ⟨x', h1, h2⟩ := findBornE_ok hr hrest
      exact ⟨x', by rw [hb] at he; simp [he, h1], h2⟩

theorem iter_ok {id : Nat} {mid : Nat} {since stepped : Nat} {seen : List Nat} {q : Q} (R : Rep N m h w) (hg : h.get id = some (.iter (some mid) since seen stepped)) (hq : m id = some q) :
    ∃ q', m mid = some q' ∧ w.heap[q.b]? = some (.mapIter (some q'.b) since seen.toArray stepped) ∧ q.base = 0 := by
  obtain ⟨q2, ob, hq2, hb, ho⟩ := R.obj _ _ hg
  rw [hq] at hq2; cases hq2
  cases ho with
  | iter h0 hq' => exact ⟨_, hq', hb, h0⟩

theorem run_getIter {b : Nat} {a : Option Nat} {x y : Nat} {s : Array Nat} (hb : w.heap[b]? = some (.mapIter a x s y)) : (getObj b).run P w = .ok (.mapIter a x s y) w := by simp [getObj, Sem.run, hb]

theorem entry_ok {x : VV} {X : Value} (R : Rep N m h w) (hr : entryV x h = .val v h') (hx : VR m x X) : Eff P N m w (nval (Instr.entry X)) v h' := by
  unfold entryV at hr
  split at hr
  · rename_i id
    cases hx with
    | @ptr _ _ q hq =>
    split at hr
    · rename_i mid since seen stepped hg
      obtain ⟨q', hq', hb, hb0⟩ := iter_ok R hg hq
      split at hr
      · rename_i stamp es cl hlast hgm
        obtain ⟨q2, ob, hq2, hbm, ho⟩ := R.obj _ _ hgm
        rw [hq'] at hq2; cases hq2
        cases ho with
        | @map _ xs _ hes =>
        split at hr
        · rename_i hcl
          subst hcl
          split at hr
          · rename_i e he
            cases hr
            obtain ⟨y, h1, h2, h3⟩ := findBornE_ok he hes
            refine .still R rfl (.tup (xs := [y.key, y.val]) (.cons h2 (.cons h3 .nil))) ?_
            have hback : seen.toArray.back? = some stamp := by simpa using hlast
            have hfind : xs.toArray.find? (fun x => x.born == stamp) = some y := by simpa using h1
            simp only [Instr.entry, hb0, Nat.zero_add, Sem.run_bind, run_getIter hb, Result.andThen, hback, run_getMap hbm, hfind]
            simp [pure_run]
          · cases hr
        · cases hr
      · cases hr
    · cases hr
  · cases hr

theorem VER.filter {p : VE → Bool} {p' : MapEntry → Bool} (hp : ∀ (e : VE) (x : MapEntry), e.born = x.born → p e = p' x) : ∀ {l : List VE} {xs : List MapEntry}, VER m l xs → VER m (l.filter p) (xs.filter p')
  | _, _, .nil => .nil
  | _, _, .cons (e := e) (x := x) a b c' d => by
    have := hp e x c'
    simp only [List.filter_cons, this]
    split
    · exact .cons a b c' (VER.filter hp d)
    · exact VER.filter hp d
theorem VER.all {p : VE → Bool} {p' : MapEntry → Bool} (hp : ∀ (e : VE) (x : MapEntry), e.born = x.born → p e = p' x) : ∀ {l : List VE} {xs : List MapEntry}, VER m l xs → l.all p = xs.all p'
  | _, _, .nil => rfl
  | _, _, .cons (e := e) (x := x) a b c' d => by simp only [List.all_cons, hp e x c', VER.all hp d]
theorem VER.isEmpty : ∀ {l : List VE} {xs : List MapEntry}, VER m l xs → l.isEmpty = xs.isEmpty
  | _, _, .nil => rfl
  | _, _, .cons _ _ _ _ => rfl

/-- One step of an iterator: what may come. -/
def NextR (P : Program) (N : Nat) (m : Mp) (w : World) (s : Sem Next) : R → Prop
  | .val v h' => Eff P N m w s v h'
  | .alts l => ∃ p ∈ l, Eff P N m w s p.1 p.2
  | _ => True

theorem next_ok {x : VV} {X : Value} {isS : Bool} {ty : TypeId} {r : R} (R : Rep N m h w) (hr : nextV x isS h = r) (hx : VR m x X) : NextR P N m w (nval (Instr.next X isS ty)) r := by
  unfold nextV at hr
  split at hr
  · rename_i id
    cases hx with
    | @ptr _ _ q hq =>
    split at hr
    · rename_i since seen last hg
      subst hr
      obtain ⟨q2, ob, hq2, hb, ho⟩ := R.obj _ _ hg
      rw [hq] at hq2; cases hq2
      cases ho with
      | iter0 h0 =>
      refine Eff.still R rfl (.tup (xs := [.bool false]) (.cons (.lit _) .nil)) ?_
      simp only [Instr.next, h0, Nat.zero_add, Sem.run_bind, run_getIter hb, Result.andThen]
      rfl
    · rename_i mid since seen last hg
      obtain ⟨q', hq', hb, hb0⟩ := iter_ok R hg hq
      split at hr
      · rename_i es cl hgm
        obtain ⟨q2, ob, hq2, hbm, ho⟩ := R.obj _ _ hgm
        rw [hq'] at hq2; cases hq2
        cases ho with
        | @map _ xs _ hes =>
        split at hr
        · subst hr; trivial
        · rename_i hguard
          have hguard' : ¬ ((!seen.toArray.isEmpty && !xs.toArray.isEmpty && xs.toArray.all (fun e => e.born ≥ last)) = true) := by
            have h1 := VER.all (p := fun e => decide (e.born ≥ last)) (p' := fun e => decide (e.born ≥ last)) (fun e x hb => by simp [hb]) hes
            have h2 := hes.isEmpty
            rw [h1, h2] at hguard
            simpa using hguard
          have hold := VER.filter (p := fun e => decide (e.born < since)) (p' := fun e => decide (e.born < since)) (fun e x hb => by simp [hb])
            (VER.filter (p := fun e => !seen.contains e.born) (p' := fun e => !seen.toArray.contains e.born) (fun e x hb => by simp [hb]) hes)
          have hnw := VER.filter (p := fun e => decide (e.born ≥ since)) (p' := fun e => decide (e.born ≥ since)) (fun e x hb => by simp [hb])
            (VER.filter (p := fun e => !seen.contains e.born) (p' := fun e => !seen.toArray.contains e.born) (fun e x hb => by simp [hb]) hes)
          dsimp only at hr
          generalize hO : (es.filter fun e => !seen.contains e.born).filter (fun e => decide (e.born < since)) = old at hr hold
          generalize hNw : (es.filter fun e => !seen.contains e.born).filter (fun e => decide (e.born ≥ since)) = new at hr hnw
          generalize hOX : (xs.filter fun e => !seen.toArray.contains e.born).filter (fun e => decide (e.born < since)) = oldX at hold
          generalize hNX : (xs.filter fun e => !seen.toArray.contains e.born).filter (fun e => decide (e.born ≥ since)) = newX at hnw
          split at hr
          · subst hr; trivial
          · rename_i hnew
            have hn0 : new = [] := by cases new <;> first | rfl | (simp at hnew)
            subst hn0
            cases hnw
            have hA1 : ((xs.toArray.filter fun e => !seen.toArray.contains e.born).filter fun e => decide (e.born < since)) = oldX.toArray := by
              rw [← hOX]; simp
            have hA2 : ((xs.toArray.filter fun e => !seen.toArray.contains e.born).filter fun e => decide (e.born ≥ since)) = #[] := by
              have : ((xs.toArray.filter fun e => !seen.toArray.contains e.born).filter fun e => decide (e.born ≥ since)) = ([] : List MapEntry).toArray := by
                rw [← hNX]; simp
              simpa using this
            -- the run, up to the choice
            have hrun : ∀ (k : Nat) (w1 : World) (cs : Array (Option MapEntry)), cs = (if oldX.toArray.isEmpty then #[none] else #[]) ++ (oldX.toArray ++ #[]).map some → (choose (.mapNext cs.size)).run P w = .ok k w1 → ∀ res, (match cs[k]? with
                | some (some e) => (do setObj q.b (.mapIter (some q'.b) since (seen.toArray.push e.born) cl); Pure.pure (Value.tuple #[.bool true, e.key, e.val]) : Sem Value)
                | some none => Pure.pure (Value.tuple #[.bool false])
                | none => stuck "Next: no such candidate").run P w1 = res → (Instr.next (.pointer (some ⟨q.b, q.base + 0, none⟩)) false ty).run P w = res := by
              intro k w1 cs hcs hch res hres
              simp only [Instr.next, hb0, Nat.zero_add, Sem.run_bind, run_getIter hb, run_getMap hbm, Result.andThen]
              rw [if_neg hguard']
              simp only [Sem.run_bind, hA1, hA2, Result.andThen, ← hcs, hch]
              exact hres
            have hpick : ∀ (e : VE) (x : MapEntry) (k : Nat) (w1 : World) (cs : Array (Option MapEntry)), VR m e.key x.key → VR m e.val x.val → e.born = x.born → w1.heap = w.heap → w1.os = w.os → w1.tape = w.tape → w1.output = w.output →
                cs = (if oldX.toArray.isEmpty then #[none] else #[]) ++ (oldX.toArray ++ #[]).map some → (choose (.mapNext cs.size)).run P w = .ok k w1 → cs[k]? = some (some x) →
                Eff P N m w (nval (Instr.next (.pointer (some ⟨q.b, q.base + 0, none⟩)) false ty)) (.tup [b2v true, e.key, e.val]) ⟨h.t.put 20 id (.iter (some mid) since (seen ++ [e.born]) cl), h.next⟩ := by
              intro e x k w1 cs hk hv hbn hh ho ht hp hcs hch hx
              have hb1 : w1.heap[q.b]? = some (.mapIter (some q'.b) since seen.toArray last) := by rw [hh]; exact hb
              have hset : (setObj q.b (.mapIter (some q'.b) since (seen.toArray.push x.born) cl)).run P w1 = .ok () { w1 with heap := w1.heap.setIfInBounds q.b (.mapIter (some q'.b) since (seen.toArray.push x.born) cl) } := by
                simp [setObj, Sem.run, hb1]
              have hor : OR m q (.iter (some mid) since (seen ++ [e.born]) cl) (.mapIter (some q'.b) since (seen.toArray.push x.born) cl) := by
                have : seen.toArray.push x.born = (seen ++ [e.born]).toArray := by rw [hbn]; simp
                rw [this]; exact .iter hb0 hq'
              have R1 := R.congr hh
              refine .val (.refl m) (hrun k w1 cs hcs hch _ ?_) (.tup (xs := [.bool true, x.key, x.val]) (.cons (.lit _) (.cons hk (.cons hv .nil))))
                (R1.write (w' := { w1 with heap := w1.heap.setIfInBounds q.b (.mapIter (some q'.b) since (seen.toArray.push x.born) cl) }) hg rfl hq (ob := .mapIter (some q'.b) since (seen.toArray.push x.born) cl) rfl hor)
                ((below_same hh ho ht hp).trans (below_write R1 hg rfl hq (ob := .mapIter (some q'.b) since (seen.toArray.push x.born) cl) rfl rfl rfl rfl))
              rw [hx]
              simp only [Sem.run_bind, hset, Result.andThen, pure_run]
            cases hold with
            | nil =>
              simp only [] at hr
              subst hr
              rw [H.setK_eq]
              exact Eff.val (.refl m) (hrun 0 w #[none] (by simp) (by simp [choose, Sem.run, Question.forced, Pure.pure]) _ (by simp [pure_run])) (.tup (xs := [.bool false]) (.cons (.lit _) .nil)) (R.drop hg) (.refl N w)
            | @cons e x old' oldX' hk hv hbn hrest =>
              have hcs : (if (x :: oldX').toArray.isEmpty then (#[none] : Array (Option MapEntry)) else #[]) ++ ((x :: oldX').toArray ++ #[]).map some = ((x :: oldX').map some).toArray := by simp
              cases hrest with
              | nil =>
                simp only [H.setK_eq] at hr
                subst hr
                exact hpick e x 0 w _ hk hv hbn rfl rfl rfl rfl rfl (by rw [hcs]; simp [choose, Sem.run, Question.forced, Pure.pure]) (by rw [hcs]; simp)
              | @cons e2 x2 old2 oldX2 hk2 hv2 hbn2 hrest2 =>
                simp only [H.setK_eq] at hr
                subst hr
                have hall : VER m (e :: e2 :: old2) (x :: x2 :: oldX2) := .cons hk hv hbn (.cons hk2 hv2 hbn2 hrest2)
                have hlen := hall.length
                generalize hcsd : (if (x :: x2 :: oldX2).toArray.isEmpty then (#[none] : Array (Option MapEntry)) else #[]) ++ ((x :: x2 :: oldX2).toArray ++ #[]).map some = cs at hcs hpick
                have hsz : cs.size = (x :: x2 :: oldX2).length := by rw [hcs]; simp
                let k := Question.cut (.mapNext cs.size) (w.tape w.drawn (.mapNext cs.size))
                have hk1 : k < (x :: x2 :: oldX2).length := by
                  rw [← hsz]
                  have : 0 < cs.size := by rw [hsz]; simp
                  exact Nat.mod_lt _ this
                have hch : (choose (.mapNext cs.size)).run P w = .ok k { w with drawn := w.drawn + 1 } := by
                  have hf : (Question.mapNext cs.size).forced = false := by
                    simp only [Question.forced, decide_eq_false_iff_not]; rw [hsz]; simp
                  simp only [choose, Sem.run, hf, Bool.false_eq_true, if_false]
                  rfl
                have hek : (e :: e2 :: old2)[k]? = some ((e :: e2 :: old2)[k]'(by rw [hlen]; exact hk1)) := by simp
                obtain ⟨xk, hxk, c1, c2, c3⟩ := hall.get k _ hek
                refine ⟨_, List.mem_map.2 ⟨_, List.getElem_mem (by rw [hlen]; exact hk1), rfl⟩, ?_⟩
                refine hpick _ xk k { w with drawn := w.drawn + 1 } cs c1 c2 c3 rfl rfl rfl rfl rfl hch ?_
                rw [hcs]
                simp only [List.getElem?_toArray, List.getElem?_map, hxk, Option.map_some]
      · subst hr; trivial
    · subst hr; trivial
  · subst hr; trivial
end
end Go.M
/- Calls; every operation. -/
namespace Go.M
open Go Go.V Go.RowKit
set_option linter.unusedSimpArgs false
set_option linter.unusedVariables false

section
variable {P : Program} {c : Cfg} {m : Mp} {h h' : H} {v : VV} {N : Nat} {w : World}

inductive DR (m : Mp) : VD → Deferred → Prop
  | collected {id : Nat} {q : Q} : m id = some q → DR m (.collected id) ⟨.collected q.b, #[]⟩
  | clo {f : FuncId} {caps args : List VV} {xs ys : List Value} : VRL m caps xs → VRL m args ys → DR m (.clo f caps args) ⟨.fn (.func f) xs.toArray, ys.toArray⟩
theorem DR.mono {m m' : Mp} (hm : Mp.Le m m') {d : VD} {x : Deferred} (h : DR m d x) : DR m' d x := by
  cases h with
  | collected h => exact .collected (hm _ _ h)
  | clo h k => exact .clo (h.mono hm) (k.mono hm)

/-- What an operation of the model does, by what it comes to in the machine. -/
def OpR (P : Program) (c : Cfg) (N : Nat) (m : Mp) (h : H) (w : World) (s : Sem Next) : R → Prop
  | .no _ => True
  | .val v h' => Eff P N m w s v h'
  | .nov h' => EffU P N m w s h'
  | .call g args h' => h' = h ∧ ∃ xs, VRL m args xs ∧ ∀ fn, c.fns.get g = some fn → fn.body.isSome = true → s.run P w = .ok (.enter g xs.toArray) w
  | .round l args h' => h' = h ∧ ∃ q xs, m l = some q ∧ VRL m args xs ∧ s.run P w = (Instr.yield q.b xs.toArray).run P w
  | .dfr d h' => h' = h ∧ ∃ dd, DR m d dd ∧ s.run P w = .ok (.defer dd) w
  | .alts l => ∃ p ∈ l, Eff P N m w s p.1 p.2

theorem run_callFunc (ok : CfgOk P c) {g : FuncId} {fn : Func} {xs : Array Value} (hg : c.fns.get g = some fn) (hb : fn.body.isSome = true) (w : World) : (callFunc g xs).run P w = .ok (.enter g xs) w := by
  have h1 := ok.fns _ _ hg
  have h2 := ok.names _ _ hg
  obtain ⟨body, hbody⟩ := Option.isSome_iff_exists.1 hb
  have h3 : (fn.name == "runtime.NumGoroutine") = false := beq_eq_false_iff_ne.2 h2
  simp only [callFunc, program, Sem.run_bind, Sem.run, Result.andThen, Pure.pure, h1]
  simp [h3, hbody, Sem.run, Pure.pure]

theorem VRL.ops {e : T VV} {E : Env} (hE : ∀ x, VR m (evo x e) (ev E x)) (l : List Operand) : VRL m (l.map (evv e)) (l.map (ev E)) :=
  VRL.map _ _ l fun a _ => hE a

theorem invokeV_ok (ok : CfgOk P c) {f : VV} {F : Value} {args : List VV} {xs : List Value} (hf : VR m f F) (hx : VRL m args xs) : OpR P c N m h w (do let d ← Deferred.ofValue F xs.toArray; invoke d.target d.args) (invokeV f args h) := by
  cases hf with
  | @fn g fs cs ys zs hfs hcs =>
    refine ⟨rfl, ys ++ xs ++ zs, (hfs.append hx).append hcs, fun fn hg hb => ?_⟩
    have := run_callFunc (P := P) ok (xs := (ys ++ xs ++ zs).toArray) hg hb w
    simp only [Deferred.ofValue, Sem.run_bind, pure_run, Result.andThen, invoke]
    rw [← this]
    congr 2
    simp
  | @yield l q hq =>
    refine ⟨rfl, q, xs, hq, hx, ?_⟩
    simp [Deferred.ofValue, Sem.run_bind, pure_run, Result.andThen, invoke]
  | _ => trivial

theorem onlyVal_ok {s : Sem Next} {r : R} (hr : ∀ v h', r = .val v h' → Eff P N m w s v h') : OpR P c N m h w s (onlyVal r) := by
  unfold onlyVal
  split
  · exact hr _ _ rfl
  · trivial
  · trivial
theorem onlyNov_ok {s : Sem Next} {r : R} (hr : ∀ h', r = .nov h' → EffU P N m w s h') : OpR P c N m h w s (onlyNov r) := by
  unfold onlyNov
  split
  · exact hr _ rfl
  · trivial
  · trivial

theorem method_ok (ok : CfgOk P c) {t : TypeId} {x u : VV} {X : Value} {name : String} {g : FuncId} (hr : methodV c t x name = some (g, u)) (hx : VR m x X) (k : Nat) : u = x ∧ ∀ w, (method (k + 1) t X name).run P w = .ok (g, X) w := by
  unfold methodV at hr
  cases hi : c.tys.get t with
  | none => rw [hi] at hr; cases hr
  | some i =>
    rw [hi] at hr
    simp only [] at hr
    cases hf : i.methods.find? (fun m => m.name == name) with
    | none => rw [hf] at hr; cases hr
    | some mt =>
      rw [hf] at hr
      simp only [] at hr
      cases hp : mt.path.isEmpty with
      | false => rw [hp] at hr; cases hr
      | true =>
        rw [hp, cond_true] at hr
        simp only [methodF] at hr
        cases hmf : mt.func with
        | none => rw [hmf] at hr; cases hr
        | some fp =>
          obtain ⟨f, pr⟩ := fp
          rw [hmf] at hr
          simp only [] at hr
          cases hu : c.und t with
          | none => rw [hu] at hr; cases hr
          | some d =>
            rw [hu] at hr
            simp only [] at hr
            have hpath : mt.path.toList = [] := by
              have := Array.isEmpty_iff.1 hp
              rw [this]
            have hfollow : ∀ w, (follow mt.path.toList t (.val X)).run P w = .ok (t, .val X) w := by intro w; rw [hpath]; rfl
            have hrecv : u = x ∧ g = f ∧ ∀ w wr, (receiverAt t (.val X) pr wr).run P w = .ok X w := by
              cases d with
              | pointer el =>
                simp only [] at hr
                cases pr with
                | false => cases hr
                | true => cases hr; exact ⟨rfl, rfl, fun w wr => by simp [receiverAt, Sem.run_bind, ok.und hu w, Result.andThen, Place.get, pure_run]⟩
              | _ =>
                simp only [] at hr
                cases pr with
                | true => cases hr
                | false => cases hr; exact ⟨rfl, rfl, fun w wr => by simp [receiverAt, Sem.run_bind, ok.und hu w, Result.andThen, Place.get, pure_run]⟩
            obtain ⟨rfl, rfl, hrc⟩ := hrecv
            refine ⟨rfl, fun w => ?_⟩
            simp only [method, Sem.run_bind, ok.info hi w, Result.andThen, hf, hfollow w, hmf, hrc w, pure_run]

theorem built_ok (ok : CfgOk P c) (R : Rep N m h w) {b : Builtin} {ts : Array TypeId} {ty : TypeId} {consts : Array Bool} {args : List VV} {xs : List Value} (hx : VRL m args xs) {r : M.R} (hr : built c b ts.toList args h = .val v h') :
    Eff P N m w (builtin b ts ty consts xs.toArray) v h' := by
  unfold built at hr
  cases b <;> simp only [] at hr <;> first | (cases hr; done) | skip
  · -- append
    unfold bAppend at hr
    split at hr
    · rename_i t u s x hts
      have hta : ts = #[t, u] := by apply Array.ext'; simpa using hts
      subst hta
      cases hx with
      | @cons _ S _ _ hs h2 =>
      cases h2 with
      | @cons _ X _ _ hx h3 =>
      cases h3
      exact append_ok ok R hr hs hx rfl
    · cases hr
  · -- cap
    unfold bCap at hr
    split at hr
    · rename_i t x hts
      have hta : ts = #[t] := by apply Array.ext'; simpa using hts
      subst hta
      cases hx with
      | @cons _ X _ _ hx h2 =>
      cases h2
      split at hr
      · rename_i u hc
        cases hr
        obtain ⟨y, hy, hrun⟩ := cap_ok (P := P) (ts := #[t]) (ty := ty) (args := #[X]) ok hc hx rfl rfl
        exact .still R rfl hy (hrun w)
      · cases hr
    · cases hr
  · -- copy
    unfold bCopy at hr
    split at hr
    · rename_i t l d x hts
      cases hx with
      | @cons _ D _ _ hd h2 =>
      cases h2 with
      | @cons _ X _ _ hx h3 =>
      cases h3
      have ht0 : ts[0]? = some t := by rw [← Array.getElem?_toList, hts]; rfl
      exact copy_ok (u := 0) ok R hr hd hx ht0 rfl rfl
    · cases hr
  · -- len
    unfold bLen at hr
    split at hr
    · rename_i t x hts
      have hta : ts = #[t] := by apply Array.ext'; simpa using hts
      subst hta
      cases hx with
      | @cons _ X _ _ hx h2 =>
      cases h2
      split at hr
      · rename_i u hc
        cases hr
        obtain ⟨y, hy, hrun, _⟩ := len_ok (P := P) (ts := #[t]) (ty := ty) (args := #[X]) ok R hc hx rfl rfl
        exact .still R rfl hy hrun
      · cases hr
    · cases hr
  all_goals
    unfold bMM minmax at hr
    split at hr
    · rename_i u hm
      cases hr
      split at hm
      · rename_i k n l
        cases hx with
        | @cons _ X _ ys hx h2 =>
        cases hx
        obtain ⟨y, hy, hrun⟩ := mmFrom_ok (P := P) hm h2
        refine .still R rfl hy ?_
        simpa [Builtin.min_, Builtin.max_] using hrun w
      · cases hm
    · cases hr

theorem op_ok (ok : CfgOk P c) (pk : PlainOk P c) (R : Rep N m h w) {e : T VV} {E : Env} (her : ER m e E) (op : Op) (dst : Option Tmp) (ty : TypeId) (pos : String) (af : Array Edge) (gd : Option (Nat × Bool)) :
    OpR P c N m h w (execOp (ev E) ⟨dst, op, ty, pos, af, gd⟩) (xop op c e h) := by
  have hE : ∀ x, VR m (evo x e) (ev E x) := fun x => her.evo R.glob x
  have ho : ∀ o : Option Operand, ORel m (optMap (evv e) o) (o.map (ev E)) := fun o => by cases o with
    | none => exact .none
    | some x => exact .some (hE x)
  cases op <;> simp only [xop] <;> first | trivial | skip
  case move x => exact Eff.pure R ⟨rfl, _, hE x, fun w => rfl⟩
  case assign x => exact Eff.pure R ⟨rfl, _, hE x, fun w => rfl⟩
  case pick b x y => exact onlyVal_ok fun v h' hr => .pure R (pick_ok hr (hE b) (hE x) (hE y))
  case alloc t => exact onlyVal_ok fun v h' hr => alloc_ok ok R hr
  case box t x => exact onlyVal_ok fun v h' hr => box_ok R hr (hE x)
  case build t parts => exact onlyVal_ok fun v h' hr => .pure R (build_ok ok hE hr)
  case buildSlice t len parts => exact onlyVal_ok fun v h' hr => buildSlice_ok ok R hE hr
  case insert t a k x => exact onlyNov_ok fun h' hr => mapUpdate_ok ok pk R hr (hE a) (hE k) (hE x)
  case load t a => exact onlyVal_ok fun v h' hr => by obtain ⟨rfl, y, hy, hrun⟩ := load_ok ok R hr (hE a); exact .still R rfl hy hrun
  case store t a x => exact onlyNov_ok fun h' hr => store_ok ok R hr (hE a) (hE x)
  case nilCheck x => exact onlyVal_ok fun v h' hr => .pure R (nilCheck_ok hr rfl (hE x))
  case binOp op t x y u => exact onlyVal_ok fun v h' hr => by obtain ⟨hb, rfl⟩ := optR_ok hr; exact .pure R ⟨rfl, bin_ok ok pk hb (hE x) (hE y)⟩
  case unOp op t x => exact onlyVal_ok fun v h' hr => by obtain ⟨hb, rfl⟩ := optR_ok hr; exact .pure R ⟨rfl, un_ok hb (hE x)⟩
  case convert a b x => exact onlyVal_ok fun v h' hr => conv_ok ok R hr (hE x)
  case makeInterface t x => exact onlyVal_ok fun v h' hr => .pure R (makeInterface_ok ok hr (hE x))
  case makeFunc f first caps =>
    unfold oMakeFunc xMakeFunc
    cases f <;> first | trivial | skip
    rename_i g
    refine Eff.pure R ⟨rfl, _, .fn (VRL.ops hE first.toList) (VRL.ops hE caps.toList), fun w => ?_⟩
    simp only [execOp, Instr.makeFunc, Sem.run_bind, pure_run, Result.andThen]
    congr 3 <;> apply Array.ext' <;> simp
  case makeMap t r => exact onlyVal_ok fun v h' hr => makeMap_ok ok R hE hr
  case makeSlice t a b => exact onlyVal_ok fun v h' hr => makeSlice_ok ok R hr (hE a) (hE b)
  case slice t x lo hi mx => exact onlyVal_ok fun v h' hr => .pure R (slice_ok ok R hr (hE x) (ho lo) (ho hi) (ho mx))
  case fieldAddr t x f => exact onlyVal_ok fun v h' hr => .pure R (fieldAddr_ok ok hr (hE x))
  case field t x f => exact onlyVal_ok fun v h' hr => .pure R (field_ok ok hr (hE x))
  case indexAddr t x i => exact onlyVal_ok fun v h' hr => .pure R (indexAddr_ok ok hr (hE x) (hE i))
  case index t x i => exact onlyVal_ok fun v h' hr => .pure R (index_ok ok hr (hE x) (hE i))
  case lookup t x i cok => exact onlyVal_ok fun v h' hr => lookup_ok ok pk R hr (hE x) (hE i)
  case mapUpdate t a k x => exact onlyNov_ok fun h' hr => mapUpdate_ok ok pk R hr (hE a) (hE k) (hE x)
  case mapEntry t a k => exact onlyVal_ok fun v h' hr => mapEntry_ok ok pk R hr (hE a) (hE k)
  case entryStore t a s x => exact onlyNov_ok fun h' hr => entryStore_ok R hr (hE a) (hE s) (hE x)
  case range t x => exact onlyVal_ok fun v h' hr => range_ok ok R hr (hE x)
  case next it s =>
    have := next_ok (P := P) (ty := ty) R rfl (hE it) (isS := s)
    unfold oNext onlyNext
    split
    · rename_i v h' heq; rw [heq] at this; exact this
    · rename_i l heq; rw [heq] at this; exact this
    · trivial
    · trivial
  case entry it => exact onlyVal_ok fun v h' hr => entry_ok R hr (hE it)
  case typeAssert x a b cok => exact onlyVal_ok fun v h' hr => .pure R (assert_ok ok hr (hE x))
  case extract x i => exact onlyVal_ok fun v h' hr => .pure R (extract_ok hr (hE x))
  case call cl =>
    have hargs := VRL.ops hE cl.args.toList
    have harr : cl.args.map (ev E) = (cl.args.toList.map (ev E)).toArray := by apply Array.ext'; simp
    obtain ⟨callee, cargs, ctys⟩ := cl
    unfold oCall xCall
    cases callee with
    | builtin b =>
      refine onlyVal_ok fun v h' hr => ?_
      have := built_ok (P := P) (ty := ty) (consts := cargs.map fun | .const _ => true | _ => false) ok R hargs (r := .no "") hr
      simp only [execOp, resolve, Sem.run_bind] at this ⊢
      obtain ⟨m', x, w', a1, a2, a3, a4, a5⟩ := this
      refine ⟨m', x, w', a1, ?_, a3, a4, a5⟩
      simp only [Sem.run_bind, pure_run, Result.andThen, invoke]
      rw [harr]; exact a2
    | value f =>
      have := invokeV_ok (P := P) (N := N) (h := h) (w := w) ok (hE f) hargs
      show OpR P c N m h w (execOp (ev E) _) (invokeV (evo f e) _ h)
      simp only [execOp, resolve]
      rw [harr]; exact this
    | invoke r name =>
      simp only []
      have hr := hE r
      show OpR P c N m h w _ (match evo r e with | .ifc t v => _ | _ => _)
      cases hev : evo r e with
      | ifc t u =>
        rw [hev] at hr
        simp only []
        cases hm : methodV c t u name with
        | none => trivial
        | some p =>
          obtain ⟨g, rv⟩ := p
          generalize hX : ev E r = X at hr
          cases hr with
          | @ifc _ _ y hu =>
          obtain ⟨rfl, hmrun⟩ := method_ok (P := P) ok hm hu (P.types.size + Made.depth - 1)
          refine ⟨rfl, y :: cargs.toList.map (ev E), .cons hu hargs, fun fn hg hb => ?_⟩
          have hcf := run_callFunc (P := P) ok (xs := (y :: cargs.toList.map (ev E)).toArray) hg hb w
          have hmd : P.types.size + Made.depth = (P.types.size + Made.depth - 1) + 1 := by
            have : 0 < Made.depth := by decide
            omega
          have hm' := hmrun w
          rw [← hmd] at hm'
          simp only [execOp, resolve, hX, Sem.run_bind, pure_run, Result.andThen, invoke, harr]
          simp only [callMethod, program, Sem.run_bind, Sem.run, Pure.pure, Result.andThen]
          simp [callMethod, program, Sem.run_bind, Sem.run, Pure.pure, Result.andThen, hm']
          rw [List.take_of_length_le (by simp)]
          exact hcf
      | _ => trivial
  case defer cl =>
    unfold oDefer xDefer
    obtain ⟨callee, cargs, ctys⟩ := cl
    cases callee with
    | value f =>
      have hf := hE f
      have hargs := VRL.ops hE cargs.toList
      have harr : cargs.map (ev E) = (cargs.toList.map (ev E)).toArray := by apply Array.ext'; simp
      simp only []
      split
      · rename_i g caps heq
        change evo f e = _ at heq
        rw [heq] at hf
        generalize hX : ev E f = X at hf
        cases hf with
        | @fn _ _ _ xs ys h1 h2 =>
        cases h1
        refine ⟨rfl, _, .clo h2 hargs, ?_⟩
        simp only [execOp, resolve, hX, Deferred.ofValue, Sem.run_bind, pure_run, Result.andThen, harr]
        simp
      · trivial
    | _ => trivial
end
end Go.M
/- Operations that are light: they may be moved in a region that draws its order. -/
namespace Go.M
open Go Go.V Go.RowKit
set_option linter.unusedSimpArgs false
set_option linter.unusedVariables false

section
variable {P : Program} {c : Cfg} {m : Mp} {h : H} {N : Nat} {w : World}

/-- What is known of a light operation. -/
def Light (P : Program) (m : Mp) (w : World) (h : H) (k : Nat) (s : Sem Next) (v : VV) (h' : H) : Prop :=
  h' = h ∧ (k = 0 → Pure P m s v) ∧ ∃ x, VR m v x ∧ s.run P w = .ok (.value x) w

theorem Light.pure {k : Nat} {s : Sem Next} {v : VV} {h' : H} (hp : h' = h ∧ Pure P m s v) : Light P m w h k s v h' := by
  obtain ⟨rfl, x, hx, hs⟩ := hp
  exact ⟨rfl, fun _ => ⟨x, hx, hs⟩, x, hx, hs w⟩

theorem onlyVal_light {r : R} {Qq : VV → H → Prop} (hr : ∀ v h', r = .val v h' → Qq v h') : (∃ s, onlyVal r = .no s) ∨ ∃ v h', onlyVal r = .val v h' ∧ Qq v h' := by
  unfold onlyVal
  split
  · exact .inr ⟨_, _, rfl, hr _ _ rfl⟩
  · exact .inl ⟨_, rfl⟩
  · exact .inl ⟨_, rfl⟩

theorem op_light (ok : CfgOk P c) (pk : PlainOk P c) (R : Rep N m h w) {e : T VV} {E : Env} (her : ER m e E) (op : Op) (hk : kdOp c op ≤ 1) (dst : Option Tmp) (ty : TypeId) (pos : String) (af : Array Edge) (gd : Option (Nat × Bool)) :
    (∃ s, xop op c e h = .no s) ∨ ∃ v h', xop op c e h = .val v h' ∧ Light P m w h (kdOp c op) (execOp (ev E) ⟨dst, op, ty, pos, af, gd⟩) v h' := by
  have hE : ∀ x, VR m (evo x e) (ev E x) := fun x => her.evo R.glob x
  have ho : ∀ o : Option Operand, ORel m (optMap (evv e) o) (o.map (ev E)) := fun o => by cases o with
    | none => exact .none
    | some x => exact .some (hE x)
  cases op <;> first | (simp [kdOp] at hk; done) | skip
  case move x => exact .inr ⟨_, _, rfl, .pure ⟨rfl, _, hE x, fun w => rfl⟩⟩
  case assign x => exact .inr ⟨_, _, rfl, .pure ⟨rfl, _, hE x, fun w => rfl⟩⟩
  case pick b x y => exact onlyVal_light fun v h' hr => .pure (pick_ok hr (hE b) (hE x) (hE y))
  case build t parts => exact onlyVal_light fun v h' hr => .pure (build_ok ok hE hr)
  case load t a =>
    refine onlyVal_light fun v h' hr => ?_
    obtain ⟨rfl, y, hy, hrun⟩ := load_ok ok R hr (hE a)
    refine ⟨rfl, fun h0 => absurd h0 (by simp [kdOp]), y, hy, ?_⟩
    simp only [execOp, Sem.run_bind, hrun, Result.andThen, pure_run]
  case nilCheck x => exact onlyVal_light fun v h' hr => .pure (nilCheck_ok hr rfl (hE x))
  case binOp op t x y u => exact onlyVal_light fun v h' hr => by obtain ⟨hb, rfl⟩ := optR_ok hr; exact .pure ⟨rfl, bin_ok ok pk hb (hE x) (hE y)⟩
  case unOp op t x => exact onlyVal_light fun v h' hr => by obtain ⟨hb, rfl⟩ := optR_ok hr; exact .pure ⟨rfl, un_ok hb (hE x)⟩
  case convert a b x =>
    have hi : isIntT c b = true := by
      cases hi : isIntT c b with
      | true => rfl
      | false => simp [kdOp, hi] at hk
    have hd : ∃ k, c.und b = some (.int k) := by
      unfold isIntT at hi
      split at hi
      · exact ⟨_, by assumption⟩
      · cases hi
    obtain ⟨k, hd⟩ := hd
    exact onlyVal_light fun v h' hr => .pure (conv_int ok hr (hE x) hd)
  case makeInterface t x => exact onlyVal_light fun v h' hr => .pure (makeInterface_ok ok hr (hE x))
  case makeFunc f first caps =>
    have := op_ok (N := N) (w := w) ok pk R her (.makeFunc f first caps) dst ty pos af gd
    cases f with
    | func g =>
      refine .inr ⟨_, _, rfl, .pure ⟨rfl, _, .fn (VRL.ops hE first.toList) (VRL.ops hE caps.toList), fun w => ?_⟩⟩
      simp only [execOp, Instr.makeFunc, Sem.run_bind, pure_run, Result.andThen]
      congr 3 <;> apply Array.ext' <;> simp
    | _ => exact .inl ⟨_, rfl⟩
  case slice t x lo hi mx => exact onlyVal_light fun v h' hr => .pure (slice_ok ok R hr (hE x) (ho lo) (ho hi) (ho mx))
  case fieldAddr t x f => exact onlyVal_light fun v h' hr => .pure (fieldAddr_ok ok hr (hE x))
  case field t x f => exact onlyVal_light fun v h' hr => .pure (field_ok ok hr (hE x))
  case indexAddr t x i => exact onlyVal_light fun v h' hr => .pure (indexAddr_ok ok hr (hE x) (hE i))
  case index t x i => exact onlyVal_light fun v h' hr => .pure (index_ok ok hr (hE x) (hE i))
  case typeAssert x a b cok => exact onlyVal_light fun v h' hr => .pure (assert_ok ok hr (hE x))
  case extract x i => exact onlyVal_light fun v h' hr => .pure (extract_ok hr (hE x))
  case call cl =>
    have hargs := VRL.ops hE cl.args.toList
    have harr : cl.args.map (ev E) = (cl.args.toList.map (ev E)).toArray := by apply Array.ext'; simp
    obtain ⟨callee, cargs, ctys⟩ := cl
    cases callee with
    | value f => simp [kdOp, kdCall] at hk
    | invoke r name => simp [kdOp, kdCall] at hk
    | builtin b =>
      refine onlyVal_light fun v h' hr => ?_
      have runs : ∀ (s : Sem Value), (∀ w, (execOp (ev E) ⟨dst, .call ⟨.builtin b, cargs, ctys⟩, ty, pos, af, gd⟩).run P w = (nval s).run P w) → ∀ y, VR m v y → h' = h → (∀ w, s.run P w = .ok y w) → Light P m w h (kdOp c (.call ⟨.builtin b, cargs, ctys⟩)) (execOp (ev E) ⟨dst, .call ⟨.builtin b, cargs, ctys⟩, ty, pos, af, gd⟩) v h' := by
        intro s hs y hy hh hrun
        exact .pure ⟨hh, y, hy, fun w => by rw [hs w]; simp [Sem.run_bind, hrun w, Result.andThen, pure_run]⟩
      have hr' : built c b ctys.toList (cargs.toList.map (evv e)) h = .val v h' := hr
      unfold built at hr'
      cases b <;> simp only [] at hr' <;> first | (simp [kdOp, kdCall] at hk; done) | skip
      · -- cap
        unfold bCap at hr'
        split at hr'
        · rename_i t x hts hxs
          have hta : ctys = #[t] := by apply Array.ext'; simpa using hts
          subst hta
          rw [hxs] at hargs
          cases hcv : capB c t x with
          | none => rw [hcv] at hr'; cases hr'
          | some u =>
            rw [hcv] at hr'
            cases hr'
            generalize hXs : cargs.toList.map (ev E) = Xs at hargs
            cases hargs with
            | @cons _ X _ _ hx h2 =>
            cases h2
            obtain ⟨y, hy, hrun⟩ := cap_ok (P := P) (ts := #[t]) (ty := ty) (args := #[X]) ok hcv hx rfl rfl
            refine runs (Builtin.cap_ #[t] ty #[X]) (fun w => ?_) y hy rfl hrun
            simp only [execOp, resolve, Sem.run_bind, pure_run, Result.andThen, invoke]
            rw [harr, hXs]
            simp only [builtin, Sem.run_bind]
            rfl
        · cases hr'
      · -- len
        unfold bLen at hr'
        split at hr'
        · rename_i t x hts hxs
          have hta : ctys = #[t] := by apply Array.ext'; simpa using hts
          subst hta
          rw [hxs] at hargs
          cases hcv : lenB c t x h with
          | none => rw [hcv] at hr'; cases hr'
          | some u =>
            rw [hcv] at hr'
            cases hr'
            generalize hXs : cargs.toList.map (ev E) = Xs at hargs
            cases hargs with
            | @cons _ X _ _ hx h2 =>
            cases h2
            obtain ⟨y, hy, _, hall⟩ := len_ok (P := P) (ts := #[t]) (ty := ty) (args := #[X]) ok R hcv hx rfl rfl
            have hseq : isSeqT c t = true := by
              cases hsq : isSeqT c t with
              | true => rfl
              | false => simp [kdOp, kdCall, hsq] at hk
            refine runs (Builtin.len_ #[t] ty #[X]) (fun w => ?_) y hy rfl (hall fun d hd => ?_)
            · simp only [execOp, resolve, Sem.run_bind, pure_run, Result.andThen, invoke]
              rw [harr, hXs]
              simp only [builtin, Sem.run_bind]
              rfl
            · unfold isSeqT at hseq
              rw [hd] at hseq
              cases d <;> first | rfl | (cases hseq)
        · cases hr'
      all_goals
        unfold bMM minmax at hr'
        split at hr'
        · rename_i u hm
          cases hr'
          split at hm
          · rename_i k n l hxs
            rw [hxs] at hargs
            generalize hXs : cargs.toList.map (ev E) = Xs at hargs
            cases hargs with
            | @cons _ X _ ys hx h2 =>
            cases hx
            obtain ⟨y, hy, hrun⟩ := mmFrom_ok (P := P) hm h2
            refine .pure ⟨rfl, y, hy, fun w => ?_⟩
            simp only [execOp, resolve, Sem.run_bind, pure_run, Result.andThen, invoke]
            rw [harr, hXs]
            have := hrun w
            simp only [builtin, Builtin.min_, Builtin.max_, Sem.run_bind]
            simp only [Bool.false_eq_true, if_false, if_true] at this
            simp [this, Result.andThen, pure_run]
          · cases hm
        · cases hr'
end
end Go.M
