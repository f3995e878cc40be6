/- The machine: calls, regions, code: what it computes is what the model computes. -/
import Derived.Test.YtaaeeabpbmigoaaGreatDoorVg
set_option linter.unusedVariables false
set_option linter.unusedSimpArgs false
/- The steps of the machine: control. -/
namespace Go.M
open Go Go.V Go.RowKit
set_option linter.unusedSimpArgs false
set_option linter.unusedVariables false

section
variable {P : Program} {c : Cfg} {N : Nat} {rec : Rec}

theorem goCt_ok {c : Cfg} (IH : SoundRec P c N rec) {ct : Ct} {e : T VV} {h : H} {v : VV} {l l' : List Out} (hl : (goCt ct rec e h v).list = some l') (hs : ∀ p ∈ l', p ∈ l)
    {m m' : Mp} {w w' : World} {E : Env} {dv : List Deferred} {r : Option Nat} {Fin : Post} {x : Value} (i : Nat) (hn : ct.f.n ≤ 4000) (hm : Mp.Le m m') (R : Rep N m' h w') (her : ER m e E) (hds : DSR m ct.ds dv) (hr : rOk m r ct.f.r)
    (hv : VR m' v x) (hb : Below N w w') (hc : Calm Fin) (hd : ct.md = true → ct.l = ct.ops.toList.drop i) (hxn : ct.x = none) (he : Ends N m w Fin l) :
    WOL ⟨P, r, ct.f.n, ct.ops, fun _ => True, kdM c ct.ops ct.md, Fin, ct.K⟩ i ct.l (upd ct.f.n E ct.d x) dv w' := by
  obtain ⟨md, f, ops, lo, K, ds, d, x⟩ := ct
  simp only at hxn
  subst hxn
  simp only [goCt] at hl
  rw [setO_eq] at hl
  simp only [goNx, goOps] at hl
  exact IH _ _ hl m' w' _ dv r Fin i hn R ((her.mono hm).set hv hn d) (hds.mono hm) (hr.mono hm) hc hd (he.go hm hb hs)

theorem notDefer {c : Cfg} {e : T VV} {h : H} {o : Oper} (hr : ∀ d h', xop o.op c e h ≠ .dfr d h') (hn : ∀ s, xop o.op c e h ≠ .no s) : Oper.isDefer o = false := by
  unfold Oper.isDefer
  cases hop : o.op with
  | defer cl =>
    exfalso
    rw [hop] at hr hn
    simp only [xop, oDefer, xDefer] at hr hn
    obtain ⟨callee, cargs, ctys⟩ := cl
    cases callee with
    | value f =>
      simp only [] at hr hn
      generalize evv e f = z at hr hn
      cases z with
      | fn fv first caps => cases fv <;> cases first <;> first | exact hr _ _ rfl | exact hn _ rfl
      | _ => exact hn _ rfl
    | _ => exact hn _ rfl
  | _ => rfl

theorem enter_ok (ok : CfgOk P c) (qk : QuietOk P c) (IH : SoundRec P c N rec) {g : FuncId} {args : List VV} {xs : List Value} {h : H} {k : VV → H → Outs} {l : List Out} (hl : (enterV c rec g args h k).list = some l)
    {m : Mp} {w : World} (R : Rep N m h w) (hx : VRL m args xs) {Rr : Ending → World → Prop}
    (hk : ∀ v h' l', (k v h').list = some l' → (∀ p ∈ l', p ∈ l) → ∀ m' x w', Mp.Le m m' → VR m' v x → Rep N m' h' w' → Below N w w' → Rr (.returned x) w') :
    (∃ fn, c.fns.get g = some fn ∧ fn.body.isSome = true) ∧ Calls P g xs.toArray w Rr := by
  have ext : (enterB c rec g args h k).list = some l ∨ ∃ F p, c.ext g = some F ∧ F args h = some p ∧ (k p.1 p.2).list = some l := by
    unfold enterV at hl
    cases hx : c.ext g with
    | none => rw [hx] at hl; exact .inl hl
    | some F =>
      rw [hx] at hl
      simp only [] at hl
      cases hF : F args h with
      | none => rw [hF] at hl; exact .inl hl
      | some p =>
        rw [hF] at hl
        simp only [forceV_eq] at hl
        exact .inr ⟨F, p, rfl, hF, hl⟩
  rcases ext with hl | ⟨F, p, hxg, hF, hl⟩
  case inr =>
    obtain ⟨hfn, hcl⟩ := qk.ext g F hxg args h p hF
    refine ⟨hfn, Calls.mono (hcl N m w xs R hx) fun e w' ⟨p', hp', m', x, k1, k2, k3, k4, k5⟩ => ?_⟩
    rw [List.mem_singleton] at hp'
    subst hp'
    subst k1
    exact hk _ _ l hl (fun p hp => hp) m' x w' k2 k3 k4 k5
  unfold enterB at hl
  cases hg : c.fns.get g with
  | none => rw [hg] at hl; cases hl
  | some fn =>
    rw [hg] at hl
    simp only [] at hl
    cases hb : fn.body with
    | none => rw [hb] at hl; cases hl
    | some body =>
      rw [hb] at hl
      simp only [] at hl
      cases hc : (Nat.ble args.length fn.ntmps && Nat.ble fn.ntmps 4000) with
      | false => rw [hc] at hl; cases hl
      | true =>
        rw [hc, cond_true] at hl
        simp only [Bool.and_eq_true, nat_ble, decide_eq_true_eq] at hc
        obtain ⟨lo, h1, h2⟩ := bindLeave_ok hl
        refine ⟨⟨fn, rfl, by rw [hb]; rfl⟩, ?_⟩
        have hlen := hx.length
        refine calls_of_wsM (ok.fns _ _ hg) hb (by simp; omega) ?_
        have her : ER m (envOf args 0 .leaf) (env0 xs.toArray.toList) := ER.env0 hx (by omega)
        refine IH _ _ h1 m w _ [] none (finM P fn Rr) hc.2 R her .nil rfl calm_finM ?_
        intro o ho m' E' dv' w' hm hR he hd hbel
        obtain ⟨hxo, v, h', v', h'', l', hlv, htn, hkl, hsub⟩ := h2 o ho
        have leave : ∀ a : Act, Agree fn.ntmps a E' → LeavesInM (fw none) 0 P fn a.tmps Rr dv' .returning w' := fun a ha =>
          leave_ok ok qk hlv hR he ha hd fun x w'' k1 k2 k3 => by
            obtain ⟨m2, t1, t2, t3⟩ := htn.ok R hm k2 k1
            exact hk v' h'' l' hkl hsub m2 x w'' t1 t2 t3 (hbel.trans k3)
        rcases hxo with hxo | hxo <;> rw [hxo] <;> exact leave

/-! loops -/
theorem loop_obj {m : Mp} {h : H} {w : World} {id : Nat} {q : Q} {st : LoopState} {pd : Option Code} {fn : FuncId} {n : Nat} {tmps : T VV} {ps : List Tmp} {as b : Code} {d : Nat} (R : Rep N m h w) (hg : h.get id = some (.loop st pd fn n tmps ps as b d)) (hq : m id = some q) :
    ∃ fn' arr q', w.heap[q.b]? = some (.loop ⟨st, pd, fn', arr, ps.toArray, as, b, q'.b⟩) ∧ arr.size = n ∧ (∀ t, VR m (orU (tmps.get t)) (arr.getD t undef)) ∧ m d = some q' := by
  obtain ⟨q2, ob, hq2, hb, ho⟩ := R.obj _ _ hg
  rw [hq] at hq2; cases hq2
  cases ho with
  | loop a b' c' => exact ⟨_, _, _, hb, a, b', c'⟩

theorem run_getLoop {w : World} {b : Nat} {lp : Loop} (hb : w.heap[b]? = some (.loop lp)) : (Instr.getLoop b).run P w = .ok lp w := by
  simp [Instr.getLoop, getObj, Sem.run_bind, Sem.run, Result.andThen, hb, Pure.pure, Sem.bind, bind]
theorem run_setLoop {w : World} {b : Nat} {lp : Loop} {o : Obj} (hb : w.heap[b]? = some (.loop lp)) : (setObj b o).run P w = .ok () { w with heap := w.heap.setIfInBounds b o } := by
  simp [setObj, Sem.run, hb]

/-- A loop's record is written. -/
theorem loop_write {m : Mp} {h : H} {w : World} {id : Nat} {q : Q} {st : LoopState} {pd : Option Code} {fn : FuncId} {n : Nat} {tmps : T VV} {ps : List Tmp} {as b : Code} {d : Nat} (st' : LoopState) (pd' : Option Code) (R : Rep N m h w) (hg : h.get id = some (.loop st pd fn n tmps ps as b d)) (hq : m id = some q) :
    ∃ lp, w.heap[q.b]? = some (.loop lp) ∧ lp.state = st ∧ lp.pending = pd ∧
      Rep N m ⟨h.t.put 20 id (.loop st' pd' fn n tmps ps as b d), h.next⟩ { w with heap := w.heap.setIfInBounds q.b (.loop { lp with state := st', pending := pd' }) } ∧
      Below N w { w with heap := w.heap.setIfInBounds q.b (.loop { lp with state := st', pending := pd' }) } := by
  obtain ⟨fn', arr, q', h1, h2, h3, h4⟩ := loop_obj R hg hq
  exact ⟨_, h1, rfl, rfl, R.write hg rfl hq (ob := .loop ⟨st', pd', fn', arr, ps.toArray, as, b, q'.b⟩) rfl (.loop h2 h3 h4), below_write R hg rfl hq (ob := .loop ⟨st', pd', fn', arr, ps.toArray, as, b, q'.b⟩) rfl rfl rfl rfl⟩

theorem params_ok {m : Mp} {n : Nat} (hn : n ≤ 4000) : ∀ (ps : List Tmp) (args : List VV) (xs : List Value), VRL m args xs → args.length = ps.length → ∀ (tmps : T VV) (arr : Array Value), arr.size = n → (∀ t, VR m (orU (tmps.get t)) (arr.getD t undef)) →
    ((ps.zip xs).foldl (fun tmps (p : Tmp × Value) => tmps.setIfInBounds p.1 p.2) arr).size = n ∧ ∀ t, VR m (orU ((setParams n ps args tmps).get t)) (((ps.zip xs).foldl (fun tmps (p : Tmp × Value) => tmps.setIfInBounds p.1 p.2) arr).getD t undef)
  | [], [], _, .nil, _, tmps, arr, hs, hr => ⟨hs, fun t => by simpa [setParams] using hr t⟩
  | [], _ :: _, _, _, hl, _, _, _, _ => by simp at hl
  | _ :: _, [], _, _, hl, _, _, _, _ => by simp at hl
  | p :: ps, v :: args, _, .cons (x := x) (xs := xs) hv hx, hl, tmps, arr, hs, hr => by
    have hl' : args.length = ps.length := by simpa using hl
    simp only [List.zip_cons_cons, List.foldl_cons]
    have hstep : setParams n (p :: ps) (v :: args) tmps = setParams n ps args (setT (some p) n tmps v) := by
      show (bif Nat.blt p n then T.setK 12 tmps p v fun e => setParams n ps args e else setParams n ps args tmps) = _
      unfold setT
      simp only []
      cases Nat.blt p n with
      | false => rfl
      | true => simp only [cond_true]; exact T.setK_eq ..
    rw [hstep]
    refine params_ok hn ps args xs hx hl' (setT (some p) n tmps v) (arr.setIfInBounds p x) (by simpa using hs) fun t => ?_
    have h1 := (ER.set (m := m) (E := fun t => arr.getD t undef) hr hv hn (some p)) t
    have h2 : upd n (fun t => arr.getD t undef) (some p) x t = (arr.setIfInBounds p x).getD t undef := by
      have := (Agree.put (n := n) (a := { tmps := arr, defers := [] }) (e := fun t => arr.getD t undef) ⟨hs, fun _ => rfl⟩ (some p) x).2 t
      exact this.symm
    rw [h2] at h1
    exact h1
end
end Go.M
/- The steps of the machine, all. -/
namespace Go.M
open Go Go.V Go.RowKit
set_option linter.unusedSimpArgs false
set_option linter.unusedVariables false

section
variable {P : Program} {c : Cfg} {N : Nat} {rec : Rec}

/-- A loud operation in the order of the text. -/
theorem woploud {C : RCtx} {i : Nat} {o : Oper} {next : Env → List Deferred → World → Prop} {E : Env} {dv : List Deferred} {w : World} (hS : C.S = fun _ => True) (hk : 2 ≤ C.kd i) (hw : wantedE C.ops E o = true) (hd : Oper.isDefer o = false)
    (hl : Loud C.P o E w (fun v w' => next (upd C.n E o.dst v) dv w') (fun _ _ => False)) : WOpO C i o next E dv w := by
  refine .inr ⟨hw, .inr (.inr (.inl ⟨hk, hd, ?_⟩))⟩
  unfold Loud at hl ⊢
  split at hl
  · exact ⟨by rw [hS]; trivial, hl⟩
  · exact ⟨by rw [hS]; trivial, hl⟩
  · refine Calls.mono hl fun x w'' hx => ?_
    cases x with
    | returned v => exact ⟨by rw [hS]; trivial, hx⟩
    | panicked ch => exact hx.elim
    | outgrown => exact hx
  · refine RoundIn.mono hl fun x w'' hx => ?_
    cases x with
    | returned v => exact ⟨by rw [hS]; trivial, hx⟩
    | panicked ch => exact hx.elim
    | outgrown => exact hx
  · exact hl.elim
  · exact hl

theorem round_ok (IH : SoundRec P c N rec) {lp : Nat} {args : List VV} {xs : List Value} {h : H} {k : VV → H → Outs} {l : List Out} (hl : (roundV rec lp args h k).list = some l) {m : Mp} {w : World} (R : Rep N m h w) {q : Q} (hq : m lp = some q) (hx : VRL m args xs) {Rr : Ending → World → Prop}
    (hk : ∀ v h' l', (k v h').list = some l' → (∀ p ∈ l', p ∈ l) → ∀ m' x w', Mp.Le m m' → VR m' v x → Rep N m' h' w' → Below N w w' → Rr (.returned x) w') :
    ∃ f tmps as b, (Instr.yield q.b xs.toArray).run P w = .ok (.round q.b f tmps as b) w ∧ RoundIn (fw none) 0 P q.b f tmps as b w Rr := by
  unfold roundV at hl
  cases hg : h.get lp with
  | none => rw [hg] at hl; cases hl
  | some o =>
    rw [hg] at hl
    cases o with
    | loop st pd fn n tmps ps as b d =>
      simp only [] at hl
      cases hc : (Nat.beq args.length ps.length && Nat.ble n 4000) with
      | false => rw [hc] at hl; cases hl
      | true =>
        rw [hc, cond_true] at hl
        simp only [Bool.and_eq_true, nat_beq, nat_ble, decide_eq_true_eq] at hc
        obtain ⟨fn', arr, q', h1, h2, h3, h4⟩ := loop_obj R hg hq
        obtain ⟨lo, g1, g2⟩ := bindOuts_ok hl
        obtain ⟨p1, p2⟩ := params_ok hc.2 ps args xs hx hc.1 tmps arr h2 h3
        have hlen := hx.length
        refine ⟨fn', (ps.zip xs).foldl (fun tmps (p : Tmp × Value) => tmps.setIfInBounds p.1 p.2) arr, as, b, ?_, ?_⟩
        · have hsz : xs.toArray.size = ps.toArray.size := by simp; omega
          simp only [Instr.yield, Sem.run_bind, run_getLoop h1, Result.andThen]
          rw [if_neg (by simp [hsz])]
          simp only [pure_run]
          congr 2
          rw [← Array.foldl_toList]
          simp
        · refine round_of_ws p1 ?_
          refine IH _ _ g1 m w _ [] (some q.b) (finR P q.b Rr) hc.2 R p2 .nil ⟨q, hq, rfl⟩ calm_finR ?_
          intro o ho m' E' dv' w' hm hR he hd hbel
          obtain ⟨l', g3, g4⟩ := g2 o ho
          unfold roundEnd at g3
          cases hds : o.ds with
          | cons => rw [hds] at g3; cases g3
          | nil =>
            rw [hds] at g3
            simp only [endRoundV] at g3
            split at g3
            · rename_i st2 pd2 fn2 n2 tmps2 ps2 as2 b2 d2 hg2
              rw [H.setK_eq] at g3
              have fin : ∀ (jump : Option Code), (k (b2v jump.isNone) ⟨o.h.t.put 20 lp (.loop (if jump.isNone then .ready else .done) jump fn2 n2 tmps2 ps2 as2 b2 d2), o.h.next⟩).list = some l' →
                  ∃ v w'', (Instr.endRound q.b jump).run P w' = .ok v w'' ∧ Rr (.returned v) w'' := by
                intro jump hj
                obtain ⟨lpr, e1, e2, e3, e4, e5⟩ := loop_write (if jump.isNone then .ready else .done) jump hR hg2 (hm _ _ hq)
                refine ⟨.bool jump.isNone, _, ?_, hk _ _ _ hj g4 m' _ _ hm (.lit _) e4 (hbel.trans e5)⟩
                simp only [Instr.endRound, Sem.run_bind, run_getLoop e1, run_setLoop e1, Result.andThen, pure_run]
              cases hxo : o.x with
              | normal => rw [hxo] at g3; exact fin none g3
              | ret => rw [hxo] at g3; exact fin (some .ret) g3
              | exit id => rw [hxo] at g3; exact fin (some (.exit id)) g3
            · cases g3
    | _ => cases hl

set_option maxHeartbeats 1000000 in
theorem ops_ok (ok : CfgOk P c) (pk : PlainOk P c) (qk : QuietOk P c) (IH : SoundRec P c N rec) {md : Bool} {f : Fr} {ops : Array Oper} {lo : List Oper} {K : List Item} {e : T VV} {ds : List VD} {h : H} {l : List Out} (hl : (opsF lo c rec md f ops K e ds h).list = some l) :
    Sound P c N (.ops md f ops lo K e ds h) l := by
  intro m w E dv r Fin i hn R her hds hr hcm hdrop he
  cases lo with
  | nil => exact IH _ _ hl m w E dv r Fin hn R her hds hr hcm he
  | cons o lo =>
    have hl' : (bif wantedV o.guard ops e then opDo o ⟨md, f, ops, lo, K, ds, o.dst, none⟩ c rec e h else goCt ⟨md, f, ops, lo, K, ds, o.dst, none⟩ rec e h uv).list = some l := hl
    have hw := wanted_ok her o (ops := ops)
    have hdrop' : md = true → lo = ops.toList.drop (i + 1) := fun hm => by
      have := hdrop hm
      rw [← List.tail_drop, ← this]; rfl
    have hoi : md = true → ops[i]? = some o := fun hm => by
      have := hdrop hm
      rw [← Array.getElem?_toList]
      have h1 := congrArg (fun l => l[0]?) this
      simpa using h1.symm
    show WOpO _ i o (WOL _ (i + 1) lo) E dv w
    cases hwv : wantedV o.guard ops e with
    | false =>
      rw [hwv, cond_false] at hl'
      refine .inl ⟨by rw [hw, hwv], ?_⟩
      exact goCt_ok IH (ct := ⟨md, f, ops, lo, K, ds, o.dst, none⟩) hl' (fun p hp => hp) (i + 1) hn (.refl m) R her hds hr (.lit _) (.refl N w) hcm hdrop' rfl he
    | true =>
      rw [hwv, cond_true] at hl'
      have hwt : wantedE ops E o = true := by rw [hw, hwv]
      unfold opDo at hl'
      obtain ⟨dst, op, ty, pos, af, gd⟩ := o
      have hop := op_ok ok pk R her op dst ty pos af gd
      simp only [] at hl'
      have hnd := notDefer (c := c) (e := e) (h := h) (o := ⟨dst, op, ty, pos, af, gd⟩)
      simp only [] at hnd
      by_cases hlt : md = true ∧ kdOp c op ≤ 1
      · obtain ⟨hmd, hk1⟩ := hlt
        have hkd : kdM c ops md i = kdOp c op := by
          rw [hmd]
          show kdC c ops i = _
          unfold kdC; rw [hoi hmd]
        rcases op_light (N := N) (w := w) ok pk R her op hk1 dst ty pos af gd with ⟨s, hs⟩ | ⟨v, h', hv, rfl, hpure, x, hxr, hrun⟩
        · rw [hs] at hl'; cases hl'
        · have hnd' := hnd (by rw [hv]; simp) (by rw [hv]; simp)
          rw [hv] at hl'
          simp only [resF, rVal, forceV_eq] at hl'
          by_cases hk0 : kdOp c op = 0
          · obtain ⟨y, hy, hys⟩ := hpure hk0
            have hyx : y = x := by have := hys w; rw [hrun] at this; cases this; rfl
            subst hyx
            exact .inr ⟨hwt, .inl ⟨y, fun w' _ => hys w', hnd', goCt_ok IH (ct := ⟨md, f, ops, lo, K, ds, dst, none⟩) hl' (fun p hp => hp) (i + 1) hn (.refl m) R her hds hr hy (.refl N w) hcm hdrop' rfl he⟩⟩
          · exact .inr ⟨hwt, .inr (.inl ⟨by show 1 ≤ kdM c ops md i; rw [hkd]; omega, x, hrun, hnd', goCt_ok IH (ct := ⟨md, f, ops, lo, K, ds, dst, none⟩) hl' (fun p hp => hp) (i + 1) hn (.refl m) R her hds hr hxr (.refl N w) hcm hdrop' rfl he⟩)⟩
      have hk2 : 2 ≤ kdM c ops md i := by
        cases md with
        | false => exact (by decide : 2 ≤ 3)
        | true =>
          show 2 ≤ kdC c ops i
          unfold kdC; rw [hoi rfl]
          simp only [true_and, Nat.not_le] at hlt
          exact hlt
      cases hx : xop op c e h with
      | no s => rw [hx] at hl'; cases hl'
      | val v h' =>
        rw [hx] at hl' hop
        simp only [resF, rVal, forceV_eq] at hl'
        obtain ⟨m', x, w', a1, a2, a3, a4, a5⟩ := hop
        refine woploud rfl hk2 hwt (hnd (by rw [hx]; simp) (by rw [hx]; simp)) ?_
        unfold Loud
        rw [a2]
        exact goCt_ok IH (ct := ⟨md, f, ops, lo, K, ds, dst, none⟩) hl' (fun p hp => hp) (i + 1) hn a1 a4 her hds hr a3 a5 hcm hdrop' rfl he
      | nov h' =>
        rw [hx] at hl' hop
        simp only [resF, rNov] at hl'
        obtain ⟨m', w', a1, a2, a4, a5⟩ := hop
        refine woploud rfl hk2 hwt (hnd (by rw [hx]; simp) (by rw [hx]; simp)) ?_
        unfold Loud
        rw [a2]
        exact goCt_ok IH (ct := ⟨md, f, ops, lo, K, ds, dst, none⟩) hl' (fun p hp => hp) (i + 1) hn a1 a4 her hds hr (.lit _) a5 hcm hdrop' rfl he
      | call g args h' =>
        rw [hx] at hl' hop
        simp only [resF, rCall] at hl'
        obtain ⟨rfl, xs, b1, b2⟩ := hop
        obtain ⟨⟨fn, hg, hbd⟩, hcalls⟩ := enter_ok (P := P) (N := N) ok qk IH hl' R b1 (Rr := fun e w' => ∃ x, e = .returned x ∧ WOL ⟨P, r, f.n, ops, fun _ => True, kdM c ops md, Fin, K⟩ (i + 1) lo (upd f.n E dst x) dv w')
          (fun v h' l' hkl hsub m' x w' k1 k2 k3 k4 => ⟨x, rfl, goCt_ok IH (ct := ⟨md, f, ops, lo, K, ds, dst, none⟩) hkl hsub (i + 1) hn k1 k3 her hds hr k2 k4 hcm hdrop' rfl he⟩)
        refine woploud rfl hk2 hwt (hnd (by rw [hx]; simp) (by rw [hx]; simp)) ?_
        unfold Loud
        rw [b2 fn hg hbd]
        refine Calls.mono hcalls fun x w'' hxx => ?_
        obtain ⟨y, rfl, hy⟩ := hxx
        exact hy
      | round lp args h' =>
        rw [hx] at hl' hop
        simp only [resF, rRound] at hl'
        obtain ⟨rfl, q, xs, b0, b1, b2⟩ := hop
        obtain ⟨fn', tmps, as, b, hy, hround⟩ := round_ok (P := P) (N := N) IH hl' R b0 b1 (Rr := fun e w' => ∃ x, e = .returned x ∧ WOL ⟨P, r, f.n, ops, fun _ => True, kdM c ops md, Fin, K⟩ (i + 1) lo (upd f.n E dst x) dv w')
          (fun v h' l' hkl hsub m' x w' k1 k2 k3 k4 => ⟨x, rfl, goCt_ok IH (ct := ⟨md, f, ops, lo, K, ds, dst, none⟩) hkl hsub (i + 1) hn k1 k3 her hds hr k2 k4 hcm hdrop' rfl he⟩)
        refine woploud rfl hk2 hwt (hnd (by rw [hx]; simp) (by rw [hx]; simp)) ?_
        unfold Loud
        rw [b2, hy]
        refine RoundIn.mono hround fun x w'' hxx => ?_
        obtain ⟨y, rfl, hy⟩ := hxx
        exact hy
      | dfr d h' =>
        rw [hx] at hl' hop
        simp only [resF, rDfr] at hl'
        obtain ⟨rfl, dd, b1, b2⟩ := hop
        cases hfr : f.r with
        | some _ => rw [hfr] at hl'; cases hl'
        | none =>
          rw [hfr] at hl'
          simp only [] at hl'
          have hr0 : r = none := by rw [hfr] at hr; exact hr
          cases md with
          | true => cases hl'
          | false =>
          refine .inr ⟨hwt, .inr (.inr (.inr ⟨Nat.le_refl _, hr0, dd, b2, ?_⟩))⟩
          have := goCt_ok IH (ct := ⟨false, f, ops, lo, K, d :: ds, dst, none⟩) (dv := dd :: dv) hl' (fun p hp => hp) (i + 1) hn (.refl m) R her (.cons b1 hds) hr (.lit _) (.refl N w) hcm hdrop' rfl he
          exact this
      | alts al =>
        rw [hx] at hl' hop
        simp only [resF, rAlts] at hl'
        obtain ⟨p, hp, m', x, w', a1, a2, a3, a4, a5⟩ := hop
        obtain ⟨l', c1, c2⟩ := joinOuts_ok hl' _ (List.mem_map.2 ⟨p, hp, rfl⟩)
        refine woploud rfl hk2 hwt (hnd (by rw [hx]; simp) (by rw [hx]; simp)) ?_
        unfold Loud
        rw [a2]
        exact goCt_ok IH (ct := ⟨md, f, ops, lo, K, ds, dst, none⟩) c1 c2 (i + 1) hn a1 a4 her hds hr a3 a5 hcm hdrop' rfl he
end
end Go.M
/- The steps of a region that draws, in every order. -/
namespace Go.M
open Go Go.V Go.RowKit
set_option linter.unusedSimpArgs false
set_option linter.unusedVariables false

section
variable {P : Program} {c : Cfg} {N : Nat} {rec : Rec}

/-- A loud operation of a region. -/
theorem woploudX {C : RCtx} {i : Nat} {o : Oper} {next : Env → List Deferred → World → Prop} {E : Env} {dv : List Deferred} {w : World} (ho : C.ops[i]? = some o) (hk : 2 ≤ C.kd i) (hw : wantedE C.ops E o = true) (hd : Oper.isDefer o = false)
    (hl : Loud C.P o E w (fun v w' => C.S w' ∧ next (upd C.n E o.dst v) dv w') (fun _ _ => False)) : WOp C i next E dv w := by
  refine ⟨o, ho, .inr ⟨hw, .inr (.inr (.inl ⟨hk, hd, ?_⟩))⟩⟩
  unfold Loud at hl ⊢
  split at hl
  · exact hl
  · exact hl
  · refine Calls.mono hl fun x w'' hx => ?_
    cases x with
    | returned v => exact hx
    | panicked ch => exact hx.elim
    | outgrown => exact hx
  · refine RoundIn.mono hl fun x w'' hx => ?_
    cases x with
    | returned v => exact hx
    | panicked ch => exact hx.elim
    | outgrown => exact hx
  · exact hl.elim
  · exact hl

/-- What a region must grant at its ends. -/
def EndsX (N : Nat) (m : Mp) (w : World) (Done : Env → List Deferred → World → Prop) (l : List Out) : Prop :=
  ∀ o ∈ l, ∀ (m' : Mp) (E' : Env) (dv' : List Deferred) (w' : World), Mp.Le m m' → Rep N m' o.h w' → ER m' o.e E' → DSR m' o.ds dv' → Below N w w' → Done E' dv' w'
theorem EndsX.go {Done : Env → List Deferred → World → Prop} {m m' : Mp} {w w' : World} {l l' : List Out} (he : EndsX N m w Done l) (hm : Mp.Le m m') (hb : Below N w w') (hs : ∀ o ∈ l', o ∈ l) : EndsX N m' w' Done l' :=
  fun o ho m2 E2 dv2 w2 h1 h2 h3 h4 h5 => he o (hs o ho) m2 E2 dv2 w2 (hm.trans h1) h2 h3 h4 (hb.trans h5)

theorem goCtX_ok (IH : SoundRec P c N rec) {x : XR} {i : Nat} {todo : List Nat} {dst : Option Tmp} {e : T VV} {ds : List VD} {h : H} {v : VV} {l l' : List Out} (hl : (goCt ⟨true, x.f, x.ops, [], [], ds, dst, some (x, without i todo)⟩ rec e h v).list = some l') (hs : ∀ p ∈ l', p ∈ l)
    {m0 m m' : Mp} {w w' : World} {E : Env} {dv : List Deferred} {r : Option Nat} {Fin : Post} {K : List Item} {Done : Env → List Deferred → World → Prop} {y : Value} (hn : x.f.n ≤ 4000) (hm0 : Mp.Le m0 m) (hsl : SL0 m0 x.L) (hnd : todo.Nodup)
    (hm : Mp.Le m m') (R : Rep N m' h w') (her : ER m e E) (hds : DSR m ds dv) (hr : rOk m r x.f.r) (hv : VR m' v y) (hb : Below N w w') (hc : Calm Fin) (he : EndsX N m w Done l) :
    SL m0 x.L w' ∧ WT ⟨P, r, x.f.n, x.ops, SL m0 x.L, kdL x.lt, Fin, K⟩ Done (without i todo).length (without i todo) (upd x.f.n E dst y) dv w' := by
  simp only [goCt] at hl
  rw [setO_eq] at hl
  simp only [goNx, goXr] at hl
  cases hck : chkL h x.L with
  | false => rw [hck] at hl; cases hl
  | true =>
    rw [hck, cond_true] at hl
    exact ⟨SL.of R (hm0.trans hm) hck, IH _ _ hl m0 m' w' _ dv r Fin K Done hn (hm0.trans hm) hsl hck (List.Pairwise.filter _ hnd) R ((her.mono hm).set hv hn dst) (hds.mono hm) (hr.mono hm) hc (he.go hm hb hs)⟩

theorem xrNext_rep {m : Mp} {x : XR} {i : Nat} {h : H} {w : World} (R : Rep N m h w) : Rep N m (xrNext x i h) w := by
  unfold xrNext
  cases Nat.beq x.base 0 with
  | true => exact R
  | false => exact R.next _
theorem xrEnd_rep {m : Mp} {x : XR} {h : H} {w : World} (R : Rep N m h w) : Rep N m (xrEnd x h) w := by
  unfold xrEnd
  cases Nat.beq x.base 0 with
  | true => exact R
  | false => exact R.next _
theorem chkL_next {x : XR} {i : Nat} {h : H} : ∀ {L : List (Nat × VO)}, chkL h L = true → chkL (xrNext x i h) L = true := by
  intro L
  have : ∀ j, (xrNext x i h).get j = h.get j := by
    intro j; unfold xrNext
    cases Nat.beq x.base 0 <;> rfl
  induction L with
  | nil => exact fun _ => rfl
  | cons p L ih =>
    intro hc
    simp only [chkL, Bool.and_eq_true, this] at hc ⊢
    exact ⟨hc.1, ih hc.2⟩

theorem memN_kdL {i : Nat} {lt : List Nat} (h : memN i lt = true) : kdL lt i = 0 := by unfold kdL; rw [h]; rfl
theorem kdL_le (lt : List Nat) (i : Nat) : kdL lt i ≤ 2 := by unfold kdL; cases memN i lt <;> simp

set_option maxHeartbeats 1000000 in
theorem xrOp_ok (ok : CfgOk P c) (pk : PlainOk P c) (qk : QuietOk P c) (IH : SoundRec P c N rec) {x : XR} {i : Nat} {todo : List Nat} {e : T VV} {ds : List VD} {h : H} {l l' : List Out} (hl' : (xrOp x i todo c rec e ds h).list = some l') (hs : ∀ p ∈ l', p ∈ l)
    {m0 m : Mp} {w : World} {E : Env} {dv : List Deferred} {r : Option Nat} {Fin : Post} {K : List Item} {Done : Env → List Deferred → World → Prop} (hn : x.f.n ≤ 4000) (hm0 : Mp.Le m0 m) (hsl : SL0 m0 x.L) (hck : chkL h x.L = true) (hnd : todo.Nodup)
    (R : Rep N m h w) (her : ER m e E) (hds : DSR m ds dv) (hr : rOk m r x.f.r) (hcm : Calm Fin) (he : EndsX N m w Done l) :
    WOp ⟨P, r, x.f.n, x.ops, SL m0 x.L, kdL x.lt, Fin, K⟩ i (WT ⟨P, r, x.f.n, x.ops, SL m0 x.L, kdL x.lt, Fin, K⟩ Done (without i todo).length (without i todo)) E dv w := by
  unfold xrOp at hl'
  cases ho : x.ops[i]? with
  | none => rw [ho] at hl'; cases hl'
  | some o =>
    rw [ho] at hl'
    simp only [] at hl'
    have hw := wanted_ok her o (ops := x.ops)
    cases hwv : wantedV o.guard x.ops e with
    | false =>
      rw [hwv, cond_false] at hl'
      exact ⟨o, ho, .inl ⟨by rw [hw, hwv], (goCtX_ok IH hl' hs hn hm0 hsl hnd (.refl m) R her hds hr (.lit _) (.refl N w) hcm he).2⟩⟩
    | true =>
      rw [hwv, cond_true] at hl'
      have hwt : wantedE x.ops E o = true := by rw [hw, hwv]
      cases hrd : rdOk c x i e h o.op with
      | false => rw [hrd] at hl'; cases hl'
      | true =>
        rw [hrd, cond_true] at hl'
        unfold opDo at hl'
        obtain ⟨dst, op, ty, pos, af, gd⟩ := o
        simp only [] at hl'
        have Rn : Rep N m (xrNext x i h) w := xrNext_rep R
        have hckn : chkL (xrNext x i h) x.L = true := chkL_next hck
        generalize hhn : xrNext x i h = hN at hl' Rn hckn
        have hop := op_ok ok pk Rn her op dst ty pos af gd
        have hnd' := notDefer (c := c) (e := e) (h := hN) (o := ⟨dst, op, ty, pos, af, gd⟩)
        simp only [] at hnd'
        cases hlt : memN i x.lt with
        | true =>
          unfold rdOk at hrd
          rw [hlt, cond_true, Bool.and_eq_true] at hrd
          have hk0 : kdXOp c op = 0 := Nat.eq_of_beq_eq_true hrd.1
          have hrd2 : rdOk0 c x.L e hN op = true := by
            have hrd' := hrd.2
            simp only [] at hrd'
            -- the state differs in its next number alone
            have hsame : ∀ id, rdOf e op = some id → isVal (xop op c e hN) = isVal (xop op c e h) := by
              intro id hid
              cases op with
              | load t a =>
                subst hhn
                have h1 : ∀ hh : H, xop (.load t a) c e hh = onlyVal (xLoad c hh t (evo a e)) := fun _ => rfl
                rw [h1, h1]
                unfold xrNext
                cases Nat.beq x.base 0 with
                | true => rfl
                | false =>
                  simp only [cond_false]
                  unfold xLoad loadRow
                  cases evo a e with
                  | ptr id off =>
                    simp only []
                    have : rowOf ⟨h.t, x.base + 256 * i⟩ id = rowOf h id := rfl
                    rw [this]
                    cases rowOf h id with
                    | none => rfl
                    | some rr =>
                      simp only [optR]
                      cases partR c t rr off <;> rfl
                  | _ => rfl
              | convert a b y =>
                subst hhn
                have h1 : ∀ hh : H, xop (.convert a b y) c e hh = onlyVal (convV c a b (evo y e) hh) := fun _ => rfl
                rw [h1, h1]
                have hstr : c.und b = some .string ∨ ∃ k, c.und b = some (.int k) := by
                  have hi : (isIntT c b || isStrTy c b) = true := by
                    cases hi : (isIntT c b || isStrTy c b) with
                    | true => rfl
                    | false => simp [kdXOp, hi] at hk0
                  rw [Bool.or_eq_true] at hi
                  rcases hi with hi | hi
                  · unfold isIntT at hi
                    split at hi
                    · exact .inr ⟨_, by assumption⟩
                    · cases hi
                  · unfold isStrTy at hi
                    split at hi
                    · exact .inl (by assumption)
                    · cases hi
                unfold xrNext
                cases Nat.beq x.base 0 with
                | true => rfl
                | false =>
                  simp only [cond_false]
                  unfold convV
                  cases c.und a with
                  | none => rfl
                  | some ad =>
                    rcases hstr with hb | ⟨k, hb⟩ <;> rw [hb] <;> simp only []
                    · unfold convStr
                      cases evo y e with
                      | sl id off len cap ex =>
                        simp only []
                        cases isSlU8 c ad with
                        | false => rfl
                        | true =>
                          simp only [cond_true, convBytes]
                          have : rowOf ⟨h.t, x.base + 256 * i⟩ id = rowOf h id := rfl
                          rw [this]
                          cases rowOf h id with
                          | none => rfl
                          | some rr =>
                            simp only []
                            cases Nat.ble (off + len) rr.n with
                            | false => rfl
                            | true =>
                              simp only [cond_true]
                              cases getN rr.t off len with
                              | none => rfl
                              | some ll =>
                                simp only []
                                cases litBytes ll <;> rfl
                      | lit u => cases u <;> first | rfl | (rename_i aa nn mm; cases aa <;> first | rfl | (simp only []; cases isSlU8 c ad <;> rfl))
                      | emp => simp only []; cases isSlU8 c ad <;> rfl
                      | _ => rfl
                    · unfold convInt
                      cases evo y e with
                      | lit u => cases u <;> rfl
                      | _ => rfl
              | _ => cases hid
            unfold rdOk0 at hrd' ⊢
            cases hro : rdOf e op with
            | none => rfl
            | some id =>
              rw [hro] at hrd'
              simp only [] at hrd' ⊢
              rw [hsame id hro]; exact hrd'
          rcases light_S (N := N) (w := w) ok pk Rn hm0 hckn hsl her op hk0 hrd2 dst ty pos af gd with ⟨s, hsn⟩ | ⟨v, hv, y, hy, hall⟩
          · rw [hsn] at hl'; cases hl'
          · have hnd2 := hnd' (by rw [hv]; simp) (by rw [hv]; simp)
            rw [hv] at hl'
            simp only [resF, rVal, forceV_eq] at hl'
            exact ⟨⟨dst, op, ty, pos, af, gd⟩, ho, .inr ⟨hwt, .inl ⟨y, hall, hnd2, (goCtX_ok IH hl' hs hn hm0 hsl hnd (.refl m) Rn her hds hr hy (.refl N w) hcm he).2⟩⟩⟩
        | false =>
          have hk2 : 2 ≤ kdL x.lt i := by unfold kdL; rw [hlt]; exact Nat.le_refl _
          cases hx : xop op c e hN with
          | no s => rw [hx] at hl'; cases hl'
          | val v h' =>
            rw [hx] at hl' hop
            simp only [resF, rVal, forceV_eq] at hl'
            obtain ⟨m', y, w', a1, a2, a3, a4, a5⟩ := hop
            refine woploudX ho hk2 hwt (hnd' (by rw [hx]; simp) (by rw [hx]; simp)) ?_
            unfold Loud
            rw [a2]
            exact goCtX_ok IH hl' hs hn hm0 hsl hnd a1 a4 her hds hr a3 a5 hcm he
          | nov h' =>
            rw [hx] at hl' hop
            simp only [resF, rNov] at hl'
            obtain ⟨m', w', a1, a2, a4, a5⟩ := hop
            refine woploudX ho hk2 hwt (hnd' (by rw [hx]; simp) (by rw [hx]; simp)) ?_
            unfold Loud
            rw [a2]
            exact goCtX_ok IH hl' hs hn hm0 hsl hnd a1 a4 her hds hr (.lit _) a5 hcm he
          | call g args h' =>
            rw [hx] at hl' hop
            simp only [resF, rCall] at hl'
            obtain ⟨rfl, xs, b1, b2⟩ := hop
            obtain ⟨⟨fn, hg, hbd⟩, hcalls⟩ := enter_ok (P := P) (N := N) ok qk IH hl' Rn b1 (Rr := fun ee w' => ∃ y, ee = .returned y ∧ SL m0 x.L w' ∧ WT ⟨P, r, x.f.n, x.ops, SL m0 x.L, kdL x.lt, Fin, K⟩ Done (without i todo).length (without i todo) (upd x.f.n E dst y) dv w')
              (fun v h' l'' hkl hsub m' y w' k1 k2 k3 k4 => ⟨y, rfl, goCtX_ok IH hkl (fun p hp => hs p (hsub p hp)) hn hm0 hsl hnd k1 k3 her hds hr k2 k4 hcm he⟩)
            refine woploudX ho hk2 hwt (hnd' (by rw [hx]; simp) (by rw [hx]; simp)) ?_
            unfold Loud
            rw [b2 fn hg hbd]
            refine Calls.mono hcalls fun ee w'' hxx => ?_
            obtain ⟨y, rfl, hy⟩ := hxx
            exact hy
          | round lp args h' =>
            rw [hx] at hl' hop
            simp only [resF, rRound] at hl'
            obtain ⟨rfl, q, xs, b0, b1, b2⟩ := hop
            obtain ⟨fn', tmps, as, b, hy, hround⟩ := round_ok (P := P) (N := N) IH hl' Rn b0 b1 (Rr := fun ee w' => ∃ y, ee = .returned y ∧ SL m0 x.L w' ∧ WT ⟨P, r, x.f.n, x.ops, SL m0 x.L, kdL x.lt, Fin, K⟩ Done (without i todo).length (without i todo) (upd x.f.n E dst y) dv w')
              (fun v h' l'' hkl hsub m' y w' k1 k2 k3 k4 => ⟨y, rfl, goCtX_ok IH hkl (fun p hp => hs p (hsub p hp)) hn hm0 hsl hnd k1 k3 her hds hr k2 k4 hcm he⟩)
            refine woploudX ho hk2 hwt (hnd' (by rw [hx]; simp) (by rw [hx]; simp)) ?_
            unfold Loud
            rw [b2, hy]
            refine RoundIn.mono hround fun ee w'' hxx => ?_
            obtain ⟨y, rfl, hy⟩ := hxx
            exact hy
          | dfr d h' =>
            rw [hx] at hl'
            simp only [resF, rDfr] at hl'
            cases hfr : x.f.r <;> rw [hfr] at hl' <;> cases hl'
          | alts al =>
            rw [hx] at hl' hop
            simp only [resF, rAlts] at hl'
            obtain ⟨p, hp, m', y, w', a1, a2, a3, a4, a5⟩ := hop
            obtain ⟨l'', c1, c2⟩ := joinOuts_ok hl' _ (List.mem_map.2 ⟨p, hp, rfl⟩)
            refine woploudX ho hk2 hwt (hnd' (by rw [hx]; simp) (by rw [hx]; simp)) ?_
            unfold Loud
            rw [a2]
            exact goCtX_ok IH c1 (fun o ho => hs o (c2 o ho)) hn hm0 hsl hnd a1 a4 her hds hr a3 a5 hcm he

theorem firstLight_ok {lt : List Nat} : ∀ {l : List Nat} {i : Nat}, firstLight lt l = some i → i ∈ l ∧ memN i lt = true
  | [], _, h => by cases h
  | j :: l, i, h => by
    simp only [firstLight] at h
    cases hj : memN j lt with
    | true => rw [hj] at h; cases h; exact ⟨List.mem_cons_self, hj⟩
    | false =>
      rw [hj] at h
      obtain ⟨a, b⟩ := firstLight_ok h
      exact ⟨List.mem_cons_of_mem _ a, b⟩

theorem xr_ok (ok : CfgOk P c) (pk : PlainOk P c) (qk : QuietOk P c) (IH : SoundRec P c N rec) {x : XR} {todo : List Nat} {e : T VV} {ds : List VD} {h : H} {l : List Out} (hl : (cXr x todo e ds h c rec).list = some l) :
    Sound P c N (.xr x todo e ds h) l := by
  intro m0 m w E dv r Fin K Done hn hm0 hsl hck hnd R her hds hr hcm he
  cases todo with
  | nil =>
    cases hl
    exact ⟨rfl, he _ (List.mem_singleton.2 rfl) m E dv w (.refl m) (xrEnd_rep R) her hds (.refl N w)⟩
  | cons i0 rest =>
    have hl' : (xrPick x (i0 :: rest) (enOf x.ops (i0 :: rest)) c rec e ds h).list = some l := hl
    show WT _ Done (rest.length + 1) (i0 :: rest) E dv w
    have hlen : ∀ i ∈ enOf x.ops (i0 :: rest), (without i (i0 :: rest)).length = rest.length := by
      intro i hi
      have := length_without hnd (mem_enOf.1 hi).1
      simp only [List.length_cons] at this
      omega
    unfold xrPick at hl'
    cases hf : firstLight x.lt (enOf x.ops (i0 :: rest)) with
    | some i =>
      rw [hf] at hl'
      obtain ⟨hi, hm⟩ := firstLight_ok hf
      refine .inl ⟨i, hi, memN_kdL hm, ?_⟩
      have := xrOp_ok ok pk qk IH (K := K) hl' (fun p hp => hp) hn hm0 hsl hck hnd R her hds hr hcm he
      rw [hlen i hi] at this
      exact this
    | none =>
      rw [hf] at hl'
      simp only [] at hl'
      unfold xrAll at hl'
      cases hen : enOf x.ops (i0 :: rest) with
      | nil => rw [hen] at hl'; cases hl'
      | cons a as =>
        refine .inr ⟨by show enOf x.ops (i0 :: rest) ≠ []; rw [hen]; simp, fun i hi => ?_⟩
        have hi' : i ∈ a :: as := by rw [← hen]; exact hi
        rw [hen] at hl'
        cases as with
        | nil =>
          rw [List.mem_singleton] at hi'
          subst hi'
          have := xrOp_ok ok pk qk IH (K := K) hl' (fun p hp => hp) hn hm0 hsl hck hnd R her hds hr hcm he
          rw [hlen i hi] at this
          exact this
        | cons b bs =>
          simp only [] at hl'
          obtain ⟨l2, c1, c2⟩ := joinOuts_ok hl' _ (List.mem_map.2 ⟨i, hi', rfl⟩)
          cases hb0 : Nat.beq x.base 0 with
          | true =>
            rw [hb0, cond_true] at c1
            have := xrOp_ok ok pk qk IH (K := K) (x := ⟨h.next, x.L, x.lt, x.ops, x.f⟩) c1 c2 hn hm0 hsl hck hnd R her hds hr hcm he
            rw [hlen i hi] at this
            exact this
          | false =>
            rw [hb0, cond_false] at c1
            have := xrOp_ok ok pk qk IH (K := K) c1 c2 hn hm0 hsl hck hnd R her hds hr hcm he
            rw [hlen i hi] at this
            exact this

/-! the outcomes of a region, brought together -/
theorem vdEq_eq {a b : VD} (h : vdEq a b = true) : a = b := by
  cases a <;> cases b <;> first | cases h | skip
  · simp only [vdEq] at h; rw [nEq_eq h]
  · simp only [vdEq, Bool.and_eq_true] at h
    rw [nEq_eq h.1.1, lstEq_eq (fun _ _ => veq_eq) h.1.2, lstEq_eq (fun _ _ => veq_eq) h.2]
theorem outEq_eq {a b : Out} (h : outEq a b = true) : a = b := by
  simp only [outEq, Bool.and_eq_true] at h
  obtain ⟨⟨⟨h1, h2⟩, h3⟩, h4⟩ := h
  cases a; cases b
  simp only at h1 h2 h3 h4
  have hx : ∀ x y : X, xEq x y = true → x = y := fun x y hxy => by cases x <;> cases y <;> first | rfl | cases hxy
  rw [hx _ _ h1, tEq_eq (fun _ _ => veq_eq) h2, lstEq_eq (fun _ _ => vdEq_eq) h3, hEq_eq h4]

theorem xrDone_ok {f : Fr} {K : List Item} {os : Outs} {l : List Out} (h : (xrDone rec f K os).list = some l) : ∃ lo, os.list = some lo ∧ ∀ o ∈ lo, ∃ l', (xrOne rec f K o).list = some l' ∧ ∀ p ∈ l', p ∈ l := by
  unfold xrDone at h
  cases os with
  | fail s => cases h
  | one o => exact ⟨[o], rfl, fun o' ho => by rw [List.mem_singleton] at ho; subst ho; exact ⟨l, h, fun p hp => hp⟩⟩
  | many lo =>
    simp only [] at h
    refine ⟨lo, rfl, fun o ho => ?_⟩
    have hd := mem_dedup (fun _ _ => outEq_eq) ho
    split at h
    · rename_i o1 heq
      rw [heq, List.mem_singleton] at hd
      subst hd
      exact ⟨l, h, fun p hp => hp⟩
    · exact joinOuts_ok h _ (List.mem_map.2 ⟨o, hd, rfl⟩)

theorem forceL_eq {α β : Type} : ∀ (l : List α) (k : List α → β), forceL l k = k l
  | [], _ => rfl
  | a :: l, k => by show forceL l (fun l => k (a :: l)) = _; rw [forceL_eq l]

theorem drawX_ok (ok : CfgOk P c) (IH : SoundRec P c N rec) {id : Nat} {ops : Array Oper} {f : Fr} {K : List Item} {e : T VV} {ds : List VD} {h : H} {l : List Out} (hl : (kDrawX ops c rec f K e ds h).list = some l) :
    Sound P c N (.fr f (.code (.region id ops true) :: K) e ds h) l := by
  intro m w E dv r Fin hn R her hds hr hcm he
  unfold kDrawX kDrawP at hl
  rw [forceL_eq, forceL_eq] at hl
  generalize preLt _ _ = lt at hl
  generalize preRows _ _ _ = L at hl
  unfold kDrawL at hl
  cases hok : okDrawX ops (kdL lt) && chkL h L with
  | false => rw [hok] at hl; cases hl
  | true =>
    rw [hok, cond_true] at hl
    rw [Bool.and_eq_true] at hok
    obtain ⟨lo, h1, h2⟩ := xrDone_ok hl
    have R1 : Rep N m h { w with drawn := w.drawn + 1 } := R.congr rfl
    have B1 : Below N w { w with drawn := w.drawn + 1 } := below_same rfl rfl rfl rfl
    refine ws_drawX (SL m L) (kdL lt) (SL.of R1 (.refl m) hok.2) ok.mixed hok.1 (kdL_le lt) hcm ?_
    have := IH (.xr ⟨0, L, lt, ops, f⟩ (List.range ops.size) e ds h) lo h1 m m _ E dv r Fin K (WS P r f.n Fin K) hn (.refl m) (SL0.of R hok.2) hok.2 List.nodup_range R1 her hds hr hcm ?_
    · rw [List.length_range] at this; exact this
    · intro o ho m' E' dv' w' k1 k2 k3 k4 k5
      obtain ⟨l', g1, g2⟩ := h2 o ho
      unfold xrOne at g1
      cases hx : o.x with
      | normal =>
        rw [hx] at g1
        exact IH _ _ g1 m' w' E' dv' r Fin hn k2 k3 k4 (hr.mono k1) hcm (he.go k1 (B1.trans k5) g2)
      | _ => rw [hx] at g1; cases g1
end
end Go.M
/- The machine is right: the induction. -/
namespace Go.M
open Go Go.V Go.RowKit
set_option linter.unusedSimpArgs false
set_option linter.unusedVariables false

section
variable {P : Program} {c : Cfg} {N : Nat} {rec : Rec}

theorem ws_loopStart {P : Program} {r : Option Nat} {n : Nat} {Fin : Post} {K : List Item} {e : Env} {ds : List Deferred} {w : World} {b : Code} (h : WS P r n Fin (.code b :: .inLoop b :: K) e ds w) : WS P r n Fin (.code (.loop b) :: K) e ds w :=
  .step (fun a ha hd => ⟨a, ha, hd, fun _ _ _ => stepR_loop⟩) h
theorem ws_inLoop {P : Program} {r : Option Nat} {n : Nat} {Fin : Post} {K : List Item} {e : Env} {ds : List Deferred} {w : World} {b : Code} (h : WS P r n Fin (.code b :: .inLoop b :: K) e ds w) : WS P r n Fin (.inLoop b :: K) e ds w :=
  .step (fun a ha hd => ⟨a, ha, hd, fun _ _ _ => stepR_inLoop⟩) h

theorem rangeEnd_ok (IH : SoundRec P c N rec) {f : Fr} {K : List Item} {e : T VV} {ds : List VD} {lp : Nat} {h : H} {l' l : List Out} (hl : (rangeEnd rec f K e ds lp h).list = some l') (hs : ∀ p ∈ l', p ∈ l)
    {m m' : Mp} {w w' : World} {E : Env} {dv : List Deferred} {r : Option Nat} {Fin : Post} {q : Q} (hn : f.n ≤ 4000) (hm : Mp.Le m m') (R : Rep N m' h w') (her : ER m' e E) (hds : DSR m' ds dv) (hr : rOk m' r f.r) (hq : m' lp = some q)
    (hb : Below N w w') (hcm : Calm Fin) (he : Ends N m w Fin l) :
    ∃ jump w₄, (Instr.endLoop q.b).run P w' = .ok jump w₄ ∧ WS P r f.n Fin ((jump.map Item.code).toList ++ K) E dv w₄ := by
  unfold rangeEnd at hl
  split at hl
  · rename_i st pend a1 a2 a3 a4 a5 a6 a7 hg
    obtain ⟨lpr, e1, e2, e3, _, _⟩ := loop_write .exhausted pend R hg hq
    have hst : st ≠ .busy := by rintro rfl; cases hl
    have hl' : (h.setK lp .dead fun h4 => match pend with
        | none => rec (.fr f K e ds h4)
        | some j => rec (.fr f (.code j :: K) e ds h4)).list = some l' := by
      cases st <;> first | exact hl | exact absurd rfl hst
    rw [H.setK_eq] at hl'
    have hbusy : (lpr.state == LoopState.busy) = false := by rw [e2]; cases st <;> first | rfl | exact absurd rfl hst
    have e4' : Rep N m' ⟨h.t.put 20 lp .dead, h.next⟩ { w' with heap := w'.heap.setIfInBounds q.b (.loop { lpr with state := .exhausted }) } := R.write hg rfl hq rfl .dead
    have e5' : Below N w' { w' with heap := w'.heap.setIfInBounds q.b (.loop { lpr with state := .exhausted }) } := below_write R hg rfl hq (ob := .loop { lpr with state := .exhausted }) rfl rfl rfl rfl
    refine ⟨pend, { w' with heap := w'.heap.setIfInBounds q.b (.loop { lpr with state := .exhausted }) }, ?_, ?_⟩
    · simp only [Instr.endLoop, Sem.run_bind, run_getLoop e1, Result.andThen, hbusy, Bool.false_eq_true, if_false, run_setLoop e1, pure_run, e3]
    · cases pend with
      | none => exact IH _ _ hl' m' _ E dv r Fin hn e4' her hds hr hcm (he.go hm (hb.trans e5') hs)
      | some j => exact IH _ _ hl' m' _ E dv r Fin hn e4' her hds hr hcm (he.go hm (hb.trans e5') hs)
  · cases hl

theorem enterV_body (qk : QuietOk P c) {g : FuncId} {args : List VV} {h : H} {k : VV → H → Outs} {l : List Out} (hl : (enterV c rec g args h k).list = some l) : ∃ fn, c.fns.get g = some fn ∧ fn.body.isSome = true := by
  have body : (enterB c rec g args h k).list = some l → ∃ fn, c.fns.get g = some fn ∧ fn.body.isSome = true := by
    intro hl
    unfold enterB at hl
    cases hg : c.fns.get g with
    | none => rw [hg] at hl; cases hl
    | some fn =>
      rw [hg] at hl
      simp only [] at hl
      cases hb : fn.body with
      | none => rw [hb] at hl; cases hl
      | some body => exact ⟨fn, rfl, by rw [hb]; rfl⟩
  unfold enterV at hl
  cases hx : c.ext g with
  | none => rw [hx] at hl; exact body hl
  | some F =>
    rw [hx] at hl
    simp only [] at hl
    cases hF : F args h with
    | none => rw [hF] at hl; exact body hl
    | some p => exact (qk.ext g F hx args h p hF).1

theorem range_step (ok : CfgOk P c) (qk : QuietOk P c) (IH : SoundRec P c N rec) {f : Fr} {g : Operand} {ps : Array Tmp} {as b : Code} {K : List Item} {e : T VV} {ds : List VD} {h : H} {l : List Out} (hl : (rangeG (evo g e) ps as b c rec f K e ds h).list = some l) :
    Sound P c N (.fr f (.code (.rangeFunc g ps as b) :: K) e ds h) l := by
  intro m w E dv r Fin hn R her hds hr hcm he
  have hg := her.evo R.glob g
  unfold rangeG at hl
  cases hev : evo g e with
  | fn fv first caps =>
    rw [hev] at hl hg
    cases fv with
    | func gf =>
      cases first with
      | cons => cases hl
      | nil =>
        simp only [] at hl
        generalize hX : ev E g = X at hg
        cases hg with
        | @fn _ _ _ xs0 ys hfirst hcaps =>
        cases hfirst
        -- the record, the call
        have go : ∀ (h1 : H) (m1 : Mp) (w1 : World) (d : Nat) (q' : Q) (ds1 : List VD) (mark : List Deferred), (rangeIn c rec f gf caps ps as b K e ds1 d h1).list = some l → Mp.Le m m1 → Rep N m1 h1 w1 → Below N w w1 → m1 d = some q' → DSR m1 ds1 (mark ++ dv) →
            ∀ (a : Act), Agree f.n a E → ∀ fn : FuncId, ∃ (w₁ : World), w₁ = { w1 with heap := w1.heap.push (.loop ⟨.ready, none, fn, a.tmps, ps, as, b, q'.b⟩) } ∧
              Calls P gf (.func (.yield w1.heap.size) #[] #[] :: ys).toArray w₁ fun
                | .returned _, w₃ => ∃ jump w₄, (Instr.endLoop w1.heap.size).run P w₃ = .ok jump w₄ ∧ WS P r f.n Fin ((jump.map Item.code).toList ++ K) E (mark ++ dv) w₄
                | _, _ => False := by
          intro h1 m1 w1 d q' ds1 mark hli hm1 R1 hB1 hd1 hds1 a ha fn
          refine ⟨_, rfl, ?_⟩
          unfold rangeIn at hli
          rw [H.newK_eq] at hli
          split at hli
          · rename_i hnx
            have hle : Mp.Le m1 (m1.set h1.next ⟨w1.heap.size, 0, 0, 0⟩) := Mp.set_le (R1.atNext hnx)
            obtain ⟨_, R2⟩ := R1.push hnx ⟨w1.heap.size, 0, 0, 0⟩ rfl (o := .loop .ready none f.fn f.n e ps.toList as b d) (ob := .loop ⟨.ready, none, fn, a.tmps, ps, as, b, q'.b⟩)
              (w' := { w1 with heap := w1.heap.push (.loop ⟨.ready, none, fn, a.tmps, ps, as, b, q'.b⟩) }) rfl
              (.loop (arr := a.tmps) (ps := ps.toList) (fn' := fn) ha.1 (fun t => by rw [ha.2 t]; exact (her t).mono (hm1.trans hle)) (hle _ _ hd1))
            have B2 : Below N w1 { w1 with heap := w1.heap.push (.loop ⟨.ready, none, fn, a.tmps, ps, as, b, q'.b⟩) } := below_push R1.size rfl rfl rfl rfl
            have hargs : VRL (m1.set h1.next ⟨w1.heap.size, 0, 0, 0⟩) (.fn (.yield h1.next) [] [] :: caps) (.func (.yield w1.heap.size) #[] #[] :: ys) :=
              .cons (.yield (q := ⟨w1.heap.size, 0, 0, 0⟩) Mp.set_self) (hcaps.mono (hm1.trans hle))
            refine Calls.mono (enter_ok (P := P) (N := N) ok qk IH hli R2 hargs (Rr := fun e w₃ => (∃ x, e = .returned x) ∧ ∃ jump w₄, (Instr.endLoop w1.heap.size).run P w₃ = .ok jump w₄ ∧ WS P r f.n Fin ((jump.map Item.code).toList ++ K) E (mark ++ dv) w₄)
              (fun v h' l' hkl hsub m' x w' k1 k2 k3 k4 => ⟨⟨x, rfl⟩, ?_⟩)).2 ?_
            · exact rangeEnd_ok (q := ⟨w1.heap.size, 0, 0, 0⟩) IH hkl hsub hn ((hm1.trans hle).trans k1) k3 (her.mono ((hm1.trans hle).trans k1)) (hds1.mono (hle.trans k1)) (hr.mono ((hm1.trans hle).trans k1)) (k1 _ _ Mp.set_self) ((hB1.trans B2).trans k4) hcm he
            · intro x w'' hx
              obtain ⟨⟨y, rfl⟩, hy⟩ := hx
              exact hy
          · cases hli
        refine ws_rangeFunc fun a ha fn => ?_
        have hres : ∀ (lb : Nat) (w : World), (resolve (ev E) (rangeCall g lb) 0).run P w = .ok ⟨.fn (.func gf) ys.toArray, #[.func (.yield lb) #[] #[]]⟩ w := by
          intro lb w
          simp only [resolve, hX, Deferred.ofValue, pure_run]
          simp [ev]
        have hbody : ∃ fn', c.fns.get gf = some fn' ∧ fn'.body.isSome = true := by
          have : ∀ (h1 : H) (ds1 : List VD) (d : Nat), (rangeIn c rec f gf caps ps as b K e ds1 d h1).list = some l → ∃ fn', c.fns.get gf = some fn' ∧ fn'.body.isSome = true := by
            intro h1 ds1 d hli
            unfold rangeIn at hli
            rw [H.newK_eq] at hli
            split at hli
            · exact enterV_body qk hli
            · cases hli
          cases hfr : f.r with
          | none =>
            rw [hfr] at hl
            simp only [] at hl
            rw [H.newK_eq] at hl
            split at hl
            · exact this _ _ _ hl
            · cases hl
          | some lq =>
            rw [hfr] at hl
            simp only [] at hl
            split at hl
            · exact this _ _ _ hl
            · cases hl
        obtain ⟨fn', hgf, hbd⟩ := hbody
        have hinv : ∀ (lb : Nat) (w : World), (invoke (.fn (.func gf) ys.toArray) #[.func (.yield lb) #[] #[]]).run P w = .ok (.enter gf (.func (.yield lb) #[] #[] :: ys).toArray) w := by
          intro lb w
          have := run_callFunc (P := P) ok (xs := (.func (.yield lb) #[] #[] :: ys).toArray) hgf hbd w
          simp only [invoke]
          rw [← this]
          congr 2
          apply Array.ext'; simp
        cases hfr : f.r with
        | none =>
          rw [hfr] at hl hr
          have hr0 : r = none := hr
          simp only [] at hl
          rw [H.newK_eq] at hl
          split at hl
          · rename_i hnx
            have hle : Mp.Le m (m.set h.next ⟨w.heap.size, 0, 0, 0⟩) := Mp.set_le (R.atNext hnx)
            obtain ⟨_, R1⟩ := R.push hnx ⟨w.heap.size, 0, 0, 0⟩ rfl (o := .dfd false) (ob := .deferred (some [])) (w' := { w with heap := w.heap.push (.deferred (some [])) }) rfl .dfd0
            have B1 : Below N w { w with heap := w.heap.push (.deferred (some [])) } := below_push R.size rfl rfl rfl rfl
            obtain ⟨w₁, hw₁, hcalls⟩ := go _ _ _ h.next ⟨w.heap.size, 0, 0, 0⟩ (.collected h.next :: ds) [{ target := .collected w.heap.size, args := #[] }] hl hle R1 B1 Mp.set_self (.cons (.collected (q := ⟨w.heap.size, 0, 0, 0⟩) Mp.set_self) (hds.mono hle)) a ha fn
            refine ⟨_, _, w₁, _, gf, _, ?_, hres _ _, hinv _ _, hcalls⟩
            subst hw₁
            rw [hr0]
            simp [Instr.enterLoop, newObj, Sem.run_bind, Sem.run, Result.andThen, pure_run]
            exact ⟨rfl, rfl, rfl⟩
          · cases hl
        | some lq =>
          rw [hfr] at hl hr
          obtain ⟨qq, hqq, hr0⟩ := hr
          simp only [] at hl
          split at hl
          · rename_i hgl
            obtain ⟨fn2, arr, q', h1, h2, h3, h4⟩ := loop_obj R hgl hqq
            obtain ⟨w₁, hw₁, hcalls⟩ := go h m w _ q' ds [] hl (.refl m) R (.refl N w) h4 hds a ha fn
            refine ⟨_, _, w₁, _, gf, _, ?_, hres _ _, hinv _ _, hcalls⟩
            subst hw₁
            rw [hr0]
            simp [Instr.enterLoop, newObj, Sem.run_bind, Sem.run, Result.andThen, pure_run, run_getLoop h1]
          · cases hl
    | _ => cases hl
  | _ => rw [hev] at hl; cases hl

theorem kdC_le (c : Cfg) (ops : Array Oper) (k : Nat) : kdC c ops k ≤ 2 := by
  unfold kdC
  cases ops[k]? with
  | none => exact Nat.le_refl _
  | some o =>
    show kdOp c o.op ≤ 2
    cases o.op with
    | convert a b x => show (bif isIntT c b then 0 else 2) ≤ 2; cases isIntT c b <;> simp
    | call cl =>
      show kdCall c cl ≤ 2
      unfold kdCall
      split
      · split
        · rename_i t l _; cases isSeqT c t <;> simp
        · exact Nat.le_refl _
      all_goals simp
    | _ => simp [kdOp]

theorem code_ok (ok : CfgOk P c) (qk : QuietOk P c) (IH : SoundRec P c N rec) {f : Fr} {cd : Code} {K : List Item} {e : T VV} {ds : List VD} {h : H} {l : List Out} (hl : (codeF cd c rec f K e ds h).list = some l) :
    Sound P c N (.fr f (.code cd :: K) e ds h) l := by
  cases cd with
  | skip => exact fun m w E dv r Fin hn R her hds hr hcm he => ws_skip (IH _ _ hl m w E dv r Fin hn R her hds hr hcm he)
  | label _ => exact fun m w E dv r Fin hn R her hds hr hcm he => ws_label (IH _ _ hl m w E dv r Fin hn R her hds hr hcm he)
  | region id ops draw =>
    intro m w E dv r Fin hn R her hds hr hcm he
    have hl' : (bif draw then (bif okDraw ops (kdC c ops) then rec (.ops true f ops ops.toList K e ds h) else kDrawX ops c rec f K e ds h) else rec (.ops false f ops ops.toList K e ds h)).list = some l := hl
    cases draw with
    | true =>
      cases hok : okDraw ops (kdC c ops) with
      | false =>
        rw [hok] at hl'
        exact drawX_ok ok IH (id := id) hl' m w E dv r Fin hn R her hds hr hcm he
      | true =>
        rw [hok] at hl'
        obtain ⟨lo⟩ := ops
        have R1 : Rep N m h { w with drawn := w.drawn + 1 } := R.congr rfl
        have B1 : Below N w { w with drawn := w.drawn + 1 } := below_same rfl rfl rfl rfl
        exact ws_drw (fun _ => True) (kdC c ⟨lo⟩) trivial ok.mixed hok (fun k => kdC_le c ⟨lo⟩ k) hcm
          (IH (.ops true f ⟨lo⟩ lo K e ds h) l hl' m _ E dv r Fin 0 hn R1 her hds hr hcm (fun _ => rfl) (he.go (.refl m) B1 (fun o ho => ho)))
    | false =>
      obtain ⟨lo⟩ := ops
      exact ws_reg (IH (.ops false f ⟨lo⟩ lo K e ds h) l hl' m w E dv r Fin 0 hn R her hds hr hcm (fun h => by cases h) he)
  | seq a b => exact fun m w E dv r Fin hn R her hds hr hcm he => ws_seq (IH _ _ hl m w E dv r Fin hn R her hds hr hcm he)
  | cond x a b =>
    intro m w E dv r Fin hn R her hds hr hcm he
    have hx := her.evo R.glob x
    have hl' : (condV (evo x e) a b c rec f K e ds h).list = some l := hl
    cases hev : evo x e with
    | lit u =>
      rw [hev] at hl' hx
      cases u with
      | bool t =>
        generalize hX : ev E x = X at hx
        cases hx
        refine ws_cond hX (fun ht => ?_) (fun ht => ?_)
        · subst ht; exact IH _ _ hl' m w E dv r Fin hn R her hds hr hcm he
        · subst ht; exact IH _ _ hl' m w E dv r Fin hn R her hds hr hcm he
      | _ => cases hl'
    | _ => rw [hev] at hl'; cases hl'
  | block id b => exact fun m w E dv r Fin hn R her hds hr hcm he => ws_block (IH _ _ hl m w E dv r Fin hn R her hds hr hcm he)
  | loop b => exact fun m w E dv r Fin hn R her hds hr hcm he => ws_loopStart (IH _ _ hl m w E dv r Fin hn R her hds hr hcm he)
  | scope b => exact fun m w E dv r Fin hn R her hds hr hcm he => ws_scope (IH _ _ hl m w E dv r Fin hn R her hds hr hcm he)
  | exit id =>
    intro m w E dv r Fin hn R her hds hr hcm he
    have hl' : (exitTo' f id rec e ds h (exitTo id K)).list = some l := hl
    cases hk : exitTo id K with
    | some K' => rw [hk] at hl'; exact ws_exit hk (IH _ _ hl' m w E dv r Fin hn R her hds hr hcm he)
    | none =>
      rw [hk] at hl'
      cases hl'
      exact ws_exit_out hk (he _ (List.mem_singleton.2 rfl) m E dv w (.refl m) R her hds (.refl N w))
  | goto t =>
    intro m w E dv r Fin hn R her hds hr hcm he
    have hl' : (match gotoIn t K with | some K' => rec (.fr f K' e ds h) | none => Outs.fail "goto").list = some l := hl
    cases hk : gotoIn t K with
    | some K' => rw [hk] at hl'; exact ws_goto hk (IH _ _ hl' m w E dv r Fin hn R her hds hr hcm he)
    | none => rw [hk] at hl'; cases hl'
  | ret =>
    intro m w E dv r Fin hn R her hds hr hcm he
    cases hl
    exact ws_ret (he _ (List.mem_singleton.2 rfl) m E dv w (.refl m) R her hds (.refl N w))
  | rangeFunc g ps as b => exact range_step ok qk IH hl
  | _ => cases hl

theorem item_ok (ok : CfgOk P c) (qk : QuietOk P c) (IH : SoundRec P c N rec) {f : Fr} {it : Item} {K : List Item} {e : T VV} {ds : List VD} {h : H} {l : List Out} (hl : (itemF it c rec f K e ds h).list = some l) :
    Sound P c N (.fr f (it :: K) e ds h) l := by
  cases it with
  | code cd => exact code_ok ok qk IH hl
  | inBlock _ => exact fun m w E dv r Fin hn R her hds hr hcm he => ws_inBlock (IH _ _ hl m w E dv r Fin hn R her hds hr hcm he)
  | inScope _ => exact fun m w E dv r Fin hn R her hds hr hcm he => ws_inScope (IH _ _ hl m w E dv r Fin hn R her hds hr hcm he)
  | inLoop b => exact fun m w E dv r Fin hn R her hds hr hcm he => ws_inLoop (IH _ _ hl m w E dv r Fin hn R her hds hr hcm he)
  | beginRound =>
    intro m w E dv r Fin hn R her hds hr hcm he
    have hl' : (kBegin c rec f K e ds h).list = some l := hl
    unfold kBegin at hl'
    cases hfr : f.r with
    | none => rw [hfr] at hl'; cases hl'
    | some lp =>
      rw [hfr] at hl' hr
      obtain ⟨q, hq, rfl⟩ := hr
      simp only [] at hl'
      split at hl'
      · rename_i p1 p2 p3 p4 p5 p6 p7 p8 hg
        rw [H.setK_eq] at hl'
        obtain ⟨lpr, e1, e2, e3, e4, e5⟩ := loop_write .busy p1 R hg hq
        have hsame : ({ lpr with state := LoopState.busy, pending := p1 } : Loop) = { lpr with state := .busy } := by rw [← e3]
        rw [hsame] at e4 e5
        refine ws_beginRound (w' := { w with heap := w.heap.setIfInBounds q.b (.loop { lpr with state := .busy }) }) ?_ (IH _ _ hl' m _ E dv _ Fin hn e4 her hds (by rw [hfr]; exact ⟨q, hq, rfl⟩) hcm (he.go (.refl m) e5 (fun o ho => ho)))
        simp only [Instr.beginRound, Sem.run_bind, run_getLoop e1, run_setLoop e1, Result.andThen, e2, pure_run]
      · cases hl'
  | _ => cases hl

theorem step_ok (ok : CfgOk P c) (pk : PlainOk P c) (qk : QuietOk P c) (IH : SoundRec P c N rec) : SoundRec P c N (fun cmd => stepF cmd c rec) := by
  intro cmd l hl
  cases cmd with
  | fr f K e ds h =>
    cases K with
    | nil =>
      intro m w E dv r Fin hn R her hds hr hcm he
      cases hl
      exact ws_nil (he _ (List.mem_singleton.2 rfl) m E dv w (.refl m) R her hds (.refl N w))
    | cons it K => exact item_ok ok qk IH hl
  | ops md f ops lo K e ds h => exact ops_ok ok pk qk IH hl
  | xr x todo e ds h => exact xr_ok ok pk qk IH hl

theorem run_ok (ok : CfgOk P c) (pk : PlainOk P c) (qk : QuietOk P c) : ∀ n, SoundRec P c N (run c n)
  | 0 => fun cmd l hl => by cases hl
  | n + 1 => step_ok ok pk qk (run_ok ok pk qk n)

/-- **What the machine computes of a call is what the model computes.** -/
theorem callV_ok (ok : CfgOk P c) (pk : PlainOk P c) (qk : QuietOk P c) {n : Nat} {g : FuncId} {args : List VV} {xs : List Value} {h : H} {l : List (VV × H)} (hl : callV c n g args h = some l) (h40 : args.length ≤ 4000)
    {m : Mp} {w : World} (R : Rep N m h w) (hx : VRL m args xs) (hsz : ∀ fn, c.fns.get g = some fn → args.length ≤ fn.ntmps ∧ fn.ntmps ≤ 4000) :
    Calls P g xs.toArray w fun e w' => ∃ p ∈ l, ∃ m' x, e = .returned x ∧ Mp.Le m m' ∧ VR m' p.1 x ∧ Rep N m' p.2 w' ∧ Below N w w' := by
  unfold callV at hl
  cases hg : c.fns.get g with
  | none => rw [hg] at hl; cases hl
  | some fn =>
    rw [hg] at hl
    simp only [] at hl
    cases hb : fn.body with
    | none => rw [hb] at hl; cases hl
    | some body =>
      rw [hb] at hl
      simp only [] at hl
      cases hr : (run c n (.fr ⟨g, fn.ntmps, none⟩ [.code body] (envOf args 0 .leaf) [] h)).list with
      | none => rw [hr] at hl; cases hl
      | some os =>
        rw [hr] at hl
        simp only [] at hl
        obtain ⟨hs1, hs2⟩ := hsz fn hg
        have hlen := hx.length
        have mem : ∀ (os : List Out) (l : List (VV × H)), os.mapM (fun o => match o.x with | .exit _ => none | _ => leaveV c fn o.e o.ds o.h) = some l → ∀ o ∈ os, (o.x = .normal ∨ o.x = .ret) ∧ ∃ p ∈ l, leaveV c fn o.e o.ds o.h = some p := by
          intro os
          induction os with
          | nil => intro l _ o ho; simp at ho
          | cons o os ih =>
            intro l hm o' ho'
            rw [List.mapM_cons] at hm
            cases h1 : (match o.x with | .exit _ => none | _ => leaveV c fn o.e o.ds o.h) with
            | none => rw [h1] at hm; cases hm
            | some p =>
              cases h2 : os.mapM (fun o => match o.x with | .exit _ => none | _ => leaveV c fn o.e o.ds o.h) with
              | none => rw [h1, h2] at hm; cases hm
              | some l2 =>
                rw [h1, h2] at hm
                have hm' : p :: l2 = l := by simpa using hm
                rcases List.mem_cons.1 ho' with rfl | ho'
                · cases hxo : o'.x with
                  | exit id => rw [hxo] at h1; cases h1
                  | normal => rw [hxo] at h1; exact ⟨.inl rfl, p, by rw [← hm']; simp, h1⟩
                  | ret => rw [hxo] at h1; exact ⟨.inr rfl, p, by rw [← hm']; simp, h1⟩
                · obtain ⟨a, p', b, c'⟩ := ih l2 h2 o' ho'
                  exact ⟨a, p', by rw [← hm']; exact List.mem_cons_of_mem _ b, c'⟩
        refine calls_of_wsM (ok.fns _ _ hg) hb (by simp; omega) ?_
        have her : ER m (envOf args 0 .leaf) (env0 xs.toArray.toList) := ER.env0 hx h40
        refine run_ok (N := N) ok pk qk n _ _ hr m w _ [] none _ hs2 R her .nil rfl calm_finM ?_
        intro o ho m' E' dv' w' hm hR he hd hbel
        obtain ⟨hxo, p, hp, hlv⟩ := mem os l hl o ho
        have leave : ∀ a : Act, Agree fn.ntmps a E' → LeavesInM (fw none) 0 P fn a.tmps (fun e w' => ∃ p ∈ l, ∃ m' x, e = .returned x ∧ Mp.Le m m' ∧ VR m' p.1 x ∧ Rep N m' p.2 w' ∧ Below N w w') dv' .returning w' := fun a ha =>
          leave_ok (v := p.1) (h' := p.2) ok qk hlv hR he ha hd fun x w'' k1 k2 k3 => ⟨p, hp, m', x, rfl, hm, k1, k2, hbel.trans k3⟩
        rcases hxo with hxo | hxo <;> rw [hxo] <;> exact leave
end
end Go.M
