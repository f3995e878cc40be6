/- The machine: light operations; soundness; leaving. -/
import Derived.Test.YtaaeeabpbmigoaaGreatDoorVf
set_option linter.unusedVariables false
set_option linter.unusedSimpArgs false
/- Operations that read: what they read stays as it is. -/
namespace Go.M
open Go Go.V Go.RowKit
set_option linter.unusedSimpArgs false
set_option linter.unusedVariables false

section
variable {P : Program} {c : Cfg} {m m0 m' : Mp} {h h' : H} {v : VV} {N : Nat} {w : World}

mutual
theorem VR.exact (hm : Mp.Le m m') : ∀ {v : VV} {x y : Value} (n : Nat), VR m v x → VR m' v y → exactV n v = true → x = y
  | _, _, _, 0, _, _, he => by cases he
  | _, _, _, n + 1, .lit _, .lit _, _ => rfl
  | _, _, _, n + 1, .ptr h, .ptr k, _ => by rw [hm _ _ h] at k; cases k; rfl
  | _, _, _, n + 1, .gp, .gp, _ => rfl
  | _, _, _, n + 1, .sl h, .sl k, _ => by rw [hm _ _ h] at k; cases k; rfl
  | _, _, _, n + 1, .slo (q := q) h _ a2 a3, .slo k _ b2 b3, _ => by
    rw [hm _ _ h] at k; cases k
    congr 1
    exact Nat.eq_of_mul_eq_mul_right a3 (Nat.add_left_cancel (a2.trans b2.symm))
  | _, _, _, n + 1, .emp, .emp, he => by cases he
  | _, _, _, n + 1, .mp h, .mp k, _ => by rw [hm _ _ h] at k; cases k; rfl
  | _, _, _, n + 1, .fn h1 h2, .fn k1 k2, he => by
    simp only [exactV, Bool.and_eq_true] at he
    rw [VRL.exact hm n h1 k1 he.1, VRL.exact hm n h2 k2 he.2]
  | _, _, _, n + 1, .yield h, .yield k, _ => by rw [hm _ _ h] at k; cases k; rfl
  | _, _, _, n + 1, .ifc h, .ifc k, he => by
    simp only [exactV] at he
    rw [VR.exact hm n h k he]
  | _, _, _, n + 1, .agg h, .agg k, he => by
    simp only [exactV] at he
    rw [VRL.exact hm n h k he]
  | _, _, _, n + 1, .tup h, .tup k, he => by
    simp only [exactV] at he
    rw [VRL.exact hm n h k he]
theorem VRL.exact (hm : Mp.Le m m') : ∀ {l : List VV} {xs ys : List Value} (n : Nat), VRL m l xs → VRL m' l ys → exactL (exactV n) l = true → xs = ys
  | _, _, _, _, .nil, .nil, _ => rfl
  | _, _, _, n, .cons h hl, .cons k kl, he => by
    simp only [exactL, Bool.and_eq_true] at he
    rw [VR.exact hm n h k he.1, VRL.exact hm n hl kl he.2]
end

/-- The listed rows are as they were. -/
def SL (m0 : Mp) (L : List (Nat × VO)) (w : World) : Prop := ∃ m', Mp.Le m0 m' ∧ ∀ p ∈ L, ∃ q ob, m' p.1 = some q ∧ w.heap[q.b]? = some ob ∧ OR m' q p.2 ob
/-- The rows were there once. -/
def SL0 (m0 : Mp) (L : List (Nat × VO)) : Prop := ∃ w : World, ∀ p ∈ L, ∃ q ob, m0 p.1 = some q ∧ w.heap[q.b]? = some ob ∧ OR m0 q p.2 ob

theorem chkO_eq {o : VO} {x : Option VO} (h : chkO o x = true) : x = some o := by
  cases x with
  | none => cases h
  | some o' => simp only [chkO] at h; rw [voEq_eq h]
theorem chkL_mem : ∀ {L : List (Nat × VO)}, chkL h L = true → ∀ p ∈ L, h.get p.1 = some p.2
  | [], _, p, hp => by simp at hp
  | p' :: L, hc, p, hp => by
    simp only [chkL, Bool.and_eq_true] at hc
    rcases List.mem_cons.1 hp with rfl | hp
    · exact chkO_eq hc.1
    · exact chkL_mem hc.2 p hp
theorem SL.of (R : Rep N m h w) (hm : Mp.Le m0 m) {L : List (Nat × VO)} (hc : chkL h L = true) : SL m0 L w :=
  ⟨m, hm, fun p hp => R.obj _ _ (chkL_mem hc p hp)⟩
theorem SL0.of (R : Rep N m h w) {L : List (Nat × VO)} (hc : chkL h L = true) : SL0 m L :=
  ⟨w, fun p hp => R.obj _ _ (chkL_mem hc p hp)⟩
theorem memId_mem {id : Nat} : ∀ {L : List (Nat × VO)}, memId id L = true → ∃ o, (id, o) ∈ L
  | [], h => by cases h
  | p :: L, h => by
    simp only [memId, Bool.or_eq_true] at h
    rcases h with h | h
    · have := Nat.eq_of_beq_eq_true h
      exact ⟨p.2, by rw [← this]; exact List.mem_cons_self⟩
    · obtain ⟨o, ho⟩ := memId_mem h
      exact ⟨o, List.mem_cons_of_mem _ ho⟩

theorem load_S {t : TypeId} {x : VV} {X : Value} (ok : CfgOk P c) (hr : xLoad c h t x = .val v h') (hx : VR m x X) :
    h' = h ∧ ∃ id off r q, x = .ptr id off ∧ rowOf h id = some r ∧ m id = some q ∧ ∀ (w' : World) (m' : Mp) (cs : Array Value) (ty : TypeId) (fz : Nat × Nat), w'.heap[q.b]? = some (.cells cs ty fz) → RowR m' q r.t r.n r.k cs fz → ∃ y, VR m' v y ∧ (Instr.loadAt t X).run P w' = .ok y w' := by
  unfold xLoad at hr
  cases x with
  | ptr id off =>
    cases hx with
    | @ptr _ _ q hq =>
    simp only [] at hr
    cases hrow : rowOf h id with
    | none => rw [hrow] at hr; cases hr
    | some r =>
      rw [hrow] at hr
      obtain ⟨hp, rfl⟩ := optR_ok hr
      refine ⟨rfl, id, off, r, q, rfl, hrow, hq, fun w' m' cs ty fz hb hR => ?_⟩
      obtain ⟨y, hy, hw⟩ := partR_ok (P := P) ok hp hb hR
      refine ⟨y, hy, ?_⟩
      simp [Instr.loadAt, Instr.sureAddr, Sem.run_bind, Result.andThen, pure, Sem.run, hw]
  | _ => cases hr

theorem convStr_S {src dst : TypeId} {x : VV} {X : Value} (ok : CfgOk P c) (hd : c.und dst = some .string) (hr : convV c src dst x h = .val v h') (hx : VR m x X) :
    h' = h ∧ ∃ s, v = .lit (.string s) ∧ ∀ w' : World, (∀ id off len cap ex, x = .sl id off len cap ex → ∀ r, rowOf h id = some r → ∃ q m' cs ty fz, m id = some q ∧ w'.heap[q.b]? = some (.cells cs ty fz) ∧ RowR m' q r.t r.n r.k cs fz) →
      (convert src dst X).run P w' = .ok (.string s) w' := by
  unfold convV at hr
  cases hs : c.und src with
  | none => rw [hs] at hr; cases hr
  | some a =>
    rw [hs, hd] at hr
    have us := ok.und hs
    have ud := ok.und hd
    simp only [convStr] at hr
    cases x with
    | lit u =>
      cases u with
      | string s =>
        cases hx; cases hr
        refine ⟨rfl, s, rfl, fun w _ => ?_⟩
        cases a <;> simp [convert, Sem.run_bind, us w, ud w, Result.andThen, Pure.pure, Sem.run]
      | slice ad n cp =>
        cases ad with
        | none =>
          simp only [] at hr
          cases h8 : isSlU8 c a with
          | false => rw [h8] at hr; cases hr
          | true =>
            rw [h8] at hr
            obtain ⟨e, rfl, he⟩ := isSlU8_ok h8
            cases hx; cases hr
            refine ⟨rfl, _, rfl, fun w _ => ?_⟩
            simp [convert, Sem.run_bind, us w, ud w, ok.und he w, Result.andThen, Conv.bytesToString, Pure.pure, Sem.run]
        | some _ => cases hr
      | _ => cases hr
    | emp =>
      simp only [] at hr
      cases h8 : isSlU8 c a with
      | false => rw [h8] at hr; cases hr
      | true =>
        rw [h8] at hr
        obtain ⟨e, rfl, he⟩ := isSlU8_ok h8
        cases hr
        cases hx with
        | @emp ad n =>
        refine ⟨rfl, _, rfl, fun w _ => ?_⟩
        have := run_bytesToString (P := P) (w := w) (a := ad) (xs := []) (bs := []) (cp := n) (by simp [loadCells, loadCellsFrom, Pure.pure, Sem.run]) rfl (by simp)
        simp only [convert, Sem.run_bind, us w, ud w, ok.und he w, Result.andThen]
        exact this
    | sl id off len cap ex =>
      simp only [] at hr
      cases h8 : isSlU8 c a with
      | false => rw [h8] at hr; cases hr
      | true =>
        rw [h8] at hr
        obtain ⟨e, rfl, he⟩ := isSlU8_ok h8
        simp only [cond_true, convBytes] at hr
        cases hrow : rowOf h id with
        | none => rw [hrow] at hr; cases hr
        | some r =>
          rw [hrow] at hr
          simp only [nat_ble] at hr
          by_cases hle : off + len ≤ r.n
          · simp only [hle, decide_true, cond_true] at hr
            cases hg : getN r.t off len with
            | none => rw [hg] at hr; cases hr
            | some l =>
              rw [hg] at hr
              simp only [] at hr
              cases hb : litBytes l with
              | none => rw [hb] at hr; cases hr
              | some bs =>
                rw [hb] at hr
                cases hr
                refine ⟨rfl, _, rfl, fun w hw => ?_⟩
                obtain ⟨q, m', cs, ty, fz, hq, hbk, hR⟩ := hw _ _ _ _ _ rfl r hrow
                obtain ⟨xs, g1, g2, g3⟩ := getN_ok hR len off l hg hle
                obtain ⟨b1, b2⟩ := litBytes_ok hb g1
                have hld := run_loadCells' (P := P) hbk xs g3
                have key : ∀ cp, (convert src dst (.slice (some ⟨q.b, q.base + off, none⟩) len cp)).run P w = .ok (.string ⟨bs.toArray⟩) w := by
                  intro cp
                  have := run_bytesToString (P := P) (w := w) (cp := cp) hld b1 b2
                  rw [g2] at this
                  simp only [convert, Sem.run_bind, us w, ud w, ok.und he w, Result.andThen]
                  exact this
                cases hx with
                | sl hq' => rw [hq] at hq'; cases hq'; exact key _
                | slo hq' => rw [hq] at hq'; cases hq'; exact key _
          · simp [hle] at hr
    | _ => cases hr

/-- A light operation of a region that draws its order. -/
theorem light_S (ok : CfgOk P c) (pk : PlainOk P c) (R : Rep N m h w) (hm : Mp.Le m0 m) {L : List (Nat × VO)} (hc : chkL h L = true) (h0 : SL0 m0 L) {e : T VV} {E : Env} (her : ER m e E)
    (op : Op) (hk : kdXOp c op = 0) (hrd : rdOk0 c L e h op = true) (dst : Option Tmp) (ty : TypeId) (pos : String) (af : Array Edge) (gd : Option (Nat × Bool)) :
    (∃ s, xop op c e h = .no s) ∨ ∃ v, xop op c e h = .val v h ∧ ∃ y, VR m v y ∧ ∀ w', SL m0 L w' → (execOp (ev E) ⟨dst, op, ty, pos, af, gd⟩).run P w' = .ok (.value y) w' := by
  have hE : ∀ x, VR m (evo x e) (ev E x) := fun x => her.evo R.glob x
  by_cases hk0 : kdOp c op = 0
  · rcases op_light (N := N) (w := w) ok pk R her op (by omega) dst ty pos af gd with ⟨s, hs⟩ | ⟨v, h', hv, rfl, hp, _⟩
    · exact .inl ⟨s, hs⟩
    · obtain ⟨y, hy, hys⟩ := hp hk0
      exact .inr ⟨v, hv, y, hy, fun w' _ => hys w'⟩
  · obtain ⟨w0, h0⟩ := h0
    cases op <;> first | (exact absurd hk hk0) | skip
    case load t x =>
      show (∃ s, onlyVal (xLoad c h t (evo x e)) = .no s) ∨ ∃ v, onlyVal (xLoad c h t (evo x e)) = .val v h ∧ _
      cases hl : xLoad c h t (evo x e) with
      | val v h' =>
        refine .inr ⟨v, ?_⟩
        obtain ⟨rfl, id, off, r, q, hxp, hrow, hq, hall⟩ := load_S (P := P) ok hl (hE x)
        refine ⟨rfl, ?_⟩
        have hrd' : (memId id L && isVal (xop (.load t x) c e h')) = true := by
          have h1 : rdOk0 c L e h' (.load t x) = (match rdOf e (.load t x) with | some id => memId id L && isVal (xop (.load t x) c e h') | none => true) := rfl
          rw [h1] at hrd
          have h2 : rdOf e (.load t x) = some id := by simp only [rdOf, hxp]
          rw [h2] at hrd; exact hrd
        rw [Bool.and_eq_true] at hrd'
        obtain ⟨hmem, hval⟩ := hrd'
        have hex : exactV 20 v = true := by
          have h3 : xop (.load t x) c e h' = .val v h' := by show onlyVal (xLoad c h' t (evo x e)) = _; rw [hl]; rfl
          rw [h3] at hval; exact hval
        obtain ⟨o, hmo⟩ := memId_mem hmem
        have hgo : h'.get id = some o := chkL_mem hc _ hmo
        have hro : o = .row r.t r.n r.k := by have := rowOf_get hrow; rw [hgo] at this; injection this
        subst hro
        obtain ⟨q0, ob0, a1, a2, a3⟩ := h0 _ hmo
        have hq0 : q0 = q := by have := hm _ _ a1; rw [hq] at this; injection this with h; exact h.symm
        subst hq0
        cases a3 with
        | row hR0 =>
        obtain ⟨y0, hy0, _⟩ := hall w0 m0 _ _ _ a2 hR0
        refine ⟨y0, hy0.mono hm, fun w' hS => ?_⟩
        obtain ⟨m', hm', hS⟩ := hS
        obtain ⟨q1, ob1, b1, b2, b3⟩ := hS _ hmo
        have hq1 : q1 = q0 := by have := hm' _ _ a1; rw [b1] at this; injection this
        subst hq1
        cases b3 with
        | row hR1 =>
        obtain ⟨y1, hy1, hrun⟩ := hall w' m' _ _ _ b2 hR1
        have : y0 = y1 := VR.exact hm' 20 hy0 hy1 hex
        subst this
        simp only [execOp, Sem.run_bind, hrun, Result.andThen, pure_run]
      | no s => exact .inl ⟨s, rfl⟩
      | _ => exact .inl ⟨_, rfl⟩
    case convert a b x =>
      have hstr : c.und b = some .string := by
        have hi : (isIntT c b || isStrTy c b) = true := by
          cases hi : (isIntT c b || isStrTy c b) with
          | true => rfl
          | false => simp [kdXOp, hi] at hk
        rw [Bool.or_eq_true] at hi
        rcases hi with hi | hi
        · exfalso; apply hk0; simp [kdOp, hi]
        · unfold isStrTy at hi
          split at hi
          · assumption
          · cases hi
      show (∃ s, onlyVal (convV c a b (evo x e) h) = .no s) ∨ ∃ v, onlyVal (convV c a b (evo x e) h) = .val v h ∧ _
      cases hl : convV c a b (evo x e) h with
      | val v h' =>
        refine .inr ⟨v, ?_⟩
        obtain ⟨rfl, s, rfl, hall⟩ := convStr_S (P := P) ok hstr hl (hE x)
        refine ⟨rfl, .string s, .lit _, fun w' hS => ?_⟩
        have hrun := hall w' (fun id off len cap ex hxs r hrow => by
          have h1 : rdOk0 c L e h' (.convert a b x) = (match rdOf e (.convert a b x) with | some id => memId id L && isVal (xop (.convert a b x) c e h') | none => true) := rfl
          rw [h1] at hrd
          have h2 : rdOf e (.convert a b x) = some id := by simp only [rdOf, hxs]
          rw [h2] at hrd
          rw [Bool.and_eq_true] at hrd
          obtain ⟨o, hmo⟩ := memId_mem hrd.1
          have hgo : h'.get id = some o := chkL_mem hc _ hmo
          have hro : o = .row r.t r.n r.k := by have := rowOf_get hrow; rw [hgo] at this; injection this
          subst hro
          obtain ⟨q0, ob0, a1, a2, a3⟩ := h0 _ hmo
          obtain ⟨m', hm', hS⟩ := hS
          obtain ⟨q1, ob1, b1, b2, b3⟩ := hS _ hmo
          have hq1 : q1 = q0 := by have := hm' _ _ a1; rw [b1] at this; injection this
          subst hq1
          cases b3 with
          | row hR1 => exact ⟨q1, m', _, _, _, hm _ _ a1, b2, hR1⟩)
        simp only [execOp, Sem.run_bind, hrun, Result.andThen, pure_run]
      | no s => exact .inl ⟨s, rfl⟩
      | _ => exact .inl ⟨_, rfl⟩
end
end Go.M
/- The machine is right. -/
namespace Go.M
open Go Go.V Go.RowKit
noncomputable section
set_option linter.unusedSimpArgs false
set_option linter.unusedVariables false

section
variable {P : Program} {c : Cfg} {m : Mp} {h h' : H} {v : VV} {N : Nat} {w : World}

inductive DSR (m : Mp) : List VD → List Deferred → Prop
  | nil : DSR m [] []
  | cons {d : VD} {x : Deferred} {l : List VD} {xs : List Deferred} : DR m d x → DSR m l xs → DSR m (d :: l) (x :: xs)
theorem DSR.mono {m m' : Mp} (hm : Mp.Le m m') : ∀ {l : List VD} {xs : List Deferred}, DSR m l xs → DSR m' l xs
  | _, _, .nil => .nil
  | _, _, .cons a b => .cons (a.mono hm) (b.mono hm)

def rOk (m : Mp) (r : Option Nat) : Option Nat → Prop
  | none => r = none
  | some l => ∃ q, m l = some q ∧ r = some q.b
theorem rOk.mono {m m' : Mp} (hm : Mp.Le m m') {r : Option Nat} {o : Option Nat} (h : rOk m r o) : rOk m' r o := by
  cases o with
  | none => exact h
  | some l => obtain ⟨q, a, b⟩ := h; exact ⟨q, hm _ _ a, b⟩

/-! environments -/
def setT (d : Option Tmp) (n : Nat) (e : T VV) (v : VV) : T VV := match d with
  | none => e
  | some d => bif Nat.blt d n then T.put 12 e d v else e
theorem setO_eq (d : Option Tmp) (n : Nat) (e : T VV) (v : VV) (k : T VV → Outs) : setO d n e v k = k (setT d n e v) := by
  cases d with
  | none => rfl
  | some d =>
    show (bif Nat.blt d n then T.setK 12 e d v k else k e) = _
    unfold setT
    simp only []
    cases Nat.blt d n with
    | false => rfl
    | true => simp only [cond_true]; exact T.setK_eq ..
theorem ER.set {e : T VV} {E : Env} {x : Value} {n : Nat} (her : ER m e E) (hv : VR m v x) (hn : n ≤ 4000) (d : Option Tmp) : ER m (setT d n e v) (upd n E d x) := by
  intro t
  cases d with
  | none => exact her t
  | some d =>
    simp only [setT, upd]
    cases hb : Nat.blt d n with
    | false =>
      simp only [cond_false]
      have : (bif Nat.beq t d then E t else E t) = E t := by cases Nat.beq t d <;> rfl
      rw [this]; exact her t
    | true =>
      simp only [cond_true]
      have hd : d < n := by simpa [Nat.blt_eq] using hb
      rw [T.get_put 12 e d t v (Nat.lt_of_le_of_lt (Nat.le_trans (Nat.succ_le_of_lt hd) hn) (by decide)), nat_beq]
      by_cases ht : t = d
      · simp only [ht, decide_true, cond_true, if_true]; exact hv
      · simp only [ht, decide_false, cond_false, if_false]; exact her t
theorem forceV_eq (v : VV) (k : VV → Outs) : forceV v k = k v := by
  unfold forceV
  cases v with
  | lit w =>
    cases w with
    | int kk n => exact forceInt_eq n (fun n => k (.lit (.int kk n)))
    | _ => rfl
  | ptr id off => show forceN id _ = _; rw [forceN_eq, forceN_eq]
  | sl id off len cap ex => show forceN id _ = _; rw [forceN_eq, forceN_eq, forceN_eq, forceN_eq]
  | _ => rfl

theorem wanted_ok {ops : Array Oper} {e : T VV} {E : Env} (her : ER m e E) (o : Oper) : wantedE ops E o = wantedV o.guard ops e := by
  unfold wantedE
  cases hg : o.guard with
  | none => rfl
  | some g =>
    obtain ⟨j, want⟩ := g
    show (match yieldedE ops E j with | some b => b == want | none => false) = wantB want (yieldedV ops e j)
    have : yieldedE ops E j = yieldedV ops e j := by
      unfold yieldedE yieldedV
      cases (ops[j]?).bind (·.dst) with
      | none => rfl
      | some t =>
        simp only []
        have ht := her t
        cases hget : e.get t with
        | none => rw [hget] at ht; generalize E t = x at ht; cases ht; rfl
        | some u =>
          rw [hget] at ht
          simp only [orU] at ht
          generalize E t = x at ht
          cases ht with
          | lit => cases x <;> rfl
          | _ => rfl
    rw [this]
    unfold wantB
    cases yieldedV ops e j <;> rfl

theorem envOf_eq : ∀ (vs : List VV) (i : Nat) (e : T VV), envOf vs i e = T.puts 12 vs i e
  | [], _, _ => rfl
  | v :: vs, i, e => by
    show T.setK 12 e i v (fun e => envOf vs (i + 1) e) = _
    rw [T.setK_eq, envOf_eq vs]; rfl
theorem ER.env0 {vs : List VV} {xs : List Value} (hx : VRL m vs xs) (hl : vs.length ≤ 4000) : ER m (envOf vs 0 .leaf) (env0 xs) := by
  intro t
  rw [envOf_eq, T.get_puts 12 vs 0 .leaf t (by omega)]
  have hlen := hx.length
  by_cases ht : t < vs.length
  · rw [if_pos (by omega), Nat.sub_zero]
    obtain ⟨x, h1, h2⟩ := hx.get t (vs[t]) (by simp [ht])
    simp only [List.getElem?_eq_getElem ht, orU, V.env0, List.getD_eq_getElem?_getD, h1]
    exact h2
  · rw [if_neg (by omega)]
    have : xs[t]? = none := by simp; omega
    simp only [T.get_leaf, orU, V.env0, List.getD_eq_getElem?_getD, this]
    exact .lit _

def exOf : X → Exit
  | .normal => .normal
  | .ret => .ret
  | .exit id => .exit id

/-- What a frame that has come to one of these ends must grant. -/
def Ends (N : Nat) (m : Mp) (w : World) (Fin : Post) (l : List Out) : Prop :=
  ∀ o ∈ l, ∀ (m' : Mp) (E' : Env) (dv' : List Deferred) (w' : World), Mp.Le m m' → Rep N m' o.h w' → ER m' o.e E' → DSR m' o.ds dv' → Below N w w' → Fin (exOf o.x) E' dv' w'

theorem Ends.go {Fin : Post} {l l' : List Out} {m' : Mp} {w' : World} (he : Ends N m w Fin l) (hm : Mp.Le m m') (hb : Below N w w') (hs : ∀ o ∈ l', o ∈ l) : Ends N m' w' Fin l' :=
  fun o ho m2 E2 dv2 w2 h1 h2 h3 h4 h5 => he o (hs o ho) m2 E2 dv2 w2 (hm.trans h1) h2 h3 h4 (hb.trans h5)

/-- No end by a panic. -/
def Calm (Fin : Post) : Prop := ∀ ch e ds w, ¬ Fin (.panic ch) e ds w
theorem calm_finM {P : Program} {fn : Func} {R : Ending → World → Prop} : Calm (finM P fn R) := fun _ _ _ _ h => h
theorem calm_finR {P : Program} {l : Nat} {R : Ending → World → Prop} : Calm (finR P l R) := fun _ _ _ _ h => h
def kdM (c : Cfg) (ops : Array Oper) : Bool → Nat → Nat
  | true => kdC c ops
  | false => fun _ => 3

/-- The command is right about its ends. -/
def Sound (P : Program) (c : Cfg) (N : Nat) : Cmd → List Out → Prop
  | .fr f K e ds h, l => ∀ (m : Mp) (w : World) (E : Env) (dv : List Deferred) (r : Option Nat) (Fin : Post), f.n ≤ 4000 → Rep N m h w → ER m e E → DSR m ds dv → rOk m r f.r → Calm Fin → Ends N m w Fin l → WS P r f.n Fin K E dv w
  | .ops md f ops lo K e ds h, l => ∀ (m : Mp) (w : World) (E : Env) (dv : List Deferred) (r : Option Nat) (Fin : Post) (i : Nat), f.n ≤ 4000 → Rep N m h w → ER m e E → DSR m ds dv → rOk m r f.r → Calm Fin → (md = true → lo = ops.toList.drop i) → Ends N m w Fin l →
      WOL ⟨P, r, f.n, ops, fun _ => True, kdM c ops md, Fin, K⟩ i lo E dv w
  | .xr x todo e ds h, l => ∀ (m0 m : Mp) (w : World) (E : Env) (dv : List Deferred) (r : Option Nat) (Fin : Post) (K : List Item) (Done : Env → List Deferred → World → Prop), x.f.n ≤ 4000 → Mp.Le m0 m → SL0 m0 x.L → chkL h x.L = true → todo.Nodup →
      Rep N m h w → ER m e E → DSR m ds dv → rOk m r x.f.r → Calm Fin → (∀ o ∈ l, ∀ (m' : Mp) (E' : Env) (dv' : List Deferred) (w' : World), Mp.Le m m' → Rep N m' o.h w' → ER m' o.e E' → DSR m' o.ds dv' → Below N w w' → Done E' dv' w') →
      WT ⟨P, r, x.f.n, x.ops, SL m0 x.L, kdL x.lt, Fin, K⟩ Done todo.length todo E dv w

def SoundRec (P : Program) (c : Cfg) (N : Nat) (rec : Rec) : Prop := ∀ cmd l, (rec cmd).list = some l → Sound P c N cmd l

/-! ends of calls -/
theorem catOuts_ok : ∀ {os : List Outs} {l : List Out}, catOuts os = some l → ∀ o ∈ os, ∃ l', o.list = some l' ∧ ∀ p ∈ l', p ∈ l
  | [], l, _, o, ho => by simp at ho
  | o' :: os, l, hc, o, ho => by
    simp only [catOuts] at hc
    cases h1 : o'.list with
    | none => rw [h1] at hc; cases hc
    | some a =>
      cases h2 : catOuts os with
      | none => rw [h1, h2] at hc; cases hc
      | some b =>
        rw [h1, h2] at hc
        cases hc
        rcases List.mem_cons.1 ho with rfl | ho
        · exact ⟨a, h1, fun p hp => List.mem_append_left _ hp⟩
        · obtain ⟨l', h3, h4⟩ := catOuts_ok h2 o ho
          exact ⟨l', h3, fun p hp => List.mem_append_right _ (h4 p hp)⟩
theorem joinOuts_ok {os : List Outs} {l : List Out} (h : (joinOuts os).list = some l) : ∀ o ∈ os, ∃ l', o.list = some l' ∧ ∀ p ∈ l', p ∈ l := by
  unfold joinOuts at h
  cases hc : catOuts os with
  | none => rw [hc] at h; cases h
  | some l' => rw [hc] at h; cases h; exact catOuts_ok hc

/-! the states behind a call, brought together -/
theorem tSub_getW : ∀ {a b : T VO}, tSub a b = true → ∀ (p : W) (o : VO), T.getW p a = some o → T.getW p b = some o
  | .leaf, _, _, p, o, h => by rw [T.getW_leaf] at h; cases h
  | .node l v r, .leaf, hs, p, o, h => by
    simp only [tSub, Bool.and_eq_true] at hs
    cases p with
    | here =>
      have hv : v = some o := h
      rw [hv] at hs; simp [oSub] at hs
    | lf p => have := tSub_getW hs.1.2 p o h; rw [T.getW_leaf] at this; cases this
    | rt p => have := tSub_getW hs.2 p o h; rw [T.getW_leaf] at this; cases this
  | .node l v r, .node l' v' r', hs, p, o, h => by
    simp only [tSub, Bool.and_eq_true] at hs
    cases p with
    | here =>
      have hv : v = some o := h
      rw [hv] at hs
      show v' = some o
      cases v' with
      | none => simp [oSub] at hs
      | some o' => simp only [oSub] at hs; rw [voEq_eq hs.1.1]
    | lf p => exact tSub_getW hs.1.2 p o h
    | rt p => exact tSub_getW hs.2 p o h
theorem tSub_get {a b : H} (hs : tSub a.t b.t = true) {id : Nat} {o : VO} (h : a.get id = some o) : b.get id = some o := tSub_getW hs (T.way id) o h

mutual
theorem VR.back {m0 m' : Mp} (hm : Mp.Le m0 m') : ∀ {v : VV} {x y : Value}, VR m0 v x → VR m' v y → VR m0 v y
  | _, _, _, .lit _, .lit _ => .lit _
  | _, _, _, .ptr h, .ptr k => by rw [hm _ _ h] at k; cases k; exact .ptr h
  | _, _, _, .gp, .gp => .gp
  | _, _, _, .sl h, .sl k => by rw [hm _ _ h] at k; cases k; exact .sl h
  | _, _, _, .slo h _ _ _, .slo k b1 b2 b3 => by rw [hm _ _ h] at k; cases k; exact .slo h b1 b2 b3
  | _, _, _, .emp, .emp => .emp
  | _, _, _, .mp h, .mp k => by rw [hm _ _ h] at k; cases k; exact .mp h
  | _, _, _, .fn h1 h2, .fn k1 k2 => .fn (VRL.back hm h1 k1) (VRL.back hm h2 k2)
  | _, _, _, .yield h, .yield k => by rw [hm _ _ h] at k; cases k; exact .yield h
  | _, _, _, .ifc h, .ifc k => .ifc (VR.back hm h k)
  | _, _, _, .agg h, .agg k => .agg (VRL.back hm h k)
  | _, _, _, .tup h, .tup k => .tup (VRL.back hm h k)
theorem VRL.back {m0 m' : Mp} (hm : Mp.Le m0 m') : ∀ {l : List VV} {xs ys : List Value}, VRL m0 l xs → VRL m' l ys → VRL m0 l ys
  | _, _, _, .nil, .nil => .nil
  | _, _, _, .cons h hl, .cons k kl => .cons (VR.back hm h k) (VRL.back hm hl kl)
end
theorem VER.back {m0 m' : Mp} (hm : Mp.Le m0 m') : ∀ {l : List VE} {xs ys : List MapEntry}, VER m0 l xs → VER m' l ys → VER m0 l ys
  | _, _, _, .nil, .nil => .nil
  | _, _, _, .cons a b _ d, .cons a' b' c' d' => .cons (a.back hm a') (b.back hm b') c' (VER.back hm d d')
theorem RowR.back {m0 m' : Mp} (hm : Mp.Le m0 m') {q : Q} {t : T VV} {n : Nat} {k : RK} {cs cs' : Array Value} {fz fz' : Nat × Nat} (h : RowR m0 q t n k cs fz) (h' : RowR m' q t n k cs' fz') : RowR m0 q t n k cs' fz' :=
  ⟨fun i hi => by
    obtain ⟨v, x, a1, _, a3⟩ := h.cells i hi
    obtain ⟨v', x', b1, b2, b3⟩ := h'.cells i hi
    rw [a1] at b1; cases b1
    exact ⟨v, x', a1, b2, a3.back hm b3⟩, h'.rk, h'.le, h'.free⟩
theorem OR.back {m0 m' : Mp} (hm : Mp.Le m0 m') {q : Q} {o : VO} {ob ob' : Obj} (h : OR m0 q o ob) (h' : OR m' q o ob') : OR m0 q o ob' := by
  cases h with
  | row a => cases h' with
    | row b => exact .row (a.back hm b)
  | map a => cases h' with
    | map b => exact .map (a.back hm b)
  | iter0 h0 => cases h' with
    | iter0 h1 => exact .iter0 h1
  | iter h0 a => cases h' with
    | iter h1 b => rw [hm _ _ a] at b; cases b; exact .iter h1 a
  | loop a b c => cases h' with
    | loop a' b' c' => rw [hm _ _ c] at c'; cases c'; exact .loop a' (fun t => (b t).back hm (b' t)) c
  | dfd0 => cases h' with
    | dfd0 => exact .dfd0
  | dfd1 => cases h' with
    | dfd1 => exact .dfd1
  | dead => cases h' with
    | dead => exact .dead

theorem VR.lits {m m' : Mp} {v : VV} {x : Value} (h : VR m v x) (hl : isLitV v = true) : VR m' v x := by
  cases h <;> first | exact .lit _ | cases hl
theorem tAll_getW {α : Type} {p : α → Bool} : ∀ {t : T α}, tAll p t = true → ∀ (i : W) (a : α), T.getW i t = some a → p a = true
  | .leaf, _, i, a, h => by rw [T.getW_leaf] at h; cases h
  | .node l v r, hs, i, a, h => by
    simp only [tAll, Bool.and_eq_true] at hs
    cases i with
    | here =>
      have hv : v = some a := h
      rw [hv] at hs; exact hs.1.1
    | lf i => exact tAll_getW hs.1.2 i a h
    | rt i => exact tAll_getW hs.2 i a h

/-- Only what was there before: the blocks are as they were, but for those that are new. -/
theorem Rep.old {m0 m' : Mp} {h0 h' : H} {w0 w' : World} (R0 : Rep N m0 h0 w0) (hm : Mp.Le m0 m') (R : Rep N m' h' w') (hs : tSub h0.t h'.t = true) : Rep N m0 h0 w' := by
  refine ⟨?_, ?_, ?_, R0.fresh, R0.glob, R.size, R0.cap⟩
  · intro id o hg
    obtain ⟨q0, ob0, a1, _, a3⟩ := R0.obj id o hg
    obtain ⟨q, ob, b1, b2, b3⟩ := R.obj id o (tSub_get hs hg)
    rw [hm _ _ a1] at b1; cases b1
    exact ⟨q0, ob, a1, b2, a3.back hm b3⟩
  · exact R0.inj
  · exact R0.own

theorem gcS_ok {m0 m' : Mp} {h0 h' : H} {w0 w' : World} {v v' : VV} {x : Value} {h'' : H} (hg : gcS h0 v h' = some (v', h'')) (R0 : Rep N m0 h0 w0) (hm : Mp.Le m0 m') (R : Rep N m' h' w') (hx : VR m' v x) :
    ∃ m'', Mp.Le m0 m'' ∧ VR m'' v' x ∧ Rep N m'' h'' w' := by
  unfold gcS at hg
  cases v with
  | lit u =>
    simp only [] at hg
    cases hs : tSub h0.t h'.t with
    | false => rw [hs] at hg; cases hg
    | true =>
      rw [hs] at hg; cases hg
      exact ⟨m0, .refl m0, hx.lits rfl, R0.old hm R hs⟩
  | sl id off len cap ex =>
    simp only [] at hg
    cases h1 : h0.get id with
    | some _ => rw [h1] at hg; cases hg
    | none =>
      rw [h1] at hg
      simp only [] at hg
      cases h2 : h'.get id with
      | none => rw [h2] at hg; cases hg
      | some o =>
        rw [h2] at hg
        simp only [] at hg
        cases hs : (Nat.ble 18 id && tSub h0.t h'.t) with
        | false => rw [hs] at hg; cases hg
        | true =>
          rw [hs, cond_true] at hg
          simp only [Bool.and_eq_true, Nat.ble_eq] at hs
          obtain ⟨h18, hs⟩ := hs
          unfold gcNew at hg
          cases o with
          | row t n k =>
            simp only [] at hg
            cases hc : (tAll isLitV t && h0.okNext) with
            | false => rw [hc] at hg; cases hg
            | true =>
              rw [hc, cond_true, T.setK_eq] at hg
              cases hg
              rw [Bool.and_eq_true] at hc
              obtain ⟨hlit, hok⟩ := hc
              have hf : h0.Free := h0.okNext_eq.1 hok
              have R1 := R0.old hm R hs
              obtain ⟨q, ob, a1, a2, a3⟩ := R.obj id _ h2
              have hle : Mp.Le m0 (m0.set h0.next q) := Mp.set_le (R0.atNext hf)
              have hor : ∀ m2, OR m2 q (.row t n k) ob := by
                intro m2
                cases a3 with
                | row hR => exact .row ⟨fun i hi => by
                    obtain ⟨u, y, b1, b2, b3⟩ := hR.cells i hi
                    exact ⟨u, y, b1, b2, b3.lits (tAll_getW hlit (T.way i) u b1)⟩, hR.rk, hR.le, hR.free⟩
              refine ⟨m0.set h0.next q, hle, ?_, ?_⟩
              · cases hx with
                | sl hq => rw [a1] at hq; cases hq; exact .sl Mp.set_self
                | slo hq c1 c2 c3 => rw [a1] at hq; cases hq; exact .slo Mp.set_self c1 c2 c3
              · have hno : ∀ j o' q', h0.get j = some o' → m0 j = some q' → o'.live = true → (VO.row t n k).wr = true → q.b ≠ q'.b := by
                  intro j o' q' hj hq' hlv hwr he
                  have := R.inj id j _ o' q q' h2 (tSub_get hs hj) hwr hlv a1 (hm _ _ hq') he
                  subst this
                  rw [h1] at hj; cases hj
                have hno2 : ∀ j o' q', h0.get j = some o' → m0 j = some q' → o'.wr = true → q'.b ≠ q.b := by
                  intro j o' q' hj hq' hwr he
                  have := R.inj j id o' _ q' q (tSub_get hs hj) h2 hwr rfl (hm _ _ hq') a1 he
                  subst this
                  rw [h1] at hj; cases hj
                refine ⟨?_, ?_, ?_, ?_, ?_, R.size, ?_⟩
                · intro j o' hj
                  rw [show H.get ⟨T.put 20 h0.t h0.next (.row t n k), h0.next.succ⟩ j = _ from get_new j hf] at hj
                  by_cases hjn : j = h0.next
                  · rw [if_pos hjn] at hj; cases hj
                    exact ⟨q, ob, by rw [hjn]; exact Mp.set_self, a2, hor _⟩
                  · rw [if_neg hjn] at hj
                    obtain ⟨q', ob', b1, b2, b3⟩ := R1.obj j o' hj
                    exact ⟨q', ob', hle _ _ b1, b2, b3.mono hle⟩
                · intro a b o1 o2 q1 q2 ha hb hw1 hlv hq1 hq2 he
                  rw [show H.get ⟨T.put 20 h0.t h0.next (.row t n k), h0.next.succ⟩ a = _ from get_new a hf] at ha
                  rw [show H.get ⟨T.put 20 h0.t h0.next (.row t n k), h0.next.succ⟩ b = _ from get_new b hf] at hb
                  by_cases ea : a = h0.next
                  · by_cases eb : b = h0.next
                    · omega
                    · rw [if_pos ea] at ha; cases ha
                      rw [if_neg eb] at hb
                      rw [ea, Mp.set_self] at hq1; cases hq1
                      rw [Mp.set_ne eb] at hq2
                      exact absurd he (hno b o2 q2 hb hq2 hlv hw1)
                  · rw [if_neg ea] at ha
                    rw [Mp.set_ne ea] at hq1
                    by_cases eb : b = h0.next
                    · rw [eb, Mp.set_self] at hq2; cases hq2
                      exact absurd he (hno2 a o1 q1 ha hq1 hw1)
                    · rw [if_neg eb] at hb
                      rw [Mp.set_ne eb] at hq2
                      exact R1.inj _ _ _ _ _ _ ha hb hw1 hlv hq1 hq2 he
                · intro a o1 q1 ha hw1 hq1
                  rw [show H.get ⟨T.put 20 h0.t h0.next (.row t n k), h0.next.succ⟩ a = _ from get_new a hf] at ha
                  by_cases ea : a = h0.next
                  · rw [if_pos ea] at ha; cases ha
                    rw [ea, Mp.set_self] at hq1; cases hq1
                    exact R.own id _ q h2 hw1 a1
                  · rw [if_neg ea] at ha
                    rw [Mp.set_ne ea] at hq1
                    exact R1.own _ _ _ ha hw1 hq1
                · intro j hj hnone
                  rw [show H.get ⟨T.put 20 h0.t h0.next (.row t n k), h0.next.succ⟩ j = _ from get_new j hf] at hnone
                  by_cases ea : j = h0.next
                  · rw [if_pos ea] at hnone; cases hnone
                  · rw [if_neg ea] at hnone
                    rw [Mp.set_ne ea]; exact R0.fresh j hj hnone
                · intro g hg18
                  have := hf.2.1
                  rw [Mp.set_ne (by omega)]; exact R0.glob g hg18
                · intro j o' hj
                  rw [show H.get ⟨T.put 20 h0.t h0.next (.row t n k), h0.next.succ⟩ j = _ from get_new j hf] at hj
                  by_cases ea : j = h0.next
                  · rw [ea]; exact hf.1
                  · rw [if_neg ea] at hj; exact R0.cap _ _ hj
          | _ => cases hg
  | _ => cases hg

theorem gcV_ok {m0 m' : Mp} {h0 h' : H} {w0 w' : World} {v v' : VV} {x : Value} {h'' : H} (hg : gcV h0 v h' = some (v', h'')) (R0 : Rep N m0 h0 w0) (hm : Mp.Le m0 m') (R : Rep N m' h' w') (hx : VR m' v x) :
    ∃ m'', Mp.Le m0 m'' ∧ VR m'' v' x ∧ Rep N m'' h'' w' := by
  unfold gcV at hg
  cases v with
  | tup l =>
    simp only [] at hg
    unfold gcT at hg
    split at hg
    · rename_i a y
      cases hs : gcS h0 a h' with
      | none => rw [hs] at hg; cases hg
      | some p =>
        rw [hs] at hg
        cases hg
        cases hx with
        | tup hl =>
        cases hl with
        | cons ha hr =>
        cases hr with
        | cons hy hn =>
        cases hn
        obtain ⟨m'', k1, k2, k3⟩ := gcS_ok (v' := p.1) (h'' := p.2) hs R0 hm R ha
        exact ⟨m'', k1, .tup (.cons k2 (.cons (hy.lits rfl) .nil)), k3⟩
    · cases hg
  | _ => exact gcS_ok hg R0 hm R hx

theorem gcP_ok {m0 m' : Mp} {h0 h' : H} {w0 w' : World} {v : VV} {x : Value} (R0 : Rep N m0 h0 w0) (hm : Mp.Le m0 m') (R : Rep N m' h' w') (hx : VR m' v x) :
    ∃ m'', Mp.Le m0 m'' ∧ VR m'' (gcP h0 (v, h')).1 x ∧ Rep N m'' (gcP h0 (v, h')).2 w' := by
  unfold gcP
  cases hg : gcV h0 (v, h').1 (v, h').2 with
  | none => exact ⟨m', hm, hx, R⟩
  | some p => exact gcV_ok (v' := p.1) (h'' := p.2) hg R0 hm R hx

theorem leaveAll_ok {fn : Func} : ∀ {l : List Out} {ps : List (VV × H)}, leaveAll c fn l = some ps → ∀ o ∈ l, (o.x = .normal ∨ o.x = .ret) ∧ ∃ p ∈ ps, leaveV c fn o.e o.ds o.h = some p
  | [], _, _, o, ho => by simp at ho
  | o' :: os, ps, hl, o, ho => by
    simp only [leaveAll] at hl
    have key : (o'.x = .normal ∨ o'.x = .ret) ∧ ∃ p qs, leaveV c fn o'.e o'.ds o'.h = some p ∧ leaveAll c fn os = some qs ∧ ps = p :: qs := by
      cases hx : o'.x with
      | exit id => rw [hx] at hl; cases hl
      | _ =>
        rw [hx] at hl
        simp only [] at hl
        cases h1 : leaveV c fn o'.e o'.ds o'.h with
        | none => rw [h1] at hl; cases hl
        | some p =>
          cases h2 : leaveAll c fn os with
          | none => rw [h1, h2] at hl; cases hl
          | some qs =>
            rw [h1, h2] at hl
            injection hl with hl
            exact ⟨by first | exact .inl rfl | exact .inr rfl, p, qs, rfl, rfl, hl.symm⟩
    obtain ⟨k1, p, qs, k2, k3, rfl⟩ := key
    rcases List.mem_cons.1 ho with rfl | ho
    · exact ⟨k1, p, List.mem_cons_self, k2⟩
    · obtain ⟨a, p', b, d⟩ := leaveAll_ok k3 o ho
      exact ⟨a, p', List.mem_cons_of_mem _ b, d⟩

theorem goAll_ok {k : VV → H → Outs} {ps : List (VV × H)} {l : List Out} (h : (goAll k ps).list = some l) : ∀ p ∈ ps, ∃ l', (k p.1 p.2).list = some l' ∧ ∀ o ∈ l', o ∈ l := by
  unfold goAll at h
  split at h
  · cases h
  · rename_i p
    intro p' hp'
    rw [List.mem_singleton] at hp'
    subst hp'
    rw [forceV_eq] at h
    exact ⟨l, h, fun o ho => ho⟩
  · intro p hp
    exact joinOuts_ok h _ (List.mem_map.2 ⟨p, hp, rfl⟩)

/-- What a call hands back may be told in another state. -/
def Turned (mg : Bool) (h0 : H) (v : VV) (h : H) (v' : VV) (h' : H) : Prop := (v' = v ∧ h' = h) ∨ (v', h') = gcP h0 (v, h)
theorem Turned.ok {mg : Bool} {m0 m' : Mp} {h0 h' : H} {w0 w' : World} {v v' : VV} {x : Value} {h'' : H} (ht : Turned mg h0 v h' v' h'') (R0 : Rep N m0 h0 w0) (hm : Mp.Le m0 m') (R : Rep N m' h' w') (hx : VR m' v x) :
    ∃ m'', Mp.Le m0 m'' ∧ VR m'' v' x ∧ Rep N m'' h'' w' := by
  rcases ht with ⟨rfl, rfl⟩ | ht
  · exact ⟨m', hm, hx, R⟩
  · obtain ⟨m'', a, b, d⟩ := gcP_ok R0 hm R hx
    rw [← ht] at b d
    exact ⟨m'', a, b, d⟩

theorem bindLeave_ok {fn : Func} {mg : Bool} {h0 : H} {os : Outs} {k : VV → H → Outs} {l : List Out} (hb : (bindLeave c fn mg h0 os k).list = some l) :
    ∃ lo, os.list = some lo ∧ ∀ o ∈ lo, (o.x = .normal ∨ o.x = .ret) ∧ ∃ v h' v' h'' l', leaveV c fn o.e o.ds o.h = some (v, h') ∧ Turned mg h0 v h' v' h'' ∧ (k v' h'').list = some l' ∧ ∀ p ∈ l', p ∈ l := by
  unfold bindLeave at hb
  cases os with
  | fail s => cases hb
  | one o =>
    refine ⟨[o], rfl, fun o' ho => ?_⟩
    rw [List.mem_singleton] at ho
    subst ho
    simp only [] at hb
    cases hx : o'.x with
    | exit id => rw [hx] at hb; cases hb
    | _ =>
      rw [hx] at hb
      simp only [] at hb
      cases hl : leaveV c fn o'.e o'.ds o'.h with
      | none => rw [hl] at hb; cases hb
      | some p =>
        obtain ⟨v, h'⟩ := p
        rw [hl] at hb
        simp only [forceV_eq] at hb
        first
          | exact ⟨.inl rfl, v, h', v, h', l, rfl, .inl ⟨rfl, rfl⟩, hb, fun p hp => hp⟩
          | exact ⟨.inr rfl, v, h', v, h', l, rfl, .inl ⟨rfl, rfl⟩, hb, fun p hp => hp⟩
  | many lo =>
    simp only [] at hb
    cases hl : leaveAll c fn lo with
    | none => rw [hl] at hb; cases hb
    | some ps =>
      rw [hl] at hb
      refine ⟨lo, rfl, fun o ho => ?_⟩
      obtain ⟨h1, p, hp, h2⟩ := leaveAll_ok hl o ho
      refine ⟨h1, p.1, p.2, ?_⟩
      cases mg with
      | false =>
        obtain ⟨l', h3, h4⟩ := goAll_ok hb p (mem_dedup (fun _ _ => pEq_eq) hp)
        exact ⟨p.1, p.2, l', h2, .inl ⟨rfl, rfl⟩, h3, h4⟩
      | true =>
        have hp' : gcP h0 p ∈ gcAll true h0 ps := List.mem_map.2 ⟨p, hp, rfl⟩
        obtain ⟨l', h3, h4⟩ := goAll_ok hb _ (mem_dedup (fun _ _ => pEq_eq) hp')
        exact ⟨(gcP h0 p).1, (gcP h0 p).2, l', h2, .inr rfl, h3, h4⟩

theorem bindOuts_ok {os : Outs} {k : Out → Outs} {l : List Out} (hb : (bindOuts os k).list = some l) : ∃ lo, os.list = some lo ∧ ∀ o ∈ lo, ∃ l', (k o).list = some l' ∧ ∀ p ∈ l', p ∈ l := by
  unfold bindOuts at hb
  cases os with
  | fail s => cases hb
  | one o => exact ⟨[o], rfl, fun o' ho => by rw [List.mem_singleton] at ho; subst ho; exact ⟨l, hb, fun p hp => hp⟩⟩
  | many lo => exact ⟨lo, rfl, fun o ho => joinOuts_ok hb _ (List.mem_map.2 ⟨o, ho, rfl⟩)⟩
end
end
end Go.M
/- Leaving a function; the steps of the machine. -/
namespace Go.M
open Go Go.V Go.RowKit
set_option linter.unusedSimpArgs false
set_option linter.unusedVariables false

section
variable {P : Program} {c : Cfg} {m : Mp} {h h' : H} {v : VV} {N : Nat} {w : World}

def resSem (tmps : Array Value) : ResultVar → Sem Value
  | .tmp t => Pure.pure (tmps.getD t undef)
  | .cell a t => do loadVar t (← asAddr (tmps.getD a undef))

theorem resV_ok (ok : CfgOk P c) (R : Rep N m h w) {e : T VV} {E : Env} {n : Nat} {a : Act} (her : ER m e E) (ha : Agree n a E) {rv : ResultVar} (hr : resV c e h rv = some v) : ∃ x, VR m v x ∧ (resSem a.tmps rv).run P w = .ok x w := by
  cases rv with
  | tmp t =>
    simp only [resV, Option.some.injEq] at hr
    refine ⟨E t, ?_, by simp only [resSem, ha.2 t]; rfl⟩
    have := her t
    subst hr
    cases hg : e.get t with
    | none => rw [hg] at this; exact this
    | some u => rw [hg] at this; exact this
  | cell b t =>
    simp only [resV] at hr
    split at hr
    · rename_i id off hg
      have hb := her b
      rw [hg] at hb
      simp only [orU] at hb
      split at hr
      · rename_i r hrow
        obtain ⟨q, cs, ty, fz, hq, hbk, hR⟩ := R.row hrow
        obtain ⟨y, hy, hrun⟩ := partR_ok (P := P) ok hr hbk hR
        refine ⟨y, hy, ?_⟩
        generalize hE : E b = X at hb
        cases hb with
        | ptr hq' =>
        rw [hq] at hq'; cases hq'
        simp only [resSem, ha.2 b, hE, asAddr, Sem.run_bind, pure_run, Result.andThen, hrun]
      · cases hr
    · cases hr

theorem ressV_ok (ok : CfgOk P c) (R : Rep N m h w) {e : T VV} {E : Env} {n : Nat} {a : Act} (her : ER m e E) (ha : Agree n a E) : ∀ {rs : List ResultVar} {vs : List VV}, ressV c e h rs = some vs → ∃ xs, VRL m vs xs ∧ (rs.mapM (resSem a.tmps)).run P w = .ok xs w
  | [], vs, hr => by cases hr; exact ⟨[], .nil, rfl⟩
  | r :: rs, vs, hr => by
    simp only [ressV] at hr
    cases h1 : resV c e h r with
    | none => rw [h1] at hr; cases hr
    | some u =>
      cases h2 : ressV c e h rs with
      | none => rw [h1, h2] at hr; cases hr
      | some us =>
        rw [h1, h2] at hr
        cases hr
        obtain ⟨x, a1, a2⟩ := resV_ok (P := P) ok R her ha h1
        obtain ⟨xs, b1, b2⟩ := ressV_ok ok R her ha h2
        exact ⟨x :: xs, .cons a1 b1, by simp only [List.mapM_cons, Sem.run_bind, a2, b2, Result.andThen, pure_run]⟩

theorem results_eq (fn : Func) (tmps : Array Value) : results fn tmps = (fn.results.mapM (resSem tmps) >>= fun vs => Pure.pure (if h : vs.size = 1 then vs[0] else .tuple vs)) := by
  unfold results
  refine congrArg (fun (f : ResultVar → Sem Value) => (fn.results.mapM f >>= fun vs => Pure.pure (if h : vs.size = 1 then vs[0] else Value.tuple vs) : Sem Value)) (funext fun x => ?_)
  cases x <;> rfl

theorem results_ok (ok : CfgOk P c) (R : Rep N m h w) {fn : Func} {e : T VV} {E : Env} {n : Nat} {a : Act} (her : ER m e E) (ha : Agree n a E) (hr : resultsV c fn e h = some v) : ∃ x, VR m v x ∧ (results fn a.tmps).run P w = .ok x w := by
  unfold resultsV at hr
  have key : ∀ vs xs, VRL m vs xs → (match vs with | [v] => v | l => VV.tup l) = v → (fn.results.toList.mapM (resSem a.tmps)).run P w = .ok xs w → ∃ x, VR m v x ∧ (results fn a.tmps).run P w = .ok x w := by
    intro vs xs hvs hv hrun
    have hm : (fn.results.mapM (resSem a.tmps)).run P w = .ok xs.toArray w := by
      rw [Array.mapM_eq_mapM_toList, Sem.run_map, hrun]; rfl
    have hres : (results fn a.tmps).run P w = .ok (if h : xs.toArray.size = 1 then xs.toArray[0] else .tuple xs.toArray) w := by
      rw [results_eq, Sem.run_bind, hm]
      rfl
    cases hvs with
    | nil => subst hv; exact ⟨_, .tup .nil, by rw [hres]; simp⟩
    | @cons u x l ys hu hl =>
      cases hl with
      | nil => subst hv; exact ⟨x, hu, by rw [hres]; simp⟩
      | cons hu2 hl2 =>
        subst hv
        refine ⟨_, .tup (.cons hu (.cons hu2 hl2)), ?_⟩
        rw [hres]; simp
  cases hs : ressV c e h fn.results.toList with
  | none => rw [hs] at hr; cases hr
  | some vs =>
    rw [hs] at hr
    obtain ⟨xs, h1, h2⟩ := ressV_ok (P := P) ok R her ha hs
    refine key vs xs h1 ?_ h2
    split at hr
    · rename_i heq; cases heq; cases hr; rfl
    · rename_i l hne heq
      cases heq; cases hr
      split
      · rename_i u; exact absurd rfl (hne _)
      · rfl
    · rename_i heq; cases heq

/-- What a call comes to, told on states of the machine. -/
def Gives (P : Program) (g : FuncId) (args : List VV) (h : H) (l : List (VV × H)) : Prop :=
  ∀ (N : Nat) (m : Mp) (w : World) (xs : List Value), Rep N m h w → VRL m args xs →
    Calls P g xs.toArray w fun e w' => ∃ p ∈ l, ∃ m' x, e = .returned x ∧ Mp.Le m m' ∧ VR m' p.1 x ∧ Rep N m' p.2 w' ∧ Below N w w'

/-- What is known of the deferred closures that are passed by, and of the functions that are given. -/
structure QuietOk (P : Program) (c : Cfg) : Prop where
  ext : ∀ g F, c.ext g = some F → ∀ args h p, F args h = some p → (∃ fn, c.fns.get g = some fn ∧ fn.body.isSome = true) ∧ Gives P g args h [p]
  calls : ∀ f, c.quietD f = true → ∀ (xs : Array Value) (w : World), xs.size = 2 → ∃ fn, P.funcs[f]? = some fn ∧ fn.name ≠ "runtime.NumGoroutine" ∧ fn.body.isSome = true ∧
    CallsDIn (fw none) (0 - 1) P f xs .returning w fun e u w' => (∃ x, e = .returned x) ∧ u = .returning ∧ Below w.heap.size w w'

theorem leave_ok (ok : CfgOk P c) (qk : QuietOk P c) {fn : Func} {e : T VV} {E : Env} {a : Act} {Rr : Ending → World → Prop} : ∀ {ds : List VD} {dv : List Deferred} {h : H} {m : Mp} {w : World}, leaveV c fn e ds h = some (v, h') → Rep N m h w → ER m e E → Agree fn.ntmps a E → DSR m ds dv →
    (∀ x w', VR m v x → Rep N m h' w' → Below N w w' → Rr (.returned x) w') → LeavesInM (fw none) 0 P fn a.tmps Rr dv .returning w
  | [], dv, h, m, w, hl, R, her, ha, hds, hk => by
    cases hds
    simp only [leaveV] at hl
    cases hr : resultsV c fn e h with
    | none => rw [hr] at hl; cases hl
    | some u =>
      rw [hr] at hl
      cases hl
      obtain ⟨x, h1, h2⟩ := results_ok (P := P) ok R her ha hr
      exact ⟨x, h2, hk x w h1 R (.refl N w)⟩
  | .collected id :: ds, dv, h, m, w, hl, R, her, ha, hds, hk => by
    cases hds with
    | cons hd hrest =>
    cases hd with
    | @collected _ q hq =>
    simp only [leaveV] at hl
    split at hl
    · rename_i hg
      rw [H.setK_eq] at hl
      obtain ⟨q', ob, hq', hb, ho⟩ := R.obj _ _ hg
      rw [hq] at hq'; cases hq'
      cases ho
      have R2 : Rep N m ⟨h.t.put 20 id (.dfd true), h.next⟩ { w with heap := w.heap.setIfInBounds q.b (.deferred none) } := R.write hg rfl hq (ob := .deferred none) rfl .dfd1
      have B2 : Below N w { w with heap := w.heap.setIfInBounds q.b (.deferred none) } := below_write R hg rfl hq (ob := .deferred none) rfl rfl rfl rfl
      refine ⟨by simp, .inl ⟨q.b, { w with heap := w.heap.setIfInBounds q.b (.deferred none) }, rfl, ?_, ?_⟩⟩
      · have hget : (getObj q.b).run P w = .ok (.deferred (some [])) w := by simp [getObj, Sem.run, hb]
        have hset : (setObj q.b (.deferred none)).run P w = .ok () { w with heap := w.heap.setIfInBounds q.b (.deferred none) } := by simp [setObj, Sem.run, hb]
        simp only [Instr.takeDeferred, Sem.run_bind, hget, Result.andThen, hset, pure_run]
      · exact leave_ok ok qk hl R2 her ha hrest (fun x w' h1 h2 h3 => hk x w' h1 h2 (B2.trans h3))
    · cases hl
  | .clo f caps args :: ds, dv, h, m, w, hl, R, her, ha, hds, hk => by
    cases hds with
    | cons hd hrest =>
    cases hd with
    | @clo _ _ _ xs ys h1 h2 =>
    simp only [leaveV] at hl
    cases hqd' : (c.quietD f && Nat.beq (args.length + caps.length) 2) with
    | false => rw [hqd'] at hl; cases hl
    | true =>
      rw [hqd', cond_true] at hl
      rw [Bool.and_eq_true, nat_beq, decide_eq_true_eq] at hqd'
      obtain ⟨hqd, hlen2⟩ := hqd'
      have hl1 := h1.length
      have hl2 := h2.length
      obtain ⟨fn', hf1, hf2, hf3, hc⟩ := qk.calls f hqd (ys.toArray ++ xs.toArray) w (by simp; omega)
      have hinv : (invoke (.fn (.func f) xs.toArray) ys.toArray).run P w = .ok (.enter f (ys.toArray ++ xs.toArray)) w := by
        obtain ⟨body, hbody⟩ := Option.isSome_iff_exists.1 hf3
        have h3 : (fn'.name == "runtime.NumGoroutine") = false := beq_eq_false_iff_ne.2 hf2
        simp only [invoke, callFunc, program, Sem.run_bind, Sem.run, Result.andThen, Pure.pure, hf1]
        simp [h3, hbody, Sem.run, Pure.pure]
      refine ⟨by simp, .inr ⟨fun hx => by simp [fw, Fence.wide] at hx, .func f, xs.toArray, f, ys.toArray ++ xs.toArray, rfl, hinv, fun g _ => trivial, hc.mono fun e u w' hx => ?_⟩⟩
      obtain ⟨⟨x, rfl⟩, rfl, hbel⟩ := hx
      show LeavesInM (fw none) 0 P fn a.tmps Rr _ (settle .returning) w'
      have hset : settle .returning = .returning := rfl
      rw [hset]
      have R2 : Rep N m h w' := ⟨fun i o hi => by
          obtain ⟨q, ob, q1, q2, q3⟩ := R.obj i o hi
          exact ⟨q, ob, q1, by rw [hbel.block q.b (Array.getElem?_eq_some_iff.1 q2).1]; exact q2, q3⟩, R.inj, R.own, R.fresh, R.glob, Nat.le_trans R.size hbel.size, R.cap⟩
      exact leave_ok ok qk hl R2 her ha hrest (fun x w'' k1 k2 k3 => hk x w'' k1 k2 ((hbel.mono R.size).trans k3))
end
end Go.M
