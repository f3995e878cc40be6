/- Judgements on operations of a region in every order. -/
import Derived.RangeFuncIn
import Derived.DefersIn
import Derived.OrdersIn
import Derived.Laws.Sem
set_option linter.unusedVariables false
set_option linter.unusedSimpArgs false
/- The base of the proofs: a judgement WS on the rest of a frame's work, over an environment that is a function, and its rules; and one rule for a region that draws its order. -/
namespace Go.V
open Go

abbrev Env := Nat → Value

/-- The environment behind a write to a slot, as the frame has it: nothing happens beyond its n slots. -/
def upd (n : Nat) (e : Env) (d : Option Nat) (v : Value) : Env :=
  match d with
  | none => e
  | some d => fun t => bif Nat.beq t d then (bif Nat.blt d n then v else e t) else e t

def ev (e : Env) : Operand → Value
  | .tmp t => e t
  | .const v => v
  | .global g => .pointer (some ⟨g, 0, none⟩)
  | .func f => .func (.func f) #[] #[]

def Agree (n : Nat) (a : Act) (e : Env) : Prop := a.tmps.size = n ∧ ∀ t, a.tmps.getD t undef = e t

theorem Agree.ev {n : Nat} {a : Act} {e : Env} (h : Agree n a e) : a.eval = ev e := by
  funext x
  cases x with
  | tmp t => exact h.2 t
  | _ => rfl

theorem Agree.put {n : Nat} {a : Act} {e : Env} (h : Agree n a e) (d : Option Nat) (v : Value) : Agree n (a.put d v) (upd n e d v) := by
  cases d with
  | none => exact h
  | some d =>
    refine ⟨by simp [Act.put, h.1], fun t => ?_⟩
    have hs := h.1
    simp only [Act.put, upd]
    by_cases ht : t = d
    · subst ht
      have h1 : Nat.beq t t = true := Nat.beq_refl t
      rw [h1, cond_true]
      by_cases hn : t < n
      · have h2 : Nat.blt t n = true := by simpa [Nat.blt_eq] using hn
        rw [h2, cond_true]
        simp [hs, hn]
      · have h2 : Nat.blt t n = false := by
          cases hb : Nat.blt t n
          · rfl
          · exact absurd (by rw [Nat.blt_eq] at hb; exact hb) hn
        rw [h2, cond_false, ← h.2 t]
        simp [hs, hn]
    · have h1 : Nat.beq t d = false := by
        cases hb : Nat.beq t d
        · rfl
        · exact absurd (Nat.eq_of_beq_eq_true hb) ht
      rw [h1, cond_false, ← h.2 t]
      simp [Array.getElem?_setIfInBounds_ne (Ne.symm ht)]

theorem upd_comm (n : Nat) (e : Env) {x y : Option Nat} (v u : Value) (h : ∀ d, x = some d → y ≠ some d) :
    upd n (upd n e x v) y u = upd n (upd n e y u) x v := by
  cases x with
  | none => rfl
  | some d =>
    cases y with
    | none => rfl
    | some c =>
      have hne : d ≠ c := fun he => h d rfl (he ▸ rfl)
      funext t
      simp only [upd]
      by_cases h1 : t = d
      · subst h1
        have hb : Nat.beq t c = false := by
          cases hb : Nat.beq t c
          · rfl
          · exact absurd (Nat.eq_of_beq_eq_true hb) hne
        simp [hb]
      · have hb : Nat.beq t d = false := by
          cases hb : Nat.beq t d
          · rfl
          · exact absurd (Nat.eq_of_beq_eq_true hb) h1
        simp [hb]

theorem upd_ne (n : Nat) (e : Env) {x : Option Nat} (v : Value) {t : Nat} (h : x ≠ some t) : upd n e x v t = e t := by
  cases x with
  | none => rfl
  | some d =>
    have hb : Nat.beq t d = false := by
      cases hb : Nat.beq t d
      · rfl
      · exact absurd (by rw [Nat.eq_of_beq_eq_true hb]) h
    simp [upd, hb]

theorem ev_upd (n : Nat) (e : Env) {x : Option Nat} (v : Value) {o : Operand} (h : ∀ d, x = some d → o ≠ .tmp d) : ev (upd n e x v) o = ev e o := by
  cases o with
  | tmp t => exact upd_ne n e v (fun he => h t he rfl)
  | _ => rfl

/-! ### The fence -/
def fw (r : Option Nat) : Fence := { Fence.wide with round := r }

theorem fenced_fw (P : Program) (r : Option Nat) (m : Machine) : m.fenced P (fw r) := fenced_wide P m
theorem fw_room (r : Option Nat) (n : Nat) : (fw r).room n := room_wide n
theorem callsIn_fw {r : Option Nat} {n : Nat} {P : Program} {f : FuncId} {args : Array Value} {w : World} {R : Ending → World → Prop} :
    CallsIn (fw r) n P f args w R ↔ Calls P f args w R := callsIn_wide (n := n)
theorem stepsIn_fw {P : Program} {r : Option Nat} {m m' : Machine} : StepsIn (Machine.fenced P (fw r)) P m m' ↔ Steps P m m' := stepsIn_wide

/-! ### The judgement -/
abbrev Post := Exit → Env → List Deferred → World → Prop

/-- From a frame with the work K before it, the frame comes to one of its ends, of which Fin holds. -/
def WS (P : Program) (r : Option Nat) (n : Nat) (Fin : Post) (K : List Item) (e : Env) (ds : List Deferred) (w : World) : Prop :=
  ∀ (a : Act), Agree n a e → a.defers = ds → ∀ (b : Frame) (cs : List Frame), b.roundOf = r →
    ∃ x a' w', (∃ e', Agree n a' e' ∧ Fin x e' a'.defers w') ∧ ArrivesIn (Machine.fenced P (fw r)) P (lone (b.atR a K) cs w) b [] cs x a' w'

section rules
variable {P : Program} {r : Option Nat} {n : Nat} {Fin : Post} {K : List Item} {e : Env} {ds : List Deferred} {w : World}

theorem WS.step {K' : List Item} {e' : Env} {ds' : List Deferred} {w' : World}
    (hs : ∀ a, Agree n a e → a.defers = ds → ∃ a', Agree n a' e' ∧ a'.defers = ds' ∧ ∀ (b : Frame) (cs : List Frame), b.roundOf = r → step P (lone (b.atR a K) cs w) = .next (lone (b.atR a' K') cs w'))
    (h : WS P r n Fin K' e' ds' w') : WS P r n Fin K e ds w := by
  intro a ha hd b cs hb
  obtain ⟨a', ha', hd', hs'⟩ := hs a ha hd
  obtain ⟨x, a2, w2, hf, harr⟩ := h a' ha' hd' b cs hb
  exact ⟨x, a2, w2, hf, .of_steps (.one (fenced_fw _ _ _) (hs' b cs hb)) harr⟩

theorem ws_nil (h : Fin .normal e ds w) : WS P r n Fin [] e ds w :=
  fun a ha hd _ _ _ => ⟨.normal, a, w, ⟨e, ha, hd ▸ h⟩, .refl _⟩

theorem ws_ret (h : Fin .ret e ds w) : WS P r n Fin (.code .ret :: K) e ds w :=
  fun a ha hd _ _ _ => ⟨.ret, a, w, ⟨e, ha, hd ▸ h⟩, fun hn => ⟨_, .one (fenced_fw _ _ _) (stepR_ret hn)⟩, fun _ => ⟨K, .refl _⟩⟩

theorem ws_skip (h : WS P r n Fin K e ds w) : WS P r n Fin (.code .skip :: K) e ds w :=
  .step (fun a ha hd => ⟨a, ha, hd, fun _ _ _ => stepR_skip⟩) h
theorem ws_label {l : Nat} (h : WS P r n Fin K e ds w) : WS P r n Fin (.code (.label l) :: K) e ds w :=
  .step (fun a ha hd => ⟨a, ha, hd, fun _ _ _ => stepR_label⟩) h
theorem ws_inBlock {id : Nat} (h : WS P r n Fin K e ds w) : WS P r n Fin (.inBlock id :: K) e ds w :=
  .step (fun a ha hd => ⟨a, ha, hd, fun _ _ _ => stepR_inBlock⟩) h
theorem ws_inScope {c : Code} (h : WS P r n Fin K e ds w) : WS P r n Fin (.inScope c :: K) e ds w :=
  .step (fun a ha hd => ⟨a, ha, hd, fun _ _ _ => step_lone_go (by simp [stepG, stepG.exec, Frame.atR])⟩) h
theorem ws_scope {c : Code} (h : WS P r n Fin (.code c :: .inScope c :: K) e ds w) : WS P r n Fin (.code (.scope c) :: K) e ds w :=
  .step (fun a ha hd => ⟨a, ha, hd, fun _ _ _ => step_lone_go (by simp [stepG, stepG.exec, Frame.atR])⟩) h
theorem ws_seq {x y : Code} (h : WS P r n Fin (.code x :: .code y :: K) e ds w) : WS P r n Fin (.code (.seq x y) :: K) e ds w :=
  .step (fun a ha hd => ⟨a, ha, hd, fun _ _ _ => stepR_seq⟩) h
theorem ws_block {id : Nat} {c : Code} (h : WS P r n Fin (.code c :: .inBlock id :: K) e ds w) : WS P r n Fin (.code (.block id c) :: K) e ds w :=
  .step (fun a ha hd => ⟨a, ha, hd, fun _ _ _ => stepR_block⟩) h
theorem ws_exit {id : Nat} {K' : List Item} (hk : exitTo id K = some K') (h : WS P r n Fin K' e ds w) : WS P r n Fin (.code (.exit id) :: K) e ds w :=
  .step (fun a ha hd => ⟨a, ha, hd, fun _ _ _ => stepR_exit hk⟩) h
theorem ws_goto {id : Nat} {K' : List Item} (hk : gotoIn id K = some K') (h : WS P r n Fin K' e ds w) : WS P r n Fin (.code (.goto id) :: K) e ds w :=
  .step (fun a ha hd => ⟨a, ha, hd, fun _ _ _ => stepR_goto hk⟩) h
/-- An exit that leaves a round. -/
theorem ws_exit_out {id : Nat} (hk : exitTo id K = none) (h : Fin (.exit id) e ds w) : WS P r n Fin (.code (.exit id) :: K) e ds w :=
  fun a ha hd _ _ _ => ⟨.exit id, a, w, ⟨e, ha, hd ▸ h⟩, fun _ h' => by simp [exitTo] at h', fun _ _ => ⟨K, hk, .refl _⟩⟩
theorem ws_cond {c : Operand} {x y : Code} {t : Bool} (hc : ev e c = .bool t) (ht : t = true → WS P r n Fin (.code x :: K) e ds w) (hf : t = false → WS P r n Fin (.code y :: K) e ds w) :
    WS P r n Fin (.code (.cond c x y) :: K) e ds w := by
  cases t with
  | true => exact .step (fun a ha hd => ⟨a, ha, hd, fun _ _ _ => by have := stepR_cond (P := P) (x := x) (y := y) (t := true) (by rw [ha.ev]; exact hc) (b := by assumption) (k := K) (cs := by assumption) (w := w); simpa using this⟩) (ht rfl)
  | false => exact .step (fun a ha hd => ⟨a, ha, hd, fun _ _ _ => by have := stepR_cond (P := P) (x := x) (y := y) (t := false) (by rw [ha.ev]; exact hc) (b := by assumption) (k := K) (cs := by assumption) (w := w); simpa using this⟩) (hf rfl)

/-- A loop, by an invariant over a state and a measure: the round is walked with the right to go on behind it at a lower measure. -/
theorem ws_loop {σ : Type} {c : Code} (I : σ → Env → List Deferred → World → Prop) (μ : σ → Nat) (s0 : σ) (h0 : I s0 e ds w)
    (round : ∀ s e' ds' w', I s e' ds' w' → (∀ s2 e2 ds2 w2, I s2 e2 ds2 w2 → μ s2 < μ s → WS P r n Fin (.inLoop c :: K) e2 ds2 w2) → WS P r n Fin (.code c :: .inLoop c :: K) e' ds' w') :
    WS P r n Fin (.code (.loop c) :: K) e ds w := by
  have key : ∀ m s e' ds' w', μ s = m → I s e' ds' w' → WS P r n Fin (.code c :: .inLoop c :: K) e' ds' w' := by
    intro m
    induction m using Nat.strongRecOn with
    | _ m ih =>
      intro s e' ds' w' hm hI
      refine round s e' ds' w' hI fun s2 e2 ds2 w2 hI2 hlt => ?_
      exact .step (fun a ha hd => ⟨a, ha, hd, fun _ _ _ => stepR_inLoop⟩) (ih _ (hm ▸ hlt) s2 e2 ds2 w2 rfl hI2)
  exact .step (fun a ha hd => ⟨a, ha, hd, fun _ _ _ => stepR_loop⟩) (key _ s0 e ds w rfl h0)

/-- Lift a rule of the elder calculus. -/
theorem ws_of_wpIn {c : Code} {N : Nat}
    (h : ∀ a, Agree n a e → a.defers = ds → c.wpIn (fw r) N P (fun x a' w' => match x with
      | .normal => ∃ e', Agree n a' e' ∧ WS P r n Fin K e' a'.defers w'
      | .exit id => ∃ K' e', exitTo id K = some K' ∧ Agree n a' e' ∧ WS P r n Fin K' e' a'.defers w'
      | .ret => ∃ e', Agree n a' e' ∧ Fin .ret e' a'.defers w'
      | .panic ch => ∃ e', Agree n a' e' ∧ Fin (.panic ch) e' a'.defers w'
      | _ => False) a w) : WS P r n Fin (.code c :: K) e ds w := by
  intro a ha hd b cs hb
  obtain ⟨x, a1, w1, hq, harr⟩ := h a ha hd b K cs hb trivial (fw_room _ _)
  cases x with
  | normal =>
    obtain ⟨e', ha', hws⟩ := hq
    obtain ⟨x2, a2, w2, hf, harr2⟩ := hws a1 ha' rfl b cs hb
    exact ⟨x2, a2, w2, hf, .of_steps harr harr2⟩
  | exit id =>
    obtain ⟨K', e', hk, ha', hws⟩ := hq
    obtain ⟨x2, a2, w2, hf, harr2⟩ := hws a1 ha' rfl b cs hb
    exact ⟨x2, a2, w2, hf, .of_steps (harr.1 K' hk) harr2⟩
  | ret =>
    obtain ⟨e', ha', hf⟩ := hq
    exact ⟨.ret, a1, w1, ⟨e', ha', hf⟩, harr⟩
  | panic ch =>
    obtain ⟨e', ha', hf⟩ := hq
    exact ⟨.panic ch, a1, w1, ⟨e', ha', hf⟩, harr⟩
  | goto l => exact hq.elim
  | outgrown => exact hq.elim
end rules

/-! ### One operation -/
/-- The guard of an operation, on an environment. -/
def yieldedE (ops : Array Oper) (e : Env) (j : Nat) : Option Bool :=
  match (ops[j]?).bind (·.dst) with
  | some t => match e t with
    | .bool b => some b
    | _ => none
  | none => none

def wantedE (ops : Array Oper) (e : Env) (o : Oper) : Bool :=
  match o.guard with
  | none => true
  | some (j, want) => match yieldedE ops e j with
    | some b => b == want
    | none => false

theorem wanted_agree {n : Nat} {a : Act} {e : Env} (h : Agree n a e) (ops : Array Oper) (o : Oper) : Region.wanted o (yielded ops a.tmps) = wantedE ops e o := by
  unfold Region.wanted wantedE
  cases o.guard with
  | none => rfl
  | some g =>
    obtain ⟨j, want⟩ := g
    have : yielded ops a.tmps j = yieldedE ops e j := by
      unfold yielded yieldedE
      cases (ops[j]?).bind (·.dst) with
      | none => rfl
      | some t =>
        have ht := h.2 t
        simp only [Option.bind_some]
        cases hg : a.tmps[t]? with
        | none => simp [Array.getD_eq_getD_getElem?, hg] at ht; simp [← ht, undef]
        | some v => simp [Array.getD_eq_getD_getElem?, hg] at ht; rw [← ht]; cases v <;> rfl
    simp only [this]
    cases yieldedE ops e j with
    | none => rfl
    | some b => cases b <;> cases want <;> rfl

/-- What an operation that acts on the world comes to. -/
def Loud (P : Program) (o : Oper) (e : Env) (w : World) (next : Value → World → Prop) (pan : List PanicEntry → World → Prop) : Prop :=
  match (execOp (ev e) o).run P w with
  | .ok (.value v) w' => next v w'
  | .ok .skip w' => next undef w'
  | .ok (.enter f args) w' => Calls P f args w' fun
      | .returned v, w'' => next v w''
      | .panicked ch, w'' => pan ch w''
      | .outgrown, _ => False
  | .ok (.round l f tmps assign body) w' => RoundIn (fw none) 0 P l f tmps assign body w' fun
      | .returned v, w'' => next v w''
      | .panicked ch, w'' => pan ch w''
      | .outgrown, _ => False
  | .halt (.panic v) w' => pan [{ v, recovered := false }] w'
  | _ => False

theorem Loud.mono {P : Program} {o : Oper} {e : Env} {w : World} {next next' : Value → World → Prop} {pan : List PanicEntry → World → Prop}
    (h : Loud P o e w next pan) (hn : ∀ v w', next v w' → next' v w') : Loud P o e w next' pan := by
  unfold Loud at *
  split at h
  · exact hn _ _ h
  · exact hn _ _ h
  · exact Calls.mono h (fun x w'' hx => by cases x <;> first | exact hn _ _ hx | exact hx)
  · exact RoundIn.mono h (fun x w'' hx => by cases x <;> first | exact hn _ _ hx | exact hx)
  · exact h
  · exact h.elim

theorem Loud.some {P : Program} {o : Oper} {e : Env} {w : World} {next : Value → World → Prop} {pan : List PanicEntry → World → Prop}
    (h : Loud P o e w next pan) (hp : ∀ ch w', ¬ pan ch w') : ∃ v w', next v w' := by
  unfold Loud at h
  split at h
  · exact ⟨_, _, h⟩
  · exact ⟨_, _, h⟩
  · obtain ⟨x, w', fr, hx, _⟩ := h []
    cases x with
    | returned v => exact ⟨_, _, hx⟩
    | panicked ch => exact absurd hx (hp _ _)
    | outgrown => exact hx.elim
  · obtain ⟨x, w', hx, _⟩ := h.2 default [] (fw_room _ _)
    cases x with
    | returned v => exact ⟨_, _, hx⟩
    | panicked ch => exact absurd hx (hp _ _)
    | outgrown => exact hx.elim
  · exact absurd h (hp _ _)
  · exact h.elim

def Oper.isDefer (o : Oper) : Bool := match o.op with | .defer _ => true | _ => false

theorem semAt_eq {r : Option Nat} {ρ : Operand → Value} {o : Oper} (h : Oper.isDefer o = false) : o.semAt r ρ = execOp ρ o :=
  Oper.semAt_eq r ρ o fun c hc => by simp [Oper.isDefer, hc] at h

theorem Loud.wpIn {P : Program} {r : Option Nat} {n N : Nat} {o : Oper} {e : Env} {a : Act} {w : World} {next : Value → World → Prop} {pan : List PanicEntry → World → Prop} {K : Act → World → Prop} {Q : Exit → Act → World → Prop}
    (ha : Agree n a e) (hd : Oper.isDefer o = false) (h : Loud P o e w next pan) (hn : ∀ v w', next v w' → K (a.put o.dst v) w') (hp : ∀ ch w', pan ch w' → Q (.panic ch) a w') :
    o.wpIn (fw r) N P a w K Q := by
  refine ⟨fun _ _ => trivial, ?_⟩
  have hr : (fw r).round = r := rfl
  rw [hr, semAt_eq hd, ha.ev]
  unfold Loud at h
  split at h
  · rename_i heq; rw [heq]; exact hn _ _ h
  · rename_i heq; rw [heq]; exact hn _ _ h
  · rename_i heq; rw [heq]
    refine ⟨fun hx => by simp [fw, Fence.wide] at hx, callsIn_fw.2 (Calls.mono h fun x w'' hx => ?_)⟩
    cases x with
    | returned v => exact hn _ _ hx
    | panicked ch => exact hp _ _ hx
    | outgrown => exact hx.elim
  · rename_i heq; rw [heq]
    refine ⟨fun hx => by simp [fw, Fence.wide] at hx, ?_⟩
    have h' := RoundIn.mono h (R' := fun
      | .returned v, w'' => K (a.put o.dst v) w''
      | .panicked chain, w'' => Q (.panic chain) a w''
      | .outgrown, _ => LetsOut Q) (fun x w'' hx => by
        cases x with
        | returned v => exact hn _ _ hx
        | panicked ch => exact hp _ _ hx
        | outgrown => exact hx.elim)
    exact ⟨trivial, fun c cs _ => h'.2 c cs (fw_room _ _)⟩
  · rename_i heq; rw [heq]; exact hp _ _ h
  · exact h.elim

/-! ### The operations of a region, in the order of the text -/

structure RCtx where
  P : Program
  r : Option Nat
  n : Nat
  ops : Array Oper
  S : World → Prop
  kd : Nat → Nat
  Fin : Post
  K : List Item

section wo
variable (C : RCtx)

/-- One operation: left out, quiet (it gives the same value in every world of which S holds), a load (it leaves the world), or loud. -/
def WOp (i : Nat) (next : Env → List Deferred → World → Prop) (e : Env) (ds : List Deferred) (w : World) : Prop :=
  ∃ o, C.ops[i]? = some o ∧
    ((wantedE C.ops e o = false ∧ next (upd C.n e o.dst undef) ds w) ∨
     (wantedE C.ops e o = true ∧
       ((∃ v, (∀ w', C.S w' → (execOp (ev e) o).run C.P w' = .ok (.value v) w') ∧ Oper.isDefer o = false ∧ next (upd C.n e o.dst v) ds w) ∨
        (1 ≤ C.kd i ∧ ∃ v, (execOp (ev e) o).run C.P w = .ok (.value v) w ∧ Oper.isDefer o = false ∧ next (upd C.n e o.dst v) ds w) ∨
        (2 ≤ C.kd i ∧ Oper.isDefer o = false ∧ Loud C.P o e w (fun v w' => C.S w' ∧ next (upd C.n e o.dst v) ds w') (fun ch w' => C.Fin (.panic ch) e ds w')) ∨
        (3 ≤ C.kd i ∧ C.r = none ∧ ∃ d, (execOp (ev e) o).run C.P w = .ok (.defer d) w ∧ next (upd C.n e o.dst undef) (d :: ds) w))))

def WO : List Nat → Env → List Deferred → World → Prop
  | [], e, ds, w => WS C.P C.r C.n C.Fin C.K e ds w
  | i :: rest, e, ds, w => WOp C i (WO rest) e ds w

theorem WOp.mono {C : RCtx} {i : Nat} {N N' : Env → List Deferred → World → Prop} {e : Env} {ds : List Deferred} {w : World} (h : WOp C i N e ds w) (hn : ∀ e ds w, N e ds w → N' e ds w) : WOp C i N' e ds w := by
  obtain ⟨o, ho, h⟩ := h
  refine ⟨o, ho, ?_⟩
  rcases h with ⟨hw, h⟩ | ⟨hw, ⟨v, hv, hd, h⟩ | ⟨hk, v, hv, hd, h⟩ | ⟨hk, hd, h⟩ | ⟨hk, hr, d, hd, h⟩⟩
  · exact .inl ⟨hw, hn _ _ _ h⟩
  · exact .inr ⟨hw, .inl ⟨v, hv, hd, hn _ _ _ h⟩⟩
  · exact .inr ⟨hw, .inr (.inl ⟨hk, v, hv, hd, hn _ _ _ h⟩)⟩
  · exact .inr ⟨hw, .inr (.inr (.inl ⟨hk, hd, h.mono fun v w' h => ⟨h.1, hn _ _ _ h.2⟩⟩))⟩
  · exact .inr ⟨hw, .inr (.inr (.inr ⟨hk, hr, d, hd, hn _ _ _ h⟩))⟩

def QK : Exit → Act → World → Prop := fun x a' w' => match x with
  | .normal => ∃ e', Agree C.n a' e' ∧ WS C.P C.r C.n C.Fin C.K e' a'.defers w'
  | .panic ch => ∃ e', Agree C.n a' e' ∧ C.Fin (.panic ch) e' a'.defers w'
  | _ => False

/-- An operation in the elder calculus. -/
theorem WOp.wpOpIn {C : RCtx} {i N : Nat} {next : Env → List Deferred → World → Prop} {K : Act → World → Prop} {e : Env} {a : Act} {w : World}
    (h : WOp C i next e a.defers w) (ha : Agree C.n a e) (hI : C.S w) (hn : ∀ e' a' w', Agree C.n a' e' → (C.S w' ) → next e' a'.defers w' → K a' w') :
    wpOpIn (fw C.r) N C.P C.ops (QK C) i K a w := by
  obtain ⟨o, ho, h⟩ := h
  unfold Go.wpOpIn
  simp only [ho, wanted_agree ha]
  have pd : ∀ v, (a.put o.dst v).defers = a.defers := fun v => by cases hx : o.dst <;> rfl
  rcases h with ⟨hw, h⟩ | ⟨hw, h⟩
  · simp only [hw]
    exact ⟨fun _ _ => trivial, hn _ _ _ (ha.put _ _) hI (by rw [pd]; exact h)⟩
  · simp only [hw, if_true]
    have quiet : ∀ v, (execOp (ev e) o).run C.P w = .ok (.value v) w → Oper.isDefer o = false → next (upd C.n e o.dst v) a.defers w → o.wpIn (fw C.r) N C.P a w K (QK C) := by
      intro v hv hd h
      refine Loud.wpIn (next := fun v' w' => v' = v ∧ w' = w) (pan := fun _ _ => False) ha hd ?_ ?_ (fun _ _ h => h.elim)
      · unfold Loud; rw [hv]; exact ⟨rfl, rfl⟩
      · rintro _ _ ⟨rfl, rfl⟩; exact hn _ _ _ (ha.put _ _) hI (by rw [pd]; exact h)
    rcases h with ⟨v, hv, hd, h⟩ | ⟨_, v, hv, hd, h⟩ | ⟨_, hd, h⟩ | ⟨_, hr, d, hv, h⟩
    · exact quiet v (hv w hI) hd h
    · exact quiet v hv hd h
    · exact Loud.wpIn ha hd h (fun v w' h => hn _ _ _ (ha.put _ _) h.1 (by rw [pd]; exact h.2)) (fun ch w' h => ⟨e, ha, h⟩)
    · refine ⟨fun _ _ => trivial, ?_⟩
      have hr' : (fw C.r).round = none := hr
      rw [hr', Oper.semAt_none, ha.ev, hv]
      have hdd : (Act.put { a with defers := d :: a.defers } o.dst undef).defers = d :: a.defers := by cases hx : o.dst <;> rfl
      exact hn (upd C.n e o.dst undef) (Act.put { a with defers := d :: a.defers } o.dst undef) w (Agree.put (a := { a with defers := d :: a.defers }) ha _ _) hI (by rw [hdd]; exact h)

theorem WO.wpOpsIn {C : RCtx} : ∀ (l : List Nat) (e : Env) (a : Act) (w : World), Agree C.n a e → C.S w → WO C l e a.defers w → wpOpsIn (fw C.r) 0 C.P C.ops (QK C) l a w
  | [], e, a, w, ha, _, h => ⟨e, ha, h⟩
  | i :: rest, e, a, w, ha, hI, h => by
    rw [wpOpsIn_cons]
    exact WOp.wpOpIn h ha hI fun e' a' w' ha' hI' h' => WO.wpOpsIn rest e' a' w' ha' hI' h'

theorem ws_of_QK {C : RCtx} {c : Code} {e : Env} {ds : List Deferred} {w : World} (h : ∀ a, Agree C.n a e → a.defers = ds → c.wpIn (fw C.r) 0 C.P (QK C) a w) :
    WS C.P C.r C.n C.Fin (.code c :: C.K) e ds w := by
  refine ws_of_wpIn (N := 0) fun a ha hd => wpIn_mono (h a ha hd) ?_
  intro x a' w' hq
  cases x <;> first | exact hq | exact hq.elim

end wo

/-- A region in the order of the text. -/
theorem ws_region {P : Program} {r : Option Nat} {n : Nat} {Fin : Post} {K : List Item} {e : Env} {ds : List Deferred} {w : World} {id : Nat} {ops : Array Oper}
    (h : WO ⟨P, r, n, ops, fun _ => True, fun _ => 3, Fin, K⟩ (List.range ops.size) e ds w) : WS P r n Fin (.code (.region id ops false) :: K) e ds w :=
  ws_of_QK (C := ⟨P, r, n, ops, fun _ => True, fun _ => 3, Fin, K⟩) fun a ha hd => wpIn_region (WO.wpOpsIn (C := ⟨P, r, n, ops, fun _ => True, fun _ => 3, Fin, K⟩) _ e a w ha trivial (hd ▸ h))

/-! ### A function out of its body -/
def finOf (P : Program) (fn : Func) (R : Ending → World → Prop) : Post
  | .normal, e, ds, w | .ret, e, ds, w => ds = [] ∧ ∀ a : Act, Agree fn.ntmps a e → ∃ v, (results fn a.tmps).run P w = .ok v w ∧ R (.returned v) w
  | .panic ch, _, ds, w => ds = [] ∧ R (.panicked ch) w
  | _, _, _, _ => False

/-- The environment at a function's head. -/
def env0 (args : List Value) : Env := fun t => args.getD t undef

theorem agree_env0 (args : Array Value) (m : Nat) (h : args.size ≤ m) : Agree m { tmps := args ++ Array.replicate (m - args.size) undef, defers := [] } (env0 args.toList) := by
  refine ⟨by simp; omega, fun t => ?_⟩
  simp only [env0, Array.getD_eq_getD_getElem?, List.getD_eq_getElem?_getD, Array.getElem?_toList]
  by_cases h1 : t < args.size
  · rw [Array.getElem?_append_left h1]
  · rw [Array.getElem?_append_right (by omega)]
    have : args[t]? = none := by simp; omega
    rw [this]
    by_cases h2 : t - args.size < m - args.size
    · simp [h2]
    · simp [h2]

theorem calls_of_ws {P : Program} {f : FuncId} {fn : Func} {c : Code} {args : Array Value} {w : World} {R : Ending → World → Prop}
    (hf : P.funcs[f]? = some fn) (hb : fn.body = some c) (hsz : args.size ≤ fn.ntmps)
    (h : WS P none fn.ntmps (finOf P fn R) [.code c] (env0 args.toList) [] w) : Calls P f args w R := by
  intro cs
  let b : Frame := { (default : Frame) with fn := f, kind := .normal, roundOf := none }
  have henter : Frame.enter P f args .normal =
      b.atR { tmps := args ++ Array.replicate (fn.ntmps - args.size) undef, defers := [] } [.code c] := by
    simp [Frame.enter, Frame.atR, hf, hb, b]
  obtain ⟨x, a', w', ⟨e', ha', hq⟩, harr⟩ := h _ (agree_env0 args fn.ntmps hsz) rfl b cs rfl
  rw [← henter] at harr
  cases x with
  | normal =>
    obtain ⟨hd, hr⟩ := hq
    obtain ⟨v, hv, hR⟩ := hr a' ha'
    exact ⟨.returned v, w', _, hR, Steps.trans harr.steps (.one (stepR_end rfl)), rfl, rfl, hd, rfl, fn, hf, hv⟩
  | ret =>
    obtain ⟨hd, hr⟩ := hq
    obtain ⟨v, hv, hR⟩ := hr a' ha'
    obtain ⟨todo, hs⟩ := harr.1 rfl
    exact ⟨.returned v, w', _, hR, hs.steps, rfl, rfl, hd, rfl, fn, hf, hv⟩
  | panic ch =>
    obtain ⟨hd, hR⟩ := hq
    obtain ⟨todo, hs⟩ := harr
    exact ⟨.panicked ch, w', _, hR, hs.steps, rfl, rfl, hd, fn, hf⟩
  | exit id => exact hq.elim
  | goto l => exact hq.elim
  | outgrown => exact hq.elim

end Go.V
/- A region that draws its order comes to what it comes to in the order of the text, where the operations that act on the world are in order anyway. -/
namespace Go.V
open Go

theorem exec_upd {n : Nat} {ops : Array Oper} {o x : Oper} {e : Env} {v : Value} (hs : ∀ cs b, o.op ≠ .select cs b)
    (h : ∀ d, x.dst = some d → d ∉ o.looksAt ops) : execOp (ev (upd n e x.dst v)) o = execOp (ev e) o := by
  refine execOp_congr o hs fun y hy => ev_upd n e v fun d hd hyd => h d hd ?_
  subst hyd
  simp only [Oper.looksAt, List.mem_append, List.mem_filterMap]
  exact .inl ⟨.tmp d, by simpa using hy, rfl⟩

theorem wanted_upd {n : Nat} {ops : Array Oper} {o x : Oper} {e : Env} {v : Value}
    (h : ∀ d, x.dst = some d → d ∉ o.looksAt ops) : wantedE ops (upd n e x.dst v) o = wantedE ops e o := by
  unfold wantedE
  cases hg : o.guard with
  | none => rfl
  | some g =>
    obtain ⟨j, want⟩ := g
    have : yieldedE ops (upd n e x.dst v) j = yieldedE ops e j := by
      unfold yieldedE
      cases hb : (ops[j]?).bind (·.dst) with
      | none => rfl
      | some t =>
        simp only []
        rw [upd_ne n e v (t := t)]
        intro hx
        refine h t hx ?_
        simp [Oper.looksAt, hg, hb]
    simp only [this]

/-- Two operations that may change places. -/
def Swaps (C : RCtx) (j i : Nat) : Prop := ∀ oj oi, C.ops[j]? = some oj → C.ops[i]? = some oi →
  oj.apart C.ops oi = true ∧ (∀ cs b, oj.op ≠ .select cs b) ∧ (∀ cs b, oi.op ≠ .select cs b) ∧ (C.kd j = 0 ∨ C.kd i = 0 ∨ (C.kd j ≤ 1 ∧ C.kd i ≤ 1))

theorem WOp.mono' {C : RCtx} {i : Nat} {N N' : Env → List Deferred → World → Prop} {e : Env} {ds : List Deferred} {w : World} (h : WOp C i N e ds w) (hI : C.S w)
    (hn : ∀ e ds w, C.S w → N e ds w → N' e ds w) : WOp C i N' e ds w := by
  obtain ⟨o, ho, h⟩ := h
  refine ⟨o, ho, ?_⟩
  rcases h with ⟨hw, h⟩ | ⟨hw, ⟨v, hv, hd, h⟩ | ⟨hk, v, hv, hd, h⟩ | ⟨hk, hd, h⟩ | ⟨hk, hr, d, hd, h⟩⟩
  · exact .inl ⟨hw, hn _ _ _ hI h⟩
  · exact .inr ⟨hw, .inl ⟨v, hv, hd, hn _ _ _ hI h⟩⟩
  · exact .inr ⟨hw, .inr (.inl ⟨hk, v, hv, hd, hn _ _ _ hI h⟩)⟩
  · exact .inr ⟨hw, .inr (.inr (.inl ⟨hk, hd, h.mono fun v w' h => ⟨h.1, hn _ _ _ h.1 h.2⟩⟩))⟩
  · exact .inr ⟨hw, .inr (.inr (.inr ⟨hk, hr, d, hd, hn _ _ _ hI h⟩))⟩

theorem WOp.swap {C : RCtx} {i j : Nat} {N : Env → List Deferred → World → Prop} {e : Env} {ds : List Deferred} {w : World} (hs : Swaps C j i)
    (hk3 : ∀ k, C.kd k ≤ 2) (hpan : ∀ ch e ds w, ¬ C.Fin (.panic ch) e ds w) (hI : C.S w) (h : WOp C j (WOp C i N) e ds w) : WOp C i (WOp C j N) e ds w := by
  obtain ⟨oj, hoj, h⟩ := h
  -- there is an operation i
  have hoi : ∃ oi, C.ops[i]? = some oi := by
    rcases h with ⟨_, oi, h, _⟩ | ⟨_, ⟨v, _, _, oi, h, _⟩ | ⟨_, v, _, _, oi, h, _⟩ | ⟨_, _, h⟩ | ⟨hk, _⟩⟩
    · exact ⟨oi, h⟩
    · exact ⟨oi, h⟩
    · exact ⟨oi, h⟩
    · obtain ⟨v, w', _, oi, h, _⟩ := h.some (fun ch w' => hpan _ _ _ _)
      exact ⟨oi, h⟩
    · have := hk3 j; omega
  obtain ⟨oi, hoi⟩ := hoi
  obtain ⟨hap, hsj, hsi, hkk⟩ := hs oj oi hoj hoi
  obtain ⟨a1, a2, a3⟩ := Oper.apart_spec hap
  have xi : ∀ v, execOp (ev (upd C.n e oj.dst v)) oi = execOp (ev e) oi := fun v => exec_upd hsi a1
  have wi : ∀ v, wantedE C.ops (upd C.n e oj.dst v) oi = wantedE C.ops e oi := fun v => wanted_upd a1
  have xj : ∀ v, execOp (ev (upd C.n e oi.dst v)) oj = execOp (ev e) oj := fun v => exec_upd hsj a3
  have wj : ∀ v, wantedE C.ops (upd C.n e oi.dst v) oj = wantedE C.ops e oj := fun v => wanted_upd a3
  have cm : ∀ v u, upd C.n (upd C.n e oj.dst v) oi.dst u = upd C.n (upd C.n e oi.dst u) oj.dst v := fun v u => upd_comm C.n e v u a2
  -- j leaves the world
  have still : ∀ vj, (∀ (N' : Env → List Deferred → World → Prop) (u : Value) w', C.S w' → (w' = w ∨ C.kd j = 0) → N' (upd C.n (upd C.n e oi.dst u) oj.dst vj) ds w' → WOp C j N' (upd C.n e oi.dst u) ds w') →
      WOp C i N (upd C.n e oj.dst vj) ds w → WOp C i (WOp C j N) e ds w := by
    intro vj hj h
    obtain ⟨oi', hoi', h⟩ := h
    obtain rfl : oi' = oi := by rw [hoi] at hoi'; injection hoi' with h; exact h.symm
    refine ⟨oi', hoi, ?_⟩
    simp only [wi, xi] at h
    rcases h with ⟨hw, h⟩ | ⟨hw, ⟨v, hv, hd, h⟩ | ⟨hk, v, hv, hd, h⟩ | ⟨hk, hd, h⟩ | ⟨hk, _⟩⟩
    · exact .inl ⟨hw, hj _ _ _ hI (.inl rfl) (by rw [← cm]; exact h)⟩
    · exact .inr ⟨hw, .inl ⟨v, hv, hd, hj _ _ _ hI (.inl rfl) (by rw [← cm]; exact h)⟩⟩
    · exact .inr ⟨hw, .inr (.inl ⟨hk, v, hv, hd, hj _ _ _ hI (.inl rfl) (by rw [← cm]; exact h)⟩)⟩
    · refine .inr ⟨hw, .inr (.inr (.inl ⟨hk, hd, ?_⟩))⟩
      have h' : Loud C.P oi' e w (fun v w' => C.S w' ∧ N (upd C.n (upd C.n e oj.dst vj) oi'.dst v) ds w') (fun ch w' => C.Fin (.panic ch) e ds w') := by
        unfold Loud at h ⊢
        rw [xi] at h
        revert h
        cases (execOp (ev e) oi').run C.P w with
        | halt x w' => cases x <;> first | exact id | exact fun h => absurd h (hpan _ _ _ _)
        | ok x w' =>
          cases x <;> first
            | exact id
            | exact fun h => Calls.mono h (fun x w'' hx => by cases x <;> first | exact hx | exact absurd hx (hpan _ _ _ _))
            | exact fun h => RoundIn.mono h (fun x w'' hx => by cases x <;> first | exact hx | exact absurd hx (hpan _ _ _ _))
      refine h'.mono fun v w' hx => ⟨hx.1, hj _ _ _ hx.1 (.inr (by omega)) (by rw [← cm]; exact hx.2)⟩
    · have := hk3 i; omega
  rcases h with ⟨hw, h⟩ | ⟨hw, ⟨vj, hv, hd, h⟩ | ⟨hk, vj, hv, hd, h⟩ | ⟨hk, hd, h⟩ | ⟨hk, _⟩⟩
  · refine still _ ?_ h
    intro N' u w' hI' _ hN
    exact ⟨oj, hoj, .inl ⟨by rw [wj]; exact hw, hN⟩⟩
  · refine still _ ?_ h
    intro N' u w' hI' _ hN
    exact ⟨oj, hoj, .inr ⟨by rw [wj]; exact hw, .inl ⟨vj, by rw [xj]; exact hv, hd, hN⟩⟩⟩
  · refine still _ ?_ h
    intro N' u w' hI' hor hN
    rcases hor with rfl | h0
    · exact ⟨oj, hoj, .inr ⟨by rw [wj]; exact hw, .inr (.inl ⟨hk, vj, by rw [xj]; exact hv, hd, hN⟩)⟩⟩
    · omega
  · -- j acts on the world: i is quiet
    have hki : C.kd i = 0 := by omega
    obtain ⟨v0, w0', hI0, oi', hoi', hi⟩ := h.some (fun ch w' => hpan _ _ _ _)
    obtain rfl : oi' = oi := by rw [hoi] at hoi'; injection hoi' with h; exact h.symm
    simp only [wi, xi] at hi
    have two : (wantedE C.ops e oi' = false) ∨ (wantedE C.ops e oi' = true ∧ ∃ v, (∀ w', C.S w' → (execOp (ev e) oi').run C.P w' = .ok (.value v) w') ∧ Oper.isDefer oi' = false) := by
      rcases hi with ⟨hw, _⟩ | ⟨hw, ⟨v, hv, hd, _⟩ | ⟨hk, _⟩ | ⟨hk, _⟩ | ⟨hk, _⟩⟩
      · exact .inl hw
      · exact .inr ⟨hw, v, hv, hd⟩
      · omega
      · omega
      · omega
    -- j behind i
    have hj : ∀ u, (∀ v w', C.S w' → WOp C i N (upd C.n e oj.dst v) ds w' → N (upd C.n (upd C.n e oj.dst v) oi'.dst u) ds w') → WOp C j N (upd C.n e oi'.dst u) ds w := by
      intro u hN
      refine ⟨oj, hoj, .inr ⟨by rw [wj]; exact hw, .inr (.inr (.inl ⟨hk, hd, ?_⟩))⟩⟩
      have h' : Loud C.P oj (upd C.n e oi'.dst u) w (fun v w' => C.S w' ∧ WOp C i N (upd C.n e oj.dst v) ds w') (fun ch w' => C.Fin (.panic ch) (upd C.n e oi'.dst u) ds w') := by
        unfold Loud at h ⊢
        rw [xj]
        revert h
        cases (execOp (ev e) oj).run C.P w with
        | halt x w' => cases x <;> first | exact id | exact fun h => absurd h (hpan _ _ _ _)
        | ok x w' =>
          cases x <;> first
            | exact id
            | exact fun h => Calls.mono h (fun x w'' hx => by cases x <;> first | exact hx | exact absurd hx (hpan _ _ _ _))
            | exact fun h => RoundIn.mono h (fun x w'' hx => by cases x <;> first | exact hx | exact absurd hx (hpan _ _ _ _))
      exact h'.mono fun v w' hx => ⟨hx.1, by rw [← cm]; exact hN v w' hx.1 hx.2⟩
    rcases two with hwi | ⟨hwi, vi, hvi, hdi⟩
    · refine ⟨oi', hoi, .inl ⟨hwi, hj undef fun v w' hI' hx => ?_⟩⟩
      obtain ⟨o2, ho2, hx⟩ := hx
      obtain rfl : o2 = oi' := by rw [hoi] at ho2; injection ho2 with h; exact h.symm
      simp only [wi] at hx
      rcases hx with ⟨_, hx⟩ | ⟨hw2, _⟩
      · exact hx
      · rw [hwi] at hw2; cases hw2
    · refine ⟨oi', hoi, .inr ⟨hwi, .inl ⟨vi, hvi, hdi, hj vi fun v w' hI' hx => ?_⟩⟩⟩
      obtain ⟨o2, ho2, hx⟩ := hx
      obtain rfl : o2 = oi' := by rw [hoi] at ho2; injection ho2 with h; exact h.symm
      simp only [wi, xi] at hx
      rcases hx with ⟨hw2, _⟩ | ⟨_, ⟨v2, hv2, _, hx⟩ | ⟨hk, _⟩ | ⟨hk, _⟩ | ⟨hk, _⟩⟩
      · rw [hwi] at hw2; cases hw2
      · have e1 := hv2 w' hI'
        rw [hvi w' hI'] at e1
        injection e1 with e1 _
        injection e1 with e1
        rw [e1]; exact hx
      · omega
      · omega
      · omega
  · have := hk3 j; omega

theorem WO.move {C : RCtx} {i : Nat} (hk3 : ∀ k, C.kd k ≤ 2) (hpan : ∀ ch e ds w, ¬ C.Fin (.panic ch) e ds w) : ∀ (s1 s2 : List Nat), (∀ j ∈ s1, Swaps C j i) →
    ∀ (e : Env) (ds : List Deferred) (w : World), C.S w → WO C (s1 ++ i :: s2) e ds w → WO C (i :: (s1 ++ s2)) e ds w
  | [], s2, _, e, ds, w, _, h => h
  | j :: s1, s2, hs, e, ds, w, hI, h => by
    have h1 : WOp C j (WO C (i :: (s1 ++ s2))) e ds w := WOp.mono' h hI fun e ds w hI' hx => WO.move hk3 hpan s1 s2 (fun k hk => hs k (List.mem_cons_of_mem _ hk)) e ds w hI' hx
    exact WOp.swap (hs j List.mem_cons_self) hk3 hpan hI h1

/-! ### The check of a region -/
def edgesOf (o : Oper) : List Nat := (o.after.toList.filter (Region.binds .any ·)).map (·.on)

/-- For each operation, as bits, those that must come before it. -/
def masks : List Oper → List Nat → List Nat
  | [], acc => acc
  | o :: rest, acc => masks rest (acc ++ [(edgesOf o).foldl (fun m k => Nat.lor m (Nat.lor (Nat.shiftLeft 1 k) (acc.getD k 0))) 0])

def okDraw (ops : Array Oper) (kd : Nat → Nat) : Bool :=
  let M := masks ops.toList []
  let idx := List.range ops.size
  Region.noSelect ops &&
  idx.all fun j => match ops[j]? with
    | none => false
    | some oj =>
      let ej := edgesOf oj
      ej.all (Nat.blt · j) &&
      (List.range j).all fun i =>
        if (M.getD j 0).testBit i then ej.contains i || ej.any (fun k => (M.getD k 0).testBit i && Nat.blt i k)
        else match ops[i]? with
          | none => false
          | some oi => oi.apart ops oj && (Nat.beq (kd i) 0 || Nat.beq (kd j) 0 || (Nat.ble (kd i) 1 && Nat.ble (kd j) 1))

structure DrawFacts (ops : Array Oper) (kd : Nat → Nat) (pred : Nat → Nat → Bool) : Prop where
  sel : Region.noSelect ops = true
  lt : ∀ j oj, ops[j]? = some oj → ∀ k ∈ edgesOf oj, k < j
  via : ∀ i j oj, ops[j]? = some oj → i < j → pred i j = true → i ∈ edgesOf oj ∨ ∃ k ∈ edgesOf oj, i < k ∧ pred i k = true
  sw : ∀ i j oi oj, ops[i]? = some oi → ops[j]? = some oj → i < j → pred i j = false → oi.apart ops oj = true ∧ (kd i = 0 ∨ kd j = 0 ∨ (kd i ≤ 1 ∧ kd j ≤ 1))

theorem okDraw_facts {ops : Array Oper} {kd : Nat → Nat} (h : okDraw ops kd = true) :
    DrawFacts ops kd (fun i j => ((masks ops.toList []).getD j 0).testBit i) := by
  unfold okDraw at h
  simp only [Bool.and_eq_true, List.all_eq_true, List.mem_range] at h
  obtain ⟨h1, h2⟩ := h
  have hs : ∀ {j oj}, ops[j]? = some oj → j < ops.size := fun hj => (Array.getElem?_eq_some_iff.1 hj).1
  refine ⟨h1, ?_, ?_, ?_⟩
  · intro j oj hj k hk
    have := h2 j (hs hj)
    simp only [hj, Bool.and_eq_true, List.all_eq_true] at this
    have hb := this.1 k hk
    rw [Nat.blt_eq] at hb; exact hb
  · intro i j oj hj hij hp
    have := h2 j (hs hj)
    simp only [hj, Bool.and_eq_true, List.all_eq_true, List.mem_range] at this
    have hb := this.2 i hij
    simp only [hp, if_true, Bool.or_eq_true, List.any_eq_true, Bool.and_eq_true] at hb
    rcases hb with hb | ⟨k, hk, hkp, hik⟩
    · exact .inl (by simpa using hb)
    · exact .inr ⟨k, hk, by rw [Nat.blt_eq] at hik; exact hik, hkp⟩
  · intro i j oi oj hi hj hij hp
    have := h2 j (hs hj)
    simp only [hj, Bool.and_eq_true, List.all_eq_true, List.mem_range] at this
    have hb := this.2 i hij
    simp only [hp, hi, Bool.false_eq_true, if_false, Bool.and_eq_true, Bool.or_eq_true, Nat.ble_eq] at hb
    refine ⟨hb.1, ?_⟩
    rcases hb.2 with (h | h) | h
    · exact .inl (Nat.eq_of_beq_eq_true h)
    · exact .inr (.inl (Nat.eq_of_beq_eq_true h))
    · exact .inr (.inr h)

/-- What is still to be done, in the order of the text. -/
def todoOf (N : Nat) (listed : Array Bool) : List Nat := (List.range N).filter fun i => !listed.getD i true

theorem WO.any {C : RCtx} {pred : Nat → Nat → Bool} (F : DrawFacts C.ops C.kd pred) (hk3 : ∀ k, C.kd k ≤ 2) (hpan : ∀ ch e ds w, ¬ C.Fin (.panic ch) e ds w) :
    ∀ (fuel : Nat) (listed : Array Bool) (e : Env) (a : Act) (w : World), listed.size = C.ops.size →
      (∀ j, listed.getD j false = true → ∀ i, i < j → pred i j = true → listed.getD i false = true) →
      (todoOf C.ops.size listed).length ≤ fuel → Agree C.n a e → C.S w → WO C (todoOf C.ops.size listed) e a.defers w →
      wpAnyIn (fw C.r) 0 C.P .any C.ops (QK C) fuel listed a w := by
  have inReady : ∀ listed : Array Bool, listed.size = C.ops.size → ∀ i, i ∈ Region.ready .any C.ops listed → i ∈ todoOf C.ops.size listed ∧ ∀ oi, C.ops[i]? = some oi → ∀ k ∈ edgesOf oi, listed.getD k false = true := by
    intro listed hsz i hi
    simp only [Region.ready, List.mem_filter, List.mem_range, Bool.and_eq_true] at hi
    obtain ⟨hlt, hun, hall⟩ := hi
    refine ⟨by simp only [todoOf, List.mem_filter, List.mem_range]; exact ⟨hlt, hun⟩, fun oi hoi k hk => ?_⟩
    rw [hoi] at hall
    simp only [Option.map_some, Option.getD_some, Array.all_eq_true_iff_forall_mem] at hall
    simp only [edgesOf, List.mem_map, List.mem_filter] at hk
    obtain ⟨ed, ⟨hm, hb⟩, rfl⟩ := hk
    have := hall ed (by simpa using hm)
    simpa [hb] using this
  have toReady : ∀ listed : Array Bool, listed.size = C.ops.size → ∀ i s, todoOf C.ops.size listed = i :: s → i ∈ Region.ready .any C.ops listed := by
    intro listed hsz i s hs
    have hi : i ∈ todoOf C.ops.size listed := by rw [hs]; exact List.mem_cons_self
    simp only [todoOf, List.mem_filter, List.mem_range] at hi
    obtain ⟨hlt, hun⟩ := hi
    simp only [Region.ready, List.mem_filter, List.mem_range, Bool.and_eq_true]
    refine ⟨hlt, hun, ?_⟩
    obtain ⟨oi, hoi⟩ : ∃ oi, C.ops[i]? = some oi := ⟨C.ops[i], by simp [hlt]⟩
    rw [hoi]
    simp only [Option.map_some, Option.getD_some, Array.all_eq_true_iff_forall_mem]
    intro ed hm
    cases hb : Region.binds .any ed with
    | false => rfl
    | true =>
      have hk : ed.on ∈ edgesOf oi := by simp only [edgesOf, List.mem_map, List.mem_filter]; exact ⟨ed, ⟨by simpa using hm, hb⟩, rfl⟩
      have hlt2 := F.lt i oi hoi _ hk
      -- a smaller index that is not listed would stand before i
      have : listed.getD ed.on true = true := by
        cases hc : listed.getD ed.on true with
        | true => rfl
        | false =>
          exfalso
          have hmem : ed.on ∈ todoOf C.ops.size listed := by simp only [todoOf, List.mem_filter, List.mem_range]; exact ⟨by omega, by rw [hc]; rfl⟩
          have hsort : (todoOf C.ops.size listed).Pairwise (· < ·) := List.Pairwise.filter _ List.pairwise_lt_range
          rw [hs] at hmem hsort
          rcases List.mem_cons.1 hmem with h | h
          · omega
          · have := (List.pairwise_cons.1 hsort).1 _ h; omega
      simp only [Bool.not_true, Bool.false_or]
      have hin : ed.on < listed.size := by omega
      simpa [Array.getD_eq_getD_getElem?, hin] using this
  intro fuel
  induction fuel with
  | zero =>
    intro listed e a w hsz hcl hlen ha hI h
    have hnil : todoOf C.ops.size listed = [] := List.length_eq_zero_iff.1 (by omega)
    refine ⟨?_, ?_⟩
    · cases hr : Region.ready .any C.ops listed with
      | nil => rfl
      | cons x xs =>
        have := (inReady listed hsz x (by rw [hr]; exact List.mem_cons_self)).1
        rw [hnil] at this; cases this
    · rw [hnil] at h; exact ⟨e, ha, h⟩
  | succ fuel ih =>
    intro listed e a w hsz hcl hlen ha hI h
    refine ⟨fun hr => ?_, fun i hi => ?_⟩
    · cases hs : todoOf C.ops.size listed with
      | nil => rw [hs] at h; exact ⟨e, ha, h⟩
      | cons i s => have := toReady listed hsz i s hs; rw [hr] at this; cases this
    · obtain ⟨him, hed⟩ := inReady listed hsz i hi
      obtain ⟨s1, s2, hs⟩ := List.append_of_mem him
      have hil : i < C.ops.size := by simp only [todoOf, List.mem_filter, List.mem_range] at him; exact him.1
      obtain ⟨oi, hoi⟩ : ∃ oi, C.ops[i]? = some oi := ⟨C.ops[i], by simp [hil]⟩
      have hsort : (todoOf C.ops.size listed).Pairwise (· < ·) := List.Pairwise.filter _ List.pairwise_lt_range
      have hnd : (todoOf C.ops.size listed).Nodup := hsort.imp (fun h => Nat.ne_of_lt h)
      have hclosed : ∀ k, k < i → pred k i = true → listed.getD k false = true := by
        intro k hk hp
        rcases F.via k i oi hoi hk hp with h | ⟨m, hm, hkm, hpm⟩
        · exact hed oi hoi k h
        · exact hcl m (hed oi hoi m hm) k hkm hpm
      have hsw : ∀ j ∈ s1, Swaps C j i := by
        intro j hj oj oi' hoj hoi'
        obtain rfl : oi' = oi := by rw [hoi] at hoi'; injection hoi' with h; exact h.symm
        have hjm : j ∈ todoOf C.ops.size listed := by rw [hs]; simp [hj]
        have hji : j < i := by
          rw [hs] at hsort
          exact (List.pairwise_append.1 hsort).2.2 j hj i List.mem_cons_self
        have hnp : pred j i = false := by
          cases hp : pred j i with
          | false => rfl
          | true =>
            have h1 := hclosed j hji hp
            simp only [todoOf, List.mem_filter, List.mem_range] at hjm
            have h2 := hjm.2
            have hin : j < listed.size := by omega
            simp [Array.getD_eq_getD_getElem?, hin] at h1 h2
            rw [h1] at h2; cases h2
        obtain ⟨hap, hkk⟩ := F.sw j i oj oi' hoj hoi hji hnp
        exact ⟨hap, fun cs b => Region.noSelect_spec F.sel j oj cs b hoj, fun cs b => Region.noSelect_spec F.sel i oi' cs b hoi, hkk⟩
      rw [hs] at h
      have hmv := WO.move hk3 hpan s1 s2 hsw e a.defers w hI h
      have htodo : todoOf C.ops.size (listed.setIfInBounds i true) = s1 ++ s2 := by
        have h1 : todoOf C.ops.size (listed.setIfInBounds i true) = (todoOf C.ops.size listed).filter (fun k => k != i) := by
          simp only [todoOf, List.filter_filter]
          refine List.filter_congr fun k hk => ?_
          simp only [List.mem_range] at hk
          by_cases hki : k = i
          · subst hki; simp [Array.getD_eq_getD_getElem?, hsz, hk]
          · rw [getD_set_ne true (Ne.symm hki)]; simp [hki]
        rw [h1, hs]
        rw [hs] at hnd
        have h2 := List.nodup_append.1 hnd
        have hn1 : ∀ k ∈ s1, (k != i) = true := fun k hk => by
          have := h2.2.2 k hk i List.mem_cons_self
          simpa using this
        have hn2 : ∀ k ∈ s2, (k != i) = true := fun k hk => by
          have := (List.nodup_cons.1 h2.2.1).1
          have hne : k ≠ i := fun he => this (he ▸ hk)
          simpa using hne
        rw [List.filter_append, List.filter_eq_self.2 hn1, List.filter_cons]
        simp only [bne_self_eq_false, Bool.false_eq_true, if_false]
        rw [List.filter_eq_self.2 hn2]
      refine WOp.wpOpIn (next := WO C (s1 ++ s2)) hmv ha hI fun e' a' w' ha' hI' hn => ?_
      refine ih (listed.setIfInBounds i true) e' a' w' (by simpa using hsz) ?_ ?_ ha' hI' (by rw [htodo]; exact hn)
      · intro j hj k hk hp
        by_cases hji : i = j
        · subst hji; exact getD_set_true (hclosed k hk hp)
        · rw [getD_set_ne false hji] at hj
          exact getD_set_true (hcl j hj k hk hp)
      · rw [htodo]; rw [hs] at hlen; simp at hlen ⊢; omega

/-- **A region that draws its order.** -/
theorem ws_draw {P : Program} {r : Option Nat} {n : Nat} {Fin : Post} {K : List Item} {e : Env} {ds : List Deferred} {w : World} {id : Nat} {ops : Array Oper} (S : World → Prop) (kd : Nat → Nat) (hS : S { w with drawn := w.drawn + 1 })
    (hm : P.follows .mixedOrders = true) (hok : okDraw ops kd = true) (hk3 : ∀ k, kd k ≤ 2) (hpan : ∀ ch e ds w, ¬ Fin (.panic ch) e ds w)
    (h : WO ⟨P, r, n, ops, S, kd, Fin, K⟩ (List.range ops.size) e ds { w with drawn := w.drawn + 1 }) : WS P r n Fin (.code (.region id ops true) :: K) e ds w := by
  refine ws_of_QK (C := ⟨P, r, n, ops, S, kd, Fin, K⟩) fun a ha hd => wpIn_region_any hm ?_
  have htodo : todoOf ops.size (Array.replicate ops.size false) = List.range ops.size := by
    refine List.filter_eq_self.2 fun k hk => ?_
    simp only [List.mem_range] at hk
    simp [Array.getD_eq_getD_getElem?, hk]
  refine WO.any (C := ⟨P, r, n, ops, S, kd, Fin, K⟩) (okDraw_facts hok) hk3 hpan _ _ e a _ (by simp) ?_ ?_ ha hS (by rw [htodo]; exact hd ▸ h)
  · intro j hj
    simp [Array.getD_eq_getD_getElem?, Array.getElem?_replicate] at hj
    split at hj <;> simp at hj
  · rw [htodo]; simp

end Go.V
/- Regions as lists of operations, one at the head. -/
namespace Go.V
open Go
set_option linter.unusedSimpArgs false
set_option linter.unusedVariables false

/-! ### The list of operations, one at the head -/
def WOpO (C : RCtx) (i : Nat) (o : Oper) (next : Env → List Deferred → World → Prop) (e : Env) (ds : List Deferred) (w : World) : Prop :=
    ((wantedE C.ops e o = false ∧ next (upd C.n e o.dst undef) ds w) ∨
     (wantedE C.ops e o = true ∧
       ((∃ v, (∀ w', C.S w' → (execOp (ev e) o).run C.P w' = .ok (.value v) w') ∧ Oper.isDefer o = false ∧ next (upd C.n e o.dst v) ds w) ∨
        (1 ≤ C.kd i ∧ ∃ v, (execOp (ev e) o).run C.P w = .ok (.value v) w ∧ Oper.isDefer o = false ∧ next (upd C.n e o.dst v) ds w) ∨
        (2 ≤ C.kd i ∧ Oper.isDefer o = false ∧ Loud C.P o e w (fun v w' => C.S w' ∧ next (upd C.n e o.dst v) ds w') (fun ch w' => C.Fin (.panic ch) e ds w')) ∨
        (3 ≤ C.kd i ∧ C.r = none ∧ ∃ d, (execOp (ev e) o).run C.P w = .ok (.defer d) w ∧ next (upd C.n e o.dst undef) (d :: ds) w))))

def WOL (C : RCtx) : Nat → List Oper → Env → List Deferred → World → Prop
  | _, [], e, ds, w => WS C.P C.r C.n C.Fin C.K e ds w
  | i, o :: l, e, ds, w => WOpO C i o (WOL C (i + 1) l) e ds w

theorem WO_of_WOL {C : RCtx} : ∀ (l : List Oper) (k : Nat), (∀ j, l[j]? = C.ops[k + j]?) → ∀ e ds w, WOL C k l e ds w → WO C (List.range' k l.length) e ds w
  | [], _, _, _, _, _, h => h
  | o :: l, k, hl, e, ds, w, h => by
    have h0 : C.ops[k]? = some o := by simpa using (hl 0).symm
    have ih := WO_of_WOL (C := C) l (k + 1) (fun j => by have := hl (j + 1); simpa [Nat.add_assoc, Nat.add_comm 1 j] using this)
    simp only [List.length_cons, List.range'_succ, WO]
    exact WOp.mono (N := WOL C (k + 1) l) ⟨o, h0, h⟩ ih

theorem ws_reg {P : Program} {r : Option Nat} {n : Nat} {Fin : Post} {K : List Item} {e : Env} {ds : List Deferred} {w : World} {id : Nat} {l : List Oper}
    (h : WOL ⟨P, r, n, l.toArray, fun _ => True, fun _ => 3, Fin, K⟩ 0 l e ds w) : WS P r n Fin (.code (.region id l.toArray false) :: K) e ds w := by
  refine ws_region ?_
  have := WO_of_WOL (C := ⟨P, r, n, l.toArray, fun _ => True, fun _ => 3, Fin, K⟩) l 0 (by simp) e ds w h
  simpa [List.range_eq_range'] using this

theorem ws_drw {P : Program} {r : Option Nat} {n : Nat} {Fin : Post} {K : List Item} {e : Env} {ds : List Deferred} {w : World} {id : Nat} {l : List Oper} (S : World → Prop) (kd : Nat → Nat) (hS : S { w with drawn := w.drawn + 1 })
    (hm : P.follows .mixedOrders = true) (hok : okDraw l.toArray kd = true) (hk : ∀ k, kd k ≤ 2) (hpan : ∀ ch e ds w, ¬ Fin (.panic ch) e ds w)
    (h : WOL ⟨P, r, n, l.toArray, S, kd, Fin, K⟩ 0 l e ds { w with drawn := w.drawn + 1 }) : WS P r n Fin (.code (.region id l.toArray true) :: K) e ds w := by
  refine ws_draw S kd hS hm hok hk hpan ?_
  have := WO_of_WOL (C := ⟨P, r, n, l.toArray, S, kd, Fin, K⟩) l 0 (by simp) e ds _ h
  simpa [List.range_eq_range'] using this

section steps
variable {C : RCtx} {i : Nat} {l : List Oper} {e : Env} {ds : List Deferred} {w : World}
variable {dst : Option Tmp} {ty : TypeId} {pos : String} {af : Array Edge}

theorem s_end (h : WS C.P C.r C.n C.Fin C.K e ds w) : WOL C i [] e ds w := h

/-! guards -/
theorem s_gyes {op : Op} {j : Nat} {want c : Bool} (hy : yieldedE C.ops e j = some c) (hc : c = want) (next : WOL C i (⟨dst, op, ty, pos, af, none⟩ :: l) e ds w) :
    WOL C i (⟨dst, op, ty, pos, af, some (j, want)⟩ :: l) e ds w := by
  have hw : wantedE C.ops e ⟨dst, op, ty, pos, af, some (j, want)⟩ = true := by simp [wantedE, hy, hc]
  rcases next with ⟨h, _⟩ | ⟨_, h⟩
  · cases h
  · exact .inr ⟨hw, h⟩
theorem s_gno {op : Op} {j : Nat} {want c : Bool} (hy : yieldedE C.ops e j = some c) (hc : c = !want) (next : WOL C (i + 1) l (upd C.n e dst undef) ds w) :
    WOL C i (⟨dst, op, ty, pos, af, some (j, want)⟩ :: l) e ds w :=
  .inl ⟨by simp [wantedE, hy, hc], next⟩
theorem s_gsplit {op : Op} {j : Nat} {want c : Bool} (hy : yieldedE C.ops e j = some c) (yes : c = want → WOL C i (⟨dst, op, ty, pos, af, none⟩ :: l) e ds w)
    (no : c = !want → WOL C (i + 1) l (upd C.n e dst undef) ds w) : WOL C i (⟨dst, op, ty, pos, af, some (j, want)⟩ :: l) e ds w := by
  by_cases hc : c = want
  · exact s_gyes hy hc (yes hc)
  · have hc' : c = !want := by cases c <;> cases want <;> simp_all
    exact s_gno hy hc' (no hc')

/-! the general steps -/
theorem s_quiet {op : Op} {v : Value} (hd : Oper.isDefer ⟨dst, op, ty, pos, af, none⟩ = false) (hr : ∀ w', (execOp (ev e) ⟨dst, op, ty, pos, af, none⟩).run C.P w' = .ok (.value v) w')
    (next : WOL C (i + 1) l (upd C.n e dst v) ds w) : WOL C i (⟨dst, op, ty, pos, af, none⟩ :: l) e ds w :=
  .inr ⟨rfl, .inl ⟨v, fun w' _ => hr w', hd, next⟩⟩
theorem s_still {op : Op} {v : Value} (hk : 1 ≤ C.kd i) (hd : Oper.isDefer ⟨dst, op, ty, pos, af, none⟩ = false) (hr : (execOp (ev e) ⟨dst, op, ty, pos, af, none⟩).run C.P w = .ok (.value v) w)
    (next : WOL C (i + 1) l (upd C.n e dst v) ds w) : WOL C i (⟨dst, op, ty, pos, af, none⟩ :: l) e ds w :=
  .inr ⟨rfl, .inr (.inl ⟨hk, v, hr, hd, next⟩)⟩
theorem s_val {op : Op} {v : Value} {w' : World} (hk : 2 ≤ C.kd i) (hd : Oper.isDefer ⟨dst, op, ty, pos, af, none⟩ = false) (hr : (execOp (ev e) ⟨dst, op, ty, pos, af, none⟩).run C.P w = .ok (.value v) w')
    (hs : C.S w') (next : WOL C (i + 1) l (upd C.n e dst v) ds w') : WOL C i (⟨dst, op, ty, pos, af, none⟩ :: l) e ds w :=
  .inr ⟨rfl, .inr (.inr (.inl ⟨hk, hd, by unfold Loud; rw [hr]; exact ⟨hs, next⟩⟩))⟩
theorem s_unit {op : Op} {w' : World} (hk : 2 ≤ C.kd i) (hd : Oper.isDefer ⟨dst, op, ty, pos, af, none⟩ = false) (hr : (execOp (ev e) ⟨dst, op, ty, pos, af, none⟩).run C.P w = .ok .skip w')
    (hs : C.S w') (next : WOL C (i + 1) l (upd C.n e dst undef) ds w') : WOL C i (⟨dst, op, ty, pos, af, none⟩ :: l) e ds w :=
  .inr ⟨rfl, .inr (.inr (.inl ⟨hk, hd, by unfold Loud; rw [hr]; exact ⟨hs, next⟩⟩))⟩
theorem s_enter {op : Op} {f : FuncId} {args : Array Value} {w' : World} (hk : 2 ≤ C.kd i) (hd : Oper.isDefer ⟨dst, op, ty, pos, af, none⟩ = false) (hr : (execOp (ev e) ⟨dst, op, ty, pos, af, none⟩).run C.P w = .ok (.enter f args) w')
    (h : Calls C.P f args w' fun
      | .returned v, w'' => C.S w'' ∧ WOL C (i + 1) l (upd C.n e dst v) ds w''
      | .panicked ch, w'' => C.Fin (.panic ch) e ds w''
      | .outgrown, _ => False) : WOL C i (⟨dst, op, ty, pos, af, none⟩ :: l) e ds w :=
  .inr ⟨rfl, .inr (.inr (.inl ⟨hk, hd, by unfold Loud; rw [hr]; exact h⟩))⟩

end steps
end Go.V
/- A region that draws its order: light operations are done as soon as they may be, the others in every order. -/
namespace Go.V
open Go
set_option linter.unusedSimpArgs false
set_option linter.unusedVariables false

def okDrawX (ops : Array Oper) (kd : Nat → Nat) : Bool :=
  let M := masks ops.toList []
  let idx := List.range ops.size
  Region.noSelect ops &&
  idx.all fun j => match ops[j]? with
    | none => false
    | some oj =>
      let ej := edgesOf oj
      ej.all (Nat.blt · j) &&
      (List.range j).all fun i =>
        if (M.getD j 0).testBit i then ej.contains i || ej.any (fun k => (M.getD k 0).testBit i && Nat.blt i k)
        else match ops[i]? with
          | none => false
          | some oi => not (Nat.beq (kd i) 0 || Nat.beq (kd j) 0) || (oi.apart ops oj && oj.apart ops oi)

structure DrawFactsX (ops : Array Oper) (kd : Nat → Nat) (pred : Nat → Nat → Bool) : Prop where
  sel : Region.noSelect ops = true
  lt : ∀ j oj, ops[j]? = some oj → ∀ k ∈ edgesOf oj, k < j
  via : ∀ i j oj, ops[j]? = some oj → i < j → pred i j = true → i ∈ edgesOf oj ∨ ∃ k ∈ edgesOf oj, i < k ∧ pred i k = true
  sw : ∀ i j oi oj, ops[i]? = some oi → ops[j]? = some oj → i < j → pred i j = false → (kd i = 0 ∨ kd j = 0) → oi.apart ops oj = true ∧ oj.apart ops oi = true

theorem okDrawX_facts {ops : Array Oper} {kd : Nat → Nat} (h : okDrawX ops kd = true) :
    DrawFactsX ops kd (fun i j => ((masks ops.toList []).getD j 0).testBit i) := by
  unfold okDrawX at h
  simp only [Bool.and_eq_true, List.all_eq_true, List.mem_range] at h
  obtain ⟨h1, h2⟩ := h
  have hs : ∀ {j oj}, ops[j]? = some oj → j < ops.size := fun hj => (Array.getElem?_eq_some_iff.1 hj).1
  refine ⟨h1, ?_, ?_, ?_⟩
  · intro j oj hj k hk
    have := h2 j (hs hj)
    simp only [hj, Bool.and_eq_true, List.all_eq_true] at this
    have hb := this.1 k hk
    rw [Nat.blt_eq] at hb; exact hb
  · intro i j oj hj hij hp
    have := h2 j (hs hj)
    simp only [hj, Bool.and_eq_true, List.all_eq_true, List.mem_range] at this
    have hb := this.2 i hij
    simp only [hp, if_true, Bool.or_eq_true, List.any_eq_true, Bool.and_eq_true] at hb
    rcases hb with hb | ⟨k, hk, hkp, hik⟩
    · exact .inl (by simpa using hb)
    · exact .inr ⟨k, hk, by rw [Nat.blt_eq] at hik; exact hik, hkp⟩
  · intro i j oi oj hi hj hij hp hl
    have := h2 j (hs hj)
    simp only [hj, Bool.and_eq_true, List.all_eq_true, List.mem_range] at this
    have hb := this.2 i hij
    simp only [hp, hi, Bool.false_eq_true, if_false, Bool.and_eq_true, Bool.or_eq_true, Bool.not_eq_true'] at hb
    rcases hb with hb | hb
    · exfalso
      rw [Bool.or_eq_false_iff] at hb
      rcases hl with hl | hl
      · rw [hl] at hb; exact absurd hb.1 (by decide)
      · rw [hl] at hb; exact absurd hb.2 (by decide)
    · exact hb

/-- Those that may be done next. -/
def enOf (ops : Array Oper) (todo : List Nat) : List Nat := todo.filter fun i => match ops[i]? with
  | some o => (edgesOf o).all fun k => !todo.contains k
  | none => false
def without (i : Nat) (todo : List Nat) : List Nat := todo.filter fun k => !Nat.beq k i

theorem mem_enOf {ops : Array Oper} {todo : List Nat} {i : Nat} : i ∈ enOf ops todo ↔ i ∈ todo ∧ ∃ o, ops[i]? = some o ∧ ∀ k ∈ edgesOf o, k ∉ todo := by
  unfold enOf
  rw [List.mem_filter]
  constructor
  · rintro ⟨h1, h2⟩
    refine ⟨h1, ?_⟩
    cases ho : ops[i]? with
    | none => rw [ho] at h2; cases h2
    | some o =>
      rw [ho] at h2
      refine ⟨o, rfl, fun k hk => ?_⟩
      simp only [List.all_eq_true] at h2
      have := h2 k hk
      simpa using this
  · rintro ⟨h1, o, ho, h2⟩
    refine ⟨h1, ?_⟩
    rw [ho]
    simp only [List.all_eq_true]
    intro k hk
    simpa using h2 k hk
theorem mem_without {i j : Nat} {todo : List Nat} : j ∈ without i todo ↔ j ∈ todo ∧ j ≠ i := by
  unfold without
  rw [List.mem_filter]
  constructor
  · rintro ⟨a, b⟩
    refine ⟨a, fun h => ?_⟩
    subst h
    simp at b
  · rintro ⟨a, b⟩
    refine ⟨a, ?_⟩
    cases hb : Nat.beq j i with
    | false => rfl
    | true => exact absurd (Nat.eq_of_beq_eq_true hb) b
theorem without_comm (i j : Nat) (todo : List Nat) : without i (without j todo) = without j (without i todo) := by
  unfold without
  rw [List.filter_filter, List.filter_filter]
  refine List.filter_congr fun k _ => ?_
  rw [Bool.and_comm]

section
variable (C : RCtx) (Done : Env → List Deferred → World → Prop)
def WT : Nat → List Nat → Env → List Deferred → World → Prop
  | 0, todo, e, ds, w => todo = [] ∧ Done e ds w
  | k + 1, todo, e, ds, w => (∃ i, i ∈ enOf C.ops todo ∧ C.kd i = 0 ∧ WOp C i (WT k (without i todo)) e ds w) ∨
      (enOf C.ops todo ≠ [] ∧ ∀ i ∈ enOf C.ops todo, WOp C i (WT k (without i todo)) e ds w)
end

def Closed (C : RCtx) (pred : Nat → Nat → Bool) (todo : List Nat) : Prop :=
  ∀ j, j < C.ops.size → j ∉ todo → ∀ i, i < j → pred i j = true → i ∉ todo

theorem Closed.en {C : RCtx} {pred : Nat → Nat → Bool} (F : DrawFactsX C.ops C.kd pred) {todo : List Nat} (hc : Closed C pred todo) {i j : Nat} (hi : i ∈ todo) (hj : j ∈ enOf C.ops todo) (hij : i < j) : pred i j = false := by
  obtain ⟨h1, o, ho, h2⟩ := mem_enOf.1 hj
  cases hp : pred i j with
  | false => rfl
  | true =>
    exfalso
    rcases F.via i j o ho hij hp with h | ⟨k, hk, hik, hpk⟩
    · exact h2 i h hi
    · have hkj := F.lt j o ho k hk
      exact hc k (Nat.lt_trans hkj (Array.getElem?_eq_some_iff.1 ho).1) (h2 k hk) i hik hpk hi
theorem Closed.without {C : RCtx} {pred : Nat → Nat → Bool} (F : DrawFactsX C.ops C.kd pred) {todo : List Nat} (hc : Closed C pred todo) {j : Nat} (hj : j ∈ enOf C.ops todo) : Closed C pred (without j todo) := by
  intro a ha hna i hia hp hi
  rw [mem_without] at hi
  by_cases haj : a = j
  · subst haj
    have := hc.en F hi.1 hj hia
    rw [this] at hp; cases hp
  · exact hc a ha (fun h => hna (mem_without.2 ⟨h, haj⟩)) i hia hp hi.1
theorem en_without {C : RCtx} {todo : List Nat} {i j : Nat} (hi : i ∈ enOf C.ops todo) (hij : i ≠ j) : i ∈ enOf C.ops (without j todo) := by
  obtain ⟨h1, o, ho, h2⟩ := mem_enOf.1 hi
  exact mem_enOf.2 ⟨mem_without.2 ⟨h1, hij⟩, o, ho, fun k hk h => h2 k hk (mem_without.1 h).1⟩

theorem length_without {i : Nat} {todo : List Nat} (hnd : todo.Nodup) (hi : i ∈ todo) : (without i todo).length + 1 = todo.length := by
  have he : without i todo = todo.erase i := by
    unfold without
    rw [List.Nodup.erase_eq_filter hnd]
    refine List.filter_congr fun x _ => ?_
    cases hb : Nat.beq x i with
    | true => have := Nat.eq_of_beq_eq_true hb; subst this; simp
    | false =>
      have : x ≠ i := fun h => by subst h; simp at hb
      simp [this]
  rw [he, List.length_erase_of_mem hi]
  have := List.length_pos_of_mem hi
  omega

theorem WT.pick {C : RCtx} {Done : Env → List Deferred → World → Prop} {pred : Nat → Nat → Bool} (F : DrawFactsX C.ops C.kd pred) (hk3 : ∀ k, C.kd k ≤ 2) (hpan : ∀ ch e ds w, ¬ C.Fin (.panic ch) e ds w) :
    ∀ (k : Nat) (todo : List Nat) (e : Env) (ds : List Deferred) (w : World), Closed C pred todo → todo.length = k + 1 → todo.Nodup → C.S w → WT C Done (k + 1) todo e ds w → ∀ j ∈ enOf C.ops todo, WOp C j (WT C Done k (without j todo)) e ds w := by
  intro k
  induction k with
  | zero =>
    intro todo e ds w hc hlen hnd hI h j hj
    rcases h with ⟨i, hi, hk0, h⟩ | ⟨_, h⟩
    · have h1 := (mem_enOf.1 hi).1
      have h2 := (mem_enOf.1 hj).1
      obtain ⟨x, rfl⟩ := List.length_eq_one_iff.1 hlen
      rw [List.mem_singleton] at h1 h2
      subst h1; subst h2; exact h
    · exact h j hj
  | succ k ih =>
    intro todo e ds w hc hlen hnd hI h j hj
    rcases h with ⟨i, hi, hk0, h⟩ | ⟨_, h⟩
    · by_cases hij : j = i
      · subst hij; exact h
      have hi' := (mem_enOf.1 hi).1
      have hj' := (mem_enOf.1 hj).1
      have hlen' : (without i todo).length = k + 1 := by
        have he : without i todo = todo.erase i := by
          unfold without
          rw [List.Nodup.erase_eq_filter hnd]
          refine List.filter_congr fun x _ => ?_
          cases hb : Nat.beq x i with
          | true => have := Nat.eq_of_beq_eq_true hb; subst this; simp
          | false =>
            have : x ≠ i := fun h => by subst h; simp at hb
            simp [this]
        rw [he, List.length_erase_of_mem hi']; omega
      have hnd' : (without i todo).Nodup := List.Pairwise.filter _ hnd
      have h1 : WOp C i (WOp C j (WT C Done k (without j (without i todo)))) e ds w :=
        WOp.mono' h hI fun e ds w hI' hx => ih (without i todo) e ds w (hc.without F hi) hlen' hnd' hI' hx j (en_without hj hij)
      have hsw : Swaps C i j := by
        intro oi oj hoi hoj
        have hap : oi.apart C.ops oj = true := by
          rcases Nat.lt_or_gt_of_ne hij with hlt | hgt
          · exact (F.sw j i oj oi hoj hoi hlt (hc.en F hj' hi hlt) (.inr hk0)).2
          · exact (F.sw i j oi oj hoi hoj hgt (hc.en F hi' hj hgt) (.inl hk0)).1
        exact ⟨hap, fun cs b => Region.noSelect_spec F.sel i oi cs b hoi, fun cs b => Region.noSelect_spec F.sel j oj cs b hoj, .inl hk0⟩
      have h2 := WOp.swap hsw hk3 hpan hI h1
      refine WOp.mono' h2 hI fun e ds w hI' hx => ?_
      refine .inl ⟨i, en_without hi (Ne.symm hij), hk0, ?_⟩
      rw [without_comm]; exact hx
    · exact h j hj

theorem WT.any {C : RCtx} {pred : Nat → Nat → Bool} (F : DrawFactsX C.ops C.kd pred) (hk3 : ∀ k, C.kd k ≤ 2) (hpan : ∀ ch e ds w, ¬ C.Fin (.panic ch) e ds w) :
    ∀ (fuel : Nat) (listed : Array Bool) (e : Env) (a : Act) (w : World), listed.size = C.ops.size →
      Closed C pred (todoOf C.ops.size listed) →
      (todoOf C.ops.size listed).length ≤ fuel → Agree C.n a e → C.S w → WT C (WS C.P C.r C.n C.Fin C.K) (todoOf C.ops.size listed).length (todoOf C.ops.size listed) e a.defers w →
      wpAnyIn (fw C.r) 0 C.P .any C.ops (QK C) fuel listed a w := by
  have inReady : ∀ listed : Array Bool, listed.size = C.ops.size → ∀ i, i ∈ Region.ready .any C.ops listed → i ∈ enOf C.ops (todoOf C.ops.size listed) := by
    intro listed hsz i hi
    simp only [Region.ready, List.mem_filter, List.mem_range, Bool.and_eq_true] at hi
    obtain ⟨hlt, hun, hall⟩ := hi
    obtain ⟨oi, hoi⟩ : ∃ oi, C.ops[i]? = some oi := ⟨C.ops[i], by simp [hlt]⟩
    refine mem_enOf.2 ⟨by simp only [todoOf, List.mem_filter, List.mem_range]; exact ⟨hlt, hun⟩, oi, hoi, fun k hk hkt => ?_⟩
    rw [hoi] at hall
    simp only [Option.map_some, Option.getD_some, Array.all_eq_true_iff_forall_mem] at hall
    simp only [edgesOf, List.mem_map, List.mem_filter] at hk
    obtain ⟨ed, ⟨hm, hb⟩, rfl⟩ := hk
    have := hall ed (by simpa using hm)
    simp only [todoOf, List.mem_filter, List.mem_range] at hkt
    have hin : ed.on < listed.size := by omega
    simp [hb, Array.getD_eq_getD_getElem?, hin] at this hkt
    rw [this] at hkt; cases hkt.2
  have toReady : ∀ listed : Array Bool, listed.size = C.ops.size → ∀ i, i ∈ enOf C.ops (todoOf C.ops.size listed) → i ∈ Region.ready .any C.ops listed := by
    intro listed hsz i hi
    obtain ⟨hi, oi, hoi, hk⟩ := mem_enOf.1 hi
    simp only [todoOf, List.mem_filter, List.mem_range] at hi
    obtain ⟨hlt, hun⟩ := hi
    simp only [Region.ready, List.mem_filter, List.mem_range, Bool.and_eq_true]
    refine ⟨hlt, hun, ?_⟩
    rw [hoi]
    simp only [Option.map_some, Option.getD_some, Array.all_eq_true_iff_forall_mem]
    intro ed hm
    cases hb : Region.binds .any ed with
    | false => rfl
    | true =>
      have hke : ed.on ∈ edgesOf oi := by simp only [edgesOf, List.mem_map, List.mem_filter]; exact ⟨ed, ⟨by simpa using hm, hb⟩, rfl⟩
      have hlt2 := F.lt i oi hoi _ hke
      have hnt := hk _ hke
      simp only [todoOf, List.mem_filter, List.mem_range, not_and] at hnt
      have := hnt (by omega)
      have hin : ed.on < listed.size := by omega
      simp only [Bool.not_true, Bool.false_or]
      simp [Array.getD_eq_getD_getElem?, hin] at this ⊢
      exact this
  intro fuel
  induction fuel with
  | zero =>
    intro listed e a w hsz hcl hlen ha hI h
    have hnil : todoOf C.ops.size listed = [] := List.length_eq_zero_iff.1 (by omega)
    refine ⟨?_, ?_⟩
    · cases hr : Region.ready .any C.ops listed with
      | nil => rfl
      | cons x xs =>
        have := (mem_enOf.1 (inReady listed hsz x (by rw [hr]; exact List.mem_cons_self))).1
        rw [hnil] at this; cases this
    · rw [hnil] at h; exact ⟨e, ha, h.2⟩
  | succ fuel ih =>
    intro listed e a w hsz hcl hlen ha hI h
    refine ⟨fun hr => ?_, fun i hi => ?_⟩
    · cases hs : todoOf C.ops.size listed with
      | nil => rw [hs] at h; exact ⟨e, ha, h.2⟩
      | cons x xs =>
        exfalso
        have hne : ∃ i, i ∈ enOf C.ops (todoOf C.ops.size listed) := by
          have h' := h
          rw [hs] at h'
          simp only [List.length_cons] at h'
          rw [hs]
          rcases h' with ⟨i, hi, _⟩ | ⟨hne, _⟩
          · exact ⟨i, hi⟩
          · cases hx : enOf C.ops (x :: xs) with
            | nil => exact absurd hx hne
            | cons y ys => exact ⟨y, List.mem_cons_self⟩
        obtain ⟨i, hi⟩ := hne
        have := toReady listed hsz i hi
        rw [hr] at this; cases this
    · have hen := inReady listed hsz i hi
      have him := (mem_enOf.1 hen).1
      have hil : i < C.ops.size := by simp only [todoOf, List.mem_filter, List.mem_range] at him; exact him.1
      have hsort : (todoOf C.ops.size listed).Pairwise (· < ·) := List.Pairwise.filter _ List.pairwise_lt_range
      have hnd : (todoOf C.ops.size listed).Nodup := hsort.imp (fun h => Nat.ne_of_lt h)
      have htodo : todoOf C.ops.size (listed.setIfInBounds i true) = without i (todoOf C.ops.size listed) := by
        unfold without
        simp only [todoOf, List.filter_filter]
        refine List.filter_congr fun k hk => ?_
        simp only [List.mem_range] at hk
        by_cases hki : k = i
        · subst hki; simp [Array.getD_eq_getD_getElem?, hsz, hk]
        · rw [getD_set_ne true (Ne.symm hki)]
          have : Nat.beq k i = false := by
            cases hb : Nat.beq k i with
            | false => rfl
            | true => exact absurd (Nat.eq_of_beq_eq_true hb) hki
          simp [this]
      obtain ⟨n, hn⟩ : ∃ n, (todoOf C.ops.size listed).length = n + 1 := by
        cases hs : todoOf C.ops.size listed with
        | nil => rw [hs] at him; cases him
        | cons x xs => exact ⟨xs.length, rfl⟩
      have hlen' : (without i (todoOf C.ops.size listed)).length = n := by
        have he : without i (todoOf C.ops.size listed) = (todoOf C.ops.size listed).erase i := by
          unfold without
          rw [List.Nodup.erase_eq_filter hnd]
          refine List.filter_congr fun x _ => ?_
          cases hb : Nat.beq x i with
          | true => have := Nat.eq_of_beq_eq_true hb; subst this; simp
          | false =>
            have : x ≠ i := fun h => by subst h; simp at hb
            simp [this]
        rw [he, List.length_erase_of_mem him]; omega
      rw [hn] at h
      have hmv := WT.pick F hk3 hpan n _ e a.defers w hcl hn hnd hI h i hen
      refine WOp.wpOpIn hmv ha hI fun e' a' w' ha' hI' hnx => ?_
      refine ih (listed.setIfInBounds i true) e' a' w' (by simpa using hsz) ?_ ?_ ha' hI' ?_
      · rw [htodo]; exact hcl.without F hen
      · rw [htodo, hlen']; omega
      · rw [htodo, hlen']; exact hnx

/-- **A region that draws its order, in every order.** -/
theorem ws_drawX {P : Program} {r : Option Nat} {n : Nat} {Fin : Post} {K : List Item} {e : Env} {ds : List Deferred} {w : World} {id : Nat} {ops : Array Oper} (S : World → Prop) (kd : Nat → Nat) (hS : S { w with drawn := w.drawn + 1 })
    (hm : P.follows .mixedOrders = true) (hok : okDrawX ops kd = true) (hk3 : ∀ k, kd k ≤ 2) (hpan : ∀ ch e ds w, ¬ Fin (.panic ch) e ds w)
    (h : WT ⟨P, r, n, ops, S, kd, Fin, K⟩ (WS P r n Fin K) ops.size (List.range ops.size) e ds { w with drawn := w.drawn + 1 }) : WS P r n Fin (.code (.region id ops true) :: K) e ds w := by
  refine ws_of_QK (C := ⟨P, r, n, ops, S, kd, Fin, K⟩) fun a ha hd => wpIn_region_any hm ?_
  have htodo : todoOf ops.size (Array.replicate ops.size false) = List.range ops.size := by
    refine List.filter_eq_self.2 fun k hk => ?_
    simp only [List.mem_range] at hk
    simp [Array.getD_eq_getD_getElem?, hk]
  refine WT.any (C := ⟨P, r, n, ops, S, kd, Fin, K⟩) (okDrawX_facts hok) hk3 hpan _ _ e a _ (by simp) ?_ ?_ ha hS (by rw [htodo, List.length_range]; exact hd ▸ h)
  · rw [htodo]
    intro j hj hnj
    exact absurd (List.mem_range.2 hj) hnj
  · rw [htodo]; simp

end Go.V
