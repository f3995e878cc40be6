/- A faster form of the machine. -/
import Derived.Test.YtaaeeabpbmigoaaGreatDoorVh
set_option linter.unusedVariables false
set_option linter.unusedSimpArgs false
/- The machine in a form that the kernel runs in fewer steps; it is the same. -/
namespace Go.M
open Go Go.V
section
set_option linter.unusedVariables false

noncomputable def orU2 (o : Option VV) : VV := Option.rec (motive := fun _ => VV) uv (fun v => v) o
theorem orU2_eq (o : Option VV) : orU2 o = orU o := by cases o <;> rfl
noncomputable def evo2 (x : Operand) : T VV → VV := Operand.rec (motive := fun _ => T VV → VV) (fun t e => orU2 (T.getW (T.way t) e)) (fun v _ => ofV v) (fun g e => evGlobal g e) (fun f _ => .fn (.func f) [] []) x
theorem evo2_eq (x : Operand) (e : T VV) : evo2 x e = evo x e := by
  cases x with
  | tmp t => exact orU2_eq _
  | _ => rfl

noncomputable def forceV2 (v : VV) : (VV → Outs) → Outs :=
  VV.casesOn (motive_1 := fun _ => (VV → Outs) → Outs) v
    (fun w => Value.casesOn (motive_1 := fun _ => (VV → Outs) → Outs) w (fun b k => k (.lit (.bool b)))
      (fun i n => Int.rec (motive := fun _ => (VV → Outs) → Outs) (fun m k => k (.lit (.int i (.ofNat m)))) (fun m k => k (.lit (.int i (.negSucc m)))) n)
      (fun a b k => k (.lit (.float a b))) (fun a b d k => k (.lit (.complex a b d))) (fun s k => k (.lit (.string s))) (fun a k => k (.lit (.pointer a))) (fun a n m k => k (.lit (.slice a n m))) (fun r k => k (.lit (.map r))) (fun r k => k (.lit (.chan r)))
      (fun f a b k => k (.lit (.func f a b))) (fun k => k (.lit .nilFunc)) (fun t v k => k (.lit (.iface t v))) (fun k => k (.lit .nilIface)) (fun a k => k (.lit (.agg a))) (fun a k => k (.lit (.tuple a))))
    fPtr (fun g k => k (.gp g)) fSl (fun i k => k (.mp i)) (fun k => k .emp) (fun f a b k => k (.fn f a b)) (fun t v k => k (.ifc t v)) (fun l k => k (.agg l)) (fun l k => k (.tup l))
theorem forceV2_eq (v : VV) (k : VV → Outs) : forceV2 v k = forceV v k := by
  rw [forceV_eq]
  cases v with
  | lit w =>
    cases w with
    | int i n => cases n <;> rfl
    | _ => rfl
  | ptr id off => show fPtr id off k = _; unfold fPtr; rw [forceN_eq, forceN_eq]
  | sl id off len cap ex => show fSl id off len cap ex k = _; unfold fSl; rw [forceN_eq, forceN_eq, forceN_eq, forceN_eq]
  | _ => rfl

noncomputable def setO2 (d : Option Tmp) : Nat → T VV → VV → (T VV → Outs) → Outs :=
  Option.rec (motive := fun _ => Nat → T VV → VV → (T VV → Outs) → Outs) (fun _ e _ k => k e) (fun d n e v k => Bool.rec (motive := fun _ => Outs) (k e) (T.setW v (T.way d) e k) (Nat.blt d n)) d
theorem setO2_eq (d : Option Tmp) (n : Nat) (e : T VV) (v : VV) (k : T VV → Outs) : setO2 d n e v k = setO d n e v k := by
  cases d with
  | none => rfl
  | some d =>
    show Bool.rec (motive := fun _ => Outs) (k e) (T.setW v (T.way d) e k) (Nat.blt d n) = (bif Nat.blt d n then T.setK 12 e d v k else k e)
    cases Nat.blt d n <;> rfl

noncomputable def xop2 (op : Op) : Cfg → T VV → H → R :=
  Op.casesOn (motive := fun _ => Cfg → T VV → H → R) op
    (fun x c e h => .val (evo2 x e) h)
    (fun x c e h => .val (evo2 x e) h)
    (fun zb zx zy c e h => xop (.pick zb zx zy) c e h)
    (fun zt c e h => xop (.alloc zt) c e h)
    (fun zt zv c e h => xop (.box zt zv) c e h)
    (fun zt zparts c e h => xop (.build zt zparts) c e h)
    (fun zt zlen zparts c e h => xop (.buildSlice zt zlen zparts) c e h)
    (fun zt zm zk zv c e h => xop (.insert zt zm zk zv) c e h)
    (fun t a c e h => onlyVal (xLoad c h t (evo2 a e)))
    (fun t a v c e h => onlyNov (xStore c h t (evo2 a e) (evo2 v e)))
    (fun zg c e h => xop (.ready zg) c e h)
    (fun zg c e h => xop (.waits zg) c e h)
    (fun x c e h => onlyVal (xNilCheck h (evo2 x e)))
    (fun op t x y u c e h => onlyVal (optR h (binV c op t x y (evo2 x e) (evo2 y e))))
    (fun op t x c e h => onlyVal (optR h (unV op (evo2 x e))))
    (fun s d x c e h => onlyVal (convV c s d (evo2 x e) h))
    (fun zd zx c e h => xop (.sliceToArrayPointer zd zx) c e h)
    (fun zt zx c e h => xop (.makeInterface zt zx) c e h)
    (fun zfn zfirst zcap c e h => xop (.makeFunc zfn zfirst zcap) c e h)
    (fun zt zr c e h => xop (.makeMap zt zr) c e h)
    (fun zt zs c e h => xop (.makeChan zt zs) c e h)
    (fun zt zl zm c e h => xop (.makeSlice zt zl zm) c e h)
    (fun zt zx zlo zhi zmx c e h => xop (.slice zt zx zlo zhi zmx) c e h)
    (fun t x f c e h => onlyVal (xFieldAddr c h t (evo2 x e) f))
    (fun t x f c e h => onlyVal (xField c h t (evo2 x e) f))
    (fun t x i c e h => onlyVal (xIndexAddr c h t (evo2 x e) (evo2 i e)))
    (fun t x i c e h => onlyVal (xIndex c h t (evo2 x e) (evo2 i e)))
    (fun zt zx zi zok c e h => xop (.lookup zt zx zi zok) c e h)
    (fun zt zm zk zv c e h => xop (.mapUpdate zt zm zk zv) c e h)
    (fun zt zm zk c e h => xop (.mapEntry zt zm zk) c e h)
    (fun zt zm zs zv c e h => xop (.entryStore zt zm zs zv) c e h)
    (fun zt zx c e h => xop (.range zt zx) c e h)
    (fun zit zs c e h => xop (.next zit zs) c e h)
    (fun zit c e h => xop (.entry zit) c e h)
    (fun zx zxt za zok c e h => xop (.typeAssert zx zxt za zok) c e h)
    (fun x i c e h => onlyVal (xExtract h (evo2 x e) i))
    (fun zcl c e h => xop (.call zcl) c e h)
    (fun zcl c e h => xop (.go zcl) c e h)
    (fun zcl c e h => xop (.defer zcl) c e h)
    (fun zx c e h => xop (.panic zx) c e h)
    (fun za zb c e h => xop (.send za zb) c e h)
    (fun za zb zd c e h => xop (.recv za zb zd) c e h)
    (fun za zb c e h => xop (.select za zb) c e h)
theorem xop2_eq (op : Op) (c : Cfg) (e : T VV) (h : H) : xop2 op c e h = xop op c e h := by
  cases op <;> first
    | rfl
    | (simp only [xop2, evo2_eq]; rfl)

/-- What is left of the frame behind an operation. -/
noncomputable def contO (rec : Rec) (dst : Option Tmp) (n : Nat) (e : T VV) (v : VV) (k : T VV → Cmd) : Outs := setO2 dst n e v fun e => rec (k e)
noncomputable def goR2 (r : R) : Op → Option Tmp → Bool → Fr → Array Oper → List Oper → List Item → List VD → Cfg → Rec → T VV → Outs :=
  R.casesOn (motive := fun _ => Op → Option Tmp → Bool → Fr → Array Oper → List Oper → List Item → List VD → Cfg → Rec → T VV → Outs) r
    (fun s _ _ _ _ _ _ _ _ _ _ _ => .fail s)
    (fun v h _ dst md f ops l K ds _ rec e => forceV2 v fun v => contO rec dst f.n e v fun e => .ops md f ops l K e ds h)
    (fun h _ dst md f ops l K ds _ rec e => contO rec dst f.n e uv fun e => .ops md f ops l K e ds h)
    (fun g args h _ dst md f ops l K ds c rec e => enterV c rec g args h fun v h => contO rec dst f.n e v fun e => .ops md f ops l K e ds h)
    (fun lp args h _ dst md f ops l K ds _ rec e => roundV rec lp args h fun v h => contO rec dst f.n e v fun e => .ops md f ops l K e ds h)
    (fun d h _ dst md f ops l K ds c rec e => rDfr d h ⟨md, f, ops, l, K, ds, dst, none⟩ c rec e)
    (fun al _ dst md f ops l K ds c rec e => rAlts al ⟨md, f, ops, l, K, ds, dst, none⟩ c rec e)
noncomputable def stepO2 (op : Op) (dst : Option Tmp) (l : List Oper) (c : Cfg) (rec : Rec) (md : Bool) (f : Fr) (ops : Array Oper) (K : List Item) (e : T VV) (ds : List VD) (h : H) : Outs :=
  goR2 (xop2 op c e h) op dst md f ops l K ds c rec e
theorem contO_eq (dst : Option Tmp) (md : Bool) (f : Fr) (ops : Array Oper) (l : List Oper) (K : List Item) (ds : List VD) (rec : Rec) (e : T VV) (v : VV) (h : H) : (contO rec dst f.n e v fun e => .ops md f ops l K e ds h) = goCt ⟨md, f, ops, l, K, ds, dst, none⟩ rec e h v := by
  unfold contO; rw [setO2_eq]; rfl
theorem stepO2_eq (o : Oper) (md : Bool) (f : Fr) (ops : Array Oper) (l : List Oper) (K : List Item) (ds : List VD) (c : Cfg) (rec : Rec) (e : T VV) (h : H) :
    stepO2 o.op o.dst l c rec md f ops K e ds h = opDo o ⟨md, f, ops, l, K, ds, o.dst, none⟩ c rec e h := by
  unfold stepO2 opDo
  rw [xop2_eq]
  cases xop o.op c e h with
  | no s => rfl
  | val v h =>
    show (forceV2 v fun v => contO rec o.dst f.n e v fun e => .ops md f ops l K e ds h) = _
    simp only [forceV2_eq, contO_eq]; rfl
  | nov h =>
    show (contO rec o.dst f.n e uv fun e => .ops md f ops l K e ds h) = _
    simp only [contO_eq]; rfl
  | call g args h =>
    show (enterV c rec g args h fun v h => contO rec o.dst f.n e v fun e => .ops md f ops l K e ds h) = _
    simp only [contO_eq]; rfl
  | round lp args h =>
    show (roundV rec lp args h fun v h => contO rec o.dst f.n e v fun e => .ops md f ops l K e ds h) = _
    simp only [contO_eq]; rfl
  | dfr d h => rfl
  | alts al => rfl

abbrev OF := Cfg → Rec → Bool → Fr → Array Oper → List Item → T VV → List VD → H → Outs
noncomputable def operGo2 (dst : Option Tmp) (op : Op) (ty : TypeId) (pos : String) (af : Array Edge) (guard : Option (Nat × Bool)) : List Oper → OF :=
  Option.rec (motive := fun _ => List Oper → OF) (stepO2 op dst) (fun g l => opsGo ⟨dst, op, ty, pos, af, some g⟩ l) guard
noncomputable def opsCons2 (o : Oper) : List Oper → OF := Oper.casesOn (motive := fun _ => List Oper → OF) o operGo2
noncomputable def opsF2 (l : List Oper) : OF := List.casesOn (motive := fun _ => OF) l (fun _ rec _ f _ K e ds h => rec (.fr f K e ds h)) opsCons2
theorem opsF2_eq (l : List Oper) (c : Cfg) (rec : Rec) (md : Bool) (f : Fr) (ops : Array Oper) (K : List Item) (e : T VV) (ds : List VD) (h : H) : opsF2 l c rec md f ops K e ds h = opsF l c rec md f ops K e ds h := by
  cases l with
  | nil => rfl
  | cons o l =>
    obtain ⟨dst, op, ty, pos, af, guard⟩ := o
    cases guard with
    | none => exact stepO2_eq ⟨dst, op, ty, pos, af, none⟩ md f ops l K ds c rec e h
    | some g => rfl

noncomputable def codeF2 (cd : Code) : KF :=
  Code.casesOn (motive := fun _ => KF) cd (fun _ rec f K e ds h => rec (.fr f K e ds h))
    (fun id ops d => Bool.rec (motive := fun _ => KF) (fun _ rec f K e ds h => rec (.ops false f ops ops.toList K e ds h)) (codeF (.region id ops true)) d)
    (fun a b _ rec f K e ds h => rec (.fr f (.code a :: .code b :: K) e ds h))
    (fun x a b c rec f K e ds h => condV (evo2 x e) a b c rec f K e ds h)
    (fun id b _ rec f K e ds h => rec (.fr f (.code b :: .inBlock id :: K) e ds h))
    (fun b _ rec f K e ds h => rec (.fr f (.code b :: .inLoop b :: K) e ds h))
    kRange
    kExit
    (fun b _ rec f K e ds h => rec (.fr f (.code b :: .inScope b :: K) e ds h))
    (fun _ _ rec f K e ds h => rec (.fr f K e ds h))
    kGoto
    (fun _ _ _ _ e ds h => .one ⟨.ret, e, ds, h⟩)
    (fun w => codeF (.refuse w))
theorem codeF2_eq (cd : Code) (c : Cfg) (rec : Rec) (f : Fr) (K : List Item) (e : T VV) (ds : List VD) (h : H) : codeF2 cd c rec f K e ds h = codeF cd c rec f K e ds h := by
  cases cd with
  | region id ops d => cases d <;> rfl
  | cond x a b => show condV (evo2 x e) a b c rec f K e ds h = _; rw [evo2_eq]; rfl
  | _ => rfl

noncomputable def itemF2 (it : Item) : KF :=
  Item.casesOn (motive := fun _ => KF) it codeF2 (fun _ _ rec f K e ds h => rec (.fr f K e ds h)) (fun b _ rec f K e ds h => rec (.fr f (.code b :: .inLoop b :: K) e ds h)) (fun _ _ rec f K e ds h => rec (.fr f K e ds h))
    (fun a b => itemF (.inRegion a b)) (fun a => itemF (.inRangeFunc a)) (fun a => itemF (.endRangeFunc a)) (itemF .beginRound) (fun a b d g => itemF (.call a b d g)) (fun a b => itemF (.extern a b))
noncomputable def frF2 (K : List Item) : Cfg → Rec → Fr → T VV → List VD → H → Outs :=
  List.casesOn (motive := fun _ => Cfg → Rec → Fr → T VV → List VD → H → Outs) K (fun _ _ _ e ds h => .one ⟨.normal, e, ds, h⟩) fun it K c rec f e ds h => itemF2 it c rec f K e ds h
theorem frF2_eq (K : List Item) (c : Cfg) (rec : Rec) (f : Fr) (e : T VV) (ds : List VD) (h : H) : frF2 K c rec f e ds h = frF K c rec f e ds h := by
  cases K with
  | nil => rfl
  | cons it K =>
    cases it with
    | code cd => exact codeF2_eq cd c rec f K e ds h
    | _ => rfl

noncomputable def stepF2 (cmd : Cmd) : Cfg → Rec → Outs :=
  Cmd.casesOn (motive := fun _ => Cfg → Rec → Outs) cmd (fun f K e ds h c rec => frF2 K c rec f e ds h) (fun md f ops l K e ds h c rec => opsF2 l c rec md f ops K e ds h) cXr
theorem stepF2_eq (cmd : Cmd) (c : Cfg) (rec : Rec) : stepF2 cmd c rec = stepF cmd c rec := by
  cases cmd with
  | fr f K e ds h => exact frF2_eq K c rec f e ds h
  | ops md f ops l K e ds h => exact opsF2_eq l c rec md f ops K e ds h
  | xr x todo e ds h => rfl
noncomputable def run2 (c : Cfg) (N : Nat) : Cmd → Outs := Nat.rec (motive := fun _ => Cmd → Outs) noFuel (fun _ rec cmd => stepF2 cmd c rec) N
theorem run2_eq (c : Cfg) : ∀ N, run2 c N = run c N
  | 0 => rfl
  | N + 1 => by
    funext cmd
    show stepF2 cmd c (run2 c N) = stepF cmd c (run c N)
    rw [stepF2_eq, run2_eq c N]

noncomputable def callV2 (c : Cfg) (N : Nat) (g : FuncId) (args : List VV) (h : H) : Option (List (VV × H)) := match c.fns.get g with
  | some fn => match fn.body with
    | some body => match (run2 c N (.fr ⟨g, fn.ntmps, none⟩ [.code body] (envOf args 0 .leaf) [] h)).list with
      | some os => os.mapM fun o => match o.x with
        | .exit _ => none
        | _ => leaveV c fn o.e o.ds o.h
      | none => none
    | none => none
  | none => none
theorem callV2_eq (c : Cfg) (N : Nat) (g : FuncId) (args : List VV) (h : H) : callV2 c N g args h = callV c N g args h := by
  unfold callV2 callV
  cases hg : c.fns.get g with
  | none => rfl
  | some fn =>
    simp only []
    cases hb : fn.body with
    | none => rfl
    | some body =>
      simp only []
      rw [run2_eq]
      cases (run c N (.fr ⟨g, fn.ntmps, none⟩ [.code body] (envOf args 0 .leaf) [] h)).list <;> rfl
end
end Go.M
