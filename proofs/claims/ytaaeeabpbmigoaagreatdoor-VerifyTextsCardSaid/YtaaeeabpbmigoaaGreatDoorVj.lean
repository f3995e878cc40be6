/- The machine over this program; ref03.step given. -/
import Derived.Test.YtaaeeabpbmigoaaGreatDoorProg
import Derived.WalkKit
import Derived.WalkSpells
import Derived.WalkLawsBesides
import Derived.TacticsInMore
import Derived.RegionIn
import Derived.RecoverIn
import Derived.Test.YtaaeeabpbmigoaaGreatDoorVa
import Derived.Test.YtaaeeabpbmigoaaGreatDoorVi
import Derived.KernelRfl
set_option linter.unusedVariables false
set_option linter.unusedSimpArgs false
namespace Go.Proofs
open Go.RowKit
def crcS (s : Nat) : Nat := if s % 2 = 1 then Nat.xor (s / 2) 3988292384 else s / 2
def crcN : Nat → Nat → Nat
  | 0, s => s
  | k + 1, s => crcS (crcN k s)
theorem crcS_lt {s : Nat} (h : s < 2 ^ 32) : crcS s < 2 ^ 32 := by
  unfold crcS
  split
  · exact Nat.xor_lt_two_pow (by omega) (by decide)
  · omega
theorem crcN_lt {s : Nat} (h : s < 2 ^ 32) : ∀ k, crcN k s < 2 ^ 32
  | 0 => h
  | k + 1 => crcS_lt (crcN_lt h k)
theorem xor32 {a b : Nat} (ha : a < 2 ^ 32) (hb : b < 2 ^ 32) : bits .xor .u32 (a : Int) (b : Int) = ((Nat.xor a b : Nat) : Int) := by
  have h1 : a ^^^ b < 2 ^ 32 := Nat.xor_lt_two_pow ha hb
  have h2 : (BitVec.ofInt 32 (a : Int) ^^^ BitVec.ofInt 32 (b : Int)).toNat = Nat.xor a b := by
    rw [BitVec.toNat_xor, BitVec.toNat_ofInt, BitVec.toNat_ofInt]
    have e1 : ((a : Int) % ((2 ^ 32 : Nat) : Int)).toNat = a := by omega
    have e2 : ((b : Int) % ((2 ^ 32 : Nat) : Int)).toNat = b := by omega
    rw [e1, e2]; rfl
  show IntKind.u32.wrap (((BitVec.ofInt 32 (a : Int) ^^^ BitVec.ofInt 32 (b : Int)).toNat : Nat) : Int) = _
  rw [h2]
  simp [IntKind.wrap, IntKind.bits, IntKind.signed]
  omega
set_option maxHeartbeats 400000 in
theorem step_any (s c : Nat) (hs : s < 2 ^ 32) (hc : c < 256) (w : World) :
    Calls Tryz.prog 361 #[.int .u32 s, .int .u8 c] w fun e w' => e = .returned (.int .u32 (crcN 8 (Nat.xor s c))) ∧ w' = w := by
  have hx : Nat.xor s c < 2 ^ 32 := Nat.xor_lt_two_pow hs (by omega)
  have hxx := xor32 hs (show c < 2 ^ 32 by omega)
  go_enter Tryz.func361, Tryz.ntmps361
  go_wp2
  clear hxx
  go_loop [5, 6] (fun s5 i => ∃ k : Nat, k ≤ 8 ∧ i = .int .i64 k ∧ s5 = .int .u32 (crcN k (Nat.xor s c))) (fun _ i => 8 - (intOf i).toNat)
  case atStart => exact ⟨0, Nat.zero_le _, rfl, rfl⟩
  case round =>
    obtain ⟨k, hk, rfl, rfl⟩ := hrel
    have hl := crcN_lt hx k
    generalize hg : crcN k (Nat.xor s c) = y at hl
    by_cases hlt : k < 8
    · have hxy := xor32 (show y / 2 < 2 ^ 32 by omega) (show 3988292384 < 2 ^ 32 by decide)
      go_wp2
      all_goals
        go_round
        case rel =>
          refine ⟨k + 1, by omega, by go_num, ?_⟩
          have hsucc : crcN (k + 1) (s.xor c) = crcS y := by show crcS (crcN k (s.xor c)) = _; rw [hg]
          rw [hsucc]
          first
            | (have hp : y % 2 = 1 := by have := ‹((y : Int) % 2 == 1) = true›; simp at this; omega
               rw [show crcS y = Nat.xor (y / 2) 3988292384 by unfold crcS; rw [if_pos hp], ← hxy]; simp)
            | (have hp : ¬ y % 2 = 1 := by have := ‹((y : Int) % 2 == 1) = false›; simp at this; omega
               rw [show crcS y = y / 2 by unfold crcS; rw [if_neg hp]]; simp)
        case measure => simp [intOf]; omega
    · go_wp2
      go_ret
      have : k = 8 := by omega
      subst this
      have hg' : crcN 8 (s ^^^ c) = y := hg
      exact ⟨by rw [hg']; rfl, rfl⟩
end Go.Proofs
namespace Go.Proofs
open Go.RowKit Go.V
theorem caught_nil (a b : Value) (w : World) : Calls Tryz.prog 124 #[.nilIface, a, b] w fun e w' => e = .returned (.tuple #[]) ∧ w' = w := by
  go_enter Tryz.func124, Tryz.ntmps124
  go_wp2
  refine bodyPost_ret (v := .tuple #[]) ?_ rfl ⟨rfl, rfl⟩
  simp [results, Tryz.results124, go_sem]

theorem wpSIn_region_first {F : Fence} {n : Nat} {P : Program} {Q : Exit → Act → List Frame → World → Prop} {a : Act} {cs : List Frame} {w : World} {id : Nat} {ops : Array Oper} {o : Oper} {rest : List Nat} (ho : ops[0]? = some o) (hw : Region.wanted o (yielded ops a.tmps) = true)
    (hab : ∀ f, o.about P w a.eval = some f → F.fn f) (hro : F.round = none) (hx : (execOp a.eval o).run P w = .ok .recover w) (hr : recoverD cs = none) (hl : List.range ops.size = 0 :: rest)
    (h : wpOpsIn F n P ops (fun e a' w'' => Q e a' cs w'') rest (a.put o.dst .nilIface) w) : (Code.region id ops false).wpSIn F n P Q a cs w := by
  intro b k hb hrb hF hroom
  have h0 : (lone (b.atR a (.inRegion ops (0 :: rest) :: k)) cs w).fenced P F := fenced_oper hF hroom ho hab
  have hg := stepGR_op (P := P) (b := b) (k := k) (cs := cs) (w := w) (rest := rest) ho hw
  rw [hrb, Oper.semAt_none] at hg
  have hfin : ∀ v, (b.atR a (.inRegion ops (0 :: rest) :: k)).finish v = b.atR (a.put o.dst v) (.inRegion ops rest :: k) := by
    intro v; rw [Frame.finish_atR, ho]; rfl
  have hk : (b.atR a (.inRegion ops (0 :: rest) :: k)).kind = .deferred := hb
  have htr := tryRecover_deferred hk cs
  obtain ⟨e, a', w'', hq, harr⟩ := wp_opsIn rest _ _ h b k cs (hrb.trans hro.symm) hF hroom
  refine ⟨e, a', cs, w'', rfl, hq, ?_⟩
  have h1 : ArrivesIn (Machine.fenced P F) P (lone (b.atR a (.inRegion ops (0 :: rest) :: k)) cs w) b k cs e a' w'' := by
    refine .of_steps (.one h0 (step_lone_go ?_)) harr
    rw [hg, ← hfin]
    simp only [Frame.atR, hrb] at htr ⊢
    simp [stepG.apply, hx, htr, hr]
  have h2 := stepR_region (P := P) (b := b) (a := a) (k := k) (cs := cs) (w := w) (id := id) (ops := ops)
  rw [hl] at h2
  exact .of_steps (.one (fenced_calm hF hroom rfl) h2) h1

theorem sections1_quiet (a b : Value) (w : World) :
    CallsDIn (fw none) (0 - 1) Tryz.prog 123 #[a, b] .returning w fun e u w' => (∃ x, e = .returned x) ∧ u = .returning ∧ Below w.heap.size w w' := by
  refine callsDIn_of_wpSIn Tryz.func123 rfl (by simp [fw, Fence.wide]) fun c₀ cs hu => ?_
  have hrec : recoverD (c₀ :: cs) = none := by
    cases c₀
    simp_all [recoverD]
  refine wpSIn_region_first rfl rfl ?_ rfl rfl hrec rfl ?_
  · intro f hf; simp [fw, Fence.wide]
  · simp [wpOpsIn, go_sem, Tryz.ntmps123, Oper.wpIn, fw, Fence.wide]
    refine (callsIn_fw (r := none) (n := 0)).2 (Calls.mono (caught_nil a b w) ?_)
    rintro e w' ⟨rfl, rfl⟩
    cases c₀
    simp_all [bodyPostS, results, Tryz.results123, Below.refl]
end Go.Proofs
/- The machine at this program. -/
namespace Go.M
open Go Go.V Go.Proofs
section
set_option linter.unusedVariables false
set_option maxRecDepth 100000

noncomputable def tysT : T TypeInfo := T.ofList 12 Tryz.prog.types.toList 0 .leaf
noncomputable def fnsT : T Func := T.ofList 12 Tryz.prog.funcs.toList 0 .leaf
noncomputable def plainB (t : TypeId) : Bool := not (Tryz.prog.stoodInHeld t || Tryz.prog.eqGuardType Tryz.prog.depth t)
abbrev Ext := FuncId → Option (List VV → H → Option (VV × H))
noncomputable def cfgOf (ext : Ext) : Cfg := ⟨tysT, fnsT, fun f => Nat.beq f 123, plainB, ext, fun f => Nat.beq f 105⟩

theorem lenTys : Nat.ble Tryz.prog.types.toList.length 4000 = true := by kernel_rfl
theorem lenFns : Nat.ble Tryz.prog.funcs.toList.length 4000 = true := by kernel_rfl
theorem noGoroutines : (Tryz.prog.funcs.toList.all fun fn => fn.name != "runtime.NumGoroutine") = true := by kernel_rfl

theorem get_ofList {α : Type} {l : List α} (hl : Nat.ble l.length 4000 = true) {j : Nat} {a : α} (h : (T.ofList 12 l 0 .leaf).get j = some a) : l[j]? = some a := by
  rw [Nat.ble_eq] at hl
  rw [T.ofList_eq, T.get_puts 12 l 0 .leaf j (by omega)] at h
  split at h
  · simpa using h
  · rw [T.get_leaf] at h; cases h

theorem tys_get {t : TypeId} {i : TypeInfo} (h : tysT.get t = some i) : Tryz.prog.types[t]? = some i := by
  unfold tysT at h
  have := get_ofList (l := Tryz.prog.types.toList) lenTys h
  rw [Array.getElem?_toList] at this
  exact this
theorem fns_get {f : FuncId} {fn : Func} (h : fnsT.get f = some fn) : Tryz.prog.funcs[f]? = some fn := by
  unfold fnsT at h
  have := get_ofList (l := Tryz.prog.funcs.toList) lenFns h
  rw [Array.getElem?_toList] at this
  exact this
theorem fns_name {f : FuncId} {fn : Func} (h : fnsT.get f = some fn) : fn.name ≠ "runtime.NumGoroutine" := by
  intro hn
  unfold fnsT at h
  have h1 := get_ofList (l := Tryz.prog.funcs.toList) lenFns h
  have h2 := List.all_eq_true.1 noGoroutines fn (List.mem_of_getElem? h1)
  rw [hn] at h2; simp at h2
theorem mixed : Tryz.prog.follows .mixedOrders = true := by kernel_rfl
theorem cfgOk (ext : Ext) : CfgOk Tryz.prog (cfgOf ext) := ⟨fun _ _ h => by
    have h1 := tys_get h
    unfold Tables.info?
    rw [if_pos (Array.getElem?_eq_some_iff.1 h1).1]; exact h1, fun _ _ h => fns_get h, fun _ _ h => fns_name h, mixed⟩

theorem plainB_held {t : TypeId} (h : plainB t = true) : Tryz.prog.stoodInHeld t = false ∧ Tryz.prog.eqGuardType Tryz.prog.depth t = false := by
  unfold plainB at h
  generalize Tryz.prog.stoodInHeld t = a at h ⊢
  generalize Tryz.prog.eqGuardType Tryz.prog.depth t = b at h ⊢
  cases a <;> cases b <;> first | exact ⟨rfl, rfl⟩ | cases h
theorem plainOk (ext : Ext) : PlainOk Tryz.prog (cfgOf ext) := ⟨fun _ h => (plainB_held h).1, fun _ h => (plainB_held h).2⟩

noncomputable def ExtOk (ext : Ext) : Prop := ∀ g F, ext g = some F → ∀ args h p, F args h = some p → (∃ fn, fnsT.get g = some fn ∧ fn.body.isSome = true) ∧ Gives Tryz.prog g args h [p]

theorem quietOk {ext : Ext} (he : ExtOk ext) : QuietOk Tryz.prog (cfgOf ext) where
  ext := he
  calls := fun f hf xs w hxs => by
    have hf' : f = 123 := Nat.eq_of_beq_eq_true hf
    subst hf'
    obtain ⟨l⟩ := xs
    simp only [List.size_toArray] at hxs
    obtain ⟨a, b, rfl⟩ : ∃ a b, l = [a, b] := by
      cases l with
      | nil => cases hxs
      | cons a l => cases l with
        | nil => cases hxs
        | cons b l => cases l with
          | nil => exact ⟨a, b, rfl⟩
          | cons _ _ => simp at hxs
    exact ⟨Tryz.f123, Tryz.func123, fun hn => absurd hn (by decide), rfl, sections1_quiet a b w⟩

/-! the machine's answer -/
theorem gives_of_callV {ext : Ext} (he : ExtOk ext) {n : Nat} {g : FuncId} {args : List VV} {h : H} {l : List (VV × H)} (hl : callV (cfgOf ext) n g args h = some l) (hn : Nat.ble args.length 6 = true)
    (hsz : (match fnsT.get g with | some fn => Nat.ble args.length fn.ntmps && Nat.ble fn.ntmps 4000 | none => true) = true) : Gives Tryz.prog g args h l := by
  intro N m w xs R hx
  rw [Nat.ble_eq] at hn
  refine callV_ok (cfgOk ext) (plainOk ext) (quietOk he) hl (by omega) R hx fun fn hfn => ?_
  have hfn' : fnsT.get g = some fn := hfn
  rw [hfn'] at hsz
  simp only [Bool.and_eq_true, Nat.ble_eq] at hsz
  exact hsz

/-! given functions -/
noncomputable def crcF (s : Nat) : Nat := Bool.rec (motive := fun _ => Nat) (Nat.div s 2) (Nat.xor (Nat.div s 2) 3988292384) (Nat.beq (Nat.mod s 2) 1)
noncomputable def crc8 (s : Nat) : Nat := crcF (crcF (crcF (crcF (crcF (crcF (crcF (crcF s)))))))
theorem crcF_eq (s : Nat) : crcF s = crcS s := by
  unfold crcF crcS
  have h1 : Nat.div s 2 = s / 2 := rfl
  have h2 : Nat.mod s 2 = s % 2 := rfl
  rw [h1, h2]
  by_cases h : s % 2 = 1
  · rw [if_pos h, h]; rfl
  · rw [if_neg h]
    have : Nat.beq (s % 2) 1 = false := by
      cases hb : Nat.beq (s % 2) 1
      · rfl
      · exact absurd (Nat.eq_of_beq_eq_true hb) h
    rw [this]
theorem crc8_eq (s : Nat) : crc8 s = crcN 8 s := by
  unfold crc8
  simp only [crcF_eq]
  rfl
noncomputable def stepI (h : H) (s c : Int) : Option (VV × H) := match s, c with
  | .ofNat s, .ofNat c => bif Nat.blt s 4294967296 && Nat.blt c 256 then some (.lit (.int .u32 (.ofNat (crc8 (Nat.xor s c)))), h) else none
  | _, _ => none
noncomputable def u32Of : VV → Option Int
  | .lit (.int .u32 n) => some n
  | _ => none
noncomputable def u8Of : VV → Option Int
  | .lit (.int .u8 n) => some n
  | _ => none
noncomputable def stepX (args : List VV) (h : H) : Option (VV × H) := match args with
  | [a, b] => (match u32Of a, u8Of b with
    | some s, some c => stepI h s c
    | _, _ => none)
  | _ => none

theorem u32Of_eq {v : VV} {n : Int} (h : u32Of v = some n) : v = .lit (.int .u32 n) := by
  unfold u32Of at h
  split at h
  · cases h; rfl
  · cases h
theorem u8Of_eq {v : VV} {n : Int} (h : u8Of v = some n) : v = .lit (.int .u8 n) := by
  unfold u8Of at h
  split at h
  · cases h; rfl
  · cases h

theorem stepX_ok {args : List VV} {h : H} {p : VV × H} (hp : stepX args h = some p) : Gives Tryz.prog 361 args h [p] := by
  unfold stepX at hp
  split at hp
  · rename_i a b
    split at hp
    · rename_i s c hs hc
      have := u32Of_eq hs
      subst this
      have := u8Of_eq hc
      subst this
      unfold stepI at hp
      split at hp
      · rename_i s c
        cases hb : (Nat.blt s 4294967296 && Nat.blt c 256) with
        | false => rw [hb] at hp; cases hp
        | true =>
          rw [hb] at hp
          cases hp
          simp only [Bool.and_eq_true, Nat.blt_eq] at hb
          intro N m w xs R hx
          cases hx with
          | cons h1 h2 =>
          cases h2 with
          | cons h2 h3 =>
          cases h3
          cases h1
          cases h2
          refine Calls.mono (step_any s c hb.1 hb.2 w) fun e w' ⟨k1, k2⟩ => ?_
          subst k2
          refine ⟨_, List.mem_singleton.2 rfl, m, _, k1, .refl m, ?_, R, .refl N w'⟩
          rw [crc8_eq]
          exact .lit _
      · cases hp
    · cases hp
  · cases hp

noncomputable def ext1 : Ext := fun f => bif Nat.beq f 361 then some stepX else none
theorem ext1_ok : ExtOk ext1 := by
  intro g F hg args h p hp
  unfold ext1 at hg
  cases hb : Nat.beq g 361 with
  | false => rw [hb] at hg; cases hg
  | true =>
    rw [hb] at hg
    cases hg
    have := Nat.eq_of_beq_eq_true hb
    subst this
    exact ⟨⟨Tryz.f361, by kernel_rfl, rfl⟩, stepX_ok hp⟩
noncomputable def cfg1 : Cfg := cfgOf ext1
end
end Go.M
