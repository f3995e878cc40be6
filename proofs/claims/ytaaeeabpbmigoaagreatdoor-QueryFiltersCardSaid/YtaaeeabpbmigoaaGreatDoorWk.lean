/- The reference's encoder at the example of layer 21. -/
import Derived.Test.YtaaeeabpbmigoaaGreatDoorWj
set_option linter.unusedVariables false
set_option linter.unusedSimpArgs false
/- The reference's encoder at the example of layer 21. -/
namespace Go.M
open Go Go.V Go.Proofs
set_option linter.unusedVariables false
set_option maxRecDepth 100000
noncomputable def mkL : List (Nat × VO) → T VO → T VO
  | [], t => t
  | p :: l, t => T.setK 20 t p.1 p.2 fun t => mkL l t
noncomputable def mkH (l : List (Nat × VO)) (n : Nat) : H := ⟨mkL l .leaf, n⟩
/-- A call that is known at one state. -/
noncomputable def oneX (a : List VV) (h : H) (v : VV) (h' : H) (args : List VV) (g : H) : Option (VV × H) := bif lstEq veq args a && hEq g h then some (v, h') else none
noncomputable def chkOne (h : H) (v : VV) (h' : H) (r : Option (List (VV × H))) : Bool := match r with
  | some [p] => (match gcV h p.1 p.2 with
    | some q => veq q.1 v && hEq q.2 h'
    | none => false)
  | _ => false
theorem oneX_ok {ext : Ext} (he : ExtOk ext) {n : Nat} {g : FuncId} {a : List VV} {h h' : H} {v : VV} (hc : chkOne h v h' (callV2 (cfgOf ext) n g a h) = true) (hn : Nat.ble a.length 6 = true)
    (hsz : (match fnsT.get g with | some fn => Nat.ble a.length fn.ntmps && Nat.ble fn.ntmps 4000 | none => true) = true)
    {args : List VV} {k : H} {p : VV × H} (hp : oneX a h v h' args k = some p) : Gives Tryz.prog g args k [p] := by
  unfold oneX at hp
  cases hb : (lstEq veq args a && hEq k h) with
  | false => rw [hb] at hp; cases hp
  | true =>
    rw [hb] at hp
    cases hp
    rw [Bool.and_eq_true] at hb
    have h1 := lstEq_eq (fun _ _ => veq_eq) hb.1
    have h2 := hEq_eq hb.2
    subst h1
    subst h2
    rw [callV2_eq] at hc
    unfold chkOne at hc
    split at hc
    · rename_i q hq
      split at hc
      · rename_i q' hg
        rw [Bool.and_eq_true] at hc
        have h3 := veq_eq hc.1
        have h4 := hEq_eq hc.2
        intro N m w xs R hx
        refine Calls.mono (gives_of_callV he hq hn hsz N m w xs R hx) fun e w' ⟨p', hp', m', x, k1, k2, k3, k4, k5⟩ => ?_
        rw [List.mem_singleton] at hp'
        subst hp'
        obtain ⟨m2, g1, g2, g3⟩ := gcV_ok (v' := q'.1) (h'' := q'.2) hg R k2 k4 k3
        rw [h3] at g2
        rw [h4] at g3
        exact ⟨_, List.mem_singleton.2 rfl, m2, x, k1, g1, g2, g3, k5⟩
      · cases hc
    · cases hc

noncomputable def e21A : List VV := [(.sl 43 0 2 2 true)]
noncomputable def e21H : H := (mkH [(4, (.row (T.ofList 20 [(.lit (.int .u32 0)), (.lit (.int .u32 498536548)), (.lit (.int .u32 997073096)), (.lit (.int .u32 651767980)), (.lit
  (.int .u32 1994146192)), (.lit (.int .u32 1802195444)), (.lit (.int .u32 1303535960)), (.lit (.int .u32 1342533948)), (.lit (.int .u32 3988292384)),
  (.lit (.int .u32 4027552580)), (.lit (.int .u32 3604390888)), (.lit (.int .u32 3412177804)), (.lit (.int .u32 2607071920)), (.lit (.int .u32
  2262029012)), (.lit (.int .u32 2685067896)), (.lit (.int .u32 3183342108))] 0 .leaf) 16 .tab)), (40, (.row (T.ofList 20 [(.lit (.int .i64 1)), (.lit
  (.int .u64 0))] 0 .leaf) 2 .fix)), (41, (.row (T.ofList 20 [(.lit (.string ⟨#[97]⟩)), (.lit (.string ⟨#[49]⟩))] 0 .leaf) 2 .fix)), (42, (.row (T.ofList
  20 [(.lit (.string ⟨#[97]⟩)), (.lit (.string ⟨#[50]⟩)), (.lit (.string ⟨#[98]⟩)), (.lit (.string ⟨#[49]⟩))] 0 .leaf) 4 .fix)), (43, (.row (T.ofList 20
  [(.sl 41 0 1 1 true), (.sl 40 0 1 1 true), (.sl 42 0 2 2 true), (.sl 40 0 1 1 true)] 0 .leaf) 4 .fix))] 44)
noncomputable def e21V : VV := (.tup [(.sl 44 0 118 118 false), (.lit (.int .i64 0))])
noncomputable def e21O : H := (mkH [(4, (.row (T.ofList 20 [(.lit (.int .u32 0)), (.lit (.int .u32 498536548)), (.lit (.int .u32 997073096)), (.lit (.int .u32 651767980)), (.lit
  (.int .u32 1994146192)), (.lit (.int .u32 1802195444)), (.lit (.int .u32 1303535960)), (.lit (.int .u32 1342533948)), (.lit (.int .u32 3988292384)),
  (.lit (.int .u32 4027552580)), (.lit (.int .u32 3604390888)), (.lit (.int .u32 3412177804)), (.lit (.int .u32 2607071920)), (.lit (.int .u32
  2262029012)), (.lit (.int .u32 2685067896)), (.lit (.int .u32 3183342108))] 0 .leaf) 16 .tab)), (40, (.row (T.ofList 20 [(.lit (.int .i64 1)), (.lit
  (.int .u64 0))] 0 .leaf) 2 .fix)), (41, (.row (T.ofList 20 [(.lit (.string ⟨#[97]⟩)), (.lit (.string ⟨#[49]⟩))] 0 .leaf) 2 .fix)), (42, (.row (T.ofList
  20 [(.lit (.string ⟨#[97]⟩)), (.lit (.string ⟨#[50]⟩)), (.lit (.string ⟨#[98]⟩)), (.lit (.string ⟨#[49]⟩))] 0 .leaf) 4 .fix)), (43, (.row (T.ofList 20
  [(.sl 41 0 1 1 true), (.sl 40 0 1 1 true), (.sl 42 0 2 2 true), (.sl 40 0 1 1 true)] 0 .leaf) 4 .fix)), (44, (.row (T.ofList 20 [(.lit (.int .u8 84)),
  (.lit (.int .u8 83)), (.lit (.int .u8 66)), (.lit (.int .u8 75)), (.lit (.int .u8 1)), (.lit (.int .u8 1)), (.lit (.int .u8 9)), (.lit (.int .u8 4)),
  (.lit (.int .u8 1)), (.lit (.int .u8 49)), (.lit (.int .u8 1)), (.lit (.int .u8 50)), (.lit (.int .u8 1)), (.lit (.int .u8 97)), (.lit (.int .u8 1)),
  (.lit (.int .u8 98)), (.lit (.int .u8 150)), (.lit (.int .u8 117)), (.lit (.int .u8 253)), (.lit (.int .u8 146)), (.lit (.int .u8 2)), (.lit (.int .u8
  13)), (.lit (.int .u8 2)), (.lit (.int .u8 1)), (.lit (.int .u8 2)), (.lit (.int .u8 0)), (.lit (.int .u8 1)), (.lit (.int .u8 18)), (.lit (.int .u8
  2)), (.lit (.int .u8 2)), (.lit (.int .u8 1)), (.lit (.int .u8 3)), (.lit (.int .u8 0)), (.lit (.int .u8 1)), (.lit (.int .u8 18)), (.lit (.int .u8
  168)), (.lit (.int .u8 214)), (.lit (.int .u8 255)), (.lit (.int .u8 93)), (.lit (.int .u8 3)), (.lit (.int .u8 36)), (.lit (.int .u8 1)), (.lit (.int
  .u8 0)), (.lit (.int .u8 0)), (.lit (.int .u8 0)), (.lit (.int .u8 0)), (.lit (.int .u8 0)), (.lit (.int .u8 0)), (.lit (.int .u8 0)), (.lit (.int .u8
  0)), (.lit (.int .u8 1)), (.lit (.int .u8 0)), (.lit (.int .u8 0)), (.lit (.int .u8 0)), (.lit (.int .u8 0)), (.lit (.int .u8 0)), (.lit (.int .u8 0)),
  (.lit (.int .u8 0)), (.lit (.int .u8 0)), (.lit (.int .u8 1)), (.lit (.int .u8 0)), (.lit (.int .u8 0)), (.lit (.int .u8 0)), (.lit (.int .u8 0)),
  (.lit (.int .u8 0)), (.lit (.int .u8 0)), (.lit (.int .u8 0)), (.lit (.int .u8 0)), (.lit (.int .u8 1)), (.lit (.int .u8 0)), (.lit (.int .u8 0)),
  (.lit (.int .u8 0)), (.lit (.int .u8 0)), (.lit (.int .u8 0)), (.lit (.int .u8 0)), (.lit (.int .u8 0)), (.lit (.int .u8 0)), (.lit (.int .u8 103)),
  (.lit (.int .u8 25)), (.lit (.int .u8 239)), (.lit (.int .u8 124)), (.lit (.int .u8 4)), (.lit (.int .u8 13)), (.lit (.int .u8 3)), (.lit (.int .u8
  2)), (.lit (.int .u8 0)), (.lit (.int .u8 1)), (.lit (.int .u8 0)), (.lit (.int .u8 2)), (.lit (.int .u8 1)), (.lit (.int .u8 1)), (.lit (.int .u8 1)),
  (.lit (.int .u8 3)), (.lit (.int .u8 0)), (.lit (.int .u8 1)), (.lit (.int .u8 1)), (.lit (.int .u8 85)), (.lit (.int .u8 215)), (.lit (.int .u8 161)),
  (.lit (.int .u8 58)), (.lit (.int .u8 5)), (.lit (.int .u8 4)), (.lit (.int .u8 5)), (.lit (.int .u8 20)), (.lit (.int .u8 39)), (.lit (.int .u8 81)),
  (.lit (.int .u8 73)), (.lit (.int .u8 190)), (.lit (.int .u8 215)), (.lit (.int .u8 254)), (.lit (.int .u8 107)), (.lit (.int .u8 164)), (.lit (.int
  .u8 103)), (.lit (.int .u8 37)), (.lit (.int .u8 75)), (.lit (.int .u8 66)), (.lit (.int .u8 83)), (.lit (.int .u8 84))] 0 .leaf) 118 (.opn 1)))] 45)

theorem e21_run : chkOne e21H e21V e21O (callV2 cfg1 1000000 41 e21A e21H) = true := by decide +kernel
noncomputable def ext2 : Ext := fun f => bif Nat.beq f 41 then some (oneX e21A e21H e21V e21O) else ext1 f
theorem ext2_ok : ExtOk ext2 := by
  intro g F hg args h p hp
  unfold ext2 at hg
  cases hb : Nat.beq g 41 with
  | false => rw [hb] at hg; exact ext1_ok g F hg args h p hp
  | true =>
    rw [hb] at hg
    cases hg
    have := Nat.eq_of_beq_eq_true hb
    subst this
    exact ⟨⟨Tryz.f41, by kernel_rfl, rfl⟩, oneX_ok ext1_ok e21_run (by kernel_rfl) (by kernel_rfl) hp⟩
end Go.M
