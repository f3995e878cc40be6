/- What is laid; the example in every world; VerifyTexts walked. -/
import Derived.Test.YtaaeeabpbmigoaaGreatDoorRows
import Derived.Lib.LaidTab
import Derived.OpenShut
import Derived.Test.YtaaeeabpbmigoaaGreatDoorVl
import Derived.Test.YtaaeeabpbmigoaaGreatDoorVo
set_option linter.unusedVariables false
set_option linter.unusedSimpArgs false
/- What the row of VerifyTexts lays; the example of layer 20 in every world above it. -/
namespace Go.Proofs
open Go.RowKit Go.M Go.V
set_option linter.unusedVariables false
set_option maxRecDepth 100000
theorem laid_rest {P : Program} {x : String × DataW Unit} {r : List (String × DataW Unit)} {w : World} (h : laidMet P (x :: r) w) : laidMet P r w := by
  obtain ⟨ps, ⟨g, t, cs, fuel, p, q, _, _, _, _, hq, rfl⟩, hn, hz⟩ := h
  exact ⟨q, hq, (List.nodup_append.1 hn).2.1, fun b off hb => hz b off (List.mem_append_right _ hb)⟩
theorem strs_at {H : Type} {enc : TypeId × Value → H} {P : Program} {w : World} {base : Nat} {sp : Nat → Bool} {held : Bool} {fuel : Nat} {t e : TypeId} {n : Nat} {cs : List Value} {ls : List (List UInt8)} {p : List MemPlace}
    (ht : P.underlying t = some (.array n e)) (he : P.underlying e = some .string) (hce : P.cellsOf e = 1)
    (h : DataW.trod enc P w base sp held fuel t cs = some (.agg (ls.map fun l => .lit (.string l)), p)) {i : Nat} {l : List UInt8} (hl : ls[i]? = some l) : cs[i]? = some (.string ⟨l.toArray⟩) := by
  obtain ⟨xs, m, _, hx, hcl, hxl, hat⟩ := DataW.trod_array ht h
  have hm : xs.map (·.1) = ls.map fun l => (DataW.lit (.string l) : DataW H) := by
    have := congrArg Prod.fst hx
    simpa using this.symm
  have hi : i < n := by
    have h1 := (List.getElem?_eq_some_iff.1 hl).1
    have h2 := congrArg List.length hm
    simp at h2
    omega
  have hy : xs[i]? = some (xs[i]'(by omega)) := List.getElem?_eq_getElem (by omega)
  have h1 := (hat i hi).trans hy
  rw [hce, Nat.mul_one] at h1
  obtain ⟨s, hs, hd, _⟩ := DataW.trod_string he h1
  have h2 : (xs.map (·.1))[i]? = some (DataW.lit (.string s.data.toList) : DataW H) := by
    rw [List.getElem?_map, hy, hd]; rfl
  rw [hm, List.getElem?_map, hl] at h2
  simp only [Option.map_some, Option.some.injEq, DataW.lit.injEq, Lit.string.injEq] at h2
  have h3 : cs[i]? = some (.string s) := by
    have := congrArg (·[0]?) hs
    simpa [List.getElem?_take, List.getElem?_drop] using this
  rw [h3, h2]
theorem gPow : Tryz.prog.globalNamed "internal/strconv.uint64pow10" = some 2 := by kernel_rfl
theorem gCrcV : Tryz.prog.globalNamed "tsblock/crc.table" = some 4 := by kernel_rfl
theorem gWords : Tryz.prog.globalNamed "tsblock/verify.words" = some 0 := by kernel_rfl
theorem gErrT : Tryz.prog.globalNamed "errors.errorType" = some 1 := by kernel_rfl
theorem gWordsT : (Tryz.prog.globals[0]?).map (·.type) = some 141 := by kernel_rfl
theorem hRt : (Tryz.prog.cutTypes.find? (·.1 == "internal/reflectlite.rtype")).map (·.2) = some 248 := by kernel_rfl
theorem hSize : Tryz.prog.types.size = 563 := by kernel_rfl
theorem hOneRow : ((List.range 563).filter fun t => Tryz.prog.rowNamed t [101, 114, 114, 111, 114]) = [68] := by kernel_rfl
theorem hHandle : typeHandle Tryz.prog 68 = .pointer (some ⟨7, 68, none⟩) := by kernel_rfl
def crcN16 : List Int := [0, 498536548, 997073096, 651767980, 1994146192, 1802195444, 1303535960, 1342533948, 3988292384, 4027552580, 3604390888, 3412177804, 2607071920, 2262029012, 2685067896, 3183342108]
def wordsL : List (List UInt8) := [[102, 105, 108, 101], [116, 114, 117, 110, 99, 97, 116, 101, 100], [102, 114, 97, 109, 105, 110, 103], [99, 104, 101, 99, 107, 115, 117, 109], [99, 111, 110, 116, 101, 110, 116]]
/-- What the tables hold. -/
structure Laid20 (W : World) : Prop where
  pow : Lib.TabIs Tryz.prog W "internal/strconv.uint64pow10" .u64 Lib.pow10Tab
  crc : Lib.TabIs Tryz.prog W "tsblock/crc.table" .u32 crcN16
  words : ∀ i l, wordsL[i]? = some l → W.cell? ⟨0, i, none⟩ = some (.string ⟨l.toArray⟩)
  errT : W.cell? ⟨1, 0, none⟩ = some (.iface 248 (.agg #[.pointer (some ⟨7, 68, none⟩)]))
theorem laid20 {W : World} (h : laidMetH Tryz.prog YtaaeeabpbmigoaaGreatDoor.Rows.verifyTextsRow.laid W) : Laid20 W := by
  have h' : laidMet Tryz.prog [("math/bits.deBruijn32tab", YtaaeeabpbmigoaaGreatDoor.Rows.laid_math_bits_deBruijn32tab), ("math/bits.deBruijn64tab", YtaaeeabpbmigoaaGreatDoor.Rows.laid_math_bits_deBruijn64tab),
      ("internal/strconv.uint64pow10", Lib.tabData .u64 Lib.pow10Tab), ("tsblock/crc.table", Lib.tabData .u32 crcN16), ("tsblock/times.forms", YtaaeeabpbmigoaaGreatDoor.Rows.laid_tsblock_times_forms),
      ("tsblock/verify.words", .agg (wordsL.map fun l => .lit (.string l)))] W ∧ handlesMet Tryz.prog [("errors.errorType", YtaaeeabpbmigoaaGreatDoor.Rows.laid_errors_errorType)] W := h
  obtain ⟨h1, h2⟩ := h'
  have l3 := laid_rest (laid_rest h1)
  have l4 := laid_rest l3
  have l6 := laid_rest (laid_rest l4)
  refine ⟨Lib.tabIs_of_head (t := 415) (e := 100) (n := 20) gPow (by kernel_rfl) (by kernel_rfl) (by kernel_rfl) (by kernel_rfl) (by kernel_rfl) l3,
    Lib.tabIs_of_head (t := 519) (e := 78) (n := 16) gCrcV (by kernel_rfl) (by kernel_rfl) (by kernel_rfl) (by kernel_rfl) (by kernel_rfl) l4, fun i l hl => ?_, ?_⟩
  · obtain ⟨ps, ⟨g, t, cs, fuel, p, q, hg, ht, hvar, hd, _, _⟩, _⟩ := l6
    obtain rfl := Option.some.inj (gWords.symm.trans hg)
    obtain rfl := Option.some.inj (gWordsT.symm.trans ht)
    have := strs_at (t := 141) (e := 9) (n := 5) (by kernel_rfl) (by kernel_rfl) (by kernel_rfl) hd hl
    rw [World.var?_cell gWords hvar i, ← Array.getElem?_toList]
    exact this
  · obtain ⟨name, u, ty, e1, e2, e3, e4, e5⟩ := h2 _ (List.mem_singleton.2 rfl)
    have en : name = [101, 114, 114, 111, 114] := (Option.some.inj e1).symm
    subst en
    obtain rfl := Option.some.inj (hRt.symm.trans e2)
    have hm : ty ∈ (List.range 563).filter fun t => Tryz.prog.rowNamed t [101, 114, 114, 111, 114] := List.mem_filter.2 ⟨List.mem_range.2 (by rw [← hSize]; exact e3), e4⟩
    rw [hOneRow] at hm
    obtain rfl := List.mem_singleton.1 hm
    rw [hHandle] at e5
    simpa using World.var?_cell gErrT e5 0
theorem Laid20.below {W w' : World} (h : Laid20 W) (hb : Below W.heap.size W w') : Laid20 w' :=
  ⟨tab_below h.pow hb, tab_below h.crc hb, fun i l hl => by
    have h0 : 0 < W.heap.size := World.block_lt_of_cell? W ⟨0, i, none⟩ (h.words i l hl)
    exact (hb.cell (p := ⟨0, i, none⟩) h0).trans (h.words i l hl), by
    have h0 : 1 < W.heap.size := World.block_lt_of_cell? W ⟨1, 0, none⟩ h.errT
    exact (hb.cell (p := ⟨1, 0, none⟩) h0).trans h.errT⟩
theorem Laid20.wd {W : World} (h : Laid20 W) : Words W := ⟨h.words 0 _ rfl, h.words 1 _ rfl, h.words 2 _ rfl, h.words 3 _ rfl, h.words 4 _ rfl⟩
end Go.Proofs
/- The example of layer 20 in every world in which the tables are laid. -/
namespace Go.Proofs
open Go.RowKit Go.M Go.V
set_option linter.unusedVariables false
set_option maxRecDepth 100000
theorem row_of_cell {w : World} {b i : Nat} {v : Value} (h : w.cell? ⟨b, i, none⟩ = some v) : ∃ cs ty fz, w.heap[b]? = some (.cells cs ty fz) ∧ cs[i]? = some v := by
  unfold World.cell? at h
  split at h
  · rename_i c t fr hk
    exact ⟨c, t, fr, hk, by simpa using h⟩
  · cases h
theorem tabOR {m : Mp} {w : World} {g : Nat} {l : List VV} {vs : List Value} (hr : VRL m l vs) (hp : 0 < vs.length) (hn : vs.length ≤ 1000) (hc : ∀ i v, vs[i]? = some v → w.cell? ⟨g, i, none⟩ = some v) :
    ∃ ob, w.heap[g]? = some ob ∧ OR m ⟨g, 0, 0, 0⟩ (.row (T.puts 20 l 0 .leaf) l.length .tab) ob := by
  have hll := hr.length
  obtain ⟨cs, ty, fz, hb, _⟩ := row_of_cell (hc 0 _ (List.getElem?_eq_getElem hp))
  refine ⟨_, hb, .row ⟨fun i hi => ?_, trivial, by omega, fun hk => by cases hk⟩⟩
  obtain ⟨x, hx, hv⟩ := hr.get i _ (List.getElem?_eq_getElem hi)
  refine ⟨_, x, ?_, ?_, hv⟩
  · rw [T.get_puts 20 _ 0 .leaf i (by omega), if_pos (by omega), Nat.sub_zero, List.getElem?_eq_getElem hi]
  · obtain ⟨cs', ty', fz', hb', hx'⟩ := row_of_cell (hc i x hx)
    rw [hb] at hb'
    cases hb'
    simpa using hx'
def wordsV : List Value := wordsL.map fun l => .string ⟨l.toArray⟩
def crcV : List Value := crcN16.map fun z => .int .u32 z
theorem vfyH_eq : vfyH.t = T.put 20 (T.put 20 (T.put 20 .leaf 0 (.row (T.puts 20 (wordsV.map .lit) 0 .leaf) 5 .tab)) 1 (.row (T.puts 20 [errT] 0 .leaf) 1 .tab)) 4 (.row (T.puts 20 (crcV.map .lit) 0 .leaf) 16 .tab) := by
  unfold vfyH mkR mkR mkR mkR
  simp only [T.setK_eq, T.ofList_eq]
  rfl
theorem vfyH_get {id : Nat} {o : VO} (h : vfyH.get id = some o) : (id = 0 ∧ o = .row (T.puts 20 (wordsV.map .lit) 0 .leaf) (wordsV.map VV.lit).length .tab) ∨ (id = 1 ∧ o = .row (T.puts 20 [errT] 0 .leaf) [errT].length .tab) ∨ (id = 4 ∧ o = .row (T.puts 20 (crcV.map .lit) 0 .leaf) (crcV.map VV.lit).length .tab) := by
  unfold H.get at h
  rw [vfyH_eq, T.get_put _ _ _ _ _ (by decide), T.get_put _ _ _ _ _ (by decide), T.get_put _ _ _ _ _ (by decide), T.get_leaf] at h
  split at h
  · exact .inr (.inr ⟨by assumption, (Option.some.inj h).symm⟩)
  · split at h
    · exact .inr (.inl ⟨by assumption, (Option.some.inj h).symm⟩)
    · split at h
      · exact .inl ⟨by assumption, (Option.some.inj h).symm⟩
      · cases h
def gMp : Mp := fun g => if g < 18 then some ⟨g, 0, 0, 0⟩ else none
theorem vfyRep {w : World} (L : Laid20 w) : Rep w.heap.size gMp vfyH w := by
  have wr : ∀ id o, vfyH.get id = some o → o.wr = false := fun id o h => by
    rcases vfyH_get h with ⟨rfl, rfl⟩ | ⟨rfl, rfl⟩ | ⟨rfl, rfl⟩ <;> rfl
  have lt : ∀ id o, vfyH.get id = some o → id < 18 := fun id o h => by
    rcases vfyH_get h with ⟨rfl, rfl⟩ | ⟨rfl, rfl⟩ | ⟨rfl, rfl⟩ <;> decide
  refine ⟨fun id o ho => ?_, fun id id' o o' q q' ho ho' hw hl hq hq' hbb => ?_, fun id o q ho hw hq => ?_, fun id hid ho => ?_, fun g hg => ?_, Nat.le_refl _, fun id o ho => ?_⟩
  · rcases vfyH_get ho with ⟨rfl, rfl⟩ | ⟨rfl, rfl⟩ | ⟨rfl, rfl⟩
    · obtain ⟨ob, h1, h2⟩ := tabOR (m := gMp) (w := w) (g := 0) (VRL.lits wordsV) (by decide) (by decide) (fun i v hv => by
        unfold wordsV at hv
        rw [List.getElem?_map, Option.map_eq_some_iff] at hv
        obtain ⟨l, hl, rfl⟩ := hv
        exact L.words i l hl)
      exact ⟨_, ob, rfl, h1, h2⟩
    · obtain ⟨ob, h1, h2⟩ := tabOR (m := gMp) (w := w) (g := 1) (l := [errT]) (vs := [.iface 248 (.agg #[.pointer (some ⟨7, 68, none⟩)])]) (.cons (.ifc (.agg (.cons (.lit _) .nil))) .nil) (by decide) (by decide) (fun i v hv => by
        match i, hv with
        | 0, hv => cases hv; exact L.errT)
      exact ⟨_, ob, rfl, h1, h2⟩
    · obtain ⟨ob, h1, h2⟩ := tabOR (m := gMp) (w := w) (g := 4) (VRL.lits crcV) (by decide) (by decide) (fun i v hv => by
        unfold crcV at hv
        rw [List.getElem?_map, Option.map_eq_some_iff] at hv
        obtain ⟨z, hz, rfl⟩ := hv
        have hlt : i < crcN16.length := (List.getElem?_eq_some_iff.1 hz).1
        have := L.crc.cell gCrcV i hlt
        rw [this, List.getD, hz]; rfl)
      exact ⟨_, ob, rfl, h1, h2⟩
  · rw [wr _ _ ho] at hw; cases hw
  · rw [wr _ _ ho] at hw; cases hw
  · unfold gMp
    rw [if_neg (by omega)]
  · unfold gMp
    rw [if_pos hg]
  · have := lt _ _ ho; omega
/-- The example of layer 20. -/
theorem alive20_any {w : World} (L : Laid20 w) : Calls Tryz.prog 34 #[] w (boolPost true w) :=
  isYes_gives ext3_ok alive20_run rfl (by decide +kernel) (vfyRep L) .nil
end Go.Proofs
/- VerifyTexts, walked. -/
namespace Go.Proofs
open Go.RowKit
set_option linter.unusedVariables false
set_option maxRecDepth 100000
theorem wordB_le (c : Int) : (wordB c).size ≤ 9 := by
  unfold wordB
  cases c == 1 <;> cases c == 2 <;> cases c == 3 <;> cases c == 4 <;> decide
/-- The fault that the law makes, in a later world. -/
structure Fa (b : Nat) (c n : Int) (w wk : World) : Prop where
  hb : Below w.heap.size w wk
  l : Laid20 wk
  c0 : wk.cell? ⟨b, 0, none⟩ = some (.int .i64 c)
  c1 : wk.cell? ⟨b, 1, none⟩ = some (.int .i64 n)
theorem Fa.step {b : Nat} {c n : Int} {w wk wx : World} (F : Fa b c n w wk) (h : Below wk.heap.size wk wx) : Fa b c n w wx := by
  have hlt : b < wk.heap.size := World.block_lt_of_cell? wk ⟨b, 0, none⟩ F.c0
  exact ⟨F.hb.trans (h.mono F.hb.size), F.l.below h, (h.cell (p := ⟨b, 0, none⟩) hlt).trans F.c0, (h.cell (p := ⟨b, 1, none⟩) hlt).trans F.c1⟩
theorem Fa.start {c n : Int} {w : World} (L : Laid20 w) (xs : List Value) (ty : TypeId) : Fa w.heap.size c n w (w.alloc (.cells (.int .i64 c :: .int .i64 n :: xs).toArray ty)) := by
  have hb : Below w.heap.size w (w.alloc (.cells (.int .i64 c :: .int .i64 n :: xs).toArray ty)) := (Below.refl _ w).alloc (Nat.le_refl _) _
  refine ⟨hb, L.below hb, ?_, ?_⟩
  · rw [World.cell?_alloc_at _ _ _ _ (by simp)]; rfl
  · rw [World.cell?_alloc_at _ _ _ _ (by simp)]; rfl
def tailB : ByteArray := ⟨#[58, 32, 101, 114, 114, 111, 114, 32]⟩
theorem textEq (c n : Int) : faultB c n = (wordB c ++ tailB) ++ itoaB n := by
  unfold faultB
  have : colB ++ errB = tailB := by decide
  rw [← this]
  simp only [ByteArray.append_assoc]
theorem assert40 (n : Int) (W : World) : (Instr.typeAssert (.iface 40 (.int .i64 n)) 68 40 true).run Tryz.prog W = .ok (.tuple #[.int .i64 n, .bool true]) W := by kernel_rfl
theorem texts_walk (c n : Int) (hn : inI64 n) (w : World) (L : Laid20 w) : Calls Tryz.prog 9 #[.int .i64 c, .int .i64 n] w (boolPost true w) := by
  have F0 := Lib.hid (Fa.start (c := c) (n := n) L [.int .i64 0, .int .i64 0, .int .i64 0, .int .i64 0, .int .i64 0, .int .i64 0] 65)
  have hl := itoaB_le n hn
  have hw := wordB_le c
  have hta := assert40
  clear L
  go_enter Tryz.func9, Tryz.ntmps9
  go_wp2_with fail
  refine (unwrap_any _ n _ F0.out.c1).mono ?_
  rintro e w1 ⟨rfl, hb⟩
  have F1 := Lib.hid (F0.out.step hb)
  clear hb
  go_wp2_with fail
  refine (alive20_any F1.out.l).mono ?_
  rintro e w2 ⟨rfl, hb⟩
  have F2 := Lib.hid (F1.out.step hb)
  clear hb
  go_wp2_with fail
  refine (error_any _ c n hn w2 F2.out.l.wd F2.out.c0 F2.out.c1 F2.out.l.pow).mono ?_
  rintro e w3 ⟨rfl, hb⟩
  have F3 := Lib.hid (F2.out.step hb)
  clear hb
  go_wp2_with fail
  refine (word_any c w3).mono ?_
  rintro e w4 ⟨rfl, hb⟩
  have F4 := Lib.hid (F3.out.step hb)
  clear hb
  go_wp2_with fail
  refine (itoa_any n hn w4 F4.out.l.pow).mono ?_
  rintro e w5 ⟨rfl, hb⟩
  have F5 := Lib.hid (F4.out.step hb)
  clear hb
  go_wp2_with fail
  · refine (error_nil w5).mono ?_
    rintro e w6 ⟨rfl, hb⟩
    have F6 := Lib.hid (F5.out.step hb)
    clear hb
    go_wp2_with fail
    refine (unwrap_nil w6).mono ?_
    rintro e w7 ⟨rfl, hb⟩
    have F7 := Lib.hid (F6.out.step hb)
    clear hb
    go_wp2
    go_ret
    exact ⟨rfl, F7.out.hb⟩
  · rename_i hx
    exact absurd (by rw [textEq]; rfl) hx
end Go.Proofs
