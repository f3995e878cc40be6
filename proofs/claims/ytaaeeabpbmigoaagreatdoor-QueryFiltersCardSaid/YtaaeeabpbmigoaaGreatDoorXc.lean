/- Contracts: same, equal, large; QueryFilters walked. -/
import Derived.Test.YtaaeeabpbmigoaaGreatDoorXb
import Derived.Deep.RegionHeld3
import Derived.Laws.Pointers
import Derived.StillTactics
set_option linter.unusedVariables false
set_option linter.unusedSimpArgs false
namespace Go.Proofs
open Go.RowKit
def lbS (l : List Lb) : List ByteArray := l.flatMap fun p => [p.1, p.2]
theorem lbS_len : ∀ l : List Lb, (lbS l).length = l.length * 2
  | [] => rfl
  | p :: l => by
    show ([p.1, p.2] ++ lbS l).length = _
    rw [List.length_append, lbS_len l]; simp; omega
theorem lbS_take {l : List Lb} {k : Nat} {p : Lb} (hp : l[k]? = some p) : lbS (l.take (k + 1)) = lbS (l.take k) ++ [p.1, p.2] := by
  have hk : k < l.length := (List.getElem?_eq_some_iff.1 hp).1
  have he : l[k] = p := (List.getElem?_eq_some_iff.1 hp).2
  unfold lbS
  rw [List.take_succ_eq_append_getElem hk, he, List.flatMap_append]; rfl
theorem lbS_le (l : List Lb) (k : Nat) : (lbS (l.take k)).length ≤ k * 2 := by rw [lbS_len]; have := List.length_take_le k l; omega
def strsPost (l : List ByteArray) (w : World) (e : Ending) (w' : World) : Prop := ∃ ao cv, e = .returned (.slice ao l.length cv) ∧ w'.ownsRow w.heap.size 9 1 (.slice ao l.length cv) l.length (strV l) ∧ Below w.heap.size w w'
set_option maxHeartbeats 400000 in
theorem strings_any (A : Option Addr) (c : Nat) (l : List Lb) (B : Nat) (w : World) (hl : l.length ≤ 200) (hB : B ≤ w.heap.size) (h : Rd w B A (lbV l)) :
    Calls Tryz.prog 92 #[.slice A l.length c] w (strsPost (lbS l) w) := by
  obtain ⟨i0, hi, hz0, hz1, hz2⟩ := info_parts (P := Tryz.prog) (e := 9) (z := .string .empty) (size := 1) (bytes := 16) (by kernel_rfl)
  go_enter Tryz.func92, Tryz.ntmps92
  go_wp2
  go_loopw [3, 4] (fun v i wr => ∃ (k : Nat) (ao : Option Addr) (cv : Nat), k ≤ l.length ∧ i = .int .i64 k ∧ v = .slice ao (lbS (l.take k)).length cv ∧ Hid (wr.ownsRow w.heap.size 9 1 v (lbS (l.take k)).length (strV (lbS (l.take k)))) ∧ Hid (Below w.heap.size w wr)) (fun _ i _ => l.length - (intOf i).toNat)
  case atStart => exact ⟨0, none, 0, Nat.zero_le _, rfl, rfl, Lib.hid (World.ownsRow_nil _ _ _ _), Lib.hid (.refl _ _)⟩
  case round =>
    obtain ⟨k, ao, cv, hk, rfl, rfl, HO, HW⟩ := hrel
    by_cases hlt : k < l.length
    · obtain ⟨p, hp⟩ : ∃ p, l[k]? = some p := ⟨l[k], by simp [hlt]⟩
      obtain ⟨ad, rfl, _, h1, h2⟩ := (h.below (HW.out.mono hB)).lb hp
      have HS := Lib.hid (lbS_take hp)
      have HL := Lib.hid (lbS_le l k)
      clear hp
      generalize hS : lbS (l.take k) = S at HO HS HL ⊢
      clear hS
      have ag : (Value.slice ao S.length cv).ownBlock ≠ some (ad.add (k * 2)).block := by
        intro he
        have h3 := (HO.out.lt _ he).1
        rw [blockAdd] at h3
        omega
      have lad : (ad.add (k * 2)).block < wr.heap.size := by have := HW.out.size; rw [blockAdd]; omega
      go_wp2
      go_region_held3 (fun w' => w'.cell? (ad.add (k * 2)) = some (.string p.1) ∧ w'.cell? ⟨(ad.add (k * 2)).block, (ad.add (k * 2)).off + 1, none⟩ = some (.string p.2))
        (first
          | go_keep
          | (go_split_ands
             refine ⟨?_, ?_⟩
             · (rw [hgrow.cell_far (ad.add (k * 2)) (by simp; omega) (Ne.symm ag)]; assumption)
             · (rw [hgrow.cell_far ⟨(ad.add (k * 2)).block, (ad.add (k * 2)).off + 1, none⟩ (by simp; omega) (Ne.symm ag)]; assumption)))
        ((refine step_append_lies _ (by rfl) _ _ _ (by rfl) w.heap.size 9 i0 _ 1 16 Tryz.underlying51 hi hz0 hz1 hz2 rfl (by omega) (.slice ao S.length cv) S.length (strV S) (by rfl) ((HO.out.alloc _).drew)
            ⟨wr.heap.size, 0, none⟩ 2 2 [.string p.1, .string p.2] (by rfl) (by rfl) (World.news_of_block (cs := #[.string p.1, .string p.2]) (t := 9) (fr := (0, 0)) (heap_alloc_new wr _)) (by simp [Value.oneCell'])
            (by omega) (by have := HL.out; unfold maxLen; omega) (by have := HL.out; omega) (by have := HW.out.size; simp; omega) (wr.heap.size + 1) (by simp) ?_; intro gg cap w1 hown1 hgrow hat hlt))
      go_wp2
      go_roundw
      case rel =>
        refine ⟨k + 1, some ⟨gg, 0, none⟩, cap, by omega, by go_num, by rw [HS.out]; simp, Lib.hid ?_, Lib.hid ?_⟩
        · rw [HS.out, List.length_append]; unfold strV at hown1 ⊢; rw [List.map_append]; exact hown1
        · exact (((HW.out.alloc HW.out.size _).drew).grown hgrow (by have := HW.out.size; simp at this ⊢; omega) (fun q hq => (HO.out.lt q hq).1))
      case measure => simp [intOf]; omega
    · have : k = l.length := by omega
      subst this
      rw [List.take_length] at HO
      rw [List.take_length]
      go_wp2
      go_ret
      exact ⟨ao, cv, rfl, HO.out, HW.out⟩
end Go.Proofs
namespace Go.Proofs
open Go.RowKit
section
variable {P : Program} (w : World)
/-- A slice that came in is appended to a row of the call's own: its cells, nil let in. -/
theorem append_rd (base : Nat) (t ty e : TypeId) (i : TypeInfo) (z : Value) (size bytes : Nat) (ht : P.underlying t = some (.slice e)) (hi : P.info? e = some i) (hz : i.zero = some z)
    (hsize : i.size = size) (hby : i.bytes = bytes) (hzs : z.cells.size = size) (hsz : 0 < size) (v : Value) (n : Nat) (xs : List Value) (hown : w.ownsRow base e size v n xs)
    (B : Nat) (A : Option Addr) (m c : Nat) (news : List Value) (hl : news.length = m * size) (hr : Rd w B A news) (h1 : ∀ u ∈ news, u.oneCell' = true)
    (h63 : n + m ≤ maxLen) (hbytes : (n + m) * bytes ≤ 140737488355328) (hbase : base ≤ w.heap.size) :
    ∃ v' w', (Builtin.append_ #[t, t] ty #[v, .slice A m c]).run P w = .ok v' w' ∧ w'.ownsRow base e size v' (n + m) (xs ++ news) ∧ w.grownBy w' v.ownBlock := by
  cases A with
  | none =>
    have hn : news = [] := by
      cases news with
      | nil => rfl
      | cons u l =>
        obtain ⟨ad, h, _⟩ := hr 0 u rfl
        cases h
    subst hn
    have hm : m = 0 := by
      rcases Nat.eq_zero_or_pos m with h | h
      · exact h
      · have := Nat.mul_pos h hsz
        simp only [List.length_nil] at hl
        omega
    subst hm
    refine ⟨v, w, ?_, by simpa using hown, World.grownBy.refl w _⟩
    rcases hown.2 with ⟨rfl, rfl⟩ | ⟨g, cap, cur, rfl, _, _, hnc, _⟩
    · simp [Builtin.append_, run_underlying ht, sizeOf, typeInfo, hi, Builtin.lenOf, Builtin.firstCells]
    · simp [Builtin.append_, run_underlying ht, sizeOf, typeInfo, hi, Builtin.lenOf, Builtin.firstCells, hnc, storeCells]
  | some ad =>
    have hc : ∀ j u, news[j]? = some u → w.cell? (ad.add j) = some u := fun j u hu => by
      obtain ⟨ad', h, _, hcell⟩ := hr j u hu
      cases h; exact hcell
    obtain ⟨v', w', hrun, h2, h3, _, _⟩ := run_append_own_at (P := P) w base t ty e i z size bytes ht hi hz hsize hby hzs hsz v n xs hown ad m c news hl hc h1 h63 hbytes hbase
    exact ⟨v', w', hrun, h2, h3⟩
theorem wpList_append_rd {ops : Array Oper} {rest : List Oper} {o : Oper} {a : Act} {Q : Exit → Act → World → Prop} (hgd : o.guard = none) (s x : Operand) (t : TypeId)
    (ho : o.op = .call { callee := .builtin .append, args := #[s, x], argTypes := #[t, t] })
    (base : Nat) (e : TypeId) (i : TypeInfo) (z : Value) (size bytes : Nat) (ht : P.underlying t = some (.slice e)) (hi : P.info? e = some i) (hz : i.zero = some z)
    (hsize : i.size = size) (hby : i.bytes = bytes) (hzs : z.cells.size = size) (hsz : 0 < size) (v : Value) (n : Nat) (xs : List Value) (hs : a.eval s = v) (hown : w.ownsRow base e size v n xs)
    (B : Nat) (A : Option Addr) (m c : Nat) (news : List Value) (hx : a.eval x = .slice A m c) (hl : news.length = m * size) (hr : Rd w B A news) (h1 : ∀ u ∈ news, u.oneCell' = true)
    (h63 : n + m ≤ maxLen) (hbytes : (n + m) * bytes ≤ 140737488355328) (hbase : base ≤ w.heap.size)
    (h : ∀ v' w', w'.ownsRow base e size v' (n + m) (xs ++ news) → w.grownBy w' v.ownBlock → wpList P ops Q rest (a.put o.dst v') w') : wpList P ops Q (o :: rest) a w := by
  obtain ⟨v', w', hrun, h2, h3⟩ := append_rd (P := P) w base t o.type e i z size bytes ht hi hz hsize hby hzs hsz v n xs hown B A m c news hl hr h1 h63 hbytes hbase
  refine wpList_plain hgd fun K hK => ?_
  unfold Oper.wp execOp
  simp only [ho, resolve, invoke, builtin, Sem.run_bind, Sem.run_pure, Result.andThen_ok, List.map_toArray, List.map_cons, List.map_nil, hs, hx, hrun]
  exact hK _ _ (h v' w' h2 h3)
end
def anyIntB (c : Int → Prop) (w : World) (e : Ending) (w' : World) : Prop := ∃ i : Int, e = .returned (.int .i64 i) ∧ c i ∧ Below w.heap.size w w'
theorem lbV_len : ∀ l : List Lb, (lbV l).length = l.length * 2
  | [] => rfl
  | p :: l => by
    show ([Value.string p.1, .string p.2] ++ lbV l).length = _
    rw [List.length_append, lbV_len l]; simp; omega
theorem lbV_one (l : List Lb) : ∀ u ∈ lbV l, u.oneCell' = true := by
  intro u hu
  unfold lbV at hu
  rw [List.mem_flatMap] at hu
  obtain ⟨p, _, hp⟩ := hu
  simp at hp
  rcases hp with rfl | rfl <;> rfl
set_option maxHeartbeats 400000 in
theorem large11_any (A : Option Addr) (c : Nat) (l : List Lb) (B : Nat) (w : World) (hn : l.length ≤ 100000) (hB : B ≤ w.heap.size) (h : Rd w B A (lbV l)) :
    Calls Tryz.prog 54 #[.slice A l.length c] w (anyIntB (fun _ => True) w) := by
  by_cases hl : l.length ≤ 200
  · have HC := Lib.hid (strings_any A c l B w hl hB h)
    have HLn := Lib.hid (lbS_len l)
    go_enter Tryz.func54, Tryz.ntmps54
    go_wp2_with fail
    refine HC.out.mono ?_
    rintro e w1 ⟨ao, cv, rfl, hown, hb⟩
    have HL := Lib.hid (large10_any ao cv (lbS l) w1.heap.size w1 (by rw [HLn.out]; unfold maxLen; omega) (Rd.of_own hown))
    have HB := Lib.hid hb
    clear hown hb
    go_wp2_with fail
    refine HL.out.mono ?_
    rintro e w2 ⟨i, rfl, rfl⟩
    go_wp2
    go_ret
    exact ⟨i, rfl, trivial, HB.out⟩
  · go_enter Tryz.func54, Tryz.ntmps54
    go_wp2
    go_ret
    exact ⟨1, rfl, trivial, Below.refl _ _⟩
end Go.Proofs
namespace Go.Proofs
open Go.RowKit
def lbsF (l : List Sr) : List Lb := l.flatMap (·.ls)
theorem lbsF_take {bs : List Sr} {k : Nat} {p : Sr} (hp : bs[k]? = some p) : lbsF (bs.take (k + 1)) = lbsF (bs.take k) ++ p.ls := by
  have hk : k < bs.length := (List.getElem?_eq_some_iff.1 hp).1
  have he : bs[k] = p := (List.getElem?_eq_some_iff.1 hp).2
  unfold lbsF
  rw [List.take_succ_eq_append_getElem hk, he, List.flatMap_append]; simp
theorem lbV_append (a b : List Lb) : lbV (a ++ b) = lbV a ++ lbV b := by unfold lbV; rw [List.flatMap_append]
/-- A number that says that there are few. -/
def fits300 (n : Nat) (i : Int) : Prop := i ≤ 0 → n ≤ 300
theorem fits300_one (n : Nat) : fits300 n 1 := fun h => absurd h (by decide)
theorem own_shape {w : World} {b : Nat} {e : TypeId} {s : Nat} {v : Value} {n : Nat} {xs : List Value} (h : w.ownsRow b e s v n xs) : ∃ a c, v = .slice a n c := by
  rcases h.2 with ⟨rfl, rfl⟩ | ⟨g, cap, cur, rfl, _⟩
  · exact ⟨none, 0, rfl⟩
  · exact ⟨_, _, rfl⟩
set_option maxRecDepth 100000 in
set_option maxHeartbeats 1000000 in
theorem large12_any (Ab : Option Addr) (cb : Nat) (bs : List Sr) (B : Nat) (w : World) (hn : bs.length ≤ maxLen) (hb : Rd w B Ab (srL bs)) (hs : ∀ s ∈ bs, SrOk w B s) (hB : B ≤ w.heap.size) :
    Calls Tryz.prog 15 #[.slice Ab bs.length cb] w (anyIntB (fits300 bs.length) w) := by
  unfold maxLen at hn
  obtain ⟨i0, hi, hz0, hz1, hz2⟩ := info_parts (P := Tryz.prog) (e := 104) (z := .agg #[.string .empty, .string .empty]) (size := 2) (bytes := 32) (by kernel_rfl)
  go_enter Tryz.func15, Tryz.ntmps15
  go_wp2
  go_loopw [3, 4, 9] (fun x v i wr => ∃ (k : Nat) (ao : Option Addr) (cv : Nat) (n : Int), k ≤ bs.length ∧ i = .int .i64 k ∧ x = .int .i64 n ∧ v = .slice ao (lbsF (bs.take k)).length cv ∧ Hid (0 < k → bs.length ≤ 300) ∧ Hid ((lbsF (bs.take k)).length ≤ 200 * k) ∧ Hid (wr.ownsRow w.heap.size 104 2 v (lbsF (bs.take k)).length (lbV (lbsF (bs.take k)))) ∧ Hid (Below w.heap.size w wr)) (fun _ _ i _ => bs.length - (intOf i).toNat)
  case atStart => exact ⟨0, none, 0, 0, Nat.zero_le _, rfl, rfl, rfl, Lib.hid (fun h => absurd h (by omega)), Lib.hid (Nat.zero_le _), Lib.hid (World.ownsRow_nil _ _ _ _), Lib.hid (.refl _ _)⟩
  case round =>
    obtain ⟨k, ao, cv, n, hk, rfl, rfl, rfl, H3, HL, HO, HW⟩ := hrel
    by_cases hlt : k < bs.length
    · obtain ⟨p, hp'⟩ : ∃ p, bs[k]? = some p := ⟨bs[k], by simp [hlt]⟩
      have hpm : p ∈ bs := List.mem_of_getElem? hp'
      obtain ⟨ad, rfl, hlb, h1, h2⟩ := (hb.below (HW.out.mono hB)).sr hp'
      have HS := Lib.hid (lbsF_take hp')
      have hln := (hs p hpm).ln
      have hsn := (hs p hpm).sn
      unfold maxLen at hln hsn
      have HR := Lib.hid ((hs p hpm).lr.below (HW.out.mono hB))
      clear hp'
      generalize hS : lbsF (bs.take k) = S at HO HS HL ⊢
      clear hS
      by_cases hb3 : bs.length ≤ 300
      · by_cases hl2 : p.ls.length ≤ 200
        · go_wp2_with (at_builtin; refine wpList_append_rd _ rfl _ _ 96 rfl w.heap.size 104 i0 (.agg #[.string .empty, .string .empty]) 2 32 Tryz.underlying96 hi hz0 hz1 hz2 rfl (by decide) _ _ _ rfl (HO.out.alloc _) B p.la p.ls.length p.lc (lbV p.ls) rfl (lbV_len _) (HR.out.alloc (Nat.le_trans hB HW.out.size) _) (lbV_one _) (by have := HL.out; unfold maxLen; omega) (by have := HL.out; omega) (by have := HW.out.size; simp at this ⊢; omega) (fun v' w3 hown' hgrow => ?_))
          all_goals first
            | (go_ret; exact ⟨1, rfl, fits300_one _, HW.out.alloc HW.out.size _⟩)
            | (go_roundw
               case rel =>
                 obtain ⟨ao', cv', hv⟩ := own_shape hown'
                 refine ⟨k + 1, ao', cv', _, by omega, by go_num, rfl, by rw [HS.out, hv, List.length_append], Lib.hid (fun _ => hb3), Lib.hid ?_, Lib.hid ?_, Lib.hid ?_⟩
                 · rw [HS.out, List.length_append]; have := HL.out; omega
                 · rw [HS.out, List.length_append, lbV_append]; exact hown'
                 · exact ((HW.out.alloc HW.out.size _).grown hgrow (by have := HW.out.size; simp at this ⊢; omega) (fun q hq => (HO.out.lt q hq).1))
               case measure => simp [intOf]; omega)
        · go_wp2
          all_goals go_ret
          all_goals exact ⟨1, rfl, fits300_one _, HW.out.alloc HW.out.size _⟩
      · go_wp2
        all_goals go_ret
        all_goals exact ⟨1, rfl, fits300_one _, HW.out.alloc HW.out.size _⟩
    · have hkl : k = bs.length := by omega
      have HF := Lib.hid hkl
      clear hkl
      have H300 := Lib.hid (show bs.length ≤ 300 by
        rcases Nat.eq_zero_or_pos k with h0 | h0
        · have := HF.out; omega
        · exact H3.out h0)
      have HLk := HL.out
      have h300 := H300.out
      have HC := Lib.hid (large11_any ao cv (lbsF (bs.take k)) wr.heap.size wr (by omega) (Nat.le_refl _) (Rd.of_own HO.out))
      go_wp2_with fail
      refine HC.out.mono ?_
      rintro e w1 ⟨i, rfl, _, hb1⟩
      have HB := Lib.hid hb1
      clear hb1
      go_wp2
      go_ret
      exact ⟨i, rfl, fun _ => h300, HW.out.trans (HB.out.mono HW.out.size)⟩
end Go.Proofs
namespace Go.Proofs
open Go.RowKit
def anyBool (w : World) (e : Ending) (w' : World) : Prop := ∃ b : Bool, e = .returned (.bool b) ∧ Below w.heap.size w w'
set_option maxHeartbeats 400000 in
theorem large21_any (Am : Option Addr) (cm : Nat) (ms : List Mt) (B : Nat) (w : World) (hms : ms.length ≤ maxLen) (hm : Rd w B Am (mtL ms)) (hB : B ≤ w.heap.size) :
    Calls Tryz.prog 16 #[.slice Am ms.length cm] w (anyBool w) := by
  unfold maxLen at hms
  go_enter Tryz.func16, Tryz.ntmps16
  go_wp2
  · go_ret
    exact ⟨true, rfl, Below.refl _ _⟩
  · go_loopw [10] (fun i wr => ∃ k : Nat, k ≤ ms.length ∧ i = .int .i64 k ∧ Hid (Below w.heap.size w wr)) (fun i _ => ms.length - (intOf i).toNat)
    case atStart => exact ⟨0, Nat.zero_le _, rfl, Lib.hid (.refl _ _)⟩
    case round =>
      obtain ⟨k, hk, rfl, HW⟩ := hrel
      by_cases hlt : k < ms.length
      · obtain ⟨p, hp'⟩ : ∃ p, ms[k]? = some p := ⟨ms[k], by simp [hlt]⟩
        obtain ⟨ad, rfl, hlb, h1, h2, h3⟩ := (hm.below (HW.out.mono hB)).mt hp'
        clear hp'
        go_wp2
        all_goals first
          | (go_ret; exact ⟨true, rfl, HW.out.alloc HW.out.size _⟩)
          | (go_roundw
             case rel => exact ⟨k + 1, by omega, by go_num, Lib.hid (HW.out.alloc HW.out.size _)⟩
             case measure => simp [intOf]; omega)
      · go_wp2
        go_ret
        exact ⟨false, rfl, HW.out⟩
end Go.Proofs
namespace Go.Proofs
open Go.RowKit
theorem sel_mem {ms : List Mt} {bs : List Sr} {s : Sr} (h : s ∈ sel ms bs) : s ∈ bs := (List.mem_filter.1 h).1
set_option maxRecDepth 100000 in
set_option maxHeartbeats 1000000 in
theorem queryFilters_walk (Ab : Option Addr) (cb : Nat) (bs : List Sr) (Am : Option Addr) (cm : Nat) (ms : List Mt) (B : Nat) (w : World) (hn : bs.length ≤ maxLen) (hb : Rd w B Ab (srL bs)) (hs : ∀ s ∈ bs, SrOk w B s) (hms : ms.length ≤ maxLen) (hm : Rd w B Am (mtL ms)) (hB : B ≤ w.heap.size)
    (alive : ∀ wx, Below w.heap.size w wx → Calls Tryz.prog 17 #[] wx (boolPost true wx)) :
    Calls Tryz.prog 3 #[.slice Ab bs.length cb, .slice Am ms.length cm] w (boolPost true w) := by
  have HA := Lib.hid alive
  have HL := Lib.hid (large12_any Ab cb bs B w hn hb hs hB)
  clear alive
  go_enter Tryz.func3, Tryz.ntmps3
  go_wp2_with fail
  refine HL.out.mono ?_
  rintro e w1 ⟨i, rfl, hfit, hb1⟩
  have HB1 := Lib.hid hb1
  have HF := Lib.hid hfit
  clear hb1 hfit
  by_cases hi : 0 < i
  · go_wp2_with fail
    refine (HA.out w1 HB1.out).mono ?_
    rintro e w2 ⟨rfl, hb2⟩
    have HB2 := Lib.hid hb2
    clear hb2
    go_wp2
    go_ret
    exact ⟨rfl, HB1.out.trans (HB2.out.mono HB1.out.size)⟩
  · have HI := Lib.hid (HF.out (by omega))
    go_wp2_with fail
    refine (large21_any Am cm ms B w1 hms (hm.below (HB1.out.mono hB)) (Nat.le_trans hB HB1.out.size)).mono ?_
    rintro e w2 ⟨b, rfl, hb2⟩
    have HB2 := Lib.hid (HB1.out.trans (hb2.mono HB1.out.size))
    clear hb2
    cases b with
    | true =>
      go_wp2_with fail
      refine (HA.out w2 HB2.out).mono ?_
      rintro e w3 ⟨rfl, hb3⟩
      have HB3 := Lib.hid hb3
      clear hb3
      go_wp2
      go_ret
      exact ⟨rfl, HB2.out.trans (HB3.out.mono HB2.out.size)⟩
    | false =>
      go_wp2_with fail
      refine (HA.out w2 HB2.out).mono ?_
      rintro e w3 ⟨rfl, hb3⟩
      have HB3 := Lib.hid (HB2.out.trans (hb3.mono HB2.out.size))
      clear hb3
      go_wp2_with fail
      refine (filter_any Ab cb bs Am cm ms B w3 HI.out (hb.below (HB3.out.mono hB)) (fun s h => (hs s h).below (HB3.out.mono hB)) hms (hm.below (HB3.out.mono hB)) (Nat.le_trans hB HB3.out.size)).mono ?_
      rintro e w4 ⟨ao, cv, rfl, hown, hb4⟩
      have HO := Lib.hid hown
      have HB4 := Lib.hid (HB3.out.trans (hb4.mono HB3.out.size))
      clear hown hb4
      go_wp2_with fail
      refine (refFilter_any Ab cb bs Am cm ms B w4 HI.out (hb.below (HB4.out.mono hB)) (fun s h => (hs s h).below (HB4.out.mono hB)) hms (hm.below (HB4.out.mono hB)) (Nat.le_trans hB HB4.out.size)).mono ?_
      rintro e w5 ⟨ao', cv', rfl, hown', hb5⟩
      have HO' := Lib.hid hown'
      have HO5 := Lib.hid (own_below HO.out hb5)
      have HB5 := Lib.hid (HB4.out.trans (hb5.mono HB4.out.size))
      clear hown' hb5
      have HLe := Lib.hid (show (sel ms bs).length ≤ maxLen from Nat.le_trans (List.length_filter_le _ _) hn)
      go_wp2_with fail
      refine (equal_same ao ao' cv cv' (sel ms bs) w5.heap.size w5.heap.size B w5 HLe.out (Rd.of_own HO5.out) (Rd.of_own HO'.out) (fun s h => (hs s (sel_mem h)).below (HB5.out.mono hB))).mono ?_
      rintro e w6 ⟨rfl, m, rfl⟩
      go_wp2
      go_ret
      exact ⟨rfl, below_drewN HB5.out m⟩
end Go.Proofs
