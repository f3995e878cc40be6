/- The example in every world; the arguments opened. -/
import Derived.Test.YtaaeeabpbmigoaaGreatDoorRows
import Derived.Lib.LaidTab
import Derived.Test.YtaaeeabpbmigoaaGreatDoorWl
import Derived.Test.YtaaeeabpbmigoaaGreatDoorXa
import Derived.Deep.Slices
import Derived.Deep.Fields
import Derived.ChangeSame
import Derived.Test.YtaaeeabpbmigoaaGreatDoorXc
set_option linter.unusedVariables false
set_option linter.unusedSimpArgs false
/- The example of layer 21 holds in every world above the laid tables. -/
namespace Go.Proofs
open Go.RowKit Go.M Go.V
set_option maxRecDepth 100000
theorem laid_tail {P : Program} {x : String × DataW Unit} {r : List (String × DataW Unit)} {w : World} (h : laidMet P (x :: r) w) : laidMet P r w := by
  obtain ⟨ps, ⟨g, t, cs, fuel, p, q, _, _, _, _, hq, rfl⟩, hn, hz⟩ := h
  exact ⟨q, hq, (List.nodup_append.1 hn).2.1, fun b off hb => hz b off (List.mem_append_right _ hb)⟩
def crcL : List Int := [0, 498536548, 997073096, 651767980, 1994146192, 1802195444, 1303535960, 1342533948, 3988292384, 4027552580, 3604390888, 3412177804, 2607071920, 2262029012, 2685067896, 3183342108]
theorem gCrc : Tryz.prog.globalNamed "tsblock/crc.table" = some 4 := by kernel_rfl
theorem crc_tab {W : World} (h : laidMetH Tryz.prog YtaaeeabpbmigoaaGreatDoor.Rows.queryFiltersRow.laid W) : Lib.TabIs Tryz.prog W "tsblock/crc.table" .u32 crcL := by
  have h1 : laidMet Tryz.prog YtaaeeabpbmigoaaGreatDoor.Rows.queryFiltersRow.laid W := h
  have h2 : laidMet Tryz.prog [("tsblock/crc.table", Lib.tabData .u32 crcL), ("tsblock/times.forms", YtaaeeabpbmigoaaGreatDoor.Rows.laid_tsblock_times_forms)] W := laid_tail h1
  exact Lib.tabIs_of_head (t := 519) (e := 78) (n := 16) gCrc (by kernel_rfl) (by kernel_rfl) (by kernel_rfl) (by kernel_rfl) (by kernel_rfl) h2
theorem crcVals : ([.lit (.int .u32 0), .lit (.int .u32 498536548), .lit (.int .u32 997073096), .lit (.int .u32 651767980), .lit (.int .u32 1994146192), .lit (.int .u32 1802195444), .lit (.int .u32 1303535960), .lit (.int .u32 1342533948), .lit (.int .u32 3988292384), .lit (.int .u32 4027552580), .lit (.int .u32 3604390888), .lit (.int .u32 3412177804), .lit (.int .u32 2607071920), .lit (.int .u32 2262029012), .lit (.int .u32 2685067896), .lit (.int .u32 3183342108)] : List VV) = crcL.map fun z => .lit (.int .u32 z) := rfl
theorem crcH_get {id : Nat} {o : VO} (h : crcH.get id = some o) : id = 4 ∧ o = .row (T.puts 20 (crcL.map fun z => .lit (.int .u32 z)) 0 .leaf) 16 .tab := by
  unfold crcH mkH mkL mkL at h
  rw [T.setK_eq, T.ofList_eq, crcVals] at h
  have h' : (T.put 20 (.leaf : T VO) 4 (.row (T.puts 20 (crcL.map fun z => .lit (.int .u32 z)) 0 .leaf) 16 .tab)).get id = some o := h
  rw [T.get_put _ _ _ _ _ (by decide)] at h'
  split at h'
  · exact ⟨by assumption, (Option.some.inj h').symm⟩
  · rw [T.get_leaf] at h'; cases h'
def globMp : Mp := fun g => if g < 18 then some ⟨g, 0, 0, 0⟩ else none
theorem crcRep {W wx : World} (h : Lib.TabIs Tryz.prog W "tsblock/crc.table" .u32 crcL) (hb : Below W.heap.size W wx) : Rep wx.heap.size globMp crcH wx := by
  unfold Lib.TabIs World.var? at h
  rw [gCrc, Option.bind_some] at h
  obtain ⟨cs, ty, fz, hc, he⟩ : ∃ cs ty fz, W.heap[4]? = some (.cells cs ty fz) ∧ cs = (crcL.map fun z => Value.int .u32 z).toArray := by
    split at h
    · rename_i c t fr hk
      exact ⟨c, t, fr, hk, Option.some.inj h⟩
    · cases h
  have hlt : 4 < W.heap.size := (Array.getElem?_eq_some_iff.1 hc).1
  have hcx : wx.heap[4]? = some (.cells cs ty fz) := (hb.block 4 hlt).trans hc
  refine ⟨fun id o ho => ?_, fun id id' o o' q q' ho ho' hw hl hq hq' hbb => ?_, fun id o q ho hw hq => ?_, fun id hid ho => ?_, fun g hg => ?_, Nat.le_refl _, fun id o ho => ?_⟩
  · obtain ⟨rfl, rfl⟩ := crcH_get ho
    refine ⟨⟨4, 0, 0, 0⟩, _, rfl, hcx, .row ⟨fun i hi => ?_, trivial, by decide, fun hk => by cases hk⟩⟩
    have hl : crcL.length = 16 := rfl
    refine ⟨.lit (.int .u32 (crcL[i]'(by omega))), .int .u32 (crcL[i]'(by omega)), ?_, ?_, .lit _⟩
    · rw [T.get_puts 20 _ 0 .leaf i (by simp [hl]), if_pos (by simp [hl]; exact hi)]
      simp
    · subst he
      simp
  · obtain ⟨rfl, rfl⟩ := crcH_get ho
    cases hw
  · obtain ⟨rfl, rfl⟩ := crcH_get ho
    cases hw
  · unfold globMp
    rw [if_neg (by omega)]
  · unfold globMp
    rw [if_pos hg]
  · obtain ⟨rfl, rfl⟩ := crcH_get ho
    decide
/-- The example of layer 21, above a world in which the tables are laid. -/
theorem alive21_any {W : World} (h : Lib.TabIs Tryz.prog W "tsblock/crc.table" .u32 crcL) {wx : World} (hb : Below W.heap.size W wx) : Calls Tryz.prog 17 #[] wx (boolPost true wx) :=
  isTrue_gives ext2_ok alive21_run rfl (by decide +kernel) (crcRep h hb) .nil
end Go.Proofs
/- The arguments opened. -/
namespace Go.Proofs
open Go.RowKit Go.Deep
set_option maxRecDepth 100000
theorem flat_at {α : Type} {k : Nat} {g : α → List Value} (hg : ∀ x, (g x).length = k) : ∀ (l : List α) (j : Nat) (u : Value), (l.flatMap g)[j]? = some u → ∃ i r x, l[i]? = some x ∧ r < k ∧ j = i * k + r ∧ (g x)[r]? = some u
  | [], j, u, h => by simp at h
  | x :: l, j, u, h => by
    rw [List.flatMap_cons] at h
    by_cases hj : j < k
    · rw [List.getElem?_append_left (by rw [hg]; exact hj)] at h
      exact ⟨0, j, x, rfl, hj, by omega, h⟩
    · rw [List.getElem?_append_right (by rw [hg]; omega), hg] at h
      obtain ⟨i, r, y, h1, h2, h3, h4⟩ := flat_at hg l (j - k) u h
      refine ⟨i + 1, r, y, by simpa using h1, h2, ?_, h4⟩
      rw [Nat.add_mul]; omega
theorem rd_rows {W : World} {α : Type} {k : Nat} {g : α → List Value} (hg : ∀ x, (g x).length = k) {a : Addr} {len : Nat} {f : Nat → α} (h : ∀ i, i < len → ∀ r u, (g (f i))[r]? = some u → W.cell? (a.add (i * k + r)) = some u) :
    Rd W W.heap.size (some a) (((List.range len).map f).flatMap g) := fun j u hu => by
  obtain ⟨i, r, x, h1, h2, rfl, h4⟩ := flat_at hg _ _ _ hu
  rw [List.getElem?_map, Option.map_eq_some_iff] at h1
  obtain ⟨i', h1, rfl⟩ := h1
  have hi : i < len := by
    have := (List.getElem?_eq_some_iff.1 h1).1
    simpa using this
  rw [List.getElem?_range hi] at h1
  cases h1
  have hc := h i hi r u h4
  refine ⟨a, rfl, ?_, hc⟩
  have := World.block_lt_of_cell? W _ hc
  rwa [blockAdd] at this
section
variable {H : Type} {enc : TypeId × Value → H} {P : Program} {w : World} {sp : Nat → Bool} {held : Bool}
/-- A slice of structs whose fields have one cell each: what lies in each cell. -/
theorem slice_fields {t e : TypeId} {fs : Array Field} {fuel : Nat} {v : Value} {x : DataW H × List MemPlace} (ht : P.underlying t = some (.slice e)) (he : P.underlying e = some (.struct fs))
    (hone : oneCellFields P fs = true) (hC : P.cellsOf e = fs.size) (h : DataW.trod enc P w 0 sp held fuel t [v] = some x) :
    v = .slice none 0 0 ∨ ∃ a len cap, v = .slice (some a) len cap ∧ len ≤ maxLen ∧
      ∀ i, i < len → ∀ (j : Nat) (f : Field), fs[j]? = some f → ∃ u y n, w.cell? (a.add (i * fs.size + j)) = some u ∧ DataW.trod enc P w 0 sp held n f.type [u] = some y := by
  rcases open_slice ht h with ⟨h0, _⟩ | ⟨a, len, cap, m, n, D, Pl, hcs, _, hl, hm, hmm, _, hi⟩
  · exact .inl (by simpa using h0)
  · refine .inr ⟨a, len, cap, by simpa using hcs, Nat.le_trans hl hm, fun i hil j f hj => ?_⟩
    have him : i < m := by rw [hmm]; split <;> omega
    obtain ⟨cs, hc, ht'⟩ := hi i him
    rw [hC] at hc
    obtain ⟨ys, n', _, _, _, hyl, hf⟩ := DataW.trod_struct he ht'
    obtain ⟨_, hcl, hat⟩ := World.cells?_some hc
    obtain ⟨ho, hk⟩ := hone_of hone j f hj
    have hjl : j < fs.size := (Array.getElem?_eq_some_iff.1 hj).1
    have hv : cs[j]? = some (cs[j]'(by omega)) := List.getElem?_eq_getElem (by omega)
    have h1 := hf j f hj
    rw [ho, hk, show (cs.drop j).take 1 = [cs[j]'(by omega)] from by rw [List.drop_eq_getElem_cons (by omega)]; rfl, List.getElem?_eq_getElem (show j < ys.length by omega)] at h1
    exact ⟨_, _, _, by rw [← add_add, hat j hjl, hv], h1⟩
end
section
variable {H : Type} {enc : TypeId × Value → H} {W : World} {sp : Nat → Bool} {held : Bool}
theorem tz9 : Tryz.prog.underlying 9 = some .string := by kernel_rfl
theorem open96 {n : Nat} {v : Value} {x : DataW H × List MemPlace} (h : DataW.trod enc Tryz.prog W 0 sp held n 96 [v] = some x) :
    ∃ A c, ∃ ls : List Lb, v = .slice A ls.length c ∧ Rd W W.heap.size A (lbV ls) ∧ ls.length ≤ maxLen := by
  rcases slice_fields (t := 96) Tryz.underlying96 Tryz.underlying104 (by kernel_rfl) (by kernel_rfl) h with rfl | ⟨a, len, cap, rfl, hm, hi⟩
  · exact ⟨none, 0, [], rfl, fun j u hu => by simp [lbV] at hu, Nat.zero_le _⟩
  · obtain ⟨f, hf⟩ := choose_lt (α := ByteArray × ByteArray) (p := fun i p => W.cell? (a.add (i * 2)) = some (.string p.1) ∧ W.cell? (a.add (i * 2 + 1)) = some (.string p.2)) (fun i hil => by
      obtain ⟨u0, y0, n0, hc0, ht0⟩ := hi i hil 0 _ rfl
      obtain ⟨u1, y1, n1, hc1, ht1⟩ := hi i hil 1 _ rfl
      obtain ⟨s0, e0, _⟩ := DataW.trod_string tz9 ht0
      obtain ⟨s1, e1, _⟩ := DataW.trod_string tz9 ht1
      cases e0
      cases e1
      exact ⟨(s0, s1), hc0, hc1⟩)
    refine ⟨some a, cap, (List.range len).map f, by simp, ?_, by simpa using hm⟩
    refine rd_rows (k := 2) (g := fun p : Lb => [.string p.1, .string p.2]) (fun _ => rfl) fun i hil r u hu => ?_
    obtain ⟨h0, h1⟩ := hf i hil
    match r, hu with
    | 0, hu => cases hu; exact h0
    | 1, hu => cases hu; exact h1
theorem open94 {n : Nat} {v : Value} {x : DataW H × List MemPlace} (h : DataW.trod enc Tryz.prog W 0 sp held n 94 [v] = some x) :
    ∃ A c, ∃ ss : List (Int × Int), v = .slice A ss.length c ∧ Rd W W.heap.size A (smV ss) ∧ ss.length ≤ maxLen := by
  rcases slice_fields (t := 94) Tryz.underlying94 Tryz.underlying102 (by kernel_rfl) (by kernel_rfl) h with rfl | ⟨a, len, cap, rfl, hm, hi⟩
  · exact ⟨none, 0, [], rfl, fun j u hu => by simp [smV] at hu, Nat.zero_le _⟩
  · obtain ⟨f, hf⟩ := choose_lt (α := Int × Int) (p := fun i p => W.cell? (a.add (i * 2)) = some (.int .i64 p.1) ∧ W.cell? (a.add (i * 2 + 1)) = some (.int .u64 p.2)) (fun i hil => by
      obtain ⟨u0, y0, n0, hc0, ht0⟩ := hi i hil 0 _ rfl
      obtain ⟨u1, y1, n1, hc1, ht1⟩ := hi i hil 1 _ rfl
      obtain ⟨s0, e0, _⟩ := DataW.trod_int (k := .i64) (by kernel_rfl) ht0
      obtain ⟨s1, e1, _⟩ := DataW.trod_int (k := .u64) (by kernel_rfl) ht1
      cases e0
      cases e1
      exact ⟨(s0, s1), hc0, hc1⟩)
    refine ⟨some a, cap, (List.range len).map f, by simp, ?_, by simpa using hm⟩
    refine rd_rows (k := 2) (g := fun p : Int × Int => [.int .i64 p.1, .int .u64 p.2]) (fun _ => rfl) fun i hil r u hu => ?_
    obtain ⟨h0, h1⟩ := hf i hil
    match r, hu with
    | 0, hu => cases hu; exact h0
    | 1, hu => cases hu; exact h1
theorem open23 {n : Nat} {v : Value} {x : DataW H × List MemPlace} (h : DataW.trod enc Tryz.prog W 0 sp held n 23 [v] = some x) :
    ∃ A c, ∃ ms : List Mt, v = .slice A ms.length c ∧ Rd W W.heap.size A (mtL ms) ∧ ms.length ≤ maxLen := by
  rcases slice_fields (t := 23) Tryz.underlying23 Tryz.underlying47 (by kernel_rfl) (by kernel_rfl) h with rfl | ⟨a, len, cap, rfl, hm, hi⟩
  · exact ⟨none, 0, [], rfl, fun j u hu => by simp [mtL] at hu, Nat.zero_le _⟩
  · obtain ⟨f, hf⟩ := choose_lt (α := ByteArray × ByteArray × Bool) (p := fun i p => W.cell? (a.add (i * 3)) = some (.string p.1) ∧ W.cell? (a.add (i * 3 + 1)) = some (.string p.2.1) ∧ W.cell? (a.add (i * 3 + 2)) = some (.bool p.2.2)) (fun i hil => by
      obtain ⟨u0, y0, n0, hc0, ht0⟩ := hi i hil 0 _ rfl
      obtain ⟨u1, y1, n1, hc1, ht1⟩ := hi i hil 1 _ rfl
      obtain ⟨u2, y2, n2, hc2, ht2⟩ := hi i hil 2 _ rfl
      obtain ⟨s0, e0, _⟩ := DataW.trod_string tz9 ht0
      obtain ⟨s1, e1, _⟩ := DataW.trod_string tz9 ht1
      obtain ⟨s2, e2, _⟩ := DataW.trod_bool (by kernel_rfl) ht2
      cases e0
      cases e1
      cases e2
      exact ⟨(s0, s1, s2), hc0, hc1, hc2⟩)
    refine ⟨some a, cap, (List.range len).map f, by simp, ?_, by simpa using hm⟩
    refine rd_rows (k := 3) (g := fun p : Mt => [.string p.1, .string p.2.1, .bool p.2.2]) (fun _ => rfl) fun i hil r u hu => ?_
    obtain ⟨h0, h1, h2⟩ := hf i hil
    match r, hu with
    | 0, hu => cases hu; exact h0
    | 1, hu => cases hu; exact h1
    | 2, hu => cases hu; exact h2
instance : Inhabited Sr := ⟨⟨none, 0, [], none, 0, []⟩⟩
theorem open22 {n : Nat} {v : Value} {x : DataW H × List MemPlace} (h : DataW.trod enc Tryz.prog W 0 sp held n 22 [v] = some x) :
    ∃ A c, ∃ bs : List Sr, v = .slice A bs.length c ∧ Rd W W.heap.size A (srL bs) ∧ bs.length ≤ maxLen ∧ ∀ s ∈ bs, SrOk W W.heap.size s := by
  rcases slice_fields (t := 22) Tryz.underlying22 Tryz.underlying98 (by kernel_rfl) (by kernel_rfl) h with rfl | ⟨a, len, cap, rfl, hm, hi⟩
  · exact ⟨none, 0, [], rfl, fun j u hu => by simp [srL] at hu, Nat.zero_le _, fun s hs => by cases hs⟩
  · obtain ⟨f, hf⟩ := choose_lt (α := Sr) (p := fun i s => W.cell? (a.add (i * 2)) = some (.slice s.la s.ls.length s.lc) ∧ W.cell? (a.add (i * 2 + 1)) = some (.slice s.sa s.ss.length s.sc) ∧ SrOk W W.heap.size s) (fun i hil => by
      obtain ⟨u0, y0, n0, hc0, ht0⟩ := hi i hil 0 _ rfl
      obtain ⟨u1, y1, n1, hc1, ht1⟩ := hi i hil 1 _ rfl
      obtain ⟨A0, c0, ls, rfl, hr0, hl0⟩ := open96 ht0
      obtain ⟨A1, c1, ss, rfl, hr1, hl1⟩ := open94 ht1
      exact ⟨⟨A0, c0, ls, A1, c1, ss⟩, hc0, hc1, ⟨hr0, hr1, hl0, hl1⟩⟩)
    refine ⟨some a, cap, (List.range len).map f, by simp, ?_, by simpa using hm, fun s hs => ?_⟩
    · refine rd_rows (k := 2) (g := srV) (fun _ => rfl) fun i hil r u hu => ?_
      obtain ⟨h0, h1, _⟩ := hf i hil
      match r, hu with
      | 0, hu => cases hu; exact h0
      | 1, hu => cases hu; exact h1
    · obtain ⟨i, hil, rfl⟩ := List.mem_map.1 hs
      exact (hf i (by simpa using hil)).2.2
end
end Go.Proofs
