/- The machine: stores, append, copy. -/
import Derived.Test.YtaaeeabpbmigoaaGreatDoorVd
import Derived.Laws.Append
set_option linter.unusedVariables false
set_option linter.unusedSimpArgs false
/- Slices and maps that are made; conversions. -/
namespace Go.M
open Go Go.V Go.RowKit
set_option linter.unusedSimpArgs false
set_option linter.unusedVariables false

section
variable {P : Program} {c : Cfg} {m : Mp} {h h' : H} {v : VV} {N : Nat} {w : World}

theorem range0 {f : Nat → Value} : (Array.range 0).map f = #[] := by apply Array.ext'; simp [Array.toList_range]
def replX (z : List Value) : Nat → List Value
  | 0 => []
  | n + 1 => z ++ replX z n
theorem VRL.repl {z : List VV} {zs : List Value} (hz : VRL m z zs) : ∀ n, VRL m (M.repl z n) (replX zs n)
  | 0 => .nil
  | n + 1 => hz.append (VRL.repl hz n)
theorem length_repl (z : List VV) : ∀ n, (M.repl z n).length = n * z.length
  | 0 => by simp [M.repl]
  | n + 1 => by simp [M.repl, length_repl z n, Nat.succ_mul, Nat.add_comm]
theorem length_replX (z : List Value) : ∀ n, (replX z n).length = n * z.length
  | 0 => by simp [replX]
  | n + 1 => by simp [replX, length_replX z n, Nat.succ_mul, Nat.add_comm]
theorem get_replX (z : List Value) (hz : 0 < z.length) : ∀ n i, i < n * z.length → (replX z n)[i]? = z[i % z.length]?
  | 0, i, hi => by simp at hi
  | n + 1, i, hi => by
    rw [Nat.succ_mul] at hi
    by_cases h : i < z.length
    · rw [replX, List.getElem?_append_left h, Nat.mod_eq_of_lt h]
    · rw [replX, List.getElem?_append_right (by omega), get_replX z hz n (i - z.length) (by omega)]
      rw [← Nat.mod_eq_sub_mod (show i ≥ z.length by omega)]
theorem zeros_eq (z : Array Value) (hz : 0 < z.size) (n : Nat) : ((Array.range (n * z.size)).map fun i => z[i % z.size]!) = (replX z.toList n).toArray := by
  apply Array.ext_getElem?
  intro i
  have hlz : z.toList.length = z.size := by simp
  by_cases hi : i < n * z.size
  · have h2 := get_replX z.toList (by rw [hlz]; exact hz) n i (by rw [hlz]; exact hi)
    rw [hlz] at h2
    have hm : i % z.size < z.size := Nat.mod_lt _ hz
    simp only [List.getElem?_toArray, h2, Array.getElem?_map, Array.getElem?_range, hi, if_true, Option.map_some, Array.getElem?_toList]
    simp [hm]
  · have h1 : (replX z.toList n)[i]? = none := by
      rw [List.getElem?_eq_none_iff, length_replX, hlz]; omega
    simp [h1, hi]

theorem buildSlice_ok {t : TypeId} {len : Nat} {parts : Array (Nat × Operand)} {e : T VV} {E : Env} (ok : CfgOk P c) (R : Rep N m h w) (hE : ∀ x, VR m (evo x e) (ev E x)) (hr : xBuildSlice c e h t len parts = .val v h') :
    Eff P N m w (nval (Instr.buildSlice t len (parts.map fun p => (p.1, ev E p.2)))) v h' := by
  unfold xBuildSlice at hr
  split at hr
  · rename_i elem hu
    split at hr
    · rename_i s z hs hz
      obtain ⟨z', rfl, hz'⟩ := ok.zero hz
      have hzc := VR.cells (VR.ofV (m := m) z')
      split at hr
      · rename_i hc
        simp only [Bool.and_eq_true, decide_eq_true_eq] at hc
        obtain ⟨⟨h1, h2⟩, h3⟩ := hc
        split at hr
        · rename_i l hf
          have hzl : z'.cells.size = s := by rw [h1, hzc.length]; simp
          obtain ⟨cs', g1, g2, g3⟩ := fill_ok (part_list (m := m) parts hE) hf (hzc.repl len)
          obtain ⟨rfl, m', a, b, d, e'⟩ := newFix R g1 elem hr
          refine .val a ?_ (.sl (off := 0) b) d e'
          have hz0 : ¬ (len * s > 2 ^ 24) := by omega
          have hcells : ((Array.range (len * s)).map fun i => z'.cells[i % z'.cells.size]!) = (replX z'.cells.toList len).toArray := by
            have := zeros_eq z'.cells (by omega) len
            rwa [hzl] at this ⊢
          by_cases hl0 : len * s = 0
          · have hlen : len = 0 := by
              rcases Nat.mul_eq_zero.1 hl0 with h | h
              · exact h
              · omega
            subst hlen
            have g2' : Instr.fill (fun i => some (i * s, s)) #[] (parts.map fun p => (p.1, ev E p.2)).toList = some cs'.toArray := g2
            simp only [Instr.buildSlice, Sem.run_bind, ok.und hu w, ok.size hs w, Result.andThen, Nat.zero_mul, if_true, pure_run, range0, g2']
            simp [Sem.run_bind, run_newRow, Result.andThen, pure_run]
          · simp only [Instr.buildSlice, Sem.run_bind, ok.und hu w, ok.size hs w, Result.andThen, if_neg hz0, if_neg hl0, hz' w, pure_run, hcells, g2]
            simp [Sem.run_bind, run_newRow, Result.andThen, pure_run]
        · cases hr
      · cases hr
    · cases hr
  · cases hr

theorem newObj_ok (R : Rep N m h w) {o : VO} {ob : Obj} (hor : ∀ m' q, q.base = 0 → OR m' q o ob) {u : VV} (hr : h.newK o (M.R.no "full") (fun h' => M.R.val u h') = M.R.val v h') :
    v = u ∧ ∃ m', Mp.Le m m' ∧ m' h.next = some ⟨w.heap.size, 0, 0, 0⟩ ∧ Rep N m' h' { w with heap := w.heap.push ob } ∧ Below N w { w with heap := w.heap.push ob } := by
  rw [H.newK_eq] at hr
  split at hr
  · rename_i h2
    cases hr
    obtain ⟨a, d⟩ := R.push h2 ⟨w.heap.size, 0, 0, 0⟩ rfl (w' := { w with heap := w.heap.push ob }) rfl (hor _ _ rfl)
    exact ⟨rfl, _, a, Mp.set_self, d, below_push R.size rfl rfl rfl rfl⟩
  · cases hr

theorem makeMap_ok {t : TypeId} {r : Option Operand} {e : T VV} {E : Env} (ok : CfgOk P c) (R : Rep N m h w) (hE : ∀ x, VR m (evo x e) (ev E x)) (hr : xMakeMap c e h t r = .val v h') :
    Eff P N m w (nval (Instr.makeMap t (r.map (ev E)))) v h' := by
  have new : ∀ hr' : h.newK (.map [] 0) (M.R.no "full") (fun h' => M.R.val (.mp h.next) h') = M.R.val v h', (∀ w', (Instr.makeMap t (r.map (ev E))).run P w' = (do pure (.map (some (← newObj (.map #[] 0)))) : Sem Value).run P w') → Eff P N m w (nval (Instr.makeMap t (r.map (ev E)))) v h' := by
    intro hr' hw
    obtain ⟨rfl, m', a, b, d, e'⟩ := newObj_ok R (ob := .map #[] 0) (fun _ _ _ => .map (xs := []) .nil) hr'
    exact .val a (by rw [hw]; simp [newObj, Sem.run_bind, Sem.run, Result.andThen, pure_run]) (.mp b) d e'
  unfold xMakeMap at hr
  cases r with
  | none => exact new hr fun w' => by simp [Instr.makeMap]
  | some x =>
    simp only [] at hr
    split at hr
    · rename_i k el k' n hu hx
      have hX : VR m (evv e x) (ev E x) := hE x
      rw [hx] at hX
      have hev : ev E x = .int k' n := by
        generalize ev E x = y at hX
        cases hX; rfl
      exact new hr fun w' => by simp [Instr.makeMap, Sem.run_bind, ok.und hu w', Result.andThen, hev, asInt, asIntOf, pure_run]
    · cases hr

theorem range_ok {t : TypeId} {x : VV} {X : Value} (ok : CfgOk P c) (R : Rep N m h w) (hr : rangeV c t x h = .val v h') (hx : VR m x X) : Eff P N m w (nval (Instr.range t X)) v h' := by
  unfold rangeV at hr
  split at hr
  · rename_i k el hu
    cases hx
    obtain ⟨rfl, m', a, b, d, e'⟩ := newObj_ok R (ob := .mapIter none 0 #[] 0) (fun _ _ h0 => .iter0 (l := []) h0) hr
    exact .val a (by simp [Instr.range, Sem.run_bind, ok.und hu w, Result.andThen, newObj, Sem.run, pure_run]) (.ptr (off := 0) b) d e'
  · rename_i k el id hu
    cases hx with
    | @mp _ q hq =>
    split at hr
    · rename_i es cl hg
      obtain ⟨q', ob, hq', hb, ho⟩ := R.obj _ _ hg
      rw [hq] at hq'; cases hq'
      cases ho with
      | map hes =>
      rw [H.newK_eq] at hr
      split at hr
      · rename_i h2
        cases hr
        have hle : Mp.Le m (m.set h.next ⟨w.heap.size, 0, 0, 0⟩) := Mp.set_le (R.atNext h2)
        obtain ⟨a, d⟩ := R.push h2 ⟨w.heap.size, 0, 0, 0⟩ rfl (o := .iter (some id) cl [] cl) (ob := .mapIter (some q.b) cl #[] cl) (w' := { w with heap := w.heap.push (.mapIter (some q.b) cl #[] cl) }) rfl (.iter (l := []) rfl (hle _ _ hq))
        refine .val a ?_ (.ptr (off := 0) Mp.set_self) d (below_push R.size rfl rfl rfl rfl)
        simp [Instr.range, Sem.run_bind, ok.und hu w, Result.andThen, run_getMap hb, newObj, Sem.run, pure_run]
      · cases hr
    · cases hr
  · cases hr

theorem int64_wrap {n : Int} (h0 : 0 ≤ n) (h1 : n < 2 ^ 20) : IntKind.i64.wrap n = n := by
  simp [IntKind.wrap, IntKind.bits, IntKind.signed]
  omega

theorem makeSlice_ok {t : TypeId} {x y : VV} {X Y : Value} (ok : CfgOk P c) (R : Rep N m h w) (hr : xMakeSlice c h t x y = .val v h') (hx : VR m x X) (hy : VR m y Y) : Eff P N m w (nval (Instr.makeSlice t X Y)) v h' := by
  unfold xMakeSlice at hr
  split at hr
  · rename_i elem hu
    split at hr
    · rename_i ei z k1 ln k2 cp hei hz
      cases hx; cases hy
      obtain ⟨z', rfl, hz'⟩ := ok.zero hz
      have hzc := VR.cells (VR.ofV (m := m) z')
      split at hr
      · rename_i hc
        simp only [Bool.and_eq_true, decide_eq_true_eq] at hc
        obtain ⟨⟨⟨h1, h2⟩, h3⟩, h4, h5, h6⟩ := hc
        have hzl : z'.cells.size = ei.size := by rw [h1, hzc.length]; simp
        obtain ⟨rfl, m', a, b, d, e'⟩ := newFix R (hzc.repl cp.toNat) elem hr
        refine .val a ?_ (.sl (off := 0) b) d e'
        have hsz : (sizeOf elem).run P w = .ok ei.size w := by simp [sizeOf, Sem.run_bind, ok.info hei w, Result.andThen, pure_run]
        have hw1 := int64_wrap h4 (by omega : ln < 2 ^ 20)
        have hw2 := int64_wrap (by omega : 0 ≤ cp) h6
        have hb1 : (ei.bytes : Int) * cp ≤ 2 ^ 48 := by
          have : (ei.bytes : Int) * cp ≤ 1024 * 1048576 := Int.mul_le_mul (by omega) (by omega) (by omega) (by omega)
          omega
        have hroom : ¬ (cp.toNat * ei.bytes > roomBytes) := by
          have : cp.toNat * ei.bytes ≤ 1048576 * 1024 := Nat.mul_le_mul (by omega) h3
          unfold roomBytes; omega
        have hcells : ((Array.range (cp.toNat * ei.size)).map fun i => z'.cells[i % z'.cells.size]!) = (replX z'.cells.toList cp.toNat).toArray := by
          have := zeros_eq z'.cells (by omega) cp.toNat
          rwa [hzl] at this ⊢
        have hno : (decide (cp < 0) || decide ((ei.bytes : Int) * cp > 2 ^ 48)) = false := by simp; omega
        simp only [Instr.makeSlice, Sem.run_bind, ok.und hu w, asInt, asIntOf, ok.info hei w, Result.andThen, pure_run, hw1, hw2, hno, askRoom, if_neg hroom, hsz]
        have hcond : ¬ ((false || decide (ln < 0) || decide (ln > cp)) = true) := by simp; omega
        rw [if_neg hcond]
        by_cases h0 : cp.toNat * ei.size = 0
        · have hcp : cp.toNat = 0 := by
            rcases Nat.mul_eq_zero.1 h0 with h | h
            · exact h
            · omega
          simp [Sem.run_bind, pure_run, Result.andThen, run_newRow, hcp, replX, hsz, range0]
        · simp [Sem.run_bind, pure_run, Result.andThen, run_newRow, h0, hz' w, hcells, hsz]
      · cases hr
    · cases hr
  · cases hr
end
end Go.M
/- Conversions; what is appended or copied. -/
namespace Go.M
open Go Go.V Go.RowKit
set_option linter.unusedSimpArgs false
set_option linter.unusedVariables false

section
variable {P : Program} {c : Cfg} {m : Mp} {h h' : H} {v : VV} {N : Nat} {w : World}

theorem conv_int {src dst : TypeId} {x : VV} {X : Value} {k : IntKind} (ok : CfgOk P c) (hr : convV c src dst x h = .val v h') (hx : VR m x X) (hd : c.und dst = some (.int k)) : h' = h ∧ Pure P m (nval (convert src dst X)) v := by
  unfold convV at hr
  cases hs : c.und src with
  | none => rw [hs] at hr; cases hr
  | some a =>
    rw [hs, hd] at hr
    simp only [convInt] at hr
    cases x with
    | lit u =>
      cases u with
      | int k' n =>
        cases hx
        cases hr
        refine ⟨rfl, pureV (.lit _) fun w => ?_⟩
        rw [wr_eq]
        cases a <;> simp [convert, Sem.run_bind, ok.und hs w, ok.und hd w, Result.andThen, Conv.intToInt, Pure.pure, Sem.run]
      | _ => cases hr
    | _ => cases hr

theorem isU8_ok {e : TypeId} (h8 : isU8 c e = true) : c.und e = some (.int .u8) := by
  unfold isU8 at h8
  split at h8
  · assumption
  · cases h8
theorem isSlU8_ok {d : TypeDesc} (h8 : isSlU8 c d = true) : ∃ e, d = .slice e ∧ c.und e = some (.int .u8) := by
  unfold isSlU8 at h8
  split at h8
  · exact ⟨_, rfl, isU8_ok h8⟩
  · cases h8

theorem modify_push {α : Type} (a : Array α) (x : α) (f : α → α) : (a.push x).modify a.size f = a.push (f x) := by
  apply Array.ext_getElem?
  intro k
  rw [Array.getElem?_modify, Array.getElem?_push, Array.getElem?_push]
  by_cases hk : k = a.size
  · subst hk; simp
  · rw [if_neg hk, if_neg hk, if_neg (Ne.symm hk)]

theorem bytes_rel (s : ByteArray) : VRL m (bytesV s) (s.data.toList.map fun b => Value.int .u8 b.toNat) := by
  unfold bytesV
  exact VRL.map _ _ _ fun b _ => .lit _
theorem length_bytes (s : ByteArray) : (bytesV s).length = s.size := by simp [bytesV]

/-- The world behind a draw. -/
theorem run_choose_cap {need old : Nat} {elem : TypeId} (w : World) : ∃ cap w', (choose (.appendCap need old elem)).run P w = .ok cap w' ∧ need ≤ cap ∧ w'.heap = w.heap ∧ w'.os = w.os ∧ w'.tape = w.tape ∧ w'.output = w.output := by
  refine ⟨Question.cut (.appendCap need old elem) (w.tape w.drawn (.appendCap need old elem)), { w with drawn := w.drawn + 1 }, ?_, ?_, rfl, rfl, rfl, rfl⟩
  · simp [choose, Sem.run, Question.forced, Pure.pure]
  · simp [Question.cut]

theorem below_same {w' : World} (hh : w'.heap = w.heap) (ho : w'.os = w.os) (ht : w'.tape = w.tape) (hp : w'.output = w.output) : Below N w w' :=
  ⟨ho, ht, hp, by rw [hh]; exact Nat.le_refl _, fun k _ => by rw [hh]⟩

theorem conv_ok {src dst : TypeId} {x : VV} {X : Value} (ok : CfgOk P c) (R : Rep N m h w) (hr : convV c src dst x h = .val v h') (hx : VR m x X) : Eff P N m w (nval (convert src dst X)) v h' := by
  unfold convV at hr
  cases hs : c.und src with
  | none => rw [hs] at hr; cases hr
  | some a =>
    cases hd : c.und dst with
    | none => rw [hs, hd] at hr; cases hr
    | some b =>
      rw [hs, hd] at hr
      have us := ok.und hs
      have ud := ok.und hd
      simp only [] at hr
      cases b with
      | int k => exact .pure R (conv_int ok (by unfold convV; rw [hs, hd]; exact hr) hx hd)
      | string =>
        simp only [convStr] at hr
        cases x with
        | lit u =>
          cases u with
          | string s =>
            cases hx; cases hr
            refine .pure R ⟨rfl, pureV (.lit _) fun w => ?_⟩
            cases a <;> simp [convert, Sem.run_bind, us w, ud w, Result.andThen, Pure.pure, Sem.run]
          | slice ad n cp =>
            cases ad with
            | none =>
              simp only [] at hr
              cases h8 : isSlU8 c a with
              | false => rw [h8] at hr; cases hr
              | true =>
                rw [h8] at hr
                obtain ⟨e, rfl, he⟩ := isSlU8_ok h8
                cases hx; cases hr
                refine .pure R ⟨rfl, pureV (.lit _) fun w => ?_⟩
                simp [convert, Sem.run_bind, us w, ud w, ok.und he w, Result.andThen, Conv.bytesToString, Pure.pure, Sem.run]
            | some _ => cases hr
          | _ => cases hr
        | emp =>
          simp only [] at hr
          cases h8 : isSlU8 c a with
          | false => rw [h8] at hr; cases hr
          | true =>
            rw [h8] at hr
            obtain ⟨e, rfl, he⟩ := isSlU8_ok h8
            cases hr
            cases hx with
            | @emp ad n =>
            refine .pure R ⟨rfl, pureV (.lit _) fun w => ?_⟩
            have := run_bytesToString (P := P) (w := w) (a := ad) (xs := []) (bs := []) (cp := n) (by simp [loadCells, loadCellsFrom, Pure.pure, Sem.run]) rfl (by simp)
            simp only [convert, Sem.run_bind, us w, ud w, ok.und he w, Result.andThen]
            exact this
        | sl id off len cap ex =>
          simp only [] at hr
          cases h8 : isSlU8 c a with
          | false => rw [h8] at hr; cases hr
          | true =>
            rw [h8] at hr
            obtain ⟨e, rfl, he⟩ := isSlU8_ok h8
            simp only [cond_true, convBytes] at hr
            cases hrow : rowOf h id with
            | none => rw [hrow] at hr; cases hr
            | some r =>
              rw [hrow] at hr
              simp only [nat_ble] at hr
              by_cases hle : off + len ≤ r.n
              · simp only [hle, decide_true, cond_true] at hr
                cases hg : getN r.t off len with
                | none => rw [hg] at hr; cases hr
                | some l =>
                  rw [hg] at hr
                  simp only [] at hr
                  cases hb : litBytes l with
                  | none => rw [hb] at hr; cases hr
                  | some bs =>
                    rw [hb] at hr
                    cases hr
                    obtain ⟨q, cs, ty, fz, hq, hbk, hR⟩ := R.row hrow
                    obtain ⟨xs, g1, g2, g3⟩ := getN_ok hR len off l hg hle
                    obtain ⟨b1, b2⟩ := litBytes_ok hb g1
                    have hld := run_loadCells' (P := P) hbk xs g3
                    have key : ∀ cp, (convert src dst (.slice (some ⟨q.b, q.base + off, none⟩) len cp)).run P w = .ok (.string ⟨bs.toArray⟩) w := by
                      intro cp
                      have := run_bytesToString (P := P) (w := w) (cp := cp) hld b1 b2
                      rw [g2] at this
                      simp only [convert, Sem.run_bind, us w, ud w, ok.und he w, Result.andThen]
                      exact this
                    cases hx with
                    | sl hq' => rw [hq] at hq'; cases hq'; exact .still R rfl (.lit _) (key _)
                    | slo hq' => rw [hq] at hq'; cases hq'; exact .still R rfl (.lit _) (key _)
              · simp [hle] at hr
        | _ => cases hr
      | slice e =>
        simp only [convSl] at hr
        cases x with
        | lit u =>
          cases u with
          | string s =>
            cases hx
            simp only [] at hr
            cases h8 : isU8 c e with
            | false => rw [h8] at hr; cases hr
            | true =>
              rw [h8] at hr
              have ue := ok.und (isU8_ok h8)
              rw [cond_true, H.newRow_eq] at hr
              split at hr
              · rename_i h1
                split at hr
                · rename_i h2
                  cases hr
                  obtain ⟨cap, w1, hc, hle, hh1, ho1, ht1, hp1⟩ := run_choose_cap (P := P) (need := s.size) (old := 0) (elem := e) w
                  let xs : List Value := s.data.toList.map fun b => Value.int .u8 b.toNat
                  let tl : List Value := List.replicate (cap - s.size) (.int .u8 0)
                  have hxl : xs.length = s.size := by simp [xs]
                  have htl : tl.length = cap - s.size := by simp [tl]
                  have R1 := R.congr hh1
                  let w2 : World := { w1 with heap := w1.heap.push (.cells (xs ++ tl).toArray e (xs.length + tl.length, xs.length + tl.length + 1)) }
                  obtain ⟨m', ha, hb, hR⟩ := R1.newRow (l := bytesV s) (xs := xs) (tail := tl) (bytes_rel s) h2 h1 (.opn 1) 1 e (.inr ⟨rfl, by omega⟩) (xs.length + tl.length, xs.length + tl.length + 1) (.inr (Nat.le_refl _)) (w' := w2) rfl
                  have hst : (Conv.stringToBytes e s).run P w = .ok (.slice (some ⟨w.heap.size, 0, none⟩) s.size cap) w2 := by
                    have harr : (s.data.map fun b => Value.int .u8 b.toNat) ++ Array.replicate (cap - s.size) (.int .u8 0) = (xs ++ tl).toArray := by
                      apply Array.ext'; simp [xs, tl]
                    simp only [Conv.stringToBytes, Sem.run_bind, hc, Result.andThen, harr, run_newRow, hh1]
                    simp only [markStringish, shape, freeze, Sem.run_bind, Sem.run, Pure.pure, World.shape?, Result.andThen, hh1]
                    simp [Sem.run, World.freeze, Result.andThen, hh1, w2, Sem.bind, bind]
                    rw [modify_push]
                    simp [World.alloc, hh1]
                  refine .val (x := .slice (some ⟨w.heap.size, 0, none⟩) s.size cap) ha ?_ ?_ hR ?_
                  · cases a <;> simp [convert, Sem.run_bind, us w, ud w, ue w, Result.andThen, hst]
                  · have hsz : (bytesV s).length = s.size := length_bytes s
                    rw [hh1] at hb
                    refine .slo (off := 0) (n := cap) hb (by omega) ?_ (by simp)
                    simp; omega
                  · exact (below_same hh1 ho1 ht1 hp1).trans (below_push R1.size rfl rfl rfl rfl)
                · cases hr
              · cases hr
          | _ => cases hr
        | sl id off len cap ex =>
          simp only [] at hr
          cases h8 : (isU8 c e && isSlU8 c a && Nat.beq src dst) with
          | false => rw [h8] at hr; cases hr
          | true =>
            rw [h8] at hr
            simp only [Bool.and_eq_true, nat_beq, decide_eq_true_eq] at h8
            obtain ⟨⟨h1, h2⟩, h3⟩ := h8
            obtain ⟨e2, rfl, he2⟩ := isSlU8_ok h2
            simp only [cond_true] at hr
            cases hrow : rowOf h id with
            | none => rw [hrow] at hr; cases hr
            | some r =>
              rw [hrow] at hr
              simp only [] at hr
              cases hw : r.k.wr with
              | false => rw [hw] at hr; cases hr
              | true =>
                rw [hw] at hr
                cases hr
                obtain ⟨q, cs, ty, fz, hq, hbk, hR⟩ := R.row hrow
                have hfree := hR.free hw
                let fz' : Nat × Nat := if fz.1 == fz.2 then (cs.size, cs.size + 1) else (min fz.1 cs.size, max fz.2 (cs.size + 1))
                let w2 : World := { w with heap := w.heap.setIfInBounds q.b (.cells cs ty fz') }
                have hwr : VO.wr (.row r.t r.n r.k) = true := hw
                have R2 : Rep N m ⟨h.t.put 20 id (.row r.t r.n r.k), h.next⟩ w2 := R.write (rowOf_get hrow) hwr hq (ob := .cells cs ty fz') rfl (.row ⟨hR.cells, hR.rk, hR.le, fun _ => by
                  simp only [fz']
                  split
                  · right; exact Nat.le_refl _
                  · right
                    rename_i hne
                    rcases hfree with h | h
                    · rw [h] at hne; simp at hne
                    · simp only; omega⟩)
                have hget : ∀ j, H.get ⟨h.t.put 20 id (.row r.t r.n r.k), h.next⟩ j = h.get j := by
                  intro j
                  have := T.get_put 20 h.t id j (.row r.t r.n r.k) (by have := R.lt (rowOf_get hrow); omega)
                  show (h.t.put 20 id _).get j = _
                  rw [this]
                  by_cases hj : j = id
                  · rw [if_pos hj, hj]; exact (rowOf_get hrow).symm
                  · rw [if_neg hj]; rfl
                have R3 : Rep N m h w2 := R2.same fun j => (hget j).symm
                have hbelow : Below N w w2 := below_write R (rowOf_get hrow) hwr hq (ob := .cells cs ty fz') rfl rfl rfl rfl
                have hbl := (Array.getElem?_eq_some_iff.1 hbk).1
                have hbv := (Array.getElem?_eq_some_iff.1 hbk).2
                have hfz : (w.freeze ⟨q.b, cs.size, none⟩ 1) = w2 := by
                  simp only [World.freeze, w2]
                  rw [if_neg (by simp)]
                  congr 1
                  apply Array.ext_getElem?
                  intro k
                  rw [Array.getElem?_modify]
                  by_cases hk : q.b = k
                  · subst hk
                    simp [hbl, hbv, fz']
                  · rw [if_neg hk, Array.getElem?_setIfInBounds_ne hk]
                have key : ∀ cp, (convert src dst (.slice (some ⟨q.b, q.base + off, none⟩) len cp)).run P w = .ok (.slice (some ⟨q.b, q.base + off, none⟩) len cp) w2 := by
                  intro cp
                  simp only [convert, Sem.run_bind, us w, ud w, ok.und (isU8_ok h1) w, Result.andThen, h3]
                  simp only [beq_self_eq_true, Sem.run_bind, markStringish, shape, freeze, Sem.run, World.shape?, hbk, Result.andThen, Pure.pure, hfz]
                cases hx with
                | sl hq' => rw [hq] at hq'; cases hq'; exact .val (.refl m) (key _) (.sl hq) R3 hbelow
                | slo hq' a1 a2 a3 => rw [hq] at hq'; cases hq'; exact .val (.refl m) (key _) (.slo hq a1 a2 a3) R3 hbelow
        | _ => cases hr
      | _ => cases hr
end
end Go.M
/- Append and copy. -/
namespace Go.M
open Go Go.V Go.RowKit
theorem size_zeroCells (z : Array Value) (n : Nat) : (Builtin.zeroCells z n).size = n * z.size := by simp [Builtin.zeroCells]
set_option linter.unusedSimpArgs false
set_option linter.unusedVariables false

section
variable {P : Program} {c : Cfg} {m : Mp} {h h' : H} {v : VV} {N : Nat} {w : World}

theorem lenV_ok {x : VV} {X : Value} {n : Nat} (hr : lenV x = some n) (hx : VR m x X) (w : World) : (Builtin.lenOf X).run P w = .ok n w := by
  unfold lenV at hr
  split at hr
  · cases hx; cases hr; rfl
  · cases hx; cases hr; rfl
  · cases hr; cases hx <;> rfl
  · cases hx; cases hr; rfl
  · cases hr

theorem firstV_ok {x : VV} {X : Value} {size n k : Nat} {l : List VV} (R : Rep N m h w) (hr : firstV size n x h = some l) (hlen : lenV x = some k) (hn : n ≤ k) (hx : VR m x X) :
    ∃ xs, VRL m l xs ∧ ∀ w1 : World, w1.heap = w.heap → (Builtin.firstCells size n X).run P w1 = .ok xs.toArray w1 := by
  unfold firstV at hr
  split at hr
  · cases hx; cases hr
    exact ⟨[], .nil, fun w1 _ => rfl⟩
  · cases hr
    simp only [lenV, Option.some.injEq] at hlen
    have hn0 : n = 0 := by omega
    subst hn0
    cases hx with
    | emp => exact ⟨[], .nil, fun w1 _ => by simp [Builtin.firstCells, loadCells, loadCellsFrom, Pure.pure, Sem.run]⟩
  · rename_i id off len cap ex
    split at hr
    · rename_i r hrow
      split at hr
      · rename_i hle
        obtain ⟨q, cs, ty, fz, hq, hbk, hR⟩ := R.row hrow
        obtain ⟨xs, g1, g2, g3⟩ := getN_ok hR _ off l hr hle
        refine ⟨xs, g1, fun w1 hw1 => ?_⟩
        have := run_loadCells' (P := P) (w := w1) (by rw [hw1]; exact hbk) xs g3
        rw [g2] at this
        cases hx with
        | sl hq' => rw [hq] at hq'; cases hq'; exact this
        | slo hq' => rw [hq] at hq'; cases hq'; exact this
      · cases hr
    · cases hr
  · rename_i s
    cases hx; cases hr
    refine ⟨_, bytes_rel _, fun w1 _ => ?_⟩
    simp only [Builtin.firstCells, Pure.pure, Sem.run]
    congr 1
    apply Array.ext'; simp
  · cases hr

/-- What is appended, in the model. -/
structure NewOk (P : Program) (m : Mp) (w : World) (elem size : Nat) (u : TypeId) (d : TypeDesc) (X : Value) (n : Nat) (new : List VV) (xs : List Value) : Prop where
  und : ∀ w, (underlying u).run P w = .ok d w
  rel : VRL m new xs
  kind : (∃ k k' i z, d = .int k' ∧ X = .int k i ∧ 0 ≤ i ∧ i < 1048576 ∧ n = i.toNat ∧ (∀ w, (zeroValue elem).run P w = .ok z w) ∧ Builtin.zeroCells z.cells n = xs.toArray ∧ z.cells.size = size) ∨
    (((∃ e, d = .slice e) ∨ d = .string) ∧ (∀ w, (Builtin.lenOf X).run P w = .ok n w) ∧ ∀ w1 : World, w1.heap = w.heap → (Builtin.firstCells size n X).run P w1 = .ok xs.toArray w1)

theorem zeroCells_eq (z : Array Value) (n : Nat) : Builtin.zeroCells z n = (replX z.toList n).toArray := by
  unfold Builtin.zeroCells
  by_cases hz : 0 < z.size
  · exact zeros_eq z hz n
  · have : z = #[] := by apply Array.eq_empty_of_size_eq_zero; omega
    subst this
    have : replX ([] : List Value) n = [] := by induction n with
      | zero => rfl
      | succ n ih => simp [replX, ih]
    simp [this, range0]

theorem newF_ok {size : Nat} {x : VV} {X : Value} {n : Nat} {new : List VV} (R : Rep N m h w) (hr : newF size x h = some (n, new)) (hx : VR m x X) :
    ∃ xs, VRL m new xs ∧ (∀ w, (Builtin.lenOf X).run P w = .ok n w) ∧ ∀ w1 : World, w1.heap = w.heap → (Builtin.firstCells size n X).run P w1 = .ok xs.toArray w1 := by
  simp only [newF] at hr
  cases hl : lenV x with
  | none => rw [hl] at hr; cases hr
  | some k =>
    rw [hl] at hr
    simp only [] at hr
    cases hf : firstV size k x h with
    | none => rw [hf] at hr; cases hr
    | some l =>
      rw [hf] at hr
      cases hr
      obtain ⟨xs, g1, g2⟩ := firstV_ok (P := P) R hf hl (Nat.le_refl _) hx
      exact ⟨xs, g1, lenV_ok hl hx, g2⟩

theorem newV_ok {elem size : Nat} {t2 : Option TypeId} {x : VV} {X : Value} {n : Nat} {new : List VV} (ok : CfgOk P c) (R : Rep N m h w) (hr : newV c elem size t2 x h = some (n, new)) (hx : VR m x X) :
    ∃ u d xs, t2 = some u ∧ NewOk P m w elem size u d X n new xs := by
  unfold newV at hr
  cases t2 with
  | none => cases hr
  | some u =>
    simp only [] at hr
    cases hu : c.und u with
    | none => rw [hu] at hr; cases hr
    | some d =>
      rw [hu] at hr
      simp only [] at hr
      cases d with
      | int kk =>
        simp only [newZ] at hr
        cases x with
        | lit y =>
          cases y with
          | int k i =>
            cases hx
            simp only [] at hr
            cases hz : c.zero elem with
            | none => rw [hz] at hr; cases hr
            | some z =>
              obtain ⟨z', rfl, hz'⟩ := ok.zero hz
              rw [hz] at hr
              simp only [] at hr
              cases hb : (decide (0 ≤ i) && decide (i < 1048576) && Nat.beq (ofV z').cells.length size) with
              | false => rw [hb] at hr; cases hr
              | true =>
                rw [hb] at hr
                cases hr
                simp only [Bool.and_eq_true, decide_eq_true_eq, nat_beq] at hb
                have hzc := VR.cells (VR.ofV (m := m) z')
                exact ⟨u, _, _, rfl, ⟨ok.und hu, hzc.repl _, .inl ⟨k, kk, i, z', rfl, rfl, hb.1.1, hb.1.2, rfl, hz', zeroCells_eq _ _, by have := hzc.length; simp at this; omega⟩⟩⟩
          | _ => cases hr
        | _ => cases hr
      | slice e =>
        obtain ⟨xs, g1, g2, g3⟩ := newF_ok (P := P) R hr hx
        exact ⟨u, _, xs, rfl, ⟨ok.und hu, g1, .inr ⟨.inl ⟨e, rfl⟩, g2, g3⟩⟩⟩
      | string =>
        obtain ⟨xs, g1, g2, g3⟩ := newF_ok (P := P) R hr hx
        exact ⟨u, _, xs, rfl, ⟨ok.und hu, g1, .inr ⟨.inr rfl, g2, g3⟩⟩⟩
      | _ => cases hr

/-- An append that stays in place. -/
theorem run_append_in {t u ty elem : TypeId} {ei : TypeInfo} {d : TypeDesc} {base : Option Addr} {X : Value} {len cap n : Nat} {new : List VV} {xs : List Value} {w' : World} (ht : ∀ w, (underlying t).run P w = .ok (.slice elem) w) (hei : ∀ w, (typeInfo elem).run P w = .ok ei w)
    (hb : ei.bytes ≤ 256) (nk : NewOk P m w elem ei.size u d X n new xs) (hneed : len + n ≤ cap)
    (hst : (match base with | some a => storeCells (a.add (len * ei.size)) xs | none => Pure.pure ()).run P w = .ok () w') :
    (Builtin.append_ #[t, u] ty #[.slice base len cap, X]).run P w = .ok (.slice base (len + n) cap) w' := by
  have hsz : ∀ w, (sizeOf elem).run P w = .ok ei.size w := fun w => by simp [sizeOf, Sem.run_bind, hei w, Result.andThen, pure_run]
  rcases nk.kind with ⟨k, k', i, z, rfl, rfl, h0, h1, rfl, hz, hzc, hzs⟩ | ⟨hd, hl, hf⟩
  · have hw := int64_wrap h0 (by omega : i < 2 ^ 20)
    have hneg : ¬ (i < 0) := by omega
    have hbig : ¬ (281474976710656 < i * (ei.bytes : Int)) := by
      have : i * (ei.bytes : Int) ≤ 1048576 * 256 := Int.mul_le_mul (by omega) (by omega) (by omega) (by omega)
      omega
    have hu := nk.und
    cases base with
    | none =>
      simp only [pure_run, Result.ok.injEq, true_and] at hst
      subst hst
      by_cases hn0 : i.toNat * ei.size = 0
      · simp [Builtin.append_, ht, hsz, hu, asInt, asIntOf, hw, hneg, hei, hbig, hneed, hn0]
      · simp [Builtin.append_, ht, hsz, hu, asInt, asIntOf, hw, hneg, hei, hbig, hneed, hn0, hz]
    | some a =>
      simp only [] at hst
      by_cases hn0 : i.toNat * ei.size = 0
      · have hx0 : xs = [] := by
          have := congrArg Array.size hzc
          rw [size_zeroCells, hzs, hn0] at this
          simpa using this.symm
        subst hx0
        simp [Builtin.append_, ht, hsz, hu, asInt, asIntOf, hw, hneg, hei, hbig, hneed, hn0, hst]
      · simp [Builtin.append_, ht, hsz, hu, asInt, asIntOf, hw, hneg, hei, hbig, hneed, hn0, hz, hzc, hst]
  · have hf' := hf w rfl
    have hu := nk.und
    clear nk
    cases base with
    | none =>
      simp only [pure_run, Result.ok.injEq, true_and] at hst
      subst hst
      rcases hd with ⟨e, rfl⟩ | rfl <;> simp [Builtin.append_, ht, hsz, hu, hl, hf', hneed]
    | some a =>
      simp only [] at hst
      rcases hd with ⟨e, rfl⟩ | rfl <;> simp [Builtin.append_, ht, hsz, hu, hl, hf', hneed, hst]

/-- An append that makes a new row. -/
theorem run_append_new {t u ty elem : TypeId} {ei : TypeInfo} {d : TypeDesc} {z : Value} {base : Option Addr} {X : Value} {len cap n : Nat} {new : List VV} {xs olds : List Value} (ht : ∀ w, (underlying t).run P w = .ok (.slice elem) w) (hei : ∀ w, (typeInfo elem).run P w = .ok ei w)
    (hz0 : ∀ w, (zeroValue elem).run P w = .ok z w) (h1 : 1 ≤ ei.bytes) (hb : ei.bytes ≤ 256) (nk : NewOk P m w elem ei.size u d X n new xs) (hneed : cap < len + n) (hle : len + n ≤ 1000000)
    (hold : ∀ w1 : World, w1.heap = w.heap → (Builtin.firstCells ei.size len (.slice base len cap)).run P w1 = .ok olds.toArray w1) :
    ∃ cp w', (Builtin.append_ #[t, u] ty #[.slice base len cap, X]).run P w = .ok (.slice (some ⟨w.heap.size, 0, none⟩) (len + n) cp) w' ∧ len + n ≤ cp ∧
      w'.heap = w.heap.push (.cells (olds ++ xs ++ replX z.cells.toList (cp - (len + n))).toArray elem) ∧ w'.os = w.os ∧ w'.tape = w.tape ∧ w'.output = w.output := by
  have hsz : ∀ w, (sizeOf elem).run P w = .ok ei.size w := fun w => by simp [sizeOf, Sem.run_bind, hei w, Result.andThen, pure_run]
  let cp := Question.cut (.appendCap (len + n) cap elem) (w.tape w.drawn (.appendCap (len + n) cap elem))
  have hcle : len + n ≤ cp := by simp [cp, Question.cut]
  have hnle : ¬ (len + n ≤ cap) := by omega
  have hcap : Builtin.nextslicecap (len + n) cap * ei.bytes ≤ 281474976710656 := by
    have h2 := nextslicecap_le hneed
    have : Builtin.nextslicecap (len + n) cap * ei.bytes ≤ (2 * 1000000) * 256 := Nat.mul_le_mul (by omega) hb
    omega
  have hcap' : ¬ (281474976710656 < Builtin.nextslicecap (len + n) cap * ei.bytes) := by omega
  have hmax : ¬ ((IntKind.i64.max) < ((len : Int) + (n : Int))) := by simp [IntKind.max, IntKind.signed, IntKind.bits]; omega
  have hb0 : ¬ (ei.bytes = 0) := by omega
  have hold1 := hold w.drew rfl
  refine ⟨cp, { w.drew with heap := w.heap.push (.cells (olds ++ xs ++ replX z.cells.toList (cp - (len + n))).toArray elem) }, ?_, hcle, rfl, rfl, rfl, rfl⟩
  have hz1 : (replX z.cells.toList (cp - (len + n))).toArray = Builtin.zeroCells z.cells (cp - (len + n)) := (zeroCells_eq _ _).symm
  have harr : (olds ++ xs ++ replX z.cells.toList (cp - (len + n))).toArray = olds.toArray ++ (xs.toArray ++ Builtin.zeroCells z.cells (cp - (len + n))) := by
    rw [← hz1]; apply Array.ext'; simp
  rw [harr]
  rcases nk.kind with ⟨k, k', i, z2, rfl, rfl, h0, h1', rfl, hz, hzc, hzs⟩ | ⟨hd, hl, hf⟩
  · have hw := int64_wrap h0 (by omega : i < 2 ^ 20)
    have hneg : ¬ (i < 0) := by omega
    have hbig : ¬ (281474976710656 < i * (ei.bytes : Int)) := by
      have : i * (ei.bytes : Int) ≤ 1048576 * 256 := Int.mul_le_mul (by omega) (by omega) (by omega) (by omega)
      omega
    have hu := nk.und
    have hzz : z2 = z := by have h9 := hz w; rw [hz0 w] at h9; cases h9; rfl
    subst hzz
    have hmax2 : ¬ ((9223372036854775807 : Int) < ((len : Int) + max i 0)) := by omega
    clear nk
    by_cases hn0 : i.toNat * ei.size = 0
    · have hx0 : xs = [] := by
        have := congrArg Array.size hzc
        rw [size_zeroCells, hzs, hn0] at this
        simpa using this.symm
      subst hx0
      simp [Builtin.append_, ht, hsz, hu, asInt, asIntOf, hw, hneg, hei, hbig, hnle, hn0, hmax, hmax2, hb0, hcap', Question.forced, hold1, hz0, run_newRow, cp]
      rfl
    · simp [Builtin.append_, ht, hsz, hu, asInt, asIntOf, hw, hneg, hei, hbig, hnle, hn0, hmax, hmax2, hb0, hcap', Question.forced, hold1, hz0, run_newRow, hzc, cp]
      rfl
  · have hf' := hf w.drew rfl
    have hu := nk.und
    clear nk
    rcases hd with ⟨e, rfl⟩ | rfl <;> simp [Builtin.append_, ht, hsz, hu, hl, hf', hnle, hei, hb0, hcap', Question.forced, hold1, hz0, run_newRow, cp] <;> rfl
end
end Go.M
/- Append and copy, as the machine has them. -/
namespace Go.M
open Go Go.V Go.RowKit
set_option linter.unusedSimpArgs false
set_option linter.unusedVariables false

section
variable {P : Program} {c : Cfg} {m : Mp} {h h' : H} {v : VV} {N : Nat} {w : World}

theorem RowR.base0 {q : Q} {t : T VV} {n : Nat} {k : RK} {cs : Array Value} {fz : Nat × Nat} (hR : RowR m q t n k cs fz) (hk : k.wr = true) : q.base = 0 := by
  cases k with
  | tab => cases hk
  | fix => exact hR.rk
  | opn sz => exact hR.rk.1
theorem RowR.lt {q : Q} {t : T VV} {n : Nat} {k : RK} {cs : Array Value} {fz : Nat × Nat} (hR : RowR m q t n k cs fz) (hk : k.wr = true) {i : Nat} (hi : i ≤ n) : i ≤ cs.size := by
  cases i with
  | zero => omega
  | succ i =>
    obtain ⟨_, _, _, hx, _⟩ := hR.cells i (by omega)
    rw [hR.base0 hk, Nat.zero_add] at hx
    have := (Array.getElem?_eq_some_iff.1 hx).1
    omega

/-- Cells written into a row that is there. -/
theorem writeIn {id at_ : Nat} {new : List VV} {xs : List Value} {r : Row} {u : VV} (R : Rep N m h w) (hrow : rowOf h id = some r) (hl : VRL m new xs) (hf : new.all flat = true) (hle : at_ + new.length ≤ r.n)
    (hr : appendIn id at_ new r u h = .val v h') :
    v = u ∧ ∃ q w', m id = some q ∧ (storeCells ⟨q.b, q.base + at_, none⟩ xs).run P w = .ok () w' ∧ Rep N m h' w' ∧ Below N w w' := by
  unfold appendIn at hr
  have hk : r.k.wr = true := by cases hk : r.k <;> first | rfl | (rw [hk] at hr; cases hr)
  have hr' : (putK new at_ r.t fun t => h.setK id (.row t r.n r.k) fun h => M.R.val u h) = M.R.val v h' := by
    cases hkk : r.k <;> rw [hkk] at hr hk <;> first | exact hr | (cases hk)
  rw [putK_eq, H.setK_eq] at hr'
  cases hr'
  obtain ⟨q, cs, ty, fz, hq, hbk, hR⟩ := R.row hrow
  have hbase := hR.base0 hk
  have hlen := hl.length
  have hsz := hR.lt hk hle
  have hrun := run_storeCells' (P := P) (b := q.b) (o := q.base + at_) (ty := ty) (fz := fz) xs 0 cs w hbk (by omega) (VRL.flats hl hf) (hR.free hk)
  refine ⟨rfl, q, _, hq, hrun, R.write (rowOf_get hrow) hk hq (ob := .cells (lay cs (q.base + at_) xs) ty fz) rfl (.row (hR.put hk hl r.n (by omega) (by omega) hsz hR.le)), below_write R (rowOf_get hrow) hk hq (ob := .cells (lay cs (q.base + at_) xs) ty fz) rfl rfl rfl rfl⟩

theorem first0 {x : VV} {X : Value} {n size : Nat} (hl : lenV x = some n) (hx : VR m x X) (w : World) : ∃ a, (Builtin.firstCells size 0 X).run P w = .ok a w := by
  unfold lenV at hl
  split at hl
  · cases hx; exact ⟨_, rfl⟩
  · cases hx; exact ⟨_, by simp [Builtin.firstCells, loadCells, loadCellsFrom, Pure.pure, Sem.run]; rfl⟩
  · cases hx <;> exact ⟨_, by simp [Builtin.firstCells, loadCells, loadCellsFrom, Pure.pure, Sem.run]; rfl⟩
  · cases hx; exact ⟨_, rfl⟩
  · cases hl

theorem copy_ok {t u ty : TypeId} {d x : VV} {D X : Value} {ts : Array TypeId} {args : Array Value} (ok : CfgOk P c) (R : Rep N m h w) (hr : copyV c t d x h = .val v h') (hd : VR m d D) (hx : VR m x X) (ht0 : ts[0]? = some t) (ha0 : args[0]? = some D) (ha1 : args[1]? = some X) :
    Eff P N m w (nval (Builtin.copy_ ts ty args)) v h' := by
  unfold copyV at hr
  cases hu : c.und t with
  | none => rw [hu] at hr; cases hr
  | some dd =>
    rw [hu] at hr
    cases dd with
    | slice elem =>
      simp only [] at hr
      cases hs : c.size elem with
      | none => rw [hs] at hr; cases hr
      | some size =>
        rw [hs] at hr
        simp only [] at hr
        cases hl : lenV x with
        | none => rw [hl] at hr; cases hr
        | some mm =>
          rw [hl] at hr
          have hlen := fun w => lenV_ok (P := P) hl hx w
          cases d with
          | lit y =>
            cases hd
            simp only [copyD] at hr
            cases hn : isNilS D with
            | false => rw [hn] at hr; cases hr
            | true =>
              have : D = .slice none 0 0 := by
                unfold isNilS at hn
                split at hn
                · rfl
                · cases hn
              subst this
              rw [hn] at hr
              cases hr
              obtain ⟨a0, h0⟩ := first0 (P := P) (size := size) hl hx w
              refine .still R rfl (.lit _) ?_
              have hm0 : Nat.min mm 0 = 0 := Nat.min_eq_right (Nat.zero_le _)
              simp only [Builtin.copy_, ht0, ha0, ha1, Sem.run_bind, ok.und hu w, ok.size hs w, hlen w, Result.andThen, hm0, h0, pure_run, goInt]
              rfl
          | sl id off len cap ex =>
            simp only [copyD, copyTo] at hr
            cases hf : firstV size (Nat.min mm len) x h with
            | none => rw [hf] at hr; cases hr
            | some new =>
              rw [hf] at hr
              simp only [] at hr
              cases hrow : rowOf h id with
              | none => rw [hrow] at hr; cases hr
              | some r =>
                rw [hrow] at hr
                simp only [] at hr
                cases hb : (Nat.ble (off + new.length) r.n && new.all flat) with
                | false => rw [hb] at hr; cases hr
                | true =>
                  rw [hb, cond_true] at hr
                  simp only [Bool.and_eq_true, nat_ble, decide_eq_true_eq] at hb
                  obtain ⟨xs, g1, g2⟩ := firstV_ok (P := P) R hf hl (Nat.min_le_left _ _) hx
                  obtain ⟨rfl, q, w', hq, hst, hR, hB⟩ := writeIn (P := P) R hrow g1 hb.2 hb.1 hr
                  have key : ∀ cp, D = .slice (some ⟨q.b, q.base + off, none⟩) len cp → (Builtin.copy_ ts ty args).run P w = .ok (.int .i64 ((Nat.min mm len : Nat) : Int)) w' := by
                    intro cp hD
                    subst hD
                    simp only [Builtin.copy_, ht0, ha0, ha1, Sem.run_bind, ok.und hu w, ok.size hs w, hlen w, Result.andThen, g2 w rfl, hst, pure_run, goInt]
                  refine .val (.refl m) ?_ (.lit _) hR hB
                  cases hd with
                  | sl hq' => rw [hq] at hq'; cases hq'; exact key _ rfl
                  | slo hq' => rw [hq] at hq'; cases hq'; exact key _ rfl
          | _ => cases hr
    | _ => cases hr

/-- A block gets another name. -/
theorem Rep.move {o : VO} {id : Nat} {q : Q} (R : Rep N m h w) (hg : h.get id = some o) (hwr : o.wr = true) (hq : m id = some q) (hn : H.Free ⟨h.t.put 20 id .dead, h.next⟩) :
    Mp.Le m (m.set h.next q) ∧ Rep N (m.set h.next q) ⟨(h.t.put 20 id .dead).put 20 h.next o, h.next + 1⟩ w := by
  have R1 : Rep N m ⟨h.t.put 20 id .dead, h.next⟩ w := R.drop hg
  have hle : Mp.Le m (m.set h.next q) := Mp.set_le (R1.atNext hn)
  have hlt := R.lt hg
  have get : ∀ j, H.get ⟨(h.t.put 20 id .dead).put 20 h.next o, h.next + 1⟩ j = if j = h.next then some o else if j = id then some .dead else h.get j := by
    intro j
    have h1 := T.get_put 20 (h.t.put 20 id .dead) h.next j o (by have := hn.1; simp only at this; omega)
    have h2 := T.get_put 20 h.t id j .dead (by omega)
    show ((h.t.put 20 id .dead).put 20 h.next o).get j = _
    rw [h1, h2]; rfl
  refine ⟨hle, ?_, ?_, ?_, ?_, ?_, R.size, ?_⟩
  · intro j x hj
    rw [get] at hj
    by_cases h1 : j = h.next
    · rw [if_pos h1] at hj; cases hj
      obtain ⟨q', ob, a, b, d⟩ := R.obj id o hg
      rw [hq] at a; cases a
      exact ⟨q, ob, by rw [h1]; exact Mp.set_self, b, d.mono hle⟩
    · rw [if_neg h1] at hj
      by_cases h2 : j = id
      · rw [if_pos h2] at hj; cases hj
        obtain ⟨q', ob, a, b, d⟩ := R.obj id o hg
        exact ⟨q', ob, hle _ _ (h2 ▸ a), b, .dead⟩
      · rw [if_neg h2] at hj
        obtain ⟨q', ob, a, b, d⟩ := R.obj j x hj
        exact ⟨q', ob, hle _ _ a, b, d.mono hle⟩
  · intro a b o1 o2 q1 q2 ha hb hw1 hlv h1 h2 hbb
    have hlv1 := VO.live_of_wr hw1
    rw [get] at ha hb
    by_cases ea : a = h.next
    · by_cases eb : b = h.next
      · omega
      · rw [if_neg eb] at hb
        rw [if_pos ea] at ha; cases ha
        rw [ea, Mp.set_self] at h1; cases h1
        rw [Mp.set_ne eb] at h2
        by_cases e3 : b = id
        · rw [if_pos e3] at hb; cases hb; cases hlv
        · rw [if_neg e3] at hb
          exact absurd (R.inj _ _ _ _ _ _ hg hb hwr hlv hq h2 hbb).symm e3
    · rw [if_neg ea] at ha
      rw [Mp.set_ne ea] at h1
      by_cases e3 : a = id
      · rw [if_pos e3] at ha; cases ha; cases hw1
      · rw [if_neg e3] at ha
        by_cases eb : b = h.next
        · rw [if_pos eb] at hb; cases hb
          rw [eb, Mp.set_self] at h2; cases h2
          exact absurd (R.inj _ _ _ _ _ _ hg ha hwr hlv1 hq h1 hbb.symm).symm e3
        · rw [if_neg eb] at hb
          rw [Mp.set_ne eb] at h2
          by_cases e4 : b = id
          · rw [if_pos e4] at hb; cases hb; cases hlv
          · rw [if_neg e4] at hb
            exact R.inj _ _ _ _ _ _ ha hb hw1 hlv h1 h2 hbb
  · intro a o1 q1 ha hw1 h1
    rw [get] at ha
    by_cases ea : a = h.next
    · rw [if_pos ea] at ha; cases ha
      rw [ea, Mp.set_self] at h1; cases h1
      exact R.own _ _ _ hg hwr hq
    · rw [if_neg ea] at ha
      rw [Mp.set_ne ea] at h1
      by_cases e3 : a = id
      · rw [if_pos e3] at ha; cases ha; cases hw1
      · rw [if_neg e3] at ha; exact R.own _ _ _ ha hw1 h1
  · intro j hj hno
    rw [get] at hno
    by_cases ea : j = h.next
    · rw [if_pos ea] at hno; cases hno
    · rw [if_neg ea] at hno
      rw [Mp.set_ne ea]
      by_cases e3 : j = id
      · rw [if_pos e3] at hno; cases hno
      · rw [if_neg e3] at hno; exact R.fresh j hj hno
  · intro g hg'
    have h18 : 18 ≤ h.next := hn.2.1
    rw [Mp.set_ne (by omega)]; exact R.glob g hg'
  · intro j x hj
    rw [get] at hj
    by_cases ea : j = h.next
    · rw [ea]; exact hn.1
    · rw [if_neg ea] at hj
      by_cases e3 : j = id
      · rw [e3]; exact hlt
      · rw [if_neg e3] at hj; exact R.cap _ _ hj

/-- A row's cells by another trie. -/
theorem Rep.retrie {id n : Nat} {t t' : T VV} {k : RK} (R : Rep N m h w) (hg : h.get id = some (.row t n k)) (ht : ∀ i, i < n → t'.get i = t.get i) : Rep N m ⟨h.t.put 20 id (.row t' n k), h.next⟩ w := by
  have hlt := R.lt hg
  have get : ∀ j, H.get ⟨h.t.put 20 id (.row t' n k), h.next⟩ j = if j = id then some (.row t' n k) else h.get j := fun j => T.get_put 20 h.t id j _ (by omega)
  have back : ∀ j o, H.get ⟨h.t.put 20 id (.row t' n k), h.next⟩ j = some o → ∃ o', h.get j = some o' ∧ (o'.wr = o.wr ∧ o'.live = o.live) ∧ ∀ q ob, OR m q o' ob → OR m q o ob := by
    intro j o hj
    rw [get] at hj
    by_cases h1 : j = id
    · rw [if_pos h1] at hj; cases hj
      subst h1
      refine ⟨_, hg, ⟨rfl, rfl⟩, fun q ob ho => ?_⟩
      cases ho with
      | row hR => exact .row ⟨fun i hi => by rw [ht i hi]; exact hR.cells i hi, hR.rk, hR.le, hR.free⟩
    · rw [if_neg h1] at hj; exact ⟨o, hj, ⟨rfl, rfl⟩, fun _ _ x => x⟩
  refine ⟨?_, ?_, ?_, fun j hj hno => ?_, R.glob, R.size, fun j o hj => ?_⟩
  · intro j o hj
    obtain ⟨o', a, _, b⟩ := back j o hj
    obtain ⟨q, ob, c1, c2, c3⟩ := R.obj j o' a
    exact ⟨q, ob, c1, c2, b q ob c3⟩
  · intro a b o1 o2 q1 q2 ha hb hw1 hlv
    obtain ⟨o1', a1, ⟨a2, _⟩, _⟩ := back a o1 ha
    obtain ⟨o2', b1, ⟨_, b2⟩, _⟩ := back b o2 hb
    exact R.inj a b o1' o2' q1 q2 a1 b1 (by rw [a2]; exact hw1) (by rw [b2]; exact hlv)
  · intro a o q ha hw1
    obtain ⟨o', a1, ⟨a2, _⟩, _⟩ := back a o ha
    exact R.own a o' q a1 (by rw [a2]; exact hw1)
  · rw [get] at hno
    by_cases h1 : j = id
    · rw [if_pos h1] at hno; cases hno
    · rw [if_neg h1] at hno; exact R.fresh j hj hno
  · rw [get] at hj
    by_cases h1 : j = id
    · rw [h1]; exact hlt
    · rw [if_neg h1] at hj; exact R.cap _ _ hj

theorem getN_some {t : T VV} : ∀ (s off : Nat), (∀ i, i < s → ∃ u, t.get (off + i) = some u) → ∃ l, getN t off s = some l ∧ l.length = s ∧ ∀ i, i < s → l[i]? = t.get (off + i)
  | 0, off, _ => ⟨[], rfl, rfl, by simp⟩
  | s + 1, off, hs => by
    obtain ⟨u, hu⟩ := hs 0 (by omega)
    obtain ⟨l, h1, h2, h3⟩ := getN_some s (off + 1) (fun i hi => by
      have := hs (i + 1) (by omega)
      rwa [show off + (i + 1) = off + 1 + i by omega] at this)
    rw [Nat.add_zero] at hu
    refine ⟨u :: l, by simp [getN, hu, h1], by simp [h2], fun i hi => ?_⟩
    cases i with
    | zero => simp [hu]
    | succ i => rw [List.getElem?_cons_succ, h3 i (by omega)]; congr 1; omega

theorem get_put2 {t : T VO} {i : Nat} {a b : VO} (hi : i < 1000000) (j : Nat) : ((t.put 20 i a).put 20 i b).get j = (t.put 20 i b).get j := by
  rw [T.get_put 20 _ i j b (by omega), T.get_put 20 t i j b (by omega), T.get_put 20 t i j a (by omega)]
  split <;> rfl
theorem get_move {t : T VO} {id nx : Nat} {a : VO} (hi : id < 1000000) (hn : nx < 1000000) (j : Nat) : ((t.put 20 id .dead).put 20 nx a).get j = (((t.put 20 id a).put 20 id .dead).put 20 nx a).get j := by
  rw [T.get_put 20 _ nx j a (by omega), T.get_put 20 _ nx j a (by omega), T.get_put 20 t id j .dead (by omega), T.get_put 20 (t.put 20 id a) id j .dead (by omega), T.get_put 20 t id j a (by omega)]
  split
  · rfl
  · split <;> rfl

theorem getH {t : T VO} {n j : Nat} : H.get ⟨t, n⟩ j = t.get j := rfl
theorem Rep.writeMove {o o' : VO} {id : Nat} {q : Q} {ob : Obj} {w' : World} (R : Rep N m h w) (hg : h.get id = some o) (hwr : o.wr = true) (hq : m id = some q) (hn : H.Free ⟨h.t.put 20 id .dead, h.next⟩) (hwr' : o'.wr = true)
    (hor : OR m q o' ob) (hw : w'.heap = w.heap.setIfInBounds q.b ob) : Mp.Le m (m.set h.next q) ∧ Rep N (m.set h.next q) ⟨(h.t.put 20 id .dead).put 20 h.next o', h.next + 1⟩ w' := by
  have R1 : Rep N m ⟨h.t.put 20 id o', h.next⟩ w' := R.write hg hwr hq hw hor
  have hl' : id < 1000000 := R.lt hg
  have g1 : H.get ⟨h.t.put 20 id o', h.next⟩ id = some o' := by
    rw [getH, T.get_put 20 h.t id id o' (by omega), if_pos rfl]
  have hn' : H.Free ⟨(h.t.put 20 id o').put 20 id .dead, h.next⟩ := by
    refine ⟨hn.1, hn.2.1, ?_⟩
    have h3 := hn.2.2
    rw [getH] at h3 ⊢
    rw [T.get_put 20 _ id _ _ (by omega)] at h3 ⊢
    by_cases he : h.next = id
    · rw [if_pos he] at h3; cases h3
    · rw [if_neg he] at h3 ⊢
      rw [T.get_put 20 _ id _ _ (by omega), if_neg he]; exact h3
  have R2 := (R1.move g1 hwr' hq hn').2
  have hnx : h.next < 1000000 := hn.1
  refine ⟨(R1.move g1 hwr' hq hn').1, R2.same fun j => ?_⟩
  rw [getH, getH]
  exact get_move hl' hnx j

theorem Rep.retrieNew {hd : H} {t t' : T VV} {n : Nat} {k : RK} (hn : hd.Free) (R : Rep N m ⟨hd.t.put 20 hd.next (.row t n k), hd.next + 1⟩ w) (ht : ∀ i, i < n → t'.get i = t.get i) :
    Rep N m ⟨hd.t.put 20 hd.next (.row t' n k), hd.next + 1⟩ w := by
  have g1 : H.get ⟨hd.t.put 20 hd.next (.row t n k), hd.next + 1⟩ hd.next = some (.row t n k) := by
    rw [get_new _ hn, if_pos rfl]
  have := hn.1
  exact (R.retrie g1 ht).same fun j => (get_put2 this j).symm

set_option maxHeartbeats 8000000 in
theorem append_ok {t u ty : TypeId} {t2 : Option TypeId} {s x : VV} {S X : Value} (ok : CfgOk P c) (R : Rep N m h w) (hr : appendV c t t2 s x h = .val v h') (hs : VR m s S) (hx : VR m x X) (ht2 : t2 = some u) :
    Eff P N m w (nval (Builtin.append_ #[t, u] ty #[S, X])) v h' := by
  unfold appendV at hr
  cases hu : c.und t with
  | none => rw [hu] at hr; cases hr
  | some dd =>
    rw [hu] at hr
    cases dd with
    | slice elem =>
      simp only [] at hr
      cases hei : c.tys.get elem with
      | none => rw [hei] at hr; cases hr
      | some ei =>
        rw [hei] at hr
        simp only [] at hr
        cases hb : (Nat.ble 1 ei.bytes && Nat.ble ei.bytes 256 && zOk c elem ei.size) with
        | false => rw [hb] at hr; cases hr
        | true =>
          rw [hb, cond_true] at hr
          simp only [Bool.and_eq_true, nat_ble, decide_eq_true_eq] at hb
          obtain ⟨⟨hb1, hb2⟩, hzo⟩ := hb
          have hzz : ∃ z, (∀ w, (zeroValue elem).run P w = .ok z w) ∧ z.cells.size = ei.size := by
            unfold zOk at hzo
            cases hz : c.zero elem with
            | none => rw [hz] at hzo; cases hzo
            | some z =>
              rw [hz] at hzo
              obtain ⟨z', rfl, hz'⟩ := ok.zero hz
              have hzc := VR.cells (VR.ofV (m := m) z')
              have := hzc.length
              simp only [nat_beq, decide_eq_true_eq] at hzo
              exact ⟨z', hz', by simp at this; omega⟩
          obtain ⟨z, hz, hzs⟩ := hzz
          cases hnv : newV c elem ei.size t2 x h with
          | none => rw [hnv] at hr; cases hr
          | some pr =>
            obtain ⟨n, new⟩ := pr
            rw [hnv] at hr
            simp only [] at hr
            obtain ⟨u', d, xs, hu', nk⟩ := newV_ok (P := P) ok R hnv hx
            rw [ht2] at hu'; cases hu'
            have hxl := nk.rel.length
            have ht := ok.und hu
            have hti := ok.info hei
            -- a new row
            have fresh : ∀ (l : List VV) (olds : List Value) (base : Option Addr) (len cap : Nat), VRL m l olds → cap < len + n → len + n ≤ 1000000 → l.length = len * ei.size → new.length = n * ei.size → 1 ≤ ei.size →
                (∀ w1 : World, w1.heap = w.heap → (Builtin.firstCells ei.size len (.slice base len cap)).run P w1 = .ok olds.toArray w1) →
                ∀ (h0 : H), Rep N m h0 w → h0.Free → (l ++ new).length ≤ 1000000 →
                ∃ m' y w', Mp.Le m m' ∧ (Builtin.append_ #[t, u] ty #[.slice base len cap, X]).run P w = .ok y w' ∧ VR m' (.sl h0.next 0 (len + n) (len + n) false) y ∧
                  Rep N m' ⟨h0.t.put 20 h0.next (.row (T.puts 20 (l ++ new) 0 .leaf) (l ++ new).length (.opn ei.size)), h0.next + 1⟩ w' ∧ Below N w w' := by
              intro l olds base len cap hlo hcap hle hll hnl hs1 hold h0 R0 hn0 hlen
              obtain ⟨cp, w', hrun, hcp, hheap, ho, htp, hop⟩ := run_append_new (ty := ty) ht hti hz hb1 hb2 nk hcap hle hold
              have hol := hlo.length
              obtain ⟨m', ha, hbq, hR⟩ := R0.newRow (l := l ++ new) (xs := olds ++ xs) (tail := replX z.cells.toList (cp - (len + n))) (hlo.append nk.rel) hn0 hlen (.opn ei.size) ei.size elem (.inr ⟨rfl, hs1⟩) (0, 0) (.inl rfl) (w' := w') hheap
              refine ⟨m', _, w', ha, hrun, .slo (off := 0) hbq hcp ?_ hs1, hR, ?_⟩
              · rw [length_replX]
                simp only [List.length_append, Nat.zero_add]
                rw [← hol, ← hxl, hll, hnl]
                have : z.cells.toList.length = ei.size := by simpa using hzs
                rw [this, ← Nat.add_mul, ← Nat.add_mul]
                congr 1; omega
              · exact ⟨ho, htp, hop, by rw [hheap]; simp, fun k hk => by have := R.size; rw [hheap, Array.getElem?_push, if_neg (by omega)]⟩
            cases s with
            | lit y =>
              cases hs
              simp only [appendS] at hr
              cases hn : isNilS S with
              | false => rw [hn] at hr; cases hr
              | true =>
                have : S = .slice none 0 0 := by
                  unfold isNilS at hn
                  split at hn
                  · rfl
                  · cases hn
                subst this
                rw [hn, cond_true] at hr
                simp only [appendNil, nat_beq] at hr
                by_cases h0 : n = 0
                · subst h0
                  simp only [decide_true, cond_true] at hr
                  cases hr
                  exact .still R rfl (.lit _) (run_append_in (ty := ty) ht hti hb2 nk (Nat.le_refl _) rfl)
                · simp only [h0, decide_false, cond_false] at hr
                  cases hb : (Nat.ble n 1000000 && decide (new.length = n * ei.size) && Nat.ble 1 ei.size) with
                  | false => rw [hb] at hr; cases hr
                  | true =>
                    rw [hb, cond_true, H.newRow_eq] at hr
                    simp only [Bool.and_eq_true, nat_ble, decide_eq_true_eq] at hb
                    split at hr
                    · rename_i g1
                      split at hr
                      · rename_i g2
                        cases hr
                        obtain ⟨m', y, w', a1, a2, a3, a4, a5⟩ := fresh [] [] none 0 0 .nil (by omega) (by omega) (by simp) hb.1.2 hb.2 (fun _ _ => rfl) h R g2 (by simpa using g1)
                        simp only [Nat.zero_add, List.nil_append] at a2 a3 a4
                        exact .val a1 a2 a3 a4 a5
                      · cases hr
                    · cases hr
            | sl id off len cap ex =>
              simp only [appendS] at hr
              cases hrow : rowOf h id with
              | none => rw [hrow] at hr; cases hr
              | some r =>
                rw [hrow] at hr
                simp only [appendRow] at hr
                cases hb : (Nat.ble (off + len * ei.size) r.n && Nat.ble (off + (len + n) * ei.size) 1000000 && new.all flat && Nat.beq new.length (n * ei.size) && Nat.ble 1 ei.size) with
                | false => rw [hb] at hr; cases hr
                | true =>
                  rw [hb, cond_true] at hr
                  simp only [Bool.and_eq_true, nat_ble, nat_beq, decide_eq_true_eq] at hb hr
                  obtain ⟨⟨⟨⟨e1, e2⟩, e3⟩, e4⟩, e5⟩ := hb
                  have hsmall : len + n ≤ 1000000 := by
                    have : (len + n) * 1 ≤ (len + n) * ei.size := Nat.mul_le_mul_left _ e5
                    omega
                  obtain ⟨q, cs, tyy, fz, hq, hbk, hR⟩ := R.row hrow
                  -- in place
                  have inplace : ∀ cp, len + n ≤ cp → off + (len + n) * ei.size ≤ r.n → ∀ uu, appendIn id (off + len * ei.size) new r uu h = .val v h' → VR m uu (.slice (some ⟨q.b, q.base + off, none⟩) (len + n) cp) →
                      Eff P N m w (nval (Builtin.append_ #[t, u] ty #[.slice (some ⟨q.b, q.base + off, none⟩) len cp, X])) v h' := by
                    intro cp hcp hin uu hr hvr
                    obtain ⟨rfl, q', w', hq', hst, hRR, hB⟩ := writeIn (P := P) R hrow nk.rel e3 (by rw [e4, Nat.add_assoc, ← Nat.add_mul]; exact hin) hr
                    rw [hq] at hq'; cases hq'
                    refine .val (.refl m) (run_append_in (ty := ty) ht hti hb2 nk hcp ?_) hvr hRR hB
                    simp only [addr_add]
                    rw [← Nat.add_assoc] at hst
                    exact hst
                  have loads : ∀ (l : List VV), getN r.t off (len * ei.size) = some l → ∃ olds, VRL m l olds ∧ l.length = len * ei.size ∧ ∀ (cp : Nat) (w1 : World), w1.heap = w.heap → (Builtin.firstCells ei.size len (.slice (some ⟨q.b, q.base + off, none⟩) len cp)).run P w1 = .ok olds.toArray w1 := by
                    intro l hg
                    obtain ⟨olds, g1, g2, g3⟩ := getN_ok hR _ off l hg e1
                    refine ⟨olds, g1, by rw [g1.length, g2], fun cp w1 hw1 => ?_⟩
                    have := run_loadCells' (P := P) (w := w1) (by rw [hw1]; exact hbk) olds g3
                    rw [g2] at this
                    exact this
                  by_cases hcp : len + n ≤ cap
                  · simp only [hcp, decide_true, cond_true] at hr
                    by_cases hin : off + (len + n) * ei.size ≤ r.n
                    · simp only [hin, decide_true, cond_true] at hr
                      cases hs with
                      | sl hq' => rw [hq] at hq'; cases hq'; exact inplace _ hcp hin _ hr (.sl hq)
                      | slo hq' b1 b2 b3 => rw [hq] at hq'; cases hq'; exact inplace _ (by omega) hin _ hr (.slo hq b1 b2 b3)
                    · simp [hin] at hr
                  · simp only [hcp, decide_false, cond_false] at hr
                    cases ex with
                    | true =>
                      simp only [appendCopy] at hr
                      cases hg : getN r.t off (len * ei.size) with
                      | none => rw [hg] at hr; cases hr
                      | some l =>
                        rw [hg] at hr
                        simp only [] at hr
                        obtain ⟨olds, g1, g2, g3⟩ := loads l hg
                        rw [H.newRow_eq] at hr
                        split at hr
                        · rename_i k1
                          split at hr
                          · rename_i k2
                            cases hr
                            cases hs with
                            | sl hq' =>
                              rw [hq] at hq'; cases hq'
                              obtain ⟨m', y, w', a1, a2, a3, a4, a5⟩ := fresh l olds _ len cap g1 (by omega) hsmall g2 e4 e5 (g3 cap) h R k2 k1
                              exact .val a1 a2 a3 a4 a5
                          · cases hr
                        · cases hr
                    | false =>
                      simp only [appendOut] at hr
                      cases hk : r.k with
                      | opn sz =>
                        rw [hk] at hr
                        simp only [] at hr
                        cases hbb : (Nat.beq off 0 && Nat.beq (len * ei.size) r.n && Nat.beq sz ei.size) with
                        | false => rw [hbb] at hr; cases hr
                        | true =>
                          rw [hbb, cond_true, putK_eq, forceN_eq, H.setK_eq, H.newK_eq] at hr
                          simp only [Bool.and_eq_true, nat_beq, decide_eq_true_eq] at hbb
                          obtain ⟨⟨rfl, hn⟩, rfl⟩ := hbb
                          split at hr
                          · rename_i k2
                            cases hr
                            cases hs with
                            | @slo _ _ _ _ cp q' hq' b1 b2 b3 =>
                            rw [hq] at hq'; cases hq'
                            have hrk := hR.rk
                            rw [hk] at hrk
                            obtain ⟨r1, r2, r3, r4, r5⟩ := hrk
                            have hwr : r.k.wr = true := by rw [hk]; rfl
                            have hgid := rowOf_get hrow
                            have hcell : cs.size = cp * ei.size := by rw [r4, ← b2, r2, Nat.zero_add]
                            have hnl : r.n + new.length = (len + n) * ei.size := by rw [← hn, e4, Nat.add_mul]
                            by_cases hfit : len + n ≤ cp
                            · -- in place
                              have hroom : r.n + new.length ≤ cs.size := by rw [hnl, hcell]; exact Nat.mul_le_mul_right _ hfit
                              have hput := hR.put hwr nk.rel (off := r.n) (r.n + new.length) (Nat.le_refl _) (by omega) hroom (by omega)
                              have hrun := run_storeCells' (P := P) (b := q.b) (o := q.base + r.n) (ty := tyy) (fz := fz) xs 0 cs w hbk (by omega) (VRL.flats nk.rel e3) (hR.free hwr)
                              have B1 : Below N w { w with heap := w.heap.setIfInBounds q.b (.cells (lay cs (q.base + r.n + 0) xs) tyy fz) } := below_write R hgid hwr hq (ob := .cells (lay cs (q.base + r.n + 0) xs) tyy fz) rfl rfl rfl rfl
                              rw [hk] at hput
                              obtain ⟨hle, R3⟩ := R.writeMove (w' := { w with heap := w.heap.setIfInBounds q.b (.cells (lay cs (q.base + r.n + 0) xs) tyy fz) }) (o' := .row (T.puts 20 new r.n r.t) (r.n + new.length) (.opn ei.size)) (ob := .cells (lay cs (q.base + r.n + 0) xs) tyy fz) hgid hwr hq k2 rfl (.row hput) rfl
                              refine .val hle (run_append_in (ty := ty) ht hti hb2 nk hfit ?_) (.slo (off := 0) Mp.set_self hfit b2 b3) R3 B1
                              simp only [addr_add]
                              rw [hn]
                              exact hrun
                            · -- a new block
                              obtain ⟨l, l1, l2, l3⟩ := getN_some (t := r.t) r.n 0 (fun i hi => by obtain ⟨u, _, hu, _⟩ := hR.cells i hi; exact ⟨u, by rw [Nat.zero_add]; exact hu⟩)
                              obtain ⟨olds, o1, o2, o3⟩ := loads l (by rw [hn]; exact l1)
                              have hlen : (l ++ new).length = r.n + new.length := by rw [List.length_append, l2]
                              obtain ⟨m', y, w', a1, a2, a3, a4, a5⟩ := fresh l olds _ len cp o1 (by omega) hsmall o2 e4 e5 (o3 cp) ⟨h.t.put 20 id .dead, h.next⟩ (R.drop hgid) k2 (by omega)
                              have R3 := Rep.retrieNew (hd := ⟨h.t.put 20 id .dead, h.next⟩) (t' := T.puts 20 new r.n r.t) k2 a4 (fun i hi => by
                                rw [hlen] at hi
                                rw [T.get_puts 20 new r.n r.t i (by omega), T.get_puts 20 (l ++ new) 0 .leaf i (by omega)]
                                rw [if_pos (show 0 ≤ i ∧ i < 0 + (l ++ new).length by omega), Nat.sub_zero]
                                by_cases hi2 : i < r.n
                                · rw [if_neg (by omega), List.getElem?_append_left (by omega), l3 i hi2, Nat.zero_add]
                                · rw [if_pos (by omega), List.getElem?_append_right (by omega), l2])
                              rw [hlen] at R3
                              exact .val a1 a2 a3 R3 a5
                          · cases hr
                      | _ => rw [hk] at hr; cases hr
            | _ => cases hr
    | _ => cases hr
end
end Go.M
