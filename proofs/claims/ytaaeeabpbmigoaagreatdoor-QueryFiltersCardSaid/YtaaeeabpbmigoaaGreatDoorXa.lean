/- Contracts of what QueryFilters calls: labels, matchers, series. -/
import Derived.Test.YtaaeeabpbmigoaaGreatDoorProg
import Derived.WalkKit
import Derived.WalkSpells
import Derived.WalkLawsBesides
import Derived.Lib.Hide
import Derived.Below
import Derived.OwnWalk
import Derived.Maps.AppendAt
import Derived.Deep.AppendLies
import Derived.Deep.QuietTactic
import Derived.BigQuiet
set_option linter.unusedVariables false
set_option linter.unusedSimpArgs false
/- Words for what is read. -/
namespace Go.Proofs
open Go.RowKit
theorem addAdd (a : Addr) (i j : Nat) : (a.add i).add j = a.add (i + j) := by
  unfold Addr.add
  by_cases hi : i = 0 <;> by_cases hj : j = 0 <;> simp [hi, hj, Nat.add_assoc]
theorem blockAdd (a : Addr) (n : Nat) : (a.add n).block = a.block := by unfold Addr.add; split <;> rfl
/-- The cells from A on, in blocks below B. -/
def Rd (w : World) (B : Nat) (A : Option Addr) (xs : List Value) : Prop := ∀ j u, xs[j]? = some u → ∃ ad, A = some ad ∧ ad.block < B ∧ w.cell? (ad.add j) = some u
theorem Rd.below {w w' : World} {B : Nat} {A : Option Addr} {xs : List Value} (h : Rd w B A xs) (hb : Below B w w') : Rd w' B A xs := fun j u hu => by
  obtain ⟨ad, e, hlt, hc⟩ := h j u hu
  exact ⟨ad, e, hlt, (hb.cell (by rw [blockAdd]; exact hlt)).trans hc⟩

theorem Rd.alloc {w : World} {B : Nat} {A : Option Addr} {xs : List Value} (h : Rd w B A xs) (hB : B ≤ w.heap.size) (o : Obj) : Rd (w.alloc o) B A xs := h.below ((Below.refl B w).alloc hB o)
theorem bcell {W w1 : World} (hb : Below W.heap.size W w1) : (∀ b o, b < W.heap.size → w1.cell? ⟨b, o, none⟩ = W.cell? ⟨b, o, none⟩) ∧ (∀ b o, b < W.heap.size → w1.frozen? ⟨b, o, none⟩ = W.frozen? ⟨b, o, none⟩) :=
  ⟨fun b o h => hb.cell (p := ⟨b, o, none⟩) h, fun b o h => hb.frozen (p := ⟨b, o, none⟩) h⟩
abbrev Lb := ByteArray × ByteArray
def lbV (l : List Lb) : List Value := l.flatMap fun p => [.string p.1, .string p.2]
theorem lbV_at : ∀ (l : List Lb) (k : Nat) (p : Lb), l[k]? = some p → (lbV l)[k * 2]? = some (.string p.1) ∧ (lbV l)[k * 2 + 1]? = some (.string p.2)
  | [], k, p, h => by simp at h
  | q :: l, 0, p, h => by
    simp at h; subst h
    exact ⟨rfl, rfl⟩
  | q :: l, k + 1, p, h => by
    rw [List.getElem?_cons_succ] at h
    have ih := lbV_at l k p h
    have e : lbV (q :: l) = .string q.1 :: .string q.2 :: lbV l := rfl
    rw [e, show (k + 1) * 2 = k * 2 + 1 + 1 by omega, show k * 2 + 1 + 1 + 1 = (k * 2 + 1) + 1 + 1 by omega]
    simp only [List.getElem?_cons_succ]
    exact ih
theorem addF (a : Addr) (i j : Nat) (hj : j ≠ 0) : (⟨(a.add i).block, (a.add i).off + j, none⟩ : Addr) = a.add (i + j) := by
  unfold Addr.add
  by_cases hi : i = 0
  · subst hi; simp [hj]
  · simp [hi, hj, Nat.add_assoc]
theorem Rd.lb {w : World} {B : Nat} {A : Option Addr} {l : List Lb} (h : Rd w B A (lbV l)) {k : Nat} {p : Lb} (hp : l[k]? = some p) :
    ∃ ad, A = some ad ∧ ad.block < B ∧ w.cell? (ad.add (k * 2)) = some (.string p.1) ∧ w.cell? ⟨(ad.add (k * 2)).block, (ad.add (k * 2)).off + 1, none⟩ = some (.string p.2) := by
  obtain ⟨h1, h2⟩ := lbV_at l k p hp
  obtain ⟨ad, e, hlt, hc⟩ := h _ _ h1
  obtain ⟨ad', e', _, hc'⟩ := h _ _ h2
  rw [e] at e'; cases e'
  exact ⟨ad, e, hlt, hc, by rw [addF _ _ _ (by decide)]; exact hc'⟩

def getF : List Lb → ByteArray → ByteArray × Bool
  | [], _ => (.empty, false)
  | p :: l, nm => if (p.1.toList == nm.toList) = true then (p.2, true) else getF l nm
def getPost (l : List Lb) (nm : ByteArray) (w : World) (e : Ending) (w' : World) : Prop := e = .returned (.tuple #[.string (getF l nm).1, .bool (getF l nm).2]) ∧ w = w'
theorem getF_drop {l : List Lb} {k : Nat} {p : Lb} (hp : l[k]? = some p) (nm : ByteArray) : getF (l.drop k) nm = if (p.1.toList == nm.toList) = true then (p.2, true) else getF (l.drop (k + 1)) nm := by
  have hk : k < l.length := (List.getElem?_eq_some_iff.1 hp).1
  have he : l[k] = p := (List.getElem?_eq_some_iff.1 hp).2
  rw [List.drop_eq_getElem_cons hk, he]; rfl
end Go.Proofs
namespace Go.Proofs
open Go.RowKit
set_option maxHeartbeats 400000 in
theorem refGet_any (A : Option Addr) (c : Nat) (l : List Lb) (nm : ByteArray) (B : Nat) (w : World) (hn : l.length ≤ maxLen) (h : Rd w B A (lbV l)) :
    Calls Tryz.prog 73 #[.slice A l.length c, .string nm] w (getPost l nm w) := by
  unfold maxLen at hn
  go_enter Tryz.func73, Tryz.ntmps73
  go_wp2
  go_loop [6] (fun i => ∃ k : Nat, k ≤ l.length ∧ i = .int .i64 k ∧ getF (l.drop k) nm = getF l nm) (fun i => l.length - (intOf i).toNat)
  case atStart => exact ⟨0, Nat.zero_le _, rfl, rfl⟩
  case round =>
    obtain ⟨k, hk, rfl, hg⟩ := hrel
    have HG := Lib.hid hg
    clear hg
    by_cases hlt : k < l.length
    · obtain ⟨p, hp⟩ : ∃ p, l[k]? = some p := ⟨l[k], by simp [hlt]⟩
      obtain ⟨ad, rfl, _, h1, h2⟩ := h.lb hp
      have HP := Lib.hid hp
      clear hp
      cases he : (p.1.toList == nm.toList) with
      | true =>
        have hr : getF l nm = (p.2, true) := by rw [← HG.out, getF_drop HP.out, if_pos he]
        have HR := Lib.hid hr
        clear hr
        go_wp2
        go_ret2
        exact ⟨by rw [HR.out]; rfl, rfl⟩
      | false =>
        have hr : getF (l.drop (k + 1)) nm = getF l nm := by rw [← HG.out, getF_drop HP.out, if_neg (by rw [he]; simp)]
        have HR := Lib.hid hr
        clear hr
        go_wp2
        go_round
        case rel => exact ⟨k + 1, by omega, by go_num, HR.out⟩
        case measure => simp [intOf]; omega
    · go_wp2
      go_ret2
      have : k = l.length := by omega
      subst this
      exact ⟨by rw [← HG.out, List.drop_length]; rfl, rfl⟩
end Go.Proofs
namespace Go.Proofs
open Go.RowKit
def getPostB (l : List Lb) (nm : ByteArray) (w : World) (e : Ending) (w' : World) : Prop := e = .returned (.tuple #[.string (getF l nm).1, .bool (getF l nm).2]) ∧ Below w.heap.size w w'
set_option maxHeartbeats 400000 in
theorem get_any (A : Option Addr) (c : Nat) (l : List Lb) (nm : ByteArray) (B : Nat) (w : World) (hn : l.length ≤ maxLen) (hB : B ≤ w.heap.size) (h : Rd w B A (lbV l)) :
    Calls Tryz.prog 95 #[.slice A l.length c, .string nm] w (getPostB l nm w) := by
  unfold maxLen at hn
  go_enter Tryz.func95, Tryz.ntmps95
  go_wp2
  go_loopw [10] (fun i wr => ∃ k : Nat, k ≤ l.length ∧ i = .int .i64 k ∧ Hid (getF (l.drop k) nm = getF l nm) ∧ Hid (Below w.heap.size w wr)) (fun i _ => l.length - (intOf i).toNat)
  case atStart => exact ⟨0, Nat.zero_le _, rfl, Lib.hid rfl, Lib.hid (.refl _ _)⟩
  case round =>
    obtain ⟨k, hk, rfl, HG, HW⟩ := hrel
    by_cases hlt : k < l.length
    · obtain ⟨p, hp⟩ : ∃ p, l[k]? = some p := ⟨l[k], by simp [hlt]⟩
      obtain ⟨ad, rfl, hlb, h1, h2⟩ := (h.below (HW.out.mono hB)).lb hp
      have HP := Lib.hid hp
      clear hp
      cases he : (p.1.toList == nm.toList) with
      | true =>
        have hr : getF l nm = (p.2, true) := by rw [← HG.out, getF_drop HP.out, if_pos he]
        have HR := Lib.hid hr
        clear hr
        go_wp2
        go_ret2
        exact ⟨by rw [HR.out]; rfl, HW.out.alloc HW.out.size _⟩
      | false =>
        have hr : getF (l.drop (k + 1)) nm = getF l nm := by rw [← HG.out, getF_drop HP.out, if_neg (by rw [he]; simp)]
        have HR := Lib.hid hr
        clear hr
        go_wp2
        go_roundw
        case rel => exact ⟨k + 1, by omega, by go_num, HR, Lib.hid (HW.out.alloc HW.out.size _)⟩
        case measure => simp [intOf]; omega
    · go_wp2
      go_ret2
      have : k = l.length := by omega
      subst this
      exact ⟨by rw [← HG.out, List.drop_length]; rfl, HW.out⟩
end Go.Proofs
namespace Go.Proofs
open Go.RowKit
abbrev Mt := ByteArray × ByteArray × Bool
def mtV (x : Mt) : Value := .agg #[.string x.1, .string x.2.1, .bool x.2.2]
/-- The matcher is not fulfilled. -/
def miss (l : List Lb) (x : Mt) : Bool := ((getF l x.1).1.toList == x.2.1.toList) == x.2.2
def boolPost (b : Bool) (w : World) (e : Ending) (w' : World) : Prop := e = .returned (.bool b) ∧ Below w.heap.size w w'
set_option maxHeartbeats 400000 in
theorem miss_any (A : Option Addr) (c : Nat) (l : List Lb) (x : Mt) (pa : Addr) (B : Nat) (w : World) (hn : l.length ≤ maxLen) (hB : B ≤ w.heap.size) (h : Rd w B A (lbV l)) (hp : w.cell? pa = some (.slice A l.length c)) (hpb : pa.block < w.heap.size) :
    Calls Tryz.prog 94 #[mtV x, .pointer (some pa)] w (boolPost (miss l x) w) := by
  obtain ⟨nm, val, d⟩ := x
  unfold mtV
  go_enter Tryz.func94, Tryz.ntmps94
  go_wp2_with fail
  refine (get_any A c l nm B _ hn (by simp; omega) (h.alloc hB _)).mono ?_
  rintro e w1 ⟨rfl, hb⟩
  obtain ⟨hc, hf⟩ := bcell hb
  go_wp2
  go_ret
  exact ⟨rfl, ((Below.refl _ w).alloc (Nat.le_refl _) _).trans (hb.mono (by simp))⟩
end Go.Proofs
namespace Go.Proofs
open Go.RowKit
def mtL (l : List Mt) : List Value := l.flatMap fun p => [.string p.1, .string p.2.1, .bool p.2.2]
theorem mtL_at : ∀ (l : List Mt) (k : Nat) (p : Mt), l[k]? = some p → (mtL l)[k * 3]? = some (.string p.1) ∧ (mtL l)[k * 3 + 1]? = some (.string p.2.1) ∧ (mtL l)[k * 3 + 2]? = some (.bool p.2.2)
  | [], k, p, h => by simp at h
  | q :: l, 0, p, h => by
    simp at h; subst h
    exact ⟨rfl, rfl, rfl⟩
  | q :: l, k + 1, p, h => by
    rw [List.getElem?_cons_succ] at h
    have ih := mtL_at l k p h
    have e : mtL (q :: l) = .string q.1 :: .string q.2.1 :: .bool q.2.2 :: mtL l := rfl
    rw [e, show (k + 1) * 3 = k * 3 + 1 + 1 + 1 by omega, show k * 3 + 1 + 1 + 1 + 1 = (k * 3 + 1) + 1 + 1 + 1 by omega, show k * 3 + 1 + 1 + 1 + 2 = (k * 3 + 2) + 1 + 1 + 1 by omega]
    simp only [List.getElem?_cons_succ]
    exact ih
theorem Rd.mt {w : World} {B : Nat} {A : Option Addr} {l : List Mt} (h : Rd w B A (mtL l)) {k : Nat} {p : Mt} (hp : l[k]? = some p) :
    ∃ ad, A = some ad ∧ ad.block < B ∧ w.cell? (ad.add (k * 3)) = some (.string p.1) ∧ w.cell? ⟨(ad.add (k * 3)).block, (ad.add (k * 3)).off + 1, none⟩ = some (.string p.2.1) ∧ w.cell? ⟨(ad.add (k * 3)).block, (ad.add (k * 3)).off + 2, none⟩ = some (.bool p.2.2) := by
  obtain ⟨h1, h2, h3⟩ := mtL_at l k p hp
  obtain ⟨ad, e, hlt, hc⟩ := h _ _ h1
  obtain ⟨ad', e', _, hc'⟩ := h _ _ h2
  obtain ⟨ad2, e2, _, hc2⟩ := h _ _ h3
  rw [e] at e' e2; cases e'; cases e2
  exact ⟨ad, e, hlt, hc, by rw [addF _ _ _ (by decide)]; exact hc', by rw [addF _ _ _ (by decide)]; exact hc2⟩
theorem any_drop {α : Type} {l : List α} {k : Nat} {p : α} (hp : l[k]? = some p) (f : α → Bool) : (l.drop k).any f = (f p || (l.drop (k + 1)).any f) := by
  have hk : k < l.length := (List.getElem?_eq_some_iff.1 hp).1
  have he : l[k] = p := (List.getElem?_eq_some_iff.1 hp).2
  rw [List.drop_eq_getElem_cons hk, he]; rfl
def idxPost (b : Bool) (w : World) (e : Ending) (w' : World) : Prop := ∃ i : Int, e = .returned (.int .i64 i) ∧ decide (0 ≤ i) = b ∧ Below w.heap.size w w'
set_option maxHeartbeats 400000 in
theorem index_any (Am : Option Addr) (cm : Nat) (ms : List Mt) (A : Option Addr) (c : Nat) (l : List Lb) (pa : Addr) (B : Nat) (w : World) (hms : ms.length ≤ maxLen) (hm : Rd w B Am (mtL ms)) (hn : l.length ≤ maxLen) (hB : B ≤ w.heap.size) (h : Rd w B A (lbV l))
    (hp : w.cell? pa = some (.slice A l.length c)) (hpb : pa.block < w.heap.size) :
    Calls Tryz.prog 166 #[.slice Am ms.length cm, .func (.func 94) #[] #[.pointer (some pa)]] w (idxPost (ms.any (miss l)) w) := by
  unfold maxLen at hms
  go_enter Tryz.func166, Tryz.ntmps166
  go_wp2
  go_loopw [8] (fun i wr => ∃ k : Nat, k ≤ ms.length ∧ i = .int .i64 k ∧ Hid ((ms.drop k).any (miss l) = ms.any (miss l)) ∧ Hid (Below w.heap.size w wr)) (fun i _ => ms.length - (intOf i).toNat)
  case atStart => exact ⟨0, Nat.zero_le _, rfl, Lib.hid rfl, Lib.hid (.refl _ _)⟩
  case round =>
    obtain ⟨k, hk, rfl, HG, HW⟩ := hrel
    by_cases hlt : k < ms.length
    · obtain ⟨p, hp'⟩ : ∃ p, ms[k]? = some p := ⟨ms[k], by simp [hlt]⟩
      obtain ⟨ad, rfl, hlb, h1, h2, h3⟩ := (hm.below (HW.out.mono hB)).mt hp'
      have HP := Lib.hid hp'
      clear hp'
      have hpw : wr.cell? pa = some (.slice A l.length c) := (HW.out.cell hpb).trans hp
      have hc := miss_any A c l p pa B wr hn (Nat.le_trans hB HW.out.size) (h.below (HW.out.mono hB)) hpw (Nat.lt_of_lt_of_le hpb HW.out.size)
      have HC := Lib.hid hc
      clear hc hpw
      cases hmi : miss l p with
      | true =>
        rw [hmi] at HC
        have hr : ms.any (miss l) = true := by rw [← HG.out, any_drop HP.out, hmi]; rfl
        have HR := Lib.hid hr
        clear hr hmi
        go_wp2_with fail
        refine HC.out.mono ?_
        rintro e w1 ⟨rfl, hb⟩
        have HB := Lib.hid hb
        clear hb
        go_wp2
        go_ret
        exact ⟨k, rfl, by rw [HR.out]; simp, HW.out.trans (HB.out.mono HW.out.size)⟩
      | false =>
        rw [hmi] at HC
        have hr : (ms.drop (k + 1)).any (miss l) = ms.any (miss l) := by rw [← HG.out, any_drop HP.out, hmi]; rfl
        have HR := Lib.hid hr
        clear hr hmi
        go_wp2_with fail
        refine HC.out.mono ?_
        rintro e w1 ⟨rfl, hb⟩
        have HB := Lib.hid hb
        clear hb
        go_wp2
        go_roundw
        case rel => exact ⟨k + 1, by omega, by go_num, HR, Lib.hid (HW.out.trans (HB.out.mono HW.out.size))⟩
        case measure => simp [intOf]; omega
    · go_wp2
      go_ret
      have : k = ms.length := by omega
      subst this
      exact ⟨-1, rfl, by rw [← HG.out, List.drop_length]; rfl, HW.out⟩
end Go.Proofs
namespace Go.Proofs
open Go.RowKit
set_option maxHeartbeats 400000 in
theorem contains_any (Am : Option Addr) (cm : Nat) (ms : List Mt) (A : Option Addr) (c : Nat) (l : List Lb) (pa : Addr) (B : Nat) (w : World) (hms : ms.length ≤ maxLen) (hm : Rd w B Am (mtL ms)) (hn : l.length ≤ maxLen) (hB : B ≤ w.heap.size) (h : Rd w B A (lbV l))
    (hp : w.cell? pa = some (.slice A l.length c)) (hpb : pa.block < w.heap.size) :
    Calls Tryz.prog 93 #[.slice Am ms.length cm, .func (.func 94) #[] #[.pointer (some pa)]] w (boolPost (ms.any (miss l)) w) := by
  have HC := Lib.hid (index_any Am cm ms A c l pa B w hms hm hn hB h hp hpb)
  clear hm h hp
  go_enter Tryz.func93, Tryz.ntmps93
  go_wp2_with fail
  refine HC.out.mono ?_
  rintro e w1 ⟨i, rfl, hi, hb⟩
  have HI := Lib.hid hi
  clear hi
  have HB := Lib.hid hb
  clear hb
  by_cases h0 : 0 ≤ i
  · go_wp2
    go_ret
    exact ⟨by rw [← HI.out]; simp [h0], HB.out⟩
  · go_wp2
    go_ret
    exact ⟨by rw [← HI.out]; simp, HB.out⟩
set_option maxHeartbeats 400000 in
theorem matches_any (Am : Option Addr) (cm : Nat) (ms : List Mt) (A : Option Addr) (c : Nat) (l : List Lb) (B : Nat) (w : World) (hms : ms.length ≤ maxLen) (hm : Rd w B Am (mtL ms)) (hn : l.length ≤ maxLen) (hB : B ≤ w.heap.size) (h : Rd w B A (lbV l)) :
    Calls Tryz.prog 55 #[.slice A l.length c, .slice Am ms.length cm] w (boolPost (!ms.any (miss l)) w) := by
  have hmf : ∀ (fn : Fn) (first cap : Array Value) (w : World), (Instr.makeFunc fn first cap).run Tryz.prog w = .ok (.func fn first cap) w := fun _ _ _ _ => rfl
  have HC := Lib.hid (contains_any Am cm ms A c l ⟨w.heap.size, 0, none⟩ B (w.alloc (.cells #[.slice A l.length c] 96)) hms (hm.alloc hB _) hn (by simp; omega) (h.alloc hB _) (by simp [go_sem]) (by simp))
  clear hm h
  go_enter Tryz.func55, Tryz.ntmps55
  go_wp2_with fail
  refine HC.out.mono ?_
  rintro e w1 ⟨rfl, hb⟩
  have HB := Lib.hid hb
  clear hb
  go_wp2
  go_ret
  exact ⟨rfl, ((Below.refl _ w).alloc (Nat.le_refl _) _).trans (HB.out.mono (by simp))⟩
end Go.Proofs
namespace Go.Proofs
open Go.RowKit
theorem own_below {w w' : World} {b : Nat} {e : TypeId} {s : Nat} {v : Value} {n : Nat} {xs : List Value} (h : w.ownsRow b e s v n xs) (hb : Below w.heap.size w w') : w'.ownsRow b e s v n xs :=
  h.kept (row := none) ⟨hb.os, hb.tape, hb.output, hb.size, fun i hi _ => hb.block i hi⟩ (by cases hv : v.ownBlock with
    | none => exact .inl rfl
    | some _ => exact .inr (by simp))
theorem cells_new (w : World) (xs : List Value) (t : TypeId) : ∀ j u, xs[j]? = some u → (w.alloc (.cells xs.toArray t)).cell? ((⟨w.heap.size, 0, none⟩ : Addr).add j) = some u := by
  intro j u hj
  have : (⟨w.heap.size, 0, none⟩ : Addr).add j = ⟨w.heap.size, j, none⟩ := by
    unfold Addr.add
    by_cases h : j = 0
    · subst h; rfl
    · simp [h]
  rw [this]
  rw [cell_of_row _ _ _ _ _ _ (heap_alloc_new w _)]
  simpa using hj
/-- A series as it is read: where its labels and its samples lie, and what they are. -/
structure Sr : Type where
  la : Option Addr
  lc : Nat
  ls : List Lb
  sa : Option Addr
  sc : Nat
  ss : List (Int × Int)
def srV (s : Sr) : List Value := [.slice s.la s.ls.length s.lc, .slice s.sa s.ss.length s.sc]
def srL (l : List Sr) : List Value := l.flatMap srV
theorem srL_len : ∀ l : List Sr, (srL l).length = l.length * 2
  | [] => rfl
  | s :: l => by
    show (srV s ++ srL l).length = _
    rw [List.length_append, srL_len l]; simp [srV]; omega
theorem srL_append (a b : List Sr) : srL (a ++ b) = srL a ++ srL b := by unfold srL; rw [List.flatMap_append]
theorem srL_at : ∀ (l : List Sr) (k : Nat) (p : Sr), l[k]? = some p → (srL l)[k * 2]? = some (.slice p.la p.ls.length p.lc) ∧ (srL l)[k * 2 + 1]? = some (.slice p.sa p.ss.length p.sc)
  | [], k, p, h => by simp at h
  | q :: l, 0, p, h => by
    simp at h; subst h
    exact ⟨rfl, rfl⟩
  | q :: l, k + 1, p, h => by
    rw [List.getElem?_cons_succ] at h
    have ih := srL_at l k p h
    have e : srL (q :: l) = .slice q.la q.ls.length q.lc :: .slice q.sa q.ss.length q.sc :: srL l := rfl
    rw [e, show (k + 1) * 2 = k * 2 + 1 + 1 by omega, show k * 2 + 1 + 1 + 1 = (k * 2 + 1) + 1 + 1 by omega]
    simp only [List.getElem?_cons_succ]
    exact ih
theorem Rd.sr {w : World} {B : Nat} {A : Option Addr} {l : List Sr} (h : Rd w B A (srL l)) {k : Nat} {p : Sr} (hp : l[k]? = some p) :
    ∃ ad, A = some ad ∧ ad.block < B ∧ w.cell? (ad.add (k * 2)) = some (.slice p.la p.ls.length p.lc) ∧ w.cell? ⟨(ad.add (k * 2)).block, (ad.add (k * 2)).off + 1, none⟩ = some (.slice p.sa p.ss.length p.sc) := by
  obtain ⟨h1, h2⟩ := srL_at l k p hp
  obtain ⟨ad, e, hlt, hc⟩ := h _ _ h1
  obtain ⟨ad', e', _, hc'⟩ := h _ _ h2
  rw [e] at e'; cases e'
  exact ⟨ad, e, hlt, hc, by rw [addF _ _ _ (by decide)]; exact hc'⟩
def smV (l : List (Int × Int)) : List Value := l.flatMap fun p => [.int .i64 p.1, .int .u64 p.2]
/-- The series can be read in this world. -/
structure SrOk (w : World) (B : Nat) (s : Sr) : Prop where
  lr : Rd w B s.la (lbV s.ls)
  sr : Rd w B s.sa (smV s.ss)
  ln : s.ls.length ≤ maxLen
  sn : s.ss.length ≤ maxLen
theorem SrOk.below {w w' : World} {B : Nat} {s : Sr} (h : SrOk w B s) (hb : Below B w w') : SrOk w' B s := ⟨h.lr.below hb, h.sr.below hb, h.ln, h.sn⟩
def ok (ms : List Mt) (s : Sr) : Bool := !ms.any (miss s.ls)
def sel (ms : List Mt) (bs : List Sr) : List Sr := bs.filter (ok ms)
theorem sel_take {bs : List Sr} {k : Nat} {p : Sr} (hp : bs[k]? = some p) (ms : List Mt) : sel ms (bs.take (k + 1)) = sel ms (bs.take k) ++ if ok ms p then [p] else [] := by
  have hk : k < bs.length := (List.getElem?_eq_some_iff.1 hp).1
  have he : bs[k] = p := (List.getElem?_eq_some_iff.1 hp).2
  unfold sel
  rw [List.take_succ_eq_append_getElem hk, he, List.filter_append]
  congr 1
  cases ho : ok ms p <;> simp [ho]
theorem sel_le (ms : List Mt) (bs : List Sr) (k : Nat) : (sel ms (bs.take k)).length ≤ k := Nat.le_trans (List.length_filter_le _ _) (List.length_take_le _ _)
def filtPost (l : List Sr) (w : World) (e : Ending) (w' : World) : Prop := ∃ ao cv, e = .returned (.slice ao l.length cv) ∧ w'.ownsRow w.heap.size 98 2 (.slice ao l.length cv) l.length (srL l) ∧ Below w.heap.size w w'
set_option maxHeartbeats 400000 in
theorem filter_any (Ab : Option Addr) (cb : Nat) (bs : List Sr) (Am : Option Addr) (cm : Nat) (ms : List Mt) (B : Nat) (w : World) (hbl : bs.length ≤ 300) (hb : Rd w B Ab (srL bs)) (hs : ∀ s ∈ bs, SrOk w B s) (hms : ms.length ≤ maxLen) (hm : Rd w B Am (mtL ms)) (hB : B ≤ w.heap.size) :
    Calls Tryz.prog 19 #[.slice Ab bs.length cb, .slice Am ms.length cm] w (filtPost (sel ms bs) w) := by
  obtain ⟨i0, hi, hz0, hz1, hz2⟩ := info_parts (P := Tryz.prog) (e := 98) (z := .agg #[.slice none 0 0, .slice none 0 0]) (size := 2) (bytes := 48) (by kernel_rfl)
  go_enter Tryz.func19, Tryz.ntmps19
  go_wp2
  go_loopw [5, 10] (fun v i wr => ∃ (k : Nat) (ao : Option Addr) (cv : Nat), k ≤ bs.length ∧ i = .int .i64 k ∧ v = .slice ao (sel ms (bs.take k)).length cv ∧ Hid (wr.ownsRow w.heap.size 98 2 v (sel ms (bs.take k)).length (srL (sel ms (bs.take k)))) ∧ Hid (Below w.heap.size w wr)) (fun _ i _ => bs.length - (intOf i).toNat)
  case atStart => exact ⟨0, none, 0, Nat.zero_le _, rfl, rfl, Lib.hid (World.ownsRow_nil _ _ _ _), Lib.hid (.refl _ _)⟩
  case round =>
    obtain ⟨k, ao, cv, hk, rfl, rfl, HO, HW⟩ := hrel
    by_cases hlt : k < bs.length
    · obtain ⟨p, hp'⟩ : ∃ p, bs[k]? = some p := ⟨bs[k], by simp [hlt]⟩
      have hpm : p ∈ bs := List.mem_of_getElem? hp'
      obtain ⟨ad, rfl, hlb, h1, h2⟩ := (hb.below (HW.out.mono hB)).sr hp'
      have HS := Lib.hid (sel_take hp' ms)
      clear hp'
      have HC := Lib.hid (fun wx hx => matches_any Am cm ms p.la p.lc p.ls B wx hms (hm.below (hx : Below B w wx)) (hs p hpm).ln (Nat.le_trans hB hx.size) ((hs p hpm).lr.below hx))
      have HL := Lib.hid (sel_le ms bs k)
      generalize hS : sel ms (bs.take k) = S at HO HS HL ⊢
      clear hS
      cases hmi : (!ms.any (miss p.ls)) with
      | true =>
        have hS1 : sel ms (bs.take (k + 1)) = S ++ [p] := by rw [HS.out, show ok ms p = true from hmi]; rfl
        have HS1 := Lib.hid hS1
        rw [hmi] at HC
        clear hS1 hmi
        go_wp2_with fail
        refine (HC.out _ ((HW.out.mono hB).alloc (Nat.le_trans hB HW.out.size) _)).mono ?_
        rintro e w1 ⟨rfl, hb1⟩
        obtain ⟨hc1, hf1⟩ := bcell hb1
        have HB := Lib.hid hb1
        clear hb1
        go_wp2_with (at_builtin; refine wpList_append_own _ rfl _ _ 22 rfl w.heap.size 98 i0 (.agg #[.slice none 0 0, .slice none 0 0]) 2 48 Tryz.underlying22 hi hz0 hz1 hz2 rfl (by decide) _ _ _ rfl ((own_below (HO.out.alloc _) HB.out).alloc _) ⟨w1.heap.size, 0, none⟩ 1 1 [.slice p.la p.ls.length p.lc, .slice p.sa p.ss.length p.sc] rfl rfl (cells_new _ _ _) (by intro u hu; simp at hu; rcases hu with rfl | rfl <;> rfl) (by have := HL.out; unfold maxLen; omega) (by have := HL.out; omega) (by have := HW.out.size; have := HB.out.size; simp at this ⊢; omega) (fun v' w3 hown' hgrow hiff => ?_))
        go_roundw
        case rel =>
          obtain ⟨g, cap, hv, _, _⟩ := hown'.form (by omega)
          refine ⟨k + 1, some ⟨g, 0, none⟩, cap, by omega, by go_num, by rw [HS1.out, hv]; simp, Lib.hid ?_, Lib.hid ?_⟩
          · rw [HS1.out, List.length_append, srL_append]; exact hown'
          · exact ((((HW.out.alloc HW.out.size _).trans (HB.out.mono (by have := HW.out.size; simp; omega))).alloc (by have := HW.out.size; have := HB.out.size; simp at this ⊢; omega) _).grown hgrow (by have := HW.out.size; have := HB.out.size; simp at this ⊢; omega) (fun q hq => (HO.out.lt q hq).1))
        case measure => simp [intOf]; omega
      | false =>
        have hS1 : sel ms (bs.take (k + 1)) = S := by rw [HS.out, show ok ms p = false from hmi]; simp
        have HS1 := Lib.hid hS1
        rw [hmi] at HC
        clear hS1 hmi
        go_wp2_with fail
        refine (HC.out _ ((HW.out.mono hB).alloc (Nat.le_trans hB HW.out.size) _)).mono ?_
        rintro e w1 ⟨rfl, hb1⟩
        have HB := Lib.hid hb1
        clear hb1
        go_wp2
        go_roundw
        case rel =>
          refine ⟨k + 1, ao, cv, by omega, by go_num, by rw [HS1.out], Lib.hid ?_, Lib.hid ?_⟩
          · rw [HS1.out]; exact own_below (HO.out.alloc _) HB.out
          · exact (HW.out.alloc HW.out.size _).trans (HB.out.mono (by have := HW.out.size; simp; omega))
        case measure => simp [intOf]; omega
    · have : k = bs.length := by omega
      subst this
      rw [List.take_length] at HO
      rw [List.take_length]
      go_wp2
      go_ret
      exact ⟨ao, cv, rfl, HO.out, HW.out⟩
end Go.Proofs
namespace Go.Proofs
open Go.RowKit
theorem below_drewN {B : Nat} {a w : World} (h : Below B a w) (n : Nat) : Below B a (w.drewN n) := ⟨h.os, h.tape, h.output, h.size, h.block⟩
set_option maxHeartbeats 400000 in
theorem refMatches_any (Am : Option Addr) (cm : Nat) (ms : List Mt) (A : Option Addr) (c : Nat) (l : List Lb) (B : Nat) (w : World) (hms : ms.length ≤ maxLen) (hm : Rd w B Am (mtL ms)) (hn : l.length ≤ maxLen) (hB : B ≤ w.heap.size) (h : Rd w B A (lbV l)) :
    Calls Tryz.prog 65 #[.slice A l.length c, .slice Am ms.length cm] w (boolPost (!ms.any (miss l)) w) := by
  unfold maxLen at hms
  go_enter Tryz.func65, Tryz.ntmps65
  go_wp2
  go_loopw [5] (fun i wr => ∃ k : Nat, k ≤ ms.length ∧ i = .int .i64 k ∧ Hid ((ms.drop k).any (miss l) = ms.any (miss l)) ∧ Hid (Below w.heap.size w wr)) (fun i _ => ms.length - (intOf i).toNat)
  case atStart => exact ⟨0, Nat.zero_le _, rfl, Lib.hid rfl, Lib.hid (.refl _ _)⟩
  case round =>
    obtain ⟨k, hk, rfl, HG, HW⟩ := hrel
    by_cases hlt : k < ms.length
    · obtain ⟨p, hp'⟩ : ∃ p, ms[k]? = some p := ⟨ms[k], by simp [hlt]⟩
      obtain ⟨ad, rfl, hlb, h1, h2, h3⟩ := (hm.below (HW.out.mono hB)).mt hp'
      have HP := Lib.hid hp'
      clear hp'
      have HC := Lib.hid (refGet_any A c l p.1 B wr hn (h.below (HW.out.mono hB)))
      cases hmi : miss l p with
      | true =>
        have hr : ms.any (miss l) = true := by rw [← HG.out, any_drop HP.out, hmi]; rfl
        have HR := Lib.hid hr
        have hq : (((getF l p.1).1.toList == p.2.1.toList) == p.2.2) = true := hmi
        clear hr hmi
        go_wp2_with fail
        refine HC.out.mono ?_
        rintro e w1 ⟨rfl, rfl⟩
        go_wp2
        go_quiet (fail)
        go_wp2
        go_ret
        exact ⟨by rw [HR.out]; rfl, below_drewN HW.out nq⟩
      | false =>
        have hr : (ms.drop (k + 1)).any (miss l) = ms.any (miss l) := by rw [← HG.out, any_drop HP.out, hmi]; rfl
        have HR := Lib.hid hr
        have hq : (((getF l p.1).1.toList == p.2.1.toList) == p.2.2) = false := hmi
        clear hr hmi
        go_wp2_with fail
        refine HC.out.mono ?_
        rintro e w1 ⟨rfl, rfl⟩
        go_wp2
        go_quiet (fail)
        go_wp2
        go_roundw
        case rel => exact ⟨k + 1, by omega, by go_num, HR, Lib.hid (below_drewN HW.out nq)⟩
        case measure => simp [intOf]; omega
    · go_wp2
      go_ret
      have : k = ms.length := by omega
      subst this
      exact ⟨by rw [← HG.out, List.drop_length]; rfl, HW.out⟩
end Go.Proofs
namespace Go.Proofs
open Go.RowKit
def numsK (ms : List Mt) (bs : List Sr) (k : Nat) : List Nat := (List.range k).filter fun i => (bs[i]?).any (ok ms)
theorem nums_succ {bs : List Sr} {k : Nat} {p : Sr} (hp : bs[k]? = some p) (ms : List Mt) : numsK ms bs (k + 1) = numsK ms bs k ++ if ok ms p then [k] else [] := by
  unfold numsK
  rw [List.range_succ, List.filter_append]
  congr 1
  cases ho : ok ms p <;> simp [hp, ho]
theorem nums_le (ms : List Mt) (bs : List Sr) (k : Nat) : (numsK ms bs k).length ≤ k := Nat.le_trans (List.length_filter_le _ _) (by simp)
theorem nums_lt {ms : List Mt} {bs : List Sr} {k j : Nat} (h : j ∈ numsK ms bs k) : ∃ p, bs[j]? = some p := by
  unfold numsK at h
  rw [List.mem_filter] at h
  cases hb : bs[j]? with
  | none => rw [hb] at h; simp at h
  | some p => exact ⟨p, rfl⟩
def psF (bs : List Sr) (l : List Nat) : List Sr := l.filterMap fun i => bs[i]?
theorem ps_nums (ms : List Mt) (bs : List Sr) : ∀ k, k ≤ bs.length → psF bs (numsK ms bs k) = sel ms (bs.take k)
  | 0, _ => rfl
  | k + 1, hk => by
    have hp : bs[k]? = some bs[k] := by simp
    rw [nums_succ hp, sel_take hp, ← ps_nums ms bs k (by omega)]
    unfold psF
    rw [List.filterMap_append]
    congr 1
    cases ho : ok ms bs[k] <;> simp [hp]
def intsV (l : List Nat) : List Value := l.map fun (n : Nat) => .int .i64 (n : Int)
def numsPost (l : List Nat) (w : World) (e : Ending) (w' : World) : Prop := ∃ ao cv, e = .returned (.slice ao l.length cv) ∧ w'.ownsRow w.heap.size 3 1 (.slice ao l.length cv) l.length (intsV l) ∧ Below w.heap.size w w'
set_option maxHeartbeats 400000 in
theorem numbers_any (Ab : Option Addr) (cb : Nat) (bs : List Sr) (Am : Option Addr) (cm : Nat) (ms : List Mt) (B : Nat) (w : World) (hbl : bs.length ≤ 300) (hb : Rd w B Ab (srL bs)) (hs : ∀ s ∈ bs, SrOk w B s) (hms : ms.length ≤ maxLen) (hm : Rd w B Am (mtL ms)) (hB : B ≤ w.heap.size) :
    Calls Tryz.prog 26 #[.slice Ab bs.length cb, .slice Am ms.length cm] w (numsPost (numsK ms bs bs.length) w) := by
  obtain ⟨i0, hi, hz0, hz1, hz2⟩ := info_parts (P := Tryz.prog) (e := 3) (z := .int .i64 0) (size := 1) (bytes := 8) (by kernel_rfl)
  go_enter Tryz.func26, Tryz.ntmps26
  go_wp2
  go_loopw [5, 6] (fun v i wr => ∃ (k : Nat) (ao : Option Addr) (cv : Nat), k ≤ bs.length ∧ i = .int .i64 k ∧ v = .slice ao (numsK ms bs k).length cv ∧ Hid (wr.ownsRow w.heap.size 3 1 v (numsK ms bs k).length (intsV (numsK ms bs k))) ∧ Hid (Below w.heap.size w wr)) (fun _ i _ => bs.length - (intOf i).toNat)
  case atStart => exact ⟨0, none, 0, Nat.zero_le _, rfl, rfl, Lib.hid (World.ownsRow_nil _ _ _ _), Lib.hid (.refl _ _)⟩
  case round =>
    obtain ⟨k, ao, cv, hk, rfl, rfl, HO, HW⟩ := hrel
    by_cases hlt : k < bs.length
    · obtain ⟨p, hp'⟩ : ∃ p, bs[k]? = some p := ⟨bs[k], by simp [hlt]⟩
      have hpm : p ∈ bs := List.mem_of_getElem? hp'
      obtain ⟨ad, rfl, hlb, h1, h2⟩ := (hb.below (HW.out.mono hB)).sr hp'
      have HS := Lib.hid (nums_succ hp' ms)
      clear hp'
      have HC := Lib.hid (fun wx hx => refMatches_any Am cm ms p.la p.lc p.ls B wx hms (hm.below (hx : Below B w wx)) (hs p hpm).ln (Nat.le_trans hB hx.size) ((hs p hpm).lr.below hx))
      have HL := Lib.hid (nums_le ms bs k)
      generalize hS : numsK ms bs k = S at HO HS HL ⊢
      clear hS
      cases hmi : (!ms.any (miss p.ls)) with
      | true =>
        have hS1 : numsK ms bs (k + 1) = S ++ [k] := by rw [HS.out, show ok ms p = true from hmi]; rfl
        have HS1 := Lib.hid hS1
        rw [hmi] at HC
        clear hS1 hmi
        go_wp2_with fail
        refine (HC.out _ (HW.out.mono hB)).mono ?_
        rintro e w1 ⟨rfl, hb1⟩
        have HB := Lib.hid hb1
        clear hb1
        go_wp2_with (at_builtin; refine wpList_append_own _ rfl _ _ 35 rfl w.heap.size 3 i0 (.int .i64 0) 1 8 Tryz.underlying35 hi hz0 hz1 hz2 rfl (by decide) _ _ _ rfl ((own_below HO.out HB.out).alloc _) ⟨w1.heap.size, 0, none⟩ 1 1 [.int .i64 (k : Int)] rfl rfl (cells_new _ _ _) (by intro u hu; simp at hu; subst hu; rfl) (by have := HL.out; unfold maxLen; omega) (by have := HL.out; omega) (by have := HW.out.size; have := HB.out.size; simp at this ⊢; omega) (fun v' w3 hown' hgrow hiff => ?_))
        go_roundw
        case rel =>
          obtain ⟨g, cap, hv, _, _⟩ := hown'.form (by omega)
          refine ⟨k + 1, some ⟨g, 0, none⟩, cap, by omega, by go_num, by rw [HS1.out, hv]; simp, Lib.hid ?_, Lib.hid ?_⟩
          · rw [HS1.out, List.length_append]; unfold intsV at hown' ⊢; rw [List.map_append]; exact hown'
          · exact (((HW.out.trans (HB.out.mono HW.out.size)).alloc (by have := HW.out.size; have := HB.out.size; omega) _).grown hgrow (by have := HW.out.size; have := HB.out.size; simp at this ⊢; omega) (fun q hq => (HO.out.lt q hq).1))
        case measure => simp [intOf]; omega
      | false =>
        have hS1 : numsK ms bs (k + 1) = S := by rw [HS.out, show ok ms p = false from hmi]; simp
        have HS1 := Lib.hid hS1
        rw [hmi] at HC
        clear hS1 hmi
        go_wp2_with fail
        refine (HC.out _ (HW.out.mono hB)).mono ?_
        rintro e w1 ⟨rfl, hb1⟩
        have HB := Lib.hid hb1
        clear hb1
        go_wp2
        go_roundw
        case rel =>
          refine ⟨k + 1, ao, cv, by omega, by go_num, by rw [HS1.out], Lib.hid ?_, Lib.hid ?_⟩
          · rw [HS1.out]; exact own_below HO.out HB.out
          · exact HW.out.trans (HB.out.mono HW.out.size)
        case measure => simp [intOf]; omega
    · have : k = bs.length := by omega
      subst this
      go_wp2
      go_ret
      exact ⟨ao, cv, rfl, HO.out, HW.out⟩
end Go.Proofs
