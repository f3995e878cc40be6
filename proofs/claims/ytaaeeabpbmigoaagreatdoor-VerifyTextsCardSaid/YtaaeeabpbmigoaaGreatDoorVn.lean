/- Words for what is read. -/
import Derived.Test.YtaaeeabpbmigoaaGreatDoorProg
import Derived.WalkKit
import Derived.WalkSpells
import Derived.WalkLawsBesides
import Derived.Lib.Hide
import Derived.Below
set_option linter.unusedVariables false
set_option linter.unusedSimpArgs false
/- Words for what is read. -/
namespace Go.Proofs
open Go.RowKit
theorem addAdd (a : Addr) (i j : Nat) : (a.add i).add j = a.add (i + j) := by
  unfold Addr.add
  by_cases hi : i = 0 <;> by_cases hj : j = 0 <;> simp [hi, hj, Nat.add_assoc]
theorem blockAdd (a : Addr) (n : Nat) : (a.add n).block = a.block := by unfold Addr.add; split <;> rfl
/-- The cells from A on, in blocks below B. -/
def Rd (w : World) (B : Nat) (A : Option Addr) (xs : List Value) : Prop := ∀ j u, xs[j]? = some u → ∃ ad, A = some ad ∧ ad.block < B ∧ w.cell? (ad.add j) = some u
theorem Rd.below {w w' : World} {B : Nat} {A : Option Addr} {xs : List Value} (h : Rd w B A xs) (hb : Below B w w') : Rd w' B A xs := fun j u hu => by
  obtain ⟨ad, e, hlt, hc⟩ := h j u hu
  exact ⟨ad, e, hlt, (hb.cell (by rw [blockAdd]; exact hlt)).trans hc⟩

theorem Rd.alloc {w : World} {B : Nat} {A : Option Addr} {xs : List Value} (h : Rd w B A xs) (hB : B ≤ w.heap.size) (o : Obj) : Rd (w.alloc o) B A xs := h.below ((Below.refl B w).alloc hB o)
theorem bcell {W w1 : World} (hb : Below W.heap.size W w1) : (∀ b o, b < W.heap.size → w1.cell? ⟨b, o, none⟩ = W.cell? ⟨b, o, none⟩) ∧ (∀ b o, b < W.heap.size → w1.frozen? ⟨b, o, none⟩ = W.frozen? ⟨b, o, none⟩) :=
  ⟨fun b o h => hb.cell (p := ⟨b, o, none⟩) h, fun b o h => hb.frozen (p := ⟨b, o, none⟩) h⟩
abbrev Lb := ByteArray × ByteArray
def lbV (l : List Lb) : List Value := l.flatMap fun p => [.string p.1, .string p.2]
theorem lbV_at : ∀ (l : List Lb) (k : Nat) (p : Lb), l[k]? = some p → (lbV l)[k * 2]? = some (.string p.1) ∧ (lbV l)[k * 2 + 1]? = some (.string p.2)
  | [], k, p, h => by simp at h
  | q :: l, 0, p, h => by
    simp at h; subst h
    exact ⟨rfl, rfl⟩
  | q :: l, k + 1, p, h => by
    rw [List.getElem?_cons_succ] at h
    have ih := lbV_at l k p h
    have e : lbV (q :: l) = .string q.1 :: .string q.2 :: lbV l := rfl
    rw [e, show (k + 1) * 2 = k * 2 + 1 + 1 by omega, show k * 2 + 1 + 1 + 1 = (k * 2 + 1) + 1 + 1 by omega]
    simp only [List.getElem?_cons_succ]
    exact ih
theorem addF (a : Addr) (i j : Nat) (hj : j ≠ 0) : (⟨(a.add i).block, (a.add i).off + j, none⟩ : Addr) = a.add (i + j) := by
  unfold Addr.add
  by_cases hi : i = 0
  · subst hi; simp [hj]
  · simp [hi, hj, Nat.add_assoc]
theorem Rd.lb {w : World} {B : Nat} {A : Option Addr} {l : List Lb} (h : Rd w B A (lbV l)) {k : Nat} {p : Lb} (hp : l[k]? = some p) :
    ∃ ad, A = some ad ∧ ad.block < B ∧ w.cell? (ad.add (k * 2)) = some (.string p.1) ∧ w.cell? ⟨(ad.add (k * 2)).block, (ad.add (k * 2)).off + 1, none⟩ = some (.string p.2) := by
  obtain ⟨h1, h2⟩ := lbV_at l k p hp
  obtain ⟨ad, e, hlt, hc⟩ := h _ _ h1
  obtain ⟨ad', e', _, hc'⟩ := h _ _ h2
  rw [e] at e'; cases e'
  exact ⟨ad, e, hlt, hc, by rw [addF _ _ _ (by decide)]; exact hc'⟩

def getF : List Lb → ByteArray → ByteArray × Bool
  | [], _ => (.empty, false)
  | p :: l, nm => if (p.1.toList == nm.toList) = true then (p.2, true) else getF l nm
def getPost (l : List Lb) (nm : ByteArray) (w : World) (e : Ending) (w' : World) : Prop := e = .returned (.tuple #[.string (getF l nm).1, .bool (getF l nm).2]) ∧ w = w'
theorem getF_drop {l : List Lb} {k : Nat} {p : Lb} (hp : l[k]? = some p) (nm : ByteArray) : getF (l.drop k) nm = if (p.1.toList == nm.toList) = true then (p.2, true) else getF (l.drop (k + 1)) nm := by
  have hk : k < l.length := (List.getElem?_eq_some_iff.1 hp).1
  have he : l[k] = p := (List.getElem?_eq_some_iff.1 hp).2
  rw [List.drop_eq_getElem_cons hk, he]; rfl
end Go.Proofs
namespace Go.Proofs
open Go.RowKit
set_option maxHeartbeats 400000 in
theorem refGet_any (A : Option Addr) (c : Nat) (l : List Lb) (nm : ByteArray) (B : Nat) (w : World) (hn : l.length ≤ maxLen) (h : Rd w B A (lbV l)) :
    Calls Tryz.prog 73 #[.slice A l.length c, .string nm] w (getPost l nm w) := by
  unfold maxLen at hn
  go_enter Tryz.func73, Tryz.ntmps73
  go_wp2
  go_loop [6] (fun i => ∃ k : Nat, k ≤ l.length ∧ i = .int .i64 k ∧ getF (l.drop k) nm = getF l nm) (fun i => l.length - (intOf i).toNat)
  case atStart => exact ⟨0, Nat.zero_le _, rfl, rfl⟩
  case round =>
    obtain ⟨k, hk, rfl, hg⟩ := hrel
    have HG := Lib.hid hg
    clear hg
    by_cases hlt : k < l.length
    · obtain ⟨p, hp⟩ : ∃ p, l[k]? = some p := ⟨l[k], by simp [hlt]⟩
      obtain ⟨ad, rfl, _, h1, h2⟩ := h.lb hp
      have HP := Lib.hid hp
      clear hp
      cases he : (p.1.toList == nm.toList) with
      | true =>
        have hr : getF l nm = (p.2, true) := by rw [← HG.out, getF_drop HP.out, if_pos he]
        have HR := Lib.hid hr
        clear hr
        go_wp2
        go_ret2
        exact ⟨by rw [HR.out]; rfl, rfl⟩
      | false =>
        have hr : getF (l.drop (k + 1)) nm = getF l nm := by rw [← HG.out, getF_drop HP.out, if_neg (by rw [he]; simp)]
        have HR := Lib.hid hr
        clear hr
        go_wp2
        go_round
        case rel => exact ⟨k + 1, by omega, by go_num, HR.out⟩
        case measure => simp [intOf]; omega
    · go_wp2
      go_ret2
      have : k = l.length := by omega
      subst this
      exact ⟨by rw [← HG.out, List.drop_length]; rfl, rfl⟩
end Go.Proofs
namespace Go.Proofs
open Go.RowKit
def getPostB (l : List Lb) (nm : ByteArray) (w : World) (e : Ending) (w' : World) : Prop := e = .returned (.tuple #[.string (getF l nm).1, .bool (getF l nm).2]) ∧ Below w.heap.size w w'
set_option maxHeartbeats 400000 in
theorem get_any (A : Option Addr) (c : Nat) (l : List Lb) (nm : ByteArray) (B : Nat) (w : World) (hn : l.length ≤ maxLen) (hB : B ≤ w.heap.size) (h : Rd w B A (lbV l)) :
    Calls Tryz.prog 95 #[.slice A l.length c, .string nm] w (getPostB l nm w) := by
  unfold maxLen at hn
  go_enter Tryz.func95, Tryz.ntmps95
  go_wp2
  go_loopw [10] (fun i wr => ∃ k : Nat, k ≤ l.length ∧ i = .int .i64 k ∧ Hid (getF (l.drop k) nm = getF l nm) ∧ Hid (Below w.heap.size w wr)) (fun i _ => l.length - (intOf i).toNat)
  case atStart => exact ⟨0, Nat.zero_le _, rfl, Lib.hid rfl, Lib.hid (.refl _ _)⟩
  case round =>
    obtain ⟨k, hk, rfl, HG, HW⟩ := hrel
    by_cases hlt : k < l.length
    · obtain ⟨p, hp⟩ : ∃ p, l[k]? = some p := ⟨l[k], by simp [hlt]⟩
      obtain ⟨ad, rfl, hlb, h1, h2⟩ := (h.below (HW.out.mono hB)).lb hp
      have HP := Lib.hid hp
      clear hp
      cases he : (p.1.toList == nm.toList) with
      | true =>
        have hr : getF l nm = (p.2, true) := by rw [← HG.out, getF_drop HP.out, if_pos he]
        have HR := Lib.hid hr
        clear hr
        go_wp2
        go_ret2
        exact ⟨by rw [HR.out]; rfl, HW.out.alloc HW.out.size _⟩
      | false =>
        have hr : getF (l.drop (k + 1)) nm = getF l nm := by rw [← HG.out, getF_drop HP.out, if_neg (by rw [he]; simp)]
        have HR := Lib.hid hr
        clear hr
        go_wp2
        go_roundw
        case rel => exact ⟨k + 1, by omega, by go_num, HR, Lib.hid (HW.out.alloc HW.out.size _)⟩
        case measure => simp [intOf]; omega
    · go_wp2
      go_ret2
      have : k = l.length := by omega
      subst this
      exact ⟨by rw [← HG.out, List.drop_length]; rfl, HW.out⟩
end Go.Proofs
namespace Go.Proofs
open Go.RowKit
abbrev Mt := ByteArray × ByteArray × Bool
def mtV (x : Mt) : Value := .agg #[.string x.1, .string x.2.1, .bool x.2.2]
/-- The matcher is not fulfilled. -/
def miss (l : List Lb) (x : Mt) : Bool := ((getF l x.1).1.toList == x.2.1.toList) == x.2.2
def boolPost (b : Bool) (w : World) (e : Ending) (w' : World) : Prop := e = .returned (.bool b) ∧ Below w.heap.size w w'
set_option maxHeartbeats 400000 in
theorem miss_any (A : Option Addr) (c : Nat) (l : List Lb) (x : Mt) (pa : Addr) (B : Nat) (w : World) (hn : l.length ≤ maxLen) (hB : B ≤ w.heap.size) (h : Rd w B A (lbV l)) (hp : w.cell? pa = some (.slice A l.length c)) (hpb : pa.block < w.heap.size) :
    Calls Tryz.prog 94 #[mtV x, .pointer (some pa)] w (boolPost (miss l x) w) := by
  obtain ⟨nm, val, d⟩ := x
  unfold mtV
  go_enter Tryz.func94, Tryz.ntmps94
  go_wp2_with fail
  refine (get_any A c l nm B _ hn (by simp; omega) (h.alloc hB _)).mono ?_
  rintro e w1 ⟨rfl, hb⟩
  obtain ⟨hc, hf⟩ := bcell hb
  go_wp2
  go_ret
  exact ⟨rfl, ((Below.refl _ w).alloc (Nat.le_refl _) _).trans (hb.mono (by simp))⟩
end Go.Proofs
