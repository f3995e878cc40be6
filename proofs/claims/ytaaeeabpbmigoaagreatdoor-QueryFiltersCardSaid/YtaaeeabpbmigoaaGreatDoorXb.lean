/- Contracts: numbers, the reference's filter, order. -/
import Derived.Test.YtaaeeabpbmigoaaGreatDoorXa
import Derived.Deep.Onto
set_option linter.unusedVariables false
set_option linter.unusedSimpArgs false
namespace Go.Proofs
open Go.RowKit
theorem Rd.of_own {w : World} {b : Nat} {e : TypeId} {s : Nat} {A : Option Addr} {n c : Nat} {xs : List Value} (h : w.ownsRow b e s (.slice A n c) n xs) : Rd w w.heap.size A xs := by
  intro j u hu
  have hj : j < xs.length := (List.getElem?_eq_some_iff.1 hu).1
  have hn : 0 < n := by
    rcases Nat.eq_zero_or_pos n with h0 | h0
    · have := h.1; subst h0; omega
    · exact h0
  obtain ⟨g, cap, hv, _, hlt⟩ := h.form hn
  have hA : A = some ⟨g, 0, none⟩ := by injection hv
  subst hA
  exact ⟨_, rfl, hlt, h.cells (g := g) rfl j u hu⟩
theorem intsV_at {l : List Nat} {i j : Nat} (h : l[i]? = some j) : (intsV l)[i]? = some (.int .i64 (j : Int)) := by
  unfold intsV; rw [List.getElem?_map, h]; rfl
theorem ps_take {bs : List Sr} {L : List Nat} {i j : Nat} {p : Sr} (hi : L[i]? = some j) (hj : bs[j]? = some p) : psF bs (L.take (i + 1)) = psF bs (L.take i) ++ [p] := by
  have hk : i < L.length := (List.getElem?_eq_some_iff.1 hi).1
  have he : L[i] = j := (List.getElem?_eq_some_iff.1 hi).2
  unfold psF
  rw [List.take_succ_eq_append_getElem hk, he, List.filterMap_append]
  congr 1
  simp [hj]
theorem ps_le (bs : List Sr) (L : List Nat) (i : Nat) : (psF bs (L.take i)).length ≤ L.length := Nat.le_trans (List.length_filterMap_le _ _) (by rw [List.length_take]; omega)
set_option maxHeartbeats 400000 in
theorem refFilter_any (Ab : Option Addr) (cb : Nat) (bs : List Sr) (Am : Option Addr) (cm : Nat) (ms : List Mt) (B : Nat) (w : World) (hbl : bs.length ≤ 300) (hb : Rd w B Ab (srL bs)) (hs : ∀ s ∈ bs, SrOk w B s) (hms : ms.length ≤ maxLen) (hm : Rd w B Am (mtL ms)) (hB : B ≤ w.heap.size) :
    Calls Tryz.prog 20 #[.slice Ab bs.length cb, .slice Am ms.length cm] w (filtPost (sel ms bs) w) := by
  obtain ⟨i0, hi, hz0, hz1, hz2⟩ := info_parts (P := Tryz.prog) (e := 98) (z := .agg #[.slice none 0 0, .slice none 0 0]) (size := 2) (bytes := 48) (by kernel_rfl)
  have HN := Lib.hid (numbers_any Ab cb bs Am cm ms B w hbl hb hs hms hm hB)
  go_enter Tryz.func20, Tryz.ntmps20
  go_wp2_with fail
  refine HN.out.mono ?_
  rintro e w1 ⟨Al, cl, rfl, hown, hb1⟩
  have HLL := Lib.hid (nums_le ms bs bs.length)
  have HLt := Lib.hid (fun j (h : j ∈ numsK ms bs bs.length) => nums_lt h)
  have HP := Lib.hid (ps_nums ms bs bs.length (Nat.le_refl _))
  have HR := Lib.hid (Rd.of_own hown)
  have HB := Lib.hid hb1
  clear hown hb1
  generalize hL : numsK ms bs bs.length = L at HLL HLt HP HR ⊢
  clear hL
  have hLL := HLL.out
  go_wp2
  go_loopw [5, 7] (fun v i wr => ∃ (k : Nat) (ao : Option Addr) (cv : Nat), k ≤ L.length ∧ i = .int .i64 k ∧ v = .slice ao (psF bs (L.take k)).length cv ∧ Hid (wr.ownsRow w1.heap.size 98 2 v (psF bs (L.take k)).length (srL (psF bs (L.take k)))) ∧ Hid (Below w1.heap.size w1 wr)) (fun _ i _ => L.length - (intOf i).toNat)
  case atStart => exact ⟨0, none, 0, Nat.zero_le _, rfl, rfl, Lib.hid (World.ownsRow_nil _ _ _ _), Lib.hid (.refl _ _)⟩
  case round =>
    obtain ⟨k, ao, cv, hk, rfl, rfl, HO, HW⟩ := hrel
    by_cases hlt : k < L.length
    · obtain ⟨j, hj⟩ : ∃ j, L[k]? = some j := ⟨L[k], by simp [hlt]⟩
      obtain ⟨p, hp⟩ := HLt.out j (List.mem_of_getElem? hj)
      have hjl : j < bs.length := (List.getElem?_eq_some_iff.1 hp).1
      have HS := Lib.hid (ps_take hj hp)
      have HL := Lib.hid (ps_le bs L k)
      obtain ⟨al, rfl, _, h0⟩ := (HR.out.below HW.out) _ _ (intsV_at hj)
      obtain ⟨ad, rfl, hlb, h1, h2⟩ := (hb.below ((HB.out.mono hB).trans (HW.out.mono (Nat.le_trans hB HB.out.size)))).sr hp
      clear hj hp
      generalize hS : psF bs (L.take k) = S at HO HS HL ⊢
      clear hS
      go_wp2_with (at_builtin; refine wpList_append_own _ rfl _ _ 22 rfl w1.heap.size 98 i0 (.agg #[.slice none 0 0, .slice none 0 0]) 2 48 Tryz.underlying22 hi hz0 hz1 hz2 rfl (by decide) _ _ _ rfl (HO.out.alloc _) ⟨wr.heap.size, 0, none⟩ 1 1 [.slice p.la p.ls.length p.lc, .slice p.sa p.ss.length p.sc] rfl rfl (cells_new _ _ _) (by intro u hu; simp at hu; rcases hu with rfl | rfl <;> rfl) (by have := HL.out; unfold maxLen; omega) (by have := HL.out; omega) (by have := HW.out.size; simp at this ⊢; omega) (fun v' w3 hown' hgrow hiff => ?_))
      go_roundw
      case rel =>
        obtain ⟨g, cap, hv, _, _⟩ := hown'.form (by omega)
        refine ⟨k + 1, some ⟨g, 0, none⟩, cap, by omega, by go_num, by rw [HS.out, hv]; simp, Lib.hid ?_, Lib.hid ?_⟩
        · rw [HS.out, List.length_append, srL_append]; exact hown'
        · exact ((HW.out.alloc HW.out.size _).grown hgrow (by have := HW.out.size; simp at this ⊢; omega) (fun q hq => (HO.out.lt q hq).1))
      case measure => simp [intOf]; omega
    · have hkL : k = L.length := by omega
      have hfin : psF bs (L.take k) = sel ms bs := by rw [hkL, List.take_length, HP.out, List.take_length]
      rw [hfin] at HO ⊢
      have HF := Lib.hid hkL
      clear hkL hfin
      go_wp2
      go_ret
      exact ⟨ao, cv, rfl, HO.out.mono HB.out.size, HB.out.trans (HW.out.mono HB.out.size)⟩
end Go.Proofs
namespace Go.Proofs
open Go.RowKit
theorem less_irrefl : ∀ l : List UInt8, Op.bytesLess l l = false
  | [] => rfl
  | a :: l => by
    have h : Op.bytesLess (a :: l) (a :: l) = (decide (a < a) || (a == a && Op.bytesLess l l)) := rfl
    rw [h, less_irrefl l]; simp
set_option maxHeartbeats 400000 in
theorem order_same (s : ByteArray) (w : World) : Calls Tryz.prog 96 #[.string s, .string s] w fun e w' => e = .returned (.int .i64 0) ∧ w' = w := by
  have h := less_irrefl s.toList
  go_enter Tryz.func96, Tryz.ntmps96
  go_wp2
  go_ret
  exact ⟨rfl, rfl⟩
theorem quiet_more {P : Program} {f : FuncId} {args : Array Value} {w : World} {a n : Nat} {v : Value} (h : Calls P f args (w.drewN (a + n)) fun e w' => e = .returned v ∧ w' = w.drewN (a + n)) :
    Calls P f args (w.drewN (a + n)) fun e w'' => e = .returned v ∧ ∃ m, w'' = w.drewN (a + m) :=
  h.mono fun _ _ ⟨he, hm⟩ => ⟨he, n, hm⟩
def quietPost (v : Value) (w : World) (e : Ending) (w' : World) : Prop := e = .returned v ∧ ∃ m, w' = w.drewN m
set_option maxHeartbeats 400000 in
theorem compare_same (A A' : Option Addr) (c c' : Nat) (l : List Lb) (B B' : Nat) (w : World) (hn : l.length ≤ maxLen) (h : Rd w B A (lbV l)) (h' : Rd w B' A' (lbV l)) :
    Calls Tryz.prog 56 #[.slice A l.length c, .slice A' l.length c'] w (quietPost (.int .i64 0) w) := by
  unfold maxLen at hn
  go_enter Tryz.func56, Tryz.ntmps56
  go_wp2
  go_loopw [5] (fun i wr => ∃ k m : Nat, k ≤ l.length ∧ i = .int .i64 k ∧ wr = w.drewN m) (fun i _ => l.length - (intOf i).toNat)
  case atStart => exact ⟨0, 0, Nat.zero_le _, rfl, rfl⟩
  case round =>
    obtain ⟨k, m, hk, rfl, rfl⟩ := hrel
    by_cases hlt : k < l.length
    · obtain ⟨p, hp⟩ : ∃ p, l[k]? = some p := ⟨l[k], by simp [hlt]⟩
      obtain ⟨ad, rfl, _, h1, h2⟩ := h.lb hp
      obtain ⟨ad', rfl, _, h1', h2'⟩ := h'.lb hp
      clear hp
      go_wp2
      go_quiet ((go_at_call 96; exact quiet_more (order_same _ _)))
      go_wp2
      go_quiet ((go_at_call 96; exact quiet_more (order_same _ _)))
      go_wp2
      go_roundw
      case rel => exact ⟨k + 1, _, by omega, by go_num, rfl⟩
      case measure => simp [intOf]; omega
    · go_wp2
      go_ret
      exact ⟨rfl, m, rfl⟩
end Go.Proofs
namespace Go.Proofs
open Go.RowKit
theorem smV_at : ∀ (l : List (Int × Int)) (k : Nat) (p : Int × Int), l[k]? = some p → (smV l)[k * 2]? = some (.int .i64 p.1) ∧ (smV l)[k * 2 + 1]? = some (.int .u64 p.2)
  | [], k, p, h => by simp at h
  | q :: l, 0, p, h => by
    simp at h; subst h
    exact ⟨rfl, rfl⟩
  | q :: l, k + 1, p, h => by
    rw [List.getElem?_cons_succ] at h
    have ih := smV_at l k p h
    have e : smV (q :: l) = .int .i64 q.1 :: .int .u64 q.2 :: smV l := rfl
    rw [e, show (k + 1) * 2 = k * 2 + 1 + 1 by omega, show k * 2 + 1 + 1 + 1 = (k * 2 + 1) + 1 + 1 by omega]
    simp only [List.getElem?_cons_succ]
    exact ih
theorem Rd.sm {w : World} {B : Nat} {A : Option Addr} {l : List (Int × Int)} (h : Rd w B A (smV l)) {k : Nat} {p : Int × Int} (hp : l[k]? = some p) :
    ∃ ad, A = some ad ∧ ad.block < B ∧ w.cell? (ad.add (k * 2)) = some (.int .i64 p.1) ∧ w.cell? ⟨(ad.add (k * 2)).block, (ad.add (k * 2)).off + 1, none⟩ = some (.int .u64 p.2) := by
  obtain ⟨h1, h2⟩ := smV_at l k p hp
  obtain ⟨ad, e, hlt, hc⟩ := h _ _ h1
  obtain ⟨ad', e', _, hc'⟩ := h _ _ h2
  rw [e] at e'; cases e'
  exact ⟨ad, e, hlt, hc, by rw [addF _ _ _ (by decide)]; exact hc'⟩
set_option maxHeartbeats 400000 in
theorem same_any (A A' : Option Addr) (c c' : Nat) (l : List (Int × Int)) (B B' : Nat) (w : World) (hn : l.length ≤ maxLen) (h : Rd w B A (smV l)) (h' : Rd w B' A' (smV l)) :
    Calls Tryz.prog 53 #[.slice A l.length c, .slice A' l.length c'] w (quietPost (.bool true) w) := by
  unfold maxLen at hn
  go_enter Tryz.func53, Tryz.ntmps53
  go_wp2
  go_loopw [5] (fun i wr => ∃ k m : Nat, k ≤ l.length ∧ i = .int .i64 k ∧ wr = w.drewN m) (fun i _ => l.length - (intOf i).toNat)
  case atStart => exact ⟨0, 0, Nat.zero_le _, rfl, rfl⟩
  case round =>
    obtain ⟨k, m, hk, rfl, rfl⟩ := hrel
    by_cases hlt : k < l.length
    · obtain ⟨p, hp⟩ : ∃ p, l[k]? = some p := ⟨l[k], by simp [hlt]⟩
      obtain ⟨ad, rfl, _, h1, h2⟩ := h.sm hp
      obtain ⟨ad', rfl, _, h1', h2'⟩ := h'.sm hp
      clear hp
      go_wp2
      go_quiet (fail)
      go_wp2
      go_roundw
      case rel => exact ⟨k + 1, _, by omega, by go_num, rfl⟩
      case measure => simp [intOf]; omega
    · go_wp2
      go_ret
      exact ⟨rfl, m, rfl⟩
end Go.Proofs
namespace Go.Proofs
open Go.RowKit
theorem quiet_post {P : Program} {f : FuncId} {args : Array Value} {w : World} {a n : Nat} {v : Value} (h : Calls P f args (w.drewN (a + n)) (quietPost v (w.drewN (a + n)))) :
    Calls P f args (w.drewN (a + n)) fun e w'' => e = .returned v ∧ ∃ m, w'' = w.drewN (a + m) :=
  h.mono fun _ _ ⟨he, m, hm⟩ => ⟨he, n + m, by rw [hm, World.drewN_drewN, Nat.add_assoc]⟩
set_option maxHeartbeats 1000000 in
theorem equal_same (A A' : Option Addr) (c c' : Nat) (bs : List Sr) (B B' D : Nat) (w : World) (hn : bs.length ≤ maxLen) (h : Rd w B A (srL bs)) (h' : Rd w B' A' (srL bs)) (hs : ∀ s ∈ bs, SrOk w D s) :
    Calls Tryz.prog 18 #[.slice A bs.length c, .slice A' bs.length c'] w (quietPost (.bool true) w) := by
  unfold maxLen at hn
  go_enter Tryz.func18, Tryz.ntmps18
  go_wp2
  go_loopw [5] (fun i wr => ∃ k m : Nat, k ≤ bs.length ∧ i = .int .i64 k ∧ wr = w.drewN m) (fun i _ => bs.length - (intOf i).toNat)
  case atStart => exact ⟨0, 0, Nat.zero_le _, rfl, rfl⟩
  case round =>
    obtain ⟨k, m, hk, rfl, rfl⟩ := hrel
    by_cases hlt : k < bs.length
    · obtain ⟨p, hp⟩ : ∃ p, bs[k]? = some p := ⟨bs[k], by simp [hlt]⟩
      have hpm : p ∈ bs := List.mem_of_getElem? hp
      obtain ⟨ad, rfl, _, h1, h2⟩ := h.sr hp
      obtain ⟨ad', rfl, _, h1', h2'⟩ := h'.sr hp
      clear hp
      have hk := hs p hpm
      have HC := Lib.hid (fun n => compare_same p.la p.la p.lc p.lc p.ls D D (w.drewN n) hk.ln hk.lr hk.lr)
      have HS := Lib.hid (fun n => same_any p.sa p.sa p.sc p.sc p.ss D D (w.drewN n) hk.sn hk.sr hk.sr)
      clear hk
      go_wp2
      go_quiet ((first | (go_at_call 56; exact quiet_post (HC.out _)) | (go_at_call 53; exact quiet_post (HS.out _))))
      go_wp2
      go_roundw
      case rel => exact ⟨k + 1, _, by omega, by go_num, rfl⟩
      case measure => simp [intOf]; omega
    · go_wp2
      go_ret
      exact ⟨rfl, m, rfl⟩
end Go.Proofs
namespace Go.Proofs
open Go.RowKit
def strV (l : List ByteArray) : List Value := l.map .string
theorem strV_at {l : List ByteArray} {i : Nat} {s : ByteArray} (h : l[i]? = some s) : (strV l)[i]? = some (.string s) := by
  unfold strV; rw [List.getElem?_map, h]; rfl
def anyInt (w : World) (e : Ending) (w' : World) : Prop := ∃ i : Int, e = .returned (.int .i64 i) ∧ w = w'
set_option maxHeartbeats 400000 in
theorem large10_any (A : Option Addr) (c : Nat) (l : List ByteArray) (B : Nat) (w : World) (hn : l.length ≤ maxLen) (h : Rd w B A (strV l)) :
    Calls Tryz.prog 91 #[.slice A l.length c] w (anyInt w) := by
  unfold maxLen at hn
  go_enter Tryz.func91, Tryz.ntmps91
  go_wp2
  go_loop [3, 8] (fun x i => ∃ (k : Nat) (n : Int), k ≤ l.length ∧ i = .int .i64 k ∧ x = .int .i64 n) (fun _ i => l.length - (intOf i).toNat)
  case atStart => exact ⟨0, 0, Nat.zero_le _, rfl, rfl⟩
  case round =>
    obtain ⟨k, n, hk, rfl, rfl⟩ := hrel
    by_cases hlt : k < l.length
    · obtain ⟨s, hs⟩ : ∃ s, l[k]? = some s := ⟨l[k], by simp [hlt]⟩
      obtain ⟨ad, rfl, _, h1⟩ := h _ _ (strV_at hs)
      clear hs
      go_wp2
      all_goals first
        | (go_ret; exact ⟨_, rfl, rfl⟩)
        | (go_round
           case rel => exact ⟨k + 1, _, by omega, by go_num, rfl⟩
           case measure => simp [intOf]; omega)
    · go_wp2
      go_ret
      exact ⟨0, rfl, rfl⟩
end Go.Proofs
