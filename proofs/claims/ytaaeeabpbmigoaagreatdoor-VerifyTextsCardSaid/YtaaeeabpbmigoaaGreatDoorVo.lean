/- Contracts: Itoa, Errno.Error, Word, Unwrap, Fault.Error. -/
import Derived.Test.YtaaeeabpbmigoaaGreatDoorVm
import Derived.Test.YtaaeeabpbmigoaaGreatDoorVn
import Derived.Lib.AppendIntMem
import Derived.Lib.ItoaLen
import Derived.Deep.QuietTactic
set_option linter.unusedVariables false
set_option linter.unusedSimpArgs false
/- Contracts of the texts of layer 20. -/
namespace Go.Proofs
open Go.RowKit
set_option linter.unusedVariables false
set_option maxRecDepth 100000
theorem tab_below {w w' : World} {nm : String} {k : IntKind} {zs : List Int} (h : Lib.TabIs Tryz.prog w nm k zs) (hb : Below w.heap.size w w') : Lib.TabIs Tryz.prog w' nm k zs := by
  unfold Lib.TabIs World.var? at h ⊢
  cases hg : Tryz.prog.globalNamed nm with
  | none => rw [hg] at h; cases h
  | some g =>
    rw [hg] at h
    simp only [Option.bind_some] at h ⊢
    by_cases hlt : g < w.heap.size
    · rw [hb.block g hlt]; exact h
    · rw [Array.getElem?_eq_none (by omega)] at h; cases h
def itoaB (n : Int) : ByteArray := ⟨(Lib.itoa n).toArray⟩
def strPost (s : ByteArray) (w : World) (e : Ending) (w' : World) : Prop := e = .returned (.string s) ∧ Below w.heap.size w w'
def inI64 (n : Int) : Prop := -9223372036854775808 ≤ n ∧ n ≤ 9223372036854775807
theorem itoaB_le (n : Int) (hn : inI64 n) : (itoaB n).size ≤ 21 := by
  have := Lib.itoa_length_le n hn.1 hn.2
  unfold itoaB ByteArray.size
  simpa using this
theorem itoa_any (n : Int) (hn : inI64 n) (w : World) (htab : Lib.TabIs Tryz.prog w "internal/strconv.uint64pow10" .u64 Lib.pow10Tab) : Calls Tryz.prog 40 #[.int .i64 n] w (strPost (itoaB n) w) :=
  (Tryz.strconv_Itoa n hn.1 hn.2 w htab).mono fun e w' ⟨he, k, os, hw⟩ => ⟨he, by rw [hw]; exact Lib.below_grow _ w (Nat.le_refl _) k os⟩
def errB : ByteArray := ⟨#[101, 114, 114, 111, 114, 32]⟩
theorem errno_any (n : Int) (hn : inI64 n) (w : World) (htab : Lib.TabIs Tryz.prog w "internal/strconv.uint64pow10" .u64 Lib.pow10Tab) : Calls Tryz.prog 79 #[.int .i64 n] w (strPost (errB ++ itoaB n) w) := by
  have HC := Lib.hid (itoa_any n hn w htab)
  clear htab
  go_enter Tryz.func79, Tryz.ntmps79
  go_wp2_with fail
  refine HC.out.mono ?_
  rintro e w1 ⟨rfl, hb⟩
  have hl := itoaB_le n hn
  go_wp2
  go_ret
  exact ⟨rfl, hb⟩
def wordB (c : Int) : ByteArray := bif c == 1 then ⟨#[116, 114, 117, 110, 99, 97, 116, 101, 100]⟩ else bif c == 2 then ⟨#[102, 114, 97, 109, 105, 110, 103]⟩ else bif c == 3 then ⟨#[99, 104, 101, 99, 107, 115, 117, 109]⟩ else bif c == 4 then ⟨#[99, 111, 110, 116, 101, 110, 116]⟩ else ⟨#[102, 105, 108, 101]⟩
theorem word_any (c : Int) (w : World) : Calls Tryz.prog 39 #[.int .i64 c] w (strPost (wordB c) w) := by
  go_enter Tryz.func39, Tryz.ntmps39
  go_wp2
  all_goals go_ret
  all_goals refine ⟨?_, Below.refl _ w⟩
  all_goals simp [wordB, *]
theorem unwrap_nil (w : World) : Calls Tryz.prog 37 #[.pointer none] w fun e w' => e = .returned .nilIface ∧ Below w.heap.size w w' := by
  go_enter Tryz.func37, Tryz.ntmps37
  go_wp2
  all_goals go_ret
  all_goals exact ⟨rfl, Below.refl _ w⟩
theorem unwrap_any (b : Nat) (n : Int) (w : World) (h : w.cell? ⟨b, 1, none⟩ = some (.int .i64 n)) : Calls Tryz.prog 37 #[.pointer (some ⟨b, 0, none⟩)] w fun e w' => e = .returned (.iface 40 (.int .i64 n)) ∧ Below w.heap.size w w' := by
  go_enter Tryz.func37, Tryz.ntmps37
  go_wp2
  all_goals go_ret
  all_goals exact ⟨rfl, Below.refl _ w⟩
theorem error_nil (w : World) : Calls Tryz.prog 38 #[.pointer none] w (strPost ⟨#[110, 111, 110, 101]⟩ w) := by
  go_enter Tryz.func38, Tryz.ntmps38
  go_wp2
  all_goals go_ret
  all_goals exact ⟨rfl, Below.refl _ w⟩
end Go.Proofs
/- Fault.Error. -/
namespace Go.Proofs
open Go.RowKit
set_option linter.unusedVariables false
set_option maxRecDepth 100000
def colB : ByteArray := ⟨#[58, 32]⟩
/-- The words of the classes lie in block 0. -/
structure Words (w : World) : Prop where
  c0 : w.cell? ⟨0, 0, none⟩ = some (.string ⟨#[102, 105, 108, 101]⟩)
  c1 : w.cell? ⟨0, 1, none⟩ = some (.string ⟨#[116, 114, 117, 110, 99, 97, 116, 101, 100]⟩)
  c2 : w.cell? ⟨0, 2, none⟩ = some (.string ⟨#[102, 114, 97, 109, 105, 110, 103]⟩)
  c3 : w.cell? ⟨0, 3, none⟩ = some (.string ⟨#[99, 104, 101, 99, 107, 115, 117, 109]⟩)
  c4 : w.cell? ⟨0, 4, none⟩ = some (.string ⟨#[99, 111, 110, 116, 101, 110, 116]⟩)
theorem Words.below {w w' : World} (h : Words w) (hb : Below w.heap.size w w') : Words w' := by
  have h0 : 0 < w.heap.size := World.block_lt_of_cell? w ⟨0, 0, none⟩ h.c0
  exact ⟨(hb.cell (p := ⟨0, 0, none⟩) h0).trans h.c0, (hb.cell (p := ⟨0, 1, none⟩) h0).trans h.c1, (hb.cell (p := ⟨0, 2, none⟩) h0).trans h.c2, (hb.cell (p := ⟨0, 3, none⟩) h0).trans h.c3, (hb.cell (p := ⟨0, 4, none⟩) h0).trans h.c4⟩
def faultB (c n : Int) : ByteArray := (wordB c ++ colB) ++ (errB ++ itoaB n)
theorem file_low {c : Int} (h : c < 0) : wordB c = ⟨#[102, 105, 108, 101]⟩ := by
  unfold wordB
  rw [show (c == 1) = false by simp; omega, show (c == 2) = false by simp; omega, show (c == 3) = false by simp; omega, show (c == 4) = false by simp; omega]
  rfl
theorem file_high {c : Int} (h : 5 ≤ c) : wordB c = ⟨#[102, 105, 108, 101]⟩ := by
  unfold wordB
  rw [show (c == 1) = false by simp; omega, show (c == 2) = false by simp; omega, show (c == 3) = false by simp; omega, show (c == 4) = false by simp; omega]
  rfl
theorem error_any (b : Nat) (c n : Int) (hn : inI64 n) (w : World) (W : Words w) (hc : w.cell? ⟨b, 0, none⟩ = some (.int .i64 c)) (he : w.cell? ⟨b, 1, none⟩ = some (.int .i64 n))
    (htab : Lib.TabIs Tryz.prog w "internal/strconv.uint64pow10" .u64 Lib.pow10Tab) : Calls Tryz.prog 38 #[.pointer (some ⟨b, 0, none⟩)] w (strPost (faultB c n) w) := by
  have HC := Lib.hid (errno_any n hn w htab)
  have hl := itoaB_le n hn
  have c0 := W.c0
  have c1 := W.c1
  have c2 := W.c2
  have c3 := W.c3
  have c4 := W.c4
  clear htab W
  have hx : c = 0 ∨ c = 1 ∨ c = 2 ∨ c = 3 ∨ c = 4 ∨ c < 0 ∨ 5 ≤ c := by omega
  have hel : (errB ++ itoaB n).size ≤ 27 := by rw [ByteArray.size_append]; show 6 + _ ≤ 27; omega
  have hE : errB.size = 6 := rfl
  rcases hx with rfl | rfl | rfl | rfl | rfl | hx | hx
  · go_enter Tryz.func38, Tryz.ntmps38
    go_wp2_with fail
    refine HC.out.mono ?_
    rintro e w1 ⟨rfl, hb⟩
    go_wp2
    go_ret
    exact ⟨rfl, hb⟩
  · go_enter Tryz.func38, Tryz.ntmps38
    go_wp2_with fail
    refine HC.out.mono ?_
    rintro e w1 ⟨rfl, hb⟩
    go_wp2
    go_ret
    exact ⟨rfl, hb⟩
  · go_enter Tryz.func38, Tryz.ntmps38
    go_wp2_with fail
    refine HC.out.mono ?_
    rintro e w1 ⟨rfl, hb⟩
    go_wp2
    go_ret
    exact ⟨rfl, hb⟩
  · go_enter Tryz.func38, Tryz.ntmps38
    go_wp2_with fail
    refine HC.out.mono ?_
    rintro e w1 ⟨rfl, hb⟩
    go_wp2
    go_ret
    exact ⟨rfl, hb⟩
  · go_enter Tryz.func38, Tryz.ntmps38
    go_wp2_with fail
    refine HC.out.mono ?_
    rintro e w1 ⟨rfl, hb⟩
    go_wp2
    go_ret
    exact ⟨rfl, hb⟩
  · have hf := file_low hx
    go_enter Tryz.func38, Tryz.ntmps38
    go_wp2_with fail
    refine HC.out.mono ?_
    rintro e w1 ⟨rfl, hb⟩
    go_wp2
    go_ret
    refine ⟨?_, hb⟩
    unfold faultB
    rw [hf]
    rfl
  · have hf := file_high hx
    go_enter Tryz.func38, Tryz.ntmps38
    go_wp2_with fail
    refine HC.out.mono ?_
    rintro e w1 ⟨rfl, hb⟩
    go_wp2
    go_ret
    refine ⟨?_, hb⟩
    unfold faultB
    rw [hf]
    rfl
end Go.Proofs
