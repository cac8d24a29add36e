/-
  The cells of a layout that may be, in plain numbers.
-/
import Derived.Test.YtcjkjlopbjijaaaPCx3
import Derived.Test.YtcjkjlopbjijaaaMath
namespace Go.Proofs.Ytcjkjlopbjijaaa.PC
set_option linter.unusedVariables false
set_option linter.unusedSimpArgs false
open Go.RowKit Go.Proofs.YtcjkjlopbjijaaaW.PrintWords Go.Proofs.YtcjkjlopbjijaaaW.PrintLast Go.Proofs.YtcjkjlopbjijaaaW.PrintMore Go.Proofs.YtcjkjlopbjijaaaH

/-- A layout that may be. -/
def Lay (c s : Int) : Prop := (1 ≤ c ∧ c ≤ 4) ∧ (1 ≤ s ∧ s ≤ 4)
/-- How many places. -/
def pw (s : Int) : Int := if s = 1 then 2 else if s = 2 then 4 else if s = 3 then 8 else 16
theorem pw_bd (s : Int) : 2 ≤ pw s ∧ pw s ≤ 16 := by unfold pw; (repeat' split) <;> omega
theorem Lay.cases {c s : Int} (h : Lay c s) : s = 1 ∨ s = 2 ∨ s = 3 ∨ s = 4 := by unfold Lay at h; omega
theorem w64' {i : Int} (h0 : 0 ≤ i) (h1 : i < 4611686018427387904) : wrap64 i = i := by unfold wrap64; omega
theorem may_eq (c s : Int) : mem_May.f c s = some (decide ((1 ≤ c ∧ c ≤ 4) ∧ (1 ≤ s ∧ s ≤ 4))) := by
  unfold mem_May.f
  (repeat' split)
  · simp only [Option.some.injEq, decide_eq_decide]; omega
  all_goals (simp only [Option.some.injEq]; symm; simp only [decide_eq_false_iff_not]; omega)
theorem may_ok {c s : Int} (h : Lay c s) : mem_May.f c s = some true := by rw [may_eq]; simp only [Option.some.injEq, decide_eq_true_eq]; exact h
theorem may_no {c s : Int} (h : ¬Lay c s) : mem_May.f c s = some false := by rw [may_eq]; simp only [Option.some.injEq, decide_eq_false_iff_not]; exact h
theorem cell_ok {c s : Int} (h : Lay c s) (n : Int) : mem_cell.f c s n = some n := by simp [mem_cell.f, may_ok h]
theorem cell_no {c s : Int} (h : ¬Lay c s) (n : Int) : mem_cell.f c s n = some (-1) := by simp [mem_cell.f, may_no h]
theorem tail_ok {c s : Int} (h : Lay c s) : mem_Tail.f c s = some (2 + 2 * c) := by
  have h' := h
  unfold Lay at h'
  rw [mem_Tail.f, cell_ok h, w64' (i := 2 * c) (by omega) (by omega), w64' (by omega) (by omega)]
  rfl
theorem shl_two {c s : Int} (h : Lay c s) : shl .i64 2 s = 2 * pw s := by rcases h.cases with rfl | rfl | rfl | rfl <;> decide +kernel
theorem shl_one {c s : Int} (h : Lay c s) : shl .u64 1 s = pw s := by rcases h.cases with rfl | rfl | rfl | rfl <;> decide +kernel
theorem mask_pw {c s p : Int} (h : Lay c s) (h0 : 0 ≤ p) (h1 : p < 18446744073709551616) : Go.bits .and .u64 p (IntKind.u64.wrap (pw s - 1)) = p % pw s := by
  rcases h.cases with rfl | rfl | rfl | rfl
  · exact mask_u64 1 (by decide) p h0 h1
  · exact mask_u64 2 (by decide) p h0 h1
  · exact mask_u64 3 (by decide) p h0 h1
  · exact mask_u64 4 (by decide) p h0 h1
theorem mod_pw (p s : Int) : 0 ≤ p % pw s ∧ p % pw s < pw s := ⟨Int.emod_nonneg _ (by have := pw_bd s; omega), Int.emod_lt_of_pos _ (by have := pw_bd s; omega)⟩
theorem size_ok {c s : Int} (h : Lay c s) : mem_Size.f c s = some (3 + 2 * c + 2 * pw s) := by
  have h' := h
  unfold Lay at h'
  have hp := pw_bd s
  rw [mem_Size.f, may_ok h]
  simp only [Option.bind_some, if_true, tail_ok h]
  rw [if_pos (by omega), shl_two h, w64' (i := 2 + 2 * c + 1) (by omega) (by omega), w64' (by omega) (by omega)]
  congr 1; omega
theorem seq_ok {c s p : Int} (h : Lay c s) (h0 : 0 ≤ p) (h1 : p < 18446744073709551616) : mem_Seq.f c s p = some (3 + 2 * c + 2 * (p % pw s)) := by
  have h' := h
  unfold Lay at h'
  have hp := pw_bd s
  have hm := mod_pw p s
  rw [mem_Seq.f, may_ok h]
  simp only [Option.bind_some, if_true, tail_ok h]
  rw [if_pos (by omega), shl_one h, mask_pw h h0 h1, w64' (i := p % pw s) (by omega) (by omega), w64' (i := p % pw s * 2) (by omega) (by omega), w64' (i := 2 + 2 * c + 1) (by omega) (by omega), w64' (by omega) (by omega)]
  congr 1; omega
theorem seq_no {c s : Int} (h : ¬Lay c s) (p : Int) : mem_Seq.f c s p = some (-1) := by simp [mem_Seq.f, may_no h]
theorem item_ok {c s p : Int} (h : Lay c s) (h0 : 0 ≤ p) (h1 : p < 18446744073709551616) : mem_Item.f c s p = some (3 + 2 * c + 2 * (p % pw s) + 1) := by
  have h' := h
  unfold Lay at h'
  have hp := pw_bd s
  have hm := mod_pw p s
  rw [mem_Item.f, may_ok h, seq_ok h h0 h1]
  simp only [Option.bind_some, if_true]
  rw [w64' (by omega) (by omega)]
theorem item_no {c s : Int} (h : ¬Lay c s) (p : Int) : mem_Item.f c s p = some (-1) := by simp [mem_Item.f, may_no h]

theorem rmay_eq : treillageref15_May.f = mem_May.f := by
  funext c s
  rw [may_eq]
  unfold treillageref15_May.f
  (repeat' split)
  · simp only [Option.some.injEq, decide_eq_decide]; omega
  all_goals (simp only [Option.some.injEq]; symm; simp only [decide_eq_false_iff_not]; omega)
theorem rcell_eq : treillageref15_cell.f = mem_cell.f := by
  funext c s n
  unfold treillageref15_cell.f mem_cell.f
  rw [rmay_eq]
theorem places_ok {c s : Int} (h : Lay c s) {k : Nat} (hk : 6 ≤ k) : treillageref15_places.f k c s = some (pw s) := by
  refine at_rounds (treillageref15_places.mono c s) hk ?_
  have hc : c = 1 ∨ c = 2 ∨ c = 3 ∨ c = 4 := by have := h.1; omega
  rcases h.cases with rfl | rfl | rfl | rfl <;> rcases hc with rfl | rfl | rfl | rfl <;> decide +kernel
theorem rseq_eq {c s p : Int} {k : Nat} (hk : 6 ≤ k) (h0 : 0 ≤ p) (h1 : p < 18446744073709551616) : treillageref15_Seq.f k c s p = mem_Seq.f c s p := by
  by_cases h : Lay c s
  · have h' := h
    unfold Lay at h'
    have hp := pw_bd s
    have hm := mod_pw p s
    rw [seq_ok h h0 h1, treillageref15_Seq.f, rmay_eq, may_ok h]
    simp only [Option.bind_some, if_true, places_ok h hk]
    rw [wraps_u64 (pw s) (by omega) (by omega), if_neg (by omega), Int.tmod_eq_emod_of_nonneg h0, w64' (i := p % pw s) (by omega) (by omega), w64' (i := 2 * (p % pw s)) (by omega) (by omega), w64' (i := 2 * c) (by omega) (by omega), w64' (i := 3 + 2 * c) (by omega) (by omega), w64' (by omega) (by omega)]
  · simp [seq_no h, treillageref15_Seq.f, rmay_eq, may_no h]
theorem ritem_eq {c s p : Int} {k : Nat} (hk : 6 ≤ k) (h0 : 0 ≤ p) (h1 : p < 18446744073709551616) : treillageref15_Item.f k c s p = mem_Item.f c s p := by
  unfold treillageref15_Item.f mem_Item.f
  rw [rmay_eq, rseq_eq hk h0 h1]
theorem rsize_eq {c s : Int} {k : Nat} (hk : 6 ≤ k) : treillageref15_Size.f k c s = mem_Size.f c s := by
  by_cases h : Lay c s
  · have h' := h
    unfold Lay at h'
    have hp := pw_bd s
    rw [size_ok h, treillageref15_Size.f, rmay_eq, may_ok h]
    simp only [Option.bind_some, if_true, places_ok h hk]
    rw [w64' (i := 2 * c) (by omega) (by omega), w64' (i := 3 + 2 * c) (by omega) (by omega), w64' (i := 2 * pw s) (by omega) (by omega), w64' (by omega) (by omega)]
  · simp [treillageref15_Size.f, rmay_eq, may_no h, mem_Size.f]

end Go.Proofs.Ytcjkjlopbjijaaa.PC
