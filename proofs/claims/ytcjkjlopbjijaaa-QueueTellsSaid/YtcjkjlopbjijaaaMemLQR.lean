/-
  The cells of a layout that may be, in plain numbers.
-/
import Derived.Test.YtcjkjlopbjijaaaPQx12
import Derived.Test.YtcjkjlopbjijaaaMemLQ
namespace Go.Proofs.Ytcjkjlopbjijaaa.PQ
set_option linter.unusedVariables false
set_option linter.unusedSimpArgs false
open Go.RowKit Go.Proofs.YtcjkjlopbjijaaaW.PrintWords Go.Proofs.YtcjkjlopbjijaaaW.PrintLast Go.Proofs.YtcjkjlopbjijaaaW.PrintMore Go.Proofs.YtcjkjlopbjijaaaH


theorem rmay_eq : treillageref15_May.f = mem_May.f := by
  funext c s
  rw [may_eq]
  unfold treillageref15_May.f
  (repeat' split)
  · simp only [Option.some.injEq, decide_eq_decide]; omega
  all_goals (simp only [Option.some.injEq]; symm; simp only [decide_eq_false_iff_not]; omega)
theorem rcell_eq : treillageref15_cell.f = mem_cell.f := by
  funext c s n
  unfold treillageref15_cell.f mem_cell.f
  rw [rmay_eq]
theorem places_ok {c s : Int} (h : Lay c s) {k : Nat} (hk : 6 ≤ k) : treillageref15_places.f k c s = some (pw s) := by
  refine at_rounds (treillageref15_places.mono c s) hk ?_
  have hc : c = 1 ∨ c = 2 ∨ c = 3 ∨ c = 4 := by have := h.1; omega
  rcases h.cases with rfl | rfl | rfl | rfl <;> rcases hc with rfl | rfl | rfl | rfl <;> decide +kernel
theorem rseq_eq {c s p : Int} {k : Nat} (hk : 6 ≤ k) (h0 : 0 ≤ p) (h1 : p < 18446744073709551616) : treillageref15_Seq.f k c s p = mem_Seq.f c s p := by
  by_cases h : Lay c s
  · have h' := h
    unfold Lay at h'
    have hp := pw_bd s
    have hm := mod_pw p s
    rw [seq_ok h h0 h1, treillageref15_Seq.f, rmay_eq, may_ok h]
    simp only [Option.bind_some, if_true, places_ok h hk]
    rw [wraps_u64 (pw s) (by omega) (by omega), if_neg (by omega), Int.tmod_eq_emod_of_nonneg h0, w64' (i := p % pw s) (by omega) (by omega), w64' (i := 2 * (p % pw s)) (by omega) (by omega), w64' (i := 2 * c) (by omega) (by omega), w64' (i := 3 + 2 * c) (by omega) (by omega), w64' (by omega) (by omega)]
  · simp [seq_no h, treillageref15_Seq.f, rmay_eq, may_no h]
theorem ritem_eq {c s p : Int} {k : Nat} (hk : 6 ≤ k) (h0 : 0 ≤ p) (h1 : p < 18446744073709551616) : treillageref15_Item.f k c s p = mem_Item.f c s p := by
  unfold treillageref15_Item.f mem_Item.f
  rw [rmay_eq, rseq_eq hk h0 h1]

end Go.Proofs.Ytcjkjlopbjijaaa.PQ
