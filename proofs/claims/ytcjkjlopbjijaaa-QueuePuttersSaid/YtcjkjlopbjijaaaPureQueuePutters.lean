/-
  A putter that is done, or found it full, wants nothing more, and stays as it is.
-/
import Derived.Test.YtcjkjlopbjijaaaPQx8
import Derived.Test.YtcjkjlopbjijaaaWfQueuePutters
import Derived.Test.YtcjkjlopbjijaaaQueueM
namespace Go.Proofs.Ytcjkjlopbjijaaa.queuePutters
set_option linter.unusedVariables false
set_option linter.unusedSimpArgs false
open Go.RowKit Go.Proofs.Ytcjkjlopbjijaaa.PQ Go.Proofs.YtcjkjlopbjijaaaW.PrintWords Go.Proofs.YtcjkjlopbjijaaaW.PrintLast Go.Proofs.YtcjkjlopbjijaaaW.PrintMore Go.Proofs.YtcjkjlopbjijaaaH

theorem want_is {c s st p it : Int} (h : Lay c s) (h0 : 0 ≤ p) (h1 : p < 18446744073709551616) : ∃ a b d e, queue_Want.f c s st p it = some (a, b, d, e, decide (0 ≤ st ∧ st ≤ 4)) := by
  by_cases ho : st < 0 ∨ 5 ≤ st
  · have : decide (0 ≤ st ∧ st ≤ 4) = false := by simp only [decide_eq_false_iff_not]; omega
    rw [this]
    exact ⟨_, _, _, _, want_no ho⟩
  · have : decide (0 ≤ st ∧ st ≤ 4) = true := by simp only [decide_eq_true_eq]; omega
    rw [this]
    have hs : st = 0 ∨ st = 1 ∨ st = 2 ∨ st = 3 ∨ st = 4 := by omega
    rcases hs with rfl | rfl | rfl | rfl | rfl
    · exact ⟨_, _, _, _, want_0 h _ _⟩
    · exact ⟨_, _, _, _, want_1 h _ h0 h1⟩
    · exact ⟨_, _, _, _, want_2 h _ _⟩
    · exact ⟨_, _, _, _, want_3 h _ h0 h1⟩
    · exact ⟨_, _, _, _, want_4 h _ h0 h1⟩
theorem pure : ∀ (x0 : S38) (x1 : S54) (x2 : Int) (x3 : Bool), wf38 x0 → wf54 x1 → (Lit.int .u64 x2).wf = true → True → ∃ k : Nat, PQ.treillagelaw16_QueuePutters.f k x0.f0 x0.f1 x1.f0 x1.f1 x1.f2 x2 x3 = some true := by
  intro x0 x1 v b _ w1 _ _
  obtain ⟨c, s⟩ := x0
  obtain ⟨st, p, it⟩ := x1
  have hp := wf_u64 w1.2.1
  refine ⟨30, ?_⟩
  show treillagelaw16_QueuePutters.f 30 c s st p it v b = some true
  unfold treillagelaw16_QueuePutters.f
  by_cases h : Lay c s
  · rw [may_ok h]
    simp only [Option.bind_some, if_true]
    rw [shown_at (by omega)]
    simp only [Option.bind_some, Bool.not_true]
    rw [show (30 : Nat) = 29 + 1 from rfl, treillagelaw16_QueuePutters.j0, if_neg (by decide)]
    obtain ⟨a, b', d, e, hw⟩ := want_is (st := st) (it := it) h hp.1 hp.2
    rw [hw, got_ok (by omega)]
    simp only [Option.bind_some]
    by_cases h0 : st ≥ 0
    · rw [if_pos h0]
      have e1 : decide (0 ≤ st ∧ st ≤ 4) = decide (st ≤ 4) := by rw [decide_eq_decide]; omega
      rw [e1, if_neg (by simp), if_pos trivial]
      by_cases h4 : st ≤ 4
      · rw [if_pos (by simpa using h4)]
      · rw [if_neg (by simpa using h4)]
        have g : gotS st p v b = st := by unfold gotS; rw [if_neg (by omega), if_neg (by omega), if_neg (by omega), if_neg (by omega), if_neg (by omega)]
        rw [g, if_neg (by omega)]
        simp
    · rw [if_neg h0]
      have e1 : decide (0 ≤ st ∧ st ≤ 4) = false := by simp only [decide_eq_false_iff_not]; omega
      rw [e1, if_neg (by simp), if_pos trivial, if_neg (by simp)]
      have g : gotS st p v b = st := by unfold gotS; rw [if_neg (by omega), if_neg (by omega), if_neg (by omega), if_neg (by omega), if_neg (by omega)]
      rw [g, if_neg (by omega)]
      simp
  · rw [may_no h]
    simp only [Option.bind_some]
    rw [if_neg (by decide), show (30 : Nat) = 29 + 1 from rfl, treillagelaw16_QueuePutters.j0, if_pos rfl, shown_at (by omega)]
    rfl
end Go.Proofs.Ytcjkjlopbjijaaa.queuePutters
