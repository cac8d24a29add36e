/-
  What any putter, and any taker, wants, and what it is behind it, is the document's.
-/
import Derived.Test.YtcjkjlopbjijaaaPQx15
import Derived.Test.YtcjkjlopbjijaaaWfQueueTells
import Derived.Test.YtcjkjlopbjijaaaQueueM
import Derived.Test.YtcjkjlopbjijaaaMemLQR
namespace Go.Proofs.Ytcjkjlopbjijaaa.queueTells
set_option linter.unusedVariables false
set_option linter.unusedSimpArgs false
open Go.RowKit Go.Proofs.Ytcjkjlopbjijaaa.PQ Go.Proofs.YtcjkjlopbjijaaaW.PrintWords Go.Proofs.YtcjkjlopbjijaaaW.PrintLast Go.Proofs.YtcjkjlopbjijaaaW.PrintMore Go.Proofs.YtcjkjlopbjijaaaH

theorem rtail_eq (c s : Int) : treillageref15_Tail.f c s = mem_Tail.f c s := by unfold treillageref15_Tail.f mem_Tail.f; rw [rcell_eq]
theorem rwant_eq {c s st p it : Int} {k : Nat} (hk : 6 ≤ k) (h0 : 0 ≤ p) (h1 : p < 18446744073709551616) : treillageref16_Want.f k c s st p it = queue_Want.f c s st p it := by
  unfold treillageref16_Want.f
  by_cases ho : st < 0 ∨ 5 ≤ st
  · rw [want_no ho, if_neg (by omega), if_neg (by omega), if_neg (by omega), if_neg (by omega), if_neg (by omega)]
  · unfold queue_Want.f
    rw [if_neg ho, rtail_eq, rseq_eq hk h0 h1, ritem_eq hk h0 h1]
    have hs : st = 0 ∨ st = 1 ∨ st = 2 ∨ st = 3 ∨ st = 4 := by omega
    rcases hs with rfl | rfl | rfl | rfl | rfl <;> rfl
theorem want_some {c s st p it : Int} (h : Lay c s) (h0 : 0 ≤ p) (h1 : p < 18446744073709551616) : ∃ x, queue_Want.f c s st p it = some x := by
  by_cases ho : st < 0 ∨ 5 ≤ st
  · exact ⟨_, want_no ho⟩
  · have hs : st = 0 ∨ st = 1 ∨ st = 2 ∨ st = 3 ∨ st = 4 := by omega
    rcases hs with rfl | rfl | rfl | rfl | rfl
    · exact ⟨_, want_0 h _ _⟩
    · exact ⟨_, want_1 h _ h0 h1⟩
    · exact ⟨_, want_2 h _ _⟩
    · exact ⟨_, want_3 h _ h0 h1⟩
    · exact ⟨_, want_4 h _ h0 h1⟩
theorem next_some {c s st p it : Int} (h : Lay c s) (h0 : 0 ≤ p) (h1 : p < 18446744073709551616) : ∃ x, queue_Next.f c s st p it = some x := by
  by_cases e0 : st = 0
  · subst e0; exact ⟨_, next_0 h _ h0 h1⟩
  by_cases e1 : st = 1
  · subst e1; exact ⟨_, next_1 h _ h0 h1⟩
  exact ⟨_, next_2 h _ ⟨e0, e1⟩ h0 h1⟩
theorem rplaces {c s : Int} (h : Lay c s) {k : Nat} (hk : 6 ≤ k) : treillageref16_places.f k c s = some (pw s) := by
  refine at_rounds (treillageref16_places.mono c s) hk ?_
  have hc : c = 1 ∨ c = 2 ∨ c = 3 ∨ c = 4 := by have := h.1; omega
  rcases h.cases with rfl | rfl | rfl | rfl <;> rcases hc with rfl | rfl | rfl | rfl <;> decide +kernel
theorem rnext_eq {c s st p it : Int} (h : Lay c s) {k : Nat} (hk : 6 ≤ k) (h0 : 0 ≤ p) (h1 : p < 18446744073709551616) : treillageref16_Next.f k c s st p it = queue_Next.f c s st p it := by
  unfold treillageref16_Next.f
  rw [rseq_eq hk h0 h1, ritem_eq hk h0 h1]
  by_cases e0 : st = 0
  · subst e0; rw [if_pos rfl, next_0 h _ h0 h1, seq_ok h h0 h1]; rfl
  by_cases e1 : st = 1
  · subst e1; rw [if_neg (by decide), if_pos rfl, next_1 h _ h0 h1, item_ok h h0 h1]; rfl
  rw [if_neg e0, if_neg e1, next_2 h _ ⟨e0, e1⟩ h0 h1, seq_ok h h0 h1, rplaces h hk]; rfl
theorem rgiven_eq (c s st h it v : Int) : treillageref16_Given.f c s st h it v = some (givenS st h it v) := by
  unfold treillageref16_Given.f givenS
  by_cases e0 : st = 0
  · subst e0; simp only [if_true]; split <;> rfl
  rw [if_neg e0, if_neg e0]
  split <;> rfl
theorem rgot_eq (c s st v : Int) (b : Bool) : treillageref16_Got.f c s st v b = some (gotS c s v b, if c = 0 then v else s, st) := by
  unfold treillageref16_Got.f gotS
  by_cases e0 : c = 0
  · simp [e0]
  rw [if_neg e0, if_neg e0, if_neg e0]
  by_cases e1 : c = 1
  · rw [if_pos e1, if_pos e1]
    by_cases a : v < s
    · rw [if_neg (by omega), if_pos a, if_pos a]
    · by_cases a2 : v = s
      · rw [if_pos a2, if_neg a, if_neg a, if_neg (by omega)]
      · rw [if_neg a2, if_neg a, if_neg a, if_pos (by omega)]
  rw [if_neg e1, if_neg e1]
  by_cases e2 : c = 2
  · rw [if_pos e2, if_pos e2]; split <;> rfl
  rw [if_neg e2, if_neg e2]
  by_cases e3 : c = 3
  · rw [if_pos e3, if_pos e3]
  rw [if_neg e3, if_neg e3]
  by_cases e4 : c = 4
  · rw [if_pos e4, if_pos e4]
  rw [if_neg e4, if_neg e4]
theorem pure : ∀ (x0 : S38) (x1 : S54) (x2 : S56) (x3 : Int) (x4 : Bool), wf38 x0 → wf54 x1 → wf56 x2 → (Lit.int .u64 x3).wf = true → True → ∃ k : Nat, PQ.treillagelaw16_QueueTells.f k x0.f0 x0.f1 x1.f0 x1.f1 x1.f2 x2.f0 x2.f1 x2.f2 x3 x4 = some true := by
  intro x0 x1 x2 v b _ w1 w2 _ _
  obtain ⟨c, s⟩ := x0
  obtain ⟨st, p, it⟩ := x1
  obtain ⟨ts, h, ti⟩ := x2
  have hp := wf_u64 w1.2.1
  have hh := wf_u64 w2.2.1
  refine ⟨30, ?_⟩
  show treillagelaw16_QueueTells.f 30 c s st p it ts h ti v b = some true
  unfold treillagelaw16_QueueTells.f
  by_cases hl : Lay c s
  · rw [may_ok hl]
    simp only [Option.bind_some, if_true]
    rw [shown_at (by omega)]
    simp only [Option.bind_some, Bool.not_true]
    rw [show (30 : Nat) = 29 + 1 from rfl, treillagelaw16_QueueTells.j0, if_neg (by decide)]
    obtain ⟨x, hx⟩ := want_some (st := st) (it := it) hl hp.1 hp.2
    obtain ⟨y, hy⟩ := next_some (st := ts) (it := ti) hl hh.1 hh.2
    rw [rwant_eq (by omega) hp.1 hp.2, hx, given_ok (by omega), rgiven_eq, got_ok (by omega), rgot_eq, rnext_eq hl (by omega) hh.1 hh.2, hy]
    simp
  · rw [may_no hl]
    simp only [Option.bind_some]
    rw [if_neg (by decide), show (30 : Nat) = 29 + 1 from rfl, treillagelaw16_QueueTells.j0, if_pos rfl, shown_at (by omega)]
    rfl
end Go.Proofs.Ytcjkjlopbjijaaa.queueTells
