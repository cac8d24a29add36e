/-
  The cells of any layout, and what they have at first, are the document's.
-/
import Derived.Test.YtcjkjlopbjijaaaPCx4
import Derived.Test.YtcjkjlopbjijaaaWfMemCells
import Derived.Test.YtcjkjlopbjijaaaMemLC
namespace Go.Proofs.Ytcjkjlopbjijaaa.memCells
set_option linter.unusedVariables false
set_option linter.unusedSimpArgs false
open Go.RowKit Go.Proofs.Ytcjkjlopbjijaaa.PC Go.Proofs.YtcjkjlopbjijaaaW.PrintWords Go.Proofs.YtcjkjlopbjijaaaW.PrintLast Go.Proofs.YtcjkjlopbjijaaaW.PrintMore Go.Proofs.YtcjkjlopbjijaaaH

theorem shown_at {k : Nat} (hk : 8 ≤ k) : treillagelaw15_shown.f k = some true := at_rounds treillagelaw15_shown.mono hk (by decide +kernel)
theorem handles_from (l : List Int) : ∀ (d k : Nat) (i : Int), 0 ≤ i → i + d = l.length → d + 1 ≤ k → l.length ≤ 4000000000 → treillageref03_Handles.l0 k l l i = some true := by
  intro d
  induction d with
  | zero =>
    intro k i hi he hk hl
    obtain ⟨k, rfl⟩ : ∃ k', k = k' + 1 := ⟨k - 1, by omega⟩
    rw [treillageref03_Handles.l0, if_neg (by omega)]
  | succ d ih =>
    intro k i hi he hk hl
    obtain ⟨k, rfl⟩ : ∃ k', k = k' + 1 := ⟨k - 1, by omega⟩
    rw [treillageref03_Handles.l0, if_pos (by omega), if_pos hi, if_pos (by omega), if_pos rfl, show wrap64 (i + 1) = i + 1 from by unfold wrap64; omega]
    exact ih k (i + 1) (by omega) (by omega) (by omega) hl
theorem handles_refl (l : List Int) (k : Nat) (hk : l.length + 1 ≤ k) (hl : l.length ≤ 4000000000) : treillageref03_Handles.f k l l = some true := by
  unfold treillageref03_Handles.f
  rw [if_pos rfl]
  exact handles_from l l.length k 0 (by omega) (by omega) hk hl
theorem news {c s : Int} (h : Lay c s) : ∃ l : List Int, l.length ≤ 60 ∧ mem_New.f 100 c s = some l ∧ treillageref15_New.f 100 c s = some l := by
  have h' := h
  unfold Lay at h'
  have hc : c = 1 ∨ c = 2 ∨ c = 3 ∨ c = 4 := by omega
  have key : ∀ c ∈ [(1 : Int), 2, 3, 4], ∀ s ∈ [(1 : Int), 2, 3, 4], ((mem_New.f 100 c s).isSome && decide (((mem_New.f 100 c s).getD []).length ≤ 60) && (mem_New.f 100 c s == treillageref15_New.f 100 c s)) = true := by decide +kernel
  have k1 := key c (by rcases hc with rfl | rfl | rfl | rfl <;> decide) s (by rcases h.cases with rfl | rfl | rfl | rfl <;> decide)
  simp only [Bool.and_eq_true, decide_eq_true_eq, beq_iff_eq] at k1
  obtain ⟨⟨k1, k2⟩, k3⟩ := k1
  obtain ⟨l, hl⟩ := Option.isSome_iff_exists.1 k1
  rw [hl] at k2 k3
  exact ⟨l, k2, hl, k3.symm⟩
theorem pin_eq (c s r : Int) : treillageref15_Pin.f c s r = mem_Pin.f c s r := by
  unfold treillageref15_Pin.f mem_Pin.f mem_of.f
  rw [rcell_eq]
  split
  · rfl
  split
  · rfl
  simp
theorem pin_some (c s r : Int) : ∃ v, mem_Pin.f c s r = some v ∧ (¬Lay c s → v = -1) := by
  unfold mem_Pin.f mem_of.f
  split
  · exact ⟨_, rfl, fun _ => rfl⟩
  split
  · exact ⟨_, rfl, fun _ => rfl⟩
  · by_cases h : Lay c s
    · exact ⟨_, by rw [cell_ok h]; rfl, fun hh => (hh h).elim⟩
    · exact ⟨_, by rw [cell_no h]; rfl, fun _ => rfl⟩
theorem result_eq (c s r : Int) : treillageref15_Result.f c s r = mem_Result.f c s r := by
  unfold treillageref15_Result.f mem_Result.f mem_of.f
  rw [rcell_eq]
  split
  · rfl
  split
  · rfl
  simp
theorem result_some (c s r : Int) : ∃ v, mem_Result.f c s r = some v ∧ (¬Lay c s → v = -1) := by
  unfold mem_Result.f mem_of.f
  split
  · exact ⟨_, rfl, fun _ => rfl⟩
  split
  · exact ⟨_, rfl, fun _ => rfl⟩
  · by_cases h : Lay c s
    · exact ⟨_, by rw [cell_ok h]; rfl, fun hh => (hh h).elim⟩
    · exact ⟨_, by rw [cell_no h]; rfl, fun _ => rfl⟩
theorem tail_eq (c s : Int) : treillageref15_Tail.f c s = mem_Tail.f c s := by unfold treillageref15_Tail.f mem_Tail.f; rw [rcell_eq]
theorem root_eq (c s : Int) : treillageref15_Root.f c s = mem_Root.f c s := by unfold treillageref15_Root.f mem_Root.f; rw [rcell_eq]
theorem epoch_eq (c s : Int) : treillageref15_Epoch.f c s = mem_Epoch.f c s := by unfold treillageref15_Epoch.f mem_Epoch.f; rw [rcell_eq]
theorem pure : ∀ (x0 : S38) (x1 : Int) (x2 : Int), wf38 x0 → (Lit.int .i64 x1).wf = true → (Lit.int .u64 x2).wf = true → ∃ k : Nat, PC.treillagelaw15_MemCells.f k x0.f0 x0.f1 x1 x2 = some true := by
  intro x0 r p _ _ hp
  obtain ⟨c, s⟩ := x0
  have hp := wf_u64 hp
  refine ⟨101, ?_⟩
  show treillagelaw15_MemCells.f 101 c s r p = some true
  obtain ⟨vp, hvp, vp2⟩ := pin_some c s r
  obtain ⟨vr, hvr, vr2⟩ := result_some c s r
  by_cases h : Lay c s
  · obtain ⟨l, hl, hn, hrn⟩ := news h
    simp only [treillagelaw15_MemCells.f, rmay_eq, may_ok h, Option.bind_some, bne_self_eq_false, Bool.false_eq_true, if_false, size_ok h, rsize_eq (show 6 ≤ 101 by omega), if_true, root_eq, epoch_eq, tail_eq, tail_ok h, mem_Root.f, mem_Epoch.f, cell_ok h]
    rw [show (101 : Nat) = 100 + 1 from rfl, treillagelaw15_MemCells.j0]
    simp only [Bool.false_eq_true, if_false, may_ok h, Option.bind_some, if_true, pin_eq, hvp, result_eq, hvr, seq_ok h hp.1 hp.2, rseq_eq (show 6 ≤ 100 by omega) hp.1 hp.2, item_ok h hp.1 hp.2, ritem_eq (show 6 ≤ 100 by omega) hp.1 hp.2, hn, hrn, handles_refl l 100 (by omega) (by omega), shown_at (show 8 ≤ 100 by omega)]
  · have hsz : mem_Size.f c s = some 0 := by simp [mem_Size.f, may_no h]
    have hnew : mem_New.f 100 c s = some [] := by
      rw [mem_New.f, hsz]
      simp only [Option.bind_some]
      rw [if_pos (by decide), if_pos (by decide), show (100 : Nat) = 99 + 1 from rfl, mem_New.l0, may_no h]
      rfl
    have htl : mem_Tail.f c s = some (-1) := by rw [mem_Tail.f, cell_no h]; rfl
    simp only [treillagelaw15_MemCells.f, rmay_eq, may_no h, Option.bind_some, bne_self_eq_false, Bool.false_eq_true, if_false, hsz, rsize_eq (show 6 ≤ 101 by omega), if_true, root_eq, epoch_eq, tail_eq, htl, mem_Root.f, mem_Epoch.f, cell_no h]
    rw [show (101 : Nat) = 100 + 1 from rfl, treillagelaw15_MemCells.j0]
    obtain rfl := vp2 h
    obtain rfl := vr2 h
    simp [may_no h, hnew, hvp, hvr, seq_no h, item_no h, shown_at (show 8 ≤ 100 by omega)]
end Go.Proofs.Ytcjkjlopbjijaaa.memCells
