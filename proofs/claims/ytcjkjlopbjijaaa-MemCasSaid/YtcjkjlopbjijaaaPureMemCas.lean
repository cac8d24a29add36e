/-
  Of two that turn the same cell from what it has, the first one does, the second one only where it is turned to the same.
-/
import Derived.Test.YtcjkjlopbjijaaaPAx4
import Derived.Test.YtcjkjlopbjijaaaMemM
import Derived.Test.YtcjkjlopbjijaaaWfMemCas
namespace Go.Proofs.Ytcjkjlopbjijaaa.Pure
set_option linter.unusedVariables false
set_option linter.unusedSimpArgs false
open Go.RowKit Go.Proofs.Ytcjkjlopbjijaaa.PA Go.Proofs.YtcjkjlopbjijaaaW.PrintWords Go.Proofs.YtcjkjlopbjijaaaW.PrintLast Go.Proofs.YtcjkjlopbjijaaaW.PrintMore Go.Proofs.YtcjkjlopbjijaaaH

theorem MemCas : treillagelaw15_MemCas.Pure := by
  intro l a1 a2 a3 hm hl hwf h1 h2 h3
  have h1 := wf_u8 h1
  refine ⟨(l.length + 1) + 10, ?_⟩
  have hs : treillagelaw15_shown.f (l.length + 10) = some true := shown_at (by omega)
  unfold treillagelaw15_MemCas.f
  have hj : treillagelaw15_MemCas.j0 (l.length + 1 + 10) l a1 a2 a3 true = some true := by
    rw [show l.length + 1 + 10 = (l.length + 10) + 1 from by omega, treillagelaw15_MemCas.j0, if_pos rfl, hs]
    rfl
  by_cases c0 : (l.length : Int) = 0
  · rw [if_pos c0]; exact hj
  rw [if_neg c0]
  by_cases c1 : (l.length : Int) > 300
  · rw [if_pos c1]; exact hj
  rw [if_neg c1, shown_at (by omega)]
  simp only [Option.bind_some, Bool.not_true]
  rw [show l.length + 1 + 10 = (l.length + 10) + 1 from by omega, treillagelaw15_MemCas.j0, if_neg (by simp), if_neg c0]
  have hw : wrap64 a1 = a1 := by unfold wrap64; omega
  obtain ⟨i, hi⟩ : ∃ i, i = Int.tmod (wrap64 a1) (l.length : Int) := ⟨_, rfl⟩
  have hi0 : 0 ≤ i ∧ i < l.length := by
    rw [hi, hw, Int.tmod_eq_emod_of_nonneg h1.1]
    exact ⟨Int.emod_nonneg _ c0, Int.emod_lt_of_pos _ (by omega)⟩
  rw [← hi, if_pos hi0.1, if_pos hi0.2, do_cas hi0.1 hi0.2 hl, if_pos rfl]
  simp only [Option.bind_some]
  have hset : (l.set i.toNat a2).length = l.length := List.length_set
  rw [do_cas hi0.1 (by rw [hset]; exact hi0.2) (by rw [hset]; exact hl), rd_set_self hi0.1 hi0.2]
  by_cases c : rd l i = a2
  · rw [if_pos c.symm]
    simp only [Option.bind_some]
    rw [do_load hi0.1 (by rw [List.length_set, hset]; exact hi0.2), rd_set_self hi0.1 (by rw [hset]; exact hi0.2)]
    simp only [Option.bind_some, if_pos c, if_true, c, beq_self_eq_true]
    rw [handles_refl _ _ (by rw [List.length_set, hset]; omega) (by rw [List.length_set, hset]; omega)]
    rfl
  · rw [if_neg (fun h => c h.symm)]
    simp only [Option.bind_some]
    rw [do_load hi0.1 (by rw [hset]; exact hi0.2), rd_set_self hi0.1 hi0.2]
    have cb : (rd l i == a2) = false := by simpa using c
    simp only [Option.bind_some, if_neg c, if_true, cb, beq_self_eq_true]
    rw [handles_refl _ _ (by rw [hset]; omega) (by rw [hset]; omega)]
    rfl

end Go.Proofs.Ytcjkjlopbjijaaa.Pure
namespace Go.Proofs.Ytcjkjlopbjijaaa.memCas
open Go.RowKit Go.Proofs.Ytcjkjlopbjijaaa.PA Go.Proofs.YtcjkjlopbjijaaaW.PrintWords Go.Proofs.YtcjkjlopbjijaaaW.PrintLast Go.Proofs.YtcjkjlopbjijaaaW.PrintMore Go.Proofs.YtcjkjlopbjijaaaH
theorem pure : ∀ (x0 : List Int) (x1 : Int) (x2 : Int) (x3 : Int), (x0.length * Try.prog.bytesOf 23 ≤ 140737488351232 ∧ ∀ y0_ ∈ x0, (Lit.int .u64 y0_).wf = true) → (Lit.int .u8 x1).wf = true → (Lit.int .u64 x2).wf = true → (Lit.int .u64 x3).wf = true → ∃ k : Nat, PA.treillagelaw15_MemCas.f k x0 x1 x2 x3 = some true := by
  intro x0 x1 x2 x3 h0 h1 h2 h3
  have hb := h0.1
  rw [bytes23] at hb
  exact Pure.MemCas x0 x1 x2 x3 (by simp only [maxLen]; omega) hb h0.2 h1 h2 h3
end Go.Proofs.Ytcjkjlopbjijaaa.memCas
