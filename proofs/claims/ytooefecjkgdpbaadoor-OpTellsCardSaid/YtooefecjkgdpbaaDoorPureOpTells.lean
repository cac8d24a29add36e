/-
  Whether any operation may be, and its words, are the reference's.
-/
import Derived.Test.YtooefecjkgdpbaaDoorOpS
import Derived.Test.YtooefecjkgdpbaaDoorWfOpTells
namespace Go.Proofs.YtooefecjkgdpbaaDoor.opTells
set_option linter.unusedVariables false
open Go.RowKit Go.Proofs.YtooefecjkgdpbaaDoor.PA Go.Proofs.YtooefecjkgdpbaaDoorW.PrintWords Go.Proofs.YtooefecjkgdpbaaDoorW.PrintLast Go.Proofs.YtooefecjkgdpbaaDoorW.PrintMore Go.Proofs.YtooefecjkgdpbaaDoorH Go.Proofs.YtooefecjkgdpbaaDoor.Pure

theorem pure : ∀ (x0 : S23), wf23 x0 → ∃ k : Nat, PA.treillagelaw06_OpTells.f k x0.f0 x0.f1 x0.f2 x0.f3 x0.f4 x0.f5 = some true := by
  intro x0 ⟨_, h1, h2, h3, _⟩
  replace h1 := wf64 h1
  replace h2 := wf64 h2
  replace h3 := wf64 h3
  refine ⟨201, ?_⟩
  unfold treillagelaw06_OpTells.f
  obtain ⟨b, hb, _⟩ := bounded_eq (k := 201) [(⟨x0.f0, x0.f1, x0.f2, x0.f3, x0.f4, x0.f5⟩ : S23)] (by simp) (by simp)
  rw [hb, Option.bind_some, shown_k (by decide), Option.bind_some]
  cases b
  · rw [if_neg (by decide)]
    simp only [treillagelaw06_OpTells.j0]
    rw [if_pos trivial, shown_k (by decide)]
    rfl
  · rw [if_pos rfl]
    simp only [treillagelaw06_OpTells.j0]
    rw [if_neg (by decide), refmay_eq (by decide), refprint_eq (by decide) _ _ _ _ _ _ h1 h2 h3]
    unfold op_May.f
    simp only [Option.bind_some, beq_self_eq_true, if_true]
    have : ∃ p, op_Print.f x0.f0 x0.f1 x0.f2 x0.f3 x0.f4 x0.f5 = some p := by
      unfold op_Print.f
      split
      · rw [if_pos (by omega)]
        exact ⟨_, rfl⟩
      · exact ⟨_, rfl⟩
    obtain ⟨p, hp⟩ := this
    rw [hp]
    simp
end Go.Proofs.YtooefecjkgdpbaaDoor.opTells
