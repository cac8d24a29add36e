/-
  The handle of any two numbers, the parts of any handle and the handle behind it are the reference's.
-/
import Derived.Test.YthopfipaaboffaaPackM
namespace Go.Proofs.Ythopfipaaboffaa.Pure
set_option linter.unusedVariables false
set_option linter.unusedSimpArgs false
open Go.RowKit Go.Proofs.Ythopfipaaboffaa.PA Go.Proofs.YthopfipaaboffaaW.PrintWords Go.Proofs.YthopfipaaboffaaW.PrintLast Go.Proofs.YthopfipaaboffaaW.PrintMore Go.Proofs.YthopfipaaboffaaH

theorem PackHandles : treillagelaw01_PackHandles.Pure := by
  intro i g h hi hg hh
  have hi := wf_i64 hi
  have hg := wf_u64 hg
  have hh := wf_u64 hh
  refine ⟨60, ?_⟩
  unfold treillagelaw01_PackHandles.f
  have hk : 60 ≤ 60 := Nat.le_refl _
  simp only [of_eq hi hg, refof_eq hk hi hg, index_eq hh, refindex_eq hk hh, gen_eq, refgen_eq hk hh, next_eq hh, refnext_eq hk hh, Option.bind_some, shown_60, if_true, beq_self_eq_true]

end Go.Proofs.Ythopfipaaboffaa.Pure
