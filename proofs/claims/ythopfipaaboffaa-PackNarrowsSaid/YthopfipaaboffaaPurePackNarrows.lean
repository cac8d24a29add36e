/-
  A number in fewer bits is the reference's, and narrowing again changes nothing; for all pairs of 64-bit numbers.
-/
import Derived.Test.YthopfipaaboffaaPackM
namespace Go.Proofs.Ythopfipaaboffaa.Pure
set_option linter.unusedVariables false
set_option linter.unusedSimpArgs false
open Go.RowKit Go.Proofs.Ythopfipaaboffaa.PA Go.Proofs.YthopfipaaboffaaW.PrintWords Go.Proofs.YthopfipaaboffaaW.PrintLast Go.Proofs.YthopfipaaboffaaW.PrintMore Go.Proofs.YthopfipaaboffaaH

theorem PackNarrows : treillagelaw01_PackNarrows.Pure := by
  intro n b hn hb
  have hn := wf_i64 hn
  refine ⟨61, ?_⟩
  unfold treillagelaw01_PackNarrows.f
  have hi : narrow (narrow n b) b = narrow n b := by
    unfold narrow
    split
    · omega
    split
    · omega
    split
    · omega
    rfl
  simp only [narrow_eq, refnarrow_eq (Nat.le_refl 61) hn, Option.bind_some, if_true, hi, shown_k (show 60 ≤ 61 by decide)]

end Go.Proofs.Ythopfipaaboffaa.Pure
