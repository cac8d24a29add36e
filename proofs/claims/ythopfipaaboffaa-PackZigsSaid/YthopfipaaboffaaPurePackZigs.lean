/-
  Zigzag and back of every 64-bit number are the reference's, and each undoes the other.
-/
import Derived.Test.YthopfipaaboffaaPackM
namespace Go.Proofs.Ythopfipaaboffaa.Pure
set_option linter.unusedVariables false
set_option linter.unusedSimpArgs false
open Go.RowKit Go.Proofs.Ythopfipaaboffaa.PA Go.Proofs.YthopfipaaboffaaW.PrintWords Go.Proofs.YthopfipaaboffaaW.PrintLast Go.Proofs.YthopfipaaboffaaW.PrintMore Go.Proofs.YthopfipaaboffaaH

theorem PackZigs : treillagelaw01_PackZigs.Pure := by
  intro a u ha hu
  have ha := wf_i64 ha
  have hu := wf_u64 hu
  refine ⟨60, ?_⟩
  unfold treillagelaw01_PackZigs.f
  simp only [zig_eq ha, refzig_eq ha, zag_eq hu, refzag_eq hu, zag_eq (zig_range ha), zig_eq (zag_range hu), zag_zig, zig_zag hu.1, shown_60, Option.bind_some, if_true]

end Go.Proofs.Ythopfipaaboffaa.Pure
