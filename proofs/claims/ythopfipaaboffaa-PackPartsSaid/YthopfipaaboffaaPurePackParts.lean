/-
  A handle is that of its parts, and two handles are one just if their parts are; for all pairs of 64-bit numbers.
-/
import Derived.Test.YthopfipaaboffaaPackM
namespace Go.Proofs.Ythopfipaaboffaa.Pure
set_option linter.unusedVariables false
set_option linter.unusedSimpArgs false
open Go.RowKit Go.Proofs.Ythopfipaaboffaa.PA Go.Proofs.YthopfipaaboffaaW.PrintWords Go.Proofs.YthopfipaaboffaaW.PrintLast Go.Proofs.YthopfipaaboffaaW.PrintMore Go.Proofs.YthopfipaaboffaaH

theorem PackParts : treillagelaw01_PackParts.Pure := by
  intro h k hh hk
  have hh := wf_u64 hh
  have hk := wf_u64 hk
  refine ⟨60, ?_⟩
  unfold treillagelaw01_PackParts.f
  have ho : pack_Of.f (h % 16777216) (h / 16777216) = some (h / 16777216 * 16777216 + h % 16777216, true) := by
    rw [of_eq (by omega) (by omega), if_pos (by omega)]
  simp only [index_eq hh, index_eq hk, gen_eq, Option.bind_some, ho, shown_60]
  rw [if_pos (by omega), if_pos trivial]
  by_cases h1 : h % 16777216 = k % 16777216
  · rw [if_pos h1, if_pos]
    by_cases h2 : h = k
    · subst h2; simp
    · have h3 : ¬ h / 16777216 = k / 16777216 := by omega
      rw [show (h == k) = false from by simpa using h2, show (h / 16777216 == k / 16777216) = false from by simpa using h3]; rfl
  · rw [if_neg h1, if_pos]
    have h2 : ¬ h = k := by intro e; exact h1 (by rw [e])
    rw [show (h == k) = false from by simpa using h2]; rfl

end Go.Proofs.Ythopfipaaboffaa.Pure
