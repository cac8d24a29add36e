/-
  Of two numbers of one sign the greater one is zigzagged to the greater one (below zero: to the lesser one); on all pairs of 64-bit numbers.
-/
import Derived.Test.YthopfipaaboffaaPackM
namespace Go.Proofs.Ythopfipaaboffaa.Pure
set_option linter.unusedVariables false
set_option linter.unusedSimpArgs false
open Go.RowKit Go.Proofs.Ythopfipaaboffaa.PA Go.Proofs.YthopfipaaboffaaW.PrintWords Go.Proofs.YthopfipaaboffaaW.PrintLast Go.Proofs.YthopfipaaboffaaW.PrintMore Go.Proofs.YthopfipaaboffaaH

theorem PackRises : treillagelaw01_PackRises.Pure := by
  intro a b ha hb
  have ha := wf_i64 ha
  have hb := wf_i64 hb
  refine ⟨61, ?_⟩
  have hs : treillagelaw01_shown.f 60 = some true := shown_60
  have key : ∀ x : Bool, treillagelaw01_PackRises.j0 (60 + 1) a b true = some true := fun _ => by
    simp only [treillagelaw01_PackRises.j0, hs]; rfl
  have key2 : (decide (a < 0) != decide (b < 0)) = false → a ≠ b → treillagelaw01_PackRises.j0 (60 + 1) a b false = some true := by
    intro h1 hne
    simp only [treillagelaw01_PackRises.j0, hs, zig_eq ha, zig_eq hb, Option.bind_some, Bool.false_eq_true, if_false]
    by_cases h0 : a < 0
    · have h0' : b < 0 := by
        by_cases h : b < 0
        · exact h
        · simp [h0, h] at h1
      rw [if_pos h0, if_pos]
      unfold zig
      rw [if_neg (by omega), if_neg (by omega)]
      by_cases hab : a < b
      · simp [hab]
      · simp [hab]
    · have h0' : ¬ b < 0 := by
        intro h
        simp [h0, h] at h1
      rw [if_neg h0, if_pos]
      unfold zig
      rw [if_pos (by omega), if_pos (by omega)]
      by_cases hab : a < b
      · simp [hab]
      · simp [hab]
  unfold treillagelaw01_PackRises.f
  split
  · exact key true
  · rename_i h
    by_cases he : a = b
    · rw [show (a == b) = true from by simpa using he]; exact key true
    · rw [show (a == b) = false from by simpa using he]; exact key2 (by simpa using h) he

end Go.Proofs.Ythopfipaaboffaa.Pure
