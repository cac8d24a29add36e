/-
  The selector of any text, or the place of what is wrong, is the reference's.
-/
import Derived.Test.YtjiejmkkaekefaaSelU
import Derived.Test.YtjiejmkkaekefaaSelV
namespace Go.Proofs.Ytjiejmkkaekefaa.Pure
set_option linter.unusedVariables false
set_option linter.unusedSimpArgs false
open Go.RowKit Go.Proofs.Ytjiejmkkaekefaa.PA Go.Proofs.YtjiejmkkaekefaaW.PrintWords Go.Proofs.YtjiejmkkaekefaaW.PrintLast Go.Proofs.YtjiejmkkaekefaaW.PrintMore Go.Proofs.YtjiejmkkaekefaaH
open Go.Proofs.Ytjiejmkkaekefaa.PureS

theorem SelParses : treillagelaw09_SelParses.Pure := by
  intro s _
  obtain ⟨K0, h0⟩ := shown_f
  by_cases c : (s.size : Int) > 300
  · refine ⟨K0 + 1, ?_⟩
    unfold treillagelaw09_SelParses.f
    have e0 := h0 K0 (Nat.le_refl _)
    rw [if_pos c, treillagelaw09_SelParses.j0, if_pos rfl, e0]
    rfl
  · have z := told_small (s := s) (by omega)
    obtain ⟨K1, h1⟩ := parse_f (s := s) (by omega)
    obtain ⟨K2, h2⟩ := rparse_f (s := s) (by omega)
    obtain ⟨K3, h3⟩ := its_f z
    obtain ⟨K4, h4⟩ := same_refl (small_its z)
    obtain ⟨k, hk⟩ : ∃ k, k = K0 + K1 + K2 + K3 + K4 := ⟨_, rfl⟩
    refine ⟨k + 1, ?_⟩
    have e0 : treillagelaw09_shown.f (k + 1) = some true := h0 (k + 1) (by omega)
    have e1 := h1 k (by omega)
    have e2 := h2 k (by omega)
    have e3 := h3 k (by omega)
    have e4 := h4 k (by omega)
    unfold treillagelaw09_SelParses.f
    rw [if_neg c, e0, Option.bind_some, treillagelaw09_SelParses.j0, if_neg (by decide), e1, Option.bind_some, e2, Option.bind_some, e3, Option.bind_some, rtold_its, e4, Option.bind_some, if_pos rfl, if_pos rfl, if_pos rfl]
    cases e : parse s with
    | error p =>
      have := parse_err e
      unfold told
      dsimp only
      rw [if_pos (by omega), decide_eq_true (by omega)]
    | ok l =>
      unfold told
      dsimp only
      rw [if_pos (by omega), decide_eq_true (by omega)]
end Go.Proofs.Ytjiejmkkaekefaa.Pure
