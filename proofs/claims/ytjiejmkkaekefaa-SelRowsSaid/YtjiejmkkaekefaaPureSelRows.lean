
import Derived.Test.YtjiejmkkaekefaaSelI
import Derived.Test.YtjiejmkkaekefaaSelK
import Derived.Test.YtjiejmkkaekefaaPAx32
/-
  Two selectors with a comma between are the rows of both.
-/
namespace Go.Proofs.Ytjiejmkkaekefaa.Pure
set_option linter.unusedVariables false
set_option linter.unusedSimpArgs false
open Go.RowKit Go.Proofs.Ytjiejmkkaekefaa.PA Go.Proofs.YtjiejmkkaekefaaW.PrintWords Go.Proofs.YtjiejmkkaekefaaW.PrintLast Go.Proofs.YtjiejmkkaekefaaW.PrintMore Go.Proofs.YtjiejmkkaekefaaH
open Go.Proofs.Ytjiejmkkaekefaa.PureS

theorem its_app (a b : List (List Stp)) : its (a ++ b) = its a ++ its b := by unfold its; rw [List.map_append]
theorem its_len (a : List (List Stp)) : (its a).length = a.length := by unfold its; rw [List.length_map]
theorem SelRows : treillagelaw09_SelRows.Pure := by
  intro s t _ _
  obtain ⟨K0, h0⟩ := shown_f
  have over : (b : Bool) → b = true → ∃ k, treillagelaw09_SelRows.j0 (k + 1) s t b = some true := by
    intro b hb
    refine ⟨K0, ?_⟩
    rw [treillagelaw09_SelRows.j0, if_pos hb, h0 K0 (Nat.le_refl _)]
    rfl
  by_cases c : (s.size : Int) > 150
  · obtain ⟨k, hk⟩ := over true rfl
    refine ⟨k + 1, ?_⟩
    unfold treillagelaw09_SelRows.f
    rw [if_pos c]
    exact hk
  by_cases c2 : (t.size : Int) > 150
  · obtain ⟨k, hk⟩ := over true rfl
    refine ⟨k + 1, ?_⟩
    unfold treillagelaw09_SelRows.f
    rw [if_neg c, if_pos c2]
    exact hk
  have z0 := told_small (s := s) (by omega)
  have z1 := told_small (s := t) (by omega)
  have hu : ((s ++ (⟨#[44]⟩ : By)) ++ t).size = s.size + 1 + t.size := by rw [ByteArray.size_append, ByteArray.size_append]; rfl
  have hu1 : (s ++ (⟨#[44]⟩ : By)).size = s.size + 1 := by rw [ByteArray.size_append]; rfl
  have z2 := told_small (s := (s ++ (⟨#[44]⟩ : By)) ++ t) (by omega)
  obtain ⟨K1, h1⟩ := parse_f (s := s) (by omega)
  obtain ⟨K2, h2⟩ := parse_f (s := t) (by omega)
  obtain ⟨K3, h3⟩ := parse_f (s := (s ++ (⟨#[44]⟩ : By)) ++ t) (by omega)
  obtain ⟨K4, h4⟩ := its_f z0
  obtain ⟨K5, h5⟩ := its_f z1
  obtain ⟨K6, h6⟩ := its_f z2
  obtain ⟨K7, h7⟩ := same_refl (small_its z2)
  obtain ⟨k, hk⟩ : ∃ k, k = K0 + K1 + K2 + K3 + K4 + K5 + K6 + K7 := ⟨_, rfl⟩
  refine ⟨k + 1, ?_⟩
  have e0 : treillagelaw09_shown.f (k + 1) = some true := h0 (k + 1) (by omega)
  have e1 := h1 k (by omega)
  have e2 := h2 k (by omega)
  have e3 := h3 k (by omega)
  have e4 := h4 k (by omega)
  have e5 := h5 k (by omega)
  have e6 := h6 k (by omega)
  have e7 := h7 k (by omega)
  unfold treillagelaw09_SelRows.f
  rw [if_neg c, if_neg c2, e0, Option.bind_some, treillagelaw09_SelRows.j0, if_neg (by decide), e1, Option.bind_some, e2, Option.bind_some, if_pos (by omega), if_pos (by omega), e3, Option.bind_some]
  cases ea : parse s with
  | error p =>
    have n1 : (told (Except.error p : Except Nat (List (List Stp)))).2.2 = 90 := rfl
    rw [n1, if_neg (by decide)]
    cases ec : parse ((s ++ (⟨#[44]⟩ : By)) ++ t) with
    | ok l =>
      have n2 : (told (Except.ok l : Except Nat (List (List Stp)))).2.2 = 0 := rfl
      rw [n2, if_pos rfl]
    | error q =>
      have := parse_first ea ec
      have n2 : (told (Except.error q : Except Nat (List (List Stp)))).2.2 = 90 := rfl
      rw [n2, if_neg (by decide)]
      show some (decide ((q : Int) ≥ (p : Int))) = some true
      rw [decide_eq_true (by omega)]
  | ok l =>
    have hb := parse_both (t := t) ea
    have n1 : (told (Except.ok l : Except Nat (List (List Stp)))).2.2 = 0 := rfl
    rw [n1, if_pos rfl]
    cases eb : parse t with
    | error q =>
      rw [eb] at hb
      have hb : parse ((s ++ (⟨#[44]⟩ : By)) ++ t) = .error (s.size + 1 + q) := hb
      have hq := parse_err eb
      rw [hb]
      have n2 : (told (Except.error q : Except Nat (List (List Stp)))).2.2 = 90 := rfl
      have n3 : (told (Except.error (s.size + 1 + q) : Except Nat (List (List Stp)))).2.2 = 90 := rfl
      have n4 : (told (Except.error (s.size + 1 + q) : Except Nat (List (List Stp)))).2.1 = ((s.size + 1 + q : Nat) : Int) := rfl
      have n5 : (told (Except.error q : Except Nat (List (List Stp)))).2.1 = (q : Int) := rfl
      rw [n2, n3, n4, n5, if_neg (by decide), if_pos rfl, if_pos (by rw [w64 (i := (s.size : Int) + 1) (by omega) (by omega), w64 (by omega) (by omega)]; omega)]
      rfl
    | ok m =>
      rw [eb] at hb
      have hb : parse ((s ++ (⟨#[44]⟩ : By)) ++ t) = .ok (l ++ m) := hb
      rw [ea] at e4 z0
      rw [eb] at e5 z1
      rw [hb] at e6 e7 z2
      rw [hb]
      have e4 : treillagelaw09_its.f k l = some (its l) := e4
      have e5 : treillagelaw09_its.f k m = some (its m) := e5
      have e6 : treillagelaw09_its.f k (l ++ m) = some (its (l ++ m)) := e6
      have e7 : treillageref09_Same.f k (its (l ++ m)) (its (l ++ m)) = some true := e7
      have n2 : (told (Except.ok m : Except Nat (List (List Stp)))) = (m, 0, 0) := rfl
      have n3 : (told (Except.ok (l ++ m) : Except Nat (List (List Stp)))) = (l ++ m, 0, 0) := rfl
      have n4 : (told (Except.ok l : Except Nat (List (List Stp)))) = (l, 0, 0) := rfl
      have z3 : l.length ≤ 1000000000 := z0.1
      have z4 : m.length ≤ 1000000000 := z1.1
      rw [n2, n3, n4, if_pos rfl, if_pos rfl, e6, Option.bind_some, e4, Option.bind_some, e5, Option.bind_some, if_pos (by rw [its_len, its_len]; omega), ← its_app, e7]
      rfl
end Go.Proofs.Ytjiejmkkaekefaa.Pure
