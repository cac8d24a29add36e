/-
  What is parsed is printed, and that is parsed to the same, and printed to the same.
-/
import Derived.Test.YtjiejmkkaekefaaSelM
import Derived.Test.YtjiejmkkaekefaaPAx33
namespace Go.Proofs.Ytjiejmkkaekefaa.Pure
set_option linter.unusedVariables false
set_option linter.unusedSimpArgs false
open Go.RowKit Go.Proofs.Ytjiejmkkaekefaa.PA Go.Proofs.YtjiejmkkaekefaaW.PrintWords Go.Proofs.YtjiejmkkaekefaaW.PrintLast Go.Proofs.YtjiejmkkaekefaaW.PrintMore Go.Proofs.YtjiejmkkaekefaaH
open Go.Proofs.Ytjiejmkkaekefaa.PureS

theorem okL_short {M : Nat} (hM : M ≤ 300) {l : List (List Stp)} (hl : okL l) (h1 : l.length ≤ M) (h2 : ∀ r ∈ l, r.length ≤ M ∧ ∀ x ∈ r, x.f0.length ≤ M) : Short l := by
  have hr : ∀ r ∈ l, ∀ x ∈ r, okC x.f0 := fun r hr x hx => by
    obtain ⟨_, _, _, _, g⟩ := hl.2 r hr
    exact g x hx
  have a := slist_size (M := 300) (N := 300) l (fun r hr' => ⟨by have := (h2 r hr').1; omega, fun x hx => ⟨hr r hr' x hx, by have := (h2 r hr').2 x hx; omega⟩⟩)
  refine ⟨?_, fun r hr' => ?_⟩
  · rw [text_eq]
    have : ((90 * 300 + 4) * 300 + 2) * l.length ≤ ((90 * 300 + 4) * 300 + 2) * 300 := Nat.mul_le_mul_left _ (by omega)
    omega
  · rw [rtx0]
    have b := srow_size (M := 300) r (fun x hx => ⟨hr r hr' x hx, by have := (h2 r hr').2 x hx; omega⟩)
    have := (h2 r hr').1
    have : (90 * 300 + 4) * r.length ≤ (90 * 300 + 4) * 300 := Nat.mul_le_mul_left _ (by omega)
    omega
theorem parse_short {s : By} (hs : s.size ≤ 300) {l : List (List Stp)} (h : parse s = .ok l) : Short l := by
  obtain ⟨h1, h2⟩ := rows_small _ _ _ (Nat.zero_le _) (by simp) (fun r hr => (by cases hr)) h
  exact okL_short hs (parse_okL h) h1 h2
/-- Printing what was read. -/
theorem print_ok {l : List (List Stp)} (h : Small l) (hz : Short l) (hl : okL l) : Ev fun k => sel_Print.f k l = some (text l, 0) := by
  obtain ⟨r, hr, hq⟩ := print_f h hz
  rw [hq.2 (parse_text hl)] at hr
  exact hr
theorem SelBack : treillagelaw09_SelBack.Pure := by
  intro s _
  obtain ⟨K0, h0⟩ := shown_f
  by_cases c : (s.size : Int) > 300
  · refine ⟨K0 + 1, ?_⟩
    unfold treillagelaw09_SelBack.f
    rw [if_pos c, treillagelaw09_SelBack.j0, if_pos rfl, h0 K0 (Nat.le_refl _)]
    rfl
  obtain ⟨K1, h1⟩ := parse_f (s := s) (by omega)
  cases e : parse s with
  | error p =>
    refine ⟨K0 + K1 + 1, ?_⟩
    have e0 : treillagelaw09_shown.f (K0 + K1 + 1) = some true := h0 _ (by omega)
    have e1 := h1 (K0 + K1) (by omega)
    rw [e] at e1
    have n1 : (told (Except.error p : Except Nat (List (List Stp)))) = ([], (p : Int), 90) := rfl
    unfold treillagelaw09_SelBack.f
    rw [if_neg c, e0, Option.bind_some, treillagelaw09_SelBack.j0, if_neg (by decide), e1, Option.bind_some, n1, if_neg (show ¬ ((90 : Int) = 0) by decide)]
    rfl
  | ok l =>
    have hl := parse_okL e
    have hsm := parse_small (by omega) e
    have hsh := parse_short (by omega) e
    obtain ⟨K2, h2⟩ := print_ok hsm hsh hl
    obtain ⟨K3, h3⟩ := parse_f (s := text l) (by have := hsh.1; omega)
    obtain ⟨K4, h4⟩ := its_f hsm
    obtain ⟨K5, h5⟩ := same_refl (small_its hsm)
    obtain ⟨k, hk⟩ : ∃ k, k = K0 + K1 + K2 + K3 + K4 + K5 := ⟨_, rfl⟩
    refine ⟨k + 1, ?_⟩
    have e0 : treillagelaw09_shown.f (k + 1) = some true := h0 (k + 1) (by omega)
    have e1 := h1 k (by omega)
    have e2 := h2 k (by omega)
    have e3 := h3 k (by omega)
    have e4 := h4 k (by omega)
    have e5 := h5 k (by omega)
    rw [e] at e1
    rw [parse_text hl] at e3
    have n1 : (told (Except.ok l : Except Nat (List (List Stp)))) = (l, 0, 0) := rfl
    unfold treillagelaw09_SelBack.f
    rw [if_neg c, e0, Option.bind_some, treillagelaw09_SelBack.j0, if_neg (by decide), e1, Option.bind_some, n1, if_pos rfl, e2, Option.bind_some, e3, Option.bind_some, n1, e2, Option.bind_some, if_pos rfl, if_pos rfl, if_pos rfl, e4, Option.bind_some, Option.bind_some, e5, Option.bind_some, if_pos rfl]
    rw [by_eq.2 rfl]
end Go.Proofs.Ytjiejmkkaekefaa.Pure
