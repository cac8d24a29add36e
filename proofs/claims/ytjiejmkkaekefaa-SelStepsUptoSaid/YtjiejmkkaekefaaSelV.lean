
import Derived.Test.YtjiejmkkaekefaaSelC


/-
  The place of what is wrong: no nearer than where it was begun, no farther than the end.
-/
namespace Go.Proofs.Ytjiejmkkaekefaa.PureS
set_option linter.unusedVariables false
set_option linter.unusedSimpArgs false
open Go.RowKit Go.Proofs.Ytjiejmkkaekefaa.PA Go.Proofs.YtjiejmkkaekefaaW.PrintWords Go.Proofs.YtjiejmkkaekefaaW.PrintLast Go.Proofs.YtjiejmkkaekefaaW.PrintMore Go.Proofs.YtjiejmkkaekefaaH

theorem name_err {s : By} {i p : Nat} (hi : i ≤ s.size) (h : name s i = .error p) : i ≤ p ∧ p ≤ s.size := by
  unfold name at h
  have l := stop_le nameB s i hi
  split at h
  · split at h
    · cases h
    · rename_i h2
      injection h with h
      subst h
      have : ¬ stop nameB s i ≤ i + 20 := h2
      omega
  · injection h with h
    omega
theorem value_err {s : By} {i p : Nat} (hi : i ≤ s.size) (h : value s i = .error p) : i ≤ p ∧ p ≤ s.size := by
  unfold value at h
  split at h
  · rename_i h1
    split at h
    · cases h
    · injection h with h
      have l1 := stop_ge noQuote s (i + 1)
      have l2 := stop_le noQuote s (i + 1) h1.1
      omega
  · exact name_err hi h
theorem brackets_err {s : By} {i p : Nat} (hi : i ≤ s.size) (h : brackets s i = .error p) : i ≤ p ∧ p ≤ s.size := by
  unfold brackets at h
  have l0 := skip_le hi
  cases hn : name s (skip s i) with
  | error q =>
    rw [hn] at h
    injection h with h
    subst h
    have := name_err l0.2 hn
    omega
  | ok r =>
    obtain ⟨n, m⟩ := r
    rw [hn] at h
    have l1 := name_le hn
    have l2 := skip_le l1.2
    dsimp only at h
    split at h
    · rename_i c1
      have l3 := skip_le (s := s) (i := skip s m + 1) c1.1
      cases hv : value s (skip s (skip s m + 1)) with
      | error q =>
        rw [hv] at h
        injection h with h
        subst h
        have := value_err l3.2 hv
        omega
      | ok r =>
        obtain ⟨v, o⟩ := r
        rw [hv] at h
        have l4 := value_le hv
        have l5 := skip_le l4.2
        dsimp only at h
        split at h
        · cases h
        · injection h with h
          omega
    · split at h
      · cases h
      · injection h with h
        omega
theorem tests_err {s : By} : ∀ (d : Nat) (acc : List Tst) (i : Nat) {p : Nat}, i ≤ s.size → tests s d acc i = .error p → i ≤ p ∧ p ≤ s.size := by
  intro d
  induction d with
  | zero => intro acc i p hi h; rw [tests] at h; cases h
  | succ d ih =>
    intro acc i p hi h
    rw [tests] at h
    have nm : ∀ (q : Int), i < s.size → (match name s (i + 1) with | .error p => (.error p : Res (List Tst)) | .ok (n, j) => tests s d (acc ++ [(⟨q, n, ⟨#[]⟩⟩ : Tst)]) j) = .error p → i ≤ p ∧ p ≤ s.size := by
      intro q hlt h
      cases hn : name s (i + 1) with
      | error p' =>
        rw [hn] at h
        injection h with h
        subst h
        have := name_err (i := i + 1) hlt hn
        omega
      | ok r =>
        obtain ⟨n, m⟩ := r
        rw [hn] at h
        have l1 := name_le hn
        have := ih _ _ l1.2 h
        omega
    split at h
    · rename_i c; exact nm 3 c.1 h
    · split at h
      · rename_i c; exact nm 2 c.1 h
      · split at h
        · rename_i c3
          have hlt := c3.1
          cases hn : brackets s (i + 1) with
          | error p' =>
            rw [hn] at h
            injection h with h
            subst h
            have := brackets_err (i := i + 1) hlt hn
            omega
          | ok r =>
            obtain ⟨n, m⟩ := r
            rw [hn] at h
            have l1 := brackets_le c3.1 hn
            have := ih _ _ l1.2 h
            omega
        · cases h
theorem closed_err {s : By} {i p : Nat} {r : Res (List Tst)} (h : closed i r = .error p) : r = .error p ∨ ∃ c, r = .ok (c, i) ∧ p = i := by
  cases r with
  | error q => exact Or.inl h
  | ok r =>
    obtain ⟨c, j⟩ := r
    unfold closed at h
    dsimp only at h
    split at h
    · rename_i e
      injection h with h
      subst e
      exact Or.inr ⟨c, rfl, h.symm⟩
    · cases h
theorem compound_err {s : By} {i p : Nat} (hi : i ≤ s.size) (h : compound s i = .error p) : i ≤ p ∧ p ≤ s.size := by
  unfold compound at h
  split at h
  · rename_i c1
    rcases closed_err (s := s) h with h | ⟨c, _, rfl⟩
    · have := tests_err _ _ _ c1.1 h
      omega
    · omega
  · split at h
    · cases hn : name s i with
      | error q =>
        rw [hn] at h
        injection h with h
        subst h
        exact name_err hi hn
      | ok r =>
        obtain ⟨n, m⟩ := r
        rw [hn] at h
        have l1 := name_le hn
        rcases closed_err (s := s) h with h | ⟨c, _, rfl⟩
        · have := tests_err _ _ _ l1.2 h
          omega
        · omega
    · rcases closed_err (s := s) h with h | ⟨c, _, rfl⟩
      · exact tests_err _ _ _ hi h
      · omega
theorem steps_err {s : By} : ∀ (d i : Nat) (acc : List Stp) (child : Bool) {p : Nat}, s.size - i < d → i ≤ s.size → steps s d acc child i = .error p → i ≤ p ∧ p ≤ s.size := by
  intro d
  induction d with
  | zero => intro i acc child p hd; omega
  | succ d ih =>
    intro i acc child p hd hi h
    rw [steps] at h
    cases e : compound s i with
    | error q =>
      rw [e] at h
      injection h with h
      subst h
      exact compound_err hi e
    | ok r =>
      obtain ⟨c, m⟩ := r
      rw [e] at h
      have l1 := compound_le hi e
      have l2 := skip_le l1.2.1
      dsimp only at h
      split at h
      · cases h
      · rename_i c1
        have hlt : skip s m < s.size := by
          rcases Nat.eq_or_lt_of_le l2.2 with h | h
          · exact absurd (Or.inl h) c1
          · exact h
        split at h
        · have l3 := skip_le (s := s) (i := skip s m + 1) hlt
          have := ih _ _ _ (by omega) l3.2 h
          omega
        · split at h
          · have := ih _ _ _ (by omega) l2.2 h
            omega
          · injection h with h
            omega
theorem row_err {s : By} {i p : Nat} (hi : i ≤ s.size) (h : row s i = .error p) : i ≤ p ∧ p ≤ s.size := by
  have l0 := skip_le hi
  have := steps_err _ _ _ _ (by omega) l0.2 h
  omega
theorem rows_err {s : By} : ∀ (d i : Nat) (acc : List (List Stp)) {p : Nat}, s.size - i < d → i ≤ s.size → rows s d acc i = .error p → i ≤ p ∧ p ≤ s.size := by
  intro d
  induction d with
  | zero => intro i acc p hd; omega
  | succ d ih =>
    intro i acc p hd hi h
    rw [rows] at h
    cases e : row s i with
    | error q =>
      rw [e] at h
      injection h with h
      subst h
      exact row_err hi e
    | ok r =>
      obtain ⟨q, m⟩ := r
      rw [e] at h
      have l1 := row_le hi e
      dsimp only at h
      split at h
      · rename_i c1
        have := ih _ _ (by omega) c1.1 h
        omega
      · cases h
theorem parse_err {s : By} {p : Nat} (h : parse s = .error p) : p ≤ s.size := (rows_err _ _ _ (by omega) (Nat.zero_le _) h).2
end Go.Proofs.Ytjiejmkkaekefaa.PureS
