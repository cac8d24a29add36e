
import Derived.Test.YtjiejmkkaekefaaSelB


/-
  Rows, and a whole text, are read as the plain words say: what sel.Parse tells.
-/
namespace Go.Proofs.Ytjiejmkkaekefaa.PureS
set_option linter.unusedVariables false
set_option linter.unusedSimpArgs false
open Go.RowKit Go.Proofs.Ytjiejmkkaekefaa.PA Go.Proofs.YtjiejmkkaekefaaW.PrintWords Go.Proofs.YtjiejmkkaekefaaW.PrintLast Go.Proofs.YtjiejmkkaekefaaW.PrintMore Go.Proofs.YtjiejmkkaekefaaH

theorem steps_f {s : By} (hs : s.size ≤ 1000000000000) : ∀ (d i : Nat) (acc : List Stp) (child : Bool), s.size - i < d → i ≤ s.size → acc.length ≤ i → Ev fun k => sel_reader_row.l0 k acc child s i = some (cv s (steps s d acc child i)) := by
  intro d
  induction d with
  | zero => intro i acc child h; omega
  | succ d ih =>
    intro i acc child hd hi hacc
    have hc := compound_f hs hi
    rw [steps]
    cases e : compound s i with
    | error p =>
      refine hc.succ fun k hk => ?_
      rw [sel_reader_row.l0, hk, Option.bind_some, e]
      rfl
    | ok r =>
      obtain ⟨c, m⟩ := r
      have l1 := compound_le hi e
      have l2 := skip_le l1.2.1
      have hb := blanks_f (s := s) (by omega) l1.2.1
      dsimp only
      -- the walk up to the meeting
      have up : ∀ {X : Except Int (List Stp × By × Int)}, (Ev fun k => sel_reader_row.j1 k (acc ++ [⟨c, child⟩]) (decide (m < skip s m)) (decide (skip s m = s.size ∨ bt s (skip s m) = 44)) s (skip s m) = some X) → Ev fun k => sel_reader_row.l0 k acc child s i = some X := by
        intro X hX
        refine (hc.and (hb.and hX)).succ fun k hk => ?_
        rw [sel_reader_row.l0, hk.1, Option.bind_some, e]
        show (if acc.length < 4398046511104 then ((some (acc ++ [(⟨c, child⟩ : Stp)])).bind fun y => ((sel_reader_blanks.f k s m).bind fun b => _)) else none) = _
        rw [if_pos (by omega), Option.bind_some, hk.2.1, Option.bind_some]
        dsimp only
        by_cases h1 : skip s m = s.size
        · rw [if_pos (by omega)]
          have := hk.2.2
          rw [decide_eq_true (show skip s m = s.size ∨ bt s (skip s m) = 44 from Or.inl h1)] at this
          exact this
        · rw [if_neg (by omega), next_eq l2.2, Option.bind_some]
          have := hk.2.2
          have h2 : decide (skip s m = s.size ∨ bt s (skip s m) = 44) = (bt s (skip s m) == 44) := by
            by_cases h3 : bt s (skip s m) = 44
            · rw [decide_eq_true (Or.inr h3)]; exact (beq_iff_eq.2 h3).symm
            · rw [decide_eq_false (fun hh => hh.elim h1 h3)]; exact (beq_eq_false_iff_ne.2 h3).symm
          rw [h2] at this
          exact this
      by_cases c1 : skip s m = s.size ∨ bt s (skip s m) = 44
      · rw [if_pos c1]
        refine up ⟨1, fun k hk => ?_⟩
        obtain ⟨k, rfl⟩ : ∃ k', k = k' + 1 := ⟨k - 1, by omega⟩
        rw [decide_eq_true c1, sel_reader_row.j1, if_pos rfl]
        rfl
      · rw [if_neg c1]
        have hlt : skip s m < s.size := by
          rcases Nat.eq_or_lt_of_le l2.2 with h | h
          · exact absurd (Or.inl h) c1
          · exact h
        by_cases c2 : bt s (skip s m) = 62
        · rw [if_pos c2]
          have hb2 := blanks_f (s := s) (by omega) (i := skip s m + 1) hlt
          have l3 := skip_le (s := s) (i := skip s m + 1) hlt
          refine up ((hb2.and (ih (skip s (skip s m + 1)) (acc ++ [⟨c, child⟩]) true (by omega) l3.2 (by rw [List.length_append, List.length_singleton]; omega))).succ fun k hk => ?_)
          rw [decide_eq_false c1, sel_reader_row.j1, if_neg (by decide), took_yes (by omega) ⟨hlt, c2⟩, Option.bind_some]
          dsimp only
          rw [if_pos rfl, hk.1, Option.bind_some]
          exact hk.2
        · rw [if_neg c2]
          by_cases c3 : m < skip s m
          · rw [if_pos c3]
            refine up ((ih (skip s m) (acc ++ [⟨c, child⟩]) false (by omega) l2.2 (by rw [List.length_append, List.length_singleton]; omega)).succ fun k hk => ?_)
            rw [decide_eq_false c1, sel_reader_row.j1, if_neg (by decide), took_no (fun hh => c2 hh.2), Option.bind_some]
            dsimp only
            rw [if_neg (by decide), if_pos (decide_eq_true c3)]
            exact hk
          · rw [if_neg c3]
            refine up ⟨1, fun k hk => ?_⟩
            obtain ⟨k, rfl⟩ : ∃ k', k = k' + 1 := ⟨k - 1, by omega⟩
            rw [decide_eq_false c1, sel_reader_row.j1, if_neg (by decide), took_no (fun hh => c2 hh.2), Option.bind_some]
            dsimp only
            rw [if_neg (by decide), decide_eq_false c3, if_neg (by decide)]
            rfl
theorem row_f {s : By} (hs : s.size ≤ 1000000000000) {i : Nat} (hi : i ≤ s.size) : Ev fun k => sel_reader_row.f k s i = some (cv s (row s i)) := by
  have l0 := skip_le hi
  refine ((blanks_f (s := s) (by omega) hi).and (steps_f hs (s.size + 1) (skip s i) [] false (by omega) l0.2 (by simp))).mono fun k hk => ?_
  unfold sel_reader_row.f
  rw [hk.1, Option.bind_some]
  exact hk.2
theorem steps_le {s : By} : ∀ (d i : Nat) (acc : List Stp) (child : Bool) {l : List Stp} {j : Nat}, i ≤ s.size → steps s d acc child i = .ok (l, j) → i < j ∧ j ≤ s.size ∧ (j = s.size ∨ bt s j = 44) := by
  intro d
  induction d with
  | zero => intro i acc child l j hi h; rw [steps] at h; cases h
  | succ d ih =>
    intro i acc child l j hi h
    rw [steps] at h
    cases e : compound s i with
    | error p => rw [e] at h; cases h
    | ok r =>
      obtain ⟨c, m⟩ := r
      rw [e] at h
      have l1 := compound_le hi e
      have l2 := skip_le l1.2.1
      dsimp only at h
      split at h
      · rename_i c1
        injection h with h
        injection h with h1 h2
        subst h2
        exact ⟨by omega, l2.2, c1⟩
      · rename_i c1
        have hlt : skip s m < s.size := by
          rcases Nat.eq_or_lt_of_le l2.2 with h | h
          · exact absurd (Or.inl h) c1
          · exact h
        split at h
        · have l3 := skip_le (s := s) (i := skip s m + 1) hlt
          obtain ⟨q1, q2, q3⟩ := ih _ _ _ l3.2 h
          exact ⟨by omega, q2, q3⟩
        · split at h
          · obtain ⟨q1, q2, q3⟩ := ih _ _ _ l2.2 h
            exact ⟨by omega, q2, q3⟩
          · cases h
theorem row_le {s : By} {i : Nat} (hi : i ≤ s.size) {l : List Stp} {j : Nat} (h : row s i = .ok (l, j)) : i < j ∧ j ≤ s.size ∧ (j = s.size ∨ bt s j = 44) := by
  have l0 := skip_le hi
  obtain ⟨q1, q2, q3⟩ := steps_le _ _ _ _ l0.2 h
  exact ⟨by omega, q2, q3⟩
def cvP : Except Nat (List (List Stp)) → Except Int (List (List Stp))
  | .error p => .error (p : Int)
  | .ok l => .ok l
theorem rows_f {s : By} (hs : s.size ≤ 1000000000000) : ∀ (d i : Nat) (acc : List (List Stp)), s.size - i < d → i ≤ s.size → acc.length ≤ i → Ev fun k => sel_Parse.l0 k acc s i = some (cvP (rows s d acc i)) := by
  intro d
  induction d with
  | zero => intro i acc h; omega
  | succ d ih =>
    intro i acc hd hi hacc
    have hr := row_f hs hi
    rw [rows]
    cases e : row s i with
    | error p =>
      refine hr.succ fun k hk => ?_
      rw [sel_Parse.l0, hk, Option.bind_some, e]
      rfl
    | ok r =>
      obtain ⟨l, j⟩ := r
      have l1 := row_le hi e
      dsimp only
      by_cases c1 : isB s j 44
      · rw [if_pos c1]
        refine (hr.and (ih (j + 1) (acc ++ [l]) (by omega) c1.1 (by rw [List.length_append, List.length_singleton]; omega))).succ fun k hk => ?_
        rw [sel_Parse.l0, hk.1, Option.bind_some, e]
        show (if acc.length < 5864062014805 then ((sel_reader_took.f s j 44).bind fun c => (if c.1 = true then (sel_Parse.l0 k (acc ++ [l]) c.2.1 c.2.2) else (some (Except.ok (ε := Int) (acc ++ [l]))))) else none) = _
        rw [if_pos (by omega), took_yes (by omega) c1, Option.bind_some, if_pos rfl]
        exact hk.2
      · rw [if_neg c1]
        refine hr.succ fun k hk => ?_
        rw [sel_Parse.l0, hk, Option.bind_some, e]
        show (if acc.length < 5864062014805 then ((sel_reader_took.f s j 44).bind fun c => (if c.1 = true then (sel_Parse.l0 k (acc ++ [l]) c.2.1 c.2.2) else (some (Except.ok (ε := Int) (acc ++ [l]))))) else none) = _
        rw [if_pos (by omega), took_no c1, Option.bind_some, if_neg (by simp)]
        rfl
/-- What sel.Parse tells. -/
def told : Except Nat (List (List Stp)) → List (List Stp) × Int × Int
  | .error p => ([], (p : Int), 90)
  | .ok l => (l, 0, 0)
theorem parse_f {s : By} (hs : s.size ≤ 1000000000000) : Ev fun k => sel_Parse.f k s = some (told (parse s)) := by
  refine (rows_f hs (s.size + 1) 0 [] (by omega) (Nat.zero_le _) (by simp)).mono fun k hk => ?_
  unfold sel_Parse.f parse
  have : ((0 : Nat) : Int) = 0 := rfl
  rw [this] at hk
  rw [hk, Option.bind_some]
  cases rows s (s.size + 1) [] 0 <;> rfl
end Go.Proofs.Ytjiejmkkaekefaa.PureS
