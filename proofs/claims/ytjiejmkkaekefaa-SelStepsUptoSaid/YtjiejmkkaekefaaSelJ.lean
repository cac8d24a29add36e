
import Derived.Test.YtjiejmkkaekefaaSelV


/-
  A text with a comma and another behind it: how the first is read, and how the second.
-/
namespace Go.Proofs.Ytjiejmkkaekefaa.PureS
set_option linter.unusedVariables false
set_option linter.unusedSimpArgs false
open Go.RowKit Go.Proofs.Ytjiejmkkaekefaa.PA Go.Proofs.YtjiejmkkaekefaaW.PrintWords Go.Proofs.YtjiejmkkaekefaaW.PrintLast Go.Proofs.YtjiejmkkaekefaaW.PrintMore Go.Proofs.YtjiejmkkaekefaaH

theorem stop_eq {p : Int → Bool} {s : By} {i m : Nat} (h1 : i ≤ m) (h2 : m ≤ s.size) (h3 : ∀ q : Nat, i ≤ q → q < m → p (bt s q) = true) (h4 : ¬ (m < s.size ∧ p (bt s m) = true)) : stop p s i = m := by
  have a := stop_at p s i
  have b := stop_ge p s i
  have c := stop_le p s i (by omega)
  have d := stop_in p s i
  rcases Nat.lt_trichotomy (stop p s i) m with h | h | h
  · exact absurd ⟨by omega, h3 _ b h⟩ a
  · exact h
  · exact absurd ⟨by omega, d m h1 h⟩ h4
/-- A text that goes on, by a comma, behind s. -/
structure Fore (s u : By) : Prop where
  lt : s.size < u.size
  get : ∀ m : Nat, m < s.size → bt u m = bt s m
  comma : bt u s.size = 44
  ex : ∀ i j : Nat, j ≤ s.size → u.extract i j = s.extract i j
theorem Fore.stop {s u : By} (h : Fore s u) {p : Int → Bool} (hp : p 44 = false) {i : Nat} (hi : i ≤ s.size) : stop p u i = stop p s i := by
  have a := stop_at p s i
  have b := stop_ge p s i
  have c := stop_le p s i hi
  have d := stop_in p s i
  refine stop_eq b (by have := h.lt; omega) (fun q h1 h2 => ?_) (fun hh => ?_)
  · rw [h.get q (by omega)]; exact d q h1 h2
  · rcases Nat.lt_or_ge (PureS.stop p s i) s.size with e | e
    · rw [h.get _ e] at hh; exact a ⟨e, hh.2⟩
    · have e2 : PureS.stop p s i = s.size := by omega
      rw [e2, h.comma, hp] at hh
      cases hh.2
theorem Fore.skip {s u : By} (h : Fore s u) {i : Nat} (hi : i ≤ s.size) : skip u i = skip s i := h.stop (by decide) hi
theorem Fore.isB {s u : By} (h : Fore s u) {i : Nat} {b : Int} (hi : i ≤ s.size) (hb : b ≠ 44) : isB u i b ↔ isB s i b := by
  have := h.lt
  refine ⟨fun hh => ?_, fun hh => ⟨by have := hh.1; omega, by rw [h.get _ hh.1]; exact hh.2⟩⟩
  rcases Nat.lt_or_ge i s.size with e | e
  · exact ⟨e, by rw [← h.get _ e]; exact hh.2⟩
  · have e2 : i = s.size := by omega
    have := hh.2
    rw [e2, h.comma] at this
    exact absurd this.symm hb
theorem Fore.name {s u : By} (h : Fore s u) {i : Nat} (hi : i ≤ s.size) : name u i = name s i := by
  have hl := h.lt
  have e : run u i = run s i := h.stop (by decide) hi
  have c : run s i ≤ s.size := stop_le _ _ _ hi
  unfold PureS.name
  rw [e, h.ex i _ c]
  by_cases hh : i < s.size ∧ letter (bt s i) = true
  · rw [if_pos hh, if_pos ⟨by omega, by rw [h.get _ hh.1]; exact hh.2⟩]
  · rw [if_neg hh, if_neg (fun q => ?_)]
    rcases Nat.lt_or_ge i s.size with e | e
    · exact hh ⟨e, by rw [← h.get _ e]; exact q.2⟩
    · have e2 : i = s.size := by omega
      have := q.2
      rw [e2, h.comma] at this
      cases this
/-- What is read stays so; what was wrong is wrong there, or farther on, or it is read beyond that. -/
def Goes {α : Type} (r ru : Res α) : Prop :=
  match r with
  | .ok x => ru = .ok x
  | .error p => match ru with
    | .error q => p ≤ q
    | .ok (_, j) => p ≤ j
theorem Goes.err {α : Type} {ru : Res α} {p : Nat} (h0 : ∀ q, ru = .error q → p ≤ q) (h1 : ∀ v j, ru = .ok (v, j) → p ≤ j) : Goes (.error p) ru := by
  cases ru with
  | error q => exact h0 q rfl
  | ok x => exact h1 x.1 x.2 rfl
theorem Goes.of_eq {α : Type} {r ru : Res α} (h : ru = r) : Goes r ru := by
  subst h
  cases ru with
  | error q => exact Nat.le_refl _
  | ok x => rfl
theorem Fore.value {s u : By} (h : Fore s u) {i : Nat} (hi : i ≤ s.size) : Goes (value s i) (value u i) := by
  have hl := h.lt
  unfold PureS.value
  by_cases c : PureS.isB s i 34
  · rw [if_pos c, if_pos ((h.isB hi (by decide)).2 c)]
    have a := stop_at noQuote s (i + 1)
    have b := stop_ge noQuote s (i + 1)
    have d := stop_le noQuote s (i + 1) c.1
    have e := stop_in noQuote s (i + 1)
    by_cases hm : PureS.stop noQuote s (i + 1) < s.size
    · have e2 : PureS.stop noQuote u (i + 1) = PureS.stop noQuote s (i + 1) := by
        refine stop_eq b (by omega) (fun q h1 h2 => by rw [h.get q (by omega)]; exact e q h1 h2) (fun hh => ?_)
        rw [h.get _ hm] at hh
        exact a ⟨hm, hh.2⟩
      refine Goes.of_eq ?_
      rw [e2, h.ex _ _ d]
      by_cases c2 : PureS.stop noQuote s (i + 1) ≤ i + 61
      · rw [if_pos ⟨by omega, c2⟩, if_pos ⟨hm, c2⟩]
      · rw [if_neg (fun q => c2 q.2), if_neg (fun q => c2 q.2)]
    · rw [if_neg (fun q => hm q.1)]
      have ge : s.size ≤ PureS.stop noQuote u (i + 1) := by
        have a' := stop_at noQuote u (i + 1)
        have b' := stop_ge noQuote u (i + 1)
        rcases Nat.lt_or_ge (PureS.stop noQuote u (i + 1)) s.size with q | q
        · exact absurd ⟨by omega, by rw [h.get _ q]; exact e _ b' (by omega)⟩ a'
        · exact q
      refine Goes.err (fun q hq => ?_) (fun v j hq => ?_)
      · split at hq
        · cases hq
        · injection hq with hq
          omega
      · split at hq
        · injection hq with hq
          injection hq with h1 h2
          omega
        · cases hq
  · rw [if_neg c, if_neg (fun q => c ((h.isB hi (by decide)).1 q))]
    exact Goes.of_eq (h.name hi)
theorem Fore.brackets {s u : By} (h : Fore s u) {i : Nat} (hi : i ≤ s.size) : Goes (brackets s i) (brackets u i) := by
  have hl := h.lt
  unfold PureS.brackets
  have l0 := skip_le hi
  rw [h.skip hi, h.name l0.2]
  cases hn : PureS.name s (PureS.skip s i) with
  | error p => exact Nat.le_refl _
  | ok r =>
    obtain ⟨n, j⟩ := r
    have l1 := name_le hn
    have l2 := skip_le l1.2
    dsimp only
    rw [h.skip l1.2]
    by_cases c1 : PureS.isB s (PureS.skip s j) 61
    · rw [if_pos c1, if_pos ((h.isB l2.2 (by decide)).2 c1)]
      have l3 := skip_le (s := s) (i := PureS.skip s j + 1) c1.1
      rw [h.skip c1.1]
      have hv := h.value l3.2
      cases ev : PureS.value s (PureS.skip s (PureS.skip s j + 1)) with
      | ok r =>
        obtain ⟨v, m⟩ := r
        rw [ev] at hv
        have hv : PureS.value u (PureS.skip s (PureS.skip s j + 1)) = .ok (v, m) := hv
        have l4 := value_le ev
        have l5 := skip_le l4.2
        rw [hv]
        dsimp only
        rw [h.skip l4.2]
        refine Goes.of_eq ?_
        by_cases c2 : PureS.isB s (PureS.skip s m) 93
        · rw [if_pos c2, if_pos ((h.isB l5.2 (by decide)).2 c2)]
        · rw [if_neg c2, if_neg (fun q => c2 ((h.isB l5.2 (by decide)).1 q))]
      | error p =>
        rw [ev] at hv
        dsimp only
        cases eu : PureS.value u (PureS.skip s (PureS.skip s j + 1)) with
        | error q => rw [eu] at hv; exact hv
        | ok r =>
          obtain ⟨v, m⟩ := r
          rw [eu] at hv
          have hv : p ≤ m := hv
          have l4 := value_le eu
          have l5 := skip_le l4.2
          refine Goes.err (fun q hq => ?_) (fun v' j' hq => ?_)
          · dsimp only at hq
            split at hq
            · cases hq
            · injection hq with hq; omega
          · dsimp only at hq
            split at hq
            · injection hq with hq
              injection hq with h1 h2
              omega
            · cases hq
    · rw [if_neg c1, if_neg (fun q => c1 ((h.isB l2.2 (by decide)).1 q))]
      refine Goes.of_eq ?_
      by_cases c2 : PureS.isB s (PureS.skip s j) 93
      · rw [if_pos c2, if_pos ((h.isB l2.2 (by decide)).2 c2)]
      · rw [if_neg c2, if_neg (fun q => c2 ((h.isB l2.2 (by decide)).1 q))]
theorem Fore.tests {s u : By} (h : Fore s u) : ∀ (d e i : Nat) (acc : List Tst), s.size - i < d → u.size - i < e → i ≤ s.size → Goes (tests s d acc i) (tests u e acc i) := by
  have hl := h.lt
  intro d
  induction d with
  | zero => intro e i acc hd; omega
  | succ d ih =>
    intro e i acc hd he hi
    obtain ⟨e, rfl⟩ : ∃ e', e = e' + 1 := ⟨e - 1, by omega⟩
    have mark : ∀ q : Int, i < s.size → Goes (match PureS.name s (i + 1) with | .error p => .error p | .ok (n, j) => PureS.tests s d (acc ++ [⟨q, n, ⟨#[]⟩⟩]) j) (match PureS.name u (i + 1) with | .error p => .error p | .ok (n, j) => PureS.tests u e (acc ++ [⟨q, n, ⟨#[]⟩⟩]) j) := by
      intro q hlt
      rw [h.name hlt]
      cases hn : PureS.name s (i + 1) with
      | error p => exact Nat.le_refl _
      | ok r =>
        obtain ⟨n, j⟩ := r
        have l1 := name_le hn
        exact ih e j _ (by omega) (by omega) l1.2
    rw [PureS.tests, PureS.tests]
    by_cases c1 : PureS.isB s i 46
    · rw [if_pos c1, if_pos ((h.isB hi (by decide)).2 c1)]
      exact mark 3 c1.1
    · rw [if_neg c1, if_neg (fun q => c1 ((h.isB hi (by decide)).1 q))]
      by_cases c2 : PureS.isB s i 35
      · rw [if_pos c2, if_pos ((h.isB hi (by decide)).2 c2)]
        exact mark 2 c2.1
      · rw [if_neg c2, if_neg (fun q => c2 ((h.isB hi (by decide)).1 q))]
        by_cases c3 : PureS.isB s i 91
        · rw [if_pos c3, if_pos ((h.isB hi (by decide)).2 c3)]
          have hb := h.brackets (i := i + 1) c3.1
          have hlt := c3.1
          cases eb : PureS.brackets s (i + 1) with
          | ok r =>
            obtain ⟨t, j⟩ := r
            rw [eb] at hb
            have hb : PureS.brackets u (i + 1) = .ok (t, j) := hb
            have l1 := brackets_le c3.1 eb
            rw [hb]
            exact ih e j _ (by omega) (by omega) l1.2
          | error p =>
            rw [eb] at hb
            cases eu : PureS.brackets u (i + 1) with
            | error q => rw [eu] at hb; exact hb
            | ok r =>
              obtain ⟨t, j⟩ := r
              rw [eu] at hb
              have hb : p ≤ j := hb
              have l1 := brackets_le (s := u) (i := i + 1) (by omega) eu
              refine Goes.err (fun q hq => ?_) (fun v' j' hq => ?_)
              · have := tests_err _ _ _ l1.2 hq; omega
              · have := tests_le _ _ _ l1.2 hq; omega
        · rw [if_neg c3, if_neg (fun q => c3 ((h.isB hi (by decide)).1 q))]
          rfl
theorem Goes.closed {i : Nat} {r ru : Res (List Tst)} (h : Goes r ru) : Goes (closed i r) (closed i ru) := by
  cases r with
  | ok x =>
    have h : ru = .ok x := h
    rw [h]
    exact Goes.of_eq rfl
  | error p =>
    cases ru with
    | error q => exact h
    | ok x =>
      obtain ⟨c, j⟩ := x
      have h : p ≤ j := h
      refine Goes.err (fun q hq => ?_) (fun v' j' hq => ?_)
      · unfold PureS.closed at hq
        dsimp only at hq
        split at hq
        · injection hq with hq; omega
        · cases hq
      · unfold PureS.closed at hq
        dsimp only at hq
        split at hq
        · cases hq
        · injection hq with hq
          injection hq with h1 h2
          omega
theorem Fore.compound {s u : By} (h : Fore s u) {i : Nat} (hi : i ≤ s.size) : Goes (compound s i) (compound u i) := by
  have hl := h.lt
  unfold PureS.compound
  by_cases c1 : PureS.isB s i 42
  · rw [if_pos c1, if_pos ((h.isB hi (by decide)).2 c1)]
    exact (h.tests _ _ _ _ (by omega) (by omega) c1.1).closed
  · rw [if_neg c1, if_neg (fun q => c1 ((h.isB hi (by decide)).1 q))]
    have hc : (i < u.size ∧ letter (bt u i) = true) ↔ (i < s.size ∧ letter (bt s i) = true) := by
      refine ⟨fun q => ?_, fun q => ⟨by omega, by rw [h.get _ q.1]; exact q.2⟩⟩
      rcases Nat.lt_or_ge i s.size with e | e
      · exact ⟨e, by rw [← h.get _ e]; exact q.2⟩
      · have e2 : i = s.size := by omega
        have := q.2
        rw [e2, h.comma] at this
        cases this
    by_cases c2 : i < s.size ∧ letter (bt s i) = true
    · rw [if_pos c2, if_pos (hc.2 c2), h.name hi]
      cases hn : PureS.name s i with
      | error p => exact Nat.le_refl _
      | ok r =>
        obtain ⟨n, j⟩ := r
        have l1 := name_le hn
        exact (h.tests _ _ _ _ (by omega) (by omega) l1.2).closed
    · rw [if_neg c2, if_neg (fun q => c2 (hc.1 q))]
      exact (h.tests _ _ _ _ (by omega) (by omega) hi).closed
theorem Fore.steps {s u : By} (h : Fore s u) : ∀ (d e i : Nat) (acc : List Stp) (child : Bool), s.size - i < d → u.size - i < e → i ≤ s.size → Goes (steps s d acc child i) (steps u e acc child i) := by
  have hl := h.lt
  intro d
  induction d with
  | zero => intro e i acc child hd; omega
  | succ d ih =>
    intro e i acc child hd he hi
    obtain ⟨e, rfl⟩ : ∃ e', e = e' + 1 := ⟨e - 1, by omega⟩
    have hc := h.compound hi
    rw [PureS.steps, PureS.steps]
    cases ec : PureS.compound s i with
    | error p =>
      rw [ec] at hc
      cases eu : PureS.compound u i with
      | error q => rw [eu] at hc; exact hc
      | ok r =>
        obtain ⟨c, m⟩ := r
        rw [eu] at hc
        have hc : p ≤ m := hc
        have l1 := compound_le (s := u) (by omega) eu
        have l2 := skip_le l1.2.1
        refine Goes.err (fun q hq => ?_) (fun v' j' hq => ?_)
        · dsimp only at hq
          split at hq
          · cases hq
          · rename_i c1
            have hlt : PureS.skip u m < u.size := by
              rcases Nat.eq_or_lt_of_le l2.2 with h | h
              · exact absurd (Or.inl h) c1
              · exact h
            split at hq
            · have l3 := skip_le (s := u) (i := PureS.skip u m + 1) hlt
              have := steps_err _ _ _ _ (by omega) l3.2 hq
              omega
            · split at hq
              · have := steps_err _ _ _ _ (by omega) l2.2 hq
                omega
              · injection hq with hq; omega
        · dsimp only at hq
          split at hq
          · injection hq with hq
            injection hq with h1 h2
            omega
          · rename_i c1
            have hlt : PureS.skip u m < u.size := by
              rcases Nat.eq_or_lt_of_le l2.2 with h | h
              · exact absurd (Or.inl h) c1
              · exact h
            split at hq
            · have l3 := skip_le (s := u) (i := PureS.skip u m + 1) hlt
              have := steps_le _ _ _ _ l3.2 hq
              omega
            · split at hq
              · have := steps_le _ _ _ _ l2.2 hq
                omega
              · cases hq
    | ok r =>
      obtain ⟨c, m⟩ := r
      rw [ec] at hc
      have hc : PureS.compound u i = .ok (c, m) := hc
      have l1 := compound_le hi ec
      have l2 := skip_le l1.2.1
      rw [hc]
      dsimp only
      rw [h.skip l1.2.1]
      by_cases c1 : PureS.skip s m = s.size ∨ bt s (PureS.skip s m) = 44
      · have c1u : PureS.skip s m = u.size ∨ bt u (PureS.skip s m) = 44 := by
          rcases Nat.eq_or_lt_of_le l2.2 with e | e
          · right; rw [e]; exact h.comma
          · right
            rw [h.get _ e]
            rcases c1 with c1 | c1
            · omega
            · exact c1
        rw [if_pos c1, if_pos c1u]
        rfl
      · have hlt : PureS.skip s m < s.size := by
          rcases Nat.eq_or_lt_of_le l2.2 with h | h
          · exact absurd (Or.inl h) c1
          · exact h
        have eb := h.get _ hlt
        have c1u : ¬ (PureS.skip s m = u.size ∨ bt u (PureS.skip s m) = 44) := by
          rintro (q | q)
          · omega
          · rw [eb] at q; exact c1 (Or.inr q)
        rw [if_neg c1, if_neg c1u, eb]
        by_cases c2 : bt s (PureS.skip s m) = 62
        · rw [if_pos c2, if_pos c2, h.skip (i := PureS.skip s m + 1) hlt]
          have l3 := skip_le (s := s) (i := PureS.skip s m + 1) hlt
          exact ih e _ _ _ (by omega) (by omega) l3.2
        · rw [if_neg c2, if_neg c2]
          by_cases c3 : m < PureS.skip s m
          · rw [if_pos c3, if_pos c3]
            exact ih e _ _ _ (by omega) (by omega) l2.2
          · rw [if_neg c3, if_neg c3]
            exact Nat.le_refl _
theorem Fore.row {s u : By} (h : Fore s u) {i : Nat} (hi : i ≤ s.size) : Goes (row s i) (row u i) := by
  have hl := h.lt
  have l0 := skip_le hi
  unfold PureS.row
  rw [h.skip hi]
  exact h.steps _ _ _ _ _ (by omega) (by omega) l0.2
/-- The first text, read whole: then what is behind the comma. -/
theorem Fore.rows_ok {s u : By} (h : Fore s u) : ∀ (d e i : Nat) (acc : List (List Stp)) {l : List (List Stp)}, s.size - i < d → u.size - i < e → i ≤ s.size → rows s d acc i = .ok l → ∃ e', u.size - (s.size + 1) < e' ∧ rows u e acc i = rows u e' l (s.size + 1) := by
  have hl := h.lt
  intro d
  induction d with
  | zero => intro e i acc l hd; omega
  | succ d ih =>
    intro e i acc l hd he hi hh
    obtain ⟨e, rfl⟩ : ∃ e', e = e' + 1 := ⟨e - 1, by omega⟩
    have hr := h.row hi
    rw [PureS.rows] at hh
    cases er : PureS.row s i with
    | error p => rw [er] at hh; cases hh
    | ok r =>
      obtain ⟨q, m⟩ := r
      rw [er] at hh hr
      have hr : PureS.row u i = .ok (q, m) := hr
      have l1 := row_le hi er
      dsimp only at hh
      rw [PureS.rows, hr]
      dsimp only
      split at hh
      · rename_i c1
        have lt := c1.1
        obtain ⟨e', h1, h2⟩ := ih e _ _ (by omega) (by omega) c1.1 hh
        refine ⟨e', h1, ?_⟩
        rw [if_pos ⟨by omega, by rw [h.get _ c1.1]; exact c1.2⟩]
        exact h2
      · rename_i c1
        injection hh with hh
        have hm : m = s.size := by
          rcases l1.2.2 with h | h
          · exact h
          · exact absurd (at_of (by decide) h) c1
        subst hm
        rw [if_pos ⟨hl, h.comma⟩, hh]
        exact ⟨e, by omega, rfl⟩
theorem Fore.rows_err {s u : By} (h : Fore s u) : ∀ (d e i : Nat) (acc : List (List Stp)) {p q : Nat}, s.size - i < d → u.size - i < e → i ≤ s.size → rows s d acc i = .error p → rows u e acc i = .error q → p ≤ q := by
  have hl := h.lt
  intro d
  induction d with
  | zero => intro e i acc p q hd; omega
  | succ d ih =>
    intro e i acc p q hd he hi hh hu
    obtain ⟨e, rfl⟩ : ∃ e', e = e' + 1 := ⟨e - 1, by omega⟩
    have hr := h.row hi
    rw [PureS.rows] at hh hu
    cases er : PureS.row s i with
    | error p' =>
      rw [er] at hh hr
      injection hh with hh
      subst hh
      cases eu : PureS.row u i with
      | error q' =>
        rw [eu] at hu hr
        injection hu with hu
        subst hu
        exact hr
      | ok r =>
        obtain ⟨v, m⟩ := r
        rw [eu] at hu hr
        have hr : p' ≤ m := hr
        have l1 := row_le (s := u) (by omega) eu
        dsimp only at hu
        split at hu
        · rename_i c1
          have := PureS.rows_err _ _ _ (by have := c1.1; omega) c1.1 hu
          omega
        · cases hu
    | ok r =>
      obtain ⟨v, m⟩ := r
      rw [er] at hh hr
      have hr : PureS.row u i = .ok (v, m) := hr
      have l1 := row_le hi er
      rw [hr] at hu
      dsimp only at hh hu
      split at hh
      · rename_i c1
        have lt := c1.1
        rw [if_pos ⟨by omega, by rw [h.get _ c1.1]; exact c1.2⟩] at hu
        exact ih e _ _ (by omega) (by omega) c1.1 hh hu
      · cases hh
end Go.Proofs.Ytjiejmkkaekefaa.PureS
