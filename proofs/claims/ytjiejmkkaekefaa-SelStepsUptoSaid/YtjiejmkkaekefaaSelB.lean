
import Derived.Test.YtjiejmkkaekefaaSelA


/-
  A compound, a row, and a whole text are read as the plain words say.
-/
namespace Go.Proofs.Ytjiejmkkaekefaa.PureS
set_option linter.unusedVariables false
set_option linter.unusedSimpArgs false
open Go.RowKit Go.Proofs.Ytjiejmkkaekefaa.PA Go.Proofs.YtjiejmkkaekefaaW.PrintWords Go.Proofs.YtjiejmkkaekefaaW.PrintLast Go.Proofs.YtjiejmkkaekefaaW.PrintMore Go.Proofs.YtjiejmkkaekefaaH

theorem at_of {s : By} {i : Nat} {b : Int} (hb : b ≠ 0) (h : bt s i = b) : isB s i b := by
  refine ⟨?_, h⟩
  rcases Nat.lt_or_ge i s.size with h1 | h1
  · exact h1
  · rw [bt_out h1] at h; exact absurd h.symm hb
theorem is_iff {s : By} {i : Nat} {b : Int} (hb : b ≠ 0) : isB s i b ↔ bt s i = b := ⟨fun h => h.2, at_of hb⟩
/-- Behind the tests of a compound the place is no nearer to the beginning. -/
theorem tests_le {s : By} : ∀ (d : Nat) (acc : List Tst) (i : Nat) {c : List Tst} {j : Nat}, i ≤ s.size → tests s d acc i = .ok (c, j) → i ≤ j ∧ j ≤ s.size ∧ acc.length ≤ c.length ∧ c.length + i ≤ acc.length + j := by
  intro d
  induction d with
  | zero =>
    intro acc i c j hi h
    rw [tests] at h
    injection h with h
    injection h with h1 h2
    subst h1 h2
    exact ⟨Nat.le_refl _, hi, Nat.le_refl _, Nat.le_refl _⟩
  | succ d ih =>
    intro acc i c j hi h
    rw [tests] at h
    have nm : ∀ (q : Int), (match name s (i + 1) with | .error p => (.error p : Res (List Tst)) | .ok (n, j) => tests s d (acc ++ [(⟨q, n, ⟨#[]⟩⟩ : Tst)]) j) = .ok (c, j) → i ≤ j ∧ j ≤ s.size ∧ acc.length ≤ c.length ∧ c.length + i ≤ acc.length + j := by
      intro q h
      cases hn : name s (i + 1) with
      | error p => rw [hn] at h; cases h
      | ok r =>
        obtain ⟨n, m⟩ := r
        rw [hn] at h
        have l1 := name_le hn
        obtain ⟨h1, h2, h3, h4⟩ := ih _ _ l1.2 h
        rw [List.length_append, List.length_singleton] at h3 h4
        exact ⟨by omega, h2, by omega, by omega⟩
    split at h
    · exact nm 3 h
    · split at h
      · exact nm 2 h
      · split at h
        · rename_i c3
          cases hn : brackets s (i + 1) with
          | error p => rw [hn] at h; cases h
          | ok r =>
            obtain ⟨n, m⟩ := r
            rw [hn] at h
            have l1 := brackets_le c3.1 hn
            obtain ⟨h1, h2, h3, h4⟩ := ih _ _ l1.2 h
            rw [List.length_append, List.length_singleton] at h3 h4
            exact ⟨by omega, h2, by omega, by omega⟩
        · injection h with h
          injection h with h1 h2
          subst h1 h2
          exact ⟨Nat.le_refl _, hi, Nat.le_refl _, Nat.le_refl _⟩
theorem tests_f {s : By} (hs : s.size ≤ 1000000000000) (beg : Nat) : ∀ (d i : Nat) (acc : List Tst), s.size - i < d → i ≤ s.size → acc.length ≤ i → Ev fun k => sel_reader_compound.l0 k acc beg s i = some (cv s (closed beg (tests s d acc i))) := by
  intro d
  induction d with
  | zero => intro i acc h; omega
  | succ d ih =>
    intro i acc hd hi hacc
    rw [tests]
    by_cases c1 : isB s i 46
    · rw [if_pos c1]
      have hn := name_f hs (i := i + 1) c1.1
      cases e : name s (i + 1) with
      | error p =>
        refine hn.succ fun k hk => ?_
        rw [sel_reader_compound.l0, next_eq hi, Option.bind_some]
        dsimp only
        rw [if_pos c1.2, w64 (by omega) (by omega), show ((i : Int) + 1) = ((i + 1 : Nat) : Int) from rfl, hk, Option.bind_some, e]
        rfl
      | ok r =>
        obtain ⟨n, j⟩ := r
        have l1 := name_le e
        refine (hn.and (ih j (acc ++ [⟨3, n, ⟨#[]⟩⟩]) (by omega) l1.2 (by rw [List.length_append, List.length_singleton]; omega))).succ fun k hk => ?_
        rw [sel_reader_compound.l0, next_eq hi, Option.bind_some]
        dsimp only
        rw [if_pos c1.2, w64 (by omega) (by omega), show ((i : Int) + 1) = ((i + 1 : Nat) : Int) from rfl, hk.1, Option.bind_some, e]
        show (if acc.length < 3518437208883 then sel_reader_compound.l0 k (acc ++ [⟨3, n, ⟨#[]⟩⟩]) beg s j else none) = _
        rw [if_pos (by omega)]
        exact hk.2
    · rw [if_neg c1]
      by_cases c2 : isB s i 35
      · rw [if_pos c2]
        have hn := name_f hs (i := i + 1) c2.1
        cases e : name s (i + 1) with
        | error p =>
          refine hn.succ fun k hk => ?_
          rw [sel_reader_compound.l0, next_eq hi, Option.bind_some]
          dsimp only
          rw [if_neg (fun h => c1 (at_of (by decide) h)), if_pos c2.2, w64 (by omega) (by omega), show ((i : Int) + 1) = ((i + 1 : Nat) : Int) from rfl, hk, Option.bind_some, e]
          rfl
        | ok r =>
          obtain ⟨n, j⟩ := r
          have l1 := name_le e
          refine (hn.and (ih j (acc ++ [⟨2, n, ⟨#[]⟩⟩]) (by omega) l1.2 (by rw [List.length_append, List.length_singleton]; omega))).succ fun k hk => ?_
          rw [sel_reader_compound.l0, next_eq hi, Option.bind_some]
          dsimp only
          rw [if_neg (fun h => c1 (at_of (by decide) h)), if_pos c2.2, w64 (by omega) (by omega), show ((i : Int) + 1) = ((i + 1 : Nat) : Int) from rfl, hk.1, Option.bind_some, e]
          show (if acc.length < 3518437208883 then sel_reader_compound.l0 k (acc ++ [⟨2, n, ⟨#[]⟩⟩]) beg s j else none) = _
          rw [if_pos (by omega)]
          exact hk.2
      · rw [if_neg c2]
        by_cases c3 : isB s i 91
        · rw [if_pos c3]
          have hn := brackets_f hs (i := i + 1) c3.1
          cases e : brackets s (i + 1) with
          | error p =>
            refine hn.succ fun k hk => ?_
            rw [sel_reader_compound.l0, next_eq hi, Option.bind_some]
            dsimp only
            rw [if_neg (fun h => c1 (at_of (by decide) h)), if_neg (fun h => c2 (at_of (by decide) h)), if_pos c3.2, w64 (by omega) (by omega), show ((i : Int) + 1) = ((i + 1 : Nat) : Int) from rfl, hk, Option.bind_some, e]
            rfl
          | ok r =>
            obtain ⟨t, j⟩ := r
            have l1 := brackets_le c3.1 e
            refine (hn.and (ih j (acc ++ [t]) (by omega) l1.2 (by rw [List.length_append, List.length_singleton]; omega))).succ fun k hk => ?_
            rw [sel_reader_compound.l0, next_eq hi, Option.bind_some]
            dsimp only
            rw [if_neg (fun h => c1 (at_of (by decide) h)), if_neg (fun h => c2 (at_of (by decide) h)), if_pos c3.2, w64 (by omega) (by omega), show ((i : Int) + 1) = ((i + 1 : Nat) : Int) from rfl, hk.1, Option.bind_some, e]
            show (if acc.length < 3518437208883 then sel_reader_compound.l0 k (acc ++ [⟨t.f0, t.f1, t.f2⟩]) beg s j else none) = _
            rw [if_pos (by omega)]
            exact hk.2
        · rw [if_neg c3]
          refine ⟨1, fun k hk => ?_⟩
          obtain ⟨k, rfl⟩ : ∃ k', k = k' + 1 := ⟨k - 1, by omega⟩
          rw [sel_reader_compound.l0, next_eq hi, Option.bind_some]
          dsimp only
          rw [if_neg (fun h => c1 (at_of (by decide) h)), if_neg (fun h => c2 (at_of (by decide) h)), if_neg (fun h => c3 (at_of (by decide) h))]
          unfold closed
          dsimp only
          by_cases c4 : i = beg
          · rw [if_pos (by omega), if_pos c4]; rfl
          · rw [if_neg (by omega), if_neg c4]; rfl
theorem compound_f {s : By} (hs : s.size ≤ 1000000000000) {i : Nat} (hi : i ≤ s.size) : Ev fun k => sel_reader_compound.f k s i = some (cv s (compound s i)) := by
  unfold compound
  by_cases c1 : isB s i 42
  · rw [if_pos c1]
    have h := tests_f hs i (s.size + 1) (i + 1) [] (by omega) c1.1 (by simp)
    have h2 : Ev fun k => sel_reader_compound.j0 k ([] : List Tst) i false s ((i + 1 : Nat) : Int) = some (cv s (closed i (tests s (s.size + 1) [] (i + 1)))) := by
      refine (h.succ (Q := fun k => sel_reader_compound.j1 k ([] : List Tst) i s ((i + 1 : Nat) : Int) = some (cv s (closed i (tests s (s.size + 1) [] (i + 1))))) fun k hk => ?_).succ fun k hk => ?_
      · rw [sel_reader_compound.j1]; exact hk
      · rw [sel_reader_compound.j0, if_neg (by decide)]; exact hk
    refine h2.mono fun k hk => ?_
    unfold sel_reader_compound.f
    rw [took_yes (by omega) c1, Option.bind_some, if_pos rfl]
    exact hk
  · rw [if_neg c1]
    by_cases c2 : i < s.size ∧ letter (bt s i) = true
    · rw [if_pos c2]
      have hn := name_f hs hi
      cases e : name s i with
      | error p =>
        have h2 : Ev fun k => sel_reader_compound.j0 k ([] : List Tst) i true s i = some (Except.error (p : Int)) := by
          refine hn.succ fun k hk => ?_
          rw [sel_reader_compound.j0, if_pos rfl, hk, Option.bind_some, e]
          rfl
        refine h2.mono fun k hk => ?_
        unfold sel_reader_compound.f
        rw [took_no c1, Option.bind_some]
        dsimp only
        rw [if_neg (by decide), next_eq hi, Option.bind_some, letter_eq, Option.bind_some, c2.2]
        exact hk
      | ok r =>
        obtain ⟨n, j⟩ := r
        have l1 := name_le e
        have h := tests_f hs i (s.size + 1) j [⟨1, n, ⟨#[]⟩⟩] (by omega) l1.2 (by simp; omega)
        have h2 : Ev fun k => sel_reader_compound.j0 k ([] : List Tst) i true s i = some (cv s (closed i (tests s (s.size + 1) [⟨1, n, ⟨#[]⟩⟩] j))) := by
          refine (hn.and (h.succ (Q := fun k => sel_reader_compound.j1 k ([⟨1, n, ⟨#[]⟩⟩] : List Tst) i s (j : Int) = some (cv s (closed i (tests s (s.size + 1) [⟨1, n, ⟨#[]⟩⟩] j)))) fun k hk => ?_)).succ fun k hk => ?_
          · rw [sel_reader_compound.j1]; exact hk
          · rw [sel_reader_compound.j0, if_pos rfl, hk.1, Option.bind_some, e]
            show (if ([] : List Tst).length < 3518437208883 then sel_reader_compound.j1 k ([] ++ [⟨1, n, ⟨#[]⟩⟩]) i s j else none) = _
            rw [if_pos (by decide)]
            exact hk.2
        refine h2.mono fun k hk => ?_
        unfold sel_reader_compound.f
        rw [took_no c1, Option.bind_some]
        dsimp only
        rw [if_neg (by decide), next_eq hi, Option.bind_some, letter_eq, Option.bind_some, c2.2]
        exact hk
    · rw [if_neg c2]
      have h := tests_f hs i (s.size + 1) i [] (by omega) hi (by simp)
      have h2 : Ev fun k => sel_reader_compound.j0 k ([] : List Tst) i false s i = some (cv s (closed i (tests s (s.size + 1) [] i))) := by
        refine (h.succ (Q := fun k => sel_reader_compound.j1 k ([] : List Tst) i s i = some (cv s (closed i (tests s (s.size + 1) [] i)))) fun k hk => ?_).succ fun k hk => ?_
        · rw [sel_reader_compound.j1]; exact hk
        · rw [sel_reader_compound.j0, if_neg (by decide)]; exact hk
      refine h2.mono fun k hk => ?_
      unfold sel_reader_compound.f
      rw [took_no c1, Option.bind_some]
      dsimp only
      rw [if_neg (by decide), next_eq hi, Option.bind_some, letter_eq, Option.bind_some, out_false letter (by decide) c2]
      exact hk
theorem compound_le {s : By} {i : Nat} (hi : i ≤ s.size) {c : List Tst} {j : Nat} (h : compound s i = .ok (c, j)) : i < j ∧ j ≤ s.size ∧ c.length ≤ j - i := by
  have cl : ∀ {m : Nat} {acc : List Tst}, i ≤ m → m ≤ s.size → acc.length ≤ m - i → closed i (tests s (s.size + 1) acc m) = .ok (c, j) → i < j ∧ j ≤ s.size ∧ c.length ≤ j - i := by
    intro m acc h1 h2 h3 h4
    cases e : tests s (s.size + 1) acc m with
    | error p => rw [e] at h4; cases h4
    | ok r =>
      obtain ⟨c', j'⟩ := r
      rw [e] at h4
      unfold closed at h4
      dsimp only at h4
      split at h4
      · cases h4
      · injection h4 with h4
        injection h4 with h5 h6
        subst h5 h6
        obtain ⟨q1, q2, q3, q4⟩ := tests_le _ _ _ h2 e
        exact ⟨by omega, q2, by omega⟩
  unfold compound at h
  split at h
  · rename_i c1
    exact cl (by omega) c1.1 (by simp) h
  · split at h
    · cases e : name s i with
      | error p => rw [e] at h; cases h
      | ok r =>
        obtain ⟨n, m⟩ := r
        rw [e] at h
        have l1 := name_le e
        exact cl (by omega) l1.2 (by simp; omega) h
    · exact cl (Nat.le_refl _) hi (by simp) h
end Go.Proofs.Ytjiejmkkaekefaa.PureS
