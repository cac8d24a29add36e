
import Derived.Test.YtjiejmkkaekefaaSelP
import Derived.Test.YtjiejmkkaekefaaPAx8


/-
  The reader's functions, from a name to a whole text, say what the plain words say.
-/
namespace Go.Proofs.Ytjiejmkkaekefaa.PureS
set_option linter.unusedVariables false
set_option linter.unusedSimpArgs false
open Go.RowKit Go.Proofs.Ytjiejmkkaekefaa.PA Go.Proofs.YtjiejmkkaekefaaW.PrintWords Go.Proofs.YtjiejmkkaekefaaW.PrintLast Go.Proofs.YtjiejmkkaekefaaW.PrintMore Go.Proofs.YtjiejmkkaekefaaH

theorem out_false {s : By} {i : Nat} (p : Int → Bool) (h0 : p 0 = false) (h : ¬ (i < s.size ∧ p (bt s i) = true)) : p (bt s i) = false := by
  by_cases h1 : i < s.size
  · exact Bool.eq_false_iff.2 (fun e => h ⟨h1, e⟩)
  · rw [bt_out (by omega)]; exact h0
theorem name_step (s : By) (k : Nat) (b m : Int) : sel_reader_name.l0 (k + 1) b (bt s m) s m = sel_reader_name.j1 k b (nameB (bt s m)) s m := by
  rw [sel_reader_name.l0, letter_eq, Option.bind_some]
  unfold nameB
  generalize bt s m = x
  cases hl : letter x with
  | true => simp
  | false =>
    simp only [Bool.false_or, Bool.false_eq_true, if_false]
    by_cases h1 : x ≥ 48
    · rw [if_pos h1]
      by_cases h2 : x ≤ 57
      · rw [if_pos h2, decide_eq_true (show 48 ≤ x ∧ x ≤ 57 from ⟨h1, h2⟩)]; simp
      · rw [if_neg h2, decide_eq_false (show ¬ (48 ≤ x ∧ x ≤ 57) from fun h => h2 h.2), if_neg (by omega), show (x == 45) = false from beq_eq_false_iff_ne.2 (by omega)]; simp
    · rw [if_neg h1, decide_eq_false (show ¬ (48 ≤ x ∧ x ≤ 57) from fun h => h1 h.1)]
      by_cases h3 : x = 45
      · rw [if_pos h3, show (x == 45) = true from beq_iff_eq.2 h3]; simp
      · rw [if_neg h3, show (x == 45) = false from beq_eq_false_iff_ne.2 h3]; simp
theorem name_loop {s : By} (hs : s.size ≤ 1000000000000) (i : Nat) : ∀ m, i ≤ m → m ≤ i + 20 → m ≤ s.size → Ev fun k => sel_reader_name.l0 k i (bt s m) s m = some (if run s m ≤ i + 20 then Except.ok (s.extract i (run s m), s, ((run s m : Nat) : Int)) else Except.error ((i + 20 : Nat) : Int)) := by
  intro m
  refine stop_ind (s := s) (M := fun m => i ≤ m → m ≤ i + 20 → m ≤ s.size → Ev fun k => sel_reader_name.l0 k i (bt s m) s m = some (if run s m ≤ i + 20 then Except.ok (s.extract i (run s m), s, ((run s m : Nat) : Int)) else Except.error ((i + 20 : Nat) : Int))) nameB ?_ ?_ (s.size - m) m (Nat.le_refl _)
  · intro m h h1 h2 h3
    refine ⟨2, fun k hk => ?_⟩
    obtain ⟨k, rfl⟩ : ∃ k', k = k' + 2 := ⟨k - 2, by omega⟩
    rw [name_step, out_false nameB (by decide) h, sel_reader_name.j1, if_neg (by decide), if_pos (by omega), if_pos (by omega), if_pos (by omega), show run s m = m from stop_here h, if_pos h2, Int.toNat_natCast, Int.toNat_natCast]
  · intro m h hp ih h1 h2 h3
    rw [show run s m = run s (m + 1) from stop_step h hp]
    by_cases e : m = i + 20
    · refine ⟨2, fun k hk => ?_⟩
      obtain ⟨k, rfl⟩ : ∃ k', k = k' + 2 := ⟨k - 2, by omega⟩
      have : m + 1 ≤ run s (m + 1) := stop_ge nameB s (m + 1)
      rw [name_step, hp, sel_reader_name.j1, if_pos rfl, w64 (by omega) (by omega), if_pos (by omega), if_neg (by omega), e]
    · refine ((ih (by omega) (by omega) (by omega)).succ (Q := fun k => sel_reader_name.j1 k i true s m = some (if run s (m + 1) ≤ i + 20 then Except.ok (s.extract i (run s (m + 1)), s, ((run s (m + 1) : Nat) : Int)) else Except.error ((i + 20 : Nat) : Int))) fun k hk => ?_).succ fun k hk => ?_
      · rw [sel_reader_name.j1, if_pos rfl, w64 (i := (i : Int) + 20) (by omega) (by omega), if_neg (by omega), w64 (by omega) (by omega), show ((m : Int) + 1) = ((m + 1 : Nat) : Int) from rfl, next_eq h, Option.bind_some]
        exact hk
      · rw [name_step, hp]
        exact hk
theorem name_f {s : By} (hs : s.size ≤ 1000000000000) {i : Nat} (hi : i ≤ s.size) : Ev fun k => sel_reader_name.f k s i = some (cv s (name s i)) := by
  unfold name
  by_cases h : i < s.size ∧ letter (bt s i) = true
  · rw [if_pos h]
    refine (name_loop hs i i (Nat.le_refl _) (by omega) hi).mono fun k hk => ?_
    unfold sel_reader_name.f
    rw [next_eq hi, Option.bind_some, letter_eq, Option.bind_some, if_pos h.2, next_eq hi, Option.bind_some, hk]
    split <;> rfl
  · rw [if_neg h]
    refine Ev.of fun k => ?_
    unfold sel_reader_name.f
    rw [next_eq hi, Option.bind_some, letter_eq, Option.bind_some, out_false letter (by decide) h, if_neg (by decide)]
    rfl
theorem name_le {s : By} {i : Nat} {n : By} {j : Nat} (h : name s i = .ok (n, j)) : i < j ∧ j ≤ s.size := by
  unfold name at h
  split at h
  · rename_i h1
    split at h
    · injection h with h
      injection h with h2 h3
      have hn : nameB (bt s i) = true := by unfold nameB; rw [h1.2]; rfl
      have h4 : run s (i + 1) ≤ s.size := stop_le nameB s (i + 1) (by omega)
      have h5 : i + 1 ≤ run s (i + 1) := stop_ge nameB s (i + 1)
      have h6 : run s i = run s (i + 1) := stop_step h1.1 hn
      omega
    · cases h
  · cases h
theorem value_loop {s : By} (hs : s.size ≤ 1000000000000) (b : Nat) : ∀ m, b ≤ m → m ≤ b + 60 → m ≤ s.size → Ev fun k => sel_reader_value.l0 k b s m = some (if stop noQuote s m < s.size ∧ stop noQuote s m ≤ b + 60 then Except.ok (s.extract b (stop noQuote s m), s, ((stop noQuote s m + 1 : Nat) : Int)) else Except.error ((min (stop noQuote s m) (b + 60) : Nat) : Int)) := by
  intro m
  refine stop_ind (s := s) (M := fun m => b ≤ m → m ≤ b + 60 → m ≤ s.size → Ev fun k => sel_reader_value.l0 k b s m = some (if stop noQuote s m < s.size ∧ stop noQuote s m ≤ b + 60 then Except.ok (s.extract b (stop noQuote s m), s, ((stop noQuote s m + 1 : Nat) : Int)) else Except.error ((min (stop noQuote s m) (b + 60) : Nat) : Int))) noQuote ?_ ?_ (s.size - m) m (Nat.le_refl _)
  · intro m h h1 h2 h3
    refine ⟨1, fun k hk => ?_⟩
    obtain ⟨k, rfl⟩ : ∃ k', k = k' + 1 := ⟨k - 1, by omega⟩
    rw [sel_reader_value.l0, stop_here h]
    by_cases hm : m < s.size
    · have hq : bt s m = 34 := by
        have : ¬ (noQuote (bt s m) = true) := fun e => h ⟨hm, e⟩
        unfold noQuote at this
        simpa using this
      rw [took_yes (by omega) ⟨hm, hq⟩, Option.bind_some, if_pos rfl, if_pos (by omega), if_pos (c := m < s.size ∧ m ≤ b + 60) ⟨hm, h2⟩]
      have e : wrap64 (((m + 1 : Nat) : Int) - 1) = (m : Int) := by rw [w64 (by omega) (by omega)]; omega
      simp only [e]
      rw [if_pos (by omega), if_pos (by omega), Int.toNat_natCast, Int.toNat_natCast]
    · have hm2 : m = s.size := by omega
      rw [took_no (fun hh => hm hh.1), Option.bind_some]
      dsimp only
      rw [if_neg (by decide), if_pos (by omega), if_neg (by omega), Nat.min_eq_left (by omega)]
  · intro m h hp ih h1 h2 h3
    rw [stop_step h hp]
    have hq : ¬ isB s m 34 := by
      intro hh
      unfold noQuote at hp
      rw [hh.2] at hp
      cases hp
    by_cases e : m = b + 60
    · refine ⟨1, fun k hk => ?_⟩
      obtain ⟨k, rfl⟩ : ∃ k', k = k' + 1 := ⟨k - 1, by omega⟩
      have := stop_ge noQuote s (m + 1)
      rw [sel_reader_value.l0, took_no hq, Option.bind_some]
      dsimp only
      rw [if_neg (by decide), if_neg (by omega), w64 (by omega) (by omega), if_pos (by omega), if_neg (by omega), Nat.min_eq_right (by omega), e]
    · refine (ih (by omega) (by omega) (by omega)).succ fun k hk => ?_
      rw [sel_reader_value.l0, took_no hq, Option.bind_some]
      dsimp only
      rw [if_neg (by decide), if_neg (by omega), w64 (i := (b : Int) + 60) (by omega) (by omega), if_neg (by omega), w64 (by omega) (by omega)]
      exact hk
theorem value_f {s : By} (hs : s.size ≤ 1000000000000) {i : Nat} (hi : i ≤ s.size) : Ev fun k => sel_reader_value.f k s i = some (cv s (value s i)) := by
  unfold value
  by_cases h : isB s i 34
  · rw [if_pos h]
    refine (value_loop hs (i + 1) (i + 1) (Nat.le_refl _) (by omega) h.1).mono fun k hk => ?_
    unfold sel_reader_value.f
    rw [took_yes (by omega) h, Option.bind_some, if_pos rfl, hk, show i + 1 + 60 = i + 61 from rfl]
    split <;> rfl
  · rw [if_neg h]
    refine (name_f hs hi).mono fun k hk => ?_
    unfold sel_reader_value.f
    rw [took_no h, Option.bind_some, if_neg (by simp), hk, Option.bind_some]
    cases name s i with
    | error p => rfl
    | ok r => rfl
theorem value_le {s : By} {i : Nat} {n : By} {j : Nat} (h : value s i = .ok (n, j)) : i < j ∧ j ≤ s.size := by
  unfold value at h
  split at h
  · rename_i h1
    split at h
    · rename_i h2
      injection h with h
      injection h with h3 h4
      have := stop_ge noQuote s (i + 1)
      omega
    · cases h
  · exact name_le h
theorem need_yes {s : By} {i : Nat} {b : Int} (hs : s.size ≤ 1000000000000) (h : isB s i b) : sel_reader_need.f s i b = some (Except.ok (s, ((i + 1 : Nat) : Int))) := by
  unfold sel_reader_need.f
  rw [took_yes (by omega) h, Option.bind_some, if_pos rfl]
theorem need_no {s : By} {i : Nat} {b : Int} (h : ¬ isB s i b) : sel_reader_need.f s i b = some (Except.error (i : Int)) := by
  unfold sel_reader_need.f
  rw [took_no h, Option.bind_some, if_neg (by simp)]
def cvT (s : By) : Res Tst → Except Int (Int × By × By × By × Int)
  | .error p => .error (p : Int)
  | .ok (t, j) => .ok (t.f0, t.f1, t.f2, s, (j : Int))
theorem skip_le {s : By} {i : Nat} (hi : i ≤ s.size) : i ≤ skip s i ∧ skip s i ≤ s.size := ⟨stop_ge _ _ _, stop_le _ _ _ hi⟩
theorem brackets_f {s : By} (hs : s.size ≤ 1000000000000) {i : Nat} (hi : i ≤ s.size) : Ev fun k => sel_reader_brackets.f k s i = some (cvT s (brackets s i)) := by
  have h0 := blanks_f (s := s) (by omega) hi
  have l0 := skip_le hi
  have h1 := name_f hs l0.2
  unfold brackets
  cases hn : name s (skip s i) with
  | error p =>
    refine (h0.and h1).mono fun k hk => ?_
    unfold sel_reader_brackets.f
    rw [hk.1, Option.bind_some, hk.2, Option.bind_some, hn]
    rfl
  | ok r =>
    obtain ⟨n, j⟩ := r
    have l1 := name_le hn
    have h2 := blanks_f (s := s) (by omega) l1.2
    have l2 := skip_le l1.2
    show Ev fun k => sel_reader_brackets.f k s i = some (cvT s (if isB s (skip s j) 61 then _ else _))
    by_cases c1 : isB s (skip s j) 61
    · rw [if_pos c1]
      have h3 := blanks_f (s := s) (by omega) (i := skip s j + 1) c1.1
      have l3 := skip_le (s := s) (i := skip s j + 1) c1.1
      have h4 := value_f hs l3.2
      cases hv : value s (skip s (skip s j + 1)) with
      | error p =>
        refine ((h0.and h1).and (h2.and (h3.and h4))).mono fun k hk => ?_
        unfold sel_reader_brackets.f
        rw [hk.1.1, Option.bind_some, hk.1.2, Option.bind_some, hn]
        show (sel_reader_blanks.f k s j).bind _ = _
        rw [hk.2.1, Option.bind_some, took_yes (by omega) c1, Option.bind_some, if_pos rfl, hk.2.2.1, Option.bind_some, hk.2.2.2, Option.bind_some, hv]
        rfl
      | ok r =>
        obtain ⟨v, m⟩ := r
        have l4 := value_le hv
        have h5 := blanks_f (s := s) (by omega) l4.2
        refine ((h0.and h1).and (h2.and ((h3.and h4).and h5))).mono fun k hk => ?_
        unfold sel_reader_brackets.f
        rw [hk.1.1, Option.bind_some, hk.1.2, Option.bind_some, hn]
        show (sel_reader_blanks.f k s j).bind _ = _
        rw [hk.2.1, Option.bind_some, took_yes (by omega) c1, Option.bind_some, if_pos rfl, hk.2.2.1.1, Option.bind_some, hk.2.2.1.2, Option.bind_some, hv]
        show (sel_reader_blanks.f k s m).bind _ = _
        rw [hk.2.2.2, Option.bind_some]
        show _ = some (cvT s (if isB s (skip s m) 93 then _ else _))
        by_cases c2 : isB s (skip s m) 93
        · rw [if_pos c2, need_yes hs c2]; rfl
        · rw [if_neg c2, need_no c2]; rfl
    · rw [if_neg c1]
      refine ((h0.and h1).and h2).mono fun k hk => ?_
      unfold sel_reader_brackets.f
      rw [hk.1.1, Option.bind_some, hk.1.2, Option.bind_some, hn]
      show (sel_reader_blanks.f k s j).bind _ = _
      rw [hk.2, Option.bind_some, took_no c1, Option.bind_some, if_neg (by simp)]
      by_cases c2 : isB s (skip s j) 93
      · rw [if_pos c2, need_yes hs c2]; rfl
      · rw [if_neg c2, need_no c2]; rfl
theorem brackets_le {s : By} {i : Nat} (hi : i ≤ s.size) {t : Tst} {j : Nat} (h : brackets s i = .ok (t, j)) : i < j ∧ j ≤ s.size := by
  unfold brackets at h
  have l0 := skip_le hi
  cases hn : name s (skip s i) with
  | error p => rw [hn] at h; cases h
  | ok r =>
    obtain ⟨n, m⟩ := r
    rw [hn] at h
    have l1 := name_le hn
    have l2 := skip_le l1.2
    dsimp only at h
    split at h
    · rename_i c1
      have l3 := skip_le (s := s) (i := skip s m + 1) c1.1
      cases hv : value s (skip s (skip s m + 1)) with
      | error p => rw [hv] at h; cases h
      | ok r =>
        obtain ⟨v, q⟩ := r
        rw [hv] at h
        have l4 := value_le hv
        have l5 := skip_le l4.2
        dsimp only at h
        split at h
        · rename_i c2
          injection h with h
          injection h with h1 h2
          have := c2.1
          omega
        · cases h
    · split at h
      · rename_i c2
        injection h with h
        injection h with h1 h2
        have := c2.1
        omega
      · cases h
end Go.Proofs.Ytjiejmkkaekefaa.PureS
