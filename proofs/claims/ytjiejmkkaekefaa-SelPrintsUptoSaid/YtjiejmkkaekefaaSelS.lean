
import Derived.Test.YtjiejmkkaekefaaSelR

/-
  The reference's parser says what the plain words say: a value, a test, a compound, a row, a whole text.
-/
namespace Go.Proofs.Ytjiejmkkaekefaa.PureS
set_option linter.unusedVariables false
set_option linter.unusedSimpArgs false
open Go.RowKit Go.Proofs.Ytjiejmkkaekefaa.PA Go.Proofs.YtjiejmkkaekefaaW.PrintWords Go.Proofs.YtjiejmkkaekefaaW.PrintLast Go.Proofs.YtjiejmkkaekefaaW.PrintMore Go.Proofs.YtjiejmkkaekefaaH

theorem up1 {s : By} {i : Nat} (hs : s.size ≤ 1000000000000) (hi : i ≤ s.size) : wrap64 ((i : Int) + 1) = ((i + 1 : Nat) : Int) := by rw [w64 (by omega) (by omega)]; rfl
theorem rv_loop {s : By} (hs : s.size ≤ 1000000000000) (i : Nat) : ∀ m, i < m → m ≤ i + 61 → m ≤ s.size → Ev fun k => treillageref09_value.l0 k s i m = some (rn (if stop noQuote s m < s.size ∧ stop noQuote s m ≤ i + 61 then .ok (s.extract (i + 1) (stop noQuote s m), stop noQuote s m + 1) else .error (min (stop noQuote s m) (i + 61)))) := by
  intro m
  refine stop_ind (s := s) (M := fun m => i < m → m ≤ i + 61 → m ≤ s.size → Ev fun k => treillageref09_value.l0 k s i m = some (rn (if stop noQuote s m < s.size ∧ stop noQuote s m ≤ i + 61 then .ok (s.extract (i + 1) (stop noQuote s m), stop noQuote s m + 1) else .error (min (stop noQuote s m) (i + 61))))) noQuote ?_ ?_ (s.size - m) m (Nat.le_refl _)
  · intro m h h1 h2 h3
    refine ⟨2, fun k hk => ?_⟩
    obtain ⟨k, rfl⟩ : ∃ k', k = k' + 2 := ⟨k - 2, by omega⟩
    rw [treillageref09_value.l0, stop_here h]
    by_cases hm : m < s.size
    · have hq : (bt s m != 34) = false := by
        have : ¬ (noQuote (bt s m) = true) := fun e => h ⟨hm, e⟩
        unfold noQuote at this
        exact Bool.eq_false_iff.2 this
      rw [if_pos (by omega), if_pos (by omega), hq, treillageref09_value.j2, if_neg (by decide), if_neg (by omega), up1 hs (by omega), if_pos (by omega), if_pos (by omega), if_pos (by omega), if_pos (c := m < s.size ∧ m ≤ i + 61) ⟨hm, h2⟩, up1 hs (by omega), Int.toNat_natCast, Int.toNat_natCast]
      rfl
    · have hm2 : m = s.size := by omega
      rw [if_neg (by omega), treillageref09_value.j2, if_neg (by decide), if_pos (by omega), if_neg (by omega), Nat.min_eq_left (by omega)]
      rfl
  · intro m h hp ih h1 h2 h3
    rw [stop_step h hp]
    have hq : (bt s m != 34) = true := hp
    by_cases e : m = i + 61
    · refine ⟨2, fun k hk => ?_⟩
      obtain ⟨k, rfl⟩ : ∃ k', k = k' + 2 := ⟨k - 2, by omega⟩
      have := stop_ge noQuote s (m + 1)
      rw [treillageref09_value.l0, if_pos (by omega), if_pos (by omega), hq, treillageref09_value.j2, if_pos rfl, if_pos (by unfold wrap64; omega), if_neg (by omega), Nat.min_eq_right (by omega), e]
      rfl
    · have down : ∀ {R}, (Ev fun k => treillageref09_value.l0 k s i (m + 1 : Nat) = some R) → Ev fun k => treillageref09_value.l0 k s i m = some R := by
        intro R h
        refine (h.succ (Q := fun k => treillageref09_value.j2 k s i m true = some R) fun k hk => ?_).succ fun k hk => ?_
        · rw [treillageref09_value.j2, if_pos rfl, if_neg (by unfold wrap64; omega), up1 hs (by omega)]
          exact hk
        · rw [treillageref09_value.l0, if_pos (by omega), if_pos (by omega), hq]
          exact hk
      exact down (ih (by omega) (by omega) (by omega))
theorem rv_f {s : By} (hs : s.size ≤ 1000000000000) {i : Nat} (hi : i ≤ s.size) : Ev fun k => treillageref09_value.f k s i = some (rn (value s i)) := by
  unfold value
  by_cases h : isB s i 34
  · rw [if_pos h]
    have down : ∀ {R}, (Ev fun k => treillageref09_value.l0 k s i (i + 1 : Nat) = some R) → Ev fun k => treillageref09_value.f k s i = some R := by
      intro R h1
      refine (h1.succ (Q := fun k => treillageref09_value.j0 k s i false = some R) fun k hk => ?_).mono fun k hk => ?_
      · rw [treillageref09_value.j0, if_neg (by decide), up1 hs hi]
        exact hk
      · unfold treillageref09_value.f
        have hq : (bt s i != 34) = false := by rw [h.2]; rfl
        have := h.1
        rw [if_neg (by omega), if_pos (by omega), if_pos (by omega), hq]
        exact hk
    exact down (rv_loop hs i (i + 1) (by omega) (by omega) h.1)
  · rw [if_neg h]
    refine ((rnm_f hs hi).succ (Q := fun k => treillageref09_value.j0 k s i true = some (rn (name s i))) fun k hk => ?_).mono fun k hk => ?_
    · rw [treillageref09_value.j0, if_pos rfl, hk, Option.bind_some]
    · unfold treillageref09_value.f
      by_cases h1 : i < s.size
      · have hq : (bt s i != 34) = true := bne_iff_ne.2 (fun e => h ⟨h1, e⟩)
        rw [if_neg (by omega), if_pos (by omega), if_pos (by omega), hq]
        exact hk
      · rw [if_pos (by omega)]
        exact hk
def t5ok (x : Int × By × By × Int × Bool) : Res Tst → Prop
  | .error p => x.2.2.2 = ((p : Int), false)
  | .ok (t, j) => x = (t.f0, t.f1, t.f2, (j : Int), true)
theorem Ev.ex {α : Type} {g : Nat → Option α} {x : α} {P : α → Prop} (h : Ev fun k => g k = some x) (hp : P x) : Ev fun k => ∃ y, g k = some y ∧ P y := h.mono fun k hk => ⟨x, hk, hp⟩
theorem rtest_mark {s : By} (hs : s.size ≤ 1000000000000) {i : Nat} (hi : i < s.size) (q : Int) (hm : bt s i = 35 ∧ q = 2 ∨ bt s i = 46 ∧ q = 3) : Ev fun k => ∃ x, treillageref09_test.f k s i = some x ∧ t5ok x (match name s (i + 1) with | .error p => .error p | .ok (n, j) => .ok ((⟨q, n, ⟨#[]⟩⟩ : Tst), j)) := by
  refine ((rnm_f hs (i := i + 1) hi).succ (Q := fun k => ∃ x, treillageref09_test.j0 k s i true = some x ∧ t5ok x (match name s (i + 1) with | .error p => .error p | .ok (n, j) => .ok ((⟨q, n, ⟨#[]⟩⟩ : Tst), j))) fun k hk => ?_).mono fun k hk => ?_
  · rw [treillageref09_test.j0, if_pos rfl, up1 hs (by omega), hk, Option.bind_some, if_pos (by omega), if_pos (by omega)]
    rcases hm with ⟨h1, rfl⟩ | ⟨h1, rfl⟩
    · rw [if_neg (by omega)]
      refine ⟨_, rfl, ?_⟩
      cases name s (i + 1) with
      | error p => rfl
      | ok r => rfl
    · rw [if_pos h1]
      refine ⟨_, rfl, ?_⟩
      cases name s (i + 1) with
      | error p => rfl
      | ok r => rfl
  · unfold treillageref09_test.f
    rw [if_pos (by omega), if_pos (by omega)]
    rcases hm with ⟨h1, rfl⟩ | ⟨h1, rfl⟩
    · rw [if_pos h1]; exact hk
    · rw [if_neg (by omega), show (bt s i == 46) = true from beq_iff_eq.2 h1]; exact hk
theorem rtest_br {s : By} (hs : s.size ≤ 1000000000000) {i : Nat} (hi : isB s i 91) : Ev fun k => ∃ x, treillageref09_test.f k s i = some x ∧ t5ok x (brackets s (i + 1)) := by
  have l0 := skip_le (s := s) (i := i + 1) hi.1
  have hb := rblanks_f hs (i := i + 1) hi.1
  have hn := rnm_f hs l0.2
  have down : (Ev fun k => ∃ x, treillageref09_test.j0 k s i false = some x ∧ t5ok x (brackets s (i + 1))) → Ev fun k => ∃ x, treillageref09_test.f k s i = some x ∧ t5ok x (brackets s (i + 1)) := by
    intro h
    refine h.mono fun k hk => ?_
    unfold treillageref09_test.f
    have h1 := hi.1
    have h2 := hi.2
    rw [if_pos (by omega), if_pos (by omega), if_neg (by omega), show (bt s i == 46) = false from beq_eq_false_iff_ne.2 (by omega)]
    exact hk
  refine down ?_
  have e91 := up1 hs (Nat.le_of_lt hi.1)
  unfold brackets
  cases en : name s (skip s (i + 1)) with
  | error p =>
    refine (hb.and hn).succ fun k hk => ?_
    rw [treillageref09_test.j0, if_neg (by decide), e91, hk.1, Option.bind_some, hk.2, Option.bind_some, en]
    exact ⟨_, rfl, rfl⟩
  | ok r =>
    obtain ⟨n, j⟩ := r
    have l1 := name_le en
    have l2 := skip_le l1.2
    have hb2 := rblanks_f hs l1.2
    have e61 := up1 hs l2.2
    dsimp only
    by_cases c61 : isB s (skip s j) 61
    · have c93 : ¬ isB s (skip s j) 93 := fun h => by have a := h.2; have b := c61.2; omega
      rw [if_pos c61]
      have l3 := skip_le (s := s) (i := skip s j + 1) c61.1
      have hb3 := rblanks_f hs (i := skip s j + 1) c61.1
      have hv := rv_f hs l3.2
      cases ev : value s (skip s (skip s j + 1)) with
      | error p =>
        refine ((hb.and hn).and (hb2.and (hb3.and hv))).succ fun k hk => ?_
        rw [treillageref09_test.j0, if_neg (by decide), e91, hk.1.1, Option.bind_some, hk.1.2, Option.bind_some, en]
        show ∃ x, (treillageref09_blanks.f k s j).bind _ = some x ∧ _
        rw [hk.2.1, Option.bind_some, is_f, Option.bind_some, decide_eq_false c93, if_neg (by decide), is_f, Option.bind_some, decide_eq_true c61, if_pos rfl, e61, hk.2.2.1, Option.bind_some, hk.2.2.2, Option.bind_some, ev]
        exact ⟨_, rfl, rfl⟩
      | ok r =>
        obtain ⟨v, m⟩ := r
        have l4 := value_le ev
        have l5 := skip_le l4.2
        have hb4 := rblanks_f hs l4.2
        refine ((hb.and hn).and (hb2.and ((hb3.and hv).and hb4))).succ fun k hk => ?_
        rw [treillageref09_test.j0, if_neg (by decide), e91, hk.1.1, Option.bind_some, hk.1.2, Option.bind_some, en]
        show ∃ x, (treillageref09_blanks.f k s j).bind _ = some x ∧ _
        rw [hk.2.1, Option.bind_some, is_f, Option.bind_some, decide_eq_false c93, if_neg (by decide), is_f, Option.bind_some, decide_eq_true c61, if_pos rfl, e61, hk.2.2.1.1, Option.bind_some, hk.2.2.1.2, Option.bind_some, ev]
        show ∃ x, (treillageref09_blanks.f k s m).bind _ = some x ∧ _
        rw [hk.2.2.2, Option.bind_some, is_f, Option.bind_some]
        dsimp only
        by_cases c2 : isB s (skip s m) 93
        · rw [if_pos c2, decide_eq_true c2, if_pos rfl, up1 hs l5.2]
          exact ⟨_, rfl, rfl⟩
        · rw [if_neg c2, decide_eq_false c2, if_neg (by decide)]
          exact ⟨_, rfl, rfl⟩
    · rw [if_neg c61]
      refine ((hb.and hn).and hb2).succ fun k hk => ?_
      rw [treillageref09_test.j0, if_neg (by decide), e91, hk.1.1, Option.bind_some, hk.1.2, Option.bind_some, en]
      show ∃ x, (treillageref09_blanks.f k s j).bind _ = some x ∧ _
      rw [hk.2, Option.bind_some, is_f, Option.bind_some]
      by_cases c2 : isB s (skip s j) 93
      · rw [if_pos c2, decide_eq_true c2, if_pos rfl, e61]
        exact ⟨_, rfl, rfl⟩
      · rw [if_neg c2, decide_eq_false c2, if_neg (by decide), is_f, Option.bind_some, decide_eq_false c61, if_neg (by decide)]
        exact ⟨_, rfl, rfl⟩
def rc (b : Nat) : Res (List Tst) → List RTst × Int × Bool
  | .error p => ([], (p : Int), false)
  | .ok (c, j) => (c.map rt, (j : Int), decide ((j : Int) > (b : Int)))
theorem rl0_j3 (s : By) (k : Nat) (b : Int) (acc : List RTst) (i : Nat) : treillageref09_compound.l0 (k + 1) s b acc i = treillageref09_compound.j3 k s b acc i (decide (isB s i 35 ∨ isB s i 46 ∨ isB s i 91)) := by
  rw [treillageref09_compound.l0, is_f, Option.bind_some]
  by_cases c1 : isB s i 35
  · rw [decide_eq_true c1, if_pos rfl, decide_eq_true (Or.inl c1)]
  · rw [decide_eq_false c1, if_neg (by decide), is_f, Option.bind_some]
    by_cases c2 : isB s i 46
    · rw [decide_eq_true c2, if_pos rfl, decide_eq_true (Or.inr (Or.inl c2))]
    · rw [decide_eq_false c2, if_neg (by decide), is_f, Option.bind_some]
      congr 1
      exact decide_eq_decide.2 ⟨fun h => Or.inr (Or.inr h), fun h => h.elim (fun h => absurd h c1) (fun h => h.elim (fun h => absurd h c2) id)⟩
theorem rj3_step {s : By} {k : Nat} {b : Int} {acc : List Tst} {i : Nat} {x : Int × By × By × Int × Bool} {r : Res Tst} (hl : acc.length < 1000000000000) (hx : treillageref09_test.f k s i = some x) (ht : t5ok x r) {R : List RTst × Int × Bool}
    (h0 : ∀ p, r = .error p → R = ([], (p : Int), false)) (h1 : ∀ t j, r = .ok (t, j) → treillageref09_compound.l0 k s b ((acc ++ [t]).map rt) (j : Nat) = some R) : treillageref09_compound.j3 (k + 1) s b (acc.map rt) i true = some R := by
  rw [treillageref09_compound.j3, if_pos rfl, hx, Option.bind_some]
  cases r with
  | error p =>
    obtain ⟨a, a1, a2, d, e⟩ := x
    unfold t5ok at ht
    injection ht with e1 e2
    subst e1 e2
    rw [h0 p rfl]
    rfl
  | ok r =>
    obtain ⟨t, j⟩ := r
    unfold t5ok at ht
    subst ht
    have h1 := h1 t j rfl
    rw [List.map_append] at h1
    dsimp only
    rw [if_pos rfl, if_pos (by rw [List.length_map]; omega)]
    exact h1
theorem rtests_f {s : By} (hs : s.size ≤ 1000000000000) (b : Nat) : ∀ (d i : Nat) (acc : List Tst), s.size - i < d → i ≤ s.size → acc.length ≤ i → Ev fun k => treillageref09_compound.l0 k s b (acc.map rt) i = some (rc b (tests s d acc i)) := by
  intro d
  induction d with
  | zero => intro i acc h; omega
  | succ d ih =>
    intro i acc hd hi hacc
    have mark : ∀ (q : Int), (bt s i = 35 ∧ q = 2 ∨ bt s i = 46 ∧ q = 3) → i < s.size → Ev fun k => treillageref09_compound.l0 k s b (acc.map rt) i = some (rc b (match name s (i + 1) with | .error p => .error p | .ok (n, j) => tests s d (acc ++ [⟨q, n, ⟨#[]⟩⟩]) j)) := by
      intro q hq hlt
      have ht := rtest_mark hs hlt q hq
      have down : (Ev fun k => treillageref09_compound.j3 k s b (acc.map rt) i true = some (rc b (match name s (i + 1) with | .error p => .error p | .ok (n, j) => tests s d (acc ++ [⟨q, n, ⟨#[]⟩⟩]) j))) → Ev fun k => treillageref09_compound.l0 k s b (acc.map rt) i = some (rc b (match name s (i + 1) with | .error p => .error p | .ok (n, j) => tests s d (acc ++ [⟨q, n, ⟨#[]⟩⟩]) j)) := by
        intro h
        refine h.succ fun k hk => ?_
        rw [rl0_j3, decide_eq_true (hq.elim (fun h => Or.inl ⟨hlt, h.1⟩) (fun h => Or.inr (Or.inl ⟨hlt, h.1⟩)))]
        exact hk
      refine down ?_
      cases en : name s (i + 1) with
      | error p =>
        rw [en] at ht
        refine ht.succ fun k hk => ?_
        obtain ⟨x, hx, h5⟩ := hk
        exact rj3_step (by omega) hx h5 (fun p' h => by cases h; rfl) (fun t j h => by cases h)
      | ok r =>
        obtain ⟨n, j⟩ := r
        rw [en] at ht
        have l1 := name_le en
        refine (ht.and (ih j (acc ++ [⟨q, n, ⟨#[]⟩⟩]) (by omega) l1.2 (by rw [List.length_append, List.length_singleton]; omega))).succ fun k hk => ?_
        obtain ⟨⟨x, hx, h5⟩, hk⟩ := hk
        exact rj3_step (by omega) hx h5 (fun p' h => by cases h) (fun t j' h => by cases h; exact hk)
    rw [tests]
    by_cases c1 : isB s i 46
    · rw [if_pos c1]
      exact mark 3 (Or.inr ⟨c1.2, rfl⟩) c1.1
    · rw [if_neg c1]
      by_cases c2 : isB s i 35
      · rw [if_pos c2]
        exact mark 2 (Or.inl ⟨c2.2, rfl⟩) c2.1
      · rw [if_neg c2]
        by_cases c3 : isB s i 91
        · rw [if_pos c3]
          have ht := rtest_br hs c3
          have down : ∀ {R}, (Ev fun k => treillageref09_compound.j3 k s b (acc.map rt) i true = some R) → Ev fun k => treillageref09_compound.l0 k s b (acc.map rt) i = some R := by
            intro R h
            refine h.succ fun k hk => ?_
            rw [rl0_j3, decide_eq_true (Or.inr (Or.inr c3))]
            exact hk
          refine down ?_
          have lt := c3.1
          cases en : brackets s (i + 1) with
          | error p =>
            rw [en] at ht
            refine ht.succ fun k hk => ?_
            obtain ⟨x, hx, h5⟩ := hk
            exact rj3_step (by omega) hx h5 (fun p' h => by cases h; rfl) (fun t j h => by cases h)
          | ok r =>
            obtain ⟨t, j⟩ := r
            rw [en] at ht
            have l1 := brackets_le c3.1 en
            refine (ht.and (ih j (acc ++ [t]) (by omega) l1.2 (by rw [List.length_append, List.length_singleton]; omega))).succ fun k hk => ?_
            obtain ⟨⟨x, hx, h5⟩, hk⟩ := hk
            exact rj3_step (by omega) hx h5 (fun p' h => by cases h) (fun t j' h => by cases h; exact hk)
        · rw [if_neg c3]
          refine ⟨2, fun k hk => ?_⟩
          obtain ⟨k, rfl⟩ : ∃ k', k = k' + 2 := ⟨k - 2, by omega⟩
          rw [rl0_j3, decide_eq_false (fun h => h.elim c2 (fun h => h.elim c1 c3)), treillageref09_compound.j3, if_neg (by decide)]
          rfl
def cok (x : List RTst × Int × Bool) : Res (List Tst) → Prop
  | .error p => x.2 = ((p : Int), false)
  | .ok (c, j) => x = (c.map rt, (j : Int), true)
theorem cok_closed {i : Nat} {r : Res (List Tst)} (h : ∀ c j, r = .ok (c, j) → i ≤ j) : cok (rc i r) (closed i r) := by
  cases r with
  | error p => rfl
  | ok r =>
    obtain ⟨c, j⟩ := r
    have h1 := h c j rfl
    unfold closed rc
    dsimp only
    by_cases e : j = i
    · rw [if_pos e, decide_eq_false (by omega)]
      rfl
    · rw [if_neg e, decide_eq_true (by omega)]
      rfl
theorem rcompound_f {s : By} (hs : s.size ≤ 1000000000000) {i : Nat} (hi : i ≤ s.size) : Ev fun k => ∃ x, treillageref09_compound.f k s i = some x ∧ cok x (compound s i) := by
  unfold compound
  by_cases c1 : isB s i 42
  · rw [if_pos c1]
    have h1 := rtests_f hs i (s.size + 1) (i + 1) [] (by omega) c1.1 (by simp)
    refine ((h1.succ (Q := fun k => treillageref09_compound.j1 k s i [] ((i + 1 : Nat) : Int) = some (rc i (tests s (s.size + 1) [] (i + 1)))) fun k hk => ?_).mono fun k hk => ?_)
    · rw [treillageref09_compound.j1]; exact hk
    · refine ⟨_, ?_, cok_closed (i := i) (r := tests s (s.size + 1) [] (i + 1)) (fun c j h => by have := (tests_le _ _ _ c1.1 h).1; omega)⟩
      unfold treillageref09_compound.f
      rw [Option.bind_some, is_f, Option.bind_some, decide_eq_true c1, if_pos rfl, up1 hs hi]
      exact hk
  · rw [if_neg c1]
    have up : ∀ {x}, ∀ (b : Bool), b = decide (i < s.size ∧ letter (bt s i) = true) → (Ev fun k => treillageref09_compound.j0 k s i [] i b = some x) → Ev fun k => treillageref09_compound.f k s i = some x := by
      intro x b hb h
      by_cases h1 : i < s.size
      · obtain ⟨b', hn, hp⟩ := rname_cut hs (i := i) (j := i + 1) (by omega) h1
        have e : b' = b := by
          rw [Bool.eq_iff_iff, hp, hb, decide_eq_true_eq]
          refine ⟨fun h => ⟨h1, h.2.2⟩, fun h => ⟨by omega, fun m q1 q2 => ?_, h.2⟩⟩
          obtain rfl : m = i := by omega
          unfold nameB; rw [h.2]; rfl
        subst e
        refine (hn.and h).mono fun k hk => ?_
        unfold treillageref09_compound.f
        rw [Option.bind_some, is_f, Option.bind_some, decide_eq_false c1, if_neg (by decide), if_pos (by omega), if_pos (by omega), up1 hs hi, if_pos (by omega), if_pos (by omega), Int.toNat_natCast, Int.toNat_natCast, hk.1, Option.bind_some]
        exact hk.2
      · refine h.mono fun k hk => ?_
        unfold treillageref09_compound.f
        have e : b = false := hb.trans (decide_eq_false (fun h => h1 h.1))
        rw [e] at hk
        rw [Option.bind_some, is_f, Option.bind_some, decide_eq_false c1, if_neg (by decide), if_neg (by omega)]
        exact hk
    by_cases c2 : i < s.size ∧ letter (bt s i) = true
    · rw [if_pos c2]
      have hn := rnm_f hs hi
      cases en : name s i with
      | error p =>
        refine (up true (decide_eq_true c2).symm (x := ([], (p : Int), false)) (hn.succ fun k hk => ?_)).ex rfl
        rw [treillageref09_compound.j0, if_pos rfl, hk, Option.bind_some, en]
        rfl
      | ok r =>
        obtain ⟨n, j⟩ := r
        have l1 := name_le en
        have h1 := rtests_f hs i (s.size + 1) j [⟨1, n, ⟨#[]⟩⟩] (by omega) l1.2 (by simp; omega)
        have h2 : Ev fun k => treillageref09_compound.j1 k s i [(⟨1, n, ⟨#[]⟩⟩ : RTst)] (j : Int) = some (rc i (tests s (s.size + 1) [⟨1, n, ⟨#[]⟩⟩] j)) := by
          refine h1.succ fun k hk => ?_
          rw [treillageref09_compound.j1]
          exact hk
        refine (up true (decide_eq_true c2).symm ((hn.and h2).succ fun k hk => ?_)).ex (cok_closed (fun c m h => by have := (tests_le _ _ _ l1.2 h).1; omega))
        rw [treillageref09_compound.j0, if_pos rfl, hk.1, Option.bind_some, en]
        exact hk.2
    · rw [if_neg c2]
      have h1 := rtests_f hs i (s.size + 1) i [] (by omega) hi (by simp)
      have h2 : Ev fun k => treillageref09_compound.j1 k s i ([] : List RTst) (i : Int) = some (rc i (tests s (s.size + 1) [] i)) := by
        refine h1.succ fun k hk => ?_
        rw [treillageref09_compound.j1]
        exact hk
      refine (up false (decide_eq_false c2).symm (h2.succ fun k hk => ?_)).ex (cok_closed (fun c m h => by have := (tests_le _ _ _ hi h).1; omega))
      rw [treillageref09_compound.j0, if_neg (by decide)]
      exact hk
end Go.Proofs.Ytjiejmkkaekefaa.PureS
