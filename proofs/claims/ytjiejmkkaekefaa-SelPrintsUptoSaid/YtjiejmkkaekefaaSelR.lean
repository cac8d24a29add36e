
import Derived.Test.YtjiejmkkaekefaaSelI
import Derived.Test.YtjiejmkkaekefaaPAx14

/-
  The reference's parser says what the plain words say: blanks, a name, a value, a test.
-/
namespace Go.Proofs.Ytjiejmkkaekefaa.PureS
set_option linter.unusedVariables false
set_option linter.unusedSimpArgs false
open Go.RowKit Go.Proofs.Ytjiejmkkaekefaa.PA Go.Proofs.YtjiejmkkaekefaaW.PrintWords Go.Proofs.YtjiejmkkaekefaaW.PrintLast Go.Proofs.YtjiejmkkaekefaaW.PrintMore Go.Proofs.YtjiejmkkaekefaaH

/-- As the reference tells it. -/
def rn : Res By → By × Int × Bool
  | .error p => (⟨#[]⟩, (p : Int), false)
  | .ok (a, j) => (a, (j : Int), true)
theorem bt_data (s : By) (i : Nat) : bt s (i : Int) = ((s.data.toList[i]?).map (fun b => (b.toNat : Int))).getD 0 := by
  unfold bt
  rw [Int.toNat_natCast]
  by_cases h : i < s.size
  · rw [dif_pos h]
    have h2 : i < s.data.toList.length := by rw [Array.length_toList]; exact h
    rw [List.getElem?_eq_getElem h2]
    simp [ByteArray.getElem_eq_getElem_data]
  · rw [dif_neg h]
    have h2 : s.data.toList.length ≤ i := by rw [Array.length_toList]; exact Nat.le_of_not_lt h
    rw [List.getElem?_eq_none h2]
    rfl
theorem bt_extract {s : By} {i j m : Nat} (hj : j ≤ s.size) (hm : i + m < j) : bt (s.extract i j) (m : Int) = bt s ((i + m : Nat) : Int) := by
  rw [bt_data, bt_data, ByteArray.data_extract, Array.toList_extract]
  simp only [List.extract_eq_take_drop, List.getElem?_take, List.getElem?_drop]
  rw [if_pos (by omega)]
theorem size_cut {s : By} {i j : Nat} (hj : j ≤ s.size) : (s.extract i j).size = j - i := by rw [ByteArray.size_extract, Nat.min_eq_left hj]
theorem size_mark (m : UInt8) (s : By) : ((⟨#[m]⟩ : By) ++ s).size = s.size + 1 := by
  rw [ByteArray.size_append]
  show 1 + s.size = s.size + 1
  omega
theorem mark_data (m : UInt8) (s : By) : ((⟨#[m]⟩ : By) ++ s).data.toList = m :: s.data.toList := by
  rw [ByteArray.data_append, Array.toList_append]
  rfl
theorem bt_mark (m : UInt8) (s : By) (i : Nat) : bt ((⟨#[m]⟩ : By) ++ s) ((i + 1 : Nat) : Int) = bt s (i : Int) := by
  rw [bt_data, bt_data, mark_data, List.getElem?_cons_succ]
theorem bt_mark0 (m : UInt8) (s : By) : bt ((⟨#[m]⟩ : By) ++ s) ((0 : Nat) : Int) = (m.toNat : Int) := by
  rw [bt_data, mark_data, List.getElem?_cons_zero]
  rfl
theorem rblank_all : ∀ n : Fin 256, treillageref09_blank.f ((n.val : Nat) : Int) = some (blank ((n.val : Nat) : Int)) := by decide +kernel
theorem rblank_eq (s : By) (i : Int) : treillageref09_blank.f (bt s i) = some (blank (bt s i)) := by
  obtain ⟨h0, h1⟩ := bt_range s i
  have := rblank_all ⟨(bt s i).toNat, by omega⟩
  simp only [Int.toNat_of_nonneg h0] at this
  exact this
theorem rblanks_f {s : By} (hs : s.size ≤ 1000000000000) {i : Nat} (hi : i ≤ s.size) : Ev fun k => treillageref09_blanks.f k s i = some ((skip s i : Nat) : Int) := by
  unfold treillageref09_blanks.f
  refine stop_ind (s := s) (M := fun i => i ≤ s.size → Ev fun k => treillageref09_blanks.l0 k s i = some ((skip s i : Nat) : Int)) blank ?_ ?_ (s.size - i) i (Nat.le_refl _) hi
  · intro i h hi
    refine ⟨1, fun k hk => ?_⟩
    obtain ⟨k, rfl⟩ : ∃ k', k = k' + 1 := ⟨k - 1, by omega⟩
    rw [treillageref09_blanks.l0, show skip s i = i from stop_here h]
    by_cases h1 : i < s.size
    · rw [if_pos (by omega), if_pos (by omega), rblank_eq, Option.bind_some, if_neg (fun e => h ⟨h1, e⟩)]
    · rw [if_neg (by omega)]
  · intro i h hp ih hi
    refine (ih h).succ fun k hk => ?_
    rw [treillageref09_blanks.l0, if_pos (by omega), if_pos (by omega), rblank_eq, Option.bind_some, if_pos hp, w64 (by omega) (by omega), show skip s i = skip s (i + 1) from stop_step h hp]
    exact hk
theorem is_f (s : By) (i : Nat) (b : Int) : treillageref09_is.f s i b = some (decide (isB s i b)) := by
  unfold treillageref09_is.f
  by_cases h : i < s.size
  · rw [if_pos (by omega), if_pos (by omega)]
    congr 1
    by_cases h2 : bt s i = b
    · rw [decide_eq_true (show isB s i b from ⟨h, h2⟩)]; exact beq_iff_eq.2 h2
    · rw [decide_eq_false (show ¬ isB s i b from fun hh => h2 hh.2)]; exact beq_eq_false_iff_ne.2 h2
  · rw [if_neg (by omega), decide_eq_false (show ¬ isB s i b from fun hh => h hh.1)]
theorem rletter_all : ∀ n : Fin 256, treillageref02_letter.f ((n.val : Nat) : Int) = some (letter ((n.val : Nat) : Int)) := by decide +kernel
theorem rletter_eq (s : By) (i : Int) : treillageref02_letter.f (bt s i) = some (letter (bt s i)) := by
  obtain ⟨h0, h1⟩ := bt_range s i
  have := rletter_all ⟨(bt s i).toNat, by omega⟩
  simp only [Int.toNat_of_nonneg h0] at this
  exact this
theorem rname_step {u : By} {i : Nat} (h : i < u.size) (k : Nat) : treillageref02_Name.l0 (k + 1) u i = if letter (bt u i) = true ∨ (i ≠ 0 ∧ nameB (bt u i) = true) then treillageref02_Name.l0 k u (wrap64 ((i : Int) + 1)) else some false := by
  rw [treillageref02_Name.l0, if_pos (by omega), if_pos (by omega), rletter_eq, Option.bind_some]
  by_cases c1 : letter (bt u i) = true
  · rw [if_pos c1, if_pos (Or.inl c1)]
  · rw [if_neg c1]
    by_cases c2 : i = 0
    · rw [if_pos (by omega), if_neg (fun hh => hh.elim c1 (fun h => h.1 c2))]
    · rw [if_neg (by omega)]
      have hl : letter (bt u i) = false := Bool.eq_false_iff.2 c1
      generalize treillageref02_Name.l0 k u (wrap64 ((i : Int) + 1)) = R
      have hn : (letter (bt u i) = true ∨ (i ≠ 0 ∧ nameB (bt u i) = true)) ↔ ((48 ≤ bt u i ∧ bt u i ≤ 57) ∨ bt u i = 45 ∨ bt u i = 95) := by
        unfold nameB
        rw [hl]
        simp [c2, or_assoc]
      by_cases c3 : (48 ≤ bt u i ∧ bt u i ≤ 57) ∨ bt u i = 45 ∨ bt u i = 95
      · rw [if_pos (hn.2 c3)]
        generalize bt u i = x at c3
        repeat' split
        all_goals first | rfl | (exfalso; omega)
      · rw [if_neg (fun hh => c3 (hn.1 hh))]
        generalize bt u i = x at c3
        repeat' split
        all_goals first | rfl | (exfalso; omega)
theorem rname_l0 {u : By} (hu : u.size ≤ 1000000000000) : ∀ (d i : Nat), u.size - i ≤ d → i ≤ u.size → ∃ b, (Ev fun k => treillageref02_Name.l0 k u i = some b) ∧ (b = true ↔ 1 ≤ u.size ∧ u.size ≤ 20 ∧ (∀ m : Nat, i ≤ m → m < u.size → nameB (bt u m) = true) ∧ (i = 0 → letter (bt u (0 : Nat)) = true)) := by
  intro d
  induction d with
  | zero =>
    intro i hd hi
    refine ⟨decide (1 ≤ u.size ∧ u.size ≤ 20), ⟨1, fun k hk => ?_⟩, ?_⟩
    · obtain ⟨k, rfl⟩ : ∃ k', k = k' + 1 := ⟨k - 1, by omega⟩
      rw [treillageref02_Name.l0, if_neg (by omega)]
      by_cases h1 : 1 ≤ u.size
      · rw [if_pos (by omega)]; congr 1; exact decide_eq_decide.2 (by omega)
      · rw [if_neg (by omega), decide_eq_false (by omega)]
    · rw [decide_eq_true_eq]
      exact ⟨fun h => ⟨h.1, h.2, fun m h1 h2 => by omega, fun h0 => by omega⟩, fun h => ⟨h.1, h.2.1⟩⟩
  | succ d ih =>
    intro i hd hi
    by_cases hlt : i < u.size
    · obtain ⟨b, hb, hp⟩ := ih (i + 1) (by omega) hlt
      by_cases c : letter (bt u i) = true ∨ (i ≠ 0 ∧ nameB (bt u i) = true)
      · have hn : nameB (bt u i) = true := c.elim (fun h => by unfold nameB; rw [h]; rfl) (fun h => h.2)
        refine ⟨b, hb.succ fun k hk => ?_, hp.trans ⟨fun ⟨q1, q2, q3, _⟩ => ⟨q1, q2, fun m h1 h2 => ?_, fun h0 => ?_⟩, fun ⟨q1, q2, q3, _⟩ => ⟨q1, q2, fun m h1 h2 => q3 m (by omega) h2, fun h0 => by omega⟩⟩⟩
        · rw [rname_step hlt, if_pos c, w64 (by omega) (by omega)]; exact hk
        · rcases Nat.eq_or_lt_of_le h1 with e | e
          · subst e; exact hn
          · exact q3 m e h2
        · subst h0; exact c.elim id (fun h => absurd rfl h.1)
      · refine ⟨false, ⟨1, fun k hk => ?_⟩, ⟨fun h => (by cases h), fun ⟨q1, q2, q3, q4⟩ => ?_⟩⟩
        · obtain ⟨k, rfl⟩ : ∃ k', k = k' + 1 := ⟨k - 1, by omega⟩
          rw [rname_step hlt, if_neg c]
        · exfalso
          by_cases h0 : i = 0
          · exact c (Or.inl (by subst h0; exact q4 rfl))
          · exact c (Or.inr ⟨h0, q3 i (Nat.le_refl _) hlt⟩)
    · exact ih i (by omega) hi
theorem rname_f {u : By} (hu : u.size ≤ 1000000000000) : ∃ b, (Ev fun k => treillageref02_Name.f k u = some b) ∧ (b = true ↔ 1 ≤ u.size ∧ u.size ≤ 20 ∧ (∀ m : Nat, m < u.size → nameB (bt u m) = true) ∧ letter (bt u (0 : Nat)) = true) := by
  obtain ⟨b, hb, hp⟩ := rname_l0 hu u.size 0 (by omega) (Nat.zero_le _)
  exact ⟨b, hb, hp.trans ⟨fun ⟨q1, q2, q3, q4⟩ => ⟨q1, q2, fun m h => q3 m (Nat.zero_le _) h, q4 rfl⟩, fun ⟨q1, q2, q3, q4⟩ => ⟨q1, q2, fun m _ h => q3 m h, fun _ => q4⟩⟩⟩
/-- A part of the text. -/
theorem rname_cut {s : By} (hs : s.size ≤ 1000000000000) {i j : Nat} (hi : i < j) (hj : j ≤ s.size) : ∃ b, (Ev fun k => treillageref02_Name.f k (s.extract i j) = some b) ∧ (b = true ↔ j ≤ i + 20 ∧ (∀ m : Nat, i ≤ m → m < j → nameB (bt s m) = true) ∧ letter (bt s i) = true) := by
  have hz := size_cut (i := i) hj
  obtain ⟨b, hb, hp⟩ := rname_f (u := s.extract i j) (by omega)
  refine ⟨b, hb, hp.trans ?_⟩
  have e0 := bt_extract (s := s) (i := i) (j := j) (m := 0) hj (by omega)
  rw [hz, e0, show i + 0 = i from rfl]
  refine ⟨fun ⟨q1, q2, q3, q4⟩ => ⟨by omega, fun m h1 h2 => ?_, q4⟩, fun ⟨q2, q3, q4⟩ => ⟨by omega, by omega, fun m h => ?_, q4⟩⟩
  · have := q3 (m - i) (by omega)
    rw [bt_extract hj (by omega), show i + (m - i) = m from by omega] at this
    exact this
  · rw [bt_extract hj (by omega)]
    exact q3 (i + m) (by omega) (by omega)
theorem run_eq {s : By} {i m : Nat} (h1 : i ≤ m) (h2 : m ≤ s.size) (h3 : ∀ q : Nat, i ≤ q → q < m → nameB (bt s q) = true) (h4 : ¬ (m < s.size ∧ nameB (bt s m) = true)) : run s i = m := by
  have a := stop_at nameB s i
  have b := stop_ge nameB s i
  have c := stop_le nameB s i (by omega)
  have d := stop_in nameB s i
  show stop nameB s i = m
  rcases Nat.lt_trichotomy (stop nameB s i) m with h | h | h
  · exact absurd ⟨by omega, h3 _ b h⟩ a
  · exact h
  · exact absurd ⟨by omega, d m h1 h⟩ h4
theorem rnm_j1 {s : By} (hs : s.size ≤ 1000000000000) {i m : Nat} (h1 : i ≤ m) (h2 : m ≤ s.size) (h3 : m ≤ i + 20) (h4 : ∀ q : Nat, i ≤ q → q < m → nameB (bt s q) = true) (h5 : i < m → letter (bt s i) = true) (h6 : m = i → ¬ (i < s.size ∧ letter (bt s i) = true)) (h7 : m < i + 20 → m = i ∨ ¬ (m < s.size ∧ nameB (bt s m) = true)) : Ev fun k => treillageref09_name.j1 k s i m = some (rn (name s i)) := by
  by_cases e : m = i
  · refine ⟨1, fun k hk => ?_⟩
    obtain ⟨k, rfl⟩ : ∃ k', k = k' + 1 := ⟨k - 1, by omega⟩
    unfold name
    rw [treillageref09_name.j1, if_pos (by omega), if_neg (h6 e)]
    rfl
  · have hl := h5 (by omega)
    have w1 : wrap64 ((i : Int) + 20) = ((i + 20 : Nat) : Int) := by rw [w64 (by omega) (by omega)]; rfl
    have w2 : wrap64 ((m : Int) + 1) = ((m + 1 : Nat) : Int) := by rw [w64 (by omega) (by omega)]; rfl
    have hn : name s i = if run s i ≤ i + 20 then .ok (s.extract i (run s i), run s i) else .error (i + 20) := by unfold name; rw [if_pos ⟨by omega, hl⟩]
    have done : (if (0 : Int) ≤ (i : Int) then (if (i : Int) ≤ (m : Int) then (if (m : Int) ≤ (s.size : Int) then some (s.extract (i : Int).toNat (m : Int).toNat, (m : Int), true) else none) else none) else none) = some (s.extract i m, (m : Int), true) := by
      rw [if_pos (by omega), if_pos (by omega), if_pos (by omega), Int.toNat_natCast, Int.toNat_natCast]
    -- the byte behind twenty
    have call : m < s.size → ∃ b, (Ev fun k => treillageref02_Name.f k ((⟨#[97]⟩ : By) ++ s.extract m (m + 1)) = some b) ∧ (b = true ↔ nameB (bt s m) = true) := by
      intro hm
      have hz : ((⟨#[97]⟩ : By) ++ s.extract m (m + 1)).size = 2 := by rw [size_mark, size_cut hm]; omega
      obtain ⟨b, hb, hp⟩ := rname_f (u := (⟨#[97]⟩ : By) ++ s.extract m (m + 1)) (by omega)
      have e1 : bt ((⟨#[97]⟩ : By) ++ s.extract m (m + 1)) ((1 : Nat) : Int) = bt s m := by rw [show (1 : Nat) = 0 + 1 from rfl, bt_mark, bt_extract hm (by omega)]; rfl
      refine ⟨b, hb, hp.trans ⟨fun ⟨_, _, q3, _⟩ => by rw [← e1]; exact q3 1 (by omega), fun h => ⟨by omega, by omega, fun q hq => ?_, by rw [bt_mark0]; decide⟩⟩⟩
      rw [hz] at hq
      rcases (show q = 0 ∨ q = 1 from by omega) with rfl | rfl
      · rw [bt_mark0]; decide
      · rw [e1]; exact h
    by_cases c : m < s.size ∧ nameB (bt s m) = true
    · have em : m = i + 20 := by
        rcases Nat.lt_or_ge m (i + 20) with h | h
        · rcases h7 h with h | h
          · exact absurd h e
          · exact absurd c h
        · omega
      obtain ⟨b, hb, hp⟩ := call c.1
      have hb1 := hp.2 c.2
      subst hb1
      have hr : ¬ run s i ≤ i + 20 := by
        intro hr
        have a := stop_at nameB s i
        have b := stop_ge nameB s i
        rcases Nat.eq_or_lt_of_le (show stop nameB s i ≤ m from em ▸ hr) with h | h
        · rw [h] at a; exact a c
        · exact a ⟨by omega, h4 _ b h⟩
      have zc := size_cut (s := s) (i := m) (j := m + 1) c.1
      refine hb.succ fun k hk => ?_
      rw [treillageref09_name.j1, if_neg (by omega), w1, if_pos (by omega), if_pos (by omega), if_pos (by omega), w2, if_pos (by omega), if_pos (by omega), Int.toNat_natCast, Int.toNat_natCast, if_pos (by omega), hk, Option.bind_some, if_pos rfl, hn, if_neg hr, em]
      rfl
    · have hr := run_eq h1 h2 h4 c
      rw [hn, hr, if_pos h3]
      by_cases e2 : m = i + 20
      · by_cases e3 : m < s.size
        · obtain ⟨b, hb, hp⟩ := call e3
          have hb1 : b = false := Bool.eq_false_iff.2 (fun h => c ⟨e3, hp.1 h⟩)
          subst hb1
          have zc := size_cut (s := s) (i := m) (j := m + 1) e3
          refine hb.succ fun k hk => ?_
          rw [treillageref09_name.j1, if_neg (by omega), w1, if_pos (by omega), if_pos (by omega), if_pos (by omega), w2, if_pos (by omega), if_pos (by omega), Int.toNat_natCast (m + 1), Int.toNat_natCast m, if_pos (by omega), hk, Option.bind_some, if_neg (by decide)]
          rw [Int.toNat_natCast m] at done
          exact done
        · refine ⟨1, fun k hk => ?_⟩
          obtain ⟨k, rfl⟩ : ∃ k', k = k' + 1 := ⟨k - 1, by omega⟩
          rw [treillageref09_name.j1, if_neg (by omega), w1, if_pos (by omega), if_neg (by omega)]
          exact done
      · refine ⟨1, fun k hk => ?_⟩
        obtain ⟨k, rfl⟩ : ∃ k', k = k' + 1 := ⟨k - 1, by omega⟩
        rw [treillageref09_name.j1, if_neg (by omega), w1, if_neg (by omega)]
        exact done
theorem rnm_loop {s : By} (hs : s.size ≤ 1000000000000) (i : Nat) : ∀ (d m : Nat), s.size - m ≤ d → i ≤ m → m ≤ s.size → m ≤ i + 20 → (∀ q : Nat, i ≤ q → q < m → nameB (bt s q) = true) → (i < m → letter (bt s i) = true) → Ev fun k => treillageref09_name.l0 k s i m = some (rn (name s i)) := by
  intro d
  induction d with
  | zero =>
    intro m hd h1 h2 h3 h4 h5
    refine (rnm_j1 hs h1 h2 h3 h4 h5 (fun e h => by omega) (fun h => Or.inr (fun hh => by omega))).succ fun k hk => ?_
    rw [treillageref09_name.l0, if_neg (by omega)]
    exact hk
  | succ d ih =>
    intro m hd h1 h2 h3 h4 h5
    by_cases hm : m < s.size
    · have w2 : wrap64 ((m : Int) + 1) = ((m + 1 : Nat) : Int) := by rw [w64 (by omega) (by omega)]; rfl
      obtain ⟨b, hb, hp⟩ := rname_cut hs (i := i) (j := m + 1) (by omega) hm
      cases b with
      | true =>
        obtain ⟨q1, q2, q3⟩ := hp.1 rfl
        refine (hb.and (ih (m + 1) (by omega) (by omega) hm (by omega) (fun q ha hb => q2 q ha hb) (fun _ => q3))).succ fun k hk => ?_
        rw [treillageref09_name.l0, if_pos (by omega), if_pos (by omega), w2, if_pos (by omega), if_pos (by omega), Int.toNat_natCast, Int.toNat_natCast, hk.1, Option.bind_some, if_pos rfl]
        exact hk.2
      | false =>
        have no : ¬ (m + 1 ≤ i + 20 ∧ (∀ q : Nat, i ≤ q → q < m + 1 → nameB (bt s q) = true) ∧ letter (bt s i) = true) := fun h => by have := hp.2 h; cases this
        have key := rnm_j1 hs h1 h2 h3 h4 h5 (fun e h => no ⟨by omega, fun q ha hb => by
            obtain rfl : q = i := by omega
            unfold nameB; rw [h.2]; rfl, h.2⟩) (fun h => by
            by_cases e : m = i
            · exact Or.inl e
            · refine Or.inr (fun hh => no ⟨by omega, fun q ha hb => ?_, h5 (by omega)⟩)
              rcases Nat.lt_or_ge q m with hq | hq
              · exact h4 q ha hq
              · obtain rfl : q = m := by omega
                exact hh.2)
        refine (hb.and key).succ fun k hk => ?_
        rw [treillageref09_name.l0, if_pos (by omega), if_pos (by omega), w2, if_pos (by omega), if_pos (by omega), Int.toNat_natCast, Int.toNat_natCast, hk.1, Option.bind_some, if_neg (by decide)]
        exact hk.2
    · exact ih m (by omega) h1 h2 h3 h4 h5
theorem rnm_f {s : By} (hs : s.size ≤ 1000000000000) {i : Nat} (hi : i ≤ s.size) : Ev fun k => treillageref09_name.f k s i = some (rn (name s i)) := by
  unfold treillageref09_name.f
  exact rnm_loop hs i (s.size - i) i (Nat.le_refl _) (Nat.le_refl _) hi (by omega) (fun q h1 h2 => by omega) (fun h => by omega)
end Go.Proofs.Ytjiejmkkaekefaa.PureS
