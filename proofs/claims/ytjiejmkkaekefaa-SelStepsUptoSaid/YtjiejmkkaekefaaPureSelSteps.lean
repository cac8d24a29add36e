/-
  Two selectors of one row, with a blank, or a >, between are one row of both.
-/
import Derived.Test.YtjiejmkkaekefaaSelM
import Derived.Test.YtjiejmkkaekefaaPAx35
namespace Go.Proofs.Ytjiejmkkaekefaa.PureS
set_option linter.unusedVariables false
set_option linter.unusedSimpArgs false
open Go.RowKit Go.Proofs.Ytjiejmkkaekefaa.PA Go.Proofs.YtjiejmkkaekefaaW.PrintWords Go.Proofs.YtjiejmkkaekefaaW.PrintLast Go.Proofs.YtjiejmkkaekefaaW.PrintMore Go.Proofs.YtjiejmkkaekefaaH

/-- A text that goes on behind s by a byte that is no part of a compound. -/
structure Pre (s u : By) (c : Int) : Prop where
  lt : s.size < u.size
  get : ∀ m : Nat, m < s.size → bt u m = bt s m
  mark : bt u s.size = c
  ex : ∀ i j : Nat, j ≤ s.size → u.extract i j = s.extract i j
  no : nameB c = false ∧ letter c = false ∧ c ≠ 46 ∧ c ≠ 35 ∧ c ≠ 91 ∧ c ≠ 61 ∧ c ≠ 93 ∧ c ≠ 34 ∧ c ≠ 42 ∧ c ≠ 44
section
variable {s u : By} {c : Int}
theorem Pre.near (h : Pre s u c) (p : Int → Bool) {i : Nat} (hl : stop p s i < s.size) : stop p u i = stop p s i := by
  have a := stop_at p s i
  have b := stop_ge p s i
  have d := stop_in p s i
  have hlt := h.lt
  refine stop_eq b (by omega) (fun q h1 h2 => by rw [h.get q (by omega)]; exact d q h1 h2) (fun hh => ?_)
  rw [h.get _ hl] at hh
  exact a ⟨hl, hh.2⟩
theorem Pre.stop (h : Pre s u c) {p : Int → Bool} (hp : p c = false) {i : Nat} (hi : i ≤ s.size) : stop p u i = stop p s i := by
  have b := stop_ge p s i
  have cc := stop_le p s i hi
  have d := stop_in p s i
  have hlt := h.lt
  rcases Nat.lt_or_ge (PureS.stop p s i) s.size with e | e
  · exact h.near p e
  · refine stop_eq b (by omega) (fun q h1 h2 => by rw [h.get q (by omega)]; exact d q h1 h2) (fun hh => ?_)
    have e2 : PureS.stop p s i = s.size := by omega
    rw [e2, h.mark, hp] at hh
    cases hh.2
theorem Pre.isB (h : Pre s u c) {i : Nat} {b : Int} (hi : i ≤ s.size) (hb : b ≠ c) : isB u i b ↔ isB s i b := by
  have := h.lt
  refine ⟨fun hh => ?_, fun hh => ⟨by have := hh.1; omega, by rw [h.get _ hh.1]; exact hh.2⟩⟩
  rcases Nat.lt_or_ge i s.size with e | e
  · exact ⟨e, by rw [← h.get _ e]; exact hh.2⟩
  · have e2 : i = s.size := by omega
    have := hh.2
    rw [e2, h.mark] at this
    exact absurd this.symm hb
theorem Pre.letter (h : Pre s u c) {i : Nat} (hi : i ≤ s.size) : (i < u.size ∧ letter (bt u i) = true) ↔ (i < s.size ∧ letter (bt s i) = true) := by
  have := h.lt
  refine ⟨fun q => ?_, fun q => ⟨by omega, by rw [h.get _ q.1]; exact q.2⟩⟩
  rcases Nat.lt_or_ge i s.size with e | e
  · exact ⟨e, by rw [← h.get _ e]; exact q.2⟩
  · have e2 : i = s.size := by omega
    have := q.2
    rw [e2, h.mark, h.no.2.1] at this
    cases this
theorem Pre.name (h : Pre s u c) {i : Nat} (hi : i ≤ s.size) : name u i = name s i := by
  have e : run u i = run s i := h.stop h.no.1 hi
  have cc : run s i ≤ s.size := stop_le _ _ _ hi
  unfold PureS.name
  rw [e, h.ex i _ cc]
  by_cases hh : i < s.size ∧ PureS.letter (bt s i) = true
  · rw [if_pos hh, if_pos ((h.letter hi).2 hh)]
  · rw [if_neg hh, if_neg (fun q => hh ((h.letter hi).1 q))]
theorem Pre.value (h : Pre s u c) {i : Nat} (hi : i ≤ s.size) {r : By × Nat} (hr : value s i = .ok r) : value u i = .ok r := by
  have hl := h.lt
  unfold PureS.value at hr ⊢
  by_cases c1 : PureS.isB s i 34
  · rw [if_pos c1] at hr
    rw [if_pos ((h.isB hi (fun e => h.no.2.2.2.2.2.2.2.1 e.symm)).2 c1)]
    split at hr
    · rename_i c2
      have e := h.near noQuote c2.1
      rw [e, h.ex _ _ (by omega), if_pos ⟨by omega, c2.2⟩]
      exact hr
    · cases hr
  · rw [if_neg c1] at hr
    rw [if_neg (fun q => c1 ((h.isB hi (fun e => h.no.2.2.2.2.2.2.2.1 e.symm)).1 q)), h.name hi]
    exact hr
theorem Pre.brackets (h : Pre s u c) {i : Nat} (hi : i ≤ s.size) {r : Tst × Nat} (hr : brackets s i = .ok r) : brackets u i = .ok r := by
  unfold PureS.brackets at hr ⊢
  have l0 := skip_le hi
  cases hn : PureS.name s (skip s i) with
  | error p => rw [hn] at hr; cases hr
  | ok x =>
    obtain ⟨n, j⟩ := x
    have l1 := name_le hn
    have l2 := skip_le l1.2
    have e0 : skip u i = skip s i := h.near blank (by show skip s i < s.size; omega)
    rw [hn] at hr
    rw [e0, h.name l0.2, hn]
    dsimp only at hr ⊢
    by_cases c1 : PureS.isB s (skip s j) 61
    · have e1 : skip u j = skip s j := h.near blank c1.1
      have l3 := skip_le (s := s) (i := skip s j + 1) c1.1
      rw [if_pos c1] at hr
      rw [e1, if_pos ((h.isB l2.2 (fun e => h.no.2.2.2.2.2.1 e.symm)).2 c1)]
      cases ev : PureS.value s (skip s (skip s j + 1)) with
      | error p => rw [ev] at hr; cases hr
      | ok y =>
        obtain ⟨v, m⟩ := y
        have l4 := value_le ev
        have l5 := skip_le l4.2
        have e2 : skip u (skip s j + 1) = skip s (skip s j + 1) := h.near blank (by show skip s (skip s j + 1) < s.size; omega)
        rw [ev] at hr
        rw [e2, h.value l3.2 ev]
        dsimp only at hr ⊢
        by_cases c2 : PureS.isB s (skip s m) 93
        · have e3 : skip u m = skip s m := h.near blank c2.1
          rw [if_pos c2] at hr
          rw [e3, if_pos ((h.isB l5.2 (fun e => h.no.2.2.2.2.2.2.1 e.symm)).2 c2)]
          exact hr
        · rw [if_neg c2] at hr; cases hr
    · rw [if_neg c1] at hr
      by_cases c2 : PureS.isB s (skip s j) 93
      · have e1 : skip u j = skip s j := h.near blank c2.1
        rw [if_pos c2] at hr
        rw [e1, if_neg (fun q => c1 ((h.isB l2.2 (fun e => h.no.2.2.2.2.2.1 e.symm)).1 q)), if_pos ((h.isB l2.2 (fun e => h.no.2.2.2.2.2.2.1 e.symm)).2 c2)]
        exact hr
      · rw [if_neg c2] at hr; cases hr
theorem Pre.tests (h : Pre s u c) : ∀ (d e i : Nat) (acc : List Tst) {r : List Tst × Nat}, s.size - i < d → u.size - i < e → i ≤ s.size → tests s d acc i = .ok r → tests u e acc i = .ok r := by
  have hl := h.lt
  intro d
  induction d with
  | zero => intro e i acc r hd; omega
  | succ d ih =>
    intro e i acc r hd he hi hr
    obtain ⟨e, rfl⟩ : ∃ e', e = e' + 1 := ⟨e - 1, by omega⟩
    have mark : ∀ q : Int, i < s.size → (match PureS.name s (i + 1) with | .error p => (.error p : Res (List Tst)) | .ok (n, j) => PureS.tests s d (acc ++ [(⟨q, n, ⟨#[]⟩⟩ : Tst)]) j) = .ok r → (match PureS.name u (i + 1) with | .error p => (.error p : Res (List Tst)) | .ok (n, j) => PureS.tests u e (acc ++ [(⟨q, n, ⟨#[]⟩⟩ : Tst)]) j) = .ok r := by
      intro q hlt hr
      rw [h.name hlt]
      cases hn : PureS.name s (i + 1) with
      | error p => rw [hn] at hr; cases hr
      | ok x =>
        obtain ⟨n, j⟩ := x
        rw [hn] at hr
        have l1 := name_le hn
        exact ih e j _ (by omega) (by omega) l1.2 hr
    rw [PureS.tests] at hr ⊢
    by_cases c1 : PureS.isB s i 46
    · rw [if_pos c1] at hr
      rw [if_pos ((h.isB hi (fun e => h.no.2.2.1 e.symm)).2 c1)]
      exact mark 3 c1.1 hr
    · rw [if_neg c1] at hr
      rw [if_neg (fun q => c1 ((h.isB hi (fun e => h.no.2.2.1 e.symm)).1 q))]
      by_cases c2 : PureS.isB s i 35
      · rw [if_pos c2] at hr
        rw [if_pos ((h.isB hi (fun e => h.no.2.2.2.1 e.symm)).2 c2)]
        exact mark 2 c2.1 hr
      · rw [if_neg c2] at hr
        rw [if_neg (fun q => c2 ((h.isB hi (fun e => h.no.2.2.2.1 e.symm)).1 q))]
        by_cases c3 : PureS.isB s i 91
        · rw [if_pos c3] at hr
          rw [if_pos ((h.isB hi (fun e => h.no.2.2.2.2.1 e.symm)).2 c3)]
          have hlt := c3.1
          cases eb : PureS.brackets s (i + 1) with
          | error p => rw [eb] at hr; cases hr
          | ok x =>
            obtain ⟨t, j⟩ := x
            rw [eb] at hr
            rw [h.brackets hlt eb]
            have l1 := brackets_le c3.1 eb
            exact ih e j _ (by omega) (by omega) l1.2 hr
        · rw [if_neg c3] at hr
          rw [if_neg (fun q => c3 ((h.isB hi (fun e => h.no.2.2.2.2.1 e.symm)).1 q))]
          exact hr
theorem closed_of {i : Nat} {r : Res (List Tst)} {x : List Tst × Nat} (h : closed i r = .ok x) : r = .ok x := by
  obtain ⟨c, j⟩ := x
  exact closed_ok h
theorem Pre.compound (h : Pre s u c) {i : Nat} (hi : i ≤ s.size) {r : List Tst × Nat} (hr : compound s i = .ok r) : compound u i = .ok r := by
  have hl := h.lt
  have back : ∀ {d e j : Nat} {acc : List Tst}, s.size - j < d → u.size - j < e → j ≤ s.size → closed i (PureS.tests s d acc j) = .ok r → closed i (PureS.tests u e acc j) = .ok r := by
    intro d e j acc h1 h2 h3 h4
    have h5 := closed_of h4
    rw [h.tests d e j acc h1 h2 h3 h5]
    rw [h5] at h4
    exact h4
  unfold PureS.compound at hr ⊢
  by_cases c1 : PureS.isB s i 42
  · have := c1.1
    rw [if_pos c1] at hr
    rw [if_pos ((h.isB hi (fun e => h.no.2.2.2.2.2.2.2.2.1 e.symm)).2 c1)]
    exact back (by omega) (by omega) c1.1 hr
  · rw [if_neg c1] at hr
    rw [if_neg (fun q => c1 ((h.isB hi (fun e => h.no.2.2.2.2.2.2.2.2.1 e.symm)).1 q))]
    by_cases c2 : i < s.size ∧ PureS.letter (bt s i) = true
    · rw [if_pos c2] at hr
      rw [if_pos ((h.letter hi).2 c2), h.name hi]
      cases hn : PureS.name s i with
      | error p => rw [hn] at hr; cases hr
      | ok x =>
        obtain ⟨n, j⟩ := x
        rw [hn] at hr
        have l1 := name_le hn
        exact back (by omega) (by omega) l1.2 hr
    · rw [if_neg c2] at hr
      rw [if_neg (fun q => c2 ((h.letter hi).1 q))]
      exact back (by omega) (by omega) hi hr
/-- The steps of the first text, read whole: then what is behind the byte. -/
theorem Pre.steps (h : Pre s u c) {p : Nat} (hp : p < u.size) (hp44 : bt u p ≠ 44) (hp62 : bt u p ≠ 62) (h62 : c = 62 → skip u (s.size + 1) = p) (h32 : c ≠ 62 → blank c = true ∧ s.size < p ∧ ∀ q : Nat, s.size < q → q < p → blank (bt u q) = true) (hpb : blank (bt u p) = false) (hsp : s.size < p) :
    ∀ (d e i : Nat) (acc : List Stp) (child : Bool) {l : List Stp}, s.size - i < d → u.size - i < e → i ≤ s.size → steps s d acc child i = .ok (l, s.size) → ∃ e', u.size - p < e' ∧ steps u e acc child i = steps u e' l (decide (c = 62)) p := by
  have hl := h.lt
  intro d
  induction d with
  | zero => intro e i acc child l hd; omega
  | succ d ih =>
    intro e i acc child l hd he hi hr
    obtain ⟨e, rfl⟩ : ∃ e', e = e' + 1 := ⟨e - 1, by omega⟩
    rw [PureS.steps] at hr
    rw [PureS.steps]
    cases ec : PureS.compound s i with
    | error q => rw [ec] at hr; cases hr
    | ok x =>
      obtain ⟨cc, m⟩ := x
      rw [ec] at hr
      rw [h.compound hi ec]
      have l1 := compound_le hi ec
      have l2 := skip_le l1.2.1
      dsimp only at hr ⊢
      by_cases c1 : skip s m = s.size ∨ bt s (skip s m) = 44
      · rw [if_pos c1] at hr
        injection hr with hr
        injection hr with h1 h2
        subst h1
        have hin := stop_in blank s m
        by_cases e62 : c = 62
        · have eu : skip u m = s.size := by
            have := h.stop (p := blank) (i := m) (by rw [e62]; decide) l1.2.1
            show PureS.stop blank u m = s.size
            rw [this]
            exact h2
          rw [eu, if_neg (fun q => q.elim (fun q => by omega) (fun q => by rw [h.mark, e62] at q; exact absurd q (by decide))), if_pos (by rw [h.mark]; exact e62), h62 e62, decide_eq_true e62]
          exact ⟨e, by omega, rfl⟩
        · obtain ⟨b1, b2, b3⟩ := h32 e62
          have eu : skip u m = p := by
            refine stop_eq (by omega) (by omega) (fun q h1 h2' => ?_) (fun q => by rw [hpb] at q; cases q.2)
            rcases Nat.lt_trichotomy q s.size with g | g | g
            · rw [h.get q g]
              exact hin q h1 (by show q < skip s m; omega)
            · rw [g, h.mark]; exact b1
            · exact b3 q g h2'
          rw [eu, if_neg (fun q => q.elim (fun q => by omega) hp44), if_neg hp62, if_pos (by omega), decide_eq_false e62]
          exact ⟨e, by omega, rfl⟩
      · rw [if_neg c1] at hr
        have hlt : skip s m < s.size := by
          rcases Nat.eq_or_lt_of_le l2.2 with h | h
          · exact absurd (Or.inl h) c1
          · exact h
        have eu : skip u m = skip s m := h.near blank hlt
        have eb := h.get _ hlt
        rw [eu, eb, if_neg (fun q => q.elim (fun q => by omega) (fun q => c1 (Or.inr q)))]
        by_cases c2 : bt s (skip s m) = 62
        · rw [if_pos c2] at hr
          have l3 := skip_le (s := s) (i := skip s m + 1) hlt
          have hn : skip s (skip s m + 1) < s.size := by
            obtain ⟨d', hd'⟩ : ∃ d', d = d' + 1 := ⟨d - 1, by omega⟩
            rw [hd', PureS.steps] at hr
            cases e2 : PureS.compound s (skip s (skip s m + 1)) with
            | error q => rw [e2] at hr; cases hr
            | ok y =>
              obtain ⟨c3, m3⟩ := y
              have := compound_le l3.2 e2
              omega
          have e4 : skip u (skip s m + 1) = skip s (skip s m + 1) := h.near blank hn
          rw [if_pos c2, e4]
          exact ih e _ _ _ (by omega) (by omega) l3.2 hr
        · rw [if_neg c2] at hr
          rw [if_neg c2]
          by_cases c3 : m < skip s m
          · rw [if_pos c3] at hr
            rw [if_pos c3]
            exact ih e _ _ _ (by omega) (by omega) l2.2 hr
          · rw [if_neg c3] at hr; cases hr
end
def pref (A : List Stp) : Res (List Stp) → Res (List Stp)
  | .error p => .error p
  | .ok (l, j) => .ok (A ++ l, j)
theorem steps_acc {t : By} (A : List Stp) : ∀ (d i : Nat) (acc : List Stp) (child : Bool), steps t d (A ++ acc) child i = pref A (steps t d acc child i) := by
  intro d
  induction d with
  | zero => intro i acc child; rfl
  | succ d ih =>
    intro i acc child
    rw [steps, steps]
    cases e : compound t i with
    | error p => rfl
    | ok x =>
      obtain ⟨c, k⟩ := x
      dsimp only
      rw [List.append_assoc]
      split
      · rfl
      · split
        · exact ih _ _ _
        · split
          · exact ih _ _ _
          · rfl
/-- The first step alone has what was told ahead of it. -/
theorem steps_first {t : By} {d i : Nat} {l : List Stp} {j : Nat} {b : Bool} (h : steps t d [] b i = .ok (l, j)) : ∃ y r, l = y :: r ∧ ∀ (A : List Stp) (ch : Bool), steps t d A ch i = .ok (A ++ ⟨y.f0, ch⟩ :: r, j) := by
  cases d with
  | zero => rw [steps] at h; cases h
  | succ d =>
    rw [steps] at h
    cases e : compound t i with
    | error p => rw [e] at h; cases h
    | ok x =>
      obtain ⟨c, k⟩ := x
      rw [e] at h
      dsimp only at h
      have go : ∀ {b2 : Bool} {i2 : Nat}, steps t d ([] ++ [⟨c, b⟩]) b2 i2 = .ok (l, j) → ∃ r, l = ⟨c, b⟩ :: r ∧ ∀ (A : List Stp) (ch : Bool), steps t d (A ++ [⟨c, ch⟩]) b2 i2 = .ok (A ++ ⟨c, ch⟩ :: r, j) := by
        intro b2 i2 hh
        have e1 := steps_acc (t := t) [⟨c, b⟩] d i2 [] b2
        rw [List.append_nil] at e1
        rw [List.nil_append, e1] at hh
        cases e2 : steps t d [] b2 i2 with
        | error p => rw [e2] at hh; cases hh
        | ok y =>
          obtain ⟨r, j'⟩ := y
          rw [e2] at hh
          unfold pref at hh
          dsimp only at hh
          injection hh with hh
          injection hh with h1 h2
          subst h2
          refine ⟨r, h1.symm, fun A ch => ?_⟩
          have e3 := steps_acc (t := t) (A ++ [⟨c, ch⟩]) d i2 [] b2
          rw [List.append_nil] at e3
          rw [e3, e2]
          unfold pref
          dsimp only
          rw [List.append_assoc]
          rfl
      split at h
      · rename_i c1
        injection h with h
        injection h with h1 h2
        subst h1 h2
        refine ⟨⟨c, b⟩, [], rfl, fun A ch => ?_⟩
        rw [steps, e]
        dsimp only
        rw [if_pos c1]
      · rename_i c1
        split at h
        · rename_i c2
          obtain ⟨r, h1, h2⟩ := go h
          refine ⟨⟨c, b⟩, r, h1, fun A ch => ?_⟩
          rw [steps, e]
          dsimp only
          rw [if_neg c1, if_pos c2]
          exact h2 A ch
        · rename_i c2
          split at h
          · rename_i c3
            obtain ⟨r, h1, h2⟩ := go h
            refine ⟨⟨c, b⟩, r, h1, fun A ch => ?_⟩
            rw [steps, e]
            dsimp only
            rw [if_neg c1, if_neg c2, if_pos c3]
            exact h2 A ch
          · cases h
theorem rows_more {s : By} : ∀ (d i : Nat) (acc : List (List Stp)) {l : List (List Stp)}, rows s d acc i = .ok l → acc.length + 1 ≤ l.length := by
  intro d
  induction d with
  | zero => intro i acc l h; rw [rows] at h; cases h
  | succ d ih =>
    intro i acc l h
    rw [rows] at h
    cases e : row s i with
    | error p => rw [e] at h; cases h
    | ok x =>
      obtain ⟨q, m⟩ := x
      rw [e] at h
      dsimp only at h
      split at h
      · have := ih _ _ h
        rw [List.length_append, List.length_singleton] at this
        omega
      · injection h with h
        subst h
        rw [List.length_append, List.length_singleton]
        omega
/-- A selector of one row: its row is read to the end. -/
theorem one_row {s : By} {r : List Stp} (h : parse s = .ok [r]) : row s 0 = .ok (r, s.size) := by
  unfold parse at h
  rw [rows] at h
  cases e : row s 0 with
  | error p => rw [e] at h; cases h
  | ok x =>
    obtain ⟨q, m⟩ := x
    have l1 := row_le (Nat.zero_le _) e
    rw [e] at h
    dsimp only at h
    split at h
    · have := rows_more _ _ _ h
      simp only [List.nil_append, List.length_singleton] at this
      omega
    · rename_i c1
      injection h with h
      rw [List.nil_append] at h
      injection h with h _
      subst h
      have : m = s.size := by
        rcases l1.2.2 with g | g
        · exact g
        · exact absurd (at_of (by decide) g) c1
      rw [this]
theorem hind_mid (s t : By) (c : UInt8) : Hind t ((s ++ (⟨#[c]⟩ : By)) ++ t) (s.size + 1) := by
  have hl : (s ++ (⟨#[c]⟩ : By)).data.toList.length = s.size + 1 := by rw [len_data, ByteArray.size_append]; rfl
  refine ⟨?_, fun m => ?_, fun i j hj => ?_⟩
  · rw [ByteArray.size_append, ByteArray.size_append]
    rfl
  · rw [get_data, get_data, cat_data, List.getElem?_append_right (by omega), hl, Nat.add_sub_cancel_left]
  · apply data_ext
    rw [cut_data, cut_data, cat_data, List.drop_append, hl, show s.size + 1 + i - (s.size + 1) = i from by omega, List.drop_of_length_le (by omega), List.nil_append, show s.size + 1 + j - (s.size + 1 + i) = j - i from by omega]
theorem pre_mid (s t : By) {c : UInt8} (hc : c = 32 ∨ c = 62) : Pre s ((s ++ (⟨#[c]⟩ : By)) ++ t) (c.toNat : Int) := by
  have hl := len_data s
  refine ⟨?_, fun m hm => ?_, ?_, fun i j hj => ?_, ?_⟩
  · rw [ByteArray.size_append, ByteArray.size_append]
    show s.size < s.size + 1 + t.size
    omega
  · rw [get_data, get_data, cat_data, cat_data, List.append_assoc, List.getElem?_append_left (by omega)]
  · rw [get_data, cat_data, cat_data, List.append_assoc, List.getElem?_append_right (by omega), hl, Nat.sub_self]
    rfl
  · apply data_ext
    rw [cut_data, cut_data, cat_data, cat_data, List.append_assoc]
    by_cases hi : i ≤ s.size
    · rw [List.drop_append_of_le_length (by omega), List.take_append_of_le_length (by rw [List.length_drop]; omega)]
    · rw [show j - i = 0 from by omega, List.take_zero, List.take_zero]
  · rcases hc with hc | hc <;> subst hc <;> decide
/-- One row behind another. -/
theorem parse_mid {s t : By} {a b : List Stp} (ha : parse s = .ok [a]) (hb : parse t = .ok [b]) {c : UInt8} (hc : c = 32 ∨ c = 62) :
    ∃ y r, b = y :: r ∧ parse ((s ++ (⟨#[c]⟩ : By)) ++ t) = .ok [a ++ ⟨y.f0, decide (c = 62)⟩ :: r] := by
  have ra := one_row ha
  have rb := one_row hb
  unfold row at ra rb
  have H := hind_mid s t c
  have P := pre_mid s t hc
  obtain ⟨u, hu⟩ : ∃ u, u = (s ++ (⟨#[c]⟩ : By)) ++ t := ⟨_, rfl⟩
  rw [← hu] at H P ⊢
  have hs := H.size
  obtain ⟨y, r, e1, e2⟩ := steps_first rb
  refine ⟨y, r, e1, ?_⟩
  have l0 := skip_le (s := s) (i := 0) (Nat.zero_le _)
  have l1 := skip_le (s := t) (i := 0) (Nat.zero_le _)
  -- the first compound of each
  have first : ∀ {v : By} {l : List Stp} {i j d : Nat} {b : Bool}, i ≤ v.size → steps v d [] b i = .ok (l, j) → i < v.size ∧ blank (bt v i) = false ∧ bt v i ≠ 44 ∧ bt v i ≠ 62 := by
    intro v l i j d b hi h
    cases d with
    | zero => rw [steps] at h; cases h
    | succ d =>
      rw [steps] at h
      cases e : compound v i with
      | error p => rw [e] at h; cases h
      | ok x =>
        obtain ⟨cc, k⟩ := x
        have lk := compound_le hi e
        refine ⟨by omega, ?_⟩
        by_cases g1 : isB v i 42
        · rw [g1.2]; exact ⟨by decide, by decide, by decide⟩
        · by_cases g2 : i < v.size ∧ letter (bt v i) = true
          · have := letter_no g2.2
            exact ⟨this.1, this.2.2.1, this.2.2.2.1⟩
          · unfold compound at e
            rw [if_neg g1, if_neg g2] at e
            have e' := closed_ok e
            rw [tests] at e'
            by_cases g3 : isB v i 46
            · rw [g3.2]; exact ⟨by decide, by decide, by decide⟩
            · by_cases g4 : isB v i 35
              · rw [g4.2]; exact ⟨by decide, by decide, by decide⟩
              · by_cases g5 : isB v i 91
                · rw [g5.2]; exact ⟨by decide, by decide, by decide⟩
                · rw [if_neg g3, if_neg g4, if_neg g5] at e'
                  injection e' with e'
                  injection e' with q1 q2
                  omega
  have fa := first l0.2 ra
  have fb := first l1.2 rb
  have su : skip u 0 = skip s 0 := P.near blank fa.1
  have gp := H.get (skip t 0)
  obtain ⟨p, hp⟩ : ∃ p, p = s.size + 1 + skip t 0 := ⟨_, rfl⟩
  rw [← hp] at gp
  have sp : skip u (s.size + 1) = p := by
    have := H.skp (i := 0) (Nat.zero_le _)
    rw [Nat.add_zero] at this
    rw [this, hp]
  have lt2 := fb.1
  have blk : ∀ q : Nat, s.size < q → q < p → blank (bt u q) = true := by
    intro q h1 h2
    obtain ⟨m, rfl⟩ : ∃ m, q = s.size + 1 + m := ⟨q - (s.size + 1), by omega⟩
    rw [H.get m]
    exact stop_in blank t 0 m (Nat.zero_le _) (by show m < skip t 0; omega)
  obtain ⟨e', he', hst⟩ := P.steps (p := p) (by omega) (by rw [gp]; exact fb.2.2.1) (by rw [gp]; exact fb.2.2.2) (fun _ => sp) (fun hne => ⟨hc.elim (fun g => by rw [g]; rfl) (fun g => absurd (by rw [g]; rfl) hne), by omega, blk⟩) (by rw [gp]; exact fb.2.1) (by omega) (s.size + 1) (u.size + 1) (skip s 0) [] false (by omega) (by omega) l0.2 ra
  have hin := H.steps (t.size + 1) e' (skip t 0) a (decide ((c.toNat : Int) = 62)) (by omega) (by rw [← hp]; omega) l1.2
  rw [← hp, e2] at hin
  rw [hin] at hst
  have dc : decide ((c.toNat : Int) = 62) = decide (c = 62) := by rcases hc with g | g <;> subst g <;> rfl
  rw [dc] at hst
  unfold parse
  rw [rows]
  unfold row
  rw [su, hst]
  unfold sh
  dsimp only
  rw [if_neg (fun q => by have := q.1; omega)]
  rfl
end Go.Proofs.Ytjiejmkkaekefaa.PureS
namespace Go.Proofs.Ytjiejmkkaekefaa.Pure
open Go.RowKit Go.Proofs.Ytjiejmkkaekefaa.PA Go.Proofs.YtjiejmkkaekefaaW.PrintWords Go.Proofs.YtjiejmkkaekefaaW.PrintLast Go.Proofs.YtjiejmkkaekefaaW.PrintMore Go.Proofs.YtjiejmkkaekefaaH
open Go.Proofs.Ytjiejmkkaekefaa.PureS

theorem len1 (x : List Stp) : (([x] : List (List Stp)).length : Int) = 1 := rfl
theorem pos1 (x : List Stp) : (0 : Int) < (([x] : List (List Stp)).length : Int) := by
  show (0 : Int) < ((1 : Nat) : Int)
  decide
theorem steps_law (s t : By) (child : Bool) (hs : s.size ≤ 1048576) (ht : t.size ≤ 1048576) : ∃ k, treillagelaw09_SelSteps.f k s t child = some true := by
  obtain ⟨K0, h0⟩ := shown_f
  obtain ⟨K1, h1⟩ := parse_f (s := s) (by omega)
  obtain ⟨K2, h2⟩ := parse_f (s := t) (by omega)
  obtain ⟨K, hK⟩ : ∃ K, K = K0 + K1 + K2 := ⟨_, rfl⟩
  have over : treillagelaw09_SelSteps.j0 (K + 1) s t child (told (parse s)).1 (told (parse t)).1 true = some true := by
    rw [treillagelaw09_SelSteps.j0, if_pos rfl, h0 K (by omega)]
    rfl
  have e1 := h1 (K + 1) (by omega)
  have e2 := h2 (K + 1) (by omega)
  by_cases c1 : (s.size : Int) > 100
  · refine ⟨K + 1, ?_⟩
    unfold treillagelaw09_SelSteps.f
    rw [e1, Option.bind_some, e2, Option.bind_some, if_pos c1]
    exact over
  by_cases c2 : (t.size : Int) > 100
  · refine ⟨K + 1, ?_⟩
    unfold treillagelaw09_SelSteps.f
    rw [e1, Option.bind_some, e2, Option.bind_some, if_neg c1, if_pos c2]
    exact over
  by_cases c3 : (told (parse s)).2.2 = 0
  rotate_left
  · refine ⟨K + 1, ?_⟩
    unfold treillagelaw09_SelSteps.f
    rw [e1, Option.bind_some, e2, Option.bind_some, if_neg c1, if_neg c2, if_neg c3]
    exact over
  by_cases c4 : (told (parse t)).2.2 = 0
  rotate_left
  · refine ⟨K + 1, ?_⟩
    unfold treillagelaw09_SelSteps.f
    rw [e1, Option.bind_some, e2, Option.bind_some, if_neg c1, if_neg c2, if_pos c3, if_neg c4]
    exact over
  by_cases c5 : ((told (parse s)).1.length : Int) = 1
  rotate_left
  · refine ⟨K + 1, ?_⟩
    unfold treillagelaw09_SelSteps.f
    rw [e1, Option.bind_some, e2, Option.bind_some, if_neg c1, if_neg c2, if_pos c3, if_pos c4, if_neg c5]
    exact over
  by_cases c6 : ((told (parse t)).1.length : Int) = 1
  rotate_left
  · refine ⟨K + 1, ?_⟩
    unfold treillagelaw09_SelSteps.f
    rw [e1, Option.bind_some, e2, Option.bind_some, if_neg c1, if_neg c2, if_pos c3, if_pos c4, if_pos c5, if_neg c6]
    exact over
  cases ea : parse s with
  | error p => rw [ea] at c3; exact absurd c3 (show ¬ ((90 : Int) = 0) by decide)
  | ok la =>
  cases eb : parse t with
  | error p => rw [eb] at c4; exact absurd c4 (show ¬ ((90 : Int) = 0) by decide)
  | ok lb =>
  rw [ea] at e1 c5
  rw [eb] at e2 c6
  have n1 : (told (Except.ok la : Except Nat (List (List Stp)))) = (la, 0, 0) := rfl
  have n2 : (told (Except.ok lb : Except Nat (List (List Stp)))) = (lb, 0, 0) := rfl
  have c5 : (la.length : Int) = 1 := c5
  have c6 : (lb.length : Int) = 1 := c6
  obtain ⟨a, rfl⟩ : ∃ a, la = [a] := List.length_eq_one_iff.1 (by omega)
  obtain ⟨b, rfl⟩ : ∃ b, lb = [b] := List.length_eq_one_iff.1 (by omega)
  have sa := parse_small (by omega) ea
  have sb := parse_small (by omega) eb
  have la9 := (sa.2 a List.mem_cons_self).1
  have lb9 := (sb.2 b List.mem_cons_self).1
  have hcc : (if child = true then (62 : UInt8) else 32) = 32 ∨ (if child = true then (62 : UInt8) else 32) = 62 := by cases child <;> simp
  obtain ⟨y, r, eby, hpm⟩ := parse_mid ea eb hcc
  have dch : decide ((if child = true then (62 : UInt8) else 32) = 62) = child := by cases child <;> rfl
  rw [dch] at hpm
  obtain ⟨mid, hmid⟩ : ∃ mid : By, mid = (⟨#[if child = true then (62 : UInt8) else 32]⟩ : By) := ⟨_, rfl⟩
  rw [← hmid] at hpm
  have ms : mid.size = 1 := by rw [hmid]; rfl
  have us : ((s ++ mid) ++ t).size = s.size + 1 + t.size := by rw [ByteArray.size_append, ByteArray.size_append, ms]
  have us1 : (s ++ mid).size = s.size + 1 := by rw [ByteArray.size_append, ms]
  obtain ⟨K3, h3⟩ := parse_f (s := (s ++ mid) ++ t) (by omega)
  rw [hpm] at h3
  obtain ⟨K4, h4⟩ := its_f sa
  obtain ⟨K5, h5⟩ := its_f sb
  obtain ⟨K6, h6⟩ := same_refl (small_its sa)
  obtain ⟨K7, h7⟩ := same_refl (small_its sb)
  obtain ⟨rc, hrc⟩ : ∃ rc : List Stp, rc = a ++ ⟨y.f0, child⟩ :: r := ⟨_, rfl⟩
  rw [← hrc] at h3 hpm
  have lrc : rc.length = a.length + b.length := by rw [hrc, eby, List.length_append, List.length_cons, List.length_cons]
  have b1 : 1 ≤ b.length := by rw [eby, List.length_cons]; omega
  have at_n : rd_T46 rc (a.length : Int) = ⟨y.f0, child⟩ := by
    rw [rdT46 (by omega)]
    simp only [hrc]
    rw [List.getElem_append_right (Nat.le_refl _)]
    simp
  have hupd : upd rc a.length = a ++ b := by
    unfold upd
    rw [at_n, hrc, List.set_append_right _ _ (Nat.le_refl _), Nat.sub_self, eby]
    obtain ⟨x, l, g1, g2, _⟩ := (parse_okL eb).2 b List.mem_cons_self
    rw [eby] at g1
    injection g1 with g1 _
    have : y.f1 = false := by rw [g1]; exact g2
    show a ++ (⟨y.f0, false⟩ : Stp) :: r = a ++ y :: r
    rw [← this]
  have tk_ : (upd rc a.length).take a.length = a := by rw [hupd, List.take_left]
  have dr_ : (upd rc a.length).drop a.length = b := by rw [hupd, List.drop_left]
  have r6 : rd_L6 [rc] 0 = rc := rfl
  have r7 : rd_L6 [a] 0 = a := rfl
  have r8 : rd_L6 [b] 0 = b := rfl
  have J2 : Ev fun k => treillagelaw09_SelSteps.j2 k child [a] [b] [rc] false = some true := by
    refine ⟨K4 + K5 + K6 + K7 + 1, fun k hk => ?_⟩
    obtain ⟨k, rfl⟩ : ∃ k', k = k' + 1 := ⟨k - 1, by omega⟩
    rw [treillagelaw09_SelSteps.j2, if_neg (by decide)]
    simp only [r6, r7, at_n, Int.toNat_natCast, tk_, dr_]
    rw [if_pos (pos1 a), if_pos (pos1 rc), if_pos (by omega), if_pos (by omega), if_neg (by simp), if_pos (by omega), h4 k (by omega), Option.bind_some, Option.bind_some, h6 k (by omega), Option.bind_some, if_pos rfl, h5 k (by omega), Option.bind_some, Option.bind_some, h7 k (by omega)]
    rfl
  obtain ⟨K8, h8⟩ := J2
  have J1 : ∀ k, K3 + K8 + 1 ≤ k → treillagelaw09_SelSteps.j1 k s t child [a] [b] mid = some true := by
    intro k hk
    obtain ⟨k, rfl⟩ : ∃ k', k = k' + 1 := ⟨k - 1, by omega⟩
    have e3 := h3 k (by omega)
    have n3 : (told (Except.ok [rc] : Except Nat (List (List Stp)))) = ([rc], 0, 0) := rfl
    rw [treillagelaw09_SelSteps.j1, if_pos (by omega), if_pos (by omega), e3, Option.bind_some, n3]
    rw [if_pos rfl, if_pos (len1 rc), if_pos (pos1 rc), if_pos (pos1 a), if_pos (pos1 b), r6, r7, r8]
    have e4 : ((rc.length : Int) != wrap64 ((a.length : Int) + (b.length : Int))) = false := by
      rw [w64 (by omega) (by omega), bne_eq_false_iff_eq]
      omega
    rw [e4]
    exact h8 k (by omega)
  refine ⟨K + K3 + K8 + 3, ?_⟩
  have e1' := h1 (K + K3 + K8 + 3) (by omega)
  have e2' := h2 (K + K3 + K8 + 3) (by omega)
  rw [ea] at e1'
  rw [eb] at e2'
  unfold treillagelaw09_SelSteps.f
  rw [e1', Option.bind_some, e2', Option.bind_some, if_neg c1, if_neg c2, n1, n2, if_pos rfl, if_pos rfl, if_pos (len1 a), if_pos (len1 b), h0 _ (by omega), Option.bind_some, treillagelaw09_SelSteps.j0, if_neg (by decide)]
  cases child with
  | true =>
    rw [if_pos rfl]
    rw [if_pos rfl] at hmid
    rw [← hmid]
    exact J1 _ (by omega)
  | false =>
    rw [if_neg (by decide)]
    rw [if_neg (by decide)] at hmid
    rw [← hmid]
    exact J1 _ (by omega)
end Go.Proofs.Ytjiejmkkaekefaa.Pure
