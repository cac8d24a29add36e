
import Derived.Test.YtjiejmkkaekefaaSelJ


/-
  A text with another ahead of it: how the hinder one is read from there on.
-/
namespace Go.Proofs.Ytjiejmkkaekefaa.PureS
set_option linter.unusedVariables false
set_option linter.unusedSimpArgs false
open Go.RowKit Go.Proofs.Ytjiejmkkaekefaa.PA Go.Proofs.YtjiejmkkaekefaaW.PrintWords Go.Proofs.YtjiejmkkaekefaaW.PrintLast Go.Proofs.YtjiejmkkaekefaaW.PrintMore Go.Proofs.YtjiejmkkaekefaaH

/-- t is what u holds from o on. -/
structure Hind (t u : By) (o : Nat) : Prop where
  size : u.size = o + t.size
  get : ∀ m : Nat, bt u ((o + m : Nat) : Int) = bt t m
  ex : ∀ i j : Nat, j ≤ t.size → u.extract (o + i) (o + j) = t.extract i j
def sh {α : Type} (o : Nat) : Res α → Res α
  | .error p => .error (o + p)
  | .ok (v, j) => .ok (v, o + j)
section
variable {t u : By} {o : Nat}
theorem Hind.stop (h : Hind t u o) (p : Int → Bool) {i : Nat} (hi : i ≤ t.size) : stop p u (o + i) = o + stop p t i := by
  have a := stop_at p t i
  have b := stop_ge p t i
  have c := stop_le p t i hi
  have d := stop_in p t i
  have hs := h.size
  refine stop_eq (by omega) (by omega) (fun q h1 h2 => ?_) (fun hh => ?_)
  · obtain ⟨q, rfl⟩ : ∃ q', q = o + q' := ⟨q - o, by omega⟩
    rw [h.get q]
    exact d q (by omega) (by omega)
  · rw [h.get] at hh
    exact a ⟨by omega, hh.2⟩
theorem Hind.skp (h : Hind t u o) {i : Nat} (hi : i ≤ t.size) : skip u (o + i) = o + skip t i := h.stop blank hi
theorem Hind.isB (h : Hind t u o) {i : Nat} {b : Int} : isB u (o + i) b ↔ isB t i b := by
  have hs := h.size
  unfold PureS.isB
  rw [h.get i, hs]
  exact ⟨fun q => ⟨by omega, q.2⟩, fun q => ⟨by omega, q.2⟩⟩
theorem Hind.name (h : Hind t u o) {i : Nat} (hi : i ≤ t.size) : name u (o + i) = sh o (name t i) := by
  have hs := h.size
  have e : run u (o + i) = o + run t i := h.stop nameB hi
  have c : run t i ≤ t.size := stop_le _ _ _ hi
  unfold PureS.name
  rw [e, h.ex i _ c, h.get i]
  by_cases c1 : i < t.size ∧ letter (bt t i) = true
  · rw [if_pos c1, if_pos ⟨by omega, c1.2⟩]
    by_cases c2 : run t i ≤ i + 20
    · rw [if_pos c2, if_pos (by omega)]; rfl
    · rw [if_neg c2, if_neg (by omega)]
      show _ = Except.error (o + (i + 20))
      rw [Nat.add_assoc]
  · rw [if_neg c1, if_neg (fun q => c1 ⟨by omega, q.2⟩)]
    rfl
theorem Hind.value (h : Hind t u o) {i : Nat} (hi : i ≤ t.size) : value u (o + i) = sh o (value t i) := by
  have hs := h.size
  unfold PureS.value
  by_cases c : PureS.isB t i 34
  · have e : PureS.stop noQuote u (o + i + 1) = o + PureS.stop noQuote t (i + 1) := by rw [Nat.add_assoc]; exact h.stop noQuote c.1
    have d := stop_le noQuote t (i + 1) c.1
    rw [if_pos c, if_pos (h.isB.2 c), e, Nat.add_assoc o i 1, h.ex _ _ d]
    by_cases c2 : PureS.stop noQuote t (i + 1) < t.size ∧ PureS.stop noQuote t (i + 1) ≤ i + 61
    · rw [if_pos c2, if_pos (by omega)]; rfl
    · rw [if_neg c2, if_neg (by omega)]
      show Except.error _ = Except.error _
      congr 1
      omega
  · rw [if_neg c, if_neg (fun q => c (h.isB.1 q)), h.name hi]
theorem Hind.brackets (h : Hind t u o) {i : Nat} (hi : i ≤ t.size) : brackets u (o + i) = sh o (brackets t i) := by
  unfold PureS.brackets
  have l0 := skip_le hi
  rw [h.skp hi, h.name l0.2]
  cases hn : PureS.name t (skip t i) with
  | error p => rfl
  | ok r =>
    obtain ⟨n, j⟩ := r
    have l1 := name_le hn
    have l2 := skip_le l1.2
    unfold sh
    dsimp only
    rw [h.skp l1.2]
    by_cases c1 : PureS.isB t (skip t j) 61
    · have l3 := skip_le (s := t) (i := skip t j + 1) c1.1
      rw [if_pos c1, if_pos (h.isB.2 c1), Nat.add_assoc, h.skp c1.1, h.value l3.2]
      cases ev : PureS.value t (skip t (skip t j + 1)) with
      | error p => rfl
      | ok r =>
        obtain ⟨v, m⟩ := r
        have l4 := value_le ev
        unfold sh
        dsimp only
        rw [h.skp l4.2]
        by_cases c2 : PureS.isB t (skip t m) 93
        · rw [if_pos c2, if_pos (h.isB.2 c2)]; rfl
        · rw [if_neg c2, if_neg (fun q => c2 (h.isB.1 q))]
    · rw [if_neg c1, if_neg (fun q => c1 (h.isB.1 q))]
      by_cases c2 : PureS.isB t (skip t j) 93
      · rw [if_pos c2, if_pos (h.isB.2 c2)]; rfl
      · rw [if_neg c2, if_neg (fun q => c2 (h.isB.1 q))]
theorem Hind.tests (h : Hind t u o) : ∀ (d e i : Nat) (acc : List Tst), t.size - i < d → u.size - (o + i) < e → i ≤ t.size → tests u e acc (o + i) = sh o (tests t d acc i) := by
  have hs := h.size
  intro d
  induction d with
  | zero => intro e i acc hd; omega
  | succ d ih =>
    intro e i acc hd he hi
    obtain ⟨e, rfl⟩ : ∃ e', e = e' + 1 := ⟨e - 1, by omega⟩
    have mark : ∀ q : Int, i < t.size → (match PureS.name u (o + i + 1) with | .error p => (.error p : Res (List Tst)) | .ok (n, j) => PureS.tests u e (acc ++ [⟨q, n, ⟨#[]⟩⟩]) j) = sh o (match PureS.name t (i + 1) with | .error p => .error p | .ok (n, j) => PureS.tests t d (acc ++ [⟨q, n, ⟨#[]⟩⟩]) j) := by
      intro q hlt
      rw [Nat.add_assoc, h.name hlt]
      cases hn : PureS.name t (i + 1) with
      | error p => rfl
      | ok r =>
        obtain ⟨n, j⟩ := r
        have l1 := name_le hn
        exact ih e j _ (by omega) (by omega) l1.2
    rw [PureS.tests, PureS.tests]
    by_cases c1 : PureS.isB t i 46
    · rw [if_pos c1, if_pos (h.isB.2 c1)]
      exact mark 3 c1.1
    · rw [if_neg c1, if_neg (fun q => c1 (h.isB.1 q))]
      by_cases c2 : PureS.isB t i 35
      · rw [if_pos c2, if_pos (h.isB.2 c2)]
        exact mark 2 c2.1
      · rw [if_neg c2, if_neg (fun q => c2 (h.isB.1 q))]
        by_cases c3 : PureS.isB t i 91
        · have hlt := c3.1
          rw [if_pos c3, if_pos (h.isB.2 c3), Nat.add_assoc, h.brackets c3.1]
          cases eb : PureS.brackets t (i + 1) with
          | error p => rfl
          | ok r =>
            obtain ⟨x, j⟩ := r
            have l1 := brackets_le c3.1 eb
            exact ih e j _ (by omega) (by omega) l1.2
        · rw [if_neg c3, if_neg (fun q => c3 (h.isB.1 q))]
          rfl
theorem sh_closed {i : Nat} (r : Res (List Tst)) : closed (o + i) (sh o r) = sh o (closed i r) := by
  cases r with
  | error p => rfl
  | ok x =>
    obtain ⟨c, j⟩ := x
    unfold sh closed
    dsimp only
    by_cases e : j = i
    · rw [if_pos e, if_pos (by omega)]
    · rw [if_neg e, if_neg (by omega)]
theorem Hind.compound (h : Hind t u o) {i : Nat} (hi : i ≤ t.size) : compound u (o + i) = sh o (compound t i) := by
  have hs := h.size
  unfold PureS.compound
  by_cases c1 : PureS.isB t i 42
  · have := c1.1
    rw [if_pos c1, if_pos (h.isB.2 c1), Nat.add_assoc, h.tests (t.size + 1) _ _ _ (by omega) (by omega) c1.1, sh_closed]
  · rw [if_neg c1, if_neg (fun q => c1 (h.isB.1 q)), h.get i]
    by_cases c2 : i < t.size ∧ letter (bt t i) = true
    · rw [if_pos c2, if_pos ⟨by omega, c2.2⟩, h.name hi]
      cases hn : PureS.name t i with
      | error p => rfl
      | ok r =>
        obtain ⟨n, j⟩ := r
        have l1 := name_le hn
        show PureS.closed (o + i) (PureS.tests u (u.size + 1) _ (o + j)) = sh o (PureS.closed i _)
        rw [h.tests (t.size + 1) _ _ _ (by omega) (by omega) l1.2, sh_closed]
    · rw [if_neg c2, if_neg (fun q => c2 ⟨by omega, q.2⟩), h.tests (t.size + 1) _ _ _ (by omega) (by omega) hi, sh_closed]
theorem Hind.steps (h : Hind t u o) : ∀ (d e i : Nat) (acc : List Stp) (child : Bool), t.size - i < d → u.size - (o + i) < e → i ≤ t.size → steps u e acc child (o + i) = sh o (steps t d acc child i) := by
  have hs := h.size
  intro d
  induction d with
  | zero => intro e i acc child hd; omega
  | succ d ih =>
    intro e i acc child hd he hi
    obtain ⟨e, rfl⟩ : ∃ e', e = e' + 1 := ⟨e - 1, by omega⟩
    rw [PureS.steps, PureS.steps, h.compound hi]
    cases ec : PureS.compound t i with
    | error p => rfl
    | ok r =>
      obtain ⟨c, m⟩ := r
      have l1 := compound_le hi ec
      have l2 := skip_le l1.2.1
      unfold sh
      dsimp only
      rw [h.skp l1.2.1, h.get]
      by_cases c1 : skip t m = t.size ∨ bt t (skip t m) = 44
      · rw [if_pos c1, if_pos (c1.elim (fun q => Or.inl (by omega)) Or.inr)]
      · have hlt : skip t m < t.size := by
          rcases Nat.eq_or_lt_of_le l2.2 with h | h
          · exact absurd (Or.inl h) c1
          · exact h
        rw [if_neg c1, if_neg (fun q => c1 (q.elim (fun q => Or.inl (by omega)) Or.inr))]
        by_cases c2 : bt t (skip t m) = 62
        · have l3 := skip_le (s := t) (i := skip t m + 1) hlt
          rw [if_pos c2, if_pos c2, Nat.add_assoc, h.skp (i := skip t m + 1) hlt]
          exact ih e _ _ _ (by omega) (by omega) l3.2
        · rw [if_neg c2, if_neg c2]
          by_cases c3 : m < skip t m
          · rw [if_pos c3, if_pos (by omega)]
            exact ih e _ _ _ (by omega) (by omega) l2.2
          · rw [if_neg c3, if_neg (by omega)]
theorem Hind.row (h : Hind t u o) {i : Nat} (hi : i ≤ t.size) : row u (o + i) = sh o (row t i) := by
  have hs := h.size
  have l0 := skip_le hi
  unfold PureS.row
  rw [h.skp hi]
  exact h.steps _ _ _ _ _ (by omega) (by omega) l0.2
def sh2 (o : Nat) (A : List (List Stp)) : Except Nat (List (List Stp)) → Except Nat (List (List Stp))
  | .error p => .error (o + p)
  | .ok l => .ok (A ++ l)
theorem Hind.rows (h : Hind t u o) (A : List (List Stp)) : ∀ (d e i : Nat) (acc : List (List Stp)), t.size - i < d → u.size - (o + i) < e → i ≤ t.size → rows u e (A ++ acc) (o + i) = sh2 o A (rows t d acc i) := by
  have hs := h.size
  intro d
  induction d with
  | zero => intro e i acc hd; omega
  | succ d ih =>
    intro e i acc hd he hi
    obtain ⟨e, rfl⟩ : ∃ e', e = e' + 1 := ⟨e - 1, by omega⟩
    rw [PureS.rows, PureS.rows, h.row hi]
    cases er : PureS.row t i with
    | error p => rfl
    | ok r =>
      obtain ⟨q, m⟩ := r
      have l1 := row_le hi er
      unfold sh
      dsimp only
      by_cases c1 : PureS.isB t m 44
      · have := c1.1
        rw [if_pos c1, if_pos (h.isB.2 c1), Nat.add_assoc, List.append_assoc]
        exact ih e _ _ (by omega) (by omega) c1.1
      · rw [if_neg c1, if_neg (fun q => c1 (h.isB.1 q)), List.append_assoc]
        rfl
end
theorem get_data (s : By) (i : Nat) : bt s (i : Int) = ((s.data.toList[i]?).map (fun b => (b.toNat : Int))).getD 0 := by
  unfold bt
  rw [Int.toNat_natCast]
  by_cases h : i < s.size
  · rw [dif_pos h]
    have h2 : i < s.data.toList.length := by rw [Array.length_toList]; exact h
    rw [List.getElem?_eq_getElem h2]
    simp [ByteArray.getElem_eq_getElem_data]
  · rw [dif_neg h]
    have h2 : s.data.toList.length ≤ i := by rw [Array.length_toList]; exact Nat.le_of_not_lt h
    rw [List.getElem?_eq_none h2]
    rfl
theorem len_data (s : By) : s.data.toList.length = s.size := by rw [Array.length_toList]; rfl
theorem data_ext {a b : By} (h : a.data.toList = b.data.toList) : a = b := by
  cases a
  cases b
  simp only [ByteArray.mk.injEq]
  exact Array.toList_inj.1 h
theorem cat_data (a b : By) : (a ++ b).data.toList = a.data.toList ++ b.data.toList := by rw [ByteArray.data_append, Array.toList_append]
theorem cut_data (a : By) (i j : Nat) : (a.extract i j).data.toList = (a.data.toList.drop i).take (j - i) := by rw [ByteArray.data_extract, Array.toList_extract, List.extract_eq_take_drop]
theorem fore_of (s t : By) : Fore s ((s ++ (⟨#[44]⟩ : By)) ++ t) := by
  have hl := len_data s
  refine ⟨?_, fun m hm => ?_, ?_, fun i j hj => ?_⟩
  · rw [ByteArray.size_append, ByteArray.size_append]
    show s.size < s.size + 1 + t.size
    omega
  · rw [get_data, get_data, cat_data, cat_data, List.append_assoc, List.getElem?_append_left (by omega)]
  · rw [get_data, cat_data, cat_data, List.append_assoc, List.getElem?_append_right (by omega), hl, Nat.sub_self]
    rfl
  · apply data_ext
    rw [cut_data, cut_data, cat_data, cat_data, List.append_assoc]
    by_cases hi : i ≤ s.size
    · rw [List.drop_append_of_le_length (by omega), List.take_append_of_le_length (by rw [List.length_drop]; omega)]
    · rw [show j - i = 0 from by omega, List.take_zero, List.take_zero]
theorem hind_of (s t : By) : Hind t ((s ++ (⟨#[44]⟩ : By)) ++ t) (s.size + 1) := by
  have hl : (s ++ (⟨#[44]⟩ : By)).data.toList.length = s.size + 1 := by rw [len_data, ByteArray.size_append]; rfl
  refine ⟨?_, fun m => ?_, fun i j hj => ?_⟩
  · rw [ByteArray.size_append, ByteArray.size_append]
    rfl
  · rw [get_data, get_data, cat_data, List.getElem?_append_right (by omega), hl, Nat.add_sub_cancel_left]
  · apply data_ext
    rw [cut_data, cut_data, cat_data, List.drop_append, hl, show s.size + 1 + i - (s.size + 1) = i from by omega, List.drop_of_length_le (by omega), List.nil_append, show s.size + 1 + j - (s.size + 1 + i) = j - i from by omega]
/-- Two texts with a comma between. -/
theorem parse_both {s t : By} {l : List (List Stp)} (h : parse s = .ok l) : parse ((s ++ (⟨#[44]⟩ : By)) ++ t) = sh2 (s.size + 1) l (parse t) := by
  obtain ⟨e, h1, h2⟩ := (fore_of s t).rows_ok (s.size + 1) (((s ++ (⟨#[44]⟩ : By)) ++ t).size + 1) 0 [] (by omega) (by omega) (Nat.zero_le _) h
  have h3 := (hind_of s t).rows l (t.size + 1) e 0 [] (by omega) (by omega) (Nat.zero_le _)
  rw [List.append_nil] at h3
  unfold parse
  rw [h2]
  exact h3
theorem parse_first {s t : By} {p q : Nat} (h : parse s = .error p) (hq : parse ((s ++ (⟨#[44]⟩ : By)) ++ t) = .error q) : p ≤ q :=
  (fore_of s t).rows_err (s.size + 1) (((s ++ (⟨#[44]⟩ : By)) ++ t).size + 1) 0 [] (by omega) (by omega) (Nat.zero_le _) h hq
end Go.Proofs.Ytjiejmkkaekefaa.PureS
