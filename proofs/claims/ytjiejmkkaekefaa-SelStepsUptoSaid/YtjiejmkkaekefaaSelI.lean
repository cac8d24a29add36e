
import Derived.Test.YtjiejmkkaekefaaSelV
import Derived.Test.YtjiejmkkaekefaaPAx31
import Derived.Test.YtjiejmkkaekefaaPAx11


/-
  The law's own turning of a selector, and the reference's 'Same', in plain words.
-/
namespace Go.Proofs.Ytjiejmkkaekefaa.PureS
set_option linter.unusedVariables false
set_option linter.unusedSimpArgs false
open Go.RowKit Go.Proofs.Ytjiejmkkaekefaa.PA Go.Proofs.YtjiejmkkaekefaaW.PrintWords Go.Proofs.YtjiejmkkaekefaaW.PrintLast Go.Proofs.YtjiejmkkaekefaaW.PrintMore Go.Proofs.YtjiejmkkaekefaaH

abbrev RTst := S62
abbrev RStp := S61
def rt (t : Tst) : RTst := ⟨t.f0, t.f1, t.f2⟩
def rs (x : Stp) : RStp := ⟨x.f0.map rt, x.f1⟩
def its (l : List (List Stp)) : List (List RStp) := l.map (fun r => r.map rs)
theorem getD_at {α : Type} {l : List α} {i : Nat} (d : α) (h : i < l.length) : l.getD ((i : Int)).toNat d = l[i] := by
  rw [Int.toNat_natCast, List.getD_eq_getElem?_getD, List.getElem?_eq_getElem h]
  rfl
theorem rdL6 {l : List (List Stp)} {i : Nat} (h : i < l.length) : rd_L6 l (i : Int) = l[i] := getD_at _ h
theorem rdT46 {l : List Stp} {i : Nat} (h : i < l.length) : rd_T46 l (i : Int) = l[i] := getD_at _ h
theorem rdT48 {l : List Tst} {i : Nat} (h : i < l.length) : rd_T48 l (i : Int) = l[i] := getD_at _ h
theorem rdL13 {l : List (List RStp)} {i : Nat} (h : i < l.length) : rd_L13 l (i : Int) = l[i] := getD_at _ h
theorem rdT61 {l : List RStp} {i : Nat} (h : i < l.length) : rd_T61 l (i : Int) = l[i] := getD_at _ h
theorem rdT62 {l : List RTst} {i : Nat} (h : i < l.length) : rd_T62 l (i : Int) = l[i] := getD_at _ h
theorem wn {i : Nat} (h : i ≤ 1000000000) : wrap64 ((i : Int) + 1) = ((i + 1 : Nat) : Int) := by rw [w64 (by omega) (by omega)]; rfl
/-- Far from the bounds of memory. -/
def Small (l : List (List Stp)) : Prop := l.length ≤ 1000000000 ∧ ∀ r ∈ l, r.length ≤ 1000000000 ∧ ∀ x ∈ r, x.f0.length ≤ 1000000000
theorem take_up {α : Type} {l : List α} {n : Nat} (h : n < l.length) : l.take (n + 1) = l.take n ++ [l[n]] := by rw [List.take_succ_eq_append_getElem h]
theorem its_l2 {x0 : List (List Stp)} {i j : Nat} (hi : i < x0.length) (hj : j < x0[i].length) (hj9 : j ≤ 1000000000) (hz : x0[i][j].f0.length ≤ 1000000000) (x3 : List (List RStp)) (x5 : List RStp) (h5 : x5.length < 4398046511104) (b : Bool) {R : List (List RStp)} (hn : Ev fun k => treillagelaw09_its.l1 k x0 x3 i (x5 ++ [⟨x0[i][j].f0.map rt, b⟩]) ((j + 1 : Nat) : Int) = some R) :
    ∀ (d n : Nat), x0[i][j].f0.length - n ≤ d → n ≤ x0[i][j].f0.length → Ev fun k => treillagelaw09_its.l2 k x0 x3 i x5 j n ((x0[i][j].f0.take n).map rt) b = some R := by
  intro d
  induction d with
  | zero =>
    intro n hd hn'
    refine hn.succ fun k hk => ?_
    rw [treillagelaw09_its.l2]
    simp only [rdL6 hi, rdT46 hj]
    rw [if_pos (by omega), if_pos (by omega), if_pos (by omega), if_pos (by omega), if_neg (by omega), if_pos h5, wn hj9, List.take_of_length_le (by omega)]
    exact hk
  | succ d ih =>
    intro n hd hn'
    by_cases h : n < x0[i][j].f0.length
    · refine (ih (n + 1) (by omega) h).succ fun k hk => ?_
      rw [treillagelaw09_its.l2]
      simp only [rdL6 hi, rdT46 hj, rdT48 h]
      rw [if_pos (by omega), if_pos (by omega), if_pos (by omega), if_pos (by omega), if_pos (by omega), if_pos (by omega), if_pos (by rw [List.length_map, List.length_take]; omega), wn (by omega)]
      rw [take_up h, List.map_append] at hk
      exact hk
    · exact ih n (by omega) hn'
theorem its_l1 {x0 : List (List Stp)} {i : Nat} (hi : i < x0.length) (hi9 : i ≤ 1000000000) (hr : x0[i].length ≤ 1000000000) (hx : ∀ x ∈ x0[i], x.f0.length ≤ 1000000000) (x3 : List (List RStp)) (h3 : x3.length < 5864062014805) {R : List (List RStp)} (hn : Ev fun k => treillagelaw09_its.l0 k x0 (x3 ++ [x0[i].map rs]) ((i + 1 : Nat) : Int) = some R) :
    ∀ (d j : Nat), x0[i].length - j ≤ d → j ≤ x0[i].length → Ev fun k => treillagelaw09_its.l1 k x0 x3 i ((x0[i].take j).map rs) j = some R := by
  intro d
  induction d with
  | zero =>
    intro j hd hj'
    refine hn.succ fun k hk => ?_
    rw [treillagelaw09_its.l1]
    simp only [rdL6 hi]
    rw [if_pos (by omega), if_pos (by omega), if_neg (by omega), if_pos h3, wn hi9, List.take_of_length_le (by omega)]
    exact hk
  | succ d ih =>
    intro j hd hj'
    by_cases h : j < x0[i].length
    · have h1 := ih (j + 1) (by omega) h
      rw [take_up h, List.map_append] at h1
      have h2 := its_l2 hi h (by omega) (hx _ (List.getElem_mem h)) x3 ((x0[i].take j).map rs) (by rw [List.length_map, List.length_take]; omega) x0[i][j].f1 h1 _ 0 (Nat.le_refl _) (Nat.zero_le _)
      refine h2.succ fun k hk => ?_
      rw [treillagelaw09_its.l1]
      simp only [rdL6 hi, rdT46 h]
      rw [if_pos (by omega), if_pos (by omega), if_pos (by omega), if_pos (by omega)]
      exact hk
    · exact ih j (by omega) hj'
theorem its_f {l : List (List Stp)} (h : Small l) : Ev fun k => treillagelaw09_its.f k l = some (its l) := by
  have key : ∀ (d i : Nat), l.length - i ≤ d → i ≤ l.length → Ev fun k => treillagelaw09_its.l0 k l (its (l.take i)) i = some (its l) := by
    intro d
    induction d with
    | zero =>
      intro i hd hi
      refine ⟨1, fun k hk => ?_⟩
      obtain ⟨k, rfl⟩ : ∃ k', k = k' + 1 := ⟨k - 1, by omega⟩
      rw [treillagelaw09_its.l0, if_neg (by omega), List.take_of_length_le (by omega)]
    | succ d ih =>
      intro i hd hi'
      by_cases hi : i < l.length
      · have h1 := ih (i + 1) (by omega) hi
        have e : its (l.take (i + 1)) = its (l.take i) ++ [l[i].map rs] := by unfold its; rw [take_up hi, List.map_append]; rfl
        rw [e] at h1
        have hm := h.2 _ (List.getElem_mem hi)
        have hl := h.1
        have h2 := its_l1 hi (by omega) hm.1 hm.2 (its (l.take i)) (by unfold its; rw [List.length_map, List.length_take]; omega) h1 _ 0 (Nat.le_refl _) (Nat.zero_le _)
        refine h2.succ fun k hk => ?_
        rw [treillagelaw09_its.l0, if_pos (by omega)]
        exact hk
      · exact ih i (by omega) hi'
  unfold treillagelaw09_its.f
  exact key l.length 0 (by omega) (Nat.zero_le _)
theorem by_eq {a b : By} : (a.toList == b.toList) = true ↔ a = b := by
  rw [beq_iff_eq, ByteArray.toList_eq, ByteArray.toList_eq, Array.toList_inj]
  exact ⟨fun h => by cases a; cases b; exact congrArg _ h, fun h => by rw [h]⟩
theorem tst_ne (a b : RTst) : (!(a.f0 == b.f0) || (!(a.f1.toList == b.f1.toList) || !(a.f2.toList == b.f2.toList))) = true ↔ a ≠ b := by
  have h1 := @by_eq a.f1 b.f1
  have h2 := @by_eq a.f2 b.f2
  obtain ⟨p, q, r⟩ := a
  obtain ⟨p', q', r'⟩ := b
  rw [Ne, S62.mk.injEq, ← h1, ← h2]
  dsimp only
  cases e1 : q.toList == q'.toList <;> cases e2 : r.toList == r'.toList <;> by_cases e0 : p = p' <;> simp [e0]
theorem drop_eq {α : Type} {a b : List α} {n : Nat} (ha : n < a.length) (hb : n < b.length) : a.drop n = b.drop n ↔ a[n] = b[n] ∧ a.drop (n + 1) = b.drop (n + 1) := by
  rw [List.drop_eq_getElem_cons ha, List.drop_eq_getElem_cons hb, List.cons.injEq]
theorem drop_end {α : Type} {a b : List α} {n : Nat} (ha : a.length ≤ n) (hb : b.length ≤ n) : a.drop n = b.drop n := by rw [List.drop_of_length_le ha, List.drop_of_length_le hb]
theorem same_l2 {x0 x1 : List (List RStp)} {i j : Nat} (hi : i < x0.length) (hi1 : i < x1.length) (hj : j < x0[i].length) (hj1 : j < x1[i].length) (hj9 : j ≤ 1000000000) (hz : x0[i][j].f0.length ≤ 1000000000) (hc : x0[i][j].f0.length = x1[i][j].f0.length) {b0 : Bool} (hr : Ev fun k => treillageref09_Same.l1 k x0 x1 i ((j + 1 : Nat) : Int) = some b0) :
    ∀ (d n : Nat), x0[i][j].f0.length - n ≤ d → n ≤ x0[i][j].f0.length → ∃ b, (Ev fun k => treillageref09_Same.l2 k x0 x1 i j n = some b) ∧ (b = true ↔ x0[i][j].f0.drop n = x1[i][j].f0.drop n ∧ b0 = true) := by
  intro d
  induction d with
  | zero =>
    intro n hd hn
    refine ⟨b0, hr.succ fun k hk => ?_, ⟨fun h => ⟨drop_end (by omega) (by omega), h⟩, fun h => h.2⟩⟩
    rw [treillageref09_Same.l2]
    simp only [rdL13 hi, rdT61 hj]
    rw [if_pos (by omega), if_pos (by omega), if_pos (by omega), if_pos (by omega), if_neg (by omega), wn hj9]
    exact hk
  | succ d ih =>
    intro n hd hn
    by_cases h : n < x0[i][j].f0.length
    · have h1 : n < x1[i][j].f0.length := by omega
      by_cases e : x0[i][j].f0[n] = x1[i][j].f0[n]
      · obtain ⟨b, hb, hp⟩ := ih (n + 1) (by omega) h
        refine ⟨b, hb.succ fun k hk => ?_, ?_⟩
        · rw [treillageref09_Same.l2]
          simp only [rdL13 hi, rdT61 hj, rdL13 hi1, rdT61 hj1, rdT62 h, rdT62 h1]
          rw [if_pos (by omega), if_pos (by omega), if_pos (by omega), if_pos (by omega), if_pos (by omega), if_pos (by omega), if_pos (by omega), if_pos (by omega), if_pos (by omega), if_neg (fun hh => (tst_ne _ _).1 hh e), wn (by omega)]
          exact hk
        · rw [hp, drop_eq h h1]
          exact ⟨fun q => ⟨⟨e, q.1⟩, q.2⟩, fun q => ⟨q.1.2, q.2⟩⟩
      · refine ⟨false, ⟨1, fun k hk => ?_⟩, ⟨fun hh => (by cases hh), fun hh => absurd ((drop_eq h h1).1 hh.1).1 e⟩⟩
        obtain ⟨k, rfl⟩ : ∃ k', k = k' + 1 := ⟨k - 1, by omega⟩
        rw [treillageref09_Same.l2]
        simp only [rdL13 hi, rdT61 hj, rdL13 hi1, rdT61 hj1, rdT62 h, rdT62 h1]
        rw [if_pos (by omega), if_pos (by omega), if_pos (by omega), if_pos (by omega), if_pos (by omega), if_pos (by omega), if_pos (by omega), if_pos (by omega), if_pos (by omega), if_pos ((tst_ne _ _).2 e)]
    · exact ih n (by omega) hn
theorem stp_eq {a b : RStp} : a = b ↔ a.f1 = b.f1 ∧ a.f0 = b.f0 := by
  cases a
  cases b
  simp only [S61.mk.injEq]
  exact and_comm
theorem same_l1 {x0 x1 : List (List RStp)} {i : Nat} (hi : i < x0.length) (hi1 : i < x1.length) (hi9 : i ≤ 1000000000) (hz : x0[i].length ≤ 1000000000) (hx : ∀ x ∈ x0[i], x.f0.length ≤ 1000000000) (hc : x0[i].length = x1[i].length) {b0 : Bool} (hr : Ev fun k => treillageref09_Same.l0 k x0 x1 ((i + 1 : Nat) : Int) = some b0) :
    ∀ (d j : Nat), x0[i].length - j ≤ d → j ≤ x0[i].length → ∃ b, (Ev fun k => treillageref09_Same.l1 k x0 x1 i j = some b) ∧ (b = true ↔ x0[i].drop j = x1[i].drop j ∧ b0 = true) := by
  intro d
  induction d with
  | zero =>
    intro j hd hj
    refine ⟨b0, hr.succ fun k hk => ?_, ⟨fun h => ⟨drop_end (by omega) (by omega), h⟩, fun h => h.2⟩⟩
    rw [treillageref09_Same.l1]
    simp only [rdL13 hi]
    rw [if_pos (by omega), if_pos (by omega), if_neg (by omega), wn hi9]
    exact hk
  | succ d ih =>
    intro j hd hj
    by_cases h : j < x0[i].length
    · have h1 : j < x1[i].length := by omega
      obtain ⟨b1, hb1, hp1⟩ := ih (j + 1) (by omega) h
      -- up to the meeting
      have up : ∀ {R}, (Ev fun k => treillageref09_Same.j2 k x0 x1 i j (!decide (x0[i][j].f1 = x1[i][j].f1 ∧ x0[i][j].f0.length = x1[i][j].f0.length)) = some R) → Ev fun k => treillageref09_Same.l1 k x0 x1 i j = some R := by
        intro R hR
        refine hR.succ fun k hk => ?_
        rw [treillageref09_Same.l1]
        simp only [rdL13 hi, rdT61 h, rdL13 hi1, rdT61 h1]
        rw [if_pos (by omega), if_pos (by omega), if_pos (by omega), if_pos (by omega), if_pos (by omega), if_pos (by omega)]
        by_cases e : x0[i][j].f1 = x1[i][j].f1
        · rw [if_neg (by rw [bne_iff_ne]; exact fun hh => hh e)]
          have e2 : (!decide (x0[i][j].f1 = x1[i][j].f1 ∧ x0[i][j].f0.length = x1[i][j].f0.length)) = ((x0[i][j].f0.length : Int) != (x1[i][j].f0.length : Int)) := by
            by_cases e3 : x0[i][j].f0.length = x1[i][j].f0.length
            · rw [decide_eq_true ⟨e, e3⟩, e3]; simp
            · rw [decide_eq_false (fun hh => e3 hh.2)]; exact (bne_iff_ne.2 (by omega)).symm
          rw [e2] at hk
          exact hk
        · rw [if_pos (bne_iff_ne.2 e)]
          rw [decide_eq_false (fun hh => e hh.1)] at hk
          exact hk
      by_cases e : x0[i][j].f1 = x1[i][j].f1 ∧ x0[i][j].f0.length = x1[i][j].f0.length
      · obtain ⟨b, hb, hp⟩ := same_l2 hi hi1 h h1 (by omega) (hx _ (List.getElem_mem h)) e.2 hb1 _ 0 (Nat.le_refl _) (Nat.zero_le _)
        refine ⟨b, up (hb.succ fun k hk => ?_), ?_⟩
        · rw [decide_eq_true e, treillageref09_Same.j2, if_neg (by decide)]
          exact hk
        · rw [hp, hp1, drop_eq h h1, List.drop_zero, List.drop_zero, stp_eq]
          exact ⟨fun q => ⟨⟨⟨e.1, q.1⟩, q.2.1⟩, q.2.2⟩, fun q => ⟨q.1.1.2, q.1.2, q.2⟩⟩
      · refine ⟨false, up ⟨1, fun k hk => ?_⟩, ⟨fun hh => (by cases hh), fun hh => ?_⟩⟩
        · obtain ⟨k, rfl⟩ : ∃ k', k = k' + 1 := ⟨k - 1, by omega⟩
          rw [decide_eq_false e, treillageref09_Same.j2, if_pos (by decide)]
        · have := ((drop_eq h h1).1 hh.1).1
          exact absurd ⟨by rw [this], by rw [this]⟩ e
    · exact ih j (by omega) hj
def RSmall (l : List (List RStp)) : Prop := l.length ≤ 1000000000 ∧ ∀ r ∈ l, r.length ≤ 1000000000 ∧ ∀ x ∈ r, x.f0.length ≤ 1000000000
theorem same_f {x0 x1 : List (List RStp)} (h0 : RSmall x0) : ∃ b, (Ev fun k => treillageref09_Same.f k x0 x1 = some b) ∧ (b = true ↔ x0 = x1) := by
  by_cases hc : x0.length = x1.length
  · have key : ∀ (d i : Nat), x0.length - i ≤ d → i ≤ x0.length → ∃ b, (Ev fun k => treillageref09_Same.l0 k x0 x1 i = some b) ∧ (b = true ↔ x0.drop i = x1.drop i) := by
      intro d
      induction d with
      | zero =>
        intro i hd hi
        refine ⟨true, ⟨1, fun k hk => ?_⟩, ⟨fun _ => drop_end (by omega) (by omega), fun _ => rfl⟩⟩
        obtain ⟨k, rfl⟩ : ∃ k', k = k' + 1 := ⟨k - 1, by omega⟩
        rw [treillageref09_Same.l0, if_neg (by omega)]
      | succ d ih =>
        intro i hd hi'
        by_cases hi : i < x0.length
        · have hi1 : i < x1.length := by omega
          have hm := h0.2 _ (List.getElem_mem hi)
          have hl := h0.1
          obtain ⟨b1, hb1, hp1⟩ := ih (i + 1) (by omega) hi
          by_cases e : x0[i].length = x1[i].length
          · obtain ⟨b, hb, hp⟩ := same_l1 hi hi1 (by omega) hm.1 hm.2 e hb1 _ 0 (Nat.le_refl _) (Nat.zero_le _)
            refine ⟨b, hb.succ fun k hk => ?_, ?_⟩
            · rw [treillageref09_Same.l0]
              simp only [rdL13 hi, rdL13 hi1]
              rw [if_pos (by omega), if_pos (by omega), if_pos (by omega), if_pos (by omega)]
              exact hk
            · rw [hp, hp1, drop_eq hi hi1, List.drop_zero, List.drop_zero]
          · refine ⟨false, ⟨1, fun k hk => ?_⟩, ⟨fun hh => (by cases hh), fun hh => absurd (congrArg List.length ((drop_eq hi hi1).1 hh).1) e⟩⟩
            obtain ⟨k, rfl⟩ : ∃ k', k = k' + 1 := ⟨k - 1, by omega⟩
            rw [treillageref09_Same.l0]
            simp only [rdL13 hi, rdL13 hi1]
            rw [if_pos (by omega), if_pos (by omega), if_pos (by omega), if_neg (by omega)]
        · exact ih i (by omega) hi'
    obtain ⟨b, hb, hp⟩ := key x0.length 0 (by omega) (Nat.zero_le _)
    refine ⟨b, hb.mono fun k hk => ?_, hp⟩
    unfold treillageref09_Same.f
    rw [if_pos (by omega)]
    exact hk
  · refine ⟨false, Ev.of fun k => ?_, ⟨fun hh => (by cases hh), fun hh => absurd (congrArg List.length hh) hc⟩⟩
    unfold treillageref09_Same.f
    rw [if_neg (by omega)]
theorem small_its {l : List (List Stp)} (h : Small l) : RSmall (its l) := by
  refine ⟨by unfold its; rw [List.length_map]; exact h.1, fun r hr => ?_⟩
  obtain ⟨q, hq, rfl⟩ := List.mem_map.1 hr
  obtain ⟨h1, h2⟩ := h.2 q hq
  refine ⟨by rw [List.length_map]; exact h1, fun x hx => ?_⟩
  obtain ⟨y, hy, rfl⟩ := List.mem_map.1 hx
  show (y.f0.map rt).length ≤ _
  rw [List.length_map]
  exact h2 y hy
theorem same_refl {x0 : List (List RStp)} (h0 : RSmall x0) : Ev fun k => treillageref09_Same.f k x0 x0 = some true := by
  obtain ⟨b, hb, hp⟩ := same_f (x1 := x0) h0
  rw [hp.2 rfl] at hb
  exact hb
set_option maxRecDepth 100000 in
theorem shown60 : treillagelaw09_shown.f 60 = some true := by kernel_rfl
theorem mono_le {α : Type} {f : Nat → Option α} (hm : ∀ k, LeO (f k) (f (k + 1))) {K : Nat} {r : α} (h : f K = some r) : ∀ k, K ≤ k → f k = some r := by
  intro k hk
  induction k with
  | zero => rwa [Nat.le_zero.1 hk] at h
  | succ k ih =>
    rcases Nat.eq_or_lt_of_le hk with e | e
    · rwa [← e]
    · exact hm k r (ih (Nat.le_of_lt_succ e))
theorem shown_f : Ev fun k => treillagelaw09_shown.f k = some true := ⟨60, mono_le treillagelaw09_shown.mono shown60⟩
theorem steps_small {s : By} : ∀ (d i : Nat) (acc : List Stp) (child : Bool) {l : List Stp} {j : Nat}, i ≤ s.size → (∀ x ∈ acc, x.f0.length ≤ s.size) → steps s d acc child i = .ok (l, j) → l.length + i ≤ acc.length + j ∧ ∀ x ∈ l, x.f0.length ≤ s.size := by
  intro d
  induction d with
  | zero => intro i acc child l j hi ha h; rw [steps] at h; cases h
  | succ d ih =>
    intro i acc child l j hi ha h
    rw [steps] at h
    cases e : compound s i with
    | error p => rw [e] at h; cases h
    | ok r =>
      obtain ⟨c, m⟩ := r
      rw [e] at h
      have l1 := compound_le hi e
      have l2 := skip_le l1.2.1
      have ha2 : ∀ x ∈ acc ++ [(⟨c, child⟩ : Stp)], x.f0.length ≤ s.size := by
        intro x hx
        rcases List.mem_append.1 hx with hx | hx
        · exact ha x hx
        · rw [List.mem_singleton.1 hx]
          show c.length ≤ s.size
          omega
      have el : (acc ++ [(⟨c, child⟩ : Stp)]).length = acc.length + 1 := by rw [List.length_append, List.length_singleton]
      dsimp only at h
      split at h
      · injection h with h
        injection h with h1 h2
        subst h1 h2
        exact ⟨by omega, ha2⟩
      · rename_i c1
        have hlt : skip s m < s.size := by
          rcases Nat.eq_or_lt_of_le l2.2 with h | h
          · exact absurd (Or.inl h) c1
          · exact h
        split at h
        · have l3 := skip_le (s := s) (i := skip s m + 1) hlt
          obtain ⟨q1, q2⟩ := ih _ _ _ l3.2 ha2 h
          exact ⟨by omega, q2⟩
        · split at h
          · obtain ⟨q1, q2⟩ := ih _ _ _ l2.2 ha2 h
            exact ⟨by omega, q2⟩
          · cases h
theorem row_small {s : By} {i : Nat} (hi : i ≤ s.size) {l : List Stp} {j : Nat} (h : row s i = .ok (l, j)) : l.length ≤ s.size ∧ ∀ x ∈ l, x.f0.length ≤ s.size := by
  have l0 := skip_le hi
  have l1 := row_le hi h
  obtain ⟨q1, q2⟩ := steps_small _ _ _ _ l0.2 (fun x hx => (by cases hx)) h
  exact ⟨by simp only [List.length_nil] at q1; omega, q2⟩
theorem rows_small {s : By} : ∀ (d i : Nat) (acc : List (List Stp)) {l : List (List Stp)}, i ≤ s.size → acc.length ≤ i → (∀ r ∈ acc, r.length ≤ s.size ∧ ∀ x ∈ r, x.f0.length ≤ s.size) → rows s d acc i = .ok l → l.length ≤ s.size ∧ ∀ r ∈ l, r.length ≤ s.size ∧ ∀ x ∈ r, x.f0.length ≤ s.size := by
  intro d
  induction d with
  | zero => intro i acc l hi ha hb h; rw [rows] at h; cases h
  | succ d ih =>
    intro i acc l hi ha hb h
    rw [rows] at h
    cases e : row s i with
    | error p => rw [e] at h; cases h
    | ok r =>
      obtain ⟨q, m⟩ := r
      rw [e] at h
      have l1 := row_le hi e
      have hb2 : ∀ r ∈ acc ++ [q], r.length ≤ s.size ∧ ∀ x ∈ r, x.f0.length ≤ s.size := by
        intro r hr
        rcases List.mem_append.1 hr with hr | hr
        · exact hb r hr
        · rw [List.mem_singleton.1 hr]
          exact row_small hi e
      have el : (acc ++ [q]).length = acc.length + 1 := by rw [List.length_append, List.length_singleton]
      dsimp only at h
      split at h
      · rename_i c1
        exact ih _ _ c1.1 (by omega) hb2 h
      · injection h with h
        subst h
        exact ⟨by omega, hb2⟩
theorem parse_small {s : By} (hs : s.size ≤ 1000000000) {l : List (List Stp)} (h : parse s = .ok l) : Small l := by
  obtain ⟨h1, h2⟩ := rows_small _ _ _ (Nat.zero_le _) (by simp) (fun r hr => (by cases hr)) h
  exact ⟨by omega, fun r hr => ⟨by have := (h2 r hr).1; omega, fun x hx => by have := (h2 r hr).2 x hx; omega⟩⟩
theorem small_nil : Small [] := ⟨by simp, fun r hr => (by cases hr)⟩
theorem told_small {s : By} (hs : s.size ≤ 1000000000) : Small (told (parse s)).1 := by
  cases e : parse s with
  | error p => exact small_nil
  | ok l => exact parse_small hs e
end Go.Proofs.Ytjiejmkkaekefaa.PureS
