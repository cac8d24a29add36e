
import Derived.Test.YtjiejmkkaekefaaSelI
import Derived.Test.YtjiejmkkaekefaaPAx10

/-
  sel.Print in plain words: the text of a selector, and whether it is read back to the same.
-/
namespace Go.Proofs.Ytjiejmkkaekefaa.PureS
set_option linter.unusedVariables false
set_option linter.unusedSimpArgs false
open Go.RowKit Go.Proofs.Ytjiejmkkaekefaa.PA Go.Proofs.YtjiejmkkaekefaaW.PrintWords Go.Proofs.YtjiejmkkaekefaaW.PrintLast Go.Proofs.YtjiejmkkaekefaaW.PrintMore Go.Proofs.YtjiejmkkaekefaaH

theorem loop_eq {α : Type} (F : Nat → Int → Option Bool) (a b : List α) (hc : a.length = b.length) (hend : ∀ k, F (k + 1) (a.length : Int) = some true)
    (hyes : ∀ (i : Nat) (h : i < a.length) (h' : i < b.length), a[i] = b[i] → ∀ r, (Ev fun k => F k ((i + 1 : Nat) : Int) = some r) → Ev fun k => F k (i : Int) = some r)
    (hno : ∀ (i : Nat) (h : i < a.length) (h' : i < b.length), a[i] ≠ b[i] → Ev fun k => F k (i : Int) = some false) : ∃ r, (Ev fun k => F k 0 = some r) ∧ (r = true ↔ a = b) := by
  have key : ∀ (d i : Nat), a.length - i ≤ d → i ≤ a.length → ∃ r, (Ev fun k => F k (i : Int) = some r) ∧ (r = true ↔ a.drop i = b.drop i) := by
    intro d
    induction d with
    | zero =>
      intro i hd hi
      have e : i = a.length := by omega
      subst e
      refine ⟨true, ⟨1, fun k hk => ?_⟩, ⟨fun _ => drop_end (by omega) (by omega), fun _ => rfl⟩⟩
      obtain ⟨k, rfl⟩ : ∃ k', k = k' + 1 := ⟨k - 1, by omega⟩
      exact hend k
    | succ d ih =>
      intro i hd hi
      by_cases h : i < a.length
      · have h' : i < b.length := by omega
        by_cases e : a[i] = b[i]
        · obtain ⟨r, hr, hp⟩ := ih (i + 1) (by omega) h
          refine ⟨r, hyes i h h' e r hr, ?_⟩
          rw [hp, drop_eq h h']
          exact ⟨fun q => ⟨e, q⟩, fun q => q.2⟩
        · exact ⟨false, hno i h h' e, ⟨fun q => (by cases q), fun q => absurd ((drop_eq h h').1 q).1 e⟩⟩
      · exact ih i (by omega) hi
  obtain ⟨r, hr, hp⟩ := key a.length 0 (by omega) (Nat.zero_le _)
  exact ⟨r, hr, by rw [hp, List.drop_zero, List.drop_zero]⟩
theorem tst_nq (a b : Tst) : (!(a.f0 == b.f0) || (!(a.f1.toList == b.f1.toList) || !(a.f2.toList == b.f2.toList))) = true ↔ a ≠ b := by
  have h1 := @by_eq a.f1 b.f1
  have h2 := @by_eq a.f2 b.f2
  obtain ⟨p, q, r⟩ := a
  obtain ⟨p', q', r'⟩ := b
  rw [Ne, S48.mk.injEq, ← h1, ← h2]
  dsimp only
  cases e1 : q.toList == q'.toList <;> cases e2 : r.toList == r'.toList <;> by_cases e0 : p = p' <;> simp [e0]
theorem eqt_f {a b : List Tst} (h9 : a.length ≤ 1000000000) : ∃ r, (Ev fun k => sel_Test.f k a b = some r) ∧ (r = true ↔ a = b) := by
  by_cases hc : a.length = b.length
  · obtain ⟨r, hr, hp⟩ := loop_eq (fun k i => sel_Test.l0 k a b (a.length : Int) i) a b hc (fun k => by rw [sel_Test.l0, if_neg (by omega)])
      (fun i h h' e r hr => hr.succ fun k hk => by
        rw [sel_Test.l0]
        simp only [rdT48 h, rdT48 h']
        rw [if_pos (by omega), if_pos (by omega), if_pos (by omega), if_pos (by omega), if_neg (fun q => (tst_nq _ _).1 q e), wn (by omega)]
        exact hk)
      (fun i h h' e => ⟨1, fun k hk => by
        obtain ⟨k, rfl⟩ : ∃ k', k = k' + 1 := ⟨k - 1, by omega⟩
        rw [sel_Test.l0]
        simp only [rdT48 h, rdT48 h']
        rw [if_pos (by omega), if_pos (by omega), if_pos (by omega), if_pos (by omega), if_pos ((tst_nq _ _).2 e)]⟩)
    refine ⟨r, hr.mono fun k hk => ?_, hp⟩
    unfold sel_Test.f
    rw [if_pos (by omega)]
    exact hk
  · refine ⟨false, Ev.of fun k => ?_, ⟨fun hh => (by cases hh), fun hh => absurd (congrArg List.length hh) hc⟩⟩
    unfold sel_Test.f
    rw [if_neg (by omega)]
theorem stq_eq {a b : Stp} : a = b ↔ a.f1 = b.f1 ∧ a.f0 = b.f0 := by
  cases a
  cases b
  simp only [S46.mk.injEq]
  exact and_comm
theorem eqx_f {a b : Stp} (h9 : a.f0.length ≤ 1000000000) : ∃ r, (Ev fun k => sel_Step_same.f k a.f0 a.f1 b.f0 b.f1 = some r) ∧ (r = true ↔ a = b) := by
  by_cases e : a.f1 = b.f1
  · obtain ⟨r, hr, hp⟩ := eqt_f (b := b.f0) h9
    refine ⟨r, hr.mono fun k hk => ?_, ?_⟩
    · unfold sel_Step_same.f
      rw [if_pos (by rw [e]; simp), hk]
      rfl
    · rw [hp, stq_eq]
      exact ⟨fun q => ⟨e, q⟩, fun q => q.2⟩
  · refine ⟨false, Ev.of fun k => ?_, ⟨fun hh => (by cases hh), fun hh => absurd (congrArg _ hh) e⟩⟩
    unfold sel_Step_same.f
    rw [if_neg (by rw [beq_iff_eq]; exact e)]
theorem eqr_f {a b : List Stp} (h9 : a.length ≤ 1000000000) (hx : ∀ x ∈ a, x.f0.length ≤ 1000000000) : ∃ r, (Ev fun k => sel_Print_1.f k a b = some r) ∧ (r = true ↔ a = b) := by
  have up : ∀ {r}, (Ev fun k => sel_Step_27.f k a b = some r) → Ev fun k => sel_Print_1.f k a b = some r := fun h => h.mono fun k hk => by unfold sel_Print_1.f; rw [hk]; rfl
  by_cases hc : a.length = b.length
  · obtain ⟨r, hr, hp⟩ := loop_eq (fun k i => sel_Step_27.l0 k b a (a.length : Int) i) a b hc (fun k => by rw [sel_Step_27.l0, if_neg (by omega)])
      (fun i h h' e r hr => by
        obtain ⟨q, hq, hqp⟩ := eqx_f (a := a[i]) (b := b[i]) (hx _ (List.getElem_mem h))
        rw [hqp.2 e] at hq
        refine (hr.and hq).succ fun k hk => ?_
        rw [sel_Step_27.l0]
        simp only [rdT46 h, rdT46 h']
        rw [if_pos (by omega), if_pos (by omega), if_pos (by omega), if_pos (by omega), hk.2, Option.bind_some, if_pos rfl, wn (by omega)]
        exact hk.1)
      (fun i h h' e => by
        obtain ⟨q, hq, hqp⟩ := eqx_f (a := a[i]) (b := b[i]) (hx _ (List.getElem_mem h))
        have : q = false := Bool.eq_false_iff.2 (fun hh => e (hqp.1 hh))
        subst this
        refine hq.succ fun k hk => ?_
        rw [sel_Step_27.l0]
        simp only [rdT46 h, rdT46 h']
        rw [if_pos (by omega), if_pos (by omega), if_pos (by omega), if_pos (by omega), hk, Option.bind_some, if_neg (by decide)])
    refine ⟨r, up (hr.mono fun k hk => ?_), hp⟩
    unfold sel_Step_27.f
    rw [if_pos (by omega)]
    exact hk
  · refine ⟨false, up (Ev.of fun k => ?_), ⟨fun hh => (by cases hh), fun hh => absurd (congrArg List.length hh) hc⟩⟩
    unfold sel_Step_27.f
    rw [if_neg (by omega)]
theorem eql_f {a b : List (List Stp)} (hs : Small a) : ∃ r, (Ev fun k => sel_Step_25.f k a b = some r) ∧ (r = true ↔ a = b) := by
  have h9 := hs.1
  by_cases hc : a.length = b.length
  · obtain ⟨r, hr, hp⟩ := loop_eq (fun k i => sel_Step_25.l0 k b a (a.length : Int) i) a b hc (fun k => by rw [sel_Step_25.l0, if_neg (by omega)])
      (fun i h h' e r hr => by
        have hm := hs.2 _ (List.getElem_mem h)
        obtain ⟨q, hq, hqp⟩ := eqr_f (a := a[i]) (b := b[i]) hm.1 hm.2
        rw [hqp.2 e] at hq
        refine (hr.and hq).succ fun k hk => ?_
        rw [sel_Step_25.l0]
        simp only [rdL6 h, rdL6 h']
        rw [if_pos (by omega), if_pos (by omega), if_pos (by omega), if_pos (by omega), hk.2, Option.bind_some, if_pos rfl, wn (by omega)]
        exact hk.1)
      (fun i h h' e => by
        have hm := hs.2 _ (List.getElem_mem h)
        obtain ⟨q, hq, hqp⟩ := eqr_f (a := a[i]) (b := b[i]) hm.1 hm.2
        have : q = false := Bool.eq_false_iff.2 (fun hh => e (hqp.1 hh))
        subst this
        refine hq.succ fun k hk => ?_
        rw [sel_Step_25.l0]
        simp only [rdL6 h, rdL6 h']
        rw [if_pos (by omega), if_pos (by omega), if_pos (by omega), if_pos (by omega), hk, Option.bind_some, if_neg (by decide)])
    refine ⟨r, hr.mono fun k hk => ?_, hp⟩
    unfold sel_Step_25.f
    rw [if_pos (by omega)]
    exact hk
  · refine ⟨false, Ev.of fun k => ?_, ⟨fun hh => (by cases hh), fun hh => absurd (congrArg List.length hh) hc⟩⟩
    unfold sel_Step_25.f
    rw [if_neg (by omega)]
/-- The text of a test. -/
def tk (t : Tst) : By :=
  if t.f0 = 1 then t.f1 else if t.f0 = 2 then (⟨#[35]⟩ : By) ++ t.f1 else if t.f0 = 3 then (⟨#[46]⟩ : By) ++ t.f1 else if t.f0 = 4 then ((⟨#[91]⟩ : By) ++ t.f1) ++ (⟨#[93]⟩ : By)
  else if t.f0 = 5 then (((((⟨#[91]⟩ : By) ++ t.f1) ++ (⟨#[61, 34]⟩ : By)) ++ t.f2) ++ (⟨#[34, 93]⟩ : By)) else (⟨#[]⟩ : By)
theorem size1 (a : UInt8) : (⟨#[a]⟩ : By).size = 1 := rfl
theorem size2 (a b : UInt8) : (⟨#[a, b]⟩ : By).size = 2 := rfl
theorem size3 (a b c : UInt8) : (⟨#[a, b, c]⟩ : By).size = 3 := rfl
theorem text_f {t : Tst} (h : (tk t).size ≤ 1000000000000) : sel_Test_text.f t.f0 t.f1 t.f2 = some (tk t) := by
  unfold tk at h ⊢
  unfold sel_Test_text.f
  by_cases h1 : t.f0 = 1
  · rw [if_pos h1, if_pos h1]
  rw [if_neg h1] at h
  rw [if_neg h1, if_neg h1]
  by_cases h2 : t.f0 = 2
  · rw [if_pos h2, ByteArray.size_append, size1] at h
    rw [if_pos h2, if_pos h2, if_pos (by omega)]
  rw [if_neg h2] at h
  rw [if_neg h2, if_neg h2]
  by_cases h3 : t.f0 = 3
  · rw [if_pos h3, ByteArray.size_append, size1] at h
    rw [if_pos h3, if_pos h3, if_pos (by omega)]
  rw [if_neg h3] at h
  rw [if_neg h3, if_neg h3]
  by_cases h4 : t.f0 = 4
  · rw [if_pos h4, ByteArray.size_append, ByteArray.size_append, size1, size1] at h
    rw [if_pos h4, if_pos h4, if_pos (by omega), if_pos (by rw [ByteArray.size_append, size1]; omega)]
  rw [if_neg h4] at h
  rw [if_neg h4, if_neg h4]
  by_cases h5 : t.f0 = 5
  · rw [if_pos h5, ByteArray.size_append, ByteArray.size_append, ByteArray.size_append, ByteArray.size_append, size1, size2, size2] at h
    rw [if_pos h5, if_pos h5, if_pos (by omega), if_pos (by rw [ByteArray.size_append, size1]; omega), if_pos (by rw [ByteArray.size_append, ByteArray.size_append, size1, size2]; omega), if_pos (by rw [ByteArray.size_append, ByteArray.size_append, ByteArray.size_append, size1, size2]; omega)]
  rw [if_neg h5, if_neg h5]
def tcat (s : By) : List Tst → By
  | [] => s
  | t :: l => tcat (s ++ tk t) l
def sep (s : By) (n : Nat) (b : Bool) : By := if 0 < n ∧ b = true then s ++ (⟨#[32, 62, 32]⟩ : By) else if 0 < n then s ++ (⟨#[32]⟩ : By) else s
def star (s : By) (c : List Tst) : By := if c.length = 0 then s ++ (⟨#[42]⟩ : By) else s
def rtx (s : By) (n : Nat) : List Stp → By
  | [] => s
  | x :: l => rtx (tcat (star (sep s n x.f1) x.f0) x.f0) (n + 1) l
theorem tcat_le (l : List Tst) : ∀ s : By, s.size ≤ (tcat s l).size := by
  induction l with
  | nil => intro s; exact Nat.le_refl _
  | cons t l ih => intro s; have := ih (s ++ tk t); rw [ByteArray.size_append] at this; exact Nat.le_trans (Nat.le_add_right _ _) this
theorem sep_le (s : By) (n : Nat) (b : Bool) : s.size ≤ (sep s n b).size := by
  unfold sep
  split
  · rw [ByteArray.size_append]; omega
  · split
    · rw [ByteArray.size_append]; omega
    · exact Nat.le_refl _
theorem star_le (s : By) (c : List Tst) : s.size ≤ (star s c).size := by
  unfold star
  split
  · rw [ByteArray.size_append]; omega
  · exact Nat.le_refl _
theorem rtx_le (l : List Stp) : ∀ (s : By) (n : Nat), s.size ≤ (rtx s n l).size := by
  induction l with
  | nil => intro s n; exact Nat.le_refl _
  | cons x l ih => intro s n; exact Nat.le_trans (Nat.le_trans (sep_le _ _ _) (star_le _ _)) (Nat.le_trans (tcat_le _ _) (ih _ _))
theorem print_l2 {x0 x16 : List (List Stp)} {x4 : List By} {x17 x18 : Int} {r : List Stp} {x23 : Int} {j : Nat} (hj9 : j ≤ 1000000000) {c : List Tst} (hc : c.length ≤ 1000000000) {R : By × Int} :
    ∀ (d n : Nat) (s : By), c.length - n ≤ d → n ≤ c.length → (tcat s (c.drop n)).size ≤ 1000000000000 → (Ev fun k => sel_Print.l1 k x0 x4 (tcat s (c.drop n)) x16 x17 x18 r x23 ((j + 1 : Nat) : Int) = some R) → Ev fun k => sel_Print.l2 k x0 x4 s x16 x17 x18 r x23 j c (c.length : Int) n = some R := by
  intro d
  induction d with
  | zero =>
    intro n s hd hn hz hr
    rw [List.drop_of_length_le (by omega)] at hr
    refine hr.succ fun k hk => ?_
    rw [sel_Print.l2, if_neg (by omega), wn hj9]
    exact hk
  | succ d ih =>
    intro n s hd hn hz hr
    by_cases h : n < c.length
    · rw [List.drop_eq_getElem_cons h, tcat] at hz hr
      have z := tcat_le (c.drop (n + 1)) (s ++ tk c[n])
      rw [ByteArray.size_append] at z
      refine (ih (n + 1) _ (by omega) h hz hr).succ fun k hk => ?_
      rw [sel_Print.l2]
      simp only [rdT48 h]
      rw [if_pos (by omega), if_pos (by omega), if_pos (by omega), text_f (by omega), Option.bind_some, if_pos (by omega), wn (by omega)]
      exact hk
    · exact ih n s (by omega) hn hz hr
theorem print_l1 {x0 x16 : List (List Stp)} {x4 : List By} {x17 : Int} {i : Nat} (hi9 : i ≤ 1000000000) {r : List Stp} (hr9 : r.length ≤ 1000000000) (hx : ∀ x ∈ r, x.f0.length ≤ 1000000000) (h4 : x4.length < 8796093022208) {R : By × Int} :
    ∀ (d j : Nat) (s : By), r.length - j ≤ d → j ≤ r.length → (rtx s j (r.drop j)).size ≤ 1000000000000 → (Ev fun k => sel_Print.l0 k x0 (x4 ++ [rtx s j (r.drop j)]) x16 x17 ((i + 1 : Nat) : Int) = some R) → Ev fun k => sel_Print.l1 k x0 x4 s x16 x17 i r (r.length : Int) j = some R := by
  intro d
  induction d with
  | zero =>
    intro j s hd hj hz hr
    rw [List.drop_of_length_le (by omega)] at hr
    refine hr.succ fun k hk => ?_
    rw [sel_Print.l1, if_neg (by omega), if_pos h4, wn hi9]
    exact hk
  | succ d ih =>
    intro j s hd hj hz hr
    by_cases h : j < r.length
    · rw [List.drop_eq_getElem_cons h, rtx] at hz hr
      have z0 := rtx_le (r.drop (j + 1)) (tcat (star (sep s j r[j].f1) r[j].f0) r[j].f0) (j + 1)
      have z1 := tcat_le r[j].f0 (star (sep s j r[j].f1) r[j].f0)
      have z2 := star_le (sep s j r[j].f1) r[j].f0
      have h1 := ih (j + 1) _ (by omega) h hz hr
      have h2 : Ev fun k => sel_Print.l2 k x0 x4 (star (sep s j r[j].f1) r[j].f0) x16 x17 i r (r.length : Int) j r[j].f0 (r[j].f0.length : Int) 0 = some R := print_l2 (by omega) (hx _ (List.getElem_mem h)) _ 0 _ (Nat.le_refl _) (Nat.zero_le _) (by rw [List.drop_zero]; omega) (by rw [List.drop_zero]; exact h1)
      have h3 : Ev fun k => sel_Print.j3 k x0 x4 (sep s j r[j].f1) x16 x17 i r (r.length : Int) j r[j].f0 r[j].f1 = some R := by
        refine (h2.succ (Q := fun k => sel_Print.j4 k x0 x4 (star (sep s j r[j].f1) r[j].f0) x16 x17 i r (r.length : Int) j r[j].f0 r[j].f1 = some R) fun k hk => by rw [sel_Print.j4]; exact hk).succ fun k hk => ?_
        rw [sel_Print.j3]
        unfold star at hk z2
        by_cases e : r[j].f0.length = 0
        · have z3 : (star (sep s j r[j].f1) r[j].f0).size ≤ 1000000000000 := Nat.le_trans z1 (Nat.le_trans z0 hz)
          unfold star at z3
          rw [if_pos e, ByteArray.size_append, size1] at z3
          rw [if_pos e] at hk
          rw [if_pos (by omega), if_pos (by omega)]
          exact hk
        · rw [if_neg e] at hk
          rw [if_neg (by omega)]
          exact hk
      have up : ∀ b : Bool, (b = true ↔ 0 < j ∧ r[j].f1 = true) → Ev fun k => sel_Print.j2 k x0 x4 s j x16 x17 i r (r.length : Int) j b r[j].f0 r[j].f1 = some R := by
        intro b hb
        refine h3.succ fun k hk => ?_
        rw [sel_Print.j2]
        unfold sep at hk z2
        by_cases e : 0 < j ∧ r[j].f1 = true
        · have z3 : (s ++ (⟨#[32, 62, 32]⟩ : By)).size ≤ 1000000000000 := by
            have z3 := Nat.le_trans z2 (Nat.le_trans z1 (Nat.le_trans z0 hz))
            rw [if_pos e] at z3
            exact z3
          rw [ByteArray.size_append, size3] at z3
          rw [if_pos e] at hk
          rw [if_pos (hb.2 e), if_pos (by omega)]
          exact hk
        · rw [if_neg e] at hk
          rw [if_neg (fun q => e (hb.1 q))]
          by_cases e2 : 0 < j
          · have z3 : (s ++ (⟨#[32]⟩ : By)).size ≤ 1000000000000 := by
              have z3 := Nat.le_trans z2 (Nat.le_trans z1 (Nat.le_trans z0 hz))
              rw [if_neg e, if_pos e2] at z3
              exact z3
            rw [ByteArray.size_append, size1] at z3
            rw [if_pos e2] at hk
            rw [if_pos (by omega), if_pos (by omega)]
            exact hk
          · rw [if_neg e2] at hk
            rw [if_neg (by omega)]
            exact hk
      by_cases e : 0 < j
      · refine (up r[j].f1 ⟨fun q => ⟨e, q⟩, fun q => q.2⟩).succ fun k hk => ?_
        rw [sel_Print.l1]
        simp only [rdT46 h]
        rw [if_pos (by omega), if_pos (by omega), if_pos (by omega), if_pos (by omega)]
        exact hk
      · refine (up false ⟨fun q => (by cases q), fun q => absurd q.1 e⟩).succ fun k hk => ?_
        rw [sel_Print.l1]
        simp only [rdT46 h]
        rw [if_pos (by omega), if_pos (by omega), if_pos (by omega), if_neg (by omega)]
        exact hk
    · exact ih j s (by omega) hj hz hr
/-- The rows' texts, and the whole. -/
def rowsTx (l : List (List Stp)) : List By := l.map (rtx (⟨#[]⟩ : By) 0)
def text (l : List (List Stp)) : By := ⟨(Lib.join ((rowsTx l).map (·.data.toList)) [44, 32]).toArray⟩
def Short (l : List (List Stp)) : Prop := (text l).size ≤ 1000000000000 ∧ ∀ r ∈ l, (rtx (⟨#[]⟩ : By) 0 r).size ≤ 1000000000000
theorem print_f {l : List (List Stp)} (h : Small l) (hz : Short l) : ∃ r, (Ev fun k => sel_Print.f k l = some (if r = true then (text l, 0) else ((⟨#[]⟩ : By), 1))) ∧ (r = true ↔ parse (text l) = .ok l) := by
  have fin : ∃ r, (Ev fun k => sel_Print.l0 k l (rowsTx l) l (l.length : Int) l.length = some (if r = true then (text l, 0) else ((⟨#[]⟩ : By), 1))) ∧ (r = true ↔ parse (text l) = .ok l) := by
    have hj : strings_Join.f (rowsTx l) (⟨#[44, 32]⟩ : ByteArray) = some (text l) := by
      unfold strings_Join.f
      have hl : (rowsTx l).length = l.length := by unfold rowsTx; rw [List.length_map]
      have h2 : (Lib.join ((rowsTx l).map (·.data.toList)) (⟨#[44, 32]⟩ : ByteArray).data.toList).length ≤ 140737488355328 := by
        have : (text l).size = (Lib.join ((rowsTx l).map (·.data.toList)) [44, 32]).length := by unfold text; show Array.size _ = _; rw [List.size_toArray]
        have h3 := hz.1
        show (Lib.join ((rowsTx l).map (·.data.toList)) [44, 32]).length ≤ 140737488355328
        omega
      have h1 := h.1
      rw [if_pos ⟨by omega, h2⟩]
      rfl
    have hp := parse_f (s := text l) (by have := hz.1; omega)
    cases e : parse (text l) with
    | error p =>
      rw [e] at hp
      refine ⟨false, hp.succ fun k hk => ?_, ⟨fun q => (by cases q), fun q => (by cases q)⟩⟩
      rw [sel_Print.l0, if_neg (by omega), hj, Option.bind_some, hk, Option.bind_some]
      rfl
    | ok m =>
      rw [e] at hp
      obtain ⟨r, hr, hq⟩ := eql_f (b := m) h
      refine ⟨r, (hp.and hr).succ fun k hk => ?_, ?_⟩
      · rw [sel_Print.l0, if_neg (by omega), hj, Option.bind_some, hk.1, Option.bind_some]
        have n1 : (told (Except.ok m : Except Nat (List (List Stp)))) = (m, 0, 0) := rfl
        rw [n1, if_pos rfl, hk.2, Option.bind_some]
        cases r <;> rfl
      · rw [hq]
        exact ⟨fun q => by rw [q], fun q => (by injection q with q; exact q.symm)⟩
  obtain ⟨r, hr, hq⟩ := fin
  refine ⟨r, ?_, hq⟩
  have key : ∀ (d i : Nat), l.length - i ≤ d → i ≤ l.length → Ev fun k => sel_Print.l0 k l (rowsTx (l.take i)) l (l.length : Int) i = some (if r = true then (text l, 0) else ((⟨#[]⟩ : By), 1)) := by
    intro d
    induction d with
    | zero =>
      intro i hd hi
      have e : i = l.length := by omega
      subst e
      rw [List.take_of_length_le (Nat.le_refl _)]
      exact hr
    | succ d ih =>
      intro i hd hi'
      by_cases hi : i < l.length
      · have h1 := ih (i + 1) (by omega) hi
        have e : rowsTx (l.take (i + 1)) = rowsTx (l.take i) ++ [rtx (⟨#[]⟩ : By) 0 l[i]] := by unfold rowsTx; rw [take_up hi, List.map_append]; rfl
        rw [e] at h1
        have hm := h.2 _ (List.getElem_mem hi)
        have hl := h.1
        have h2 := print_l1 (x0 := l) (x16 := l) (x4 := rowsTx (l.take i)) (x17 := (l.length : Int)) (i := i) (by omega) hm.1 hm.2 (by unfold rowsTx; rw [List.length_map, List.length_take]; omega) _ 0 (⟨#[]⟩ : By) (Nat.le_refl _) (Nat.zero_le _) (by rw [List.drop_zero]; exact hz.2 _ (List.getElem_mem hi)) (by rw [List.drop_zero]; exact h1)
        refine h2.succ fun k hk => ?_
        rw [sel_Print.l0]
        simp only [rdL6 hi]
        rw [if_pos (by omega), if_pos (by omega), if_pos (by omega)]
        exact hk
      · exact ih i (by omega) hi'
  have := key l.length 0 (by omega) (Nat.zero_le _)
  unfold sel_Print.f
  exact this
end Go.Proofs.Ytjiejmkkaekefaa.PureS
