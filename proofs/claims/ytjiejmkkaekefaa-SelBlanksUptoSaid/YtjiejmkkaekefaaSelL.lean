/-
  The text of a selector, with any blanks between: it is read as that selector.
-/
import Derived.Test.YtjiejmkkaekefaaSelG
import Derived.Test.YtjiejmkkaekefaaSelN
namespace Go.Proofs.Ytjiejmkkaekefaa.PureS
set_option linter.unusedVariables false
set_option linter.unusedSimpArgs false
open Go.RowKit Go.Proofs.Ytjiejmkkaekefaa.PA Go.Proofs.YtjiejmkkaekefaaW.PrintWords Go.Proofs.YtjiejmkkaekefaaW.PrintLast Go.Proofs.YtjiejmkkaekefaaW.PrintMore Go.Proofs.YtjiejmkkaekefaaH

theorem tk1 {t : Tst} (h : t.f0 = 1) : tk t = t.f1 := by unfold tk; rw [if_pos h]
theorem tk2 {t : Tst} (h : t.f0 = 2) : tk t = (⟨#[35]⟩ : By) ++ t.f1 := by unfold tk; rw [if_neg (by omega), if_pos h]
theorem tk3 {t : Tst} (h : t.f0 = 3) : tk t = (⟨#[46]⟩ : By) ++ t.f1 := by unfold tk; rw [if_neg (by omega), if_neg (by omega), if_pos h]
theorem tk4 {t : Tst} (h : t.f0 = 4) : tk t = (⟨#[91]⟩ : By) ++ (t.f1 ++ (⟨#[93]⟩ : By)) := by
  unfold tk
  rw [if_neg (by omega), if_neg (by omega), if_neg (by omega), if_pos h, ByteArray.append_assoc]
theorem two (a b : UInt8) : (⟨#[a, b]⟩ : By) = (⟨#[a]⟩ : By) ++ (⟨#[b]⟩ : By) := by apply data_ext; rw [cat_data]; rfl
theorem tk5 {t : Tst} (h : t.f0 = 5) : tk t = (⟨#[91]⟩ : By) ++ (t.f1 ++ ((⟨#[61]⟩ : By) ++ ((((⟨#[34]⟩ : By) ++ t.f2) ++ (⟨#[34]⟩ : By)) ++ (⟨#[93]⟩ : By)))) := by
  unfold tk
  rw [if_neg (by omega), if_neg (by omega), if_neg (by omega), if_neg (by omega), if_pos h, two 61 34, two 34 93]
  simp only [ByteArray.append_assoc]
def tc : List Tst → By
  | [] => (⟨#[]⟩ : By)
  | t :: l => tk t ++ tc l
theorem app_nil (a : By) : a ++ (⟨#[]⟩ : By) = a := by apply data_ext; rw [cat_data]; exact List.append_nil _
theorem nil_app (a : By) : (⟨#[]⟩ : By) ++ a = a := by apply data_ext; rw [cat_data]; exact List.nil_append _
theorem tcat_eq (l : List Tst) : ∀ s : By, tcat s l = s ++ tc l := by
  induction l with
  | nil => intro s; exact (app_nil s).symm
  | cons t l ih => intro s; rw [tcat, ih, ByteArray.append_assoc]; rfl
def body (c : List Tst) : By := if c.length = 0 then (⟨#[42]⟩ : By) else tc c
theorem body_eq (s : By) (c : List Tst) : tcat (star s c) c = s ++ body c := by
  rw [tcat_eq]
  unfold star body
  by_cases h : c.length = 0
  · rw [if_pos h, if_pos h, List.length_eq_zero_iff.1 h]
    exact app_nil _
  · rw [if_neg h, if_neg h]
/-- A test with a mark ahead: what it begins with, and how it is read. -/
theorem mark_at {u : By} {t : Tst} (ht : okT t) {i : Nat} (h : At u i (tk t)) (hb : nameB (bt u ((i + (tk t).size : Nat) : Int)) = false) :
    i < u.size ∧ (bt u (i : Int) = 46 ∨ bt u (i : Int) = 35 ∨ bt u (i : Int) = 91) ∧ 2 ≤ (tk t).size ∧ ∀ (d : Nat) (acc : List Tst), tests u (d + 1) acc i = tests u d (acc ++ [t]) (i + (tk t).size) := by
  have s1 : ∀ b : UInt8, (⟨#[b]⟩ : By).size = 1 := fun _ => rfl
  rcases ht with ⟨h0 | h0 | h0, hn, h2⟩ | ⟨h0, hn, hv⟩
  · rw [tk2 h0] at h hb ⊢
    rw [ByteArray.size_append, s1] at hb ⊢
    have e := bt_of h
    have e0 : bt u (i : Int) = 35 := e.2
    have hr := h.right
    rw [s1] at hr
    have et : t = ⟨2, t.f1, ⟨#[]⟩⟩ := by rw [← h0, ← h2]
    refine ⟨e.1, .inr (.inl e0), by have := hn.1; omega, fun d acc => ?_⟩
    rw [tests, if_neg (fun q => by have := q.2; rw [e0] at this; exact absurd this (by decide)), if_pos ⟨e.1, e0⟩, name_at hn hr (by rw [Nat.add_assoc]; exact hb)]
    dsimp only
    rw [← et, Nat.add_assoc]
  · rw [tk3 h0] at h hb ⊢
    rw [ByteArray.size_append, s1] at hb ⊢
    have e := bt_of h
    have e0 : bt u (i : Int) = 46 := e.2
    have hr := h.right
    rw [s1] at hr
    have et : t = ⟨3, t.f1, ⟨#[]⟩⟩ := by rw [← h0, ← h2]
    refine ⟨e.1, .inl e0, by have := hn.1; omega, fun d acc => ?_⟩
    rw [tests, if_pos ⟨e.1, e0⟩, name_at hn hr (by rw [Nat.add_assoc]; exact hb)]
    dsimp only
    rw [← et, Nat.add_assoc]
  · rw [tk4 h0] at h hb ⊢
    rw [ByteArray.size_append, ByteArray.size_append, s1, s1] at hb ⊢
    have e := bt_of h
    have e0 : bt u (i : Int) = 91 := e.2
    have hr := h.right
    rw [s1] at hr
    have et : t = ⟨4, t.f1, ⟨#[]⟩⟩ := by rw [← h0, ← h2]
    refine ⟨e.1, .inr (.inr e0), by have := hn.1; omega, fun d acc => ?_⟩
    rw [tests, if_neg (fun q => by have := q.2; rw [e0] at this; exact absurd this (by decide)), if_neg (fun q => by have := q.2; rw [e0] at this; exact absurd this (by decide)), if_pos ⟨e.1, e0⟩, has_at hn hr]
    dsimp only
    rw [← et, show i + 1 + t.f1.size + 1 = i + (1 + (t.f1.size + 1)) from by omega]
  · rw [tk5 h0] at h hb ⊢
    simp only [ByteArray.size_append, s1] at hb ⊢
    have e := bt_of h
    have e0 : bt u (i : Int) = 91 := e.2
    have hr := h.right
    rw [s1] at hr
    have et : t = ⟨5, t.f1, t.f2⟩ := by rw [← h0]
    refine ⟨e.1, .inr (.inr e0), by omega, fun d acc => ?_⟩
    rw [tests, if_neg (fun q => by have := q.2; rw [e0] at this; exact absurd this (by decide)), if_neg (fun q => by have := q.2; rw [e0] at this; exact absurd this (by decide)), if_pos ⟨e.1, e0⟩, is_at hn hv hr]
    dsimp only
    rw [← et, show i + 1 + t.f1.size + t.f2.size + 4 = i + (1 + (t.f1.size + (1 + (1 + t.f2.size + 1 + 1)))) from by omega]
theorem mark_no {b : Int} (h : b = 46 ∨ b = 35 ∨ b = 91) : nameB b = false ∧ blank b = false ∧ b ≠ 42 ∧ letter b = false ∧ b ≠ 44 ∧ b ≠ 62 := by
  rcases h with h | h | h <;> subst h <;> decide
/-- The byte behind a part of a list of tests. -/
theorem next_no {u : By} {l : List Tst} (hl : ∀ t ∈ l, okT t) {i : Nat} (h : At u i (tc l)) (hb : brk (bt u ((i + (tc l).size : Nat) : Int))) : nameB (bt u (i : Int)) = false := by
  cases l with
  | nil => exact hb.1
  | cons t l =>
    have h0 : At u i (tk t ++ tc l) := h
    have ht := hl t List.mem_cons_self
    have : bt u (i : Int) = 46 ∨ bt u (i : Int) = 35 ∨ bt u (i : Int) = 91 := by
      rcases ht with ⟨g | g | g, _⟩ | ⟨g, _⟩
      · have q := h0.left; rw [tk2 g] at q; exact .inr (.inl (bt_of q).2)
      · have q := h0.left; rw [tk3 g] at q; exact .inl (bt_of q).2
      · have q := h0.left; rw [tk4 g] at q; exact .inr (.inr (bt_of q).2)
      · have q := h0.left; rw [tk5 g] at q; exact .inr (.inr (bt_of q).2)
    exact (mark_no this).1
theorem tests_at {u : By} : ∀ (l : List Tst), (∀ t ∈ l, okT t) → ∀ (d i : Nat) (acc : List Tst), At u i (tc l) → brk (bt u ((i + (tc l).size : Nat) : Int)) → l.length < d → tests u d acc i = .ok (acc ++ l, i + (tc l).size) := by
  intro l
  induction l with
  | nil =>
    intro hl d i acc h hb hd
    obtain ⟨d, rfl⟩ : ∃ d', d = d' + 1 := ⟨d - 1, by omega⟩
    have hb : brk (bt u (i : Int)) := hb
    rw [tests, if_neg (fun q => hb.2.1 q.2), if_neg (fun q => hb.2.2.1 q.2), if_neg (fun q => hb.2.2.2 q.2), List.append_nil]
    rfl
  | cons t l ih =>
    intro hl d i acc h hb hd
    obtain ⟨d, rfl⟩ : ∃ d', d = d' + 1 := ⟨d - 1, by omega⟩
    have h0 : At u i (tk t ++ tc l) := h
    have es : (tc (t :: l)).size = (tk t).size + (tc l).size := by rw [tc, ByteArray.size_append]
    rw [es, ← Nat.add_assoc] at hb
    have hl' : ∀ t ∈ l, okT t := fun x hx => hl x (List.mem_cons_of_mem _ hx)
    have hm := mark_at (hl t List.mem_cons_self) h0.left (next_no hl' h0.right hb)
    rw [hm.2.2.2, ih hl' d _ _ h0.right hb (by simp only [List.length_cons] at hd; omega), es, List.append_assoc, Nat.add_assoc]
    rfl
theorem tc_len (l : List Tst) : (∀ t ∈ l, okT t) → l.length ≤ (tc l).size := by
  induction l with
  | nil => intro _; exact Nat.zero_le _
  | cons t l ih =>
    intro hl
    have h1 := ih (fun x hx => hl x (List.mem_cons_of_mem _ hx))
    have h2 : 1 ≤ (tk t).size := by
      rcases hl t List.mem_cons_self with ⟨g | g | g, _⟩ | ⟨g, _⟩
      · rw [tk2 g, ByteArray.size_append, size1]; omega
      · rw [tk3 g, ByteArray.size_append, size1]; omega
      · rw [tk4 g, ByteArray.size_append, size1]; omega
      · rw [tk5 g, ByteArray.size_append, size1]; omega
    rw [tc, ByteArray.size_append, List.length_cons]
    omega
theorem body_at {u : By} {c : List Tst} (hc : okC c) {i : Nat} (h : At u i (body c)) (hb : brk (bt u ((i + (body c).size : Nat) : Int))) : compound u i = .ok (c, i + (body c).size) := by
  have hle := h.le
  have shut : ∀ (l : List Tst) (j : Nat), i < j → closed i (.ok (l, j)) = .ok (l, j) := by
    intro l j hj
    unfold closed
    dsimp only
    rw [if_neg (by omega)]
  cases c with
  | nil =>
    have e1 : body [] = (⟨#[42]⟩ : By) := rfl
    rw [e1] at h hb hle ⊢
    have e := h.one
    rw [size1] at hb hle ⊢
    unfold compound
    rw [if_pos (show isB u i 42 from ⟨e.1, e.2⟩), tests, if_neg (fun q => hb.2.1 q.2), if_neg (fun q => hb.2.2.1 q.2), if_neg (fun q => hb.2.2.2 q.2), shut _ _ (by omega)]
  | cons t l =>
    have e1 : body (t :: l) = tk t ++ tc l := rfl
    obtain ⟨ht, hl⟩ := hc
    rw [e1] at h hb hle ⊢
    rw [ByteArray.size_append] at hb hle ⊢
    have hr := h.right
    have ln := tc_len l hl
    rw [← Nat.add_assoc] at hb
    have hb1 := next_no hl hr hb
    unfold compound
    rcases ht with ht | ht
    · have hn := h.left
      rw [tk1 ht.1] at hn hr hb hb1 hle ⊢
      have hf := ht.2.1.first hn
      have et : t = ⟨1, t.f1, ⟨#[]⟩⟩ := by rw [← ht.1, ← ht.2.2]
      have h0 := ht.2.1.1
      rw [if_neg (fun q => (letter_no hf.2).2.1 q.2), if_pos hf, name_at ht.2.1 hn hb1]
      dsimp only
      rw [← et, tests_at l hl _ _ _ hr hb (by omega), shut _ _ (by omega), Nat.add_assoc]
      rfl
    · have hm := mark_at ht h.left hb1
      have hn := mark_no hm.2.1
      have h2 := hm.2.2.1
      rw [if_neg (fun q => hn.2.2.1 q.2), if_neg (fun q => by rw [hn.2.2.2.1] at q; cases q.2), hm.2.2.2, tests_at l hl _ _ _ hr hb (by omega), shut _ _ (by omega), Nat.add_assoc]
      rfl
/-- What a compound begins with. -/
theorem body_first {u : By} {c : List Tst} (hc : okC c) {i : Nat} (h : At u i (body c)) : i < u.size ∧ blank (bt u (i : Int)) = false ∧ bt u (i : Int) ≠ 44 ∧ bt u (i : Int) ≠ 62 := by
  cases c with
  | nil =>
    have e := At.one (show At u i (⟨#[42]⟩ : By) from h)
    have e2 : bt u (i : Int) = 42 := e.2
    rw [e2]
    exact ⟨e.1, by decide, by decide, by decide⟩
  | cons t l =>
    have h0 : At u i (tk t ++ tc l) := h
    obtain ⟨ht, hl⟩ := hc
    rcases ht with ht | ht
    · have hn := h0.left
      rw [tk1 ht.1] at hn
      have hf := ht.2.1.first hn
      have := letter_no hf.2
      exact ⟨hf.1, this.1, this.2.2.1, this.2.2.2.1⟩
    · have q := h0.left
      have : i < u.size ∧ (bt u (i : Int) = 46 ∨ bt u (i : Int) = 35 ∨ bt u (i : Int) = 91) := by
        rcases ht with ⟨g | g | g, _⟩ | ⟨g, _⟩
        · rw [tk2 g] at q; exact ⟨(bt_of q).1, .inr (.inl (bt_of q).2)⟩
        · rw [tk3 g] at q; exact ⟨(bt_of q).1, .inl (bt_of q).2⟩
        · rw [tk4 g] at q; exact ⟨(bt_of q).1, .inr (.inr (bt_of q).2)⟩
        · rw [tk5 g] at q; exact ⟨(bt_of q).1, .inr (.inr (bt_of q).2)⟩
      have hn := mark_no this.2
      exact ⟨this.1, hn.2.1, hn.2.2.2.2.1, hn.2.2.2.2.2⟩
theorem brk_of {u : By} {k : Nat} (h : skip u k = k → k ≥ u.size ∨ bt u (k : Int) = 44 ∨ bt u (k : Int) = 62) : brk (bt u (k : Int)) := by
  have num : ∀ b : Int, blank b = true ∨ b = 0 ∨ b = 44 ∨ b = 62 → brk b := by
    intro b hb
    unfold brk nameB letter
    unfold blank at hb
    simp only [Bool.or_eq_true, beq_iff_eq] at hb
    simp only [Bool.or_eq_false_iff, decide_eq_false_iff_not, beq_eq_false_iff_ne]
    omega
  apply num
  by_cases e : skip u k = k
  · rcases h e with h | h | h
    · exact .inr (.inl (bt_out h))
    · exact .inr (.inr (.inl h))
    · exact .inr (.inr (.inr h))
  · have := stop_ge blank u k
    exact .inl (stop_in blank u k k (Nat.le_refl _) (by show k < skip u k; have : k ≤ skip u k := this; omega))
/-- Steps that stand from a place on, up to another. -/
inductive StepsAt (u : By) : Nat → List Stp → Nat → Prop
  | one {i : Nat} {x : Stp} : At u i (body x.f0) → StepsAt u i [x] (i + (body x.f0).size)
  | more {i m j : Nat} {x y : Stp} {l : List Stp} : At u i (body x.f0) →
      (y.f1 = true → skip u (i + (body x.f0).size) < u.size ∧ bt u ((skip u (i + (body x.f0).size) : Nat) : Int) = 62 ∧ m = skip u (skip u (i + (body x.f0).size) + 1)) →
      (y.f1 = false → i + (body x.f0).size < skip u (i + (body x.f0).size) ∧ skip u (i + (body x.f0).size) < u.size ∧ bt u ((skip u (i + (body x.f0).size) : Nat) : Int) ≠ 44 ∧ bt u ((skip u (i + (body x.f0).size) : Nat) : Int) ≠ 62 ∧ m = skip u (i + (body x.f0).size)) →
      StepsAt u m (y :: l) j → StepsAt u i (x :: y :: l) j
theorem StepsAt.le {u : By} {i j : Nat} {l : List Stp} (h : StepsAt u i l j) : j ≤ u.size := by
  induction h with
  | one h => exact h.le
  | more _ _ _ _ ih => exact ih
theorem steps_at {u : By} {i j : Nat} {l : List Stp} (h : StepsAt u i l j) : (∀ x ∈ l, okC x.f0) → (skip u j = u.size ∨ bt u ((skip u j : Nat) : Int) = 44) → ∀ (d : Nat) (acc : List Stp) (x : Stp) (r : List Stp), l = x :: r → l.length < d → steps u d acc x.f1 i = .ok (acc ++ l, skip u j) := by
  induction h with
  | @one i x h =>
    intro hl hj d acc x' r hr hd
    injection hr with h1 h2
    subst h1 h2
    obtain ⟨d, rfl⟩ : ∃ d', d = d' + 1 := ⟨d - 1, by omega⟩
    have hb : brk (bt u ((i + (body x.f0).size : Nat) : Int)) := brk_of (fun e => by rw [e] at hj; exact hj.elim (fun g => .inl (by omega)) (fun g => .inr (.inl g)))
    rw [steps, body_at (hl x List.mem_cons_self) h hb]
    dsimp only
    rw [if_pos hj]
  | @more i m j x y l h h1 h0 hs ih =>
    intro hl hj d acc x' r hr hd
    injection hr with e1 e2
    subst e1 e2
    obtain ⟨d, rfl⟩ : ∃ d', d = d' + 1 := ⟨d - 1, by omega⟩
    have hi := ih (fun z hz => hl z (List.mem_cons_of_mem _ hz)) hj d (acc ++ [x]) y l rfl (by simp only [List.length_cons] at hd ⊢; omega)
    have ea : acc ++ [x] ++ y :: l = acc ++ x :: y :: l := by rw [List.append_assoc]; rfl
    rw [ea] at hi
    cases hy : y.f1 with
    | true =>
      obtain ⟨g1, g2, g3⟩ := h1 hy
      have hb : brk (bt u ((i + (body x.f0).size : Nat) : Int)) := brk_of (fun e => by rw [e] at g2; exact .inr (.inr g2))
      rw [steps, body_at (hl x List.mem_cons_self) h hb]
      dsimp only
      rw [if_neg (fun q => q.elim (fun q => by omega) (fun q => by rw [g2] at q; exact absurd q (by decide))), if_pos g2, ← g3]
      rw [hy] at hi
      exact hi
    | false =>
      obtain ⟨g0, g1, g2, g3, g4⟩ := h0 hy
      have hb : brk (bt u ((i + (body x.f0).size : Nat) : Int)) := brk_of (fun e => by omega)
      rw [steps, body_at (hl x List.mem_cons_self) h hb]
      dsimp only
      rw [if_neg (fun q => q.elim (fun q => by omega) g2), if_neg g3, if_pos g0, ← g4]
      rw [hy] at hi
      exact hi
def okR (r : List Stp) : Prop := ∃ x l, r = x :: l ∧ x.f1 = false ∧ ∀ y ∈ r, okC y.f0
def okL (l : List (List Stp)) : Prop := l ≠ [] ∧ ∀ r ∈ l, okR r
theorem steps_len {u : By} {i j : Nat} {l : List Stp} (h : StepsAt u i l j) : (∀ x ∈ l, okC x.f0) → i + l.length ≤ j := by
  have bl : ∀ (u : By) (i : Nat) (x : Stp), okC x.f0 → 1 ≤ (body x.f0).size := by
    intro u i x hx
    unfold body
    by_cases e : x.f0.length = 0
    · rw [if_pos e]; exact Nat.le_refl _
    · rw [if_neg e]
      cases ec : x.f0 with
      | nil => rw [ec] at e; exact absurd rfl e
      | cons t l =>
        rw [ec] at hx
        rw [tc, ByteArray.size_append]
        rcases hx.1 with g | g
        · rw [tk1 g.1]; have := g.2.1.1; omega
        · have := tc_len [t] (fun z hz => by rw [List.mem_singleton.1 hz]; exact g)
          rw [tc, ByteArray.size_append, List.length_singleton] at this
          have e0 : (tc []).size = 0 := rfl
          omega
  induction h with
  | @one i x h => intro hl; have := bl u i x (hl x List.mem_cons_self); rw [List.length_singleton]; omega
  | @more i m j x y l h h1 h0 hs ih =>
    intro hl
    have g := ih (fun z hz => hl z (List.mem_cons_of_mem _ hz))
    have g2 := bl u i x (hl x List.mem_cons_self)
    have g3 : i + (body x.f0).size ≤ m := by
      have a1 := stop_ge blank u (i + (body x.f0).size)
      have a2 := stop_ge blank u (stop blank u (i + (body x.f0).size) + 1)
      cases hy : y.f1 with
      | true => have := (h1 hy).2.2; rw [this]; show _ ≤ stop blank u (stop blank u (i + (body x.f0).size) + 1); omega
      | false => have := (h0 hy).2.2.2.2; rw [this]; exact a1
    rw [List.length_cons]
    omega
theorem row_at {u : By} {i j : Nat} {l : List Stp} (hl : okR l) (h : StepsAt u (skip u i) l j) (hj : skip u j = u.size ∨ bt u ((skip u j : Nat) : Int) = 44) : row u i = .ok (l, skip u j) := by
  obtain ⟨x, r, e, e1, hx⟩ := hl
  have hn := steps_len h hx
  have hj2 := h.le
  have := steps_at h hx hj (u.size + 1) [] x r e (by omega)
  rw [e1] at this
  exact this
inductive RowsAt (u : By) : Nat → List (List Stp) → Prop
  | one {i j : Nat} {r : List Stp} : StepsAt u (skip u i) r j → skip u j = u.size → RowsAt u i [r]
  | more {i j : Nat} {r r2 : List Stp} {l : List (List Stp)} : StepsAt u (skip u i) r j → skip u j < u.size → bt u ((skip u j : Nat) : Int) = 44 → RowsAt u (skip u j + 1) (r2 :: l) → RowsAt u i (r :: r2 :: l)
theorem rows_at {u : By} {i : Nat} {l : List (List Stp)} (h : RowsAt u i l) : (∀ r ∈ l, okR r) → ∀ (d : Nat) (acc : List (List Stp)), i ≤ u.size → u.size - i < d → rows u d acc i = .ok (acc ++ l) := by
  induction h with
  | @one i j r h hj =>
    intro hl d acc hi hd
    obtain ⟨d, rfl⟩ : ∃ d', d = d' + 1 := ⟨d - 1, by omega⟩
    rw [rows, row_at (hl r List.mem_cons_self) h (.inl hj)]
    dsimp only
    rw [if_neg (fun q => by have := q.1; omega)]
  | @more i j r r2 l h h1 h2 hs ih =>
    intro hl d acc hi hd
    obtain ⟨d, rfl⟩ : ∃ d', d = d' + 1 := ⟨d - 1, by omega⟩
    have hr := row_at (hl r List.mem_cons_self) h (.inr h2)
    have l1 := row_le hi hr
    rw [rows, hr]
    dsimp only
    rw [if_pos ⟨h1, h2⟩, ih (fun z hz => hl z (List.mem_cons_of_mem _ hz)) d _ (by omega) (by omega), List.append_assoc]
    rfl
end Go.Proofs.Ytjiejmkkaekefaa.PureS
