
import Derived.Test.YtjiejmkkaekefaaSelQ
/-
  The text of any selector is the document's, or its error: where what comes in is of bulk at most 1048576.
-/
namespace Go.Proofs.Ytjiejmkkaekefaa.PureS
set_option linter.unusedVariables false
set_option linter.unusedSimpArgs false
open Go.RowKit Go.Proofs.Ytjiejmkkaekefaa.PA Go.Proofs.YtjiejmkkaekefaaW.PrintWords Go.Proofs.YtjiejmkkaekefaaW.PrintLast Go.Proofs.YtjiejmkkaekefaaW.PrintMore Go.Proofs.YtjiejmkkaekefaaH

theorem bounded_l2 {x0 : List (List Stp)} {i j : Nat} (hi : i < x0.length) (hj : j < x0[i].length) (hj9 : j ≤ 1000000000) (hz : x0[i][j].f0.length ≤ 1000000000) (hn : ∀ c : Int, ∃ b, Ev fun k => treillagelaw09_bounded.l1 k x0 c i ((j + 1 : Nat) : Int) = some b) :
    ∀ (d n : Nat) (c : Int), x0[i][j].f0.length - n ≤ d → n ≤ x0[i][j].f0.length → ∃ b, Ev fun k => treillagelaw09_bounded.l2 k x0 c i j n = some b := by
  intro d
  induction d with
  | zero =>
    intro n c hd hn'
    obtain ⟨b, hb⟩ := hn (wrap64 (c + 1))
    refine ⟨b, hb.succ fun k hk => ?_⟩
    rw [treillagelaw09_bounded.l2]
    simp only [rdL6 hi, rdT46 hj]
    rw [if_pos (by omega), if_pos (by omega), if_pos (by omega), if_pos (by omega), if_neg (by omega), wn hj9]
    exact hk
  | succ d ih =>
    intro n c hd hn'
    by_cases h : n < x0[i][j].f0.length
    · obtain ⟨b, hb⟩ := ih (n + 1) (wrap64 (c + 1)) (by omega) h
      by_cases c1 : (x0[i][j].f0[n].f1.size : Int) > 100
      · refine ⟨false, ⟨1, fun k hk => ?_⟩⟩
        obtain ⟨k, rfl⟩ : ∃ k', k = k' + 1 := ⟨k - 1, by omega⟩
        rw [treillagelaw09_bounded.l2]
        simp only [rdL6 hi, rdT46 hj, rdT48 h]
        rw [if_pos (by omega), if_pos (by omega), if_pos (by omega), if_pos (by omega), if_pos (by omega), if_pos (by omega), if_pos c1]
      · by_cases c2 : (x0[i][j].f0[n].f2.size : Int) > 100
        · refine ⟨false, ⟨1, fun k hk => ?_⟩⟩
          obtain ⟨k, rfl⟩ : ∃ k', k = k' + 1 := ⟨k - 1, by omega⟩
          rw [treillagelaw09_bounded.l2]
          simp only [rdL6 hi, rdT46 hj, rdT48 h]
          rw [if_pos (by omega), if_pos (by omega), if_pos (by omega), if_pos (by omega), if_pos (by omega), if_pos (by omega), if_neg c1, if_pos c2]
        · refine ⟨b, hb.succ fun k hk => ?_⟩
          rw [treillagelaw09_bounded.l2]
          simp only [rdL6 hi, rdT46 hj, rdT48 h]
          rw [if_pos (by omega), if_pos (by omega), if_pos (by omega), if_pos (by omega), if_pos (by omega), if_pos (by omega), if_neg c1, if_neg c2, wn (by omega)]
          exact hk
    · exact ih n c (by omega) hn'
theorem bounded_f {l : List (List Stp)} (h : Small l) : ∃ b, Ev fun k => treillagelaw09_bounded.f k l = some b := by
  have row : ∀ i (hi : i < l.length), (∀ c : Int, ∃ b, Ev fun k => treillagelaw09_bounded.l0 k l c ((i + 1 : Nat) : Int) = some b) → ∀ (d j : Nat) (c : Int), l[i].length - j ≤ d → j ≤ l[i].length → ∃ b, Ev fun k => treillagelaw09_bounded.l1 k l c i j = some b := by
    intro i hi hn d
    have hm := h.2 _ (List.getElem_mem hi)
    have hl := h.1
    induction d with
    | zero =>
      intro j c hd hj
      obtain ⟨b, hb⟩ := hn (wrap64 (c + 1))
      refine ⟨b, hb.succ fun k hk => ?_⟩
      rw [treillagelaw09_bounded.l1]
      simp only [rdL6 hi]
      rw [if_pos (by omega), if_pos (by omega), if_neg (by omega), wn (by omega)]
      exact hk
    | succ d ih =>
      intro j c hd hj
      by_cases hjl : j < l[i].length
      · obtain ⟨b, hb⟩ := bounded_l2 hi hjl (by omega) (hm.2 _ (List.getElem_mem hjl)) (fun c => ih (j + 1) c (by omega) hjl) _ 0 c (Nat.le_refl _) (Nat.zero_le _)
        refine ⟨b, hb.succ fun k hk => ?_⟩
        rw [treillagelaw09_bounded.l1]
        simp only [rdL6 hi]
        rw [if_pos (by omega), if_pos (by omega), if_pos (by omega)]
        exact hk
      · exact ih j c (by omega) hj
  have all : ∀ (d i : Nat) (c : Int), l.length - i ≤ d → i ≤ l.length → ∃ b, Ev fun k => treillagelaw09_bounded.l0 k l c i = some b := by
    intro d
    induction d with
    | zero =>
      intro i c hd hi
      refine ⟨decide (c ≤ 60), ⟨1, fun k hk => ?_⟩⟩
      obtain ⟨k, rfl⟩ : ∃ k', k = k' + 1 := ⟨k - 1, by omega⟩
      rw [treillagelaw09_bounded.l0, if_neg (by omega)]
    | succ d ih =>
      intro i c hd hi
      by_cases hil : i < l.length
      · obtain ⟨b, hb⟩ := row i hil (fun c => ih (i + 1) c (by omega) hil) _ 0 c (Nat.le_refl _) (Nat.zero_le _)
        refine ⟨b, hb.succ fun k hk => ?_⟩
        rw [treillagelaw09_bounded.l0, if_pos (by omega)]
        exact hk
      · exact ih i c (by omega) hi
  obtain ⟨b, hb⟩ := all l.length 0 0 (by omega) (Nat.zero_le _)
  exact ⟨b, hb⟩
/-- The bulk of a selector. -/
def bT (t : Tst) : Nat := (0 + ((t.f1.size + 1) + (t.f2.size + 1))) + 1
def bX (x : Stp) : Nat := (((x.f0.map bT).sum + 1) + 0) + 1
def bR (r : List Stp) : Nat := (r.map bX).sum + 1
def bL (l : List (List Stp)) : Nat := (l.map bR).sum + 1
theorem mem_sum {α : Type} {f : α → Nat} {l : List α} {x : α} (h : x ∈ l) : f x ≤ (l.map f).sum := by
  induction l with
  | nil => cases h
  | cons y l ih =>
    rw [List.map_cons, List.sum_cons]
    rcases List.mem_cons.1 h with e | e
    · rw [e]; omega
    · have := ih e; omega
theorem len_sum {α : Type} {f : α → Nat} (hf : ∀ x, 1 ≤ f x) (l : List α) : l.length ≤ (l.map f).sum := by
  induction l with
  | nil => exact Nat.le_refl _
  | cons y l ih =>
    rw [List.map_cons, List.sum_cons, List.length_cons]
    have := hf y
    omega
theorem tk_bulk (t : Tst) : (tk t).size ≤ 6 * bT t := by
  unfold tk bT
  repeat' split
  all_goals (try simp only [ByteArray.size_append, size1, size2])
  all_goals (try (have : (⟨#[]⟩ : By).size = 0 := rfl))
  all_goals omega
theorem tc_bulk (c : List Tst) : (tc c).size ≤ 6 * (c.map bT).sum := by
  induction c with
  | nil => exact Nat.le_refl _
  | cons t c ih =>
    have := tk_bulk t
    rw [tc, ByteArray.size_append, List.map_cons, List.sum_cons]
    omega
theorem body_bulk (x : Stp) : (body x.f0).size + 3 ≤ 6 * bX x := by
  have := tc_bulk x.f0
  unfold body bX
  split
  · rw [size1]; omega
  · omega
theorem srow_bulk (r : List Stp) : (srow Gs Ds r).size ≤ 6 * (r.map bX).sum := by
  induction r with
  | nil => exact Nat.le_refl _
  | cons x r ih =>
    have h2 := body_bulk x
    rw [List.map_cons, List.sum_cons]
    cases r with
    | nil => rw [srow_one]; omega
    | cons y r =>
      rw [srow_more, ByteArray.size_append, ByteArray.size_append]
      have h5 : (if y.f1 = true then Gs else Ds).size ≤ 3 := by
        cases y.f1 with
        | true => rw [if_pos rfl]; exact Nat.le_refl _
        | false => rw [if_neg (by decide)]; exact (by decide : (1 : Nat) ≤ 3)
      omega
theorem slist_bulk (l : List (List Stp)) : (slist Gs Ds Cs l).size ≤ 6 * (l.map bR).sum := by
  induction l with
  | nil => exact Nat.le_refl _
  | cons r l ih =>
    have h2 := srow_bulk r
    have h3 : bR r = (r.map bX).sum + 1 := rfl
    rw [List.map_cons, List.sum_cons]
    cases l with
    | nil => rw [slist_one]; omega
    | cons r2 l =>
      rw [slist_more, ByteArray.size_append, ByteArray.size_append, size2]
      omega
theorem bulk_small {l : List (List Stp)} (h : bL l ≤ 1048576) : Small l := by
  have e : bL l = (l.map bR).sum + 1 := rfl
  have h1 := len_sum (f := bR) (fun x => by unfold bR; omega) l
  refine ⟨by omega, fun r hr => ?_⟩
  have h2 := mem_sum (f := bR) hr
  have e2 : bR r = (r.map bX).sum + 1 := rfl
  have h3 := len_sum (f := bX) (fun x => by unfold bX; omega) r
  refine ⟨by omega, fun x hx => ?_⟩
  have h4 := mem_sum (f := bX) hx
  have e3 : bX x = (((x.f0.map bT).sum + 1) + 0) + 1 := rfl
  have h5 := len_sum (f := bT) (fun x => by unfold bT; omega) x.f0
  omega
theorem bulk_short {l : List (List Stp)} (h : bL l ≤ 1048576) : Short l := by
  have e : bL l = (l.map bR).sum + 1 := rfl
  have h1 := slist_bulk l
  refine ⟨by rw [text_eq]; omega, fun r hr => ?_⟩
  have h2 := mem_sum (f := bR) hr
  have e2 : bR r = (r.map bX).sum + 1 := rfl
  have h3 := srow_bulk r
  rw [rtx0]
  omega
end Go.Proofs.Ytjiejmkkaekefaa.PureS
namespace Go.Proofs.Ytjiejmkkaekefaa.Pure
open Go.RowKit Go.Proofs.Ytjiejmkkaekefaa.PA Go.Proofs.YtjiejmkkaekefaaW.PrintWords Go.Proofs.YtjiejmkkaekefaaW.PrintLast Go.Proofs.YtjiejmkkaekefaaW.PrintMore Go.Proofs.YtjiejmkkaekefaaH
open Go.Proofs.Ytjiejmkkaekefaa.PureS

theorem prints_law (l : List (List Stp)) (hb : bL l ≤ 1048576) : ∃ k, treillagelaw09_SelPrints.f k l = some true := by
  have hs := bulk_small hb
  have hz := bulk_short hb
  obtain ⟨K0, h0⟩ := shown_f
  obtain ⟨b, K1, h1⟩ := bounded_f hs
  obtain ⟨r, ⟨K2, h2⟩, hr⟩ := print_f hs hz
  obtain ⟨r', ⟨K3, h3⟩, hr'⟩ := rprint_f hs hz.1
  obtain ⟨K4, h4⟩ := its_f hs
  have er : r = r' := Bool.eq_iff_iff.2 (hr.trans hr'.symm)
  subst er
  obtain ⟨k, hk⟩ : ∃ k, k = K0 + K1 + K2 + K3 + K4 := ⟨_, rfl⟩
  refine ⟨k + 1, ?_⟩
  have e0 : treillagelaw09_shown.f (k + 1) = some true := h0 _ (by omega)
  have e00 : treillagelaw09_shown.f k = some true := h0 _ (by omega)
  have e1 := h1 (k + 1) (by omega)
  have e2 := h2 k (by omega)
  have e3 := h3 k (by omega)
  have e4 := h4 k (by omega)
  unfold treillagelaw09_SelPrints.f
  rw [e1, Option.bind_some]
  cases b with
  | false =>
    rw [if_neg (by decide), treillagelaw09_SelPrints.j0, if_pos rfl, e00]
    rfl
  | true =>
    rw [if_pos rfl, e0, Option.bind_some, treillagelaw09_SelPrints.j0, if_neg (by decide), e2, Option.bind_some, e4, Option.bind_some, e3, Option.bind_some, if_pos rfl, beq_self_eq_true]
end Go.Proofs.Ytjiejmkkaekefaa.Pure
