
import Derived.Test.YtjiejmkkaekefaaSelS

/-
  The law's own turning of a selector, and the reference's 'Same', in plain words; the reference reads what the program reads.
-/
namespace Go.Proofs.Ytjiejmkkaekefaa.PureS
set_option linter.unusedVariables false
set_option linter.unusedSimpArgs false
open Go.RowKit Go.Proofs.Ytjiejmkkaekefaa.PA Go.Proofs.YtjiejmkkaekefaaW.PrintWords Go.Proofs.YtjiejmkkaekefaaW.PrintLast Go.Proofs.YtjiejmkkaekefaaW.PrintMore Go.Proofs.YtjiejmkkaekefaaH

def rr : Res (List Stp) → List RStp × Int × Bool
  | .error p => ([], (p : Int), false)
  | .ok (l, j) => (l.map rs, (j : Int), true)
theorem rsteps_f {s : By} (hs : s.size ≤ 1000000000000) : ∀ (d i : Nat) (acc : List Stp) (child : Bool), s.size - i < d → i ≤ s.size → acc.length ≤ i → Ev fun k => treillageref09_row.l0 k s i (acc.map rs) child = some (rr (steps s d acc child i)) := by
  intro d
  induction d with
  | zero => intro i acc child h; omega
  | succ d ih =>
    intro i acc child hd hi hacc
    have hc := rcompound_f hs hi
    rw [steps]
    cases e : compound s i with
    | error p =>
      rw [e] at hc
      refine hc.succ fun k hk => ?_
      obtain ⟨⟨x1, x2, x3⟩, hx, h5⟩ := hk
      unfold cok at h5
      injection h5 with h5 h6
      subst h5 h6
      rw [treillageref09_row.l0, hx, Option.bind_some]
      rfl
    | ok r =>
      obtain ⟨c, m⟩ := r
      rw [e] at hc
      have l1 := compound_le hi e
      have l2 := skip_le l1.2.1
      have hb := rblanks_f hs l1.2.1
      dsimp only
      have up : ∀ {X}, (Ev fun k => treillageref09_row.j1 k s (skip s m) ((acc ++ [(⟨c, child⟩ : Stp)]).map rs) m (decide (skip s m = s.size ∨ bt s (skip s m) = 44)) = some X) → Ev fun k => treillageref09_row.l0 k s i (acc.map rs) child = some X := by
        intro X hX
        refine (hc.and (hb.and hX)).succ fun k hk => ?_
        obtain ⟨⟨x, hx, h5⟩, h6, h7⟩ := hk
        unfold cok at h5
        dsimp only at h5
        subst h5
        rw [treillageref09_row.l0, hx, Option.bind_some]
        dsimp only
        rw [if_pos rfl, if_pos (by rw [List.length_map]; omega), Option.bind_some, h6, Option.bind_some]
        rw [List.map_append] at h7
        by_cases h1 : skip s m = s.size
        · rw [if_pos (by omega)]
          rw [decide_eq_true (show skip s m = s.size ∨ bt s (skip s m) = 44 from Or.inl h1)] at h7
          exact h7
        · rw [if_neg (by omega), if_pos (by omega), if_pos (by omega)]
          have h2 : decide (skip s m = s.size ∨ bt s (skip s m) = 44) = (bt s (skip s m) == 44) := by
            by_cases h3 : bt s (skip s m) = 44
            · rw [decide_eq_true (Or.inr h3)]; exact (beq_iff_eq.2 h3).symm
            · rw [decide_eq_false (fun hh => hh.elim h1 h3)]; exact (beq_eq_false_iff_ne.2 h3).symm
          rw [h2] at h7
          exact h7
      by_cases c1 : skip s m = s.size ∨ bt s (skip s m) = 44
      · rw [if_pos c1]
        refine up ⟨1, fun k hk => ?_⟩
        obtain ⟨k, rfl⟩ : ∃ k', k = k' + 1 := ⟨k - 1, by omega⟩
        rw [decide_eq_true c1, treillageref09_row.j1, if_pos rfl]
        rfl
      · rw [if_neg c1]
        have hlt : skip s m < s.size := by
          rcases Nat.eq_or_lt_of_le l2.2 with h | h
          · exact absurd (Or.inl h) c1
          · exact h
        by_cases c2 : bt s (skip s m) = 62
        · rw [if_pos c2]
          have hb2 := rblanks_f hs (i := skip s m + 1) hlt
          have l3 := skip_le (s := s) (i := skip s m + 1) hlt
          refine up ((hb2.and (ih (skip s (skip s m + 1)) (acc ++ [⟨c, child⟩]) true (by omega) l3.2 (by rw [List.length_append, List.length_singleton]; omega))).succ fun k hk => ?_)
          rw [decide_eq_false c1, treillageref09_row.j1, if_neg (by decide), if_pos (by omega), if_pos (by omega), if_pos c2, up1 hs l2.2, hk.1, Option.bind_some]
          exact hk.2
        · rw [if_neg c2]
          by_cases c3 : m < skip s m
          · rw [if_pos c3]
            refine up ((ih (skip s m) (acc ++ [⟨c, child⟩]) false (by omega) l2.2 (by rw [List.length_append, List.length_singleton]; omega)).succ fun k hk => ?_)
            rw [decide_eq_false c1, treillageref09_row.j1, if_neg (by decide), if_pos (by omega), if_pos (by omega), if_neg c2, if_neg (by omega)]
            exact hk
          · rw [if_neg c3]
            refine up ⟨1, fun k hk => ?_⟩
            obtain ⟨k, rfl⟩ : ∃ k', k = k' + 1 := ⟨k - 1, by omega⟩
            rw [decide_eq_false c1, treillageref09_row.j1, if_neg (by decide), if_pos (by omega), if_pos (by omega), if_neg c2, if_pos (by omega)]
            rfl
theorem rrow_f {s : By} (hs : s.size ≤ 1000000000000) {i : Nat} (hi : i ≤ s.size) : Ev fun k => treillageref09_row.f k s i = some (rr (row s i)) := by
  have l0 := skip_le hi
  refine ((rblanks_f hs hi).and (rsteps_f hs (s.size + 1) (skip s i) [] false (by omega) l0.2 (by simp))).mono fun k hk => ?_
  unfold treillageref09_row.f
  rw [hk.1, Option.bind_some]
  exact hk.2
def rtold : Except Nat (List (List Stp)) → List (List RStp) × Int × Int
  | .error p => ([], (p : Int), 90)
  | .ok l => (its l, 0, 0)
theorem rrows_f {s : By} (hs : s.size ≤ 1000000000000) : ∀ (d i : Nat) (acc : List (List Stp)), s.size - i < d → i ≤ s.size → acc.length ≤ i → Ev fun k => treillageref09_Parse.l0 k s (its acc) i = some (rtold (rows s d acc i)) := by
  intro d
  induction d with
  | zero => intro i acc h; omega
  | succ d ih =>
    intro i acc hd hi hacc
    have hr := rrow_f hs hi
    rw [rows]
    cases e : row s i with
    | error p =>
      refine hr.succ fun k hk => ?_
      rw [treillageref09_Parse.l0, hk, Option.bind_some, e]
      rfl
    | ok r =>
      obtain ⟨l, j⟩ := r
      have l1 := row_le hi e
      have ea : its (acc ++ [l]) = its acc ++ [l.map rs] := by unfold its; rw [List.map_append]; rfl
      have el : (its acc).length = acc.length := List.length_map ..
      dsimp only
      by_cases c1 : isB s j 44
      · rw [if_pos c1]
        refine (hr.and (ih (j + 1) (acc ++ [l]) (by omega) c1.1 (by rw [List.length_append, List.length_singleton]; omega))).succ fun k hk => ?_
        have c2 := c1.1
        have h2 := hk.2
        rw [ea] at h2
        rw [treillageref09_Parse.l0, hk.1, Option.bind_some, e]
        unfold rr
        dsimp only
        rw [if_pos rfl, if_pos (by omega), Option.bind_some, if_neg (by omega), up1 hs l1.2.1]
        exact h2
      · rw [if_neg c1]
        have hj : j = s.size := by
          rcases l1.2.2 with h | h
          · exact h
          · exact absurd (at_of (by decide) h) c1
        refine hr.succ fun k hk => ?_
        rw [treillageref09_Parse.l0, hk, Option.bind_some, e]
        unfold rr
        dsimp only
        rw [if_pos rfl, if_pos (by omega), Option.bind_some, if_pos (by omega)]
        unfold rtold
        dsimp only
        rw [ea]
theorem rparse_f {s : By} (hs : s.size ≤ 1000000000000) : Ev fun k => treillageref09_Parse.f k s = some (rtold (parse s)) := by
  unfold treillageref09_Parse.f
  exact rrows_f hs (s.size + 1) 0 [] (by omega) (Nat.zero_le _) (by simp)
end Go.Proofs.Ytjiejmkkaekefaa.PureS
