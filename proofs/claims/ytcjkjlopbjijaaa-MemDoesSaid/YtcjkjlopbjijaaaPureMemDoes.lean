/-
  What any access does to any cells is the document's; no other cell turns.
-/
import Derived.Test.YtcjkjlopbjijaaaPAx3
import Derived.Test.YtcjkjlopbjijaaaWfMemDoes
import Derived.Test.YtcjkjlopbjijaaaMemM
namespace Go.Proofs.Ytcjkjlopbjijaaa.memDoes
set_option linter.unusedVariables false
set_option linter.unusedSimpArgs false
open Go.RowKit Go.Proofs.Ytcjkjlopbjijaaa.PA Go.Proofs.YtcjkjlopbjijaaaW.PrintWords Go.Proofs.YtcjkjlopbjijaaaW.PrintLast Go.Proofs.YtcjkjlopbjijaaaW.PrintMore Go.Proofs.YtcjkjlopbjijaaaH Go.Proofs.Ytcjkjlopbjijaaa.Pure

theorem ref_do (l : List Int) (a i o n : Int) (hl : l.length ≤ 300) (k : Nat) : treillageref15_Do.f (k + 1) l a i o n = mem_Do.f l a i o n := by
  unfold treillageref15_Do.f mem_Do.f
  have hj : treillageref15_Do.j0 (k + 1) l true a i o n = some (l, 0, false) := by rw [treillageref15_Do.j0, if_pos rfl]
  by_cases c1 : i < 0
  · rw [if_pos c1, hj, if_pos (.inl c1)]
  rw [if_neg c1]
  by_cases c2 : i ≥ (l.length : Int)
  · rw [if_pos c2, hj, if_pos (.inr c2)]
  rw [if_neg c2, if_neg (show ¬(i < 0 ∨ (l.length : Int) ≤ i) by omega)]
  by_cases c3 : a < 1
  · rw [if_pos c3, hj, if_neg (by omega), if_neg (by omega), if_neg (by omega)]
  rw [if_neg c3]
  by_cases c4 : a > 3
  · rw [show decide (a > 3) = true from decide_eq_true c4, hj, if_neg (by omega), if_neg (by omega), if_neg (by omega)]
  rw [show decide (a > 3) = false from decide_eq_false c4, treillageref15_Do.j0, if_neg (by simp), if_pos (by omega), if_pos (by omega)]
  have hlim : ([] : List Int).length + l.length < 17592186044416 := by simp; omega
  by_cases c5 : a = 1
  · rw [if_pos c5, if_pos c5]
  rw [if_neg c5, if_neg c5]
  by_cases c6 : a = 3
  · rw [if_pos c6]
    by_cases c7 : rd l i = o
    · rw [if_pos c7, if_neg (fun h => h.2 c7), if_pos (.inr c6), if_pos (by omega)]
      simp only [Option.bind_some, if_pos hlim, List.nil_append]
      rw [if_pos (by omega)]
    · rw [if_neg c7, if_pos ⟨c6, c7⟩]
  · rw [if_neg c6, if_neg (fun h => c6 h.1), if_pos (.inl (by omega)), if_pos (by omega)]
    simp only [Option.bind_some, if_pos hlim, List.nil_append]
    rw [if_pos (by omega)]
/-- What an access leaves: the same cells, or one of them turned. -/
theorem do_some (l : List Int) (a i o n : Int) (hl : l.length ≤ 300) : ∃ m x b, mem_Do.f l a i o n = some (m, x, b) ∧ m.length = l.length ∧ ∀ j : Int, 0 ≤ j → j ≠ i → rd m j = rd l j := by
  unfold mem_Do.f
  split
  · exact ⟨_, _, _, rfl, rfl, fun j _ _ => rfl⟩
  · rename_i h1
    split
    · exact ⟨_, _, _, rfl, rfl, fun j _ _ => rfl⟩
    · split
      · exact ⟨_, _, _, rfl, rfl, fun j _ _ => rfl⟩
      · split
        · rw [if_pos (by omega)]
          exact ⟨_, _, _, rfl, List.length_set, fun j hj hne => rd_set_ne (by omega) hj hne _⟩
        · exact ⟨_, _, _, rfl, rfl, fun j _ _ => rfl⟩
theorem others (l m : List Int) (i a o n : Int) (hlen : m.length = l.length) (hl : l.length ≤ 300) (h : ∀ j : Int, 0 ≤ j → j ≠ i → rd m j = rd l j) :
    ∀ (d k : Nat) (j : Int), 0 ≤ j → j + d = m.length → d + 1 ≤ k → treillagelaw15_MemDoes.l0 k l m j a i o n = some true := by
  intro d
  induction d with
  | zero =>
    intro k j hj he hk
    obtain ⟨k, rfl⟩ : ∃ k', k = k' + 1 := ⟨k - 1, by omega⟩
    rw [treillagelaw15_MemDoes.l0, if_neg (by omega)]
  | succ d ih =>
    intro k j hj he hk
    obtain ⟨k, rfl⟩ : ∃ k', k = k' + 1 := ⟨k - 1, by omega⟩
    rw [treillagelaw15_MemDoes.l0, if_pos (by omega), show wrap64 (j + 1) = j + 1 from by unfold wrap64; omega]
    by_cases c : j = i
    · rw [if_pos c]
      exact ih k (j + 1) (by omega) (by omega) (by omega)
    · rw [if_neg c, if_pos hj, if_pos (by omega), if_pos (h j hj c)]
      exact ih k (j + 1) (by omega) (by omega) (by omega)
theorem pure : ∀ (x0 : List Int) (x1 : S25), (x0.length * Try.prog.bytesOf 23 ≤ 140737488351232 ∧ ∀ y0_ ∈ x0, (Lit.int .u64 y0_).wf = true) → wf25 x1 → ∃ k : Nat, PA.treillagelaw15_MemDoes.f k x0 x1.f0 x1.f1 x1.f2 x1.f3 = some true := by
  intro l x hl hx
  refine ⟨400, ?_⟩
  have hs : ∀ k, 8 ≤ k → treillagelaw15_shown.f k = some true := fun k hk => shown_at hk
  unfold treillagelaw15_MemDoes.f
  by_cases c : (l.length : Int) > 300
  · rw [if_pos c, treillagelaw15_MemDoes.j0, if_pos rfl, hs _ (by decide)]
    rfl
  rw [if_neg c, hs _ (by decide)]
  simp only [Option.bind_some, Bool.not_true]
  have hlim : ([] : List Int).length + l.length < 17592186044416 := by simp; omega
  obtain ⟨m, y, b, hd, hlen, hoth⟩ := do_some l x.f0 x.f1 x.f2 x.f3 (by omega)
  rw [treillagelaw15_MemDoes.j0, if_neg (by simp)]
  simp only [Option.bind_some, if_pos hlim]
  rw [ref_do l _ _ _ _ (by omega) 398, hd]
  simp only [Option.bind_some, List.nil_append]
  rw [handles_refl m 399 (by omega) (by omega), handles_refl l 399 (by omega) (by omega)]
  simp only [Option.bind_some, if_true, bne_self_eq_false, Bool.not_true]
  rw [if_neg (by simp), treillagelaw15_MemDoes.j1, if_neg (by simp)]
  exact others l m x.f1 x.f0 x.f2 x.f3 hlen (by omega) hoth m.length 398 0 (by omega) (by omega) (by omega)

end Go.Proofs.Ytcjkjlopbjijaaa.memDoes
