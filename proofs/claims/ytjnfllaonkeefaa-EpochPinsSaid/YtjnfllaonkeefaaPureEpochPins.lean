/-
  A reader holds what it pinned until it lets it go; while one holds an older epoch nothing moves: the three numbers count by their rests alone, and each of the cases is reckoned.
-/
import Derived.Test.YtjnfllaonkeefaaPPx5
import Derived.Test.YtjnfllaonkeefaaMath
namespace Go.Proofs.Ytjnfllaonkeefaa.Pure
set_option linter.unusedVariables false
set_option linter.unusedSimpArgs false
open Go.RowKit Go.Proofs.Ytjnfllaonkeefaa.PP Go.Proofs.YtjnfllaonkeefaaW.PrintWords Go.Proofs.YtjnfllaonkeefaaW.PrintLast Go.Proofs.YtjnfllaonkeefaaW.PrintMore Go.Proofs.YtjnfllaonkeefaaH

theorem rounds_by_rest {a b : Int} (h : Int.tmod (wrap64 a) 20 = Int.tmod (wrap64 b) 20) : ∀ (k : Nat) (x y z u : Int) (l : List Int) (q : List S64), treillagelaw14_EpochPins.l0 k a x y z u l q = treillagelaw14_EpochPins.l0 k b x y z u l q := by
  intro k
  induction k with
  | zero => intros; rfl
  | succ k ih =>
    intro x y z u l q
    rw [treillagelaw14_EpochPins.l0, treillagelaw14_EpochPins.l0, h]
    simp only [ih]
theorem cases_all : ∀ n ∈ [(1 : Int), 2, 3, 4], ∀ j ∈ [(0 : Int), 1, 2, 3], j < n → ∀ v ∈ (List.range 20).map (fun i : Nat => (i : Int)), ((epoch_New.f n).bind fun bt => treillagelaw14_EpochPins.l0 40 v j 0 0 bt.1 bt.2.1 bt.2.2) = some true := by decide +kernel
theorem EpochPins : treillagelaw14_EpochPins.Pure := by
  intro a0 a1 a2 h0 h1 h2
  have h0 := wf_u8 h0
  have h1 := wf_u8 h1
  have h2 := wf_u8 h2
  refine ⟨40, ?_⟩
  have w0 : wrap64 a0 = a0 := by unfold wrap64; omega
  have w1 : wrap64 a1 = a1 := by unfold wrap64; omega
  have w2 : wrap64 a2 = a2 := by unfold wrap64; omega
  obtain ⟨n, hn⟩ : ∃ n, n = 1 + a0 % 4 := ⟨_, rfl⟩
  have hn4 : 1 ≤ n ∧ n ≤ 4 := by omega
  have hw : wrap64 n = n := by unfold wrap64; omega
  unfold treillagelaw14_EpochPins.f
  rw [w0, Int.tmod_eq_emod_of_nonneg h0.1, ← hn, hw, if_neg (by omega), w1, Int.tmod_eq_emod_of_nonneg h1.1]
  have hj0 : 0 ≤ a1 % n := Int.emod_nonneg _ (by omega)
  have hj1 : a1 % n < n := Int.emod_lt_of_pos _ (by omega)
  obtain ⟨j, hj⟩ : ∃ j, j = a1 % n := ⟨_, rfl⟩
  rw [← hj] at hj0 hj1 ⊢
  have hv : Int.tmod (wrap64 a2) 20 = Int.tmod (wrap64 (a2 % 20)) 20 := by
    have : wrap64 (a2 % 20) = a2 % 20 := by unfold wrap64; omega
    rw [w2, this, Int.tmod_eq_emod_of_nonneg h2.1, Int.tmod_eq_emod_of_nonneg (by omega)]
    omega
  simp only [rounds_by_rest hv]
  refine cases_all n ?_ j ?_ hj1 (a2 % 20) ?_
  · have : n = 1 ∨ n = 2 ∨ n = 3 ∨ n = 4 := by omega
    rcases this with rfl | rfl | rfl | rfl <;> decide
  · have : j = 0 ∨ j = 1 ∨ j = 2 ∨ j = 3 := by omega
    rcases this with rfl | rfl | rfl | rfl <;> decide
  · rw [List.mem_map]
    exact ⟨(a2 % 20).toNat, by rw [List.mem_range]; omega, by omega⟩

end Go.Proofs.Ytjnfllaonkeefaa.Pure
