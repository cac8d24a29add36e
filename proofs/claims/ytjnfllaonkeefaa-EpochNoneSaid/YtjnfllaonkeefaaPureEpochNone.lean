/-
  What has no handle does not wait, and nothing is told where nothing waits: the rounds of EpochNone.
-/
import Derived.Test.YtjnfllaonkeefaaPAx4
import Derived.Test.YtjnfllaonkeefaaMath
namespace Go.Proofs.Ytjnfllaonkeefaa.Pure
set_option linter.unusedVariables false
set_option linter.unusedSimpArgs false
open Go.RowKit Go.Proofs.Ytjnfllaonkeefaa.PA Go.Proofs.YtjnfllaonkeefaaW.PrintWords Go.Proofs.YtjnfllaonkeefaaW.PrintLast Go.Proofs.YtjnfllaonkeefaaW.PrintMore Go.Proofs.YtjnfllaonkeefaaH

theorem mx_eq (a b : Int) : mx a b = max a b := by unfold mx; split <;> omega
theorem mn_eq (a b : Int) : mn a b = min a b := by unfold mn; split <;> omega
theorem new_eq (a : Int) : ∃ n : Nat, n ≤ 4 ∧ epoch_New.f a = some (0, List.replicate n 0, []) := by
  refine ⟨(mx 0 (mn a 4)).toNat, ?_, ?_⟩
  · rw [mx_eq, mn_eq]; omega
  · unfold epoch_New.f
    rw [if_pos (by rw [mx_eq]; omega), if_pos (by rw [mx_eq, mn_eq]; omega)]
theorem may_zeros (now : Int) (n : Nat) (l : List S64) : epoch_May.f now (List.replicate n 0) l = some true := by
  unfold epoch_May.f
  simp [pinMay]
theorem advance_nil (k : Nat) (now : Int) (n : Nat) (h0 : 0 ≤ now) (h1 : now < 1000) : epoch_Advance.f (k + 1) now (List.replicate n 0) [] = some (now + 1, List.replicate n 0, [], [], [], true) := by
  unfold epoch_Advance.f
  rw [may_zeros]
  simp only [Option.bind_some, if_true]
  rw [wraps_u64 (now + 1) (by omega) (by omega)]
  simp [epoch_Advance.l0]
theorem EpochNone : treillagelaw14_EpochNone.Pure := by
  intro a0 a1 h0 h1
  have h1 := wf_u8 h1
  have hm : 0 ≤ Int.tmod (wrap64 a1) 50 ∧ Int.tmod (wrap64 a1) 50 < 50 := by
    have : wrap64 a1 = a1 := by unfold wrap64; omega
    rw [this, Int.tmod_eq_emod_of_nonneg h1.1]
    omega
  obtain ⟨n, hn, hnew⟩ := new_eq a0
  have key : ∀ (d : Nat) (i : Int), 0 ≤ i → i + d = Int.tmod (wrap64 a1) 50 → treillagelaw14_EpochNone.l0 (d + 2) a1 i i (List.replicate n 0) [] = some true := by
    intro d
    induction d with
    | zero =>
      intro i hi he
      rw [treillagelaw14_EpochNone.l0]
      rw [if_neg (by omega), if_pos (by rfl), if_pos (by rw [show wrap64 i = i from by unfold wrap64; omega]; omega), if_pos (by rw [List.length_replicate]; omega)]
      rfl
    | succ d ih =>
      intro i hi he
      rw [show d + 1 + 2 = (d + 2) + 1 from rfl, treillagelaw14_EpochNone.l0]
      rw [if_pos (by omega), advance_nil (d + 1) i n hi (by omega)]
      simp only [Option.bind_some, if_true, wraps_u64 (i + 1) (by omega) (by omega), List.length_nil]
      rw [if_pos (by unfold wrap64; omega), show wrap64 (i + 1) = i + 1 from by unfold wrap64; omega]
      exact ih (i + 1) (by omega) (by omega)
  refine ⟨(Int.tmod (wrap64 a1) 50).toNat + 2, ?_⟩
  unfold treillagelaw14_EpochNone.f
  rw [hnew]
  simp only [Option.bind_some]
  rw [show epoch_Retire.f 0 (List.replicate n 0) [] [] [] = some (0, List.replicate n 0, []) from rfl]
  simp only [Option.bind_some]
  exact key _ 0 (by omega) (by omega)

end Go.Proofs.Ytjnfllaonkeefaa.Pure
