/-
  Of a handle the index stays when its generation turns, and each generation comes once before the first one comes again; for every 64-bit handle and up to 255 turns.
-/
import Derived.Test.YthopfipaaboffaaPackM
namespace Go.Proofs.Ythopfipaaboffaa.Pure
set_option linter.unusedVariables false
set_option linter.unusedSimpArgs false
open Go.RowKit Go.Proofs.Ythopfipaaboffaa.PA Go.Proofs.YthopfipaaboffaaW.PrintWords Go.Proofs.YthopfipaaboffaaW.PrintLast Go.Proofs.YthopfipaaboffaaW.PrintMore Go.Proofs.YthopfipaaboffaaH

/-- The handle behind n turns. -/
def turned (h : Int) (n : Int) : Int := (h / 16777216 + n) % 1099511627776 * 16777216 + h % 16777216
theorem turned_zero {h : Int} (hh : 0 ≤ h ∧ h < 18446744073709551616) : turned h 0 = h := by unfold turned; omega
theorem turned_step {h n : Int} : nextH (turned h n) = turned h (n + 1) := by
  unfold nextH turned
  have : ((h / 16777216 + n) % 1099511627776 * 16777216 + h % 16777216) / 16777216 = (h / 16777216 + n) % 1099511627776 := by omega
  rw [this]
  omega
theorem turned_range {h n : Int} : 0 ≤ turned h n ∧ turned h n < 18446744073709551616 := by unfold turned; omega
theorem turns_loop {h m : Int} (hh : 0 ≤ h ∧ h < 18446744073709551616) (hm : 0 ≤ m ∧ m < 256) (d : Nat) : ∀ (k : Nat) (i : Int), 0 ≤ i → i ≤ m → m - i = d → d + 61 ≤ k →
    treillagelaw01_PackTurns.l0 k h m (turned h i) i = some true := by
  induction d with
  | zero =>
    intro k i h0 h1 hd hk
    obtain ⟨k, rfl⟩ : ∃ j, k = j + 1 := ⟨k - 1, by omega⟩
    have hi : i = m := by omega
    subst hi
    simp only [treillagelaw01_PackTurns.l0]
    rw [if_neg (by unfold wrap64; omega), shown_k (by omega), if_pos]
    · rfl
    · by_cases h2 : i = 0
      · subst h2; rw [turned_zero hh]; simp
      · have : ¬ turned h i = h := by unfold turned; omega
        rw [show (i == 0) = false from by simpa using h2, show (turned h i == h) = false from by simpa using this]; rfl
  | succ d ih =>
    intro k i h0 h1 hd hk
    obtain ⟨k, rfl⟩ : ∃ j, k = j + 1 := ⟨k - 1, by omega⟩
    simp only [treillagelaw01_PackTurns.l0]
    rw [if_pos (by unfold wrap64; omega), next_eq turned_range]
    simp only [Option.bind_some, turned_step, index_eq (turned_range (h := h) (n := i + 1)), index_eq hh, gen_eq]
    rw [if_neg (by unfold turned; omega), if_pos (by unfold turned; omega), if_pos]
    · have := ih k (i + 1) (by omega) (by omega) (by omega) (by omega)
      rw [show wrap64 (i + 1) = i + 1 from by unfold wrap64; omega]
      exact this
    · rw [IntKind.wrap_u64, Int.tmod_eq_emod_of_nonneg (by omega)]
      unfold turned
      omega
theorem PackTurns : treillagelaw01_PackTurns.Pure := by
  intro h m hh hm
  have hh := wf_u64 hh
  have hm := wf_u8 hm
  refine ⟨m.toNat + 61, ?_⟩
  unfold treillagelaw01_PackTurns.f
  have := turns_loop hh hm m.toNat (m.toNat + 61) 0 (by omega) hm.1 (by omega) (by omega)
  rw [turned_zero hh] at this
  exact this

end Go.Proofs.Ythopfipaaboffaa.Pure
