/-
  A number in 8, 16 or 32 bits lies among these, and is the number itself just if that one does; for every 64-bit number.
-/
import Derived.Test.YthopfipaaboffaaPackM
namespace Go.Proofs.Ythopfipaaboffaa.Pure
set_option linter.unusedVariables false
set_option linter.unusedSimpArgs false
open Go.RowKit Go.Proofs.Ythopfipaaboffaa.PA Go.Proofs.YthopfipaaboffaaW.PrintWords Go.Proofs.YthopfipaaboffaaW.PrintLast Go.Proofs.YthopfipaaboffaaW.PrintMore Go.Proofs.YthopfipaaboffaaH

theorem PackBits : treillagelaw01_PackBits.Pure := by
  intro n w hn hw
  have hn := wf_i64 hn
  have hw := wf_u8 hw
  refine ⟨60, ?_⟩
  have h64 : ∀ x : Int, narrow x 64 = x := fun x => rfl
  have hm : Int.tmod w 3 = w % 3 := Int.tmod_eq_emod_of_nonneg hw.1
  have core : ∀ (b hf : Int), (b = 8 ∧ hf = 128) ∨ (b = 16 ∧ hf = 32768) ∨ (b = 32 ∧ hf = 2147483648) → rd [8, 16, 32] (w % 3) = b → shl .i64 1 (wrap64 (b - 1)) = hf → treillagelaw01_PackBits.f 60 n w = some true := by
    intro b hf hb hr hs
    unfold treillagelaw01_PackBits.f
    simp only [Option.bind_some, hm, hr, hs, narrow_eq, h64, shown_60]
    have hwn : wrap64 (-hf) = -hf := by unfold wrap64; omega
    have h1 : 0 ≤ wrap64 (b - 1) := by unfold wrap64; omega
    have hx : -hf ≤ narrow n b ∧ narrow n b < hf ∧ (narrow n b = n ↔ (-hf ≤ n ∧ n < hf)) := by
      unfold narrow
      rcases hb with ⟨rfl, rfl⟩ | ⟨rfl, rfl⟩ | ⟨rfl, rfl⟩
      · simp only [if_true]; omega
      · rw [if_neg (by decide), if_pos rfl]; omega
      · rw [if_neg (by decide), if_neg (by decide), if_pos rfl]; omega
    have hwx : wrap64 (narrow n b) = narrow n b := by unfold wrap64; omega
    rw [if_pos (by omega), if_pos (by simp only [List.length_cons, List.length_nil]; omega), if_pos h1, hwn, if_pos hx.1, if_pos hx.2.1, hwx]
    by_cases h2 : -hf ≤ n
    · rw [if_pos h2, if_pos, if_pos rfl]
      by_cases h3 : n < hf
      · have := hx.2.2.2 ⟨h2, h3⟩
        rw [show (narrow n b == n) = true from by simpa using this]; simpa using h3
      · have : ¬ narrow n b = n := fun e => h3 (hx.2.2.1 e).2
        rw [show (narrow n b == n) = false from by simpa using this]; simpa using h3
    · rw [if_neg h2, if_pos, if_pos rfl]
      have : ¬ narrow n b = n := fun e => h2 (hx.2.2.1 e).1
      rw [show (narrow n b == n) = false from by simpa using this]; rfl
  have h3 : w % 3 = 0 ∨ w % 3 = 1 ∨ w % 3 = 2 := by omega
  rcases h3 with h3 | h3 | h3
  · exact core 8 128 (by omega) (by rw [h3]; rfl) (by unfold wrap64; rfl)
  · exact core 16 32768 (by omega) (by rw [h3]; rfl) (by unfold wrap64; rfl)
  · exact core 32 2147483648 (by omega) (by rw [h3]; rfl) (by unfold wrap64; rfl)

end Go.Proofs.Ythopfipaaboffaa.Pure
