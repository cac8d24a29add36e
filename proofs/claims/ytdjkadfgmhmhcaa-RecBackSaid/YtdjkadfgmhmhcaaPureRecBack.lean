
import Derived.Test.YtdjkadfgmhmhcaaRecQ
import Derived.Test.YtdjkadfgmhmhcaaPAx10
import Derived.Test.YtdjkadfgmhmhcaaWfRecBack
/-
  RecBack, the plain law: what is packed is unpacked to the same, and what is unpacked packed. No condition.
-/
namespace Go.Proofs.Ytdjkadfgmhmhcaa.recBack
set_option linter.unusedVariables false
set_option linter.unusedSimpArgs false
open Go.RowKit Go.Proofs.Ytdjkadfgmhmhcaa.PA Go.Proofs.Ytdjkadfgmhmhcaa.Pure Go.Proofs.YtdjkadfgmhmhcaaW.PrintWords Go.Proofs.YtdjkadfgmhmhcaaW.PrintLast Go.Proofs.YtdjkadfgmhmhcaaW.PrintMore Go.Proofs.YtdjkadfgmhmhcaaH

theorem back1 (l1 : List Int) (hl : l1.length ≤ 200) (q : Nat) (hq : 1000 ≤ q) : treillagelaw11_RecBack.j1 (q + 1) l1 = some true := by
  rw [treillagelaw11_RecBack.j1]
  rcases unpack_some l1 (by omega) with ⟨k, p, n, t, a, r, z, h⟩ | h
  · rw [h, Option.bind_some, if_pos rfl]
    dsimp only
    rw [unpack_back h, Option.bind_some, if_pos rfl, handles_eq _ _ (by omega) _ (by omega), Option.bind_some]
    exact congrArg some (decide_eq_true rfl)
  · rw [h, Option.bind_some, if_neg (by decide), if_pos rfl]
    unfold treillagelaw11_its.f
    rw [Option.bind_some]
    have e := same11_eq (0, 0, (⟨#[]⟩ : ByteArray), (⟨#[]⟩ : ByteArray), [], 0, 0) (0, 0, (⟨#[]⟩ : ByteArray), (⟨#[]⟩ : ByteArray), [], 0, 0) (by decide) q (by simp only [List.length_nil]; omega)
    dsimp only at e ⊢
    rw [e, Option.bind_some]
    exact congrArg some (decide_eq_true rfl)
theorem pure : ∀ (x0 : S27) (x1 : List Int), wf27 x0 → (x1.length * Try.prog.bytesOf 23 ≤ 140737488351232 ∧ ∀ y0_ ∈ x1, (Lit.int .u64 y0_).wf = true) → ∃ k : Nat, PA.treillagelaw11_RecBack.f k x0.f0 x0.f1 x0.f2 x0.f3 x0.f4 x0.f5.f0 x0.f5.f1 x1 = some true := by
  rintro ⟨k, p, n, t, l, ⟨r, z⟩⟩ l1 hwf hwf1
  obtain ⟨w0, w1, w2, w3, ⟨w4, _⟩, w5⟩ := hwf
  dsimp only at w4 ⊢
  rw [bytes9] at w4
  refine ⟨l.length + 2000, ?_⟩
  have hj : treillagelaw11_RecBack.j0 (l.length + 2000) l1 true k p n t l r z = some true := by
    rw [treillagelaw11_RecBack.j0, if_pos rfl, shown_at (by omega)]
    rfl
  unfold treillagelaw11_RecBack.f
  rw [bounded_eq _ _ _ _ _ _ _ (by omega) _ (by omega), Option.bind_some]
  split
  · by_cases c2 : (l1.length : Int) > 200
    · rw [if_pos c2]
      exact hj
    · rw [if_neg c2, shown_at (by omega), Option.bind_some, Bool.not_true, treillagelaw11_RecBack.j0, if_neg (by decide)]
      by_cases hm : MayR k p n t l z
      · rw [pack_yes hm, Option.bind_some, if_pos rfl]
        dsimp only
        rw [unpack_pack hm, Option.bind_some, if_pos rfl]
        unfold treillagelaw11_its.f
        rw [Option.bind_some, Option.bind_some]
        have e := same11_eq (k, p, n, t, l, r, z) (k, p, n, t, l, r, z) (by dsimp only; omega) (l.length + 1999) (by dsimp only; omega)
        dsimp only at e ⊢
        rw [e, Option.bind_some, if_pos (decide_eq_true rfl)]
        exact back1 l1 (by omega) (l.length + 1998) (by omega)
      · rw [pack_no hm, Option.bind_some, if_neg (by decide)]
        exact back1 l1 (by omega) (l.length + 1998) (by omega)
  · exact hj

end Go.Proofs.Ytdjkadfgmhmhcaa.recBack
