/-
  RecTells, the plain law: whether any rec may be, its words, and which rec any words are, is the document's, or its error. No condition.
-/
import Derived.Test.YtdjkadfgmhmhcaaRecWT
import Derived.Test.YtdjkadfgmhmhcaaPTx12
import Derived.Test.YtdjkadfgmhmhcaaWfRecTells
namespace Go.Proofs.Ytdjkadfgmhmhcaa.recTells
set_option linter.unusedVariables false
set_option linter.unusedSimpArgs false
open Go.RowKit Go.Proofs.Ytdjkadfgmhmhcaa.PT Go.Proofs.Ytdjkadfgmhmhcaa.PureT Go.Proofs.YtdjkadfgmhmhcaaW.PrintWords Go.Proofs.YtdjkadfgmhmhcaaW.PrintLast Go.Proofs.YtdjkadfgmhmhcaaW.PrintMore Go.Proofs.YtdjkadfgmhmhcaaH

theorem pure : ∀ (x0 : S27) (x1 : List Int), wf27 x0 → (x1.length * Try.prog.bytesOf 23 ≤ 140737488351232 ∧ ∀ y0_ ∈ x1, (Lit.int .u64 y0_).wf = true) → ∃ k : Nat, PT.treillagelaw11_RecTells.f k x0.f0 x0.f1 x0.f2 x0.f3 x0.f4 x0.f5.f0 x0.f5.f1 x1 = some true := by
  rintro ⟨k, p, n, t, l, ⟨r, z⟩⟩ l1 hwf hwf1
  obtain ⟨w0, w1, w2, w3, ⟨w4, _⟩, w5⟩ := hwf
  dsimp only at w4 ⊢
  rw [bytes9] at w4
  have hu : U64s l1 := fun x hx => wf_u64 (hwf1.2 x hx)
  refine ⟨l.length + 4000, ?_⟩
  have hj : treillagelaw11_RecTells.j0 (l.length + 4000) l1 true k p n t l r z = some true := by
    rw [treillagelaw11_RecTells.j0, if_pos rfl, shown_at (by omega)]
    rfl
  unfold treillagelaw11_RecTells.f
  rw [bounded_eq _ _ _ _ _ _ _ (by omega) _ (by omega), Option.bind_some]
  split
  · by_cases c2 : (l1.length : Int) > 200
    · rw [if_pos c2]
      exact hj
    · rw [if_neg c2, shown_at (by omega), Option.bind_some, Bool.not_true, treillagelaw11_RecTells.j0, if_neg (by decide)]
      obtain ⟨m, e, hp, hml, hrp⟩ := tells_pack k p n t l r z (by omega)
      obtain ⟨X, hx, hxl, hrx⟩ := tells_unpack hu (by omega)
      have hm : rec_May.f k p n t l r z = some (recMay k p n t l z) := rfl
      have hi : ∀ a b c d e f g, treillagelaw11_its.f a b c d e f g = some (a, b, c, d, e, f, g) := fun _ _ _ _ _ _ _ => rfl
      simp only [hp, hi, hx, hm, Option.bind_some]
      rw [hrp _ (by omega), Option.bind_some, hrx _ (by omega), Option.bind_some, refMay_eq _ _ _ _ _ _ _ (by omega) _ (by omega), Option.bind_some, if_pos (by simp)]
      dsimp only
      rw [handles_eq _ _ (by omega) _ (by omega), Option.bind_some, if_pos (decide_eq_true rfl), if_pos rfl]
      have e7 := same11_eq (X.1, X.2.1, X.2.2.1, X.2.2.2.1, X.2.2.2.2.1, X.2.2.2.2.2.1, X.2.2.2.2.2.2.1) (X.1, X.2.1, X.2.2.1, X.2.2.2.1, X.2.2.2.2.1, X.2.2.2.2.2.1, X.2.2.2.2.2.2.1) (by dsimp only; omega) (l.length + 3999) (by dsimp only; omega)
      dsimp only at e7
      rw [e7, Option.bind_some, if_pos (decide_eq_true rfl)]
      simp
  · exact hj

end Go.Proofs.Ytdjkadfgmhmhcaa.recTells
