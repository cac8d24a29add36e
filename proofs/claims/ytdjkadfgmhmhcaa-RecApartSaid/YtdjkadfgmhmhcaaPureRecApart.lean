
import Derived.Test.YtdjkadfgmhmhcaaRecQ
import Derived.Test.YtdjkadfgmhmhcaaWfRecApart
/-
  RecApart, the plain law: unlike recs have unlike words. No condition.
-/
namespace Go.Proofs.Ytdjkadfgmhmhcaa.recApart
set_option linter.unusedVariables false
set_option linter.unusedSimpArgs false
open Go.RowKit Go.Proofs.Ytdjkadfgmhmhcaa.PA Go.Proofs.Ytdjkadfgmhmhcaa.Pure Go.Proofs.YtdjkadfgmhmhcaaW.PrintWords Go.Proofs.YtdjkadfgmhmhcaaW.PrintLast Go.Proofs.YtdjkadfgmhmhcaaW.PrintMore Go.Proofs.YtdjkadfgmhmhcaaH

theorem pure : ∀ (x0 : S27) (x1 : S27), wf27 x0 → wf27 x1 → ∃ k : Nat, PA.treillagelaw11_RecApart.f k x0.f0 x0.f1 x0.f2 x0.f3 x0.f4 x0.f5.f0 x0.f5.f1 x1.f0 x1.f1 x1.f2 x1.f3 x1.f4 x1.f5.f0 x1.f5.f1 = some true := by
  rintro ⟨k, p, n, t, l, ⟨r, z⟩⟩ ⟨k', p', n', t', l', ⟨r', z'⟩⟩ hwf hwf'
  obtain ⟨w0, w1, w2, w3, ⟨w4, _⟩, w5⟩ := hwf
  obtain ⟨v0, v1, v2, v3, ⟨v4, _⟩, v5⟩ := hwf'
  dsimp only at w4 v4 ⊢
  rw [bytes9] at w4 v4
  refine ⟨l.length + l'.length + 1000, ?_⟩
  have hj : treillagelaw11_RecApart.j0 (l.length + l'.length + 1000) true k p n t l r z k' p' n' t' l' r' z' = some true := by
    rw [treillagelaw11_RecApart.j0, if_pos rfl, shown_at (by omega)]
    rfl
  unfold treillagelaw11_RecApart.f
  rw [bounded_eq _ _ _ _ _ _ _ (by omega) _ (by omega), Option.bind_some, bounded_eq _ _ _ _ _ _ _ (by omega) _ (by omega), Option.bind_some]
  split
  · split
    · unfold rec_May.f
      rw [Option.bind_some, Option.bind_some, shown_at (by omega), Option.bind_some]
      by_cases hm : MayR k p n t l z
      · by_cases hm' : MayR k' p' n' t' l' z'
        · have hq := packL_len (r := r') hm'
          have hfl := flatW_small hm'.hl hm'.hs
          have hl2 := lens2_len l'
          have hn := hm'.hn
          have ht := hm'.ht
          have hlen : (packL k' p' n' t' l' r' z').length ≤ 300 := by rw [hq, hl2]; split <;> omega
          rw [if_pos (may_iff.2 hm), if_pos (may_iff.2 hm'), Bool.not_true, treillagelaw11_RecApart.j0, if_neg (by decide), pack_yes hm, Option.bind_some, pack_yes hm', Option.bind_some, handles_eq _ _ (by dsimp only; omega) _ (by dsimp only; omega), Option.bind_some]
          unfold treillagelaw11_its.f
          rw [Option.bind_some, Option.bind_some, same11_eq (k, p, n, t, l, r, z) (k', p', n', t', l', r', z') (by dsimp only; omega) _ (by dsimp only; omega), Option.bind_some]
          congr 1
          rw [beq_iff_eq, decide_eq_decide]
          constructor
          · intro e
            have h1 := unpack_pack (r := r) hm
            have h2 := unpack_pack (r := r') hm'
            rw [show packL k p n t l r z = packL k' p' n' t' l' r' z' from e] at h1
            rw [h1] at h2
            simp only [Option.some.injEq, Prod.mk.injEq, and_true] at h2 ⊢
            exact h2
          · intro e
            simp only [Prod.mk.injEq] at e
            obtain ⟨rfl, rfl, rfl, rfl, rfl, rfl, rfl⟩ := e
            rfl
        · rw [if_pos (may_iff.2 hm), if_neg (fun e => hm' (may_iff.1 e))]
          exact hj
      · rw [if_neg (fun e => hm (may_iff.1 e))]
        exact hj
    · exact hj
  · exact hj

end Go.Proofs.Ytdjkadfgmhmhcaa.recApart
