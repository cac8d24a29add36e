/-
  RecWords, the plain law: the words of any text, and which text any words are, are the document's; texts come back. No condition.
-/
import Derived.Test.YtdjkadfgmhmhcaaRecP
namespace Go.Proofs.Ytdjkadfgmhmhcaa.Pure
set_option linter.unusedVariables false
set_option linter.unusedSimpArgs false
open Go.RowKit Go.Proofs.Ytdjkadfgmhmhcaa.PA Go.Proofs.YtdjkadfgmhmhcaaW.PrintWords Go.Proofs.YtdjkadfgmhmhcaaW.PrintLast Go.Proofs.YtdjkadfgmhmhcaaW.PrintMore Go.Proofs.YtdjkadfgmhmhcaaH

theorem RecWords : treillagelaw11_RecWords.Pure := by
  intro a0 l1 a2 _ _ _ hw hn
  refine ⟨20001, ?_⟩
  have hj : treillagelaw11_RecWords.j0 20001 a0 l1 a2 true = some true := by
    rw [treillagelaw11_RecWords.j0, if_pos rfl, shown_at (by decide)]
    rfl
  unfold treillagelaw11_RecWords.f
  by_cases c1 : (a0.size : Int) > 300
  · rw [if_pos c1]
    exact hj
  · rw [if_neg c1]
    by_cases c2 : (l1.length : Int) > 60
    · rw [if_pos c2]
      exact hj
    · rw [if_neg c2, shown_at (by decide), Option.bind_some, Bool.not_true, treillagelaw11_RecWords.j0, if_neg (by decide)]
      have hu : U64s l1 := fun x hx => wf_u64 (hw x hx)
      have hwl : (wordsL (bytesOf a0)).length = (a0.size + 7) / 8 := by rw [wordsL_len, bytesOf_length]
      rw [text_eq l1 a2 (by omega) _ (by omega), Option.bind_some, refText_eq hu (by omega) a2 _ (by omega), Option.bind_some, words_eq a0 (by omega) _ (by omega), Option.bind_some, text_eq _ _ (by omega) _ (by omega), Option.bind_some, recText_back a0 (by omega), if_pos rfl, if_pos (by simp), refWords_eq a0 (by omega) _ (by omega), Option.bind_some, handles_eq _ _ (by omega) _ (by omega), Option.bind_some, if_pos (decide_eq_true rfl), if_pos rfl]

end Go.Proofs.Ytdjkadfgmhmhcaa.Pure
