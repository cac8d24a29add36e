/-
  RecTexts, the plain law: of words just one text of a length is told, and none of a length that needs other words. No condition.
-/
import Derived.Test.YtdjkadfgmhmhcaaRecP
namespace Go.Proofs.Ytdjkadfgmhmhcaa.Pure
set_option linter.unusedVariables false
set_option linter.unusedSimpArgs false
open Go.RowKit Go.Proofs.Ytdjkadfgmhmhcaa.PA Go.Proofs.YtdjkadfgmhmhcaaW.PrintWords Go.Proofs.YtdjkadfgmhmhcaaW.PrintLast Go.Proofs.YtdjkadfgmhmhcaaW.PrintMore Go.Proofs.YtdjkadfgmhmhcaaH

theorem empty_toList : (⟨#[]⟩ : ByteArray).toList = [] := by rw [ByteArray.toList_eq]
theorem RecTexts : treillagelaw11_RecTexts.Pure := by
  intro a0 n _ hn
  have hn2 := wf_i64 hn
  refine ⟨20001, ?_⟩
  unfold treillagelaw11_RecTexts.f
  by_cases c1 : (a0.size : Int) > 300
  · rw [if_pos c1, treillagelaw11_RecTexts.j0, if_pos rfl, shown_at (by decide)]
    rfl
  · have hb := bts_bytesOf a0
    have hl : (bytesOf a0).length = a0.size := bytesOf_length a0
    have hwl : (wordsL (bytesOf a0)).length = (a0.size + 7) / 8 := by rw [wordsL_len, hl]
    have hu := u64s_words hb
    rw [if_neg c1, shown_at (by decide), Option.bind_some, Bool.not_true, treillagelaw11_RecTexts.j0, if_neg (by decide), words_eq a0 (by omega) _ (by omega), Option.bind_some, text_eq _ _ (by omega) _ (by omega), Option.bind_some]
    have hrt := recText_words hu (by omega) n
    obtain ⟨W, hW⟩ : ∃ W, W = wordsL (bytesOf a0) := ⟨_, rfl⟩
    rw [← hW] at hwl hu hrt ⊢
    have hno2 : (¬ (0 ≤ n ∧ n ≤ 8 * (W.length : Int) ∧ wordsL ((List.range n.toNat).map (PA.byteOf W)) = W)) → treillagelaw11_RecTexts.j1 20000 a0 n W (recText W n).1 (recText W n).2 true = some true := by
      intro h
      rw [hrt, if_neg h, treillagelaw11_RecTexts.j1, if_pos rfl, if_neg (by decide)]
      simp only [empty_toList]
      rfl
    by_cases c2 : n < 0
    · rw [if_pos c2]
      exact hno2 (by omega)
    · rw [if_neg c2]
      obtain ⟨m, rfl⟩ : ∃ m : Nat, n = m := ⟨n.toNat, by omega⟩
      rw [Int.toNat_natCast] at hrt hno2
      by_cases cbig : (m : Int) > 1000
      · have hd : (decide ((m : Int) > 1000)) = true := decide_eq_true cbig
        rw [hd]
        have h3 := hno2 (by omega)
        split
        · exact h3
        · rw [if_neg (by omega)]
          exact h3
      · have hd : (decide ((m : Int) > 1000)) = false := decide_eq_false cbig
        have e7 : wrap64 (Int.tdiv (wrap64 ((m : Int) + 7)) 8) = (((m + 7) / 8 : Nat) : Int) := by
          rw [show wrap64 ((m : Int) + 7) = (m : Int) + 7 by unfold wrap64; omega, Int.tdiv_eq_ediv_of_nonneg (by omega)]
          unfold wrap64
          omega
        have hwt := fun h => words_take hu (by omega) m h
        rw [e7, hd]
        by_cases c3 : (((m + 7) / 8 : Nat) : Int) = (W.length : Int)
        · rw [if_pos c3]
          have hm8 : m ≤ 8 * W.length := by omega
          by_cases e : wordsL ((List.range m).map (PA.byteOf W)) = W
          · rw [if_pos ⟨by omega, by omega, e⟩] at hrt
            have hsz : (strOfNums ((List.range m).map (PA.byteOf W))).size = m := by
              rw [← bytesOf_length, bytesOf_strOfNums (bts_range W m)]; simp
            rw [hrt, treillagelaw11_RecTexts.j1, if_neg (by decide), if_pos rfl, if_pos (by rw [hsz])]
            dsimp only
            rw [words_eq _ (by omega) _ (by omega), Option.bind_some, bytesOf_strOfNums (bts_range W m), e, handles_eq _ _ (by omega) _ (by omega), Option.bind_some, decide_eq_true rfl]
          · rw [if_neg (fun q => e q.2.2)] at hrt
            have hlt : m < a0.size := by
              by_cases h : m < a0.size
              · exact h
              · exfalso
                apply e
                refine (hwt hm8).2 ⟨by omega, fun j h1 h2 => ?_⟩
                rw [hW, byteOf_words hb (by omega) j (by omega), List.getD_eq_getElem?_getD, List.getElem?_eq_none (by omega)]
                rfl
            rw [hrt, treillagelaw11_RecTexts.j1, if_neg (by decide), if_neg (by decide), if_pos (by omega)]
            simp only [empty_toList]
            rfl
        · rw [if_neg c3, if_pos (by omega)]
          refine hno2 ?_
          rintro ⟨_, h8, e⟩
          have := ((hwt (by omega)).1 e).1
          omega

end Go.Proofs.Ytdjkadfgmhmhcaa.Pure
