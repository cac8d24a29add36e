/-
  The laws' own helpers over recs: what is bounded, and which recs are the same, in plain words.
-/
import Derived.Test.YtdjkadfgmhmhcaaRecPT
import Derived.Test.YtdjkadfgmhmhcaaPTx2
import Derived.Test.YtdjkadfgmhmhcaaPTx9
import Derived.Test.YtdjkadfgmhmhcaaPTx11
namespace Go.Proofs.Ytdjkadfgmhmhcaa.PureT
set_option linter.unusedVariables false
set_option linter.unusedSimpArgs false
open Go.RowKit Go.Proofs.Ytdjkadfgmhmhcaa.PT Go.Proofs.YtdjkadfgmhmhcaaW.PrintWords Go.Proofs.YtdjkadfgmhmhcaaW.PrintLast Go.Proofs.YtdjkadfgmhmhcaaW.PrintMore Go.Proofs.YtdjkadfgmhmhcaaH

def boundedB (n t : ByteArray) (l : List ByteArray) : Bool := l.all (fun s => decide (s.size ≤ 100)) && (decide (n.size ≤ 100) && (decide (t.size ≤ 100) && decide (l.length ≤ 30)))
theorem bounded_loop (a b : Int) (n t : ByteArray) (l : List ByteArray) (c d : Int) (hl : l.length ≤ 140737488351232) : ∀ m i k, i + m = l.length → m < k → (l.take i).all (fun s => decide (s.size ≤ 100)) = true → treillagelaw11_bounded.l0 k (i : Int) a b n t l c d = some (boundedB n t l) := by
  intro m
  induction m with
  | zero =>
    intro i k hi hk ha
    obtain ⟨k, rfl⟩ : ∃ q, k = q + 1 := ⟨k - 1, by omega⟩
    rw [List.take_of_length_le (by omega)] at ha
    rw [treillagelaw11_bounded.l0, if_neg (by omega)]
    unfold boundedB
    rw [ha, Bool.true_and]
    by_cases h1 : n.size ≤ 100
    · rw [if_pos (by omega), decide_eq_true h1, Bool.true_and]
      by_cases h2 : t.size ≤ 100
      · rw [if_pos (by omega), decide_eq_true h2, Bool.true_and]
        congr 1
        rw [decide_eq_decide]
        omega
      · rw [if_neg (by omega), decide_eq_false h2, Bool.false_and]
    · rw [if_neg (by omega), decide_eq_false h1, Bool.false_and]
  | succ m ih =>
    intro i k hi hk ha
    obtain ⟨k, rfl⟩ : ∃ q, k = q + 1 := ⟨k - 1, by omega⟩
    have hx : rdOf ByteArray.empty l (i : Int) = l[i] := by rw [rdOf_nat, List.getD_eq_getElem?_getD, List.getElem?_eq_getElem (show i < l.length by omega)]; rfl
    rw [treillagelaw11_bounded.l0, if_pos (by omega), if_pos (by omega), hx]
    by_cases h : (l[i].size : Int) > 100
    · rw [if_pos h]
      unfold boundedB
      have : l.all (fun s => decide (s.size ≤ 100)) = false := by
        rw [List.all_eq_false]
        exact ⟨l[i], List.getElem_mem _, by simp; omega⟩
      rw [this, Bool.false_and]
    · rw [if_neg h, show wrap64 ((i : Int) + 1) = ((i + 1 : Nat) : Int) by unfold wrap64; omega]
      refine ih (i + 1) k (by omega) (by omega) ?_
      rw [List.take_add_one, List.getElem?_eq_getElem (show i < l.length by omega), List.all_append, ha]
      simp
      omega
theorem bounded_eq (a b : Int) (n t : ByteArray) (l : List ByteArray) (c d : Int) (hl : l.length ≤ 140737488351232) (k : Nat) (hk : l.length < k) : treillagelaw11_bounded.f k a b n t l c d = some (boundedB n t l) := by
  unfold treillagelaw11_bounded.f
  exact bounded_loop a b n t l c d hl l.length 0 k (by omega) hk rfl
theorem may_bounded {k p : Int} {n t : ByteArray} {l : List ByteArray} {z : Int} (h : MayR k p n t l z) : boundedB n t l = true := by
  obtain ⟨h1, h2, h3, h4, h5, h6, h7, h8⟩ := h
  unfold boundedB
  have : l.all (fun s => decide (s.size ≤ 100)) = true := by
    rw [List.all_eq_true]
    intro s hs
    have := h7 s hs
    exact decide_eq_true (by omega)
  rw [this, decide_eq_true (show n.size ≤ 100 by omega), decide_eq_true (show t.size ≤ 100 by omega), decide_eq_true (show l.length ≤ 30 by omega)]
  rfl
theorem sameTexts_loop (a b : List ByteArray) (hab : a.length = b.length) (hl : a.length ≤ 140737488351232) : ∀ m i k, i + m = a.length → m < k → treillageref11_SameTexts.l0 k a b (i : Int) = some (decide (a.drop i = b.drop i)) := by
  intro m
  induction m with
  | zero =>
    intro i k hi hk
    obtain ⟨k, rfl⟩ : ∃ q, k = q + 1 := ⟨k - 1, by omega⟩
    rw [treillageref11_SameTexts.l0, if_neg (by omega), List.drop_eq_nil_of_le (by omega), List.drop_eq_nil_of_le (by omega), decide_eq_true rfl]
  | succ m ih =>
    intro i k hi hk
    obtain ⟨k, rfl⟩ : ∃ q, k = q + 1 := ⟨k - 1, by omega⟩
    have hw : wrap64 ((i : Int) + 1) = ((i + 1 : Nat) : Int) := by unfold wrap64; omega
    have ha : i < a.length := by omega
    have hb : i < b.length := by omega
    have xa : rdOf ByteArray.empty a (i : Int) = a[i] := by rw [rdOf_nat, List.getD_eq_getElem?_getD, List.getElem?_eq_getElem ha]; rfl
    have xb : rdOf ByteArray.empty b (i : Int) = b[i] := by rw [rdOf_nat, List.getD_eq_getElem?_getD, List.getElem?_eq_getElem hb]; rfl
    rw [treillageref11_SameTexts.l0, if_pos (by omega), if_pos (by omega), if_pos (by omega), hw, xa, xb, List.drop_eq_getElem_cons ha, List.drop_eq_getElem_cons hb]
    by_cases e : a[i] = b[i]
    · rw [if_pos ((str_toList_iff _ _).2 e), ih (i + 1) k (by omega) (by omega), e]
      simp only [List.cons.injEq, true_and]
    · rw [if_neg (fun h => e ((str_toList_iff _ _).1 h)), decide_eq_false (by intro h; injection h with h1 _; exact e h1)]
theorem sameTexts_eq (a b : List ByteArray) (hl : a.length ≤ 140737488351232) (k : Nat) (hk : a.length < k) : treillageref11_SameTexts.f k a b = some (decide (a = b)) := by
  unfold treillageref11_SameTexts.f
  by_cases h : a.length = b.length
  · rw [if_pos (by omega)]
    have h2 := sameTexts_loop a b h hl a.length 0 k (by omega) hk
    rw [List.drop_zero, List.drop_zero] at h2
    exact h2
  · rw [if_neg (by omega), decide_eq_false (by intro e; exact h (by rw [e]))]
abbrev R7 := Int × Int × ByteArray × ByteArray × List ByteArray × Int × Int
theorem same11_eq (a b : R7) (hl : a.2.2.2.2.1.length ≤ 140737488351232) (k : Nat) (hk : a.2.2.2.2.1.length < k) : treillageref11_Same.f k a.1 a.2.1 a.2.2.1 a.2.2.2.1 a.2.2.2.2.1 a.2.2.2.2.2.1 a.2.2.2.2.2.2 b.1 b.2.1 b.2.2.1 b.2.2.2.1 b.2.2.2.2.1 b.2.2.2.2.2.1 b.2.2.2.2.2.2 = some (decide (a = b)) := by
  obtain ⟨a0, a1, a2, a3, a4, a5, a6⟩ := a
  obtain ⟨b0, b1, b2, b3, b4, b5, b6⟩ := b
  dsimp only at hl hk ⊢
  unfold treillageref11_Same.f
  by_cases c0 : a0 = b0
  · by_cases c1 : a1 = b1
    · by_cases c2 : a2 = b2
      · by_cases c3 : a3 = b3
        · by_cases c5 : a5 = b5 ∧ a6 = b6
          · rw [if_pos c0, if_pos c1, if_pos ((str_toList_iff _ _).2 c2), if_pos ((str_toList_iff _ _).2 c3), if_pos (by simp [c5.1, c5.2]), sameTexts_eq a4 b4 hl k hk]
            simp [c0, c1, c2, c3, c5.1, c5.2]
          · rw [if_pos c0, if_pos c1, if_pos ((str_toList_iff _ _).2 c2), if_pos ((str_toList_iff _ _).2 c3), if_neg (by simpa using c5), decide_eq_false (by simp only [Prod.mk.injEq]; rintro ⟨_, _, _, _, _, h1, h2⟩; exact c5 ⟨h1, h2⟩)]
        · rw [if_pos c0, if_pos c1, if_pos ((str_toList_iff _ _).2 c2), if_neg (fun h => c3 ((str_toList_iff _ _).1 h)), decide_eq_false (by simp only [Prod.mk.injEq]; rintro ⟨_, _, _, h1, _⟩; exact c3 h1)]
      · rw [if_pos c0, if_pos c1, if_neg (fun h => c2 ((str_toList_iff _ _).1 h)), decide_eq_false (by simp only [Prod.mk.injEq]; rintro ⟨_, _, h1, _⟩; exact c2 h1)]
    · rw [if_pos c0, if_neg c1, decide_eq_false (by simp only [Prod.mk.injEq]; rintro ⟨_, h1, _⟩; exact c1 h1)]
  · rw [if_neg c0, decide_eq_false (by simp only [Prod.mk.injEq]; rintro ⟨h1, _⟩; exact c0 h1)]

end Go.Proofs.Ytdjkadfgmhmhcaa.PureT
