
import Derived.Test.YtooefecjkgdpbaaDoorOpG
import Derived.Test.YtooefecjkgdpbaaDoorPAx12

/-
  Layer 6: its, and Same: two lists of operations are told the same just where they are.
-/
namespace Go.Proofs.YtooefecjkgdpbaaDoor.Pure
set_option linter.unusedVariables false
set_option linter.unusedSimpArgs false
open Go.RowKit Go.Proofs.YtooefecjkgdpbaaDoor.PA Go.Proofs.YtooefecjkgdpbaaDoorW.PrintWords Go.Proofs.YtooefecjkgdpbaaDoorW.PrintLast Go.Proofs.YtooefecjkgdpbaaDoorW.PrintMore Go.Proofs.YtooefecjkgdpbaaDoorH

def toR (o : OpT) : RefT := ⟨o.f0, o.f1, o.f2, o.f3, o.f4, o.f5⟩
theorem rd_at (l : List OpT) (i : Nat) (h : i < l.length) : rd_T23 l (i : Int) = l[i] := by
  unfold rd_T23
  rw [Int.toNat_natCast, List.getD_eq_getElem?_getD, List.getElem?_eq_getElem h]
  rfl
theorem rdR_at (l : List RefT) (i : Nat) (h : i < l.length) : rd_T29 l (i : Int) = l[i] := by
  unfold rd_T29
  rw [Int.toNat_natCast, List.getD_eq_getElem?_getD, List.getElem?_eq_getElem h]
  rfl
theorem its_loop (l : List OpT) (hl : l.length ≤ 2199023255488) : ∀ (m i k : Nat) (out : List RefT), i + m = l.length → m < k → out.length = i → treillagelaw06_its.l0 k l out (i : Int) = some (out ++ (l.drop i).map toR)
  | m, i, 0, out, _, hk, _ => by omega
  | m, i, k + 1, out, hm, hk, ho => by
    rw [treillagelaw06_its.l0]
    by_cases hi : i < l.length
    · rw [if_pos (by omega), if_pos (by omega), if_pos (by omega), rd_at l i hi, show wrap64 ((i : Int) + 1) = ((i + 1 : Nat) : Int) by unfold wrap64; omega]
      rw [its_loop l hl (m - 1) (i + 1) k _ (by omega) (by omega) (by rw [List.length_append]; simp; omega), List.drop_eq_getElem_cons hi, List.map_cons, List.append_assoc]
      rfl
    · rw [if_neg (by omega), List.drop_eq_nil_of_le (by omega)]
      simp
theorem its_eq {k : Nat} (l : List OpT) (hl : l.length ≤ 2199023255488) (hk : l.length + 1 ≤ k) : treillagelaw06_its.f k l = some (l.map toR) := by
  have := its_loop l hl l.length 0 k [] (by omega) (by omega) rfl
  unfold treillagelaw06_its.f
  simpa using this
theorem toR_inj {a b : OpT} (h : toR a = toR b) : a = b := by
  cases a
  cases b
  simp only [toR, S29.mk.injEq] at h
  obtain ⟨rfl, rfl, rfl, rfl, rfl, rfl⟩ := h
  rfl
theorem ne_test (a b : RefT) : ((!(a.f0 == b.f0) || (!(a.f1 == b.f1) || (!(a.f2 == b.f2) || (!(a.f3 == b.f3) || (!(a.f4.toList == b.f4.toList) || !(a.f5.toList == b.f5.toList)))))) = true) ↔ a ≠ b := by
  constructor
  · intro h e
    subst e
    simp at h
  · intro h
    by_cases hh : (!(a.f0 == b.f0) || (!(a.f1 == b.f1) || (!(a.f2 == b.f2) || (!(a.f3 == b.f3) || (!(a.f4.toList == b.f4.toList) || !(a.f5.toList == b.f5.toList)))))) = true
    · exact hh
    · exfalso
      apply h
      simp only [Bool.or_eq_true, Bool.not_eq_true', beq_eq_false_iff_ne, ne_eq, not_or, Decidable.not_not, str_toList_iff] at hh
      obtain ⟨h0, h1, h2, h3, h4, h5⟩ := hh
      cases a
      cases b
      simp only at h0 h1 h2 h3 h4 h5
      subst h0 h1 h2 h3 h4 h5
      rfl
theorem same_loop (a b : List RefT) (hab : a.length = b.length) (hl : a.length ≤ 2199023255488) : ∀ (m i k : Nat), i + m = a.length → m < k → ∃ t, treillageref06_Same.l0 k a b (i : Int) = some t ∧ (t = true ↔ a.drop i = b.drop i)
  | m, i, 0, _, hk => by omega
  | m, i, k + 1, hm, hk => by
    rw [treillageref06_Same.l0]
    by_cases hi : i < a.length
    · rw [if_pos (by omega), if_pos (by omega), if_pos (by omega), rdR_at a i hi, rdR_at b i (by omega)]
      have da := List.drop_eq_getElem_cons hi
      have db := List.drop_eq_getElem_cons (show i < b.length by omega)
      by_cases hne : a[i] = b[i]'(by omega)
      · rw [if_neg (fun h => (ne_test _ _).1 h hne), show wrap64 ((i : Int) + 1) = ((i + 1 : Nat) : Int) by unfold wrap64; omega]
        obtain ⟨t, h1, h2⟩ := same_loop a b hab hl (m - 1) (i + 1) k (by omega) (by omega)
        refine ⟨t, h1, h2.trans ?_⟩
        constructor
        · intro h
          rw [da, db, hne, h]
        · intro h
          rw [da, db] at h
          exact (List.cons.inj h).2
      · rw [if_pos ((ne_test _ _).2 hne)]
        refine ⟨false, rfl, ?_⟩
        rw [da, db]
        constructor
        · intro h
          cases h
        · intro h
          exact absurd (List.cons.inj h).1 hne
    · rw [if_neg (by omega)]
      refine ⟨true, rfl, ?_⟩
      rw [List.drop_eq_nil_of_le (by omega), List.drop_eq_nil_of_le (by omega)]
      simp
theorem sameR_eq {k : Nat} (a b : List RefT) (hl : a.length ≤ 2199023255488) (hk : a.length + 1 ≤ k) : ∃ t, treillageref06_Same.f k a b = some t ∧ (t = true ↔ a = b) := by
  unfold treillageref06_Same.f
  by_cases h : a.length = b.length
  · rw [if_pos (by omega)]
    obtain ⟨t, h1, h2⟩ := same_loop a b h hl a.length 0 k (by omega) (by omega)
    exact ⟨t, h1, by simpa using h2⟩
  · rw [if_neg (by omega)]
    exact ⟨false, rfl, by simp; exact fun e => h (by rw [e])⟩
theorem mapR_inj : ∀ {a b : List OpT}, a.map toR = b.map toR → a = b
  | [], [], _ => rfl
  | [], _ :: _, h => by simp at h
  | _ :: _, [], h => by simp at h
  | x :: a, y :: b, h => by
    simp only [List.map_cons, List.cons.injEq] at h
    rw [toR_inj h.1, mapR_inj h.2]
theorem same_eq {k : Nat} (a b : List OpT) (hl : a.length ≤ 2199023255488) (hk : a.length + 1 ≤ k) : ∃ t, treillageref06_Same.f k (a.map toR) (b.map toR) = some t ∧ (t = true ↔ a = b) := by
  obtain ⟨t, h1, h2⟩ := sameR_eq (k := k) (a.map toR) (b.map toR) (by rw [List.length_map]; omega) (by rw [List.length_map]; omega)
  exact ⟨t, h1, h2.trans ⟨mapR_inj, fun e => by rw [e]⟩⟩
end Go.Proofs.YtooefecjkgdpbaaDoor.Pure
