/-
  Accesses to cells, and rows that are the same: what the laws of mem share.
-/
import Derived.Test.YtcjkjlopbjijaaaPAx2
import Derived.Test.YtcjkjlopbjijaaaMath
namespace Go.Proofs.Ytcjkjlopbjijaaa.Pure
set_option linter.unusedVariables false
set_option linter.unusedSimpArgs false
open Go.RowKit Go.Proofs.Ytcjkjlopbjijaaa.PA Go.Proofs.YtcjkjlopbjijaaaW.PrintWords Go.Proofs.YtcjkjlopbjijaaaW.PrintLast Go.Proofs.YtcjkjlopbjijaaaW.PrintMore Go.Proofs.YtcjkjlopbjijaaaH

theorem shown_at {k : Nat} (hk : 8 ≤ k) : treillagelaw15_shown.f k = some true := at_rounds treillagelaw15_shown.mono hk (by decide +kernel)
theorem handles_from (l : List Int) : ∀ (d k : Nat) (i : Int), 0 ≤ i → i + d = l.length → d + 1 ≤ k → l.length ≤ 4000000000 → treillageref03_Handles.l0 k l l i = some true := by
  intro d
  induction d with
  | zero =>
    intro k i hi he hk hl
    obtain ⟨k, rfl⟩ : ∃ k', k = k' + 1 := ⟨k - 1, by omega⟩
    rw [treillageref03_Handles.l0, if_neg (by omega)]
  | succ d ih =>
    intro k i hi he hk hl
    obtain ⟨k, rfl⟩ : ∃ k', k = k' + 1 := ⟨k - 1, by omega⟩
    rw [treillageref03_Handles.l0, if_pos (by omega), if_pos hi, if_pos (by omega), if_pos rfl, show wrap64 (i + 1) = i + 1 from by unfold wrap64; omega]
    exact ih k (i + 1) (by omega) (by omega) (by omega) hl
theorem handles_refl (l : List Int) (k : Nat) (hk : l.length + 1 ≤ k) (hl : l.length ≤ 4000000000) : treillageref03_Handles.f k l l = some true := by
  unfold treillageref03_Handles.f
  rw [if_pos rfl]
  exact handles_from l l.length k 0 (by omega) (by omega) hk hl
theorem rd_set_self {l : List Int} {i : Int} (h0 : 0 ≤ i) (h1 : i < l.length) (x : Int) : rd (l.set i.toNat x) i = x := by
  unfold rd
  rw [List.getD_eq_getElem?_getD, List.getElem?_set_self (by omega)]
  rfl
theorem rd_set_ne {l : List Int} {i j : Int} (h0 : 0 ≤ i) (hj : 0 ≤ j) (hne : j ≠ i) (x : Int) : rd (l.set i.toNat x) j = rd l j := by
  unfold rd
  rw [List.getD_eq_getElem?_getD, List.getD_eq_getElem?_getD, List.getElem?_set_ne (by omega)]
theorem do_cas {l : List Int} {i o n : Int} (h0 : 0 ≤ i) (h1 : i < l.length) (hl : l.length * 8 ≤ 140737488351232) : mem_Do.f l 3 i o n = if rd l i = o then some (l.set i.toNat n, rd l i, true) else some (l, rd l i, false) := by
  unfold mem_Do.f
  rw [if_neg (by omega), if_neg (by decide)]
  by_cases h : rd l i = o
  · rw [if_neg (fun hh => hh.2 h), if_pos (.inr rfl), if_pos hl, if_pos h]
  · rw [if_pos ⟨rfl, h⟩, if_neg h]
theorem do_load {l : List Int} {i o n : Int} (h0 : 0 ≤ i) (h1 : i < l.length) : mem_Do.f l 1 i o n = some (l, rd l i, true) := by
  unfold mem_Do.f
  rw [if_neg (by omega), if_pos rfl]

end Go.Proofs.Ytcjkjlopbjijaaa.Pure
